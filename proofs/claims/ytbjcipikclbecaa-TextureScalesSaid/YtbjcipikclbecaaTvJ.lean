/- TextureNests: spans within, and the law. -/
import Derived.Test.YtbjcipikclbecaaTvH
import Derived.Test.YtbjcipikclbecaaTvI
import Derived.Test.YtbjcipikclbecaaRdPt5
namespace Go.LI.Fl
open Go Go.LI Ieee
set_option linter.unusedVariables false
set_option maxRecDepth 100000
set_option exponentiation.threshold 2500
end Go.LI.Fl
namespace Go.LI.Film
open Go.Proofs.Ytbjcipikclbecaa Go Go.Proofs Go.LI Go.LI.Fl
set_option linter.unusedVariables false
set_option linter.unusedSimpArgs false
set_option maxRecDepth 100000
set_option exponentiation.threshold 2500

section
variable {R : Type} {O : Ora R}
abbrev VRWi (O : Ora R) : Prop := ∀ (x y : Nat), x < 2 ^ 64 → y < 2 ^ 64 → ∀ (G : GH) (k : IV → GH → Option R), O fn_ref02_Wide [S2 x y] G k = k (.bool (wideS x y)) G
theorem vRWi {F n : Nat} (hn : 2 ≤ n) : VRWi (runC (R := R) Try.prog lo0 F n) := by
  obtain ⟨n, rfl⟩ : ∃ j, n = j + 1 := ⟨n - 1, by omega⟩
  have hN := wQNumber (R := R) (F := F) (n := n) (by omega)
  intro x y hx hy G k
  unfold wideS
  rw [show fn_ref02_Wide = 34 from rfl, r_ref02_Wide, e_ref02_Wide, hN x hx, ivB]
  cases fin x with
  | false => rfl
  | true => rw [Bool.not_true, cond_false, hN y hy, ivB]; rfl
/-- What lies in a span that may be. -/
structure Vd (x y : Nat) : Prop where
  nx : num x
  ny : num y
  le : sv x ≤ sv y
  hi : sv x < MI
  lo : -MI < sv y
abbrev VVal (O : Ora R) : Prop := ∀ (x y : Nat), x < 2 ^ 64 → y < 2 ^ 64 → ∃ b : Bool, (∀ (G : GH) (k : IV → GH → Option R), O fn_ref02_Valid [S2 x y] G k = k (.bool b) G) ∧ (b = true → Vd x y)
theorem valV_body (hI : SQInf O) (hM : SQMin O) {F x y : Nat} (hx : x < 2 ^ 64) (hy : y < 2 ^ 64) : ∃ b : Bool, (∀ (G : GH) (k : IV → GH → Option R), bodyC Try.prog O [1, 777777] F Try.f13 [S2 x y] G k = k (.bool b) G) ∧ (b = true → Vd x y) := by
  cases h1 : fle .f64 x y with
  | false => exact ⟨false, fun G k => by rw [e_ref02_Valid, h1, cond_false], fun h => by cases h⟩
  | true =>
    cases h2 : (!feq .f64 x 9218868437227405312) with
    | false => exact ⟨false, fun G k => by rw [e_ref02_Valid, h1, cond_true, hI, ivF, h2, cond_false], fun h => by cases h⟩
    | true =>
      cases h3 : (!feq .f64 y 18442240474082181120) with
      | false => exact ⟨false, fun G k => by rw [e_ref02_Valid, h1, cond_true, hI, ivF, h2, cond_true, hI, ivF, neg_inf, h3, cond_false], fun h => by cases h⟩
      | true =>
        obtain ⟨b4, h4⟩ := hM x
        obtain ⟨b5, h5⟩ := hM y
        have key : Vd x y := by
          have hn : rg dbl x ≤ 9218868437227405312 ∧ rg dbl y ≤ 9218868437227405312 := by
            by_cases h : rg dbl x ≤ 9218868437227405312 ∧ rg dbl y ≤ 9218868437227405312
            · exact h
            · have e2 : (FloatKind.format .f64).order x y = none := order_nan h
              unfold fle at h1
              rw [e2] at h1
              cases h1
          have nx : num x := ⟨hx, hn.1⟩
          have ny : num y := ⟨hy, hn.2⟩
          rw [fle_sv nx ny, decide_eq_true_eq] at h1
          rw [feq_sv nx inf_num, sv_pinf, MI_eq] at h2
          rw [feq_sv ny ninf_num, sv_ninf, MI_eq] at h3
          simp only [Bool.not_eq_true', decide_eq_false_iff_not] at h2 h3
          have := num_sv nx
          have := num_sv ny
          exact ⟨nx, ny, h1, by omega, by omega⟩
        cases b4 with
        | true => exact ⟨false, fun G k => by rw [e_ref02_Valid, h1, cond_true, hI, ivF, h2, cond_true, hI, ivF, neg_inf, h3, cond_true, h4, ivB, Bool.not_true, cond_false], fun h => by cases h⟩
        | false => exact ⟨!b5, fun G k => by rw [e_ref02_Valid, h1, cond_true, hI, ivF, h2, cond_true, hI, ivF, neg_inf, h3, cond_true, h4, ivB, Bool.not_false, cond_true, h5, ivB], fun _ => key⟩
theorem vVal {F n : Nat} (hn : 3 ≤ n) : VVal (runC (R := R) Try.prog lo0 F n) := by
  obtain ⟨n, rfl⟩ : ∃ j, n = j + 1 := ⟨n - 1, by omega⟩
  intro x y hx hy
  obtain ⟨b, h1, h2⟩ := valV_body (O := runC (R := R) Try.prog lo0 F n) (wQInf (by omega)) (wQMin (by omega)) (F := F) hx hy
  have e : fn_ref02_Valid = 13 := rfl
  exact ⟨b, fun G k => by rw [e, r_ref02_Valid]; exact h1 G k, h2⟩
/-! ### The law -/
theorem long_of {n m : Nat} {ps : List Pi} {qs : List Pc} {G : GH} (hl : qs.length = ps.length) (hP : ∀ (i : Nat) (q : Pc) (p : Pi), qs[i]? = some q → ps[i]? = some p → PxV G q p) (h : longB n m qs = false) : n ≤ 100 ∧ m ≤ 10 ∧ pxSmall ps := by
  simp only [longB, Bool.or_eq_false_iff, decide_eq_false_iff_not, List.any_eq_false, decide_eq_true_eq] at h
  obtain ⟨g1, g2, g3⟩ := h
  refine ⟨by omega, by omega, fun p hp => ?_⟩
  obtain ⟨i, hi⟩ := List.getElem?_of_mem hp
  have hil : i < qs.length := by rw [hl]; exact (List.getElem?_eq_some_iff.1 hi).1
  have := hP i _ p (List.getElem?_eq_getElem hil) hi
  have h3 := g3 _ (List.getElem_mem hil)
  rw [this.len]
  omega
theorem grd_list {G : GH} {a : Option GA} {n : Nat} {ts : List Tx} (hT : RL tcs G a n ts) (hB : n = 0 → a = none ∨ ∃ b e, a = some ⟨b, 0⟩ ∧ BL G b [] e) : grdO (gnew G [] 52) a n 8 = some ((ts.map tcs).flatten) := by
  rcases Nat.eq_zero_or_pos n with h0 | h0
  · subst h0
    have ht : ts = [] := List.length_eq_zero_iff.1 hT.1
    subst ht
    rcases hB rfl with rfl | ⟨b, e, rfl, hb⟩
    · rfl
    · exact (hb.keep (keeps_new G [] 52 (Nat.le_refl _)) hb.lt).grd (by simp)
  · obtain ⟨b, e, rfl, hb⟩ := hT.2 h0
    exact (hb.keep (keeps_new G [] 52 (Nat.le_refl _)) hb.lt).grd (by rw [recs_len tcs_length, hT.1])
theorem evV_ok {ps : List Pi} {u0 u1 v0 v1 : Nat} {ts : List Tx} (hp : ∀ p ∈ ps, Pi.w' p) (ht : TsW ts) (n : Int) : (evV ps u0 u1 v0 v1 ts n).ok := by
  unfold evV
  cases (evE ts ps.length n == 0) with
  | false => exact Vl.ok_nil
  | true =>
    rw [cond_true]
    unfold evAll
    refine vl_okD (evRun_ok hp ht _ _ _ ?_) _
    intro v hv
    rw [List.mem_replicate] at hv
    rw [hv.2]
    exact Vl.ok_nil
end
end Go.LI.Film

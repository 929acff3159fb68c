/- TextureNests: spans within, and the law. -/
import Derived.Test.YtbjcipikclbecaaGreatTvH
import Derived.Test.YtbjcipikclbecaaGreatTvI
set_option linter.unusedVariables false
set_option maxRecDepth 100000
set_option exponentiation.threshold 2500
set_option linter.unusedSimpArgs false
namespace Go.LI.Fl
open Go Go.LI Ieee
end Go.LI.Fl
namespace Go.LI.Film
open Go.Proofs.YtbjcipikclbecaaGreat Go Go.Proofs Go.LI Go.LI.Fl
section
variable {R : Type} {O : Ora R}
structure Vd (x y : Nat) : Prop where
  nx : num x
  ny : num y
  le : sv x ≤ sv y
  hi : sv x < MI
  lo : -MI < sv y
abbrev zJV (O : Ora R) : Prop := ∀ (x y : Nat), x < 2 ^ 64 → y < 2 ^ 64 → ∃ b : Bool, (∀ (G : GH) (k : IV → GH → Option R), O zfB [S2 x y] G k = k (.bool b) G) ∧ (b = true → Vd x y)
theorem zCY (hI : zG1 O) (hM : zGZ O) {F x y : Nat} (hx : x < 2 ^ 64) (hy : y < 2 ^ 64) : ∃ b : Bool, (∀ (G : GH) (k : IV → GH → Option R), zf Tryz.prog O [1, 777777] F Tryz.f6 [S2 x y] G k = k (.bool b) G) ∧ (b = true → Vd x y) := by
  cases h1 : fle .f64 x y with
  | false => exact ⟨false, fun G k => by rw [zd0, h1, cond_false], fun h => by cases h⟩
  | true =>
    cases h2 : (!feq .f64 x 9218868437227405312) with
    | false => exact ⟨false, fun G k => by rw [zd0, h1, cond_true, hI, ivF, h2, cond_false], fun h => by cases h⟩
    | true =>
      cases h3 : (!feq .f64 y 18442240474082181120) with
      | false => exact ⟨false, fun G k => by rw [zd0, h1, cond_true, hI, ivF, h2, cond_true, hI, ivF, zq4, h3, cond_false], fun h => by cases h⟩
      | true =>
        obtain ⟨b4, h4⟩ := hM x
        obtain ⟨b5, h5⟩ := hM y
        have key : Vd x y := by
          have hn : rg dbl x ≤ 9218868437227405312 ∧ rg dbl y ≤ 9218868437227405312 := by
            by_cases h : rg dbl x ≤ 9218868437227405312 ∧ rg dbl y ≤ 9218868437227405312
            · exact h
            · have e2 : (FloatKind.format .f64).order x y = none := zyn h
              unfold fle at h1
              rw [e2] at h1
              cases h1
          have nx : num x := ⟨hx, hn.1⟩
          have ny : num y := ⟨hy, hn.2⟩
          rw [zxF nx ny, decide_eq_true_eq] at h1
          rw [zzX nx zGh, zFv, zA8] at h2
          rw [zzX ny zDG, zFR, zA8] at h3
          simp only [Bool.not_eq_true', decide_eq_false_iff_not] at h2 h3
          have := zEM nx
          have := zEM ny
          exact ⟨nx, ny, h1, by omega, by omega⟩
        cases b4 with
        | true => exact ⟨false, fun G k => by rw [zd0, h1, cond_true, hI, ivF, h2, cond_true, hI, ivF, zq4, h3, cond_true, h4, ivB, Bool.not_true, cond_false], fun h => by cases h⟩
        | false => exact ⟨!b5, fun G k => by rw [zd0, h1, cond_true, hI, ivF, h2, cond_true, hI, ivF, zq4, h3, cond_true, h4, ivB, Bool.not_false, cond_true, h5, ivB], fun _ => key⟩
theorem zJI {F n : Nat} (hn : 3 ≤ n) : zJV (runC (R := R) Tryz.prog lo0 F n) := by
  obtain ⟨n, rfl⟩ : ∃ j, n = j + 1 := ⟨n - 1, by omega⟩
  intro x y hx hy
  obtain ⟨b, h1, h2⟩ := zCY (O := runC (R := R) Tryz.prog lo0 F n) (zEm (by omega)) (zIl (by omega)) (F := F) hx hy
  have e : zfB = 6 := rfl
  exact ⟨b, fun G k => by rw [e, zvG]; exact h1 G k, h2⟩
theorem zFG {n m : Nat} {ps : List Pi} {qs : List Pc} {G : GH} (hl : qs.length = ps.length) (hP : ∀ (i : Nat) (q : Pc) (p : Pi), qs[i]? = some q → ps[i]? = some p → PxV G q p) (h : zw1 n m qs = false) : n ≤ 100 ∧ m ≤ 10 ∧ zyz ps := by
  simp only [zw1, Bool.or_eq_false_iff, decide_eq_false_iff_not, List.any_eq_false, decide_eq_true_eq] at h
  obtain ⟨g1, g2, g3⟩ := h
  refine ⟨by omega, by omega, fun p hp => ?_⟩
  obtain ⟨i, hi⟩ := List.getElem?_of_mem hp
  have hil : i < qs.length := by rw [hl]; exact (List.getElem?_eq_some_iff.1 hi).1
  have := hP i _ p (List.getElem?_eq_getElem hil) hi
  have h3 := g3 _ (List.getElem_mem hil)
  rw [this.len]
  omega
theorem zEf {G : GH} {a : Option GA} {n : Nat} {ts : List Tx} (hT : RL tcs G a n ts) (hB : n = 0 → a = none ∨ ∃ b e, a = some ⟨b, 0⟩ ∧ BL G b [] e) : zHl (zac G [] 47) a n 8 = some ((ts.map tcs).flatten) := by
  rcases Nat.eq_zero_or_pos n with h0 | h0
  · subst h0
    have ht : ts = [] := List.length_eq_zero_iff.1 hT.1
    subst ht
    rcases hB rfl with rfl | ⟨b, e, rfl, hb⟩
    · rfl
    · exact (hb.keep (zaM G [] 47 (Nat.le_refl _)) hb.lt).grd (by simp)
  · obtain ⟨b, e, rfl, hb⟩ := hT.2 h0
    exact (hb.keep (zaM G [] 47 (Nat.le_refl _)) hb.lt).grd (by rw [zfU zqE, hT.1])
end
end Go.LI.Film

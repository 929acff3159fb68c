/- Middles, distances, means: program and reference. -/
import Derived.Test.YtmhoddmenfondaaRdZc
import Derived.Test.YtmhoddmenfondaaRdPs
import Derived.Test.YtmhoddmenfondaaRdN3
namespace Go.LI.Fl
open Go Go.LI Ieee
set_option linter.unusedVariables false
set_option maxRecDepth 100000
theorem nearest_word (s : Bool) (m : Nat) (e : Int) : num (dbl.nearest s m e) := by
  obtain ⟨r, h1, _⟩ := nearest_spec dbl (by rw [dbl_B]) s m e
  rw [dbl_inf] at h1
  rw [h1]
  exact ⟨word_lt64 (by omega), by rw [rg_word' (by omega)]; omega⟩
def half (x : Nat) : Nat := ((FloatKind.format .f64).div x 4611686018427387904).getD 0
theorem half_num {x : Nat} (h : fin x = true) : (FloatKind.format .f64).div x 4611686018427387904 = some (half x) ∧ num (half x) := by
  have hx : rg dbl x < 9218868437227405312 := of_decide_eq_true h
  obtain ⟨i, m, h1, h2⟩ := read_num hx
  obtain ⟨j, n, k1, k2⟩ := read_num (x := 4611686018427387904) (by decide)
  have hn : n ≠ 0 := by
    intro hc
    rw [hc, Nat.zero_mul] at k2
    exact absurd ((mag_zero dbl).1 k2.symm) (by decide)
  have hd : (FloatKind.format .f64).div x 4611686018427387904 = ((dbl.read x).quotient (dbl.fractionBits + 2) (dbl.read 4611686018427387904)).map dbl.write := rfl
  rw [h1, k1] at hd
  simp only [Datum.quotient] at hd
  rw [if_neg hn] at hd
  simp only [Option.map_some, Format.write] at hd
  unfold half
  rw [hd]
  exact ⟨rfl, nearest_word _ _ _⟩
theorem neg_num {x : Nat} (h : num x) : num (Op.negFloat .f64 x) := by
  have hr : rg dbl x < 2 ^ 63 := by have := h.2; omega
  have h1 := negFloat_word (k := .f64) (s := sg dbl x) (r := rg dbl x) (by rw [show FloatKind.f64.format = dbl from rfl, dbl_sw]; exact hr)
  rw [show FloatKind.f64.format = dbl from rfl, word_self h.1] at h1
  rw [h1]
  exact ⟨word_lt64 hr, by rw [rg_word' hr]; exact h.2⟩
theorem clean_fin_rg {x : Nat} (h : clean x) : (if rg dbl x = 0 then 0 else x) = x := by
  by_cases h0 : rg dbl x = 0
  · rw [if_pos h0]
    have : sv x = 0 := by rw [sv_sgn, h0, (mag_zero dbl).2 rfl]; unfold sgn; simp
    exact (h.2 this).symm
  · rw [if_neg h0]
def plainW (x : Nat) : Nat := if rg dbl x = 0 then 0 else x
theorem clean_plain {x : Nat} (h : num x) : clean (plainW x) := by
  unfold plainW
  by_cases h0 : rg dbl x = 0
  · rw [if_pos h0]; exact clean_zero
  · rw [if_neg h0]
    have := clean_word (s := sg dbl x) h0 h.2
    rwa [word_self h.1] at this

/-- The middle of a span, and how far its ends are. -/
def midM (a b : Nat) : Nat := if (fin a && fin b) = true then minW (maxW (addV (half a) (half b) true) a) b else 0
def midF (a b : Nat) : Nat := if (fin a && fin b) = true then maxW (addV b (Op.negFloat .f64 (midM a b)) false) (addV (midM a b) (Op.negFloat .f64 a) false) else infW
def offV (a b x : Nat) : Nat := if (fin a && fin b) = true then maxW (addV b (Op.negFloat .f64 x) false) (addV x (Op.negFloat .f64 a) false) else infW
theorem clean_midM {a b : Nat} (ha : clean a) (hb : clean b) : clean (midM a b) := by
  unfold midM
  split
  · exact clean_min (clean_max (clean_addV _ _ _) ha) hb
  · exact clean_zero
theorem clean_midF (a b : Nat) : clean (midF a b) := by
  unfold midF
  split
  · exact clean_max (clean_addV _ _ _) (clean_addV _ _ _)
  · exact clean_inf
theorem clean_offV (a b x : Nat) : clean (offV a b x) := by
  unfold offV
  split
  · exact clean_max (clean_addV _ _ _) (clean_addV _ _ _)
  · exact clean_inf
end Go.LI.Fl
namespace Go.LI.Film
open Go.Proofs.Ytmhoddmenfondaa Go Go.Proofs Go.LI Go.LI.Fl
set_option linter.unusedVariables false
set_option linter.unusedSimpArgs false
set_option maxRecDepth 100000
def six6 (b0 b1 b2 b3 b4 b5 : Nat) : Nat → Nat
  | 0 => b0 | 1 => b1 | 2 => b2 | 3 => b3 | 4 => b4 | 5 => b5 | _ => 0
def cntW (c : Int) : Nat := plainW (FloatKind.nearest .f64 c)
/-- The mean of a pixel. -/
def meanA (p : Px) : Nat → Nat := if p.c < 1 then fun _ => 0 else six6 (quoL (p.a 0) (p.a 1) (cntW p.c) (cntW p.c)) (quoH (p.a 0) (p.a 1) (cntW p.c) (cntW p.c)) (quoL (p.a 2) (p.a 3) (cntW p.c) (cntW p.c)) (quoH (p.a 2) (p.a 3) (cntW p.c) (cntW p.c)) (quoL (p.a 4) (p.a 5) (cntW p.c) (cntW p.c)) (quoH (p.a 4) (p.a 5) (cntW p.c) (cntW p.c))
/-- A pixel whose spans are spans of numbers, and that has not too many samples. -/
def PxN (p : Px) : Prop := (∀ i, num (p.a i)) ∧ p.c ≤ 9007199254740992
theorem clean_mean (p : Px) (i : Nat) : clean (meanA p i) := by
  unfold meanA
  split
  · exact clean_zero
  · unfold six6
    split <;> first | exact clean_quoL _ _ _ _ | exact clean_quoH _ _ _ _ | exact clean_zero
theorem cnt_fin {c : Int} (h1 : 1 ≤ c) (h2 : c ≤ 9007199254740992) : FloatKind.nearest .f64 c < 2 ^ 64 ∧ fin (FloatKind.nearest .f64 c) = true := by
  obtain ⟨m, rfl⟩ : ∃ m : Nat, c = m := ⟨c.toNat, by omega⟩
  obtain ⟨q1, q2⟩ := nat_word (m := m) (by omega)
  rw [q1]
  generalize floorR (m * 2 ^ 1074) = z at q2
  refine ⟨by omega, decide_eq_true ?_⟩
  rw [(rg_small (r := z) (by omega)).1]
  exact q2
theorem fin_num2 {x : Nat} (h : x < 2 ^ 64) (hf : fin x = true) : num x := ⟨h, Nat.le_of_lt (of_decide_eq_true hf)⟩
theorem cnt_num {c : Int} (h1 : 1 ≤ c) (h2 : c ≤ 9007199254740992) : num (cntW c) := by
  obtain ⟨q1, q2⟩ := cnt_fin h1 h2
  exact (clean_plain (fin_num2 q1 q2)).1

section
variable {R : Type}
abbrev SOf (O : Ora R) : Prop := ∀ (x : Nat), x < 2 ^ 64 → fin x = true → ∀ (G : GH) (k : IV → GH → Option R), O fn_zH1 [.float .f64 x] G k = k (SP (plainW x) (plainW x)) G
abbrev SROf (O : Ora R) : Prop := ∀ (x : Nat), x < 2 ^ 64 → fin x = true → ∀ (G : GH) (k : IV → GH → Option R), O fn_zJ1 [.float .f64 x] G k = k (SP (plainW x) (plainW x)) G
abbrev SMid (O : Ora R) : Prop := ∀ (a b : Nat), clean a → clean b → ∀ (G : GH) (k : IV → GH → Option R), O fn_zl1 [SP a b] G k = k (.tuple [.float .f64 (midM a b), .float .f64 (midF a b)]) G
abbrev SRMid (O : Ora R) : Prop := ∀ (a b : Nat), clean a → clean b → ∀ (G : GH) (k : IV → GH → Option R), O fn_zp1 [SP a b] G k = k (.tuple [.float .f64 (midM a b), .float .f64 (midF a b)]) G
abbrev SOff (O : Ora R) : Prop := ∀ (a b x : Nat), clean a → clean b → num x → ∀ (G : GH) (k : IV → GH → Option R), O fn_zm1 [SP a b, .float .f64 x] G k = k (.float .f64 (offV a b x)) G
abbrev SROff (O : Ora R) : Prop := ∀ (a b x : Nat), clean a → clean b → num x → ∀ (G : GH) (k : IV → GH → Option R), O fn_zq1 [SP a b, .float .f64 x] G k = k (.float .f64 (offV a b x)) G
abbrev SRGreatest (O : Ora R) : Prop := ∀ (a b : Nat), clean a → clean b → ∀ (G : GH) (k : IV → GH → Option R), O fn_zL [.float .f64 a, .float .f64 b] G k = k (.float .f64 (maxW a b)) G
abbrev SRLeast (O : Ora R) : Prop := ∀ (a b : Nat), clean a → clean b → ∀ (G : GH) (k : IV → GH → Option R), O fn_zN1 [.float .f64 a, .float .f64 b] G k = k (.float .f64 (minW a b)) G
abbrev SMean (O : Ora R) : Prop := ∀ (p : Px), PxN p → ∀ (G : GH) (k : IV → GH → Option R), O fn_zg1 [.agg (pcs p)] G k = k (F6 (meanA p)) G
abbrev SRMean (O : Ora R) : Prop := ∀ (p : Px), PxN p → ∀ (G : GH) (k : IV → GH → Option R), O fn_zv1 [.agg (pcs p)] G k = k (F6 (meanA p)) G
abbrev SROver (O : Ora R) : Prop := ∀ (a : Nat → Nat) (c : Nat), (∀ i, num (a i)) → num c → ∀ (G : GH) (k : IV → GH → Option R), O fn_zI1 [F6 a, SP c c] G k = k (F6 (six6 (quoL (a 0) (a 1) c c) (quoH (a 0) (a 1) c c) (quoL (a 2) (a 3) c c) (quoH (a 2) (a 3) c c) (quoL (a 4) (a 5) c c) (quoH (a 4) (a 5) c c))) G

theorem wRGreatest {F n : Nat} (hn : 1 ≤ n) : SRGreatest (runC (R := R) Try.prog lo0 F n) := by
  obtain ⟨n, rfl⟩ : ∃ j, n = j + 1 := ⟨n - 1, by omega⟩
  intro a b ha hb G k
  rw [r_zL, e_zL, fgt_sv ha.1 hb.1, ← greatest_max ha hb]
  by_cases h : sv b < sv a
  · rw [decide_eq_true h, cond_true, if_pos h]
  · rw [decide_eq_false h, cond_false, if_neg h]
theorem wRLeast {F n : Nat} (hn : 1 ≤ n) : SRLeast (runC (R := R) Try.prog lo0 F n) := by
  obtain ⟨n, rfl⟩ : ∃ j, n = j + 1 := ⟨n - 1, by omega⟩
  intro a b ha hb G k
  rw [r_zN1, e_zN1, flt_sv ha.1 hb.1, ← least_min ha hb]
  by_cases h : sv a < sv b
  · rw [decide_eq_true h, cond_true, if_pos h]
  · rw [decide_eq_false h, cond_false, if_neg h]
theorem wOf {F n : Nat} (hF : 1 ≤ F) (hn : 5 ≤ n) : SOf (runC (R := R) Try.prog lo0 F n) := by
  obtain ⟨n, rfl⟩ : ∃ j, n = j + 5 := ⟨n - 5, by omega⟩
  intro x hx hf G k
  have hn := fin_num2 hx hf
  have ha : (FloatKind.format .f64).add x 0 = some (plainW x) := add_zero' hx hn.2
  rw [r_zH1, e_zH1, wNumber hF (by omega) x hx, ivB, hf, Bool.not_true, cond_false, ha, Option.bind_some, Option.bind_some]
theorem wROf {F n : Nat} (hn : 3 ≤ n) : SROf (runC (R := R) Try.prog lo0 F n) := by
  obtain ⟨n, rfl⟩ : ∃ j, n = j + 3 := ⟨n - 3, by omega⟩
  intro x hx hf G k
  have hn := fin_num2 hx hf
  rw [r_zJ1, e_zJ1, wRNumber (by omega) x hx, ivB, hf, Bool.not_true, cond_false, wRZeroed (by omega) x hx hn.2, ivF, wRZeroed (by omega) x hx hn.2, ivF]
  rfl
theorem addV_eq (x y : Nat) (d : Bool) : (if (fin x && fin y) = true then addR x y d else 0) = addV x y d := rfl
theorem mid_body {O : Ora R} {F : Nat} (hW : SWide O) (hI : SInf O) (hA : SAdd O) {a b : Nat} (ha : clean a) (hb : clean b) (G : GH) (k : IV → GH → Option R) :
    bodyC Try.prog O [1, 777777] F Try.f51 [SP a b] G k = k (.tuple [.float .f64 (midM a b), .float .f64 (midF a b)]) G := by
  rw [e_zl1, hW a b ha.1 hb.1, ivB]
  cases hf : (fin a && fin b) with
  | false =>
    rw [Bool.not_false, cond_true, (hI G _).1, ivF]
    unfold midM midF
    rw [hf, if_neg (by simp), if_neg (by simp)]
    rfl
  | true =>
    have hf2 := hf
    rw [Bool.and_eq_true] at hf2
    obtain ⟨d1, n1⟩ := half_num hf2.1
    obtain ⟨d2, n2⟩ := half_num hf2.2
    have cm := clean_midM ha hb
    have hm : midM a b = minW (maxW (addV (half a) (half b) true) a) b := by unfold midM; rw [hf, if_pos rfl]
    have hz : (FloatKind.format .f64).add (midM a b) 0 = some (midM a b) := by
      have h : (FloatKind.format .f64).add (midM a b) 0 = some (if rg dbl (midM a b) = 0 then 0 else midM a b) := add_zero' cm.1.1 cm.1.2
      rw [h, clean_fin_rg cm]
    rw [Bool.not_true, cond_false, d1, Option.bind_some, d2, Option.bind_some, hA _ _ _ n1.1 n2.1, pairFI, addV_eq, fmax_clean (clean_addV _ _ _) ha, Option.bind_some, fmin_clean (clean_max (clean_addV _ _ _) ha) hb, Option.bind_some, ← hm,
      hA _ _ _ hb.1.1 (neg_num cm.1).1, pairFI, addV_eq, hA _ _ _ cm.1.1 (neg_num ha.1).1, pairFI, addV_eq, hz, Option.bind_some, fmax_clean (clean_addV _ _ _) (clean_addV _ _ _), Option.bind_some]
    unfold midF
    rw [hf, if_pos rfl]
theorem wMid {F n : Nat} (hF : 1 ≤ F) (hn : 10 ≤ n) : SMid (runC (R := R) Try.prog lo0 F n) := by
  obtain ⟨n, rfl⟩ : ∃ j, n = j + 10 := ⟨n - 10, by omega⟩
  obtain ⟨F, rfl⟩ : ∃ F', F = F' + 1 := ⟨F - 1, by omega⟩
  intro a b ha hb G k
  rw [r_zl1]
  exact mid_body (wWide (by omega) (by omega)) (wInf (by omega)) (wAdd (by omega) (by omega)) ha hb G k
theorem rmid_body {O : Ora R} {F : Nat} (hW : SRWide O) (hI : SRInf O) (hA : SRAdd O) (hGr : SRGreatest O) (hLe : SRLeast O) {a b : Nat} (ha : clean a) (hb : clean b) (G : GH) (k : IV → GH → Option R) :
    bodyC Try.prog O [1, 777777] F Try.f59 [SP a b] G k = k (.tuple [.float .f64 (midM a b), .float .f64 (midF a b)]) G := by
  rw [e_zp1, hW a b ha.1.1 hb.1.1, ivB]
  cases hf : (fin a && fin b) with
  | false =>
    rw [Bool.not_false, cond_true, hI, ivF]
    unfold midM midF
    rw [hf, if_neg (by simp), if_neg (by simp)]
    rfl
  | true =>
    have hf2 := hf
    rw [Bool.and_eq_true] at hf2
    obtain ⟨d1, n1⟩ := half_num hf2.1
    obtain ⟨d2, n2⟩ := half_num hf2.2
    have cm := clean_midM ha hb
    have hm : midM a b = minW (maxW (addV (half a) (half b) true) a) b := by unfold midM; rw [hf, if_pos rfl]
    rw [Bool.not_true, cond_false, d1, Option.bind_some, d2, Option.bind_some, hA _ _ _ n1.1 n2.1, pairFI, addV_eq, hGr _ _ (clean_addV _ _ _) ha, ivF, hLe _ _ (clean_max (clean_addV _ _ _) ha) hb, ivF, ← hm,
      hA _ _ _ hb.1.1 (neg_num cm.1).1, pairFI, addV_eq, hA _ _ _ cm.1.1 (neg_num ha.1).1, pairFI, addV_eq, hGr _ _ (clean_addV _ _ _) (clean_addV _ _ _), ivF]
    unfold midF
    rw [hf, if_pos rfl]
theorem wRMid {F n : Nat} (hF : 1100 ≤ F) (hn : 7 ≤ n) : SRMid (runC (R := R) Try.prog lo0 F n) := by
  obtain ⟨n, rfl⟩ : ∃ j, n = j + 7 := ⟨n - 7, by omega⟩
  intro a b ha hb G k
  rw [r_zp1]
  exact rmid_body (wRWide (by omega)) (wRInf (by omega)) (wRAdd hF (by omega)) (wRGreatest (by omega)) (wRLeast (by omega)) ha hb G k
theorem off_body {O : Ora R} {F : Nat} (hW : SWide O) (hI : SInf O) (hA : SAdd O) {a b x : Nat} (ha : clean a) (hb : clean b) (hx : num x) (G : GH) (k : IV → GH → Option R) :
    bodyC Try.prog O [2, 777777] F Try.f52 [SP a b, .float .f64 x] G k = k (.float .f64 (offV a b x)) G := by
  rw [e_zm1, hW a b ha.1 hb.1, ivB]
  unfold offV
  cases hf : (fin a && fin b) with
  | false => rw [Bool.not_false, cond_true, (hI G _).1, ivF, if_neg (by simp)]; rfl
  | true => rw [Bool.not_true, cond_false, hA _ _ _ hb.1.1 (neg_num hx).1, pairFI, addV_eq, hA _ _ _ hx.1 (neg_num ha.1).1, pairFI, addV_eq, fmax_clean (clean_addV _ _ _) (clean_addV _ _ _), Option.bind_some, if_pos rfl]
theorem wOff {F n : Nat} (hF : 1 ≤ F) (hn : 10 ≤ n) : SOff (runC (R := R) Try.prog lo0 F n) := by
  obtain ⟨n, rfl⟩ : ∃ j, n = j + 10 := ⟨n - 10, by omega⟩
  obtain ⟨F, rfl⟩ : ∃ F', F = F' + 1 := ⟨F - 1, by omega⟩
  intro a b x ha hb hx G k
  rw [r_zm1]
  exact off_body (wWide (by omega) (by omega)) (wInf (by omega)) (wAdd (by omega) (by omega)) ha hb hx G k
theorem roff_body {O : Ora R} {F : Nat} (hW : SRWide O) (hI : SRInf O) (hA : SRAdd O) (hGr : SRGreatest O) {a b x : Nat} (ha : clean a) (hb : clean b) (hx : num x) (G : GH) (k : IV → GH → Option R) :
    bodyC Try.prog O [2, 777777] F Try.f61 [SP a b, .float .f64 x] G k = k (.float .f64 (offV a b x)) G := by
  rw [e_zq1, hW a b ha.1.1 hb.1.1, ivB]
  unfold offV
  cases hf : (fin a && fin b) with
  | false => rw [Bool.not_false, cond_true, hI, ivF, if_neg (by simp)]; rfl
  | true => rw [Bool.not_true, cond_false, hA _ _ _ hb.1.1 (neg_num hx).1, pairFI, addV_eq, hA _ _ _ hx.1 (neg_num ha.1).1, pairFI, addV_eq, hGr _ _ (clean_addV _ _ _) (clean_addV _ _ _), ivF, if_pos rfl]
theorem wROff {F n : Nat} (hF : 1100 ≤ F) (hn : 7 ≤ n) : SROff (runC (R := R) Try.prog lo0 F n) := by
  obtain ⟨n, rfl⟩ : ∃ j, n = j + 7 := ⟨n - 7, by omega⟩
  intro a b x ha hb hx G k
  rw [r_zq1]
  exact roff_body (wRWide (by omega)) (wRInf (by omega)) (wRAdd hF (by omega)) (wRGreatest (by omega)) ha hb hx G k
theorem over_body {O : Ora R} {F : Nat} (hD : SRSpanDiv O) {a : Nat → Nat} {c : Nat} (ha : ∀ i, num (a i)) (hc : num c) (G : GH) (k : IV → GH → Option R) :
    bodyC Try.prog O [2, 3, 4, 777777] F Try.f57 [F6 a, SP c c] G k = k (F6 (six6 (quoL (a 0) (a 1) c c) (quoH (a 0) (a 1) c c) (quoL (a 2) (a 3) c c) (quoH (a 2) (a 3) c c) (quoL (a 4) (a 5) c c) (quoH (a 4) (a 5) c c))) G := by
  obtain ⟨G1, q1⟩ := hD (a 0) (a 1) c c (ha 0) (ha 1) hc hc (gfreeze G)
  obtain ⟨G2, q2⟩ := hD (a 2) (a 3) c c (ha 2) (ha 3) hc hc (gfreeze G)
  obtain ⟨G3, q3⟩ := hD (a 4) (a 5) c c (ha 4) (ha 5) hc hc (gfreeze G)
  unfold F6
  rw [e_zI1, q1, SP_open, q2, SP_open, q3, SP_open]
  rfl
theorem wROver {F n : Nat} (hF : 1100 ≤ F) (hn : 9 ≤ n) : SROver (runC (R := R) Try.prog lo0 F n) := by
  obtain ⟨n, rfl⟩ : ∃ j, n = j + 9 := ⟨n - 9, by omega⟩
  intro a c ha hc G k
  have h := over_body (F := F) (wRSpanDiv (R := R) (F := F) (n := n + 8) hF (by omega)) ha hc G k
  unfold F6 at h ⊢
  rw [r_zI1]
  exact h
theorem mean_body {O : Ora R} {F : Nat} (hO : SOf O) (hD : SSpanDiv O) {p : Px} (hp : PxN p) (G : GH) (k : IV → GH → Option R) :
    bodyC Try.prog O [1, 2, 3, 777777] F Try.f27 [.agg (pcs p)] G k = k (F6 (meanA p)) G := by
  unfold pcs
  rw [e_zg1]
  unfold meanA
  by_cases h : p.c < 1
  · rw [decide_eq_true h, cond_true, if_pos h]; rfl
  · obtain ⟨q1, q2⟩ := cnt_fin (c := p.c) (by omega) hp.2
    have q3 := cnt_num (c := p.c) (by omega) hp.2
    have hd := fun i j => fun G k => hD (p.a i) (p.a j) (cntW p.c) (cntW p.c) (hp.1 i) (hp.1 j) q3 q3 G k
    rw [decide_eq_false h, cond_false, if_neg h, hO _ q1 q2, SP_open]
    unfold cntW at hd ⊢
    rw [hd 0 1, SP_open, hd 2 3, SP_open, hd 4 5, SP_open]
    rfl
theorem wMean {F n : Nat} (hF : 8 ≤ F) (hn : 11 ≤ n) : SMean (runC (R := R) Try.prog lo0 F n) := by
  obtain ⟨n, rfl⟩ : ∃ j, n = j + 11 := ⟨n - 11, by omega⟩
  intro p hp G k
  have h := mean_body (F := F) (wOf (R := R) (F := F) (n := n + 10) (by omega) (by omega)) (wSpanDiv hF (by omega)) hp G k
  unfold pcs at h ⊢
  rw [r_zg1]
  exact h
theorem rmean_body {O : Ora R} {F : Nat} (hO : SROf O) (hD : SROver O) {p : Px} (hp : PxN p) (G : GH) (k : IV → GH → Option R) :
    bodyC Try.prog O [1, 2, 777777] F Try.f30 [.agg (pcs p)] G k = k (F6 (meanA p)) G := by
  unfold pcs
  rw [e_zv1]
  unfold meanA
  by_cases h : p.c < 1
  · rw [decide_eq_true h, cond_true, if_pos h]; rfl
  · obtain ⟨q1, q2⟩ := cnt_fin (c := p.c) (by omega) hp.2
    have q3 := cnt_num (c := p.c) (by omega) hp.2
    have hd := fun G k => hD p.a (cntW p.c) hp.1 q3 G k
    rw [decide_eq_false h, cond_false, if_neg h, hO _ q1 q2, SP_open]
    have ho := fun f => F6_open (β := R) (six6 (quoL (p.a 0) (p.a 1) (cntW p.c) (cntW p.c)) (quoH (p.a 0) (p.a 1) (cntW p.c) (cntW p.c)) (quoL (p.a 2) (p.a 3) (cntW p.c) (cntW p.c)) (quoH (p.a 2) (p.a 3) (cntW p.c) (cntW p.c)) (quoL (p.a 4) (p.a 5) (cntW p.c) (cntW p.c)) (quoH (p.a 4) (p.a 5) (cntW p.c) (cntW p.c))) f
    unfold F6 at hd
    unfold cntW at hd ho ⊢
    rw [hd]
    exact ho _
theorem wRMean {F n : Nat} (hF : 1100 ≤ F) (hn : 10 ≤ n) : SRMean (runC (R := R) Try.prog lo0 F n) := by
  obtain ⟨n, rfl⟩ : ∃ j, n = j + 10 := ⟨n - 10, by omega⟩
  intro p hp G k
  have h := rmean_body (F := F) (wROf (R := R) (F := F) (n := n + 9) (by omega)) (wROver hF (by omega)) hp G k
  unfold pcs at h ⊢
  rw [r_zv1]
  exact h
end
end Go.LI.Film

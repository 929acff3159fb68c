/- Opposites, differences, products and meets of spans; valid spans: program and reference. -/
import Derived.Test.YtalpjkeiaeobdaaGreatRdZc
import Derived.Test.YtalpjkeiaeobdaaGreatTxA
import Derived.Test.YtalpjkeiaeobdaaGreatSlA
namespace Go.LI.Film
open Go.Proofs.YtalpjkeiaeobdaaGreat Go Go.Proofs Go.LI Go.LI.Fl Ieee
set_option linter.unusedVariables false
set_option linter.unusedSimpArgs false
set_option maxRecDepth 100000
set_option exponentiation.threshold 2500

theorem num_word' {n : Bool} {r : Nat} (h : r ≤ 9218868437227405312) : num (dbl.word n r) := by
  have hlt : r < dbl.signWeight := by rw [dbl_sw]; omega
  refine ⟨?_, by rw [rg_word dbl hlt]; exact h⟩
  have := (word_split dbl (neg := n) hlt).2.2
  rw [dbl_sw] at this
  omega
theorem num_nearest' (n : Bool) (m : Nat) (e : Int) : num (dbl.nearest n m e) := by
  unfold Format.nearest
  split
  · exact num_word' (Nat.zero_le _)
  · refine num_word' ?_
    rw [dbl_inf]
    exact Nat.min_le_right _ _
theorem sub0 {x : Nat} (hx : num x) : ∃ y, (FloatKind.format .f64).sub 0 x = some y ∧ num y := by
  show ∃ y, dbl.sub 0 x = some y ∧ num y
  have hz : dbl.read 0 = .number false 0 (-1074) := by decide +kernel
  rcases Nat.lt_or_ge (rg dbl x) 9218868437227405312 with h | h
  · obtain ⟨i, m, h1, h2⟩ := read_num h
    unfold Format.sub
    rw [h1, hz]
    simp only [Datum.opposite, Datum.sum, Option.map_some, Format.write]
    split
    · exact ⟨_, rfl, num_nearest' _ _ _⟩
    · exact ⟨_, rfl, num_nearest' _ _ _⟩
  · unfold Format.sub
    have hr : rg dbl x = 9218868437227405312 := by have := hx.2; omega
    rw [read_infty hx.1 hr, hz]
    simp only [Datum.opposite, Datum.sum, Option.map_some, Format.write]
    refine ⟨_, rfl, num_word' ?_⟩
    rw [dbl_inf]
    exact Nat.le_refl _
def ngW (x : Nat) : Nat := ((FloatKind.format .f64).sub 0 x).getD 0
theorem ng_some {x : Nat} (hx : num x) : (FloatKind.format .f64).sub 0 x = some (ngW x) ∧ num (ngW x) := by
  obtain ⟨y, h1, h2⟩ := sub0 hx
  unfold ngW
  rw [h1]
  exact ⟨rfl, h2⟩
theorem lowA_num (a b : Nat) : num (lowA a b) := by
  unfold lowA
  split
  · exact (clean_seal _ _ _).1
  · exact clean_ninf.1
theorem highA_num (a b : Nat) : num (highA a b) := by
  unfold highA
  split
  · exact (clean_seal _ _ _).1
  · exact clean_inf.1

def minusB (x : Nat) : Bool := bif feq .f64 x 0 then (x : Int) != 0 else false
def validS (lo hi : Nat) : Bool := bif fle .f64 lo hi then (bif !feq .f64 lo 9218868437227405312 then (bif !feq .f64 hi (Op.negFloat .f64 9218868437227405312) then (bif !minusB lo then !minusB hi else false) else false) else false) else false
theorem valid_num {a b : Nat} (ha : a < 2 ^ 64) (hb : b < 2 ^ 64) (h : validS a b = true) : num a ∧ num b := by
  have h1 : fle .f64 a b = true := by
    cases h1 : fle .f64 a b with
    | true => rfl
    | false => unfold validS at h; rw [h1, cond_false] at h; cases h
  by_cases hc : rg dbl a ≤ 9218868437227405312 ∧ rg dbl b ≤ 9218868437227405312
  · exact ⟨⟨ha, hc.1⟩, hb, hc.2⟩
  · have e : (FloatKind.format .f64).order a b = none := order_nan hc
    unfold fle at h1
    rw [e] at h1
    cases h1

section
variable {R : Type}
abbrev SRMinusB (O : Ora R) : Prop := ∀ (x : Nat) (G : GH) (k : IV → GH → Option R), O fn_ref02_minus [.float .f64 x] G k = k (.bool (minusB x)) G
abbrev SRValidS (O : Ora R) : Prop := ∀ (a b : Nat) (G : GH) (k : IV → GH → Option R), O fn_ref02_Valid [SP a b] G k = k (.bool (validS a b)) G
abbrev SRSame2 (O : Ora R) : Prop := ∀ (a b : Nat) (G : GH) (k : IV → GH → Option R), O fn_ref02_Same [SP a b, SP a b] G k = k (.bool true) G
theorem wRMinusB {F n : Nat} (hn : 2 ≤ n) : SRMinusB (runC (R := R) Tryz.prog lo0 F n) := by
  obtain ⟨n, rfl⟩ : ∃ j, n = j + 2 := ⟨n - 2, by omega⟩
  intro x G k
  rw [r_ref02_minus, e_ref02_minus]
  unfold minusB
  cases feq .f64 x 0 with
  | true => rw [cond_true, wBits (by omega), ivU, cond_true]
  | false => rw [cond_false, cond_false]
theorem wRValidS {F n : Nat} (hn : 3 ≤ n) : SRValidS (runC (R := R) Tryz.prog lo0 F n) := by
  obtain ⟨n, rfl⟩ : ∃ j, n = j + 3 := ⟨n - 3, by omega⟩
  have hI := wRInf (R := R) (F := F) (n := n + 2) (by omega)
  have hM := wRMinusB (R := R) (F := F) (n := n + 2) (by omega)
  intro a b G k
  rw [r_ref02_Valid, e_ref02_Valid]
  unfold validS
  cases fle .f64 a b with
  | false => rw [cond_false, cond_false]
  | true =>
    rw [cond_true, cond_true, hI, ivF]
    cases feq .f64 a 9218868437227405312 with
    | true => rw [Bool.not_true, cond_false, cond_false]
    | false =>
      rw [Bool.not_false, cond_true, cond_true, hI, ivF]
      cases feq .f64 b (Op.negFloat .f64 9218868437227405312) with
      | true => rw [Bool.not_true, cond_false, cond_false]
      | false =>
        rw [Bool.not_false, cond_true, cond_true, hM, ivB]
        cases minusB a with
        | true => rw [Bool.not_true, cond_false, cond_false]
        | false => rw [Bool.not_false, cond_true, cond_true, hM, ivB]
theorem wRSame2 {F n : Nat} (hn : 2 ≤ n) : SRSame2 (runC (R := R) Tryz.prog lo0 F n) := by
  obtain ⟨n, rfl⟩ : ∃ j, n = j + 2 := ⟨n - 2, by omega⟩
  have hB := wBits (R := R) (F := F) (n := n + 1) (by omega)
  intro a b G k
  rw [r_ref02_Same, e_ref02_Same, hB, ivU, hB, ivU, show ((a : Int) == (a : Int)) = true by simp, cond_true, hB, ivU, hB, ivU, show ((b : Int) == (b : Int)) = true by simp]

abbrev SNeg (O : Ora R) : Prop := ∀ (a b : Nat), num a → num b → ∀ (G : GH) (k : IV → GH → Option R), O fn_span_Neg [SP a b] G k = k (SP (ngW b) (ngW a)) G
abbrev SRNeg (O : Ora R) : Prop := ∀ (a b : Nat), num a → num b → ∀ (G : GH) (k : IV → GH → Option R), O fn_ref02_Neg [SP a b] G k = k (SP (ngW b) (ngW a)) G
abbrev SSub (O : Ora R) : Prop := ∀ (a b c d : Nat), num a → num b → num c → num d → ∀ (G : GH) (k : IV → GH → Option R), O fn_span_Sub [SP a b, SP c d] G k = k (SP (lowA a (ngW d)) (highA b (ngW c))) G
abbrev SRSub (O : Ora R) : Prop := ∀ (a b c d : Nat), num a → num b → num c → num d → ∀ (G : GH) (k : IV → GH → Option R), O fn_ref02_Sub [SP a b, SP c d] G k = k (SP (lowA a (ngW d)) (highA b (ngW c))) G
def meetV (a b c d : Nat) : IV := bif fgt .f64 (maxW a c) (minW b d) then .tuple [SP 0 0, .bool false] else .tuple [SP (maxW a c) (minW b d), .bool true]
abbrev SMeet (O : Ora R) : Prop := ∀ (a b c d : Nat), clean a → clean b → clean c → clean d → ∀ (G : GH) (k : IV → GH → Option R), O fn_span_Meet [SP a b, SP c d] G k = k (meetV a b c d) G
abbrev SRMeet (O : Ora R) : Prop := ∀ (a b c d : Nat), clean a → clean b → clean c → clean d → ∀ (G : GH) (k : IV → GH → Option R), O fn_ref02_Meet [SP a b, SP c d] G k = k (meetV a b c d) G
theorem wNeg {F n : Nat} (hn : 1 ≤ n) : SNeg (runC (R := R) Tryz.prog lo0 F n) := by
  obtain ⟨n, rfl⟩ : ∃ j, n = j + 1 := ⟨n - 1, by omega⟩
  intro a b ha hb G k
  rw [r_span_Neg, e_span_Neg, (ng_some hb).1, Option.bind_some, (ng_some ha).1, Option.bind_some]
theorem wRNeg {F n : Nat} (hn : 1 ≤ n) : SRNeg (runC (R := R) Tryz.prog lo0 F n) := by
  obtain ⟨n, rfl⟩ : ∃ j, n = j + 1 := ⟨n - 1, by omega⟩
  intro a b ha hb G k
  rw [r_ref02_Neg, e_ref02_Neg, (ng_some hb).1, Option.bind_some, (ng_some ha).1, Option.bind_some]
theorem wSub {F n : Nat} (hF : 1 ≤ F) (hn : 11 ≤ n) : SSub (runC (R := R) Tryz.prog lo0 F n) := by
  obtain ⟨n, rfl⟩ : ∃ j, n = j + 11 := ⟨n - 11, by omega⟩
  have hN := wNeg (R := R) (F := F) (n := n + 10) (by omega)
  have hA := wSpanAdd (R := R) (F := F) (n := n + 10) hF (by omega)
  intro a b c d ha hb hc hd G k
  rw [r_span_Sub, e_span_Sub, hN c d hc hd, SP_open, hA a b _ _ ha.1 hb.1 (ng_some hd).2.1 (ng_some hc).2.1, SP_open]
theorem wRSub {F n : Nat} (hF : 1100 ≤ F) (hn : 7 ≤ n) : SRSub (runC (R := R) Tryz.prog lo0 F n) := by
  obtain ⟨n, rfl⟩ : ∃ j, n = j + 7 := ⟨n - 7, by omega⟩
  have hN := wRNeg (R := R) (F := F) (n := n + 6) (by omega)
  have hA := wRSpanAdd (R := R) (F := F) (n := n + 6) hF (by omega)
  intro a b c d ha hb hc hd G k
  rw [r_ref02_Sub, e_ref02_Sub, hN c d hc hd, SP_open, hA a b _ _ ha.1 hb.1 (ng_some hd).2.1 (ng_some hc).2.1, SP_open]
theorem wMeet {F n : Nat} (hn : 1 ≤ n) : SMeet (runC (R := R) Tryz.prog lo0 F n) := by
  obtain ⟨n, rfl⟩ : ∃ j, n = j + 1 := ⟨n - 1, by omega⟩
  intro a b c d ha hb hc hd G k
  rw [r_span_Meet, e_span_Meet, fmax_clean ha hc, Option.bind_some, fmin_clean hb hd, Option.bind_some]
  unfold meetV
  cases fgt .f64 (maxW a c) (minW b d) <;> rfl
abbrev SRGreatest (O : Ora R) : Prop := ∀ (a b : Nat), clean a → clean b → ∀ (G : GH) (k : IV → GH → Option R), O fn_ref02_Greatest [.float .f64 a, .float .f64 b] G k = k (.float .f64 (maxW a b)) G
abbrev SRLeast (O : Ora R) : Prop := ∀ (a b : Nat), clean a → clean b → ∀ (G : GH) (k : IV → GH → Option R), O fn_ref02_Least [.float .f64 a, .float .f64 b] G k = k (.float .f64 (minW a b)) G
theorem wRGreatest {F n : Nat} (hn : 1 ≤ n) : SRGreatest (runC (R := R) Tryz.prog lo0 F n) := by
  obtain ⟨n, rfl⟩ : ∃ j, n = j + 1 := ⟨n - 1, by omega⟩
  intro a b ha hb G k
  rw [r_ref02_Greatest, e_ref02_Greatest, fgt_sv ha.1 hb.1, ← greatest_max ha hb]
  by_cases h : sv b < sv a
  · rw [decide_eq_true h, cond_true, if_pos h]
  · rw [decide_eq_false h, cond_false, if_neg h]
theorem wRLeast {F n : Nat} (hn : 1 ≤ n) : SRLeast (runC (R := R) Tryz.prog lo0 F n) := by
  obtain ⟨n, rfl⟩ : ∃ j, n = j + 1 := ⟨n - 1, by omega⟩
  intro a b ha hb G k
  rw [r_ref02_Least, e_ref02_Least, flt_sv ha.1 hb.1, ← least_min ha hb]
  by_cases h : sv a < sv b
  · rw [decide_eq_true h, cond_true, if_pos h]
  · rw [decide_eq_false h, cond_false, if_neg h]
theorem wRMeet {F n : Nat} (hn : 2 ≤ n) : SRMeet (runC (R := R) Tryz.prog lo0 F n) := by
  obtain ⟨n, rfl⟩ : ∃ j, n = j + 2 := ⟨n - 2, by omega⟩
  intro a b c d ha hb hc hd G k
  rw [r_ref02_Meet, e_ref02_Meet, wRGreatest (by omega) a c ha hc, ivF, wRLeast (by omega) b d hb hd, ivF]
  unfold meetV
  cases fgt .f64 (maxW a c) (minW b d) <;> rfl

/-! ### Products -/
theorem clean_mulV (a b : Nat) (d : Bool) : clean (mulV a b d) := by
  unfold mulV
  split
  · exact clean_seal _ _ _
  · exact clean_zero
def proL (a b c d : Nat) : Nat := minW (minW (minW (minW infW (mulV a c true)) (mulV a d true)) (mulV b c true)) (mulV b d true)
def proH (a b c d : Nat) : Nat := maxW (maxW (maxW (maxW ninfW (mulV a c false)) (mulV a d false)) (mulV b c false)) (mulV b d false)
def nilS (a b : Nat) : Bool := feq .f64 a 0 && feq .f64 b 0
abbrev SSpanMul (O : Ora R) : Prop := ∀ (a b c d : Nat), num a → num b → num c → num d → (fin a && fin b) = true → (fin c && fin d) = true → ∀ (G : GH) (k : IV → GH → Option R), O fn_span_Mul [SP a b, SP c d] G k = k (bif nilS a b || nilS c d then SP 0 0 else SP (proL a b c d) (proH a b c d)) G
theorem spanMul_body {O : Ora R} {F : Nat} (hW : SWide O) (hI : SInf O) (hD : SMul O) {a b c d : Nat} (ha : num a) (hb : num b) (hc : num c) (hd : num d) (f1 : (fin a && fin b) = true) (f2 : (fin c && fin d) = true) (G : GH) (k : IV → GH → Option R) :
    bodyC Tryz.prog O [2, 3, 4, 5, 777777] (F + 4) Tryz.f81 [SP a b, SP c d] G k = k (bif nilS a b || nilS c d then SP 0 0 else SP (proL a b c d) (proH a b c d)) G := by
  have l1 := clean_min clean_inf (clean_mulV a c true)
  have l2 := clean_min l1 (clean_mulV a d true)
  have l3 := clean_min l2 (clean_mulV b c true)
  have h1 := clean_max clean_ninf (clean_mulV a c false)
  have h2 := clean_max h1 (clean_mulV a d false)
  have h3 := clean_max h2 (clean_mulV b c false)
  rw [e_span_Mul]
  unfold nilS
  rw [Bool.and_true, Bool.and_true]
  cases (feq .f64 a 0 && feq .f64 b 0) with
  | true => rw [cond_true, Bool.true_or, cond_true]
  | false =>
    rw [cond_false, Bool.false_or]
    cases (feq .f64 c 0 && feq .f64 d 0) with
    | true => rw [cond_true, cond_true]
    | false =>
      rw [cond_false, cond_false, hW a b ha hb, ivB, f1, Bool.not_true, cond_false, hW c d hc hd, ivB, f2, Bool.not_true, cond_false]
      rw [(hI G _).1, ivF, (hI G _).2, ivF]
      rw [hD a c true ha.1 hc.1, pairFI, hD a c false ha.1 hc.1, pairFI, show fmin .f64 9218868437227405312 (mulV a c true) = some (minW infW (mulV a c true)) from fmin_clean clean_inf (clean_mulV _ _ _), Option.bind_some, show fmax .f64 18442240474082181120 (mulV a c false) = some (maxW ninfW (mulV a c false)) from fmax_clean clean_ninf (clean_mulV _ _ _), Option.bind_some]
      rw [hD a d true ha.1 hd.1, pairFI, hD a d false ha.1 hd.1, pairFI, fmin_clean l1 (clean_mulV _ _ _), Option.bind_some, fmax_clean h1 (clean_mulV _ _ _), Option.bind_some]
      rw [hD b c true hb.1 hc.1, pairFI, hD b c false hb.1 hc.1, pairFI, fmin_clean l2 (clean_mulV _ _ _), Option.bind_some, fmax_clean h2 (clean_mulV _ _ _), Option.bind_some]
      rw [hD b d true hb.1 hd.1, pairFI, hD b d false hb.1 hd.1, pairFI, fmin_clean l3 (clean_mulV _ _ _), Option.bind_some, fmax_clean h3 (clean_mulV _ _ _), Option.bind_some]
      rfl
theorem wSpanMul {F n : Nat} (hF : 8 ≤ F) (hn : 10 ≤ n) : SSpanMul (runC (R := R) Tryz.prog lo0 F n) := by
  obtain ⟨n, rfl⟩ : ∃ j, n = j + 10 := ⟨n - 10, by omega⟩
  obtain ⟨F, rfl⟩ : ∃ F', F = F' + 4 := ⟨F - 4, by omega⟩
  intro a b c d ha hb hc hd f1 f2 G k
  rw [r_span_Mul]
  exact spanMul_body (wWide (by omega) (by omega)) (wInf (F := F + 3) (by omega)) (wMul (by omega) (by omega)) ha hb hc hd f1 f2 G k
end
end Go.LI.Film

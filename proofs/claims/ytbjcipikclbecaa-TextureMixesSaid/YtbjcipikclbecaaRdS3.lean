/- Package math: words and numbers. -/
import Derived.Test.YtbjcipikclbecaaRdS2
import Derived.Test.YtbjcipikclbecaaRdO
namespace Go.LI.Film
open Go.Proofs.Ytbjcipikclbecaa Go Go.Proofs Go.LI Go.LI.Fl
set_option linter.unusedVariables false
set_option linter.unusedSimpArgs false
set_option maxRecDepth 100000
section
variable {R : Type}
abbrev SBits (O : Ora R) : Prop := ∀ (x : Nat) (G : GH) (k : IV → GH → Option R), O fn_math_Float64bits [.float .f64 x] G k = k (.int .u64 (x : Int)) G
abbrev SFrom (O : Ora R) : Prop := ∀ (x : Nat) (G : GH) (k : IV → GH → Option R), O fn_math_Float64frombits [.int .u64 (x : Int)] G k = k (.float .f64 x) G
abbrev SAbs (O : Ora R) : Prop := ∀ (x : Nat), x < 2 ^ 64 → ∀ (G : GH) (k : IV → GH → Option R), O fn_math_Abs [.float .f64 x] G k = k (.float .f64 (rg dbl x)) G
abbrev SIsInf (O : Ora R) : Prop := ∀ (x : Nat), x < 2 ^ 64 → ∀ (G : GH) (k : IV → GH → Option R), O fn_math_IsInf [.float .f64 x, .int .i64 0] G k = k (.bool (decide (rg dbl x = 9218868437227405312))) G
abbrev SIsNaN (O : Ora R) : Prop := ∀ (x : Nat), x < 2 ^ 64 → ∀ (G : GH) (k : IV → GH → Option R), O fn_math_IsNaN [.float .f64 x] G k = k (.bool (decide (¬ rg dbl x ≤ 9218868437227405312))) G
abbrev SInf (O : Ora R) : Prop := ∀ (G : GH) (k : IV → GH → Option R), O fn_math_Inf [.int .i64 1] G k = k (.float .f64 9218868437227405312) G ∧ O fn_math_Inf [.int .i64 (-1)] G k = k (.float .f64 18442240474082181120) G

theorem run_ext {P : Program} {lo : Nat → List Nat} {fuel n : Nat} {f : Nat} {fn : Func} {args : List IV} {G : GH} {k : IV → GH → Option R} (hf : P.funcs[f]? = some fn) (hl : (lo f).contains pureMark = false) (hb : fn.body = none) :
    runC P lo fuel (n + 1) f args G k = externC fn args G k := by
  simp only [runC, hf, hl, Bool.false_eq_true, if_false]
  unfold bodyC
  rw [hb]

theorem wBits {F n : Nat} (hn : 1 ≤ n) : SBits (runC (R := R) Try.prog lo0 F n) := by
  obtain ⟨n, rfl⟩ : ∃ j, n = j + 1 := ⟨n - 1, by omega⟩
  intro x G k
  kernel_rfl
theorem wFrom {F n : Nat} (hn : 1 ≤ n) : SFrom (runC (R := R) Try.prog lo0 F n) := by
  obtain ⟨n, rfl⟩ : ∃ j, n = j + 1 := ⟨n - 1, by omega⟩
  intro x G k
  kernel_rfl

theorem not_top {x : Nat} (hx : x < 2 ^ 64) : notI .u64 (x : Int) 9223372036854775808 = ((x % 2 ^ 63 : Nat) : Int) := by
  have e1 : IntKind.u64.bits = 64 := rfl
  unfold notI
  rw [e1, show (9223372036854775808 : Int) = ((2 ^ 63 : Nat) : Int) from rfl]
  have h : (BitVec.ofInt 64 (x : Int) &&& ~~~BitVec.ofInt 64 ((2 ^ 63 : Nat) : Int)).toNat = x % 2 ^ 63 := by
    apply Nat.eq_of_testBit_eq
    intro i
    rw [BitVec.testBit_toNat, BitVec.getLsbD_and, BitVec.getLsbD_not, ← BitVec.testBit_toNat, ← BitVec.testBit_toNat, bv_nat hx, bv_nat (by decide), Nat.testBit_mod_two_pow, Nat.testBit_two_pow]
    by_cases h1 : i < 63
    · rw [decide_eq_true h1, decide_eq_true (show i < 64 by omega), decide_eq_false (show ¬ 63 = i by omega)]
      simp
    · rw [decide_eq_false h1]
      rcases (by omega : i = 63 ∨ 64 ≤ i) with h2 | h2
      · subst h2; simp
      · rw [decide_eq_false (show ¬ i < 64 by omega)]; simp
  rw [h]
  exact wrapU_small (by omega)
/-- The exponent's bits are struck. -/
theorem not_mid {x : Nat} (hx : x < 2 ^ 63) : notI .u64 (x : Int) 9218868437227405312 = ((x % 2 ^ 52 : Nat) : Int) := by
  have e1 : IntKind.u64.bits = 64 := rfl
  unfold notI
  rw [e1, show (9218868437227405312 : Int) = ((2047 * 2 ^ 52 : Nat) : Int) from rfl]
  have h : (BitVec.ofInt 64 (x : Int) &&& ~~~BitVec.ofInt 64 ((2047 * 2 ^ 52 : Nat) : Int)).toNat = x % 2 ^ 52 := by
    apply Nat.eq_of_testBit_eq
    intro i
    rw [BitVec.testBit_toNat, BitVec.getLsbD_and, BitVec.getLsbD_not, ← BitVec.testBit_toNat, ← BitVec.testBit_toNat, bv_nat (by omega), bv_nat (by decide), Nat.testBit_mod_two_pow]
    rw [show (2047 * 2 ^ 52 : Nat) = (2 ^ 11 - 1) * 2 ^ 52 from rfl, ← Nat.shiftLeft_eq, Nat.testBit_shiftLeft, Nat.testBit_two_pow_sub_one]
    by_cases h1 : i < 52
    · rw [decide_eq_true h1, decide_eq_true (show i < 64 by omega), decide_eq_false (show ¬ i ≥ 52 by omega)]
      simp
    · rw [decide_eq_false h1]
      by_cases h2 : i < 63
      · rw [decide_eq_true (show i ≥ 52 by omega), decide_eq_true (show i - 52 < 11 by omega)]; simp
      · have : x.testBit i = false := Nat.testBit_lt_two_pow (Nat.lt_of_lt_of_le hx (Nat.pow_le_pow_right (by decide) (by omega)))
        rw [this]; simp
  rw [h]
  exact wrapU_small (by omega)

theorem wAbs {F n : Nat} (hn : 2 ≤ n) : SAbs (runC (R := R) Try.prog lo0 F n) := by
  obtain ⟨n, rfl⟩ : ∃ j, n = j + 2 := ⟨n - 2, by omega⟩
  intro x hx G k
  rw [r_math_Abs, e_math_Abs, wBits (by omega), ivU, not_top hx, wFrom (by omega), ivF]
  have : rg dbl x = x % 2 ^ 63 := by unfold rg; rw [dbl_sw]
  rw [this]

theorem wIsInf {F n : Nat} (hF : 1 ≤ F) (hn : 3 ≤ n) : SIsInf (runC (R := R) Try.prog lo0 F n) := by
  obtain ⟨n, rfl⟩ : ∃ j, n = j + 3 := ⟨n - 3, by omega⟩
  intro x hx G k
  rw [r_math_IsInf, e_math_IsInf]
  simp only [u_math_IsInf, L_math_IsInf_0]
  rw [stepF hF]
  simp only [l_math_IsInf_0, u_math_IsInf_0, a_math_IsInf_0N]
  rw [show ((0 : Int) == 0) = true from rfl, cond_true, wAbs (by omega) x hx, ivF]
  congr 2
  have hr : rg dbl x < 2 ^ 63 := by unfold rg; rw [dbl_sw]; exact Nat.mod_lt _ (by decide)
  obtain ⟨n2, s2⟩ := num_small (r := 9218868437227405311) (by decide)
  by_cases hi : rg dbl x ≤ 9218868437227405312
  · obtain ⟨n1, s1⟩ := num_small hi
    rw [fgt_sv n1 n2, s1, s2]
    by_cases he : rg dbl x = 9218868437227405312
    · rw [decide_eq_true he, he]
      have := mag_lt (r := 9218868437227405311) (s := 9218868437227405312) (by decide)
      exact decide_eq_true (by omega)
    · rw [decide_eq_false he]
      have := mag_le (r := rg dbl x) (s := 9218868437227405311) (by omega)
      exact decide_eq_false (by omega)
  · have hg := rg_small hr
    unfold fgt
    rw [show FloatKind.f64.format = dbl from rfl, order_nan (by rw [hg.1]; omega), decide_eq_false (by omega)]
    rfl
theorem wIsNaN {F n : Nat} (hn : 1 ≤ n) : SIsNaN (runC (R := R) Try.prog lo0 F n) := by
  obtain ⟨n, rfl⟩ : ∃ j, n = j + 1 := ⟨n - 1, by omega⟩
  intro x hx G k
  rw [r_math_IsNaN, e_math_IsNaN, feq_self' hx]
  congr 2
  by_cases h : rg dbl x ≤ 9218868437227405312
  · rw [decide_eq_true h, decide_eq_false (by omega)]; rfl
  · rw [decide_eq_false h, decide_eq_true h]; rfl
theorem wInf {F n : Nat} (hn : 2 ≤ n) : SInf (runC (R := R) Try.prog lo0 (F + 1) n) := by
  obtain ⟨n, rfl⟩ : ∃ j, n = j + 2 := ⟨n - 2, by omega⟩
  intro G k
  constructor
  · rw [r_math_Inf, e_math_Inf]
    simp only [u_math_Inf, L_math_Inf_0]
    rw [stepF (by omega)]
    simp only [l_math_Inf_0, u_math_Inf_0, a_math_Inf_0N]
    rw [show decide ((1 : Int) ≥ 0) = true from rfl, cond_true, show (9218868437227405312 : Int) = ((9218868437227405312 : Nat) : Int) from rfl, wFrom (by omega), ivF]
  · rw [r_math_Inf, e_math_Inf]
    simp only [u_math_Inf, L_math_Inf_0]
    rw [stepF (by omega)]
    simp only [l_math_Inf_0, u_math_Inf_0, a_math_Inf_0N]
    rw [show decide ((-1 : Int) ≥ 0) = false from rfl, cond_false, show (18442240474082181120 : Int) = ((18442240474082181120 : Nat) : Int) from rfl, wFrom (by omega), ivF]
end
end Go.LI.Film

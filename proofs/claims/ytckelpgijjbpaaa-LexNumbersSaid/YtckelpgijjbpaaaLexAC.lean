/- Numbers' texts: the plain law. -/
import Derived.Test.YtckelpgijjbpaaaLexAB
namespace Go.LI.Lex
open Go.Proofs.Ytckelpgijjbpaaa Go Go.Proofs Go.LI
set_option linter.unusedVariables false
set_option linter.unusedSimpArgs false
attribute [local irreducible] runC

theorem dig_of (v : Nat) : digB (UInt8.ofNat (48 + v % 10)) = true := by
  simp [digB, digitB, UInt8.toNat_ofNat']; omega
theorem dig_val (v : Nat) : ((UInt8.ofNat (48 + v % 10)).toNat : Int) - 48 = ((v % 10 : Nat) : Int) := by
  simp [UInt8.toNat_ofNat']; omega

theorem decN_dig : ∀ (f v : Nat) (acc : List UInt8), (∀ c ∈ acc, digB c = true) → ∀ c ∈ decN f v acc, digB c = true
  | 0, v, acc, h => h
  | f + 1, v, acc, h => by
    have h' : ∀ c ∈ UInt8.ofNat (48 + v % 10) :: acc, digB c = true := fun c hc => by
      rcases List.mem_cons.1 hc with rfl | hc
      · exact dig_of v
      · exact h c hc
    simp only [decN]
    split
    · exact h'
    · exact decN_dig f _ _ h'
theorem decN_ne : ∀ (f v : Nat) (acc : List UInt8), decN (f + 1) v acc ≠ []
  | 0, v, acc => by simp only [decN]; split <;> simp
  | f + 1, v, acc => by
    rw [decN]
    split
    · simp
    · exact decN_ne f _ _
/-- The digits tell the number, whatever stands behind them. -/
theorem decN_val : ∀ (f v : Nat) (acc : List UInt8) (x : Int), v < 10 ^ f → 0 < f → valN (decN f v acc) 0 = valN acc (v : Int)
  | 0, v, acc, x, hv, hf => by omega
  | f + 1, v, acc, x, hv, _ => by
    have step : valN (UInt8.ofNat (48 + v % 10) :: acc) ((v / 10 : Nat) : Int) = valN acc (v : Int) := by
      show valN acc (10 * ((v / 10 : Nat) : Int) + (((UInt8.ofNat (48 + v % 10)).toNat : Int) - 48)) = _
      rw [dig_val]; congr 1; omega
    simp only [decN]
    split
    · rename_i h0
      rw [← step, h0]; rfl
    · rename_i h0
      have hf : 0 < f := by
        rcases Nat.eq_zero_or_pos f with rfl | h
        · simp at hv; omega
        · exact h
      rw [decN_val f (v / 10) _ x (by rw [Nat.pow_succ] at hv; omega) hf]
      exact step
theorem valN_zeros : ∀ (j : Nat) (s : List UInt8), valN (List.replicate j 48 ++ s) 0 = valN s 0
  | 0, s => rfl
  | j + 1, s => by rw [List.replicate_succ, List.cons_append]; exact valN_zeros j s

/-- Ten, so often multiplied. -/
def tenF : Nat → Nat
  | 0 => 4607182418800017408
  | j + 1 => ((FloatKind.format .f64).mul (tenF j) 4621819117588971520).getD 0
theorem tenF_all : ∀ j : Fin 16, tenF j.val = FloatKind.nearest .f64 (10 ^ j.val) ∧ ((FloatKind.format .f64).mul (tenF j.val) 4621819117588971520).isSome = true := by decide +kernel
end Go.LI.Lex

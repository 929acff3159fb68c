/- LexNumbers: what the interpreter gives is true. -/
import Derived.Test.YtckelpgijjbpaaaLexAD
import Derived.Test.YtckelpgijjbpaaaLexD
namespace Go.LI.Lex
open Go.Proofs.Ytckelpgijjbpaaa Go Go.Proofs Go.LI
set_option linter.unusedVariables false
set_option linter.unusedSimpArgs false
attribute [local irreducible] runC

section
variable {R : Type} {O : Ora R}

theorem l3_0_spec (K : Int → Int → Bool → List UInt8 → GH → Option R) (s0 : Int) (s2 : Bool) (G : GH) (k : Nat) (hk : k < 15) : ∀ (d : Nat) (s : List UInt8) (fuel : Nat), d = k + 1 - s.length → s.length < 100 → d < fuel →
    l3_0 O K fuel s0 (k : Int) s2 s G = K s0 (k : Int) s2 (List.replicate d 48 ++ s) G
  | d, s, 0, hd, hs, hf => by omega
  | 0, s, f + 1, hd, hs, hf => by
    rw [l3_0, IntWalk.i64_in _ (by omega), show decide ((s.length : Int) < (k : Int) + 1) = false by simp; omega, cond_false]
    rfl
  | d + 1, s, f + 1, hd, hs, hf => by
    rw [l3_0, IntWalk.i64_in _ (by omega), show decide ((s.length : Int) < (k : Int) + 1) = true by simp; omega, cond_true]
    rw [show decide (([48] : List UInt8).length + s.length ≤ roomI) = true by simp only [List.length_singleton, decide_eq_true_eq]; unfold roomI; omega, cond_true]
    have := l3_0_spec K s0 s2 G k hk d (([48] : List UInt8) ++ s) f (by simp; omega) (by simp; omega) (by omega)
    rw [this]
    congr 1
    rw [List.replicate_succ', List.append_assoc]

theorem l3_1_spec (K : Int → Int → Bool → List UInt8 → Nat → GH → Option R) (s0 : Int) (s2 : Bool) (s7 : List UInt8) (G : GH) (k : Nat) (hk : k < 15) : ∀ (d i : Nat) (fuel : Nat), d = k - i → i ≤ k → d < fuel →
    l3_1 O K fuel s0 (k : Int) s2 s7 (tenF i) (i : Int) G = K s0 (k : Int) s2 s7 (tenF k) G
  | d, i, 0, hd, hi, hf => by omega
  | 0, i, f + 1, hd, hi, hf => by
    have : i = k := by omega
    subst this
    rw [l3_1, show decide ((i : Int) < (i : Int)) = false by simp, cond_false]
  | d + 1, i, f + 1, hd, hi, hf => by
    rw [l3_1, show decide ((i : Int) < (k : Int)) = true by simp; omega, cond_true]
    have ht := (tenF_all ⟨i, by omega⟩).2
    obtain ⟨y, hy⟩ := Option.isSome_iff_exists.1 ht
    simp only at hy
    rw [hy, Option.bind_some, IntWalk.i64_in _ (by omega)]
    have := l3_1_spec K s0 s2 s7 G k hk d (i + 1) f (by omega) (by omega) (by omega)
    rw [show tenF (i + 1) = y by simp [tenF, hy]] at this
    exact this

theorem c3_2_spec (KN : Bool → List UInt8 → Nat → GH → Option R) (k : Nat) (s2 : Bool) (s : List UInt8) (x : Nat) (G : GH) (hk : k < 15) (hs : k < s.length) (hl : s.length ≤ 15) :
    c3_2 O KN (k : Int) s2 s x G = KN s2 (numT (s.take (s.length - k)) (s.drop (s.length - k))) x G := by
  cases k with
  | zero =>
    simp [c3_2, numT]
  | succ k =>
    have hi : IntKind.wrap .i64 ((s.length : Int) - ((k + 1 : Nat) : Int)) = ((s.length - (k + 1) : Nat) : Int) := by rw [IntWalk.i64_in _ (by omega)]; omega
    have hne : (s.drop (s.length - (k + 1)) == []) = false := by
      cases h : s.drop (s.length - (k + 1)) with
      | nil => have := congrArg List.length h; simp at this; omega
      | cons a b => rfl
    have h2 : (s.drop (s.length - (k + 1))).take (s.length - (s.length - (k + 1))) = s.drop (s.length - (k + 1)) := List.take_of_length_le (by simp)
    simp only [c3_2, hi, Int.toNat_natCast, Int.toNat_zero, List.drop_zero, Nat.sub_zero, h2, numT, hne, cond_false]
    rw [show decide (((k + 1 : Nat) : Int) > 0) = true by simp only [decide_eq_true_eq]; omega, cond_true]
    rw [show decide (0 ≤ (0 : Int) ∧ (0 : Int) ≤ ((s.length - (k + 1) : Nat) : Int) ∧ ((s.length - (k + 1) : Nat) : Int) ≤ (s.length : Int)) = true by simp only [decide_eq_true_eq]; omega, cond_true]
    rw [show decide ((s.take (s.length - (k + 1))).length + ([46] : List UInt8).length ≤ roomI) = true by simp only [List.length_take, List.length_singleton, decide_eq_true_eq]; unfold roomI; omega, cond_true]
    rw [show decide (0 ≤ ((s.length - (k + 1) : Nat) : Int) ∧ ((s.length - (k + 1) : Nat) : Int) ≤ (s.length : Int) ∧ (s.length : Int) ≤ (s.length : Int)) = true by simp only [decide_eq_true_eq]; omega, cond_true]
    rw [show decide ((s.take (s.length - (k + 1)) ++ ([46] : List UInt8)).length + (s.drop (s.length - (k + 1))).length ≤ roomI) = true by simp only [List.length_append, List.length_take, List.length_drop, List.length_singleton, decide_eq_true_eq]; unfold roomI; omega, cond_true]
    simp
end
end Go.LI.Lex

/- Clean words: numbers, no -0; the lesser and the greater of two; quotients of spans. -/
import Derived.Test.YtalpjkeiaeobdaaGreatRdQ3
import Derived.Test.YtalpjkeiaeobdaaGreatRdN2
import Derived.Test.YtalpjkeiaeobdaaGreatRdV1
namespace Go.LI.Fl
open Go Go.LI Ieee
set_option linter.unusedVariables false
set_option maxRecDepth 100000

/-- A number, no -0. -/
def clean (x : Nat) : Prop := num x ∧ (sv x = 0 → x = 0)
theorem clean_eq {x y : Nat} (hx : clean x) (hy : clean y) (h : sv x = sv y) : x = y := by
  by_cases h0 : sv y = 0
  · rw [hy.2 h0, hx.2 (h.trans h0)]
  · exact sv_inj hx.1.1 hy.1.1 h h0
theorem clean_zero : clean 0 := ⟨(num_small (by decide)).1, fun _ => rfl⟩
theorem clean_word {s : Bool} {r : Nat} (h0 : r ≠ 0) (h : r ≤ 9218868437227405312) : clean (dbl.word s r) := by
  refine ⟨⟨word_lt64 (by omega), by rw [rg_word' (by omega)]; exact h⟩, fun hc => ?_⟩
  exfalso
  rw [sv_word (by omega)] at hc
  have : mag dbl r = 0 := by unfold sgn at hc; split at hc <;> omega
  exact h0 ((mag_zero dbl).1 this)
def infW : Nat := 9218868437227405312
def ninfW : Nat := 18442240474082181120
theorem ninf_word : dbl.word true infW = ninfW := by decide +kernel
theorem clean_inf : clean infW := by
  have h : dbl.word false infW = infW := rfl
  rw [← h]
  exact clean_word (by decide) (Nat.le_refl _)
theorem clean_ninf : clean ninfW := by rw [← ninf_word]; exact clean_word (by decide) (Nat.le_refl _)
theorem clean_seal (s : Bool) (r : Nat) (g : Bool) : clean (sealW s r g) := by
  unfold sealW
  simp only
  by_cases h1 : r < 9218868437227405312
  · rw [if_pos h1]
    by_cases h0 : r = 0
    · rw [if_pos h0]; exact clean_zero
    · rw [if_neg h0]; exact clean_word h0 (by omega)
  · rw [if_neg h1]
    cases g with
    | true => rw [if_pos rfl, if_neg (by decide)]; exact clean_word (by decide) (Nat.le_refl _)
    | false => rw [if_neg (by simp), if_neg (by decide)]; exact clean_word (by decide) (by decide)
theorem clean_divV (a b : Nat) (d : Bool) : clean (divV a b d) := by
  unfold divV
  split
  · exact clean_seal _ _ _
  · exact clean_zero
def addV (a b : Nat) (d : Bool) : Nat := if (fin a && fin b) = true then addR a b d else 0
theorem clean_addV (a b : Nat) (d : Bool) : clean (addV a b d) := by
  unfold addV
  split
  · exact clean_seal _ _ _
  · exact clean_zero

def minW (x y : Nat) : Nat := if sv y < sv x then y else x
def maxW (x y : Nat) : Nat := if sv x < sv y then y else x
theorem clean_min {x y : Nat} (hx : clean x) (hy : clean y) : clean (minW x y) := by unfold minW; split <;> assumption
theorem clean_max {x y : Nat} (hx : clean x) (hy : clean y) : clean (maxW x y) := by unfold maxW; split <;> assumption
theorem fmin_clean {x y : Nat} (hx : clean x) (hy : clean y) : fmin .f64 x y = some (minW x y) := by
  unfold fmin minW
  have ho : (FloatKind.format .f64).order x y = some (compare (sv x) (sv y)) := order_sv hx.1 hy.1
  rw [ho]
  rcases Int.lt_trichotomy (sv x) (sv y) with h | h | h
  · rw [(cmpI _ _).1 h, if_neg (c := sv y < sv x) (by omega)]
  · rw [(cmpI _ _).2.1 h, if_neg (c := sv y < sv x) (by omega), clean_eq hx hy h]
    simp
  · rw [(cmpI _ _).2.2 h, if_pos (c := sv y < sv x) h]
theorem fmax_clean {x y : Nat} (hx : clean x) (hy : clean y) : fmax .f64 x y = some (maxW x y) := by
  unfold fmax maxW
  have ho : (FloatKind.format .f64).order x y = some (compare (sv x) (sv y)) := order_sv hx.1 hy.1
  rw [ho]
  rcases Int.lt_trichotomy (sv x) (sv y) with h | h | h
  · rw [(cmpI _ _).1 h, if_pos (c := sv x < sv y) h]
  · rw [(cmpI _ _).2.1 h, if_neg (c := sv x < sv y) (by omega), clean_eq hx hy h]
    simp
  · rw [(cmpI _ _).2.2 h, if_neg (c := sv x < sv y) (by omega)]
theorem least_min {x y : Nat} (hx : clean x) (hy : clean y) : (if sv x < sv y then x else y) = minW x y := by
  unfold minW
  rcases Int.lt_trichotomy (sv x) (sv y) with h | h | h
  · rw [if_pos (c := sv x < sv y) h, if_neg (c := sv y < sv x) (by omega)]
  · rw [if_neg (c := sv x < sv y) (by omega), if_neg (c := sv y < sv x) (by omega), clean_eq hx hy h]
  · rw [if_neg (c := sv x < sv y) (by omega), if_pos (c := sv y < sv x) h]
theorem greatest_max {x y : Nat} (hx : clean x) (hy : clean y) : (if sv y < sv x then x else y) = maxW x y := by
  unfold maxW
  rcases Int.lt_trichotomy (sv x) (sv y) with h | h | h
  · rw [if_neg (c := sv y < sv x) (by omega), if_pos (c := sv x < sv y) h]
  · rw [if_neg (c := sv y < sv x) (by omega), if_neg (c := sv x < sv y) (by omega), clean_eq hx hy h]
  · rw [if_pos (c := sv y < sv x) h, if_neg (c := sv x < sv y) (by omega)]

/-- Is the quotient everything? -/
def quoB (a b c d : Nat) : Bool := (decide (sv c ≤ 0) && decide (0 ≤ sv d)) || (!(fin a && fin b) || !(fin c && fin d))
def quoL (a b c d : Nat) : Nat := if quoB a b c d = true then ninfW else minW (minW (minW (minW infW (divV a c true)) (divV a d true)) (divV b c true)) (divV b d true)
def quoH (a b c d : Nat) : Nat := if quoB a b c d = true then infW else maxW (maxW (maxW (maxW ninfW (divV a c false)) (divV a d false)) (divV b c false)) (divV b d false)
theorem clean_quoL (a b c d : Nat) : clean (quoL a b c d) := by
  unfold quoL
  split
  · exact clean_ninf
  · exact clean_min (clean_min (clean_min (clean_min clean_inf (clean_divV _ _ _)) (clean_divV _ _ _)) (clean_divV _ _ _)) (clean_divV _ _ _)
theorem clean_quoH (a b c d : Nat) : clean (quoH a b c d) := by
  unfold quoH
  split
  · exact clean_inf
  · exact clean_max (clean_max (clean_max (clean_max clean_ninf (clean_divV _ _ _)) (clean_divV _ _ _)) (clean_divV _ _ _)) (clean_divV _ _ _)
theorem fin_num {x : Nat} (h : num x) : decide (rg dbl x = 9218868437227405312) = !fin x := by
  have := h.2
  unfold fin
  by_cases hc : rg dbl x = 9218868437227405312
  · rw [decide_eq_true hc, decide_eq_false (by omega)]; rfl
  · rw [decide_eq_false hc, decide_eq_true (by omega)]; rfl
end Go.LI.Fl
namespace Go.LI.Film
open Go.Proofs.YtalpjkeiaeobdaaGreat Go Go.Proofs Go.LI Go.LI.Fl
set_option linter.unusedVariables false
set_option linter.unusedSimpArgs false
set_option maxRecDepth 100000
abbrev SP (a b : Nat) : IV := .agg [.float .f64 a, .float .f64 b]
theorem SP_open {β : Type} (a b : Nat) (f : Nat → Nat → Option β) : ((ivAgg 2 (SP a b)).bind fun c => (ivFloat .f64 (c.getD 0 undefI)).bind fun x => (ivFloat .f64 (c.getD 1 undefI)).bind fun y => f x y) = f a b := rfl
theorem pairFF {β : Type} (a b : Nat) (f : Nat → Nat → Option β) : ((ivTup 2 (.tuple [.float .f64 a, .float .f64 b])).bind fun c => (ivFloat .f64 (c.getD 0 undefI)).bind fun x => (ivFloat .f64 (c.getD 1 undefI)).bind fun y => f x y) = f a b := rfl
end Go.LI.Film

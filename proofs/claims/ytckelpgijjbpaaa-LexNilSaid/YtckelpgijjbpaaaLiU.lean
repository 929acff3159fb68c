/- Words of floating point that are no NaN. -/
import Derived.Test.YtckelpgijjbpaaaLiT
import Derived.Laws.FloatBits
namespace Go.LI
open Go Ieee

/-- No NaN. -/
def nn (f : Format) (x : Nat) : Prop := (f.read x).isNaN = false

theorem nn_word (f : Format) (neg : Bool) {rung : Nat} (h : rung ≤ f.infRung) : nn f (f.word neg rung) := by
  have hlt : rung < f.signWeight := Nat.lt_of_le_of_lt h f.infRung_lt
  have hmod : f.word neg rung % f.signWeight = rung := by
    unfold Format.word
    split
    · rw [Nat.add_mod_left, Nat.mod_eq_of_lt hlt]
    · exact Nat.mod_eq_of_lt hlt
  unfold nn Format.read
  simp only [hmod]
  split
  · rfl
  · split
    · rfl
    · rw [if_pos (by omega)]; rfl

theorem nn_nearest (f : Format) (neg : Bool) (mag : Nat) (place : Int) : nn f (f.nearest neg mag place) := by
  unfold Format.nearest
  dsimp only
  split
  · exact nn_word f neg (Nat.zero_le _)
  · exact nn_word f neg (Nat.min_le_right ..)

theorem nn_write (f : Format) {d : Datum} (h : d.isNaN = false) : nn f (f.write d) := by
  cases d with
  | number neg mag place => exact nn_nearest f neg mag place
  | infinity neg => exact nn_word f neg (Nat.le_refl _)
  | nan neg fr => cases h

theorem order_self {d : Datum} (h : d.isNaN = false) : d.order d = some .eq := by
  cases d with
  | number s m e => simp [Datum.order, compare, compareOfLessAndEq]
  | infinity s => simp [Datum.order, compare, compareOfLessAndEq]
  | nan => cases h

theorem feq_self {k : FloatKind} {x : Nat} (h : nn k.format x) : feq k x x = true := by
  unfold feq Format.order
  rw [order_self h]
  rfl

/-- A quotient by a number that is not zero. -/
theorem div_some (f : Format) {x y : Nat} {s : Bool} {m : Nat} {e : Int} (hx : nn f x) (hy : f.read y = .number s m e) (hm : m ≠ 0) : ∃ r, f.div x y = some r ∧ nn f r := by
  unfold Format.div
  rw [hy]
  unfold nn at hx
  cases hr : f.read x with
  | nan a b => rw [hr] at hx; cases hx
  | infinity a => exact ⟨_, rfl, nn_write f rfl⟩
  | number a b c =>
    simp only [Datum.quotient, hm, if_false, Option.map_some]
    exact ⟨_, rfl, nn_write f rfl⟩

/-- A difference from a number. -/
theorem sub_some (f : Format) {x y : Nat} {s : Bool} {m : Nat} {e : Int} (hx : f.read x = .number s m e) (hy : nn f y) : ∃ r, f.sub x y = some r ∧ nn f r := by
  unfold Format.sub
  rw [hx]
  unfold nn at hy
  cases hr : f.read y with
  | nan a b => rw [hr] at hy; cases hy
  | infinity a => exact ⟨_, rfl, nn_write f rfl⟩
  | number a b c => exact ⟨_, rfl, nn_write f rfl⟩

end Go.LI

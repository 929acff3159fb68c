/- Rounding is isotone: products, floors, and what a texture comes to at places within. -/
import Derived.Test.YtbjcipikclbecaaGreatTvK1
import Derived.Test.YtbjcipikclbecaaGreatFlD
set_option linter.unusedVariables false
set_option maxRecDepth 100000
set_option exponentiation.threshold 2500
set_option linter.unusedSimpArgs false
namespace Go.LI.Fl
open Go Go.LI Ieee
theorem zIM {r s : Nat} (h : r ≤ s) : (mag dbl r : Int) ≤ (mag dbl s : Int) := by exact_mod_cast zz2 h
def MI : Int := (mag dbl 9218868437227405312 : Int)
theorem zA8 : (mag dbl 9218868437227405312 : Int) = MI := rfl
theorem zGV : 0 < MI := by
  have h := zzg
  rw [← zA8]
  generalize mag dbl 9218868437227405312 = M at h ⊢
  omega
theorem zEM {x : Nat} (h : num x) : -MI ≤ sv x ∧ sv x ≤ MI := by
  have := zIM h.2
  rw [zA8] at this
  unfold sv
  split <;> omega
theorem zDk {x : Nat} (h : num x) : fin x = true ↔ (-MI < sv x ∧ sv x < MI) := by
  unfold fin
  rw [decide_eq_true_eq]
  constructor
  · intro h1
    have h2 : (mag dbl (rg dbl x) : Int) < MI := by rw [← zA8]; exact_mod_cast zlV h1
    unfold sv
    split <;> omega
  · intro ⟨h1, h2⟩
    rcases Nat.lt_or_ge (rg dbl x) 9218868437227405312 with h3 | h3
    · exact h3
    · exfalso
      have h4 := zIM h3
      rw [zA8] at h4
      unfold sv at h1 h2
      generalize (mag dbl (rg dbl x) : Int) = b at h1 h2 h4
      cases hs : sg dbl x with
      | true => rw [hs] at h1; simp only [if_true] at h1; omega
      | false => rw [hs] at h2; simp only [Bool.false_eq_true, if_false] at h2; omega
theorem zDC (s : Bool) (n drop : Nat) : sgn s (Toward.down.cut s n drop) = sgn s n / ((2 ^ drop : Nat) : Int) := by
  have gap : ∀ g : Nat, 0 < g → sgn s (n / g + ((s && n % g != 0) : Bool).toNat) = sgn s n / (g : Int) := by
    intro g hg
    have h1 := Nat.div_add_mod n g
    have h2 := Nat.mod_lt n hg
    cases s with
    | false =>
      simp only [sgn, Bool.false_eq_true, if_false, Bool.false_and, Bool.toNat_false, Nat.add_zero]
      exact Int.natCast_ediv n g
    | true =>
      simp only [sgn, if_true, Bool.true_and]
      symm
      by_cases h0 : n % g = 0
      · rw [h0]
        simp only [bne_self_eq_false, Bool.toNat_false, Nat.add_zero]
        rw [h0, Nat.add_zero] at h1
        refine Int.ediv_eq_of_eq_mul_right (by omega) ?_
        have : ((g * (n / g) : Nat) : Int) = (n : Int) := by exact_mod_cast h1
        rw [Int.natCast_mul] at this
        rw [Int.mul_neg]
        omega
      · rw [show (n % g != 0) = true by simpa using h0, Bool.toNat_true]
        have h3 : ((g * (n / g) + n % g : Nat) : Int) = (n : Int) := by exact_mod_cast h1
        rw [Int.natCast_add, Int.natCast_mul] at h3
        have h4 : (-(n : Int)) = (g : Int) * (-((n / g + 1 : Nat) : Int)) + ((g : Int) - ((n % g : Nat) : Int)) := by
          rw [Int.mul_neg, Int.natCast_add, Int.mul_add]
          omega
        rw [h4, Int.add_comm, Int.add_mul_ediv_left _ _ (by omega)]
        rw [Int.ediv_eq_zero_of_lt (by omega) (by omega)]
        omega
  unfold Toward.cut
  simp only [Nat.one_shiftLeft]
  have hp := Nat.two_pow_pos drop
  by_cases h : drop ≤ n.log2 + 2
  · rw [Nat.min_eq_left h]
    exact gap _ hp
  · rw [Nat.min_eq_right (by omega)]
    have h1 : n < 2 ^ (n.log2 + 2) := Nat.lt_of_lt_of_le Nat.lt_log2_self (Nat.pow_le_pow_right (by decide) (by omega))
    have h2 : n < 2 ^ drop := Nat.lt_of_lt_of_le h1 (Nat.pow_le_pow_right (by decide) (by omega))
    rw [Nat.div_eq_of_lt h1, Nat.mod_eq_of_lt h1, ← gap _ hp, Nat.div_eq_of_lt h2, Nat.mod_eq_of_lt h2]
theorem zzY (s : Bool) (a b : Nat) : sgn s (a * b) = sgn s a * (b : Int) := by
  cases s <;> simp [sgn, Int.natCast_mul, Int.neg_mul]
theorem zEa {x i m : Nat} (h2 : m * 2 ^ i = mag dbl (rg dbl x)) (T : Nat) (hT : T = 1074) : sgn (sg dbl x) (Toward.down.cut (sg dbl x) (m <<< (-(T : Int) + (i : Int)).toNat) (-(-(T : Int) + (i : Int))).toNat) = sv x / ((2 ^ T : Nat) : Int) := by
  rw [zDC, zho, ← h2, Nat.shiftLeft_eq]
  by_cases hi : T ≤ i
  · have p1 : (-(T : Int) + (i : Int)).toNat = i - T := by omega
    have p2 : (-(-(T : Int) + (i : Int))).toNat = 0 := by omega
    have hp : 2 ^ i = 2 ^ (i - T) * 2 ^ T := by rw [← Nat.pow_add]; congr 1; omega
    rw [p1, p2, hp, ← Nat.mul_assoc, zzY _ _ (2 ^ T), Int.mul_ediv_cancel _ (by have := Nat.two_pow_pos T; omega), Nat.pow_zero]
    simp
  · have p1 : (-(T : Int) + (i : Int)).toNat = 0 := by omega
    have p2 : (-(-(T : Int) + (i : Int))).toNat = T - i := by omega
    have hp : 2 ^ T = 2 ^ (T - i) * 2 ^ i := by rw [← Nat.pow_add]; congr 1; omega
    have hq := Nat.two_pow_pos i
    rw [p1, p2, hp, Nat.pow_zero, Nat.mul_one, zzY, Int.natCast_mul, Int.mul_ediv_mul_of_pos_left _ _ (by omega)]
theorem zDu {s : Bool} {n : Nat} : ∃ r, dbl.nearest s n 0 = dbl.word s (min r 9218868437227405312) ∧ zwC dbl (n * 2 ^ (0 - dbl.leastPlace).toNat) 1 r := by
  obtain ⟨r, h1, h2⟩ := zrW dbl (by rw [zxS]) s n 0
  rw [zek] at h1
  refine ⟨r, h1, ?_⟩
  rw [show (dbl.leastPlace - 0).toNat = 0 by rw [zuQ]; rfl, Nat.pow_zero] at h2
  exact h2
end Go.LI.Fl
namespace Go.LI.Film
open Go.Proofs.YtbjcipikclbecaaGreat Go Go.Proofs Go.LI Go.LI.Fl
theorem zDF {x : Nat} (hf : fin x = true) : ∃ (s : Bool) (n : Nat), zcm (flW x) ∧ sv (flW x) = sv (dbl.nearest s n 0) ∧ sgn s n = sv x / ((2 ^ 1074 : Nat) : Int) := by
  obtain ⟨i, m, h1, h2⟩ := zcG (x := x) (of_decide_eq_true hf)
  have hd : FloatKind.f64.decode x = .number (sg dbl x) m (-1074 + (i : Int)) := h1
  unfold flW
  rw [hd]
  have hn : num (dbl.nearest (sg dbl x) (Ieee.Toward.down.cut (sg dbl x) (m <<< (-1074 + (i : Int)).toNat) (-(-1074 + (i : Int))).toNat) 0) := zdE _ _ _
  refine ⟨sg dbl x, _, ztw hn, zEk _, ?_⟩
  exact zEa h2 1074 rfl
structure Inn (a b c d : Nat) : Prop where
  na : num a
  nb : num b
  nc : num c
  nd : num d
  lo : sv a ≤ sv c
  mi : sv c ≤ sv d
  hi : sv d ≤ sv b
theorem z6 {α : Type} {l : List α} {i : Nat} {a d : α} (h : i < l.length) : (l.set i a).getD i d = a := by
  rw [List.getD_eq_getElem?_getD, List.getElem?_set_self h]; rfl
theorem getD_set_ne {α : Type} {l : List α} {i j : Nat} {a d : α} (h : i ≠ j) : (l.set i a).getD j d = l.getD j d := by
  rw [List.getD_eq_getElem?_getD, List.getElem?_set_ne h, List.getD_eq_getElem?_getD]
end Go.LI.Film

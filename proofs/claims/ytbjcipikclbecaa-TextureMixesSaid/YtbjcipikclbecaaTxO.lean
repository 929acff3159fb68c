/- A mix of a colour with itself: sums, what is left of 1, and the real numbers. -/
import Derived.Test.YtbjcipikclbecaaTxM
import Derived.Test.YtbjcipikclbecaaRdPt2
namespace Go.LI.Fl
open Go Go.LI Ieee
set_option linter.unusedVariables false
set_option maxRecDepth 100000
set_option exponentiation.threshold 2500

theorem num_wordZ {n : Bool} {r : Nat} (h : r ≤ 9218868437227405312) : num (dbl.word n r) := by
  have hlt : r < dbl.signWeight := by rw [dbl_sw]; omega
  refine ⟨?_, by rw [rg_word dbl hlt]; exact h⟩
  have := (word_split dbl (neg := n) hlt).2.2
  rw [dbl_sw] at this
  omega
theorem sub0_exact {x : Nat} (hf : rg dbl x < 9218868437227405312) : ∃ y, dbl.sub 0 x = some y ∧ num y ∧ fin y = true ∧ sv y = -sv x := by
  obtain ⟨m, e, h1, h2, h3⟩ := read_finite dbl (w := x) (fin_lt hf)
  have hz : dbl.read 0 = .number false 0 (-1074) := by decide +kernel
  unfold Format.sub
  rw [h1, hz]
  rw [dbl_L] at h2 h3
  simp only [Datum.opposite, Datum.sum, Option.map_some, Format.write]
  rw [Int.min_eq_left h2]
  have hs0 : signed false 0 (-1074 - -1074 : Int).toNat = 0 := by decide
  rw [hs0, Int.zero_add]
  have hsx : (x / dbl.signWeight % 2 == 1) = sg dbl x := rfl
  rw [hsx]
  have h3' : m * 2 ^ (e - -1074).toNat = mag dbl (rg dbl x) := h3
  have hT : signed (!sg dbl x) m (e - -1074).toNat = -sv x := by
    unfold signed sv
    rw [Nat.shiftLeft_eq, h3']
    cases sg dbl x <;> simp
  rw [hT]
  have wd : ∀ (b : Bool) (r : Nat), r < 9218868437227405312 → num (dbl.word b r) ∧ fin (dbl.word b r) = true ∧ sv (dbl.word b r) = sgn b (mag dbl r) := fun b r hr =>
    ⟨num_wordZ (by omega), by unfold fin; rw [rg_word dbl (by rw [dbl_sw]; omega)]; exact decide_eq_true hr, sv_word' (by omega)⟩
  split
  · rename_i h0
    refine ⟨_, rfl, ?_⟩
    have hz0 : (sv x).natAbs = 0 := by omega
    rw [nearest_exact dbl (r := 0) (Nat.zero_le _) (by rw [(mag_zero dbl).2 rfl]; simp [hz0])]
    refine ⟨(wd _ 0 (by decide)).1, (wd _ 0 (by decide)).2.1, ?_⟩
    rw [(wd _ 0 (by decide)).2.2, (mag_zero dbl).2 rfl, sgn_zeroZ]
    omega
  · rename_i h0
    refine ⟨_, rfl, ?_⟩
    have hn : (-sv x).natAbs = mag dbl (rg dbl x) := by
      unfold sv
      cases sg dbl x <;> simp
    rw [hn, nearest_exact dbl (r := rg dbl x) (Nat.le_of_lt (fin_lt hf)) (by rw [dbl_L, show ((-1074 : Int) - -1074).toNat = 0 by decide, Nat.pow_zero])]
    obtain ⟨a1, a2, a3⟩ := wd (decide (-sv x < 0)) (rg dbl x) hf
    refine ⟨a1, a2, ?_⟩
    rw [a3, ← hn, sgn_absZ]

theorem one_mag : mag dbl 4607182418800017408 = one74 := by decide +kernel
theorem one_sv : num 4607182418800017408 ∧ sv 4607182418800017408 = (one74 : Int) ∧ fin 4607182418800017408 = true := by
  obtain ⟨h1, h2⟩ := num_small (r := 4607182418800017408) (by decide)
  rw [one_mag] at h2
  exact ⟨h1, h2, by decide +kernel⟩
/-- Sums between 0 and a rung. -/
theorem add_pos {a b r : Nat} {d : Bool} (hr : r < 9218868437227405312) (h0 : 0 ≤ sv a + sv b) (h1 : sv a + sv b ≤ (mag dbl r : Int)) : ∃ q, q ≤ r ∧ addR a b d = q := by
  have hs : decide (sv a + sv b < 0) = false := decide_eq_false (by omega)
  unfold addR
  rw [hs]
  have cap : rndR (sv a + sv b).natAbs 1 (false == d) ≤ r := rnd_cap (by decide) (by omega)
  refine ⟨_, cap, ?_⟩
  unfold sealW
  simp only
  have hlt : rndR (sv a + sv b).natAbs 1 (false == d) < 9218868437227405312 := by omega
  simp only [if_pos hlt]
  split
  · rename_i hz; exact hz.symm
  · exact word_false _
theorem one_small {q : Nat} (h : q ≤ 4607182418800017408) : num q ∧ fin q = true ∧ mag dbl (rg dbl q) ≤ one74 ∧ sv q = (mag dbl q : Int) := by
  obtain ⟨h1, h2⟩ := num_small (r := q) (by omega)
  have h3 := rg_small (r := q) (by omega)
  refine ⟨h1, ?_, ?_, h2⟩
  · unfold fin; rw [h3.1]; exact decide_eq_true (by omega)
  · rw [h3.1, ← one_mag]; exact mag_le h

def lowX (a b : Nat) : Nat := if (fin a && fin b) = true then addR a b true else 18442240474082181120
def highX (a b : Nat) : Nat := if (fin a && fin b) = true then addR a b false else 9218868437227405312
theorem fin_sv {x : Nat} (h : fin x = true) : -(mag dbl 9218868437227405312 : Int) ≤ sv x ∧ sv x ≤ (mag dbl 9218868437227405312 : Int) := by
  have h1 : rg dbl x < 9218868437227405312 := of_decide_eq_true h
  have h2 : mag dbl (rg dbl x) ≤ mag dbl 9218868437227405312 := mag_le (by omega)
  unfold sv
  cases sg dbl x with
  | false => simp only [Bool.false_eq_true, if_false]; omega
  | true => simp only [if_true]; omega
theorem lowX_le {a b : Nat} {T : Int} (hT : -(mag dbl 9218868437227405312 : Int) ≤ T) (h : sv a + sv b ≤ T) : sv (lowX a b) ≤ T := by
  unfold lowX
  split
  · exact add_dn hT h
  · rw [sv_ninf]; exact hT
theorem highX_ge {a b : Nat} {T : Int} (hT : T ≤ (mag dbl 9218868437227405312 : Int)) (h : T ≤ sv a + sv b) : T ≤ sv (highX a b) := by
  unfold highX
  split
  · exact add_up hT h
  · rw [sv_pinf]; exact hT

/-- The real numbers of a mix. -/
theorem mix_lo {C R0 R1 S l1 l2 : Int} {E : Nat} (hE : 0 < E) (r0 : R0 + S ≤ (E : Int)) (r1 : (E : Int) ≤ R1 + S) (a0 : l1 * E ≤ C * R0) (a1 : l1 * E ≤ C * R1) (a2 : l2 * E ≤ C * S) : l1 + l2 ≤ C := by
  have key : (l1 + l2) * (E : Int) ≤ C * (E : Int) := by
    rw [Int.add_mul]
    rcases Int.lt_or_le C 0 with h | h
    · have h1 : C * (R1 + S) ≤ C * (E : Int) := Int.mul_le_mul_of_nonpos_left (by omega) r1
      rw [Int.mul_add] at h1
      omega
    · have h1 : C * (R0 + S) ≤ C * (E : Int) := Int.mul_le_mul_of_nonneg_left r0 h
      rw [Int.mul_add] at h1
      omega
  exact Int.le_of_mul_le_mul_right key (by omega)
theorem mix_hi {C R0 R1 S h1 h2 : Int} {E : Nat} (hE : 0 < E) (r0 : R0 + S ≤ (E : Int)) (r1 : (E : Int) ≤ R1 + S) (a0 : C * R0 ≤ h1 * E) (a1 : C * R1 ≤ h1 * E) (a2 : C * S ≤ h2 * E) : C ≤ h1 + h2 := by
  have := mix_lo (C := -C) (l1 := -h1) (l2 := -h2) hE r0 r1 (by rw [Int.neg_mul, Int.neg_mul]; omega) (by rw [Int.neg_mul, Int.neg_mul]; omega) (by rw [Int.neg_mul, Int.neg_mul]; omega)
  omega
end Go.LI.Fl

/- Rounding is isotone: products, floors, and what a texture comes to at places within. -/
import Derived.Test.YtbjcipikclbecaaTvK1
import Derived.Test.YtbjcipikclbecaaFlD
namespace Go.LI.Fl
open Go Go.LI Ieee
set_option linter.unusedVariables false
set_option maxRecDepth 100000
set_option exponentiation.threshold 2500

theorem rnd_max {A B r : Nat} (hB : 0 < B) (h : mag dbl r * B ≤ A) : r ≤ rndR A B false := by
  unfold rndR
  rw [if_neg (by simp), Nat.add_zero]
  rcases Nat.lt_or_ge (floorR (A / B)) r with hh | hh
  · exfalso
    have h1 := (floorR_leZ (A / B)).2
    have h2 : mag dbl (floorR (A / B) + 1) ≤ mag dbl r := mag_le hh
    have h3 := Nat.div_lt_iff_lt_mul hB |>.1 (Nat.lt_of_lt_of_le h1 h2)
    omega
  · exact hh
theorem rnd_mono {A A' B : Nat} {g : Bool} (hB : 0 < B) (h : A ≤ A') : rndR A B g ≤ rndR A' B g := by
  cases g with
  | true => exact rnd_cap hB (Nat.le_trans h (rnd_up hB))
  | false => exact rnd_max hB (Nat.le_trans (rnd_dn hB) h)
theorem rnd_gro {A B : Nat} : rndR A B false ≤ rndR A B true := by
  unfold rndR
  rw [if_neg (by simp)]
  omega
def capR (r : Nat) (g : Bool) : Nat := if r < 9218868437227405312 then r else if g then 9218868437227405312 else 9218868437227405311
theorem capR_mono {r r' : Nat} {g g' : Bool} (h : r ≤ r') (hg : g = true → g' = true) : capR r g ≤ capR r' g' := by
  unfold capR
  cases g with
  | false => cases g' <;> (simp only [Bool.false_eq_true, if_false, if_true]; split <;> split <;> omega)
  | true => rw [hg rfl]; simp only [if_true]; split <;> split <;> omega
theorem sv_sealC (n : Bool) (r : Nat) (g : Bool) : sv (sealW n r g) = sgn n (mag dbl (capR r g)) := sv_seal n r g
/-- P / B, rounded. -/
def rdP (P : Int) (B : Nat) (d : Bool) : Nat := sealW (decide (P < 0)) (rndR P.natAbs B (decide (P < 0) == d)) (decide (P < 0) == d)
theorem magI {r s : Nat} (h : r ≤ s) : (mag dbl r : Int) ≤ (mag dbl s : Int) := by exact_mod_cast mag_le h
theorem rdP_mono {P P' : Int} {B : Nat} {d : Bool} (hB : 0 < B) (h : P ≤ P') : sv (rdP P B d) ≤ sv (rdP P' B d) := by
  unfold rdP
  rw [sv_sealC, sv_sealC]
  by_cases h1 : P < 0
  · by_cases h2 : P' < 0
    · rw [decide_eq_true h1, decide_eq_true h2]
      simp only [sgn, if_true]
      have := magI (capR_mono (g := (true == d)) (g' := (true == d)) (rnd_mono (g := (true == d)) hB (show P'.natAbs ≤ P.natAbs by omega)) id)
      omega
    · rw [decide_eq_true h1, decide_eq_false h2]
      simp only [sgn, if_true, Bool.false_eq_true, if_false]
      omega
  · rw [decide_eq_false h1, decide_eq_false (show ¬ P' < 0 by omega)]
    simp only [sgn, Bool.false_eq_true, if_false]
    exact magI (capR_mono (rnd_mono hB (by omega)) id)
theorem rdP_dn_up {P : Int} {B : Nat} : sv (rdP P B true) ≤ sv (rdP P B false) := by
  unfold rdP
  rw [sv_sealC, sv_sealC]
  by_cases h1 : P < 0
  · rw [decide_eq_true h1]
    simp only [sgn, if_true]
    have := magI (capR_mono (g := (true == false)) (g' := (true == true)) (rnd_gro (A := P.natAbs) (B := B)) (by simp))
    simp only [show (true == false) = false from rfl, show (true == true) = true from rfl] at this ⊢
    omega
  · rw [decide_eq_false h1]
    simp only [sgn, Bool.false_eq_true, if_false]
    have := magI (capR_mono (g := (false == true)) (g' := (false == false)) (rnd_gro (A := P.natAbs) (B := B)) (by simp))
    simp only [show (false == true) = false from rfl, show (false == false) = true from rfl] at this ⊢
    omega
theorem rnd_zero (B : Nat) (g : Bool) : rndR 0 B g = 0 := by
  unfold rndR
  have h0 : mag dbl 0 = 0 := (mag_zero dbl).2 rfl
  have hf : floorR 0 = 0 := rfl
  rw [Nat.zero_div, hf, h0, Nat.zero_mul, if_neg (by simp)]
theorem seal_zero (n g : Bool) : sealW n 0 g = 0 := rfl
theorem mulR_rd (a b : Nat) (d : Bool) : mulR a b d = rdP (sv a * sv b) one74 d := by
  unfold mulR rdP
  rw [← sv_mul']
  generalize (sg dbl a != sg dbl b) = s
  generalize mag dbl (rg dbl a) * mag dbl (rg dbl b) = M
  rcases Nat.eq_zero_or_pos M with rfl | hM
  · rw [sgn_zeroZ, show Int.natAbs 0 = 0 from rfl, rnd_zero, rnd_zero, seal_zero, seal_zero]
  · cases s with
    | false =>
      have h1 : decide (sgn false M < 0) = false := decide_eq_false (by simp only [sgn, Bool.false_eq_true, if_false]; omega)
      rw [h1]; rfl
    | true =>
      have h1 : decide (sgn true M < 0) = true := decide_eq_true (by simp only [sgn, if_true]; omega)
      have h2 : (sgn true M).natAbs = M := by simp only [sgn, if_true]; omega
      rw [h1, h2]

/-! ### Least and greatest -/
theorem sv_min (x y : Nat) : sv (minW x y) = min (sv x) (sv y) := by unfold minW; split <;> omega
theorem sv_max (x y : Nat) : sv (maxW x y) = max (sv x) (sv y) := by unfold maxW; split <;> omega
/-- What an infinity is worth. -/
def MI : Int := (mag dbl 9218868437227405312 : Int)
theorem MI_eq : (mag dbl 9218868437227405312 : Int) = MI := rfl
theorem MI_pos : 0 < MI := by
  have h := inf_mag_pos
  rw [← MI_eq]
  generalize mag dbl 9218868437227405312 = M at h ⊢
  omega
theorem num_sv {x : Nat} (h : num x) : -MI ≤ sv x ∧ sv x ≤ MI := by
  have := magI h.2
  rw [MI_eq] at this
  unfold sv
  split <;> omega
theorem fin_iff {x : Nat} (h : num x) : fin x = true ↔ (-MI < sv x ∧ sv x < MI) := by
  unfold fin
  rw [decide_eq_true_eq]
  constructor
  · intro h1
    have h2 : (mag dbl (rg dbl x) : Int) < MI := by rw [← MI_eq]; exact_mod_cast mag_lt h1
    unfold sv
    split <;> omega
  · intro ⟨h1, h2⟩
    rcases Nat.lt_or_ge (rg dbl x) 9218868437227405312 with h3 | h3
    · exact h3
    · exfalso
      have h4 := magI h3
      rw [MI_eq] at h4
      unfold sv at h1 h2
      generalize (mag dbl (rg dbl x) : Int) = b at h1 h2 h4
      cases hs : sg dbl x with
      | true => rw [hs] at h1; simp only [if_true] at h1; omega
      | false => rw [hs] at h2; simp only [Bool.false_eq_true, if_false] at h2; omega

/-! ### Floors -/
end Go.LI.Fl
namespace Go.LI.Film
open Go.Proofs.Ytbjcipikclbecaa Go Go.Proofs Go.LI Go.LI.Fl
set_option linter.unusedVariables false
set_option linter.unusedSimpArgs false
set_option maxRecDepth 100000
set_option exponentiation.threshold 2500

/-! ### Within -/
/-- One span lies in another one. -/
structure Inn (a b c d : Nat) : Prop where
  na : num a
  nb : num b
  nc : num c
  nd : num d
  lo : sv a ≤ sv c
  mi : sv c ≤ sv d
  hi : sv d ≤ sv b
theorem nil_sv {a b : Nat} (ha : num a) (hb : num b) : nilS a b = (decide (sv a = 0) && decide (sv b = 0)) := by
  unfold nilS
  rw [feq_sv ha num_nil, feq_sv hb num_nil, sv_zero']
theorem pro_sv {a b z : Nat} (fa : fin a = true) (fb : fin b = true) (fz : fin z = true) :
    sv (proL a b z z) = min (min (min (min (sv infW) (sv (rdP (sv a * sv z) one74 true))) (sv (rdP (sv a * sv z) one74 true))) (sv (rdP (sv b * sv z) one74 true))) (sv (rdP (sv b * sv z) one74 true)) ∧
    sv (proH a b z z) = max (max (max (max (sv ninfW) (sv (rdP (sv a * sv z) one74 false))) (sv (rdP (sv a * sv z) one74 false))) (sv (rdP (sv b * sv z) one74 false))) (sv (rdP (sv b * sv z) one74 false)) := by
  have e : ∀ x d, fin x = true → mulV x z d = rdP (sv x * sv z) one74 d := fun x d hx => by
    unfold mulV
    rw [hx, fz]
    exact (if_pos rfl).trans (mulR_rd x z d)
  unfold proL proH
  rw [e a true fa, e b true fb, e a false fa, e b false fb]
  refine ⟨?_, ?_⟩ <;> simp only [sv_min, sv_max]
theorem rdP_zero (B : Nat) (d : Bool) : rdP 0 B d = 0 := by
  unfold rdP
  rw [show Int.natAbs 0 = 0 from rfl, rnd_zero, seal_zero]
theorem inf_sv : sv infW = MI ∧ sv ninfW = -MI := ⟨sv_pinf, sv_ninf⟩
theorem wide_or {a b z : Nat} (fz : fin z = true) : (wideS a b || wideS z z) = !(fin a && fin b) := by
  unfold wideS
  rw [fz]
  simp
theorem min4 (M X Y : Int) : min (min (min (min M X) X) Y) Y = min M (min X Y) := by omega
theorem max4 (M X Y : Int) : max (max (max (max M X) X) Y) Y = max M (max X Y) := by omega
theorem mm0 {M : Int} (h : 0 < M) : 0 = min M (min 0 0) ∧ 0 = max (-M) (max 0 0) := by omega
theorem zero_fin {M a : Int} (h : 0 < M) (h0 : a = 0) : -M < a ∧ a < M := by omega
/-- A span times a number, as numbers. -/
theorem mul_sv {a b z : Nat} (ha : num a) (hb : num b) (hz : num z) (fz : fin z = true) :
    ((fin a && fin b) = true → sv (mulL a b z z) = min MI (min (sv (rdP (sv a * sv z) one74 true)) (sv (rdP (sv b * sv z) one74 true))) ∧
      sv (mulH a b z z) = max (-MI) (max (sv (rdP (sv a * sv z) one74 false)) (sv (rdP (sv b * sv z) one74 false)))) ∧
    ((fin a && fin b) = false → sv z = 0 → sv (mulL a b z z) = 0 ∧ sv (mulH a b z z) = 0) ∧
    ((fin a && fin b) = false → sv z ≠ 0 → sv (mulL a b z z) = -MI ∧ sv (mulH a b z z) = MI) := by
  have hM := MI_pos
  have z0 : sv 0 = 0 := sv_zero'
  unfold mulL mulH
  rw [nil_sv ha hb, nil_sv hz hz, wide_or fz, Bool.and_self]
  refine ⟨fun hf => ?_, fun hf h0 => ?_, fun hf h0 => ?_⟩
  · have hab := hf
    rw [Bool.and_eq_true] at hab
    rw [hf]
    obtain ⟨p1, p2⟩ := pro_sv hab.1 hab.2 fz
    by_cases hn : (decide (sv a = 0) && decide (sv b = 0) || decide (sv z = 0)) = true
    · rw [hn, cond_true, cond_true]
      have e : sv a * sv z = 0 ∧ sv b * sv z = 0 := by
        rw [Bool.or_eq_true, Bool.and_eq_true, decide_eq_true_eq, decide_eq_true_eq, decide_eq_true_eq] at hn
        rcases hn with ⟨h1, h2⟩ | h1
        · rw [h1, h2, Int.zero_mul]; exact ⟨rfl, rfl⟩
        · rw [h1, Int.mul_zero, Int.mul_zero]; exact ⟨rfl, rfl⟩
      rw [e.1, e.2, rdP_zero, rdP_zero, z0]
      exact mm0 hM
    · rw [show (decide (sv a = 0) && decide (sv b = 0) || decide (sv z = 0)) = false by simpa using hn, cond_false, cond_false, Bool.not_true, cond_false, cond_false, p1, p2, inf_sv.1, inf_sv.2]
      exact ⟨min4 _ _ _, max4 _ _ _⟩
  · rw [h0]
    simp only [decide_true, Bool.or_true, cond_true, z0, and_self]
  · have hn : (decide (sv a = 0) && decide (sv b = 0) || decide (sv z = 0)) = false := by
      rw [decide_eq_false h0, Bool.or_false]
      cases h1 : decide (sv a = 0) with
      | false => rfl
      | true =>
        cases h2 : decide (sv b = 0) with
        | false => rfl
        | true =>
          have fa : fin a = true := (fin_iff ha).2 (zero_fin hM (of_decide_eq_true h1))
          have fb : fin b = true := (fin_iff hb).2 (zero_fin hM (of_decide_eq_true h2))
          rw [fa, fb] at hf
          cases hf
    rw [hn, hf, cond_false, cond_false, Bool.not_false, cond_true, cond_true]
    exact ⟨inf_sv.2, inf_sv.1⟩
/-! ### What a texture comes to -/
theorem of_fin {x : Nat} (h : fin x = true) : ofL x = zw x ∧ ofH x = zw x := by
  unfold ofL ofH
  rw [h]
  exact ⟨rfl, rfl⟩
theorem getD_set_self {α : Type} {l : List α} {i : Nat} {a d : α} (h : i < l.length) : (l.set i a).getD i d = a := by
  rw [List.getD_eq_getElem?_getD, List.getElem?_set_self h]; rfl
theorem getD_set_ne {α : Type} {l : List α} {i j : Nat} {a d : α} (h : i ≠ j) : (l.set i a).getD j d = l.getD j d := by
  rw [List.getD_eq_getElem?_getD, List.getElem?_set_ne h, List.getD_eq_getElem?_getD]
end Go.LI.Film

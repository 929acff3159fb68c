/- Rounding is isotone: products, floors, and what a texture comes to at places within. -/
import Derived.Test.YtbjcipikclbecaaTvK1
import Derived.Test.YtbjcipikclbecaaFlD
namespace Go.LI.Fl
open Go Go.LI Ieee
set_option linter.unusedVariables false
set_option maxRecDepth 100000
set_option exponentiation.threshold 2500

theorem rnd_max {A B r : Nat} (hB : 0 < B) (h : mag dbl r * B ≤ A) : r ≤ rndR A B false := by
  unfold rndR
  rw [if_neg (by simp), Nat.add_zero]
  rcases Nat.lt_or_ge (floorR (A / B)) r with hh | hh
  · exfalso
    have h1 := (floorR_leZ (A / B)).2
    have h2 : mag dbl (floorR (A / B) + 1) ≤ mag dbl r := mag_le hh
    have h3 := Nat.div_lt_iff_lt_mul hB |>.1 (Nat.lt_of_lt_of_le h1 h2)
    omega
  · exact hh
theorem rnd_mono {A A' B : Nat} {g : Bool} (hB : 0 < B) (h : A ≤ A') : rndR A B g ≤ rndR A' B g := by
  cases g with
  | true => exact rnd_cap hB (Nat.le_trans h (rnd_up hB))
  | false => exact rnd_max hB (Nat.le_trans (rnd_dn hB) h)
theorem rnd_gro {A B : Nat} : rndR A B false ≤ rndR A B true := by
  unfold rndR
  rw [if_neg (by simp)]
  omega
def capR (r : Nat) (g : Bool) : Nat := if r < 9218868437227405312 then r else if g then 9218868437227405312 else 9218868437227405311
theorem capR_mono {r r' : Nat} {g g' : Bool} (h : r ≤ r') (hg : g = true → g' = true) : capR r g ≤ capR r' g' := by
  unfold capR
  cases g with
  | false => cases g' <;> (simp only [Bool.false_eq_true, if_false, if_true]; split <;> split <;> omega)
  | true => rw [hg rfl]; simp only [if_true]; split <;> split <;> omega
theorem sv_sealC (n : Bool) (r : Nat) (g : Bool) : sv (sealW n r g) = sgn n (mag dbl (capR r g)) := sv_seal n r g
/-- P / B, rounded. -/
def rdP (P : Int) (B : Nat) (d : Bool) : Nat := sealW (decide (P < 0)) (rndR P.natAbs B (decide (P < 0) == d)) (decide (P < 0) == d)
theorem magI {r s : Nat} (h : r ≤ s) : (mag dbl r : Int) ≤ (mag dbl s : Int) := by exact_mod_cast mag_le h
theorem rdP_mono {P P' : Int} {B : Nat} {d : Bool} (hB : 0 < B) (h : P ≤ P') : sv (rdP P B d) ≤ sv (rdP P' B d) := by
  unfold rdP
  rw [sv_sealC, sv_sealC]
  by_cases h1 : P < 0
  · by_cases h2 : P' < 0
    · rw [decide_eq_true h1, decide_eq_true h2]
      simp only [sgn, if_true]
      have := magI (capR_mono (g := (true == d)) (g' := (true == d)) (rnd_mono (g := (true == d)) hB (show P'.natAbs ≤ P.natAbs by omega)) id)
      omega
    · rw [decide_eq_true h1, decide_eq_false h2]
      simp only [sgn, if_true, Bool.false_eq_true, if_false]
      omega
  · rw [decide_eq_false h1, decide_eq_false (show ¬ P' < 0 by omega)]
    simp only [sgn, Bool.false_eq_true, if_false]
    exact magI (capR_mono (rnd_mono hB (by omega)) id)
theorem rdP_dn_up {P : Int} {B : Nat} : sv (rdP P B true) ≤ sv (rdP P B false) := by
  unfold rdP
  rw [sv_sealC, sv_sealC]
  by_cases h1 : P < 0
  · rw [decide_eq_true h1]
    simp only [sgn, if_true]
    have := magI (capR_mono (g := (true == false)) (g' := (true == true)) (rnd_gro (A := P.natAbs) (B := B)) (by simp))
    simp only [show (true == false) = false from rfl, show (true == true) = true from rfl] at this ⊢
    omega
  · rw [decide_eq_false h1]
    simp only [sgn, Bool.false_eq_true, if_false]
    have := magI (capR_mono (g := (false == true)) (g' := (false == false)) (rnd_gro (A := P.natAbs) (B := B)) (by simp))
    simp only [show (false == true) = false from rfl, show (false == false) = true from rfl] at this ⊢
    omega
theorem rnd_zero (B : Nat) (g : Bool) : rndR 0 B g = 0 := by
  unfold rndR
  have h0 : mag dbl 0 = 0 := (mag_zero dbl).2 rfl
  have hf : floorR 0 = 0 := rfl
  rw [Nat.zero_div, hf, h0, Nat.zero_mul, if_neg (by simp)]
theorem seal_zero (n g : Bool) : sealW n 0 g = 0 := rfl
theorem mulR_rd (a b : Nat) (d : Bool) : mulR a b d = rdP (sv a * sv b) one74 d := by
  unfold mulR rdP
  rw [← sv_mul']
  generalize (sg dbl a != sg dbl b) = s
  generalize mag dbl (rg dbl a) * mag dbl (rg dbl b) = M
  rcases Nat.eq_zero_or_pos M with rfl | hM
  · rw [sgn_zeroZ, show Int.natAbs 0 = 0 from rfl, rnd_zero, rnd_zero, seal_zero, seal_zero]
  · cases s with
    | false =>
      have h1 : decide (sgn false M < 0) = false := decide_eq_false (by simp only [sgn, Bool.false_eq_true, if_false]; omega)
      rw [h1]; rfl
    | true =>
      have h1 : decide (sgn true M < 0) = true := decide_eq_true (by simp only [sgn, if_true]; omega)
      have h2 : (sgn true M).natAbs = M := by simp only [sgn, if_true]; omega
      rw [h1, h2]

/-! ### Least and greatest -/
theorem sv_min (x y : Nat) : sv (minW x y) = min (sv x) (sv y) := by unfold minW; split <;> omega
theorem sv_max (x y : Nat) : sv (maxW x y) = max (sv x) (sv y) := by unfold maxW; split <;> omega
/-- What an infinity is worth. -/
def MI : Int := (mag dbl 9218868437227405312 : Int)
theorem MI_eq : (mag dbl 9218868437227405312 : Int) = MI := rfl
theorem MI_pos : 0 < MI := by
  have h := inf_mag_pos
  rw [← MI_eq]
  generalize mag dbl 9218868437227405312 = M at h ⊢
  omega
theorem num_sv {x : Nat} (h : num x) : -MI ≤ sv x ∧ sv x ≤ MI := by
  have := magI h.2
  rw [MI_eq] at this
  unfold sv
  split <;> omega
theorem fin_iff {x : Nat} (h : num x) : fin x = true ↔ (-MI < sv x ∧ sv x < MI) := by
  unfold fin
  rw [decide_eq_true_eq]
  constructor
  · intro h1
    have h2 : (mag dbl (rg dbl x) : Int) < MI := by rw [← MI_eq]; exact_mod_cast mag_lt h1
    unfold sv
    split <;> omega
  · intro ⟨h1, h2⟩
    rcases Nat.lt_or_ge (rg dbl x) 9218868437227405312 with h3 | h3
    · exact h3
    · exfalso
      have h4 := magI h3
      rw [MI_eq] at h4
      unfold sv at h1 h2
      generalize (mag dbl (rg dbl x) : Int) = b at h1 h2 h4
      cases hs : sg dbl x with
      | true => rw [hs] at h1; simp only [if_true] at h1; omega
      | false => rw [hs] at h2; simp only [Bool.false_eq_true, if_false] at h2; omega

/-! ### Floors -/
theorem cut_down (s : Bool) (n drop : Nat) : sgn s (Toward.down.cut s n drop) = sgn s n / ((2 ^ drop : Nat) : Int) := by
  have gap : ∀ g : Nat, 0 < g → sgn s (n / g + ((s && n % g != 0) : Bool).toNat) = sgn s n / (g : Int) := by
    intro g hg
    have h1 := Nat.div_add_mod n g
    have h2 := Nat.mod_lt n hg
    cases s with
    | false =>
      simp only [sgn, Bool.false_eq_true, if_false, Bool.false_and, Bool.toNat_false, Nat.add_zero]
      exact Int.natCast_ediv n g
    | true =>
      simp only [sgn, if_true, Bool.true_and]
      symm
      by_cases h0 : n % g = 0
      · rw [h0]
        simp only [bne_self_eq_false, Bool.toNat_false, Nat.add_zero]
        rw [h0, Nat.add_zero] at h1
        refine Int.ediv_eq_of_eq_mul_right (by omega) ?_
        have : ((g * (n / g) : Nat) : Int) = (n : Int) := by exact_mod_cast h1
        rw [Int.natCast_mul] at this
        rw [Int.mul_neg]
        omega
      · rw [show (n % g != 0) = true by simpa using h0, Bool.toNat_true]
        have h3 : ((g * (n / g) + n % g : Nat) : Int) = (n : Int) := by exact_mod_cast h1
        rw [Int.natCast_add, Int.natCast_mul] at h3
        have h4 : (-(n : Int)) = (g : Int) * (-((n / g + 1 : Nat) : Int)) + ((g : Int) - ((n % g : Nat) : Int)) := by
          rw [Int.mul_neg, Int.natCast_add, Int.mul_add]
          omega
        rw [h4, Int.add_comm, Int.add_mul_ediv_left _ _ (by omega)]
        rw [Int.ediv_eq_zero_of_lt (by omega) (by omega)]
        omega
  unfold Toward.cut
  simp only [Nat.one_shiftLeft]
  have hp := Nat.two_pow_pos drop
  by_cases h : drop ≤ n.log2 + 2
  · rw [Nat.min_eq_left h]
    exact gap _ hp
  · rw [Nat.min_eq_right (by omega)]
    have h1 : n < 2 ^ (n.log2 + 2) := Nat.lt_of_lt_of_le Nat.lt_log2_self (Nat.pow_le_pow_right (by decide) (by omega))
    have h2 : n < 2 ^ drop := Nat.lt_of_lt_of_le h1 (Nat.pow_le_pow_right (by decide) (by omega))
    rw [Nat.div_eq_of_lt h1, Nat.mod_eq_of_lt h1, ← gap _ hp, Nat.div_eq_of_lt h2, Nat.mod_eq_of_lt h2]
theorem sgn_mulN (s : Bool) (a b : Nat) : sgn s (a * b) = sgn s a * (b : Int) := by
  cases s <;> simp [sgn, Int.natCast_mul, Int.neg_mul]
theorem floor_sv {x i m : Nat} (h2 : m * 2 ^ i = mag dbl (rg dbl x)) (T : Nat) (hT : T = 1074) : sgn (sg dbl x) (Toward.down.cut (sg dbl x) (m <<< (-(T : Int) + (i : Int)).toNat) (-(-(T : Int) + (i : Int))).toNat) = sv x / ((2 ^ T : Nat) : Int) := by
  rw [cut_down, sv_sgnV, ← h2, Nat.shiftLeft_eq]
  by_cases hi : T ≤ i
  · have p1 : (-(T : Int) + (i : Int)).toNat = i - T := by omega
    have p2 : (-(-(T : Int) + (i : Int))).toNat = 0 := by omega
    have hp : 2 ^ i = 2 ^ (i - T) * 2 ^ T := by rw [← Nat.pow_add]; congr 1; omega
    rw [p1, p2, hp, ← Nat.mul_assoc, sgn_mulN _ _ (2 ^ T), Int.mul_ediv_cancel _ (by have := Nat.two_pow_pos T; omega), Nat.pow_zero]
    simp
  · have p1 : (-(T : Int) + (i : Int)).toNat = 0 := by omega
    have p2 : (-(-(T : Int) + (i : Int))).toNat = T - i := by omega
    have hp : 2 ^ T = 2 ^ (T - i) * 2 ^ i := by rw [← Nat.pow_add]; congr 1; omega
    have hq := Nat.two_pow_pos i
    rw [p1, p2, hp, Nat.pow_zero, Nat.mul_one, sgn_mulN, Int.natCast_mul, Int.mul_ediv_mul_of_pos_left _ _ (by omega)]
theorem near_zero {r : Nat} (h : Near dbl 0 1 r) : r = 0 := by
  have h0 : mag dbl 0 = 0 := (mag_zero dbl).2 rfl
  have := Near.exact (f := dbl) (S := 1) (r := 0) (by decide)
  rw [h0] at this
  exact h.uniq (by decide) this
/-- An integer's nearest word. -/
theorem near_int {s : Bool} {n : Nat} : ∃ r, dbl.nearest s n 0 = dbl.word s (min r 9218868437227405312) ∧ Near dbl (n * 2 ^ (0 - dbl.leastPlace).toNat) 1 r := by
  obtain ⟨r, h1, h2⟩ := nearest_spec dbl (by rw [dbl_B]) s n 0
  rw [dbl_inf] at h1
  refine ⟨r, h1, ?_⟩
  rw [show (dbl.leastPlace - 0).toNat = 0 by rw [dbl_L]; rfl, Nat.pow_zero] at h2
  exact h2
theorem nearest_mono {s t : Bool} {n m : Nat} (h : sgn s n ≤ sgn t m) : sv (dbl.nearest s n 0) ≤ sv (dbl.nearest t m 0) := by
  obtain ⟨r, e1, n1⟩ := near_int (s := s) (n := n)
  obtain ⟨q, e2, n2⟩ := near_int (s := t) (n := m)
  rw [e1, e2, sv_word' (Nat.min_le_right _ _), sv_word' (Nat.min_le_right _ _)]
  generalize (0 - dbl.leastPlace).toNat = K at n1 n2
  have mono : ∀ {a b x y : Nat}, Near dbl (a * 2 ^ K) 1 x → Near dbl (b * 2 ^ K) 1 y → a ≤ b → (mag dbl (min x 9218868437227405312) : Int) ≤ (mag dbl (min y 9218868437227405312) : Int) := by
    intro a b x y hx hy hab
    have h1 := hx.mono (by decide) hy (Nat.mul_le_mul_right _ hab)
    exact magI (by omega)
  cases s with
  | false =>
    cases t with
    | false =>
      simp only [sgn, Bool.false_eq_true, if_false] at h ⊢
      exact mono n1 n2 (by omega)
    | true =>
      simp only [sgn, Bool.false_eq_true, if_false, if_true] at h ⊢
      have h1 : n = 0 := by omega
      have h2 : m = 0 := by omega
      subst h1; subst h2
      rw [Nat.zero_mul] at n1 n2
      rw [near_zero n1, near_zero n2, show min 0 9218868437227405312 = 0 from rfl, (mag_zero dbl).2 rfl]
      decide
  | true =>
    cases t with
    | false => simp only [sgn, Bool.false_eq_true, if_false, if_true]; omega
    | true =>
      simp only [sgn, if_true] at h ⊢
      have := mono n2 n1 (by omega)
      omega
end Go.LI.Fl
namespace Go.LI.Film
open Go.Proofs.Ytbjcipikclbecaa Go Go.Proofs Go.LI Go.LI.Fl
set_option linter.unusedVariables false
set_option linter.unusedSimpArgs false
set_option maxRecDepth 100000
set_option exponentiation.threshold 2500

theorem flW_form {x : Nat} (hf : fin x = true) : ∃ (s : Bool) (n : Nat), clean (flW x) ∧ sv (flW x) = sv (dbl.nearest s n 0) ∧ sgn s n = sv x / ((2 ^ 1074 : Nat) : Int) := by
  obtain ⟨i, m, h1, h2⟩ := read_num (x := x) (of_decide_eq_true hf)
  have hd : FloatKind.f64.decode x = .number (sg dbl x) m (-1074 + (i : Int)) := h1
  unfold flW
  rw [hd]
  have hn : num (dbl.nearest (sg dbl x) (Ieee.Toward.down.cut (sg dbl x) (m <<< (-1074 + (i : Int)).toNat) (-(-1074 + (i : Int))).toNat) 0) := num_nearest _ _ _
  refine ⟨sg dbl x, _, clean_zw hn, sv_zw _, ?_⟩
  exact floor_sv h2 1074 rfl
theorem flW_mono {x y : Nat} (hx : fin x = true) (hy : fin y = true) (h : sv x ≤ sv y) : sv (flW x) ≤ sv (flW y) := by
  obtain ⟨s, n, _, e1, e2⟩ := flW_form hx
  obtain ⟨t, m, _, f1, f2⟩ := flW_form hy
  rw [e1, f1]
  refine nearest_mono ?_
  rw [e2, f2]
  exact Int.ediv_le_ediv (by have := Nat.two_pow_pos 1074; omega) h
theorem clean_flW {x : Nat} (hf : fin x = true) : clean (flW x) := by
  obtain ⟨s, n, h, _⟩ := flW_form hf
  exact h

/-! ### Within -/
/-- One span lies in another one. -/
structure Inn (a b c d : Nat) : Prop where
  na : num a
  nb : num b
  nc : num c
  nd : num d
  lo : sv a ≤ sv c
  mi : sv c ≤ sv d
  hi : sv d ≤ sv b
theorem fl_in {a b c d : Nat} (h : Inn a b c d) (hB : flB a b = true) : flB c d = true ∧ flN c d = flN a b ∧ flA c d = flA a b := by
  have hB' := hB
  unfold flB at hB'
  simp only [Bool.and_eq_true] at hB'
  obtain ⟨⟨fa, fb⟩, he, hr⟩ := hB'
  have ga := (fin_iff h.na).1 fa
  have gb := (fin_iff h.nb).1 fb
  have fc : fin c = true := (fin_iff h.nc).2 (by have := h.lo; have := h.mi; have := h.hi; omega)
  have fd : fin d = true := (fin_iff h.nd).2 (by have := h.lo; have := h.mi; have := h.hi; omega)
  have ca := clean_flW fa
  have cb := clean_flW fb
  have cc := clean_flW fc
  have cd := clean_flW fd
  rw [feq_sv ca.1 cb.1, decide_eq_true_eq] at he
  have m1 := flW_mono fa fc h.lo
  have m2 := flW_mono fc fd h.mi
  have m3 := flW_mono fd fb h.hi
  have e1 : flW c = flW a := clean_eq cc ca (by omega)
  have e2 : flW d = flW a := clean_eq cd ca (by omega)
  have e3 : flW b = flW a := clean_eq cb ca (by omega)
  have hcd : flB c d = true := by
    unfold flB at hB ⊢
    rw [fa, fb, e3] at hB
    rw [fc, fd, e1, e2]
    exact hB
  refine ⟨hcd, ?_, ?_⟩
  · unfold flN
    rw [hB, hcd, e1]
  · unfold flA
    rw [hB, hcd]
theorem nil_sv {a b : Nat} (ha : num a) (hb : num b) : nilS a b = (decide (sv a = 0) && decide (sv b = 0)) := by
  unfold nilS
  rw [feq_sv ha num_nil, feq_sv hb num_nil, sv_zero']
theorem pro_sv {a b z : Nat} (fa : fin a = true) (fb : fin b = true) (fz : fin z = true) :
    sv (proL a b z z) = min (min (min (min (sv infW) (sv (rdP (sv a * sv z) one74 true))) (sv (rdP (sv a * sv z) one74 true))) (sv (rdP (sv b * sv z) one74 true))) (sv (rdP (sv b * sv z) one74 true)) ∧
    sv (proH a b z z) = max (max (max (max (sv ninfW) (sv (rdP (sv a * sv z) one74 false))) (sv (rdP (sv a * sv z) one74 false))) (sv (rdP (sv b * sv z) one74 false))) (sv (rdP (sv b * sv z) one74 false)) := by
  have e : ∀ x d, fin x = true → mulV x z d = rdP (sv x * sv z) one74 d := fun x d hx => by
    unfold mulV
    rw [hx, fz]
    exact (if_pos rfl).trans (mulR_rd x z d)
  unfold proL proH
  rw [e a true fa, e b true fb, e a false fa, e b false fb]
  refine ⟨?_, ?_⟩ <;> simp only [sv_min, sv_max]
theorem rdP_zero (B : Nat) (d : Bool) : rdP 0 B d = 0 := by
  unfold rdP
  rw [show Int.natAbs 0 = 0 from rfl, rnd_zero, seal_zero]
theorem inf_sv : sv infW = MI ∧ sv ninfW = -MI := ⟨sv_pinf, sv_ninf⟩
theorem wide_or {a b z : Nat} (fz : fin z = true) : (wideS a b || wideS z z) = !(fin a && fin b) := by
  unfold wideS
  rw [fz]
  simp
theorem min4 (M X Y : Int) : min (min (min (min M X) X) Y) Y = min M (min X Y) := by omega
theorem max4 (M X Y : Int) : max (max (max (max M X) X) Y) Y = max M (max X Y) := by omega
theorem mm0 {M : Int} (h : 0 < M) : 0 = min M (min 0 0) ∧ 0 = max (-M) (max 0 0) := by omega
theorem mm1 {M A B C D : Int} (h : 0 < M) (h1 : A ≤ C) : min M (min A B) ≤ max (-M) (max C D) := by omega
theorem mm2 {M A B C D : Int} (h : (A ≤ C ∧ C ≤ D) ∨ (B ≤ D ∧ D ≤ C)) : min M (min A B) ≤ min M (min C D) := by omega
theorem mm3 {M A B C D : Int} (h : (C ≤ D ∧ D ≤ B) ∨ (D ≤ C ∧ C ≤ A)) : max (-M) (max C D) ≤ max (-M) (max A B) := by omega
theorem in_fin {M a b c d : Int} (h1 : a ≤ c) (h2 : c ≤ d) (h3 : d ≤ b) (ga : -M < a ∧ a < M) (gb : -M < b ∧ b < M) : (-M < c ∧ c < M) ∧ (-M < d ∧ d < M) := by omega
theorem zero_fin {M a : Int} (h : 0 < M) (h0 : a = 0) : -M < a ∧ a < M := by omega
/-- A span times a number, as numbers. -/
theorem mul_sv {a b z : Nat} (ha : num a) (hb : num b) (hz : num z) (fz : fin z = true) :
    ((fin a && fin b) = true → sv (mulL a b z z) = min MI (min (sv (rdP (sv a * sv z) one74 true)) (sv (rdP (sv b * sv z) one74 true))) ∧
      sv (mulH a b z z) = max (-MI) (max (sv (rdP (sv a * sv z) one74 false)) (sv (rdP (sv b * sv z) one74 false)))) ∧
    ((fin a && fin b) = false → sv z = 0 → sv (mulL a b z z) = 0 ∧ sv (mulH a b z z) = 0) ∧
    ((fin a && fin b) = false → sv z ≠ 0 → sv (mulL a b z z) = -MI ∧ sv (mulH a b z z) = MI) := by
  have hM := MI_pos
  have z0 : sv 0 = 0 := sv_zero'
  unfold mulL mulH
  rw [nil_sv ha hb, nil_sv hz hz, wide_or fz, Bool.and_self]
  refine ⟨fun hf => ?_, fun hf h0 => ?_, fun hf h0 => ?_⟩
  · have hab := hf
    rw [Bool.and_eq_true] at hab
    rw [hf]
    obtain ⟨p1, p2⟩ := pro_sv hab.1 hab.2 fz
    by_cases hn : (decide (sv a = 0) && decide (sv b = 0) || decide (sv z = 0)) = true
    · rw [hn, cond_true, cond_true]
      have e : sv a * sv z = 0 ∧ sv b * sv z = 0 := by
        rw [Bool.or_eq_true, Bool.and_eq_true, decide_eq_true_eq, decide_eq_true_eq, decide_eq_true_eq] at hn
        rcases hn with ⟨h1, h2⟩ | h1
        · rw [h1, h2, Int.zero_mul]; exact ⟨rfl, rfl⟩
        · rw [h1, Int.mul_zero, Int.mul_zero]; exact ⟨rfl, rfl⟩
      rw [e.1, e.2, rdP_zero, rdP_zero, z0]
      exact mm0 hM
    · rw [show (decide (sv a = 0) && decide (sv b = 0) || decide (sv z = 0)) = false by simpa using hn, cond_false, cond_false, Bool.not_true, cond_false, cond_false, p1, p2, inf_sv.1, inf_sv.2]
      exact ⟨min4 _ _ _, max4 _ _ _⟩
  · rw [h0]
    simp only [decide_true, Bool.or_true, cond_true, z0, and_self]
  · have hn : (decide (sv a = 0) && decide (sv b = 0) || decide (sv z = 0)) = false := by
      rw [decide_eq_false h0, Bool.or_false]
      cases h1 : decide (sv a = 0) with
      | false => rfl
      | true =>
        cases h2 : decide (sv b = 0) with
        | false => rfl
        | true =>
          have fa : fin a = true := (fin_iff ha).2 (zero_fin hM (of_decide_eq_true h1))
          have fb : fin b = true := (fin_iff hb).2 (zero_fin hM (of_decide_eq_true h2))
          rw [fa, fb] at hf
          cases hf
    rw [hn, hf, cond_false, cond_false, Bool.not_false, cond_true, cond_true]
    exact ⟨inf_sv.2, inf_sv.1⟩
theorem mul_mi {c d z : Nat} (hc : num c) (hd : num d) (hz : num z) (fz : fin z = true) : sv (mulL c d z z) ≤ sv (mulH c d z z) := by
  have hM := MI_pos
  obtain ⟨p1, p2, p3⟩ := mul_sv hc hd hz fz
  cases hf : (fin c && fin d) with
  | true =>
    rw [(p1 hf).1, (p1 hf).2]
    exact mm1 hM rdP_dn_up
  | false =>
    by_cases h0 : sv z = 0
    · rw [(p2 hf h0).1, (p2 hf h0).2]; exact Int.le_refl _
    · rw [(p3 hf h0).1, (p3 hf h0).2]
      generalize MI = M at hM ⊢
      clear p1 p2 p3
      omega
/-- Times a number, what lies within stays within. -/
theorem mul_in {a b c d z : Nat} (h : Inn a b c d) (hz : num z) (fz : fin z = true) : Inn (mulL a b z z) (mulH a b z z) (mulL c d z z) (mulH c d z z) := by
  have hM := MI_pos
  obtain ⟨p1, p2, p3⟩ := mul_sv h.na h.nb hz fz
  obtain ⟨q1, q2, q3⟩ := mul_sv h.nc h.nd hz fz
  have key : sv (mulL a b z z) ≤ sv (mulL c d z z) ∧ sv (mulH c d z z) ≤ sv (mulH a b z z) := by
    cases hf : (fin a && fin b) with
    | true =>
      have hab := hf
      rw [Bool.and_eq_true] at hab
      obtain ⟨gc, gd⟩ := in_fin h.lo h.mi h.hi ((fin_iff h.na).1 hab.1) ((fin_iff h.nb).1 hab.2)
      have fc : fin c = true := (fin_iff h.nc).2 gc
      have fd : fin d = true := (fin_iff h.nd).2 gd
      have hcd : (fin c && fin d) = true := by rw [fc, fd]; rfl
      rw [(p1 hf).1, (p1 hf).2, (q1 hcd).1, (q1 hcd).2]
      have mono : ∀ {x y : Nat} (g : Bool), sv x * sv z ≤ sv y * sv z → sv (rdP (sv x * sv z) one74 g) ≤ sv (rdP (sv y * sv z) one74 g) := fun g hxy => rdP_mono one74_pos hxy
      rcases Int.le_total 0 (sv z) with hs | hs
      · have m1 := Int.mul_le_mul_of_nonneg_right h.lo hs
        have m2 := Int.mul_le_mul_of_nonneg_right h.mi hs
        have m3 := Int.mul_le_mul_of_nonneg_right h.hi hs
        exact ⟨mm2 (.inl ⟨mono true m1, mono true m2⟩), mm3 (.inl ⟨mono false m2, mono false m3⟩)⟩
      · have m1 := Int.mul_le_mul_of_nonpos_right h.lo hs
        have m2 := Int.mul_le_mul_of_nonpos_right h.mi hs
        have m3 := Int.mul_le_mul_of_nonpos_right h.hi hs
        exact ⟨mm2 (.inr ⟨mono true m3, mono true m2⟩), mm3 (.inr ⟨mono false m2, mono false m1⟩)⟩
    | false =>
      by_cases h0 : sv z = 0
      · rw [(p2 hf h0).1, (p2 hf h0).2]
        cases hg : (fin c && fin d) with
        | true =>
          rw [(q1 hg).1, (q1 hg).2, h0, Int.mul_zero, Int.mul_zero, rdP_zero, rdP_zero, sv_zero', ← (mm0 hM).1, ← (mm0 hM).2]
          exact ⟨Int.le_refl _, Int.le_refl _⟩
        | false =>
          rw [(q2 hg h0).1, (q2 hg h0).2]
          exact ⟨Int.le_refl _, Int.le_refl _⟩
      · rw [(p3 hf h0).1, (p3 hf h0).2]
        exact ⟨(num_sv (clean_mulL c d z z).1).1, (num_sv (clean_mulH c d z z).1).2⟩
  exact ⟨(clean_mulL _ _ _ _).1, (clean_mulH _ _ _ _).1, (clean_mulL _ _ _ _).1, (clean_mulH _ _ _ _).1, key.1, mul_mi h.nc h.nd hz fz, key.2⟩

/-! ### What a texture comes to -/
theorem of_fin {x : Nat} (h : fin x = true) : ofL x = zw x ∧ ofH x = zw x := by
  unfold ofL ofH
  rw [h]
  exact ⟨rfl, rfl⟩
theorem both_yes {a b : Int} (h : both a b = 1) : a = 1 ∧ b = 1 := by
  unfold both at h
  cases hc : (a == 1 && b == 1) with
  | true => simpa using hc
  | false => rw [hc] at h; cases h
theorem flA_yes {a b : Nat} (h : flA a b = 1) : flB a b = true := by
  unfold flA at h
  cases hc : flB a b with
  | true => rfl
  | false => rw [hc] at h; cases h
theorem mul_of {a b c d s : Nat} (h : Inn a b c d) (hs : s < 2 ^ 64) (fs : fin s = true) : Inn (mulL a b (ofL s) (ofH s)) (mulH a b (ofL s) (ofH s)) (mulL c d (ofL s) (ofH s)) (mulH c d (ofL s) (ofH s)) := by
  rw [(of_fin fs).1, (of_fin fs).2]
  exact mul_in h (zw_num (num_fin hs fs)) (zw_fin fs)
/-- Sure stays, and with it all. -/
def Sur (x y : Vl) : Prop := x.s = 1 → y = x
theorem fW_fin {n : Int} (h1 : 1 ≤ n) (h2 : n ≤ 1024) : fW n < 2 ^ 64 ∧ fin (fW n) = true := by
  have h : (List.range 1025).all (fun k => decide (FloatKind.nearest .f64 (k : Int) < 2 ^ 64) && fin (FloatKind.nearest .f64 (k : Int))) = true := by decide +kernel
  rw [List.all_eq_true] at h
  have := h n.toNat (by rw [List.mem_range]; omega)
  rw [Bool.and_eq_true, decide_eq_true_eq, show ((n.toNat : Nat) : Int) = n by omega] at this
  exact this
theorem lawful_wh {w h : Int} {n : Nat} (hl : lawful w h n = true) : (1 ≤ w ∧ w ≤ 1024) ∧ (1 ≤ h ∧ h ≤ 1024) := by
  unfold lawful at hl
  simp only [Bool.and_eq_true, decide_eq_true_eq] at hl
  omega
theorem samp_sur {w h : Int} {px : List Tri} {u0 u1 v0 v1 a0 a1 b0 b1 : Nat} (hu : Inn u0 u1 a0 a1) (hv : Inn v0 v1 b0 b1) : Sur (sampV w h px u0 u1 v0 v1) (sampV w h px a0 a1 b0 b1) := by
  unfold Sur sampV
  cases hl : lawful w h px.length with
  | false => intro h; cases h
  | true =>
    rw [cond_true, cond_true]
    intro hs
    obtain ⟨⟨w1, w2⟩, ⟨h1, h2⟩⟩ := lawful_wh hl
    obtain ⟨g1, g2⟩ := fW_fin w1 w2
    obtain ⟨k1, k2⟩ := fW_fin h1 h2
    simp only at hs
    obtain ⟨s1, s2⟩ := both_yes hs
    obtain ⟨-, n1, m1⟩ := fl_in (mul_of hu g1 g2) (flA_yes s1)
    obtain ⟨-, n2, m2⟩ := fl_in (mul_of hv k1 k2) (flA_yes s2)
    simp only
    rw [n1, n2, m1, m2]
theorem one_sur {ps : List Pi} {u0 u1 v0 v1 a0 a1 b0 b1 : Nat} (hu : Inn u0 u1 a0 a1) (hv : Inn v0 v1 b0 b1) {t : Tx} {x y x' y' : Vl} (ht : t.w) (hf : t.k = 2 ∨ t.k = 4 → fin t.s = true) (hx : Sur x x') (hy : Sur y y') : Sur (oneV ps u0 u1 v0 v1 t x y) (oneV ps a0 a1 b0 b1 t x' y') := by
  unfold Sur oneV
  cases k2 : t.k == 2 with
  | true =>
    have fs := hf (.inl (by simpa using k2))
    rw [cond_true, cond_true]
    intro hs
    simp only at hs
    obtain ⟨s1, s2⟩ := both_yes hs
    obtain ⟨s1, s3⟩ := both_yes s1
    obtain ⟨-, n1, m1⟩ := fl_in (mul_of hu ht.2.2.2 fs) (flA_yes s1)
    obtain ⟨-, n2, m2⟩ := fl_in (mul_of hv ht.2.2.2 fs) (flA_yes s3)
    simp only
    rw [n1, n2, m1, m2]
    generalize (Int.tmod _ 2 != 0) = c at s2 ⊢
    cases c with
    | true => rw [cond_true, cond_true]; rw [cond_true] at s2; rw [hy s2]
    | false => rw [cond_false, cond_false]; rw [cond_false] at s2; rw [hx s2]
  | false =>
    rw [cond_false, cond_false]
    cases k3 : t.k == 3 with
    | true =>
      rw [cond_true, cond_true]
      intro hs
      obtain ⟨s1, s2⟩ := both_yes hs
      rw [hx s1, hy s2]
    | false =>
      rw [cond_false, cond_false]
      cases k4 : t.k == 4 with
      | true =>
        have fs := hf (.inr (by simpa using k4))
        rw [cond_true, cond_true]
        exact samp_sur (mul_of hu ht.2.2.2 fs) (mul_of hv ht.2.2.2 fs)
      | false =>
        rw [cond_false, cond_false]
        cases k5 : t.k == 5 with
        | true =>
          rw [cond_true, cond_true]
          intro hs
          rw [hx hs]
        | false => rw [cond_false, cond_false]; intro _; rfl
theorem getD_set_self {α : Type} {l : List α} {i : Nat} {a d : α} (h : i < l.length) : (l.set i a).getD i d = a := by
  rw [List.getD_eq_getElem?_getD, List.getElem?_set_self h]; rfl
theorem getD_set_ne {α : Type} {l : List α} {i j : Nat} {a d : α} (h : i ≠ j) : (l.set i a).getD j d = l.getD j d := by
  rw [List.getD_eq_getElem?_getD, List.getElem?_set_ne h, List.getD_eq_getElem?_getD]
theorem run_sur {ps : List Pi} {u0 u1 v0 v1 a0 a1 b0 b1 : Nat} (hu : Inn u0 u1 a0 a1) (hv : Inn v0 v1 b0 b1) {ts : List Tx} {nd : List Bool} {n : Nat} (ht : ∀ j, (ts.getD j Tx.nil).w) (hf : ∀ j, j < n → (ts.getD j Tx.nil).k = 2 ∨ (ts.getD j Tx.nil).k = 4 → fin (ts.getD j Tx.nil).s = true) :
    ∀ (r i : Nat) (vs vs' : List Vl), i + r = n → vs.length = vs'.length → (∀ j, Sur (vs.getD j Vl.nil) (vs'.getD j Vl.nil)) → ∀ j, Sur ((evRun (oneV ps u0 u1 v0 v1) ts nd r i vs).getD j Vl.nil) ((evRun (oneV ps a0 a1 b0 b1) ts nd r i vs').getD j Vl.nil)
  | 0, i, vs, vs', hi, hl, h => h
  | r + 1, i, vs, vs', hi, hl, h => by
    rw [evRun, evRun]
    cases nd.getD i false with
    | false => exact run_sur hu hv ht hf r (i + 1) vs vs' (by omega) hl h
    | true =>
      rw [cond_true, cond_true]
      refine run_sur hu hv ht hf r (i + 1) _ _ (by omega) (by simp [hl]) ?_
      have h1 := one_sur (ps := ps) hu hv (ht i) (hf i (by omega)) (h (ts.getD i Tx.nil).a.toNat) (h (ts.getD i Tx.nil).b.toNat)
      intro j
      by_cases hij : i = j
      · subst hij
        by_cases hil : i < vs.length
        · rw [getD_set_self hil, getD_set_self (by omega)]
          exact h1
        · rw [List.set_eq_of_length_le (by omega), List.set_eq_of_length_le (by omega)]
          exact h i
      · rw [getD_set_ne hij, getD_set_ne hij]
        exact h j
theorem chk_fin {t : Tx} {i p : Int} (h : chk t i p = 0) (hk : t.k = 2 ∨ t.k = 4) : fin t.s = true := by
  unfold chk at h
  have h1 : (decide (t.k < 1) || decide (t.k > 5)) = false := by
    rw [decide_eq_false (by omega), decide_eq_false (by omega)]; rfl
  have h2 : (t.k == 1 || t.k == 5) = false := by
    rw [show (t.k == 1) = false by rw [beq_eq_false_iff_ne]; omega, show (t.k == 5) = false by rw [beq_eq_false_iff_ne]; omega]; rfl
  have h3 : (t.k == 2 || t.k == 3 || t.k == 4) = true := by
    rcases hk with hk | hk <;> rw [hk] <;> rfl
  rw [h1, h2, h3, cond_false, Bool.false_and, cond_false, Bool.true_and] at h
  cases hf : fin t.s with
  | true => rfl
  | false => rw [hf, Bool.not_false, cond_true] at h; cases h
/-- Sure stays sure, with the same colour, at places within. -/
theorem evV_sur {ps : List Pi} {u0 u1 v0 v1 a0 a1 b0 b1 : Nat} (hu : Inn u0 u1 a0 a1) (hv : Inn v0 v1 b0 b1) {ts : List Tx} {n : Int} (ht : TsW ts) : Sur (evV ps u0 u1 v0 v1 ts n) (evV ps a0 a1 b0 b1 ts n) := by
  unfold evV
  cases he : (evE ts ps.length n == 0) with
  | false => intro h; cases h
  | true =>
    rw [cond_true, cond_true]
    have he0 : evE ts ps.length n = 0 := by simpa using he
    unfold evE at he0
    cases ho : (decide (n < 0) || decide (n ≥ (ts.length : Int))) with
    | true => rw [ho] at he0; cases he0
    | false =>
      rw [ho, cond_false] at he0
      have hck := chkA_all he0
      unfold evAll
      refine run_sur hu hv (fun j => ht.at j) (n := n.toNat + 1) (fun j hj hk => ?_) _ _ _ _ (by omega) rfl (fun j => ?_) _
      · rcases Nat.lt_or_ge j ts.length with hl | hl
        · have hg := List.getElem?_eq_getElem hl
          have hgd : ts.getD j Tx.nil = ts[j] := by rw [List.getD_eq_getElem?_getD, hg]; rfl
          rw [hgd] at hk ⊢
          exact chk_fin (hck j ts[j] (by rw [List.getElem?_take, if_pos hj]; exact hg)) hk
        · have hgd : ts.getD j Tx.nil = Tx.nil := by rw [List.getD_eq_getElem?_getD, List.getElem?_eq_none hl]; rfl
          rw [hgd] at hk
          rcases hk with hk | hk <;> cases hk
      · intro _; rfl
end Go.LI.Film

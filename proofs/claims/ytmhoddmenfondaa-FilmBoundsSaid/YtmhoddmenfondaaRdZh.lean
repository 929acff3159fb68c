/- FilmBounds: differences stay below the bound. -/
import Derived.Test.YtmhoddmenfondaaRdZf
namespace Go.LI.Fl
open Go Go.LI Ieee
set_option linter.unusedVariables false
set_option maxRecDepth 100000

theorem zero_sv : sv 0 = 0 := by have := (num_small (r := 0) (by decide)).2; rw [this, (mag_zero dbl).2 rfl]; rfl
theorem sv_neg {x : Nat} (h : num x) : sv (Op.negFloat .f64 x) = - sv x ∧ (fin (Op.negFloat .f64 x) = fin x) := by
  have hr : rg dbl x < 2 ^ 63 := by have := h.2; omega
  have h1 := negFloat_word (k := .f64) (s := sg dbl x) (r := rg dbl x) (by rw [show FloatKind.f64.format = dbl from rfl, dbl_sw]; exact hr)
  rw [show FloatKind.f64.format = dbl from rfl, word_self h.1] at h1
  rw [h1]
  constructor
  · rw [sv_word hr, sv_sgn]
    unfold sgn
    cases sg dbl x <;> simp
  · unfold fin
    rw [rg_word' hr]
/-- A difference, with its sign. -/
theorem sub_sv {x y : Nat} (hx : rg dbl x < 9218868437227405312) (hy : rg dbl y < 9218868437227405312) : ∃ w r, (FloatKind.format .f64).sub x y = some w ∧ num w ∧ Near dbl (sv x - sv y).natAbs 1 r ∧ sv w = sgn (decide (sv x - sv y < 0)) (mag dbl (min r 9218868437227405312)) := by
  obtain ⟨i, m, h1, h2⟩ := read_num hx
  obtain ⟨j, n, k1, k2⟩ := read_num hy
  have hsub : (FloatKind.format .f64).sub x y = ((dbl.read x).sum (dbl.read y).opposite).map dbl.write := rfl
  rw [hsub, h1, k1]
  simp only [Datum.opposite, Datum.sum, Option.map_some, Format.write]
  have hb : min (-1074 + (i : Int)) (-1074 + (j : Int)) = -1074 + ((min i j : Nat) : Int) := by omega
  rw [hb]
  have hv : (signed (sg dbl x) m (-1074 + (i : Int) - (-1074 + ((min i j : Nat) : Int))).toNat + signed (!sg dbl y) n (-1074 + (j : Int) - (-1074 + ((min i j : Nat) : Int))).toNat) * ((2 ^ min i j : Nat) : Int) = sv x - sv y := by
    rw [Int.add_mul, signed_sv, signed_sv, ← sgn_mul, ← sgn_mul, Nat.mul_assoc, Nat.mul_assoc, ← Nat.pow_add, ← Nat.pow_add]
    rw [show (-1074 + (i : Int) - (-1074 + ((min i j : Nat) : Int))).toNat + min i j = i by omega, show (-1074 + (j : Int) - (-1074 + ((min i j : Nat) : Int))).toNat + min i j = j by omega, h2, k2, sv_sgn, sv_sgn]
    unfold sgn
    cases sg dbl x <;> cases sg dbl y <;> simp <;> omega
  generalize signed (sg dbl x) m (-1074 + (i : Int) - (-1074 + ((min i j : Nat) : Int))).toNat + signed (!sg dbl y) n (-1074 + (j : Int) - (-1074 + ((min i j : Nat) : Int))).toNat = t at hv
  obtain ⟨r, q1, q2⟩ := near_dbl (if t = 0 then sg dbl x && !sg dbl y else decide (t < 0)) t.natAbs (min i j)
  have hpos : (0 : Int) < ((2 ^ min i j : Nat) : Int) := by exact_mod_cast Nat.two_pow_pos (min i j)
  have hq : Near dbl (sv x - sv y).natAbs 1 r := by
    rw [← hv, Int.natAbs_mul, Int.natAbs_natCast]
    exact q2
  refine ⟨_, r, congrArg some q1, ⟨min_word.1, by rw [min_word.2]; omega⟩, hq, ?_⟩
  rw [sv_word (by omega)]
  by_cases h0 : t = 0
  · have hS : sv x - sv y = 0 := by rw [← hv, h0, Int.zero_mul]
    rw [hS] at hq ⊢
    have hr0 : r = 0 := hq.uniq (by decide) (by have := Near.exact (f := dbl) (S := 1) (r := 0) (by decide); rwa [(mag_zero dbl).2 rfl] at this)
    rw [hr0, Nat.zero_min, (mag_zero dbl).2 rfl]
    unfold sgn; simp
  · rw [if_neg h0]
    congr 1
    apply decide_eq_decide.2
    rw [← hv]
    constructor
    · intro h
      exact Int.mul_neg_of_neg_of_pos h hpos
    · intro h
      by_cases hc : t < 0
      · exact hc
      · have : 0 ≤ t * ((2 ^ min i j : Nat) : Int) := Int.mul_nonneg (by omega) (by omega)
        omega

theorem floorR_le (S : Nat) : mag dbl (floorR S) ≤ S ∧ S < mag dbl (floorR S + 1) := by
  have hd := Nat.div_add_mod S (2 ^ (blen S - 53))
  have hm := Nat.mod_lt S (Nat.two_pow_pos (blen S - 53))
  have h5 := blen_div_pow S (blen S - 53)
  have hlt : S / 2 ^ (blen S - 53) < 2 ^ 53 := blen_lt.1 (by omega)
  have hge : blen S - 53 = 0 ∨ 2 ^ 52 ≤ S / 2 ^ (blen S - 53) := by
    rcases Nat.eq_zero_or_pos (blen S - 53) with h | h
    · exact .inl h
    · exact .inr (blen_ge.1 (by omega))
  unfold floorR
  rw [mag_form (by omega) hge, show (blen S - 53) * 2 ^ 52 + S / 2 ^ (blen S - 53) + 1 = (blen S - 53) * 2 ^ 52 + (S / 2 ^ (blen S - 53) + 1) by omega, mag_form (by omega) (by omega), Nat.add_mul, Nat.one_mul]
  rw [Nat.mul_comm] at hd
  omega
/-- Rounded to the nearest it's not above what is rounded up. -/
theorem sub_le {x y : Nat} (hx : num x) (hy : num y) (fx : fin x = true) (fy : fin y = true) : ∃ w, (FloatKind.format .f64).sub x y = some w ∧ num w ∧ sv w ≤ sv (addV x (Op.negFloat .f64 y) false) := by
  obtain ⟨w, r, h1, h2, h3, h4⟩ := sub_sv (of_decide_eq_true fx) (of_decide_eq_true fy)
  refine ⟨w, h1, h2, ?_⟩
  obtain ⟨n1, n2⟩ := sv_neg hy
  unfold addV
  rw [n2, fx, fy, if_pos (by rfl)]
  unfold addR
  rw [n1, show sv x + -sv y = sv x - sv y by omega, h4]
  generalize sv x - sv y = S at h3
  obtain ⟨f1, f2⟩ := floorR_le S.natAbs
  unfold rndR sealW
  rw [Nat.div_one, Nat.mul_one]
  by_cases hS : S < 0
  · rw [decide_eq_true hS, show (true == false) = false from rfl, if_neg (c := false = true ∧ _) (by simp), Nat.add_zero]
    have hle : floorR S.natAbs ≤ r := by
      have hx := Near.exact (f := dbl) (S := 1) (r := floorR S.natAbs) (by decide)
      rw [Nat.mul_one] at hx
      exact hx.mono (by decide) h3 f1
    simp only
    by_cases hi : floorR S.natAbs < 9218868437227405312
    · rw [if_pos hi]
      by_cases h0 : floorR S.natAbs = 0
      · rw [if_pos h0, zero_sv]
        unfold sgn; rw [if_pos rfl]; omega
      · rw [if_neg h0, sv_word (by omega)]
        have := mag_le (r := floorR S.natAbs) (s := min r 9218868437227405312) (by omega)
        unfold sgn; rw [if_pos rfl, if_pos rfl]; omega
    · rw [if_neg hi, if_neg (c := false = true) (by simp), if_neg (by decide), sv_word (by decide)]
      have := mag_le (r := 9218868437227405311) (s := min r 9218868437227405312) (by omega)
      unfold sgn; rw [if_pos rfl, if_pos rfl]; omega
  · rw [decide_eq_false hS, show (false == false) = true from rfl]
    have hle : r ≤ floorR S.natAbs + (if true = true ∧ mag dbl (floorR S.natAbs) ≠ S.natAbs then 1 else 0) := by
      by_cases he : mag dbl (floorR S.natAbs) = S.natAbs
      · rw [if_neg (by simp [he]), Nat.add_zero]
        have hx := Near.exact (f := dbl) (S := 1) (r := floorR S.natAbs) (by decide)
        rw [Nat.mul_one] at hx
        exact h3.mono (by decide) hx (by omega)
      · rw [if_pos ⟨rfl, he⟩]
        have hx := Near.exact (f := dbl) (S := 1) (r := floorR S.natAbs + 1) (by decide)
        rw [Nat.mul_one] at hx
        exact h3.mono (by decide) hx (by omega)
    generalize floorR S.natAbs + (if true = true ∧ mag dbl (floorR S.natAbs) ≠ S.natAbs then 1 else 0) = q at hle
    simp only
    by_cases hi : q < 9218868437227405312
    · rw [if_pos hi]
      by_cases h0 : q = 0
      · have : r = 0 := by omega
        rw [if_pos h0, zero_sv, this, Nat.zero_min, (mag_zero dbl).2 rfl]
        unfold sgn; simp
      · rw [if_neg h0, sv_word (by omega)]
        have := mag_le (r := min r 9218868437227405312) (s := q) (by omega)
        unfold sgn; rw [if_neg (by simp), if_neg (by simp)]; omega
    · rw [if_neg hi, if_pos trivial, if_neg (by decide), sv_word (by decide)]
      have := mag_le (r := min r 9218868437227405312) (s := 9218868437227405312) (by omega)
      unfold sgn; rw [if_neg (by simp), if_neg (by simp)]; omega
theorem max_ge (x y : Nat) : sv x ≤ sv (maxW x y) ∧ sv y ≤ sv (maxW x y) := by
  unfold maxW
  split <;> omega
theorem inf_top {x : Nat} (hx : clean x) (h : sv infW ≤ sv x) : x = infW := by
  refine clean_eq hx clean_inf (Int.le_antisymm ?_ h)
  have h1 : sv infW = (mag dbl infW : Int) := (num_small (Nat.le_refl _)).2
  rw [h1, sv_sgn]
  have h2 := mag_le (r := rg dbl x) (s := infW) hx.1.2
  unfold sgn
  split <;> omega
end Go.LI.Fl
namespace Go.LI.Film
open Go.Proofs.Ytmhoddmenfondaa Go Go.Proofs Go.LI Go.LI.Fl
set_option linter.unusedVariables false
set_option linter.unusedSimpArgs false
set_option maxRecDepth 100000
theorem bnd1_ge (p : Px) (b i j : Nat) : sv b ≤ sv (bnd1 p b i j) ∧ sv (offV (meanA p i) (meanA p j) (colK p i j)) ≤ sv (bnd1 p b i j) := by
  unfold bnd1
  have h1 := max_ge (maxW b (midF (meanA p i) (meanA p j))) (offV (meanA p i) (meanA p j) (colK p i j))
  have h2 := max_ge b (midF (meanA p i) (meanA p j))
  exact ⟨Int.le_trans h2.1 h1.1, h1.2⟩
theorem bndP_ge (p : Px) (b : Nat) : sv b ≤ sv (bndP p b) ∧ sv (offV (meanA p 0) (meanA p 1) (colK p 0 1)) ≤ sv (bndP p b) ∧ sv (offV (meanA p 2) (meanA p 3) (colK p 2 3)) ≤ sv (bndP p b) ∧ sv (offV (meanA p 4) (meanA p 5) (colK p 4 5)) ≤ sv (bndP p b) := by
  unfold bndP
  have h1 := bnd1_ge p b 0 1
  have h2 := bnd1_ge p (bnd1 p b 0 1) 2 3
  have h3 := bnd1_ge p (bnd1 p (bnd1 p b 0 1) 2 3) 4 5
  omega
theorem picB_ge : ∀ (ps : List Px) (b : Nat), sv b ≤ sv (picB ps b) ∧ ∀ p ∈ ps, sv (offV (meanA p 0) (meanA p 1) (colK p 0 1)) ≤ sv (picB ps b) ∧ sv (offV (meanA p 2) (meanA p 3) (colK p 2 3)) ≤ sv (picB ps b) ∧ sv (offV (meanA p 4) (meanA p 5) (colK p 4 5)) ≤ sv (picB ps b)
  | [], b => ⟨Int.le_refl _, fun p h => by simp at h⟩
  | q :: ps, b => by
    obtain ⟨h1, h2⟩ := picB_ge ps (bndP q b)
    have h3 := bndP_ge q b
    refine ⟨Int.le_trans h3.1 h1, fun p hp => ?_⟩
    rcases List.mem_cons.1 hp with rfl | hp
    · exact ⟨Int.le_trans h3.2.1 h1, Int.le_trans h3.2.2.1 h1, Int.le_trans h3.2.2.2 h1⟩
    · exact h2 p hp
theorem fin_col (p : Px) (i j : Nat) : fin (colK p i j) = true := by
  unfold colK
  have h := narrow_word (clean_mid p i j).1
  refine decide_eq_true ?_
  rw [h.2.1]
  exact up_lt (by have := narrowR_le (clean_mid p i j).1; have h2 : maxr = 2139095039 := rfl; omega)
theorem picC_get : ∀ (ps : List Px) (i : Nat) (p : Px), ps[i]? = some p → ∀ t, t < 3 → (picC ps)[i * 3 + t]? = (colC p)[t]?
  | [], i, p, h, _, _ => by simp at h
  | q :: ps, 0, p, h, t, ht => by
    simp at h
    subst h
    show (colC q ++ picC ps)[0 * 3 + t]? = _
    rw [List.getElem?_append_left (by show 0 * 3 + t < 3; omega), Nat.zero_mul, Nat.zero_add]
  | q :: ps, i + 1, p, h, t, ht => by
    show (colC q ++ picC ps)[(i + 1) * 3 + t]? = _
    rw [List.getElem?_append_right (by show 3 ≤ _; omega), show (i + 1) * 3 + t - (colC q).length = i * 3 + t by show _ - 3 = _; omega]
    exact picC_get ps i p (by simpa using h) t ht

section
variable {R : Type}
theorem bound_step {O : Ora R} (hW : SRWide O) (hI : SInf O) {lo hi v B : Nat} (hlo : clean lo) (hhi : clean hi) (hv : num v) (fv : fin v = true) (hB : clean B) (hb : sv (offV lo hi v) ≤ sv B) (X K : GH → Option R) (G : GH) :
    (O fn_zI [SP lo hi] G fun v25 G26 => (ivBool v25).bind fun x27 => bif x27 then (O fn_zs [.int .i64 (1 : Int)] (gfreeze G26) fun v28 _ => (ivFloat .f64 v28).bind fun x29 => bif (!feq .f64 B x29) then X G26 else K G26)
      else ((FloatKind.format .f64).sub hi v).bind fun r57 => bif (fgt .f64 r57 B) then X G26 else ((FloatKind.format .f64).sub v lo).bind fun r58 => bif (fgt .f64 r58 B) then X G26 else K G26) = K G := by
  rw [hW lo hi hlo.1.1 hhi.1.1, ivB]
  unfold offV at hb
  cases hf : (fin lo && fin hi) with
  | false =>
    rw [hf, if_neg (by simp)] at hb
    have hBi : B = infW := inf_top hB hb
    have he : feq .f64 B 9218868437227405312 = true := by
      rw [hBi]
      show feq .f64 infW infW = true
      rw [feq_self' clean_inf.1.1]
      exact decide_eq_true clean_inf.1.2
    rw [Bool.not_false, cond_true, (hI (gfreeze G) _).1, ivF, he, Bool.not_true, cond_false]
  | true =>
    rw [hf, if_pos rfl] at hb
    rw [Bool.and_eq_true] at hf
    obtain ⟨w1, s1, n1, l1⟩ := sub_le hhi.1 hv hf.2 fv
    obtain ⟨w2, s2, n2, l2⟩ := sub_le hv hlo.1 fv hf.1
    have hm := max_ge (addV hi (Op.negFloat .f64 v) false) (addV v (Op.negFloat .f64 lo) false)
    rw [Bool.not_true, cond_false, s1, Option.bind_some, fgt_sv n1 hB.1, decide_eq_false (by omega), cond_false, s2, Option.bind_some, fgt_sv n2 hB.1, decide_eq_false (by omega), cond_false]
end
end Go.LI.Film

/- The reference of round: Floor. -/
import Derived.Test.YtbjcipikclbecaaGreatRdPo
import Derived.Test.YtbjcipikclbecaaGreatTvJ
set_option linter.unusedVariables false
set_option maxRecDepth 100000
set_option exponentiation.threshold 2500
set_option linter.unusedSimpArgs false
namespace Go.LI.Fl
open Go Go.LI Ieee
theorem zBI (s : Bool) (m i : Nat) : ∃ r, dbl.nearest s m (-1074 + (i : Int)) = dbl.word s (min r 9218868437227405312) ∧ zwC dbl (m * 2 ^ i) 1 r := by
  obtain ⟨r, h1, h2⟩ := zrW dbl (by rw [zxS]) s m (-1074 + (i : Int))
  rw [zek] at h1
  refine ⟨r, h1, ?_⟩
  rw [zuQ, show (-1074 + (i : Int) - -1074).toNat = i by omega, show (-1074 - (-1074 + (i : Int))).toNat = 0 by omega, Nat.pow_zero] at h2
  exact h2
theorem zwN {s : Bool} {r : Nat} : dbl.word s (min r 9218868437227405312) < 2 ^ 64 ∧ rg dbl (dbl.word s (min r 9218868437227405312)) = min r 9218868437227405312 :=
  ⟨zw9 (by omega), zAr (by omega)⟩
theorem zF0 {x y : Nat} (hx : rg dbl x < 9218868437227405312) (hy : rg dbl y < 9218868437227405312) : ∃ w r, (FloatKind.format .f64).sub x y = some w ∧ num w ∧ zwC dbl (sv x - sv y).natAbs 1 r ∧ sv w = sgn (decide (sv x - sv y < 0)) (mag dbl (min r 9218868437227405312)) := by
  obtain ⟨i, m, h1, h2⟩ := zcG hx
  obtain ⟨j, n, k1, k2⟩ := zcG hy
  have hsub : (FloatKind.format .f64).sub x y = ((dbl.read x).sum (dbl.read y).opposite).map dbl.write := rfl
  rw [hsub, h1, k1]
  simp only [Datum.opposite, Datum.sum, Option.map_some, Format.write]
  have hb : min (-1074 + (i : Int)) (-1074 + (j : Int)) = -1074 + ((min i j : Nat) : Int) := by omega
  rw [hb]
  have hv : (signed (sg dbl x) m (-1074 + (i : Int) - (-1074 + ((min i j : Nat) : Int))).toNat + signed (!sg dbl y) n (-1074 + (j : Int) - (-1074 + ((min i j : Nat) : Int))).toNat) * ((2 ^ min i j : Nat) : Int) = sv x - sv y := by
    rw [Int.add_mul, zlH, zlH, ← znJ, ← znJ, Nat.mul_assoc, Nat.mul_assoc, ← Nat.pow_add, ← Nat.pow_add]
    rw [show (-1074 + (i : Int) - (-1074 + ((min i j : Nat) : Int))).toNat + min i j = i by omega, show (-1074 + (j : Int) - (-1074 + ((min i j : Nat) : Int))).toNat + min i j = j by omega, h2, k2, zgm, zgm]
    unfold sgn
    cases sg dbl x <;> cases sg dbl y <;> simp <;> omega
  generalize signed (sg dbl x) m (-1074 + (i : Int) - (-1074 + ((min i j : Nat) : Int))).toNat + signed (!sg dbl y) n (-1074 + (j : Int) - (-1074 + ((min i j : Nat) : Int))).toNat = t at hv
  obtain ⟨r, q1, q2⟩ := zBI (if t = 0 then sg dbl x && !sg dbl y else decide (t < 0)) t.natAbs (min i j)
  have hpos : (0 : Int) < ((2 ^ min i j : Nat) : Int) := by exact_mod_cast Nat.two_pow_pos (min i j)
  have hq : zwC dbl (sv x - sv y).natAbs 1 r := by
    rw [← hv, Int.natAbs_mul, Int.natAbs_natCast]
    exact q2
  refine ⟨_, r, congrArg some q1, ⟨zwN.1, by rw [zwN.2]; omega⟩, hq, ?_⟩
  rw [zCp (by omega)]
  by_cases h0 : t = 0
  · have hS : sv x - sv y = 0 := by rw [← hv, h0, Int.zero_mul]
    rw [hS] at hq ⊢
    have hr0 : r = 0 := hq.uniq (by decide) (by have := zwC.exact (f := dbl) (S := 1) (r := 0) (by decide); rwa [(zaE dbl).2 rfl] at this)
    rw [hr0, Nat.zero_min, (zaE dbl).2 rfl]
    unfold sgn; simp
  · rw [if_neg h0]
    congr 1
    apply decide_eq_decide.2
    rw [← hv]
    constructor
    · intro h
      exact Int.mul_neg_of_neg_of_pos h hpos
    · intro h
      by_cases hc : t < 0
      · exact hc
      · have : 0 ≤ t * ((2 ^ min i j : Nat) : Int) := Int.mul_nonneg (by omega) (by omega)
        omega
theorem zvo {n T : Nat} (hT : T = 1074) (hn : n ≤ 2 ^ 53) {r : Nat} (h : zwC dbl (n * 2 ^ T) 1 r) : mag dbl (min r 9218868437227405312) = n * 2 ^ T := by
  have h1 := zg8 (q := T) hn
  have h2 := (zpq hn hT).2
  have h3 := zwC.exact (f := dbl) (S := 1) (r := zU (n * 2 ^ T)) (by decide)
  rw [Nat.mul_one, h1] at h3
  have h4 := h.uniq (by decide) h3
  rw [h4, Nat.min_eq_left (by omega), h1]
theorem zxy {s : Bool} {n T : Nat} (hT : T = 1074) : ∃ r, dbl.nearest s n 0 = dbl.word s (min r 9218868437227405312) ∧ zwC dbl (n * 2 ^ T) 1 r := by
  obtain ⟨r, h1, h2⟩ := zDu (s := s) (n := n)
  refine ⟨r, h1, ?_⟩
  rw [zuQ] at h2
  subst hT
  exact h2
theorem zvn {s : Bool} {n T : Nat} (hT : T = 1074) (hn : n ≤ 2 ^ 53) : sv (dbl.nearest s n 0) = sgn s n * ((2 ^ T : Nat) : Int) := by
  obtain ⟨r, h1, h2⟩ := zxy (s := s) (n := n) hT
  rw [h1, zo4 (Nat.min_le_right _ _), zvo hT hn h2, znJ]
theorem zza {T : Nat} (hT : T = 1074) {z : Int} (hz : z.natAbs ≤ 2 ^ 53) : num (FloatKind.nearest .f64 z) ∧ sv (FloatKind.nearest .f64 z) = z * ((2 ^ T : Nat) : Int) := by
  have e : FloatKind.nearest .f64 z = dbl.nearest (decide (z < 0)) z.natAbs 0 := rfl
  rw [e, zvn hT hz, zAg]
  exact ⟨zdE _ _ _, rfl⟩
theorem zGQ {x y T : Nat} (hT : T = 1074) (hx : rg dbl x < 9218868437227405312) (hy : rg dbl y < 9218868437227405312) {z : Int} (hz : z.natAbs ≤ 2 ^ 53) (h : sv x - sv y = z * ((2 ^ T : Nat) : Int)) : ∃ w, (FloatKind.format .f64).sub x y = some w ∧ num w ∧ sv w = z * ((2 ^ T : Nat) : Int) := by
  obtain ⟨w, r, h1, h2, h3, h4⟩ := zF0 hx hy
  refine ⟨w, h1, h2, ?_⟩
  have e : (sv x - sv y).natAbs = z.natAbs * 2 ^ T := by rw [h, Int.natAbs_mul, Int.natAbs_natCast]
  rw [e] at h3
  rw [h4, zvo hT hz h3, ← e, zAg, h]
theorem zCb (s : Bool) (n g : Nat) (hg : 0 < g) : sgn s n / (g : Int) = sgn s (n / g + ((s && n % g != 0) : Bool).toNat) := by
  have h1 := Nat.div_add_mod n g
  have h2 := Nat.mod_lt n hg
  cases s with
  | false =>
    simp only [sgn, Bool.false_eq_true, if_false, Bool.false_and, Bool.toNat_false, Nat.add_zero]
    exact (Int.natCast_ediv n g).symm
  | true =>
    simp only [sgn, if_true, Bool.true_and]
    by_cases h0 : n % g = 0
    · rw [h0]
      simp only [bne_self_eq_false, Bool.toNat_false, Nat.add_zero]
      rw [h0, Nat.add_zero] at h1
      refine Int.ediv_eq_of_eq_mul_right (by omega) ?_
      have : ((g * (n / g) : Nat) : Int) = (n : Int) := by exact_mod_cast h1
      rw [Int.natCast_mul] at this
      rw [Int.mul_neg]
      omega
    · rw [show (n % g != 0) = true by simpa using h0, Bool.toNat_true]
      have h3 : ((g * (n / g) + n % g : Nat) : Int) = (n : Int) := by exact_mod_cast h1
      rw [Int.natCast_add, Int.natCast_mul] at h3
      have h4 : (-(n : Int)) = (g : Int) * (-((n / g + 1 : Nat) : Int)) + ((g : Int) - ((n % g : Nat) : Int)) := by
        rw [Int.mul_neg, Int.natCast_add, Int.mul_add]
        omega
      rw [h4, Int.add_comm, Int.add_mul_ediv_left _ _ (by omega)]
      rw [Int.ediv_eq_zero_of_lt (by omega) (by omega)]
      omega
end Go.LI.Fl
namespace Go.LI.Film
open Go.Proofs.YtbjcipikclbecaaGreat Go Go.Proofs Go.LI Go.LI.Fl
theorem zwR {x T : Nat} (hT : T = 1074) (hf : fin x = true) : ∃ (s : Bool) (n : Nat), zcm (flW x) ∧ sv (flW x) = sv (dbl.nearest s n 0) ∧ sgn s n = sv x / ((2 ^ T : Nat) : Int) := by
  subst hT
  exact zDF hf
theorem whole {x T : Nat} (hT : T = 1074) (h : 4845873199050653696 ≤ rg dbl x) : ∃ n : Nat, mag dbl (rg dbl x) = n * 2 ^ T := by
  have hb : dbl.binade = 2 ^ 52 := by decide +kernel
  have h1 := zqu (f := dbl) (r := rg dbl x) (by rw [hb]; omega)
  rw [hb] at h1
  obtain ⟨j, hj⟩ : ∃ j, rg dbl x / 2 ^ 52 - 1 = j + T := ⟨rg dbl x / 2 ^ 52 - 1 - T, by omega⟩
  rw [hj, Nat.pow_add, ← Nat.mul_assoc] at h1
  exact ⟨_, h1⟩
theorem zFZ {x T : Nat} (hT : T = 1074) (hx : x < 2 ^ 64) (hf : fin x = true) (h : 4845873199050653696 ≤ rg dbl x) : flW x = x := by
  obtain ⟨s, n, c, e1, e2⟩ := zwR hT hf
  obtain ⟨m, hm⟩ := whole hT h
  have hp := Nat.two_pow_pos T
  have hs : sgn s n = sgn (sg dbl x) m := by
    rw [e2, zho, hm, zCb _ _ _ hp, Nat.mul_mod_left, Nat.mul_div_cancel _ hp]
    simp
  have hnm : n = m := by
    unfold sgn at hs
    split at hs <;> split at hs <;> omega
  have hpos : 0 < mag dbl (rg dbl x) := Nat.pos_of_ne_zero fun hc => by have := (zaE dbl).1 hc; omega
  have hsx : sv x ≠ 0 := by
    unfold sv
    generalize mag dbl (rg dbl x) = M at hpos
    split <;> omega
  obtain ⟨r, q1, q2⟩ := zxy (s := s) (n := n) hT
  have q3 := zwC.exact (f := dbl) (S := 1) (r := rg dbl x) (by decide)
  rw [Nat.mul_one, hm, ← hnm] at q3
  have q4 := q2.uniq (by decide) q3
  have hlt : rg dbl x < 9218868437227405312 := of_decide_eq_true hf
  have e3 : sv (flW x) = sv x := by
    rw [e1, q1, q4, Nat.min_eq_left (by omega), zo4 (by omega), hm, znJ, ← hnm, hs, zho, hm, znJ]
  exact ztt c ⟨zeD hx hf, fun h0 => absurd h0 hsx⟩ e3
theorem zDD {x T : Nat} (hT : T = 1074) (hf : fin x = true) (hm : mag dbl (rg dbl x) < 2 ^ 53 * 2 ^ T) : f2i .f64 x .i64 = some (sgn (sg dbl x) (mag dbl (rg dbl x) / 2 ^ T)) := by
  obtain ⟨i, m, q1, q2⟩ := zcG (x := x) (of_decide_eq_true hf)
  have q1 : dbl.read x = .number (sg dbl x) m (-(T : Int) + (i : Int)) := by rw [q1, hT]; rfl
  have hd : FloatKind.f64.decode x = .number (sg dbl x) m (-(T : Int) + (i : Int)) := q1
  have hP := Nat.two_pow_pos T
  have e : (FloatKind.f64.decode x).toInt .zero = some (sgn (sg dbl x) (mag dbl (rg dbl x) / 2 ^ T)) := by
    rw [hd]
    unfold Ieee.Datum.toInt
    simp only [Ieee.Datum.integral, zxO, Nat.shiftLeft_eq]
    rw [zlH, Nat.pow_zero, Nat.mul_one]
    congr 2
    rw [← q2]
    by_cases hi : T ≤ i
    · have p1 : (-(T : Int) + (i : Int)).toNat = i - T := by omega
      have p2 : (-(-(T : Int) + (i : Int))).toNat = 0 := by omega
      have hp : 2 ^ i = 2 ^ (i - T) * 2 ^ T := by rw [← Nat.pow_add]; congr 1; omega
      rw [p1, p2, Nat.pow_zero, Nat.div_one, hp, ← Nat.mul_assoc, Nat.mul_div_cancel _ hP]
    · have p1 : (-(T : Int) + (i : Int)).toNat = 0 := by omega
      have p2 : (-(-(T : Int) + (i : Int))).toNat = T - i := by omega
      have hp : 2 ^ T = 2 ^ (T - i) * 2 ^ i := by rw [← Nat.pow_add]; congr 1; omega
      rw [p1, p2, Nat.pow_zero, Nat.mul_one, hp, Nat.mul_div_mul_right _ _ (Nat.two_pow_pos _)]
  have hq : mag dbl (rg dbl x) / 2 ^ T < 2 ^ 53 := Nat.div_lt_of_lt_mul (by rw [Nat.mul_comm]; exact hm)
  unfold f2i
  rw [e]
  have e1 : IntKind.i64.min = -9223372036854775808 := by decide
  have e2 : IntKind.i64.max = 9223372036854775807 := by decide
  generalize mag dbl (rg dbl x) / 2 ^ T = q at hq
  simp only [e1, e2]
  rw [if_pos]
  unfold sgn
  constructor <;> (split <;> omega)
theorem zGi {T : Nat} (hT : T = 1074) : num 4607182418800017408 ∧ sv 4607182418800017408 = ((2 ^ T : Nat) : Int) := by
  subst hT
  exact ⟨zzv.1, zzv.2.1⟩
theorem zFX {x T : Nat} (hT : T = 1074) (hx : x < 2 ^ 64) (hf : fin x = true) (hm : mag dbl (rg dbl x) < 2 ^ 53 * 2 ^ T) : ∃ z : Int, f2i .f64 x .i64 = some z ∧ num (FloatKind.nearest .f64 z) ∧
    ((fgt .f64 (FloatKind.nearest .f64 z) x = false ∧ zw (FloatKind.nearest .f64 z) = flW x) ∨ (fgt .f64 (FloatKind.nearest .f64 z) x = true ∧ ∃ w, (FloatKind.format .f64).sub (FloatKind.nearest .f64 z) (4607182418800017408 : Nat) = some w ∧ num w ∧ zw w = flW x)) := by
  have hP := Nat.two_pow_pos T
  have hq : mag dbl (rg dbl x) / 2 ^ T < 2 ^ 53 := Nat.div_lt_of_lt_mul (by rw [Nat.mul_comm]; exact hm)
  obtain ⟨s, n, c, e1, e2⟩ := zwR hT hf
  rw [zho, zCb _ _ _ hP] at e2
  have hn : n ≤ 2 ^ 53 := by
    have hb : (sg dbl x && mag dbl (rg dbl x) % 2 ^ T != 0).toNat ≤ 1 := Bool.toNat_le _
    generalize (sg dbl x && mag dbl (rg dbl x) % 2 ^ T != 0).toNat = bb at hb e2
    generalize mag dbl (rg dbl x) / 2 ^ T = q at hq e2
    clear hm
    unfold sgn at e2
    split at e2 <;> split at e2 <;> omega
  rw [zvn hT hn, e2] at e1
  have hnum : num x := zeD hx hf
  have hz : (sgn (sg dbl x) (mag dbl (rg dbl x) / 2 ^ T)).natAbs ≤ 2 ^ 53 := by rw [zcx]; omega
  obtain ⟨r1, r2⟩ := zza hT hz
  refine ⟨_, zDD hT hf hm, r1, ?_⟩
  have hdm := Nat.div_add_mod (mag dbl (rg dbl x)) (2 ^ T)
  have hmod := Nat.mod_lt (mag dbl (rg dbl x)) hP
  rw [Nat.mul_comm] at hdm
  have hsv := zho x
  generalize hr : FloatKind.nearest .f64 (sgn (sg dbl x) (mag dbl (rg dbl x) / 2 ^ T)) = r at r1 r2 ⊢
  rw [ztL r1 hnum, r2, hsv]
  generalize hQ : mag dbl (rg dbl x) / 2 ^ T = q at *
  generalize hR : mag dbl (rg dbl x) % 2 ^ T = t at *
  have keyF : ∀ w : Nat, num w → sv w = sv (flW x) → zw w = flW x := fun w hw he => ztt (ztw hw) c (by rw [zEk, he])
  cases hs : sg dbl x with
  | false =>
    left
    rw [hs] at r2 e1
    simp only [sgn, Bool.false_eq_true, if_false, Bool.false_and, Bool.toNat_false, Nat.add_zero] at r2 e1 ⊢
    refine ⟨decide_eq_false ?_, keyF r r1 (by rw [r2, e1])⟩
    have : ((q * 2 ^ T + t : Nat) : Int) = (mag dbl (rg dbl x) : Int) := by exact_mod_cast hdm
    rw [Int.natCast_add, Int.natCast_mul] at this
    omega
  | true =>
    rw [hs] at r2 e1
    simp only [sgn, if_true, Bool.true_and] at r2 e1 ⊢
    have hI : ((q * 2 ^ T + t : Nat) : Int) = (mag dbl (rg dbl x) : Int) := by exact_mod_cast hdm
    rw [Int.natCast_add, Int.natCast_mul] at hI
    by_cases h0 : t = 0
    · left
      subst h0
      rw [show ((0 : Nat) != 0) = false from rfl, Bool.toNat_false, Nat.add_zero] at e1
      refine ⟨decide_eq_false ?_, keyF r r1 (by rw [r2, e1])⟩
      rw [Int.neg_mul]
      omega
    · right
      rw [show (t != 0) = true by simpa using h0, Bool.toNat_true] at e1
      refine ⟨decide_eq_true ?_, ?_⟩
      · rw [Int.neg_mul]
        omega
      · obtain ⟨o1, o2⟩ := zGi hT
        have fr : rg dbl r < 9218868437227405312 := by
          have hff : fin r = true := (zDk r1).2 (by
            have hfx := (zDk hnum).1 hf
            rw [r2, Int.neg_mul]
            rw [hsv, hs] at hfx
            simp only [sgn, if_true] at hfx
            have hnn : (0 : Int) ≤ (q : Int) * ((2 ^ T : Nat) : Int) := Int.mul_nonneg (by omega) (by omega)
            have hMp := zGV
            generalize MI = M at hfx hMp ⊢
            generalize (q : Int) * ((2 ^ T : Nat) : Int) = P at hI hnn ⊢
            clear r2 e1 e2 hsv hdm
            omega)
          exact of_decide_eq_true hff
        obtain ⟨w, w1, w2, w3⟩ := zGQ hT (x := r) (y := 4607182418800017408) (z := -((q + 1 : Nat) : Int)) fr (by decide +kernel) (by omega) (by
          rw [r2, o2, Int.natCast_add, Int.neg_add, Int.add_mul, Int.neg_mul, Int.neg_mul, Int.natCast_one, Int.one_mul]
          rfl)
        exact ⟨w, w1, w2, keyF w w2 (by rw [w3, e1])⟩
section
variable {R : Type} {O : Ora R}
abbrev zIA (O : Ora R) : Prop := ∀ (x : Nat), x < 2 ^ 64 → ∀ (G : GH) (k : IV → GH → Option R), O zfE [fL x] G k = k (.tuple [fL (bif fin x then flW x else 0), iL (bif fin x then 0 else 10)]) G
theorem zDR (hN : ztr O) (hZ : SQZ O) {F : Nat} (hF : 1 ≤ F) {x : Nat} (hx : x < 2 ^ 64) (G : GH) (k : IV → GH → Option R) : zf Tryz.prog O zvW F Tryz.f48 [fL x] G k = k (.tuple [fL (bif fin x then flW x else 0), iL (bif fin x then 0 else 10)]) G := by
  obtain ⟨F, rfl⟩ : ∃ F', F = F' + 1 := ⟨F - 1, by omega⟩
  rw [zvO]
  unfold zkm
  rw [hN x hx, ivB]
  cases hf : fin x with
  | false => rfl
  | true =>
    rw [Bool.not_true, cond_false, cond_true, cond_true]
    have hnum : num x := zeD hx hf
    have ent : zco O (F + 1) k x G = zbE O k (zcj O (F + 1) k) x (fge .f64 x 4845873199050653696 || fle .f64 x 14069245235905429504) G := by
      unfold zco
      rw [zaV]
      unfold zey zhI
      cases fge .f64 x 4845873199050653696 <;> rfl
    rw [ent]
    obtain ⟨T, hT⟩ : ∃ T : Nat, T = 1074 := ⟨1074, rfl⟩
    have mTop : mag dbl 4845873199050653696 = 2 ^ 53 * 2 ^ T := by
      have h := zdm (q := 1075) (m := 2 ^ 52) (by decide) (.inr (by decide))
      have e2 : 1075 * 2 ^ 52 + 2 ^ 52 = 4845873199050653696 := by decide
      rw [e2] at h
      rw [h, hT, ← Nat.pow_add]
    cases hc : (fge .f64 x 4845873199050653696 || fle .f64 x 14069245235905429504) with
    | true =>
      have hbig : 4845873199050653696 ≤ rg dbl x := by
        rcases Nat.lt_or_ge (rg dbl x) 4845873199050653696 with hlt | hge
        · exfalso
          have hml := zlV hlt
          rw [Bool.or_eq_true, zEU hnum zvU.1, zxF hnum zyj.1, decide_eq_true_eq, decide_eq_true_eq, zvU.2, zyj.2, zho] at hc
          rw [mTop, hT] at hml
          generalize 2 ^ 53 * 2 ^ 1074 = B at hc hml
          unfold sgn at hc
          split at hc <;> omega
        · exact hge
      unfold zbE
      rw [cond_true, zFZ hT hx hf hbig]
    | false =>
      have hsm : mag dbl (rg dbl x) < 2 ^ 53 * 2 ^ T := by
        rw [Bool.or_eq_false_iff, zEU hnum zvU.1, zxF hnum zyj.1, decide_eq_false_iff_not, decide_eq_false_iff_not, zvU.2, zyj.2, zho] at hc
        rw [hT]
        generalize 2 ^ 53 * 2 ^ 1074 = B at hc ⊢
        unfold sgn at hc
        split at hc <;> omega
      obtain ⟨z, z1, z2, z3⟩ := zFX hT hx hf hsm
      have ent2 : ∀ w : Nat, num w → zds O k w G = k (.tuple [fL (zw w), iL 0]) G := fun w hw => by
        unfold zds
        rw [hZ w hw, ivF]
      unfold zbE zcj
      rw [cond_false, z1, Option.bind_some]
      simp only [zaV, zdV, zhH]
      rcases z3 with ⟨g1, g2⟩ | ⟨g1, w, g2, g3, g4⟩
      · rw [g1, cond_false, ent2 _ z2, g2]
      · rw [g1, cond_true, g2, Option.bind_some, ent2 _ g3, g4]
theorem zIB {F n : Nat} (hF : 1 ≤ F) (hn : 2 ≤ n) : zIA (runC (R := R) Tryz.prog lo0 F n) := by
  obtain ⟨n, rfl⟩ : ∃ j, n = j + 1 := ⟨n - 1, by omega⟩
  intro x hx G k
  rw [show zfE = 48 from rfl, zvy]
  exact zDR (zpE (by omega)) (wQZ (by omega)) hF hx G k
end
end Go.LI.Film

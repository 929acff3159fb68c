/- The reference of round: to the right, powers. -/
import Derived.Test.YtalpjkeiaeobdaaGreatRdR1
namespace Go.LI.Film
open Go.Proofs.YtalpjkeiaeobdaaGreat Go Go.Proofs Go.LI Go.LI.Fl
set_option linter.unusedVariables false
set_option linter.unusedSimpArgs false
set_option maxRecDepth 100000
section
variable {R : Type}

theorem down_low {O : Ora R} {F : Nat} (hF : 1 ≤ F) {m hi lo : Nat} (hm : m < 64) (hhi : hi < 2 ^ 64) (hlo : lo < 2 ^ 64) (e : Int) (more : Bool) (c0 c1 c2 : Int) (c3 : Bool) (G : GH) (k : IV → GH → Option R) :
    a_ref01_Down_00 O k (L_ref01_Down_2 O F k) (m : Int) (hi : Int) (lo : Int) e more c0 c1 c2 c3 G = k (V ((hi * 2 ^ 64 + lo) / 2 ^ m) e (more || decide ((hi * 2 ^ 64 + lo) % 2 ^ m ≠ 0))) G := by
  obtain ⟨N, hN⟩ : ∃ N, N = hi * 2 ^ 64 + lo := ⟨_, rfl⟩
  rw [← hN]
  unfold V
  simp only [a_ref01_Down_00]
  by_cases h0 : (m : Int) > 0
  · rw [decide_eq_true h0, cond_true]
    simp only [L_ref01_Down_2]
    rw [stepF hF]
    simp only [l_ref01_Down_2, u_ref01_Down_2, a_ref01_Down_2N]
    have w2 : IntKind.wrap .i64 ((64 : Int) - (m : Int)) = ((64 - m : Nat) : Int) := by rw [wrapI (by omega) (by omega)]; omega
    rw [w2, decide_eq_false (show ¬ ((m : Nat) : Int) < 0 by omega), decide_eq_false (show ¬ ((64 - m : Nat) : Int) < 0 by omega), shr_nat hhi, shr_nat hlo, shl_nat, shl_nat, ibn]
    have hp : 2 ^ (64 - m) * 2 ^ m = 2 ^ 64 := by rw [← Nat.pow_add]; congr 1; omega
    have hp' : 2 ^ m * 2 ^ (64 - m) = 2 ^ 64 := by rw [Nat.mul_comm]; exact hp
    have hq : lo / 2 ^ m < 2 ^ (64 - m) := by rw [Nat.div_lt_iff_lt_mul (Nat.two_pow_pos _), hp]; exact hlo
    have hdm := Nat.div_add_mod hi (2 ^ m)
    have e1 : hi * 2 ^ (64 - m) = hi / 2 ^ m * 2 ^ 64 + hi % 2 ^ m * 2 ^ (64 - m) := by
      conv => lhs; rw [← hdm]
      rw [Nat.add_mul, Nat.mul_comm (2 ^ m), Nat.mul_assoc, hp']
    have hr : hi % 2 ^ m * 2 ^ (64 - m) < 2 ^ 64 := by
      rw [← hp']; exact Nat.mul_lt_mul_of_pos_right (Nat.mod_lt _ (Nat.two_pow_pos _)) (Nat.two_pow_pos _)
    have e2 : hi * 2 ^ (64 - m) % 2 ^ 64 = hi % 2 ^ m * 2 ^ (64 - m) := by rw [e1]; exact (dm64 hr).2
    have q1 : N / 2 ^ m = hi / 2 ^ m * 2 ^ 64 + (hi % 2 ^ m * 2 ^ (64 - m) + lo / 2 ^ m) := by
      have : N = (hi / 2 ^ m * 2 ^ 64 + hi % 2 ^ m * 2 ^ (64 - m)) * 2 ^ m + lo := by
        rw [← e1, Nat.mul_assoc, hp]; exact hN
      rw [this, Nat.mul_comm _ (2 ^ m), Nat.mul_add_div (Nat.two_pow_pos m)]; omega
    have q3 : N % 2 ^ m = lo % 2 ^ m := by
      have : N = 2 ^ m * (hi * 2 ^ (64 - m)) + lo := by rw [hN, ← Nat.mul_assoc, Nat.mul_comm (2 ^ m) hi, Nat.mul_assoc, hp']
      rw [this, Nat.mul_add_mod]
    have hsum : hi % 2 ^ m * 2 ^ (64 - m) + lo / 2 ^ m < 2 ^ 64 := by
      have h1 : (hi % 2 ^ m + 1) * 2 ^ (64 - m) ≤ 2 ^ m * 2 ^ (64 - m) := Nat.mul_le_mul_right _ (Nat.mod_lt _ (Nat.two_pow_pos m))
      rw [Nat.add_mul, hp'] at h1
      omega
    have hor : orI .u64 ((lo / 2 ^ m : Nat) : Int) ((hi * 2 ^ (64 - m) % 2 ^ 64 : Nat) : Int) = ((hi % 2 ^ m * 2 ^ (64 - m) + lo / 2 ^ m : Nat) : Int) := by
      rw [e2, or_nat (Nat.lt_of_le_of_lt (Nat.div_le_self _ _) hlo) hr, Nat.or_comm, or_add hq]
    rw [hor, q1, q3]
    obtain ⟨f1, f2⟩ := dm64 (A := hi / 2 ^ m) hsum
    rw [f1, f2]
    have ho := shl_out (x := lo) (m := m) hlo (by omega)
    have hdec : decide (lo * 2 ^ (64 - m) % 2 ^ 64 ≠ 0) = decide (lo % 2 ^ m ≠ 0) := by
      rw [decide_eq_decide]; exact not_congr ho
    rw [hdec]
    cases more <;> simp only [cond_true, cond_false, Bool.true_or, Bool.false_or]
  · have hm0 : m = 0 := by omega
    subst hm0
    rw [decide_eq_false h0, cond_false, Nat.pow_zero, Nat.div_one, Nat.mod_one]
    obtain ⟨f1, f2⟩ := dm64 (A := hi) hlo
    rw [hN, f1, f2]
    simp

/-- A place of 64 bits. -/
theorem down_step {O : Ora R} {F : Nat} (hF : 1 ≤ F) (Kret K0) {m hi lo j : Nat} (hm : 64 ≤ m) (hm2 : m ≤ 200000) (e : Int) (more : Bool) (c0 c1 c2 : Int) (c3 : Bool) (G : GH) :
    l_ref01_Down_0 (R := R) O F Kret K0 (j + 1) (m : Int) (hi : Int) (lo : Int) e more c0 c1 c2 c3 G =
      if hi = 0 then Kret 0 0 e (more || decide (lo ≠ 0)) 0 0 e (more || decide (lo ≠ 0)) G
      else l_ref01_Down_0 O F Kret K0 j ((m - 64 : Nat) : Int) 0 (hi : Int) e (more || decide (lo ≠ 0)) c0 c1 c2 c3 G := by
  have h1 : l_ref01_Down_0 (R := R) O F Kret K0 (j + 1) (m : Int) (hi : Int) (lo : Int) e more c0 c1 c2 c3 G = a_ref01_Down_1N O Kret (l_ref01_Down_0 O F Kret K0 j) K0 (m : Int) (hi : Int) (lo : Int) e (more || decide (lo ≠ 0)) c0 c1 c2 c3 G := by
    simp only [l_ref01_Down_0, u_ref01_Down_0, L_ref01_Down_1]
    rw [decide_eq_true (show (m : Int) ≥ 64 by omega), cond_true, stepF hF]
    simp only [l_ref01_Down_1, u_ref01_Down_1]
    rw [ibn]
    cases more with
    | true => rw [cond_true, Bool.true_or]
    | false => rw [cond_false, Bool.false_or]
  rw [h1]
  simp only [a_ref01_Down_1N]
  rw [ib]
  by_cases h : hi = 0
  · rw [decide_eq_true h, cond_true, if_pos h, h]; rfl
  · rw [decide_eq_false h, cond_false, if_neg h, wrapI (by omega) (by omega), show (m : Int) - 64 = ((m - 64 : Nat) : Int) by omega]

theorem down_exit {O : Ora R} {F : Nat} (Kret K0) {m hi lo j : Nat} (hm : m < 64) (e : Int) (more : Bool) (c0 c1 c2 : Int) (c3 : Bool) (G : GH) :
    l_ref01_Down_0 (R := R) O F Kret K0 (j + 1) (m : Int) (hi : Int) (lo : Int) e more c0 c1 c2 c3 G = K0 (m : Int) (hi : Int) (lo : Int) e more c0 c1 c2 c3 G := by
  simp only [l_ref01_Down_0, u_ref01_Down_0]
  rw [decide_eq_false (show ¬ (m : Int) ≥ 64 by omega), cond_false]

theorem or_dec (h lo : Nat) : (decide (lo ≠ 0) || decide (h ≠ 0)) = decide (h * 2 ^ 64 + lo ≠ 0) := by
  rw [← Bool.decide_or, decide_eq_decide]
  omega

theorem wRDown {F n : Nat} (hF : 10 ≤ F) (hn : 1 ≤ n) : SRDown (runC (R := R) Tryz.prog lo0 F n) := by
  obtain ⟨n, rfl⟩ : ∃ j, n = j + 1 := ⟨n - 1, by omega⟩
  intro N s e more hN he1 he2 hs1 hs2 G k
  have hF1 : 1 ≤ F := by omega
  have hF' : ∃ f, F = f + 3 := ⟨F - 3, by omega⟩
  have hstart : ∀ (a b : Int), runC (R := R) Tryz.prog lo0 F (n + 1) fn_ref01_Down [.agg [.int .u64 a, .int .u64 b, .int .i64 e, .bool more], .int .i64 s] G k = u_ref01_Down (runC (R := R) Tryz.prog lo0 F n) k (L_ref01_Down_0 (runC (R := R) Tryz.prog lo0 F n) F k) a b e more s G := by
    intro a b
    rw [r_ref01_Down, e_ref01_Down]
  unfold V
  rw [hstart]
  generalize runC (R := R) Tryz.prog lo0 F n = O
  simp only [u_ref01_Down]
  by_cases h0 : s ≤ 0
  · have ht : s.toNat = 0 := by omega
    rw [decide_eq_true h0, cond_true, ht]
    simp only [Nat.pow_zero, Nat.div_one, Nat.mod_one]
    simp
  obtain ⟨m, rfl⟩ : ∃ m : Nat, s = m := ⟨s.toNat, by omega⟩
  rw [decide_eq_false h0, cond_false, Int.toNat_natCast, wrapI (v := e + (m : Int)) (by omega) (by omega)]
  obtain ⟨hi, lo, hhl, hlo, d1, d2⟩ := split128 N
  have hhi : hi < 2 ^ 64 := by omega
  have hfold : ∀ (X : Nat) (b : Bool), (IV.agg [.int .u64 ((X / 2 ^ 64 : Nat) : Int), .int .u64 ((X % 2 ^ 64 : Nat) : Int), .int .i64 (e + (m : Int)), .bool b]) = V X (e + m) b := fun X b => rfl
  rw [d1, d2, hfold]
  generalize e + (m : Int) = e'
  simp only [L_ref01_Down_0]
  obtain ⟨f, hf⟩ := hF'
  have hl : ∀ (a b c : Int), l_ref01_Down_0 O F (a_ref01_Down_0ret O k) (a_ref01_Down_00 O k (L_ref01_Down_2 O F k)) F a b c e' more 0 0 0 false G = l_ref01_Down_0 O F (a_ref01_Down_0ret O k) (a_ref01_Down_00 O k (L_ref01_Down_2 O F k)) (f + 3) a b c e' more 0 0 0 false G := by
    intro a b c; rw [← hf]
  rw [hl]
  by_cases h64 : m < 64
  · rw [down_exit _ _ h64, down_low hF1 h64 hhi hlo, ← hhl]
  · obtain ⟨j, rfl⟩ : ∃ j, m = 64 + j := ⟨m - 64, by omega⟩
    have q1 : N / 2 ^ (64 + j) = hi / 2 ^ j := by rw [Nat.pow_add, ← Nat.div_div_eq_div_mul, d1]
    have q3 : N % 2 ^ (64 + j) = hi % 2 ^ j * 2 ^ 64 + lo := by
      rw [Nat.pow_add, Nat.mod_mul, d1, d2]; omega
    rw [down_step hF1 _ _ (by omega) (by omega), q1, q3]
    by_cases hz : hi = 0
    · rw [if_pos hz, hz, Nat.zero_div, Nat.zero_mod, Nat.zero_mul, Nat.zero_add]
      rfl
    · rw [if_neg hz, show 64 + j - 64 = j by omega]
      by_cases hj : j < 64
      · have := down_low (O := O) hF1 hj (hi := 0) (lo := hi) (by decide) hhi e' (more || decide (lo ≠ 0)) 0 0 0 false G k
        rw [Nat.zero_mul, Nat.zero_add] at this
        have hx := down_exit (O := O) (F := F) (a_ref01_Down_0ret O k) (a_ref01_Down_00 O k (L_ref01_Down_2 O F k)) (hi := 0) (lo := hi) (j := f + 1) hj e' (more || decide (lo ≠ 0)) 0 0 0 false G
        refine hx.trans (this.trans ?_)
        congr 2
        rw [Bool.or_assoc]
        rw [or_dec]
      · have hst := down_step (O := O) hF1 (a_ref01_Down_0ret O k) (a_ref01_Down_00 O k (L_ref01_Down_2 O F k)) (m := j) (hi := 0) (lo := hi) (j := f + 1) (by omega) (by omega) e' (more || decide (lo ≠ 0)) 0 0 0 false G
        rw [if_pos rfl, decide_eq_true hz, Bool.or_true] at hst
        refine hst.trans ?_
        have hb : hi < 2 ^ j := Nat.lt_of_lt_of_le hhi (Nat.pow_le_pow_right (by decide) (by omega))
        rw [Nat.div_eq_of_lt hb, Nat.mod_eq_of_lt hb, decide_eq_true (show hi * 2 ^ 64 + lo ≠ 0 by omega), Bool.or_true]
        rfl

theorem pow_rung {t q : Nat} (h : t = q + 52) : floorR (2 ^ t) = q * 2 ^ 52 + 2 ^ 52 := by
  refine floorR_of ?_ ?_ (by decide) (.inr (Nat.le_refl _))
  · rw [h, ← Nat.pow_add, Nat.add_comm]; exact Nat.le_refl _
  · rw [h, Nat.add_mul, ← Nat.pow_add, Nat.add_comm 52 q, Nat.one_mul]
    have := Nat.two_pow_pos q
    omega
theorem wRPower {F n : Nat} (hn : 2 ≤ n) : SRPower (runC (R := R) Tryz.prog lo0 F n) := by
  obtain ⟨n, rfl⟩ : ∃ j, n = j + 2 := ⟨n - 2, by omega⟩
  have hfr := wFrom (R := R) (F := F) (n := n + 1) (by omega)
  intro t ht G k
  rw [r_ref01_power, e_ref01_power]
  by_cases h : t < 52
  · have hlt : 2 ^ t < 2 ^ 53 := Nat.pow_lt_pow_right (by decide) (by omega)
    rw [decide_eq_false (by omega), cond_false, wrapI (by omega) (by omega), decide_eq_false (by omega), cond_false, show (t : Int) - 1074 + 1074 = (t : Int) by omega, show (1 : Int) = ((1 : Nat) : Int) from rfl, shl_nat, Nat.one_mul, Nat.mod_eq_of_lt (by omega), hfr, ivF, floorR_small hlt]
  · rw [decide_eq_true (by omega), cond_true, show (t : Int) - 1074 + 1023 = ((t - 51 : Nat) : Int) by omega, wrapI (by omega) (by omega), wrapU_small (by omega), show (52 : Int) = ((52 : Nat) : Int) from rfl, shl_nat, Nat.mod_eq_of_lt (by omega), hfr, ivF, pow_rung (t := t) (q := t - 52) (by omega), show t - 51 = t - 52 + 1 by omega, Nat.add_mul, Nat.one_mul]
end
end Go.LI.Film

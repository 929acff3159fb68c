/- The reference of round: the number at or next to a number of 128 bits. -/
import Derived.Test.YtalpjkeiaeobdaaGreatRdR2
namespace Go.LI.Film
open Go.Proofs.YtalpjkeiaeobdaaGreat Go Go.Proofs Go.LI Go.LI.Fl
set_option linter.unusedVariables false
set_option linter.unusedSimpArgs false
set_option maxRecDepth 100000

/-- A rung that is not beyond the greatest number, but where it grows. -/
def nearW (r : Nat) (grow : Bool) : Nat := if r < 9218868437227405312 then r else if grow then 9218868437227405312 else 9218868437227405311
theorem sealW_near (neg : Bool) (r : Nat) (grow : Bool) : sealW neg r grow = if nearW r grow = 0 then 0 else dbl.word neg (nearW r grow) := rfl
theorem nearW_le (r : Nat) (grow : Bool) : nearW r grow ≤ 9218868437227405312 := by
  unfold nearW; split
  · omega
  · split <;> omega

theorem mul_pow' {m t K : Nat} (hK : K = 1074) (hm : m ≤ 2 ^ 53) (ht : t ≤ 2045) (hr : floorR (m * 2 ^ t) < 9218868437227405312) : dbl.mul (floorR (m * 2 ^ K)) (floorR (2 ^ t)) = some (floorR (m * 2 ^ t)) := by
  have h1 : floorR (m * 2 ^ K) < 9218868437227405312 := nat_rung hm (by omega)
  have h2 : floorR (2 ^ t) < 9218868437227405312 := by
    rw [floorR_inf]
    have := blen_of (n := 2 ^ t) (k := t) (Nat.le_refl _) (Nat.pow_lt_pow_right (by decide) (by omega))
    omega
  refine mul_exact h1 h2 hr ?_
  have hp : mag dbl (floorR (2 ^ t)) = 2 ^ t := by
    have := floorR_mul (m := 1) (q := t) (by decide)
    rw [Nat.one_mul] at this
    exact this
  rw [floorR_mul hm, hp, floorR_mul hm, ← hK, Nat.mul_assoc, Nat.mul_assoc, Nat.mul_comm (2 ^ K)]

theorem sub_zero' {r : Nat} (h : r ≤ 9218868437227405312) : dbl.sub 0 r = some (if r = 0 then 0 else dbl.word true r) := by
  by_cases h0 : r = 0
  · subst h0; decide +kernel
  · rw [if_neg h0]
    have hr := rg_small (r := r) (by omega)
    by_cases h1 : r < 9218868437227405312
    · have := Go.LI.Fl.sub_zero dbl (x := r) (by rw [hr.1]; exact fin_lt h1) (by rw [hr.1]; exact h0)
      rw [this, hr.1, hr.2]
      rfl
    · have : r = 9218868437227405312 := by omega
      subst this
      decide +kernel

section
variable {R : Type}
abbrev SRNear (O : Ora R) : Prop := ∀ (N p s : Nat) (e : Int) (more grow : Bool) (A B : Nat), N < 2 ^ 128 → -20000 ≤ e → e ≤ 20000 → 0 < B → (p : Int) - s = e + 1074 → RepN N p s more A B → (more = true → 54 ≤ blen N) → ∀ (G : GH) (k : IV → GH → Option R),
  O fn_ref01_Near [V N e more, .bool grow] G k = k (.float .f64 (nearW (rndR A B grow) grow)) G
abbrev SRTo (O : Ora R) : Prop := ∀ (neg : Bool) (N p s : Nat) (e : Int) (more down : Bool) (A B : Nat), N < 2 ^ 128 → -20000 ≤ e → e ≤ 20000 → 0 < B → (p : Int) - s = e + 1074 → RepN N p s more A B → (more = true → 54 ≤ blen N) → ∀ (G : GH) (k : IV → GH → Option R),
  O fn_ref01_To [V N e more, .bool neg, .bool down] G k = k (.float .f64 (sealW neg (rndR A B (neg == down)) (neg == down))) G
abbrev SRInf (O : Ora R) : Prop := ∀ (G : GH) (k : IV → GH → Option R), O fn_ref01_Inf [] G k = k (.float .f64 9218868437227405312) G
abbrev SRMost (O : Ora R) : Prop := ∀ (G : GH) (k : IV → GH → Option R), O fn_ref01_Most [] G k = k (.float .f64 9218868437227405311) G
abbrev SRZeroed (O : Ora R) : Prop := ∀ (x : Nat), x < 2 ^ 64 → rg dbl x ≤ 9218868437227405312 → ∀ (G : GH) (k : IV → GH → Option R), O fn_ref01_Zeroed [.float .f64 x] G k = k (.float .f64 (if rg dbl x = 0 then 0 else x)) G

theorem wRInf {F n : Nat} (hn : 2 ≤ n) : SRInf (runC (R := R) Tryz.prog lo0 F n) := by
  obtain ⟨n, rfl⟩ : ∃ j, n = j + 2 := ⟨n - 2, by omega⟩
  have hfr := wFrom (R := R) (F := F) (n := n + 1) (by omega)
  intro G k
  rw [r_ref01_Inf, e_ref01_Inf, show (9218868437227405312 : Int) = ((9218868437227405312 : Nat) : Int) from rfl, hfr, ivF]
theorem wRMost {F n : Nat} (hn : 2 ≤ n) : SRMost (runC (R := R) Tryz.prog lo0 F n) := by
  obtain ⟨n, rfl⟩ : ∃ j, n = j + 2 := ⟨n - 2, by omega⟩
  have hfr := wFrom (R := R) (F := F) (n := n + 1) (by omega)
  intro G k
  rw [r_ref01_Most, e_ref01_Most, show (9218868437227405311 : Int) = ((9218868437227405311 : Nat) : Int) from rfl, hfr, ivF]
theorem wRZeroed {F n : Nat} (hn : 1 ≤ n) : SRZeroed (runC (R := R) Tryz.prog lo0 F n) := by
  obtain ⟨n, rfl⟩ : ∃ j, n = j + 1 := ⟨n - 1, by omega⟩
  intro x hx hi G k
  rw [r_ref01_Zeroed, e_ref01_Zeroed, feq_zero hx hi]
  by_cases h : rg dbl x = 0
  · rw [decide_eq_true h, cond_true, if_pos h]
  · rw [decide_eq_false h, cond_false, if_neg h]

theorem near4 {O : Ora R} (K0 : Int → Int → Int → Int → Bool → GH → Option R) (b0 b1 : Int) (b3 : Bool) (G : GH) : ∀ (i j m : Nat), i < j → i ≤ 1000 → m * 2 ^ i < 2 ^ 64 → l_ref01_Near_4 O K0 j (m : Int) b0 b1 (971 + (i : Int)) b3 G = K0 ((m * 2 ^ i : Nat) : Int) b0 b1 971 b3 G := by
  intro i
  induction i with
  | zero =>
    intro j m hj _ hm
    obtain ⟨j, rfl⟩ : ∃ j', j = j' + 1 := ⟨j - 1, by omega⟩
    simp only [l_ref01_Near_4, u_ref01_Near_4]
    rw [decide_eq_false (by omega), cond_false, Nat.pow_zero, Nat.mul_one]
    rfl
  | succ i ih =>
    intro j m hj hi hm
    obtain ⟨j, rfl⟩ : ∃ j', j = j' + 1 := ⟨j - 1, by omega⟩
    simp only [l_ref01_Near_4, u_ref01_Near_4]
    have h2 : m * 2 ^ (i + 1) = m * 2 * 2 ^ i := by rw [Nat.pow_succ, Nat.mul_comm (2 ^ i) 2, Nat.mul_assoc]
    rw [h2] at hm ⊢
    have hlt : m * 2 < 2 ^ 64 := by
      have := Nat.mul_le_mul_left (m * 2) (Nat.two_pow_pos i)
      omega
    rw [decide_eq_true (by omega), cond_true, show (1 : Int) = ((1 : Nat) : Int) from rfl, shl_nat, Nat.pow_one, Nat.mod_eq_of_lt hlt, wrapI (by omega) (by omega), show 971 + ((i + 1 : Nat) : Int) - ((1 : Nat) : Int) = 971 + (i : Int) by omega]
    exact ih j (m * 2) (by omega) (by omega) hm

/-- From the whole number of 53 bits on. -/
theorem near_end {O : Ora R} {F : Nat} (hF : 1100 ≤ F) (hLen : SRLength O) (hPw : SRPower O) (hInf : SRInf O) (hMo : SRMost O) (grow : Bool) {m t : Nat} (hm : m ≤ 2 ^ 53) (ht : t ≤ 100000) (b0 b1 : Int) (b3 : Bool) (G : GH) (k : IV → GH → Option R) :
    a_ref01_Near_1N O k (L_ref01_Near_3 O F k) grow (m : Int) b0 b1 ((t : Int) - 1074) b3 G = k (.float .f64 (nearW (floorR (m * 2 ^ t)) grow)) G := by
  simp only [a_ref01_Near_1N]
  rw [ib]
  by_cases h0 : m = 0
  · rw [decide_eq_true h0, cond_true, h0, Nat.zero_mul, floorR_small (by decide)]
    rfl
  rw [decide_eq_false h0, cond_false]
  have hb : blen m ≤ 54 := blen_lt.2 (by omega)
  have hl := hLen m 0 false (by omega) (gfreeze G)
  unfold V at hl
  rw [Nat.div_eq_of_lt (show m < 2 ^ 64 by omega), Nat.mod_eq_of_lt (show m < 2 ^ 64 by omega)] at hl
  have hl' : ∀ (k : IV → GH → Option R), O fn_ref01_Length [.agg [.int .u64 0, .int .u64 (m : Int), .int .i64 0, .bool false]] (gfreeze G) k = k (.int .i64 (blen m : Nat)) (gfreeze G) := hl
  rw [hl', ivI, wrapI (v := ((blen m : Nat) : Int) - 1) (by omega) (by omega), wrapI (v := ((blen m : Nat) : Int) - 1 + ((t : Int) - 1074)) (by omega) (by omega)]
  have hiff : floorR (m * 2 ^ t) < 9218868437227405312 ↔ blen m + t ≤ 2098 := by rw [floorR_inf, blen_mul_pow h0]
  by_cases hbig : blen m + t ≤ 2098
  · have hlt := hiff.2 hbig
    rw [decide_eq_false (by omega), cond_false]
    have hnear : nearW (floorR (m * 2 ^ t)) grow = floorR (m * 2 ^ t) := by unfold nearW; rw [if_pos hlt]
    rw [hnear]
    simp only [L_ref01_Near_3]
    rw [stepF (by omega)]
    simp only [l_ref01_Near_3, u_ref01_Near_3]
    rw [decide_eq_true (by omega), cond_true]
    simp only [a_ref01_Near_3N]
    obtain ⟨K, hK⟩ : ∃ K : Nat, K = 1074 := ⟨_, rfl⟩
    by_cases h971 : t ≤ 2045
    · rw [decide_eq_true (by omega), cond_true, hPw t h971, ivF, show FloatKind.f64.format = dbl from rfl, (nat_word' hm hK).1, mul_pow' hK hm h971 hlt, Option.bind_some]
    · rw [decide_eq_false (by omega), cond_false]
      obtain ⟨i, hi⟩ : ∃ i : Nat, t = 2045 + i := ⟨t - 2045, by omega⟩
      have hmi : blen (m * 2 ^ i) ≤ 53 := by rw [blen_mul_pow h0]; omega
      have hmi2 : m * 2 ^ i < 2 ^ 53 := blen_lt.1 hmi
      obtain ⟨Q, hQ⟩ : ∃ Q : Nat, Q = 2045 := ⟨_, rfl⟩
      have he : m * 2 ^ t = m * 2 ^ i * 2 ^ Q := by rw [hi, ← hQ, Nat.mul_assoc, ← Nat.pow_add, Nat.add_comm]
      simp only [L_ref01_Near_4]
      rw [show (t : Int) - 1074 = 971 + (i : Int) by omega, near4 _ _ _ _ _ i F m (by omega) (by omega) (by omega)]
      simp only [a_ref01_Near_40, L_ref01_Near_5]
      obtain ⟨f, hf⟩ : ∃ f, F = f + 1 := ⟨F - 1, by omega⟩
      have h5 : l_ref01_Near_5 O (a_ref01_Near_52 O k) F ((m * 2 ^ i : Nat) : Int) b0 b1 971 b3 G = a_ref01_Near_52 O k ((m * 2 ^ i : Nat) : Int) b0 b1 971 b3 G := by
        rw [hf]
        simp only [l_ref01_Near_5, u_ref01_Near_5]
        rw [decide_eq_false (by omega), cond_false]
      rw [h5]
      simp only [a_ref01_Near_52]
      have hpw := hPw Q (by omega) G
      rw [show (Q : Int) - 1074 = 971 by omega] at hpw
      rw [he] at hlt ⊢
      rw [hpw, ivF, show FloatKind.f64.format = dbl from rfl, (nat_word' (m := m * 2 ^ i) (by omega) hK).1, mul_pow' hK (by omega) (by omega) hlt, Option.bind_some]
  · have hge := mt hiff.1 hbig
    rw [decide_eq_true (by omega), cond_true]
    unfold nearW
    rw [if_neg hge]
    cases grow with
    | true => rw [cond_true, hInf, ivF]; rfl
    | false => rw [cond_false, hMo, ivF]; rfl

theorem near_body {O : Ora R} {F : Nat} (hF : 1100 ≤ F) (hLen : SRLength O) (hD : SRDown O) (hPw : SRPower O) (hInf : SRInf O) (hMo : SRMost O) {more grow : Bool} {N p s A B : Nat} {e : Int} (hN : N < 2 ^ 128) (he1 : -20000 ≤ e) (he2 : e ≤ 20000) (hB : 0 < B) (hps : (p : Int) - s = e + 1074) (hrep : RepN N p s more A B) (hmore : more = true → 54 ≤ blen N) (G : GH) (k : IV → GH → Option R) :
    u_ref01_Near O k (L_ref01_Near_0 O F k) ((N / 2 ^ 64 : Nat) : Int) ((N % 2 ^ 64 : Nat) : Int) e more grow G = k (.float .f64 (nearW (rndR A B grow) grow)) G := by
  have hF1 : 1 ≤ F := by omega
  simp only [u_ref01_Near]
  have hL : ∀ (k : IV → GH → Option R), O fn_ref01_Length [.agg [.int .u64 ((N / 2 ^ 64 : Nat) : Int), .int .u64 ((N % 2 ^ 64 : Nat) : Int), .int .i64 e, .bool more]] G k = k (.int .i64 (blen N : Nat)) G := hLen N e more hN G
  have hb : blen N ≤ 128 := blen_lt.2 hN
  rw [hL, ivI, wrapI (v := ((blen N : Nat) : Int) - 53) (by omega) (by omega)]
  simp only [L_ref01_Near_0]
  rw [stepF hF1]
  simp only [l_ref01_Near_0, u_ref01_Near_0]
  rw [wrapI (v := -1074 - e) (by omega) (by omega)]
  obtain ⟨v, hv⟩ : ∃ v : Int, v = (if (-1074 : Int) - e > ((blen N : Nat) : Int) - 53 then -1074 - e else ((blen N : Nat) : Int) - 53) := ⟨_, rfl⟩
  have fin : a_ref01_Near_0N O k (L_ref01_Near_1 O F k) grow v ((N / 2 ^ 64 : Nat) : Int) ((N % 2 ^ 64 : Nat) : Int) e more G = k (.float .f64 (nearW (rndR A B grow) grow)) G := by
    obtain ⟨n, hn⟩ : ∃ n : Nat, n = v.toNat := ⟨_, rfl⟩
    simp only [a_ref01_Near_0N]
    have hDD : ∀ (k : IV → GH → Option R), O fn_ref01_Down [.agg [.int .u64 ((N / 2 ^ 64 : Nat) : Int), .int .u64 ((N % 2 ^ 64 : Nat) : Int), .int .i64 e, .bool more], .int .i64 v] G k = k (V (N / 2 ^ n) (e + n) (more || decide (N % 2 ^ n ≠ 0))) G := by
      rw [hn]
      exact hD N v e more hN (by omega) (by omega) (by split at hv <;> omega) (by split at hv <;> omega) G
    rw [hDD, V_open]
    obtain ⟨M, hM⟩ : ∃ M, M = N / 2 ^ n := ⟨_, rfl⟩
    obtain ⟨mo, hmo⟩ : ∃ mo, mo = (more || decide (N % 2 ^ n ≠ 0)) := ⟨_, rfl⟩
    rw [← hM, ← hmo]
    have hbl := blen_div_pow N n
    have hM53 : M < 2 ^ 53 := by
      rw [hM]
      refine blen_lt.1 ?_
      split at hv <;> omega
    obtain ⟨t, ht⟩ : ∃ t : Nat, (t : Int) = e + n + 1074 := ⟨(e + n + 1074).toNat, by split at hv <;> omega⟩
    have hc : (t = 0 ∨ 2 ^ 52 ≤ M) ∨ mo = false := by
      by_cases h0 : v > 0
      · left
        split at hv
        · left; omega
        · right; rw [hM]; exact blen_ge.1 (by omega)
      · right
        have hm0 : more = false := by
          cases more with
          | false => rfl
          | true => have := hmore rfl; exfalso; split at hv <;> omega
        have : n = 0 := by omega
        rw [hmo, this, hm0, Nat.pow_zero, Nat.mod_one]
        rfl
    have hsh := hrep.shift hB n
    rw [← hM, ← hmo] at hsh
    have hcan : RepN M t 0 mo A B := by
      refine RepN.cancel (s := s) ?_
      rw [show t + s = p + n by omega]
      exact hsh
    have hround := rndR_of hB hcan hM53 hc grow
    simp only [L_ref01_Near_1]
    rw [stepF hF1]
    simp only [l_ref01_Near_1, u_ref01_Near_1, L_ref01_Near_2]
    rw [stepF hF1]
    simp only [l_ref01_Near_2, u_ref01_Near_2]
    rw [show M / 2 ^ 64 = 0 by omega, Nat.mod_eq_of_lt (show M < 2 ^ 64 by omega), show e + (n : Int) = (t : Int) - 1074 by omega]
    have go : ∀ (b : Bool), (b = true ↔ mo = true ∧ grow = true) → a_ref01_Near_2N O (a_ref01_Near_1N O k (L_ref01_Near_3 O F k)) grow (M : Int) b ((0 : Nat) : Int) (M : Int) ((t : Int) - 1074) mo G = k (.float .f64 (nearW (rndR A B grow) grow)) G := by
      intro b hbb
      rw [hround]
      simp only [a_ref01_Near_2N]
      cases b with
      | true =>
        rw [if_pos (hbb.1 rfl), cond_true, show (M : Int) + 1 = ((M + 1 : Nat) : Int) by omega, wrapU_small (by omega)]
        exact near_end hF hLen hPw hInf hMo grow (by omega) (by split at hv <;> omega) _ _ _ G k
      | false =>
        rw [if_neg (fun h => by have := hbb.2 h; cases this), cond_false, Nat.add_zero]
        exact near_end hF hLen hPw hInf hMo grow (by omega) (by split at hv <;> omega) _ _ _ G k
    cases mo with
    | true => rw [cond_true]; exact go grow (by simp)
    | false => rw [cond_false]; exact go false (by simp)
  by_cases hcmp : (-1074 : Int) - e > ((blen N : Nat) : Int) - 53
  · rw [decide_eq_true hcmp, cond_true]
    rw [if_pos hcmp] at hv
    rw [← hv]
    exact fin
  · rw [decide_eq_false hcmp, cond_false]
    rw [if_neg hcmp] at hv
    rw [← hv]
    exact fin

theorem wRNear {F n : Nat} (hF : 1100 ≤ F) (hn : 3 ≤ n) : SRNear (runC (R := R) Tryz.prog lo0 F n) := by
  obtain ⟨n, rfl⟩ : ∃ j, n = j + 3 := ⟨n - 3, by omega⟩
  intro N p s e more grow A B hN he1 he2 hB hps hrep hmore G k
  unfold V
  rw [r_ref01_Near, e_ref01_Near]
  exact near_body hF (wRLength (by omega) (by omega)) (wRDown (by omega) (by omega)) (wRPower (by omega)) (wRInf (by omega)) (wRMost (by omega)) hN he1 he2 hB hps hrep hmore G k

theorem word_lt {w : Nat} (h : w ≤ 9218868437227405312) : dbl.word true w < 2 ^ 64 := by
  unfold Ieee.Format.word
  rw [dbl_sw]
  simp only [if_true]
  omega
theorem neg_seal {w : Nat} {neg : Bool} (h : neg = false) : w = if w = 0 then 0 else dbl.word neg w := by
  subst h
  split
  · assumption
  · rfl

theorem rto_body {O : Ora R} {F : Nat} (h1 : SRNear O) (h2 : SRZeroed O) {neg : Bool} {N p s : Nat} {e : Int} {more down : Bool} {A B : Nat} (hN : N < 2 ^ 128) (he1 : -20000 ≤ e) (he2 : e ≤ 20000) (hB : 0 < B) (hps : (p : Int) - s = e + 1074) (hrep : RepN N p s more A B) (hmore : more = true → 54 ≤ blen N) (G : GH) (k : IV → GH → Option R) :
    bodyC Tryz.prog O [3, 777777] F Tryz.f67 [V N e more, .bool neg, .bool down] G k = k (.float .f64 (sealW neg (rndR A B (neg == down)) (neg == down))) G := by
  have h1' := h1 N p s e more (neg == down) A B hN he1 he2 hB hps hrep hmore G
  unfold V at h1' ⊢
  rw [e_ref01_To, h1', ivF, sealW_near]
  have hle := nearW_le (rndR A B (neg == down)) (neg == down)
  generalize nearW (rndR A B (neg == down)) (neg == down) = w at hle
  cases neg with
  | false =>
    rw [cond_false, ← neg_seal rfl]
  | true =>
    rw [cond_true, show FloatKind.f64.format = dbl from rfl, sub_zero' hle, Option.bind_some]
    by_cases h0 : w = 0
    · rw [if_pos h0, h2 0 (by decide) (by decide), ivF]; rfl
    · rw [if_neg h0]
      have hw : rg dbl (dbl.word true w) = w := rg_word dbl (by rw [dbl_sw]; omega)
      rw [h2 _ (word_lt hle) (by rw [hw]; exact hle), ivF, hw, if_neg h0]

theorem wRTo {F n : Nat} (hF : 1100 ≤ F) (hn : 4 ≤ n) : SRTo (runC (R := R) Tryz.prog lo0 F n) := by
  obtain ⟨n, rfl⟩ : ∃ j, n = j + 4 := ⟨n - 4, by omega⟩
  intro neg N p s e more down A B hN he1 he2 hB hps hrep hmore G k
  have h := rto_body (O := runC (R := R) Tryz.prog lo0 F (n + 3)) (F := F) (wRNear hF (by omega)) (wRZeroed (by omega)) (neg := neg) (down := down) hN he1 he2 hB hps hrep hmore G k
  unfold V at h ⊢
  rw [r_ref01_To]
  exact h
end
end Go.LI.Film

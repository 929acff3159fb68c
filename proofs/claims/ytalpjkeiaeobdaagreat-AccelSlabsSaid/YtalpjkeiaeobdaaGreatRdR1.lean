/- The reference of round: the small functions. -/
import Derived.Test.YtalpjkeiaeobdaaGreatRdS8
import Derived.Test.YtalpjkeiaeobdaaGreatRdPc
namespace Go.LI.Film
open Go.Proofs.YtalpjkeiaeobdaaGreat Go Go.Proofs Go.LI Go.LI.Fl
set_option linter.unusedVariables false
set_option linter.unusedSimpArgs false
set_option maxRecDepth 100000

/-- A number of 128 bits with its place and rest. -/
def V (N : Nat) (e : Int) (more : Bool) : IV := .agg [.int .u64 ((N / 2 ^ 64 : Nat) : Int), .int .u64 ((N % 2 ^ 64 : Nat) : Int), .int .i64 e, .bool more]
theorem V_open {β : Type} (N : Nat) (e : Int) (more : Bool) (f : Int → Int → Int → Bool → Option β) :
    ((ivAgg 4 (V N e more)).bind fun c3 => (ivInt .u64 (c3.getD 0 undefI)).bind fun x5 => (ivInt .u64 (c3.getD 1 undefI)).bind fun x6 => (ivInt .i64 (c3.getD 2 undefI)).bind fun x7 => (ivBool (c3.getD 3 undefI)).bind fun x8 => f x5 x6 x7 x8) =
      f ((N / 2 ^ 64 : Nat) : Int) ((N % 2 ^ 64 : Nat) : Int) e more := rfl
theorem wrapS {a b : Nat} (ha : a < 2 ^ 64) (hb : b < 2 ^ 64) : IntKind.wrap .u64 ((a : Int) - b) = (((a + 2 ^ 64 - b) % 2 ^ 64 : Nat) : Int) := by
  have e1 : IntKind.u64.bits = 64 := rfl
  unfold IntKind.wrap
  simp only [IntKind.signed, Bool.false_and, Bool.false_eq_true, if_false, e1]
  omega

section
variable {R : Type}
abbrev SRLength (O : Ora R) : Prop := ∀ (N : Nat) (e : Int) (more : Bool), N < 2 ^ 128 → ∀ (G : GH) (k : IV → GH → Option R), O fn_ref01_Length [V N e more] G k = k (.int .i64 (blen N : Nat)) G
abbrev SRUp (O : Ora R) : Prop := ∀ (N n : Nat) (e : Int) (more : Bool), N ≠ 0 → N * 2 ^ n < 2 ^ 128 → -100000 ≤ e → e ≤ 100000 → ∀ (G : GH) (k : IV → GH → Option R),
  O fn_ref01_Up [V N e more, .int .i64 (n : Int)] G k = k (V (N * 2 ^ n) (e - n) more) G
abbrev SRDown (O : Ora R) : Prop := ∀ (N : Nat) (n e : Int) (more : Bool), N < 2 ^ 128 → -100000 ≤ e → e ≤ 100000 → -100000 ≤ n → n ≤ 100000 → ∀ (G : GH) (k : IV → GH → Option R),
  O fn_ref01_Down [V N e more, .int .i64 n] G k = k (V (N / 2 ^ n.toNat) (e + n.toNat) (more || decide (N % 2 ^ n.toNat ≠ 0))) G
abbrev SRPlus (O : Ora R) : Prop := ∀ (N M : Nat) (e d : Int) (more mo : Bool), N + M < 2 ^ 128 → ∀ (G : GH) (k : IV → GH → Option R),
  O fn_ref01_plus [V N e more, V M d mo] G k = k (V (N + M) e (more || mo)) G
abbrev SRBelow (O : Ora R) : Prop := ∀ (N M : Nat) (e d : Int) (more mo : Bool) (G : GH) (k : IV → GH → Option R),
  O fn_ref01_below [V N e more, V M d mo] G k = k (.bool (decide (N < M))) G
abbrev SRMinus (O : Ora R) : Prop := ∀ (N M : Nat) (e d : Int) (more mo : Bool), M ≤ N → N < 2 ^ 128 → ∀ (G : GH) (k : IV → GH → Option R),
  O fn_ref01_minus [V N e more, V M d mo] G k = k (V (N - M) e false) G
abbrev SRPower (O : Ora R) : Prop := ∀ (t : Nat), t ≤ 2045 → ∀ (G : GH) (k : IV → GH → Option R), O fn_ref01_power [.int .i64 ((t : Int) - 1074)] G k = k (.float .f64 (floorR (2 ^ t))) G

theorem len_loop {O : Ora R} {F : Nat} (hF : 1 ≤ F) (K0 : Int → Int → Int → Int → Int → Bool → GH → Option R) (b0 b1 b2 : Int) (b3 : Bool) (G : GH) {d n : Nat} (hd : d ≤ 32) (hd0 : 0 < d) {x s : Nat} (hx : x < 2 ^ (2 * d)) (hs : s ≤ 1000) :
    ∃ x' s' : Nat, x' < 2 ^ d ∧ s' + blen x' = s + blen x ∧ s' ≤ s + d ∧ l_ref01_Length_1 O F K0 (n + 1) (s : Int) (x : Int) (d : Int) b0 b1 b2 b3 G = l_ref01_Length_1 O F K0 n (s' : Int) (x' : Int) ((d / 2 : Nat) : Int) b0 b1 b2 b3 G := by
  have hx64 : x < 2 ^ 64 := Nat.lt_of_lt_of_le hx (Nat.pow_le_pow_right (by decide) (by omega))
  have hstep : ∀ (s x : Nat), a_ref01_Length_2N O (l_ref01_Length_1 O F K0 n) K0 (s : Int) (x : Int) (d : Int) b0 b1 b2 b3 G = l_ref01_Length_1 O F K0 n (s : Int) (x : Int) ((d / 2 : Nat) : Int) b0 b1 b2 b3 G := by
    intro s x
    simp only [a_ref01_Length_2N]
    rw [show Int.tdiv (d : Int) 2 = ((d / 2 : Nat) : Int) by rw [Int.tdiv_eq_ediv_of_nonneg (by omega)]; omega, wrapI (by omega) (by omega)]
  have hopen : l_ref01_Length_1 O F K0 (n + 1) (s : Int) (x : Int) (d : Int) b0 b1 b2 b3 G = bif decide (x / 2 ^ d ≠ 0) then a_ref01_Length_2N O (l_ref01_Length_1 O F K0 n) K0 ((s + d : Nat) : Int) ((x / 2 ^ d : Nat) : Int) (d : Int) b0 b1 b2 b3 G else a_ref01_Length_2N O (l_ref01_Length_1 O F K0 n) K0 (s : Int) (x : Int) (d : Int) b0 b1 b2 b3 G := by
    simp only [l_ref01_Length_1, u_ref01_Length_1, L_ref01_Length_2]
    rw [decide_eq_true (show (d : Int) > 0 by omega), cond_true, stepF hF]
    simp only [l_ref01_Length_2, u_ref01_Length_2]
    rw [decide_eq_false (show ¬ (d : Int) < 0 by omega), cond_false, cond_false, shr_nat hx64, ibn, wrapI (by omega) (by omega), show (s : Int) + (d : Int) = ((s + d : Nat) : Int) by omega]
  by_cases h : x / 2 ^ d = 0
  · refine ⟨x, s, ?_, rfl, by omega, ?_⟩
    · rcases Nat.lt_or_ge x (2 ^ d) with h' | h'
      · exact h'
      · have := Nat.div_pos h' (Nat.two_pow_pos d); omega
    · rw [hopen, decide_eq_false (by omega), cond_false, hstep]
  · refine ⟨x / 2 ^ d, s + d, ?_, ?_, Nat.le_refl _, ?_⟩
    · rw [Nat.div_lt_iff_lt_mul (Nat.two_pow_pos d), ← Nat.pow_add, show d + d = 2 * d by omega]; exact hx
    · have := len_step (x := x) (s := d) (c := 0) (by
        rcases Nat.lt_or_ge x (2 ^ d) with h' | h'
        · exact absurd (Nat.div_eq_of_lt h') h
        · exact h')
      omega
    · rw [hopen, decide_eq_true h, cond_true, hstep]

theorem len_all {O : Ora R} {F : Nat} (hF : 10 ≤ F) (K0 : Int → Int → Int → Int → Int → Bool → GH → Option R) (b0 b1 b2 : Int) (b3 : Bool) (G : GH) {x s : Nat} (hx : x < 2 ^ 64) (hs : s ≤ 100) :
    ∃ x' s' : Nat, s' + x' = s + blen x ∧ s' ≤ 200 ∧ x' ≤ 1 ∧ l_ref01_Length_1 O F K0 F (s : Int) (x : Int) 32 b0 b1 b2 b3 G = K0 (s' : Int) (x' : Int) b0 b1 b2 b3 G := by
  obtain ⟨f, hf⟩ : ∃ f, F = f + 7 := ⟨F - 7, by omega⟩
  have hF1 : 1 ≤ F := by omega
  obtain ⟨x1, s1, a1, a2, a3, a4⟩ := len_loop (O := O) hF1 K0 b0 b1 b2 b3 G (d := 32) (n := f + 6) (by omega) (by omega) (x := x) (s := s) hx (by omega)
  obtain ⟨x2, s2, c1, c2, c3, c4⟩ := len_loop (O := O) hF1 K0 b0 b1 b2 b3 G (d := 16) (n := f + 5) (by omega) (by omega) (x := x1) (s := s1) a1 (by omega)
  obtain ⟨x3, s3, d1, d2, d3, d4⟩ := len_loop (O := O) hF1 K0 b0 b1 b2 b3 G (d := 8) (n := f + 4) (by omega) (by omega) (x := x2) (s := s2) c1 (by omega)
  obtain ⟨x4, s4, e1, e2, e3, e4⟩ := len_loop (O := O) hF1 K0 b0 b1 b2 b3 G (d := 4) (n := f + 3) (by omega) (by omega) (x := x3) (s := s3) d1 (by omega)
  obtain ⟨x5, s5, f1, f2, f3, f4⟩ := len_loop (O := O) hF1 K0 b0 b1 b2 b3 G (d := 2) (n := f + 2) (by omega) (by omega) (x := x4) (s := s4) e1 (by omega)
  obtain ⟨x6, s6, g1, g2, g3, g4⟩ := len_loop (O := O) hF1 K0 b0 b1 b2 b3 G (d := 1) (n := f + 1) (by omega) (by omega) (x := x5) (s := s5) f1 (by omega)
  have hb : blen x6 = x6 := by
    rcases (by omega : x6 = 0 ∨ x6 = 1) with h | h
    · rw [h]; rfl
    · rw [h]; exact blen_of (k := 0) (by decide) (by decide)
  refine ⟨x6, s6, by omega, by omega, by omega, ?_⟩
  conv => lhs; rw [hf]
  rw [← hf]
  have h0 : l_ref01_Length_1 O F K0 (f + 1) (s6 : Int) (x6 : Int) ((0 : Nat) : Int) b0 b1 b2 b3 G = K0 (s6 : Int) (x6 : Int) b0 b1 b2 b3 G := by
    simp only [l_ref01_Length_1, u_ref01_Length_1]
    rfl
  have e32 : l_ref01_Length_1 O F K0 F (s : Int) (x : Int) 32 b0 b1 b2 b3 G = l_ref01_Length_1 O F K0 (f + 6 + 1) (s : Int) (x : Int) ((32 : Nat) : Int) b0 b1 b2 b3 G := by
    rw [show f + 6 + 1 = F by omega]; rfl
  rw [e32, a4, show 32 / 2 = 16 from rfl, c4, show 16 / 2 = 8 from rfl, d4, show 8 / 2 = 4 from rfl, e4, show 4 / 2 = 2 from rfl, f4, show 2 / 2 = 1 from rfl, g4, show 1 / 2 = 0 from rfl, h0]

theorem wRLength {F n : Nat} (hF : 10 ≤ F) (hn : 1 ≤ n) : SRLength (runC (R := R) Tryz.prog lo0 F n) := by
  obtain ⟨n, rfl⟩ : ∃ j, n = j + 1 := ⟨n - 1, by omega⟩
  intro N e more hN G k
  unfold V
  rw [r_ref01_Length, e_ref01_Length]
  generalize runC (R := R) Tryz.prog lo0 F n = O
  simp only [u_ref01_Length, L_ref01_Length_0]
  rw [stepF (by omega)]
  simp only [l_ref01_Length_0, u_ref01_Length_0]
  have fin : ∀ (s x : Nat) (b0 b1 b2 : Int) (b3 : Bool), x < 2 ^ 64 → s ≤ 64 → a_ref01_Length_0N O k (L_ref01_Length_1 O F k) (s : Int) (x : Int) b0 b1 b2 b3 G = k (.int .i64 ((s + blen x : Nat) : Int)) G := by
    intro s x b0 b1 b2 b3 hx hs
    simp only [a_ref01_Length_0N, L_ref01_Length_1]
    obtain ⟨x', s', h1, h2, h3, h4⟩ := len_all (O := O) hF (a_ref01_Length_10 O k) b0 b1 b2 b3 G hx (by omega : s ≤ 100)
    rw [h4]
    simp only [a_ref01_Length_10]
    rw [wrapI (v := (x' : Int)) (by omega) (by omega), wrapI (by omega) (by omega), ← h1, Int.natCast_add]
  rw [ibn]
  by_cases h : N / 2 ^ 64 = 0
  · rw [decide_eq_false (by omega), cond_false]
    have := fin 0 (N % 2 ^ 64) ((N / 2 ^ 64 : Nat) : Int) ((N % 2 ^ 64 : Nat) : Int) e more (Nat.mod_lt _ (by decide)) (by omega)
    rw [Nat.zero_add, show N % 2 ^ 64 = N by omega] at this
    rw [show N % 2 ^ 64 = N by omega]
    exact this
  · rw [decide_eq_true h, cond_true]
    have := fin 64 (N / 2 ^ 64) ((N / 2 ^ 64 : Nat) : Int) ((N % 2 ^ 64 : Nat) : Int) e more (by omega) (by omega)
    have h2 := len_step (x := N) (s := 64) (c := 0) (by omega)
    rw [show 64 + blen (N / 2 ^ 64) = blen N by omega] at this
    exact this

theorem wRUp {F n : Nat} (hF : 1 ≤ F) (hn : 1 ≤ n) : SRUp (runC (R := R) Tryz.prog lo0 F n) := by
  obtain ⟨n, rfl⟩ : ∃ j, n = j + 1 := ⟨n - 1, by omega⟩
  intro N m e more h0 hN he1 he2 G k
  unfold V
  rw [r_ref01_Up, e_ref01_Up]
  have hm : m < 128 := by
    rcases Nat.lt_or_ge m 128 with h | h
    · exact h
    · have h1 : 2 ^ 128 ≤ 2 ^ m := Nat.pow_le_pow_right (by decide) h
      have h2 : 1 * 2 ^ m ≤ N * 2 ^ m := Nat.mul_le_mul_right _ (by omega)
      omega
  simp only [u_ref01_Up, L_ref01_Up_0]
  rw [stepF hF]
  simp only [l_ref01_Up_0, u_ref01_Up_0, a_ref01_Up_0N]
  by_cases h64 : (m : Int) ≥ 64
  · rw [decide_eq_true h64, cond_true, wrapI (v := (m : Int) - 64) (by omega) (by omega), decide_eq_false (by omega), cond_false, show (m : Int) - 64 = ((m - 64 : Nat) : Int) by omega, shl_nat, wrapI (by omega) (by omega)]
    have hN64 : N < 2 ^ 64 := by
      rcases Nat.lt_or_ge N (2 ^ 64) with h | h
      · exact h
      · have h1 : 2 ^ 64 ≤ 2 ^ m := Nat.pow_le_pow_right (by decide) (by omega)
        have h2 : 2 ^ 64 * 2 ^ 64 ≤ N * 2 ^ m := Nat.mul_le_mul h h1
        omega
    have e1 : N * 2 ^ m = N * 2 ^ (m - 64) * 2 ^ 64 := by rw [Nat.mul_assoc, ← Nat.pow_add]; congr 2; omega
    have hlt : N * 2 ^ (m - 64) < 2 ^ 64 := by
      rw [e1] at hN
      have : N * 2 ^ (m - 64) * 2 ^ 64 < 2 ^ 64 * 2 ^ 64 := by omega
      exact Nat.lt_of_mul_lt_mul_right this
    rw [e1, Nat.mul_div_cancel _ (by decide), Nat.mul_mod_left, Nat.mod_eq_of_lt hN64, Nat.mod_eq_of_lt hlt]
    rfl
  · rw [decide_eq_false h64, cond_false]
    by_cases hz : (m : Int) > 0
    · rw [decide_eq_true hz, cond_true, decide_eq_false (by omega), cond_false, wrapI (v := (64 : Int) - m) (by omega) (by omega), decide_eq_false (by omega), cond_false, cond_false, show (64 : Int) - m = ((64 - m : Nat) : Int) by omega,
        shl_nat, shl_nat, shr_nat (Nat.mod_lt _ (by decide)), wrapI (by omega) (by omega)]
      obtain ⟨hi, lo, hhl, hlo⟩ : ∃ hi lo, N = hi * 2 ^ 64 + lo ∧ lo < 2 ^ 64 := ⟨N / 2 ^ 64, N % 2 ^ 64, by omega, by omega⟩
      have d1 : N / 2 ^ 64 = hi := by omega
      have d2 : N % 2 ^ 64 = lo := by omega
      rw [d1, d2]
      have hp : 2 ^ (64 - m) * 2 ^ m = 2 ^ 64 := by rw [← Nat.pow_add]; congr 1; omega
      have hq : lo / 2 ^ (64 - m) < 2 ^ m := by rw [Nat.div_lt_iff_lt_mul (Nat.two_pow_pos _), Nat.mul_comm, hp]; exact hlo
      have hdm := Nat.div_add_mod lo (2 ^ (64 - m))
      have e1 : lo * 2 ^ m = lo / 2 ^ (64 - m) * 2 ^ 64 + lo % 2 ^ (64 - m) * 2 ^ m := by
        conv => lhs; rw [← hdm]
        rw [Nat.add_mul, Nat.mul_comm (2 ^ (64 - m)), Nat.mul_assoc, hp]
      have hr : lo % 2 ^ (64 - m) * 2 ^ m < 2 ^ 64 := by
        rw [← hp]; exact Nat.mul_lt_mul_of_pos_right (Nat.mod_lt _ (Nat.two_pow_pos _)) (Nat.two_pow_pos _)
      have e2 : N * 2 ^ m = (hi * 2 ^ m + lo / 2 ^ (64 - m)) * 2 ^ 64 + lo % 2 ^ (64 - m) * 2 ^ m := by
        rw [hhl, Nat.add_mul, e1, Nat.add_mul, Nat.mul_right_comm, Nat.add_assoc]
      have hb : hi * 2 ^ m + lo / 2 ^ (64 - m) < 2 ^ 64 := by
        rw [e2] at hN
        omega
      have hhi : hi * 2 ^ m < 2 ^ 64 := by omega
      rw [Nat.mod_eq_of_lt hhi, or_nat_add hhi hq (by omega), e2]
      have f1 : ((hi * 2 ^ m + lo / 2 ^ (64 - m)) * 2 ^ 64 + lo % 2 ^ (64 - m) * 2 ^ m) / 2 ^ 64 = hi * 2 ^ m + lo / 2 ^ (64 - m) := by omega
      have f2 : ((hi * 2 ^ m + lo / 2 ^ (64 - m)) * 2 ^ 64 + lo % 2 ^ (64 - m) * 2 ^ m) % 2 ^ 64 = lo * 2 ^ m % 2 ^ 64 := by rw [e1]; omega
      rw [f1, f2]
    · have hm0 : m = 0 := by omega
      subst hm0
      rw [decide_eq_false hz, cond_false, wrapI (by omega) (by omega)]
      simp

theorem wRBelow {F n : Nat} (hn : 1 ≤ n) : SRBelow (runC (R := R) Tryz.prog lo0 F n) := by
  obtain ⟨n, rfl⟩ : ∃ j, n = j + 1 := ⟨n - 1, by omega⟩
  intro N M e d more mo G k
  unfold V
  rw [r_ref01_below, e_ref01_below]
  by_cases h1 : N / 2 ^ 64 < M / 2 ^ 64
  · rw [decide_eq_true (by omega), cond_true, decide_eq_true (by omega)]
  · rw [decide_eq_false (by omega), cond_false]
    by_cases h2 : N / 2 ^ 64 = M / 2 ^ 64
    · rw [h2, show (((M / 2 ^ 64 : Nat) : Int) == ((M / 2 ^ 64 : Nat) : Int)) = true by simp, cond_true]
      congr 2
      rw [decide_eq_decide]; omega
    · rw [show (((N / 2 ^ 64 : Nat) : Int) == ((M / 2 ^ 64 : Nat) : Int)) = false by rw [beq_eq_false_iff_ne]; omega, cond_false, decide_eq_false (by omega)]

theorem wRMinus {F n : Nat} (hn : 1 ≤ n) : SRMinus (runC (R := R) Tryz.prog lo0 F n) := by
  obtain ⟨n, rfl⟩ : ∃ j, n = j + 1 := ⟨n - 1, by omega⟩
  intro N M e d more mo hMN hN G k
  unfold V
  rw [r_ref01_minus, e_ref01_minus, wrapS (Nat.mod_lt _ (by decide)) (Nat.mod_lt _ (by decide)), wrapS (by omega) (by omega)]
  have q1 : (N % 2 ^ 64 + 2 ^ 64 - M % 2 ^ 64) % 2 ^ 64 = (N - M) % 2 ^ 64 := by omega
  rw [q1]
  by_cases h : N % 2 ^ 64 < M % 2 ^ 64
  · rw [decide_eq_true (by omega), cond_true, show (1 : Int) = ((1 : Nat) : Int) from rfl, wrapS (Nat.mod_lt _ (by decide)) (by decide), show ((N / 2 ^ 64 + 2 ^ 64 - M / 2 ^ 64) % 2 ^ 64 + 2 ^ 64 - 1) % 2 ^ 64 = (N - M) / 2 ^ 64 by omega]
  · rw [decide_eq_false (by omega), cond_false, show (N / 2 ^ 64 + 2 ^ 64 - M / 2 ^ 64) % 2 ^ 64 = (N - M) / 2 ^ 64 by omega]

theorem wRPlus {F n : Nat} (hF : 1 ≤ F) (hn : 1 ≤ n) : SRPlus (runC (R := R) Tryz.prog lo0 F n) := by
  obtain ⟨n, rfl⟩ : ∃ j, n = j + 1 := ⟨n - 1, by omega⟩
  intro N M e d more mo hN G k
  unfold V
  rw [r_ref01_plus, e_ref01_plus]
  generalize runC (R := R) Tryz.prog lo0 F n = O
  simp only [u_ref01_plus, L_ref01_plus_0]
  rw [stepF hF]
  simp only [l_ref01_plus_0, u_ref01_plus_0, a_ref01_plus_0N]
  rw [← Int.natCast_add, ← Int.natCast_add, wrapU, wrapU, show ((N % 2 ^ 64 + M % 2 ^ 64) % 2 ^ 64) = (N + M) % 2 ^ 64 by omega]
  have fin : ∀ (b : Bool), (bif decide ((((N + M) % 2 ^ 64 : Nat) : Int) < ((N % 2 ^ 64 : Nat) : Int)) then k (.agg [.int .u64 (IntKind.wrap .u64 ((((N / 2 ^ 64 + M / 2 ^ 64) % 2 ^ 64 : Nat) : Int) + 1)), .int .u64 (((N + M) % 2 ^ 64 : Nat) : Int), .int .i64 e, .bool b]) G else k (.agg [.int .u64 (((N / 2 ^ 64 + M / 2 ^ 64) % 2 ^ 64 : Nat) : Int), .int .u64 (((N + M) % 2 ^ 64 : Nat) : Int), .int .i64 e, .bool b]) G) = k (.agg [.int .u64 (((N + M) / 2 ^ 64 : Nat) : Int), .int .u64 (((N + M) % 2 ^ 64 : Nat) : Int), .int .i64 e, .bool b]) G := by
    intro b
    by_cases h : (N + M) % 2 ^ 64 < N % 2 ^ 64
    · rw [decide_eq_true (by omega), cond_true, show (((N / 2 ^ 64 + M / 2 ^ 64) % 2 ^ 64 : Nat) : Int) + 1 = (((N / 2 ^ 64 + M / 2 ^ 64) % 2 ^ 64 + 1 : Nat) : Int) by omega, wrapU, show ((N / 2 ^ 64 + M / 2 ^ 64) % 2 ^ 64 + 1) % 2 ^ 64 = (N + M) / 2 ^ 64 by omega]
    · rw [decide_eq_false (by omega), cond_false, show (N / 2 ^ 64 + M / 2 ^ 64) % 2 ^ 64 = (N + M) / 2 ^ 64 by omega]
  cases more with
  | true => rw [cond_true, Bool.true_or]; exact fin true
  | false => rw [cond_false, Bool.false_or]; exact fin mo
end
end Go.LI.Film

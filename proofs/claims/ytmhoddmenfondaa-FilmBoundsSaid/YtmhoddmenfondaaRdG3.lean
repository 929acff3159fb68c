/- Several texts of this claim in one. -/
import Derived.Test.YtmhoddmenfondaaRdG2
import Derived.Test.YtmhoddmenfondaaRdPc

/-! The reference of round: the small functions. -/
namespace Go.LI.Film
open Go.Proofs.Ytmhoddmenfondaa Go Go.Proofs Go.LI Go.LI.Fl
set_option linter.unusedVariables false
set_option linter.unusedSimpArgs false
set_option maxRecDepth 100000

/-- A number of 128 bits with its place and rest. -/
def V (N : Nat) (e : Int) (more : Bool) : IV := .agg [.int .u64 ((N / 2 ^ 64 : Nat) : Int), .int .u64 ((N % 2 ^ 64 : Nat) : Int), .int .i64 e, .bool more]
theorem V_open {β : Type} (N : Nat) (e : Int) (more : Bool) (f : Int → Int → Int → Bool → Option β) :
    ((ivAgg 4 (V N e more)).bind fun c3 => (ivInt .u64 (c3.getD 0 undefI)).bind fun x5 => (ivInt .u64 (c3.getD 1 undefI)).bind fun x6 => (ivInt .i64 (c3.getD 2 undefI)).bind fun x7 => (ivBool (c3.getD 3 undefI)).bind fun x8 => f x5 x6 x7 x8) =
      f ((N / 2 ^ 64 : Nat) : Int) ((N % 2 ^ 64 : Nat) : Int) e more := rfl
theorem wrapS {a b : Nat} (ha : a < 2 ^ 64) (hb : b < 2 ^ 64) : IntKind.wrap .u64 ((a : Int) - b) = (((a + 2 ^ 64 - b) % 2 ^ 64 : Nat) : Int) := by
  have e1 : IntKind.u64.bits = 64 := rfl
  unfold IntKind.wrap
  simp only [IntKind.signed, Bool.false_and, Bool.false_eq_true, if_false, e1]
  omega

section
variable {R : Type}
abbrev SRLength (O : Ora R) : Prop := ∀ (N : Nat) (e : Int) (more : Bool), N < 2 ^ 128 → ∀ (G : GH) (k : IV → GH → Option R), O fn_zl [V N e more] G k = k (.int .i64 (blen N : Nat)) G
abbrev SRUp (O : Ora R) : Prop := ∀ (N n : Nat) (e : Int) (more : Bool), N ≠ 0 → N * 2 ^ n < 2 ^ 128 → -100000 ≤ e → e ≤ 100000 → ∀ (G : GH) (k : IV → GH → Option R),
  O fn_zD [V N e more, .int .i64 (n : Int)] G k = k (V (N * 2 ^ n) (e - n) more) G
abbrev SRDown (O : Ora R) : Prop := ∀ (N : Nat) (n e : Int) (more : Bool), N < 2 ^ 128 → -100000 ≤ e → e ≤ 100000 → -100000 ≤ n → n ≤ 100000 → ∀ (G : GH) (k : IV → GH → Option R),
  O fn_zk [V N e more, .int .i64 n] G k = k (V (N / 2 ^ n.toNat) (e + n.toNat) (more || decide (N % 2 ^ n.toNat ≠ 0))) G
abbrev SRPlus (O : Ora R) : Prop := ∀ (N M : Nat) (e d : Int) (more mo : Bool), N + M < 2 ^ 128 → ∀ (G : GH) (k : IV → GH → Option R),
  O fn_zG [V N e more, V M d mo] G k = k (V (N + M) e (more || mo)) G
abbrev SRBelow (O : Ora R) : Prop := ∀ (N M : Nat) (e d : Int) (more mo : Bool) (G : GH) (k : IV → GH → Option R),
  O fn_zB1 [V N e more, V M d mo] G k = k (.bool (decide (N < M))) G
abbrev SRMinus (O : Ora R) : Prop := ∀ (N M : Nat) (e d : Int) (more mo : Bool), M ≤ N → N < 2 ^ 128 → ∀ (G : GH) (k : IV → GH → Option R),
  O fn_zU [V N e more, V M d mo] G k = k (V (N - M) e false) G
abbrev SRPower (O : Ora R) : Prop := ∀ (t : Nat), t ≤ 2045 → ∀ (G : GH) (k : IV → GH → Option R), O fn_zD1 [.int .i64 ((t : Int) - 1074)] G k = k (.float .f64 (floorR (2 ^ t))) G

theorem len_loop {O : Ora R} {F : Nat} (hF : 1 ≤ F) (K0 : Int → Int → Int → Int → Int → Bool → GH → Option R) (b0 b1 b2 : Int) (b3 : Bool) (G : GH) {d n : Nat} (hd : d ≤ 32) (hd0 : 0 < d) {x s : Nat} (hx : x < 2 ^ (2 * d)) (hs : s ≤ 1000) :
    ∃ x' s' : Nat, x' < 2 ^ d ∧ s' + blen x' = s + blen x ∧ s' ≤ s + d ∧ l_zl_1 O F K0 (n + 1) (s : Int) (x : Int) (d : Int) b0 b1 b2 b3 G = l_zl_1 O F K0 n (s' : Int) (x' : Int) ((d / 2 : Nat) : Int) b0 b1 b2 b3 G := by
  have hx64 : x < 2 ^ 64 := Nat.lt_of_lt_of_le hx (Nat.pow_le_pow_right (by decide) (by omega))
  have hstep : ∀ (s x : Nat), a_zl_2N O (l_zl_1 O F K0 n) K0 (s : Int) (x : Int) (d : Int) b0 b1 b2 b3 G = l_zl_1 O F K0 n (s : Int) (x : Int) ((d / 2 : Nat) : Int) b0 b1 b2 b3 G := by
    intro s x
    simp only [a_zl_2N]
    rw [show Int.tdiv (d : Int) 2 = ((d / 2 : Nat) : Int) by rw [Int.tdiv_eq_ediv_of_nonneg (by omega)]; omega, wrapI (by omega) (by omega)]
  have hopen : l_zl_1 O F K0 (n + 1) (s : Int) (x : Int) (d : Int) b0 b1 b2 b3 G = bif decide (x / 2 ^ d ≠ 0) then a_zl_2N O (l_zl_1 O F K0 n) K0 ((s + d : Nat) : Int) ((x / 2 ^ d : Nat) : Int) (d : Int) b0 b1 b2 b3 G else a_zl_2N O (l_zl_1 O F K0 n) K0 (s : Int) (x : Int) (d : Int) b0 b1 b2 b3 G := by
    simp only [l_zl_1, u_zl_1, L_zl_2]
    rw [decide_eq_true (show (d : Int) > 0 by omega), cond_true, stepF hF]
    simp only [l_zl_2, u_zl_2]
    rw [decide_eq_false (show ¬ (d : Int) < 0 by omega), cond_false, cond_false, shr_nat hx64, ibn, wrapI (by omega) (by omega), show (s : Int) + (d : Int) = ((s + d : Nat) : Int) by omega]
  by_cases h : x / 2 ^ d = 0
  · refine ⟨x, s, ?_, rfl, by omega, ?_⟩
    · rcases Nat.lt_or_ge x (2 ^ d) with h' | h'
      · exact h'
      · have := Nat.div_pos h' (Nat.two_pow_pos d); omega
    · rw [hopen, decide_eq_false (by omega), cond_false, hstep]
  · refine ⟨x / 2 ^ d, s + d, ?_, ?_, Nat.le_refl _, ?_⟩
    · rw [Nat.div_lt_iff_lt_mul (Nat.two_pow_pos d), ← Nat.pow_add, show d + d = 2 * d by omega]; exact hx
    · have := len_step (x := x) (s := d) (c := 0) (by
        rcases Nat.lt_or_ge x (2 ^ d) with h' | h'
        · exact absurd (Nat.div_eq_of_lt h') h
        · exact h')
      omega
    · rw [hopen, decide_eq_true h, cond_true, hstep]

theorem len_all {O : Ora R} {F : Nat} (hF : 10 ≤ F) (K0 : Int → Int → Int → Int → Int → Bool → GH → Option R) (b0 b1 b2 : Int) (b3 : Bool) (G : GH) {x s : Nat} (hx : x < 2 ^ 64) (hs : s ≤ 100) :
    ∃ x' s' : Nat, s' + x' = s + blen x ∧ s' ≤ 200 ∧ x' ≤ 1 ∧ l_zl_1 O F K0 F (s : Int) (x : Int) 32 b0 b1 b2 b3 G = K0 (s' : Int) (x' : Int) b0 b1 b2 b3 G := by
  obtain ⟨f, hf⟩ : ∃ f, F = f + 7 := ⟨F - 7, by omega⟩
  have hF1 : 1 ≤ F := by omega
  obtain ⟨x1, s1, a1, a2, a3, a4⟩ := len_loop (O := O) hF1 K0 b0 b1 b2 b3 G (d := 32) (n := f + 6) (by omega) (by omega) (x := x) (s := s) hx (by omega)
  obtain ⟨x2, s2, c1, c2, c3, c4⟩ := len_loop (O := O) hF1 K0 b0 b1 b2 b3 G (d := 16) (n := f + 5) (by omega) (by omega) (x := x1) (s := s1) a1 (by omega)
  obtain ⟨x3, s3, d1, d2, d3, d4⟩ := len_loop (O := O) hF1 K0 b0 b1 b2 b3 G (d := 8) (n := f + 4) (by omega) (by omega) (x := x2) (s := s2) c1 (by omega)
  obtain ⟨x4, s4, e1, e2, e3, e4⟩ := len_loop (O := O) hF1 K0 b0 b1 b2 b3 G (d := 4) (n := f + 3) (by omega) (by omega) (x := x3) (s := s3) d1 (by omega)
  obtain ⟨x5, s5, f1, f2, f3, f4⟩ := len_loop (O := O) hF1 K0 b0 b1 b2 b3 G (d := 2) (n := f + 2) (by omega) (by omega) (x := x4) (s := s4) e1 (by omega)
  obtain ⟨x6, s6, g1, g2, g3, g4⟩ := len_loop (O := O) hF1 K0 b0 b1 b2 b3 G (d := 1) (n := f + 1) (by omega) (by omega) (x := x5) (s := s5) f1 (by omega)
  have hb : blen x6 = x6 := by
    rcases (by omega : x6 = 0 ∨ x6 = 1) with h | h
    · rw [h]; rfl
    · rw [h]; exact blen_of (k := 0) (by decide) (by decide)
  refine ⟨x6, s6, by omega, by omega, by omega, ?_⟩
  conv => lhs; rw [hf]
  rw [← hf]
  have h0 : l_zl_1 O F K0 (f + 1) (s6 : Int) (x6 : Int) ((0 : Nat) : Int) b0 b1 b2 b3 G = K0 (s6 : Int) (x6 : Int) b0 b1 b2 b3 G := by
    simp only [l_zl_1, u_zl_1]
    rfl
  have e32 : l_zl_1 O F K0 F (s : Int) (x : Int) 32 b0 b1 b2 b3 G = l_zl_1 O F K0 (f + 6 + 1) (s : Int) (x : Int) ((32 : Nat) : Int) b0 b1 b2 b3 G := by
    rw [show f + 6 + 1 = F by omega]; rfl
  rw [e32, a4, show 32 / 2 = 16 from rfl, c4, show 16 / 2 = 8 from rfl, d4, show 8 / 2 = 4 from rfl, e4, show 4 / 2 = 2 from rfl, f4, show 2 / 2 = 1 from rfl, g4, show 1 / 2 = 0 from rfl, h0]

theorem wRLength {F n : Nat} (hF : 10 ≤ F) (hn : 1 ≤ n) : SRLength (runC (R := R) Try.prog lo0 F n) := by
  obtain ⟨n, rfl⟩ : ∃ j, n = j + 1 := ⟨n - 1, by omega⟩
  intro N e more hN G k
  unfold V
  rw [r_zl, e_zl]
  generalize runC (R := R) Try.prog lo0 F n = O
  simp only [u_zl, L_zl_0]
  rw [stepF (by omega)]
  simp only [l_zl_0, u_zl_0]
  have fin : ∀ (s x : Nat) (b0 b1 b2 : Int) (b3 : Bool), x < 2 ^ 64 → s ≤ 64 → a_zl_0N O k (L_zl_1 O F k) (s : Int) (x : Int) b0 b1 b2 b3 G = k (.int .i64 ((s + blen x : Nat) : Int)) G := by
    intro s x b0 b1 b2 b3 hx hs
    simp only [a_zl_0N, L_zl_1]
    obtain ⟨x', s', h1, h2, h3, h4⟩ := len_all (O := O) hF (a_zl_10 O k) b0 b1 b2 b3 G hx (by omega : s ≤ 100)
    rw [h4]
    simp only [a_zl_10]
    rw [wrapI (v := (x' : Int)) (by omega) (by omega), wrapI (by omega) (by omega), ← h1, Int.natCast_add]
  rw [ibn]
  by_cases h : N / 2 ^ 64 = 0
  · rw [decide_eq_false (by omega), cond_false]
    have := fin 0 (N % 2 ^ 64) ((N / 2 ^ 64 : Nat) : Int) ((N % 2 ^ 64 : Nat) : Int) e more (Nat.mod_lt _ (by decide)) (by omega)
    rw [Nat.zero_add, show N % 2 ^ 64 = N by omega] at this
    rw [show N % 2 ^ 64 = N by omega]
    exact this
  · rw [decide_eq_true h, cond_true]
    have := fin 64 (N / 2 ^ 64) ((N / 2 ^ 64 : Nat) : Int) ((N % 2 ^ 64 : Nat) : Int) e more (by omega) (by omega)
    have h2 := len_step (x := N) (s := 64) (c := 0) (by omega)
    rw [show 64 + blen (N / 2 ^ 64) = blen N by omega] at this
    exact this

theorem wRUp {F n : Nat} (hF : 1 ≤ F) (hn : 1 ≤ n) : SRUp (runC (R := R) Try.prog lo0 F n) := by
  obtain ⟨n, rfl⟩ : ∃ j, n = j + 1 := ⟨n - 1, by omega⟩
  intro N m e more h0 hN he1 he2 G k
  unfold V
  rw [r_zD, e_zD]
  have hm : m < 128 := by
    rcases Nat.lt_or_ge m 128 with h | h
    · exact h
    · have h1 : 2 ^ 128 ≤ 2 ^ m := Nat.pow_le_pow_right (by decide) h
      have h2 : 1 * 2 ^ m ≤ N * 2 ^ m := Nat.mul_le_mul_right _ (by omega)
      omega
  simp only [u_zD, L_zD_0]
  rw [stepF hF]
  simp only [l_zD_0, u_zD_0, a_zD_0N]
  by_cases h64 : (m : Int) ≥ 64
  · rw [decide_eq_true h64, cond_true, wrapI (v := (m : Int) - 64) (by omega) (by omega), decide_eq_false (by omega), cond_false, show (m : Int) - 64 = ((m - 64 : Nat) : Int) by omega, shl_nat, wrapI (by omega) (by omega)]
    have hN64 : N < 2 ^ 64 := by
      rcases Nat.lt_or_ge N (2 ^ 64) with h | h
      · exact h
      · have h1 : 2 ^ 64 ≤ 2 ^ m := Nat.pow_le_pow_right (by decide) (by omega)
        have h2 : 2 ^ 64 * 2 ^ 64 ≤ N * 2 ^ m := Nat.mul_le_mul h h1
        omega
    have e1 : N * 2 ^ m = N * 2 ^ (m - 64) * 2 ^ 64 := by rw [Nat.mul_assoc, ← Nat.pow_add]; congr 2; omega
    have hlt : N * 2 ^ (m - 64) < 2 ^ 64 := by
      rw [e1] at hN
      have : N * 2 ^ (m - 64) * 2 ^ 64 < 2 ^ 64 * 2 ^ 64 := by omega
      exact Nat.lt_of_mul_lt_mul_right this
    rw [e1, Nat.mul_div_cancel _ (by decide), Nat.mul_mod_left, Nat.mod_eq_of_lt hN64, Nat.mod_eq_of_lt hlt]
    rfl
  · rw [decide_eq_false h64, cond_false]
    by_cases hz : (m : Int) > 0
    · rw [decide_eq_true hz, cond_true, decide_eq_false (by omega), cond_false, wrapI (v := (64 : Int) - m) (by omega) (by omega), decide_eq_false (by omega), cond_false, cond_false, show (64 : Int) - m = ((64 - m : Nat) : Int) by omega,
        shl_nat, shl_nat, shr_nat (Nat.mod_lt _ (by decide)), wrapI (by omega) (by omega)]
      obtain ⟨hi, lo, hhl, hlo⟩ : ∃ hi lo, N = hi * 2 ^ 64 + lo ∧ lo < 2 ^ 64 := ⟨N / 2 ^ 64, N % 2 ^ 64, by omega, by omega⟩
      have d1 : N / 2 ^ 64 = hi := by omega
      have d2 : N % 2 ^ 64 = lo := by omega
      rw [d1, d2]
      have hp : 2 ^ (64 - m) * 2 ^ m = 2 ^ 64 := by rw [← Nat.pow_add]; congr 1; omega
      have hq : lo / 2 ^ (64 - m) < 2 ^ m := by rw [Nat.div_lt_iff_lt_mul (Nat.two_pow_pos _), Nat.mul_comm, hp]; exact hlo
      have hdm := Nat.div_add_mod lo (2 ^ (64 - m))
      have e1 : lo * 2 ^ m = lo / 2 ^ (64 - m) * 2 ^ 64 + lo % 2 ^ (64 - m) * 2 ^ m := by
        conv => lhs; rw [← hdm]
        rw [Nat.add_mul, Nat.mul_comm (2 ^ (64 - m)), Nat.mul_assoc, hp]
      have hr : lo % 2 ^ (64 - m) * 2 ^ m < 2 ^ 64 := by
        rw [← hp]; exact Nat.mul_lt_mul_of_pos_right (Nat.mod_lt _ (Nat.two_pow_pos _)) (Nat.two_pow_pos _)
      have e2 : N * 2 ^ m = (hi * 2 ^ m + lo / 2 ^ (64 - m)) * 2 ^ 64 + lo % 2 ^ (64 - m) * 2 ^ m := by
        rw [hhl, Nat.add_mul, e1, Nat.add_mul, Nat.mul_right_comm, Nat.add_assoc]
      have hb : hi * 2 ^ m + lo / 2 ^ (64 - m) < 2 ^ 64 := by
        rw [e2] at hN
        omega
      have hhi : hi * 2 ^ m < 2 ^ 64 := by omega
      rw [Nat.mod_eq_of_lt hhi, or_nat_add hhi hq (by omega), e2]
      have f1 : ((hi * 2 ^ m + lo / 2 ^ (64 - m)) * 2 ^ 64 + lo % 2 ^ (64 - m) * 2 ^ m) / 2 ^ 64 = hi * 2 ^ m + lo / 2 ^ (64 - m) := by omega
      have f2 : ((hi * 2 ^ m + lo / 2 ^ (64 - m)) * 2 ^ 64 + lo % 2 ^ (64 - m) * 2 ^ m) % 2 ^ 64 = lo * 2 ^ m % 2 ^ 64 := by rw [e1]; omega
      rw [f1, f2]
    · have hm0 : m = 0 := by omega
      subst hm0
      rw [decide_eq_false hz, cond_false, wrapI (by omega) (by omega)]
      simp

theorem wRBelow {F n : Nat} (hn : 1 ≤ n) : SRBelow (runC (R := R) Try.prog lo0 F n) := by
  obtain ⟨n, rfl⟩ : ∃ j, n = j + 1 := ⟨n - 1, by omega⟩
  intro N M e d more mo G k
  unfold V
  rw [r_zB1, e_zB1]
  by_cases h1 : N / 2 ^ 64 < M / 2 ^ 64
  · rw [decide_eq_true (by omega), cond_true, decide_eq_true (by omega)]
  · rw [decide_eq_false (by omega), cond_false]
    by_cases h2 : N / 2 ^ 64 = M / 2 ^ 64
    · rw [h2, show (((M / 2 ^ 64 : Nat) : Int) == ((M / 2 ^ 64 : Nat) : Int)) = true by simp, cond_true]
      congr 2
      rw [decide_eq_decide]; omega
    · rw [show (((N / 2 ^ 64 : Nat) : Int) == ((M / 2 ^ 64 : Nat) : Int)) = false by rw [beq_eq_false_iff_ne]; omega, cond_false, decide_eq_false (by omega)]

theorem wRMinus {F n : Nat} (hn : 1 ≤ n) : SRMinus (runC (R := R) Try.prog lo0 F n) := by
  obtain ⟨n, rfl⟩ : ∃ j, n = j + 1 := ⟨n - 1, by omega⟩
  intro N M e d more mo hMN hN G k
  unfold V
  rw [r_zU, e_zU, wrapS (Nat.mod_lt _ (by decide)) (Nat.mod_lt _ (by decide)), wrapS (by omega) (by omega)]
  have q1 : (N % 2 ^ 64 + 2 ^ 64 - M % 2 ^ 64) % 2 ^ 64 = (N - M) % 2 ^ 64 := by omega
  rw [q1]
  by_cases h : N % 2 ^ 64 < M % 2 ^ 64
  · rw [decide_eq_true (by omega), cond_true, show (1 : Int) = ((1 : Nat) : Int) from rfl, wrapS (Nat.mod_lt _ (by decide)) (by decide), show ((N / 2 ^ 64 + 2 ^ 64 - M / 2 ^ 64) % 2 ^ 64 + 2 ^ 64 - 1) % 2 ^ 64 = (N - M) / 2 ^ 64 by omega]
  · rw [decide_eq_false (by omega), cond_false, show (N / 2 ^ 64 + 2 ^ 64 - M / 2 ^ 64) % 2 ^ 64 = (N - M) / 2 ^ 64 by omega]

theorem wRPlus {F n : Nat} (hF : 1 ≤ F) (hn : 1 ≤ n) : SRPlus (runC (R := R) Try.prog lo0 F n) := by
  obtain ⟨n, rfl⟩ : ∃ j, n = j + 1 := ⟨n - 1, by omega⟩
  intro N M e d more mo hN G k
  unfold V
  rw [r_zG, e_zG]
  generalize runC (R := R) Try.prog lo0 F n = O
  simp only [u_zG, L_zG_0]
  rw [stepF hF]
  simp only [l_zG_0, u_zG_0, a_zG_0N]
  rw [← Int.natCast_add, ← Int.natCast_add, wrapU, wrapU, show ((N % 2 ^ 64 + M % 2 ^ 64) % 2 ^ 64) = (N + M) % 2 ^ 64 by omega]
  have fin : ∀ (b : Bool), (bif decide ((((N + M) % 2 ^ 64 : Nat) : Int) < ((N % 2 ^ 64 : Nat) : Int)) then k (.agg [.int .u64 (IntKind.wrap .u64 ((((N / 2 ^ 64 + M / 2 ^ 64) % 2 ^ 64 : Nat) : Int) + 1)), .int .u64 (((N + M) % 2 ^ 64 : Nat) : Int), .int .i64 e, .bool b]) G else k (.agg [.int .u64 (((N / 2 ^ 64 + M / 2 ^ 64) % 2 ^ 64 : Nat) : Int), .int .u64 (((N + M) % 2 ^ 64 : Nat) : Int), .int .i64 e, .bool b]) G) = k (.agg [.int .u64 (((N + M) / 2 ^ 64 : Nat) : Int), .int .u64 (((N + M) % 2 ^ 64 : Nat) : Int), .int .i64 e, .bool b]) G := by
    intro b
    by_cases h : (N + M) % 2 ^ 64 < N % 2 ^ 64
    · rw [decide_eq_true (by omega), cond_true, show (((N / 2 ^ 64 + M / 2 ^ 64) % 2 ^ 64 : Nat) : Int) + 1 = (((N / 2 ^ 64 + M / 2 ^ 64) % 2 ^ 64 + 1 : Nat) : Int) by omega, wrapU, show ((N / 2 ^ 64 + M / 2 ^ 64) % 2 ^ 64 + 1) % 2 ^ 64 = (N + M) / 2 ^ 64 by omega]
    · rw [decide_eq_false (by omega), cond_false, show (N / 2 ^ 64 + M / 2 ^ 64) % 2 ^ 64 = (N + M) / 2 ^ 64 by omega]
  cases more with
  | true => rw [cond_true, Bool.true_or]; exact fin true
  | false => rw [cond_false, Bool.false_or]; exact fin mo
end
end Go.LI.Film

/-! The reference of round: to the right, powers. -/
namespace Go.LI.Film
open Go.Proofs.Ytmhoddmenfondaa Go Go.Proofs Go.LI Go.LI.Fl
set_option linter.unusedVariables false
set_option linter.unusedSimpArgs false
set_option maxRecDepth 100000
section
variable {R : Type}

theorem down_low {O : Ora R} {F : Nat} (hF : 1 ≤ F) {m hi lo : Nat} (hm : m < 64) (hhi : hi < 2 ^ 64) (hlo : lo < 2 ^ 64) (e : Int) (more : Bool) (c0 c1 c2 : Int) (c3 : Bool) (G : GH) (k : IV → GH → Option R) :
    a_zk_00 O k (L_zk_2 O F k) (m : Int) (hi : Int) (lo : Int) e more c0 c1 c2 c3 G = k (V ((hi * 2 ^ 64 + lo) / 2 ^ m) e (more || decide ((hi * 2 ^ 64 + lo) % 2 ^ m ≠ 0))) G := by
  obtain ⟨N, hN⟩ : ∃ N, N = hi * 2 ^ 64 + lo := ⟨_, rfl⟩
  rw [← hN]
  unfold V
  simp only [a_zk_00]
  by_cases h0 : (m : Int) > 0
  · rw [decide_eq_true h0, cond_true]
    simp only [L_zk_2]
    rw [stepF hF]
    simp only [l_zk_2, u_zk_2, a_zk_2N]
    have w2 : IntKind.wrap .i64 ((64 : Int) - (m : Int)) = ((64 - m : Nat) : Int) := by rw [wrapI (by omega) (by omega)]; omega
    rw [w2, decide_eq_false (show ¬ ((m : Nat) : Int) < 0 by omega), decide_eq_false (show ¬ ((64 - m : Nat) : Int) < 0 by omega), shr_nat hhi, shr_nat hlo, shl_nat, shl_nat, ibn]
    have hp : 2 ^ (64 - m) * 2 ^ m = 2 ^ 64 := by rw [← Nat.pow_add]; congr 1; omega
    have hp' : 2 ^ m * 2 ^ (64 - m) = 2 ^ 64 := by rw [Nat.mul_comm]; exact hp
    have hq : lo / 2 ^ m < 2 ^ (64 - m) := by rw [Nat.div_lt_iff_lt_mul (Nat.two_pow_pos _), hp]; exact hlo
    have hdm := Nat.div_add_mod hi (2 ^ m)
    have e1 : hi * 2 ^ (64 - m) = hi / 2 ^ m * 2 ^ 64 + hi % 2 ^ m * 2 ^ (64 - m) := by
      conv => lhs; rw [← hdm]
      rw [Nat.add_mul, Nat.mul_comm (2 ^ m), Nat.mul_assoc, hp']
    have hr : hi % 2 ^ m * 2 ^ (64 - m) < 2 ^ 64 := by
      rw [← hp']; exact Nat.mul_lt_mul_of_pos_right (Nat.mod_lt _ (Nat.two_pow_pos _)) (Nat.two_pow_pos _)
    have e2 : hi * 2 ^ (64 - m) % 2 ^ 64 = hi % 2 ^ m * 2 ^ (64 - m) := by rw [e1]; exact (dm64 hr).2
    have q1 : N / 2 ^ m = hi / 2 ^ m * 2 ^ 64 + (hi % 2 ^ m * 2 ^ (64 - m) + lo / 2 ^ m) := by
      have : N = (hi / 2 ^ m * 2 ^ 64 + hi % 2 ^ m * 2 ^ (64 - m)) * 2 ^ m + lo := by
        rw [← e1, Nat.mul_assoc, hp]; exact hN
      rw [this, Nat.mul_comm _ (2 ^ m), Nat.mul_add_div (Nat.two_pow_pos m)]; omega
    have q3 : N % 2 ^ m = lo % 2 ^ m := by
      have : N = 2 ^ m * (hi * 2 ^ (64 - m)) + lo := by rw [hN, ← Nat.mul_assoc, Nat.mul_comm (2 ^ m) hi, Nat.mul_assoc, hp']
      rw [this, Nat.mul_add_mod]
    have hsum : hi % 2 ^ m * 2 ^ (64 - m) + lo / 2 ^ m < 2 ^ 64 := by
      have h1 : (hi % 2 ^ m + 1) * 2 ^ (64 - m) ≤ 2 ^ m * 2 ^ (64 - m) := Nat.mul_le_mul_right _ (Nat.mod_lt _ (Nat.two_pow_pos m))
      rw [Nat.add_mul, hp'] at h1
      omega
    have hor : orI .u64 ((lo / 2 ^ m : Nat) : Int) ((hi * 2 ^ (64 - m) % 2 ^ 64 : Nat) : Int) = ((hi % 2 ^ m * 2 ^ (64 - m) + lo / 2 ^ m : Nat) : Int) := by
      rw [e2, or_nat (Nat.lt_of_le_of_lt (Nat.div_le_self _ _) hlo) hr, Nat.or_comm, or_add hq]
    rw [hor, q1, q3]
    obtain ⟨f1, f2⟩ := dm64 (A := hi / 2 ^ m) hsum
    rw [f1, f2]
    have ho := shl_out (x := lo) (m := m) hlo (by omega)
    have hdec : decide (lo * 2 ^ (64 - m) % 2 ^ 64 ≠ 0) = decide (lo % 2 ^ m ≠ 0) := by
      rw [decide_eq_decide]; exact not_congr ho
    rw [hdec]
    cases more <;> simp only [cond_true, cond_false, Bool.true_or, Bool.false_or]
  · have hm0 : m = 0 := by omega
    subst hm0
    rw [decide_eq_false h0, cond_false, Nat.pow_zero, Nat.div_one, Nat.mod_one]
    obtain ⟨f1, f2⟩ := dm64 (A := hi) hlo
    rw [hN, f1, f2]
    simp

/-- A place of 64 bits. -/
theorem down_step {O : Ora R} {F : Nat} (hF : 1 ≤ F) (Kret K0) {m hi lo j : Nat} (hm : 64 ≤ m) (hm2 : m ≤ 200000) (e : Int) (more : Bool) (c0 c1 c2 : Int) (c3 : Bool) (G : GH) :
    l_zk_0 (R := R) O F Kret K0 (j + 1) (m : Int) (hi : Int) (lo : Int) e more c0 c1 c2 c3 G =
      if hi = 0 then Kret 0 0 e (more || decide (lo ≠ 0)) 0 0 e (more || decide (lo ≠ 0)) G
      else l_zk_0 O F Kret K0 j ((m - 64 : Nat) : Int) 0 (hi : Int) e (more || decide (lo ≠ 0)) c0 c1 c2 c3 G := by
  have h1 : l_zk_0 (R := R) O F Kret K0 (j + 1) (m : Int) (hi : Int) (lo : Int) e more c0 c1 c2 c3 G = a_zk_1N O Kret (l_zk_0 O F Kret K0 j) K0 (m : Int) (hi : Int) (lo : Int) e (more || decide (lo ≠ 0)) c0 c1 c2 c3 G := by
    simp only [l_zk_0, u_zk_0, L_zk_1]
    rw [decide_eq_true (show (m : Int) ≥ 64 by omega), cond_true, stepF hF]
    simp only [l_zk_1, u_zk_1]
    rw [ibn]
    cases more with
    | true => rw [cond_true, Bool.true_or]
    | false => rw [cond_false, Bool.false_or]
  rw [h1]
  simp only [a_zk_1N]
  rw [ib]
  by_cases h : hi = 0
  · rw [decide_eq_true h, cond_true, if_pos h, h]; rfl
  · rw [decide_eq_false h, cond_false, if_neg h, wrapI (by omega) (by omega), show (m : Int) - 64 = ((m - 64 : Nat) : Int) by omega]

theorem down_exit {O : Ora R} {F : Nat} (Kret K0) {m hi lo j : Nat} (hm : m < 64) (e : Int) (more : Bool) (c0 c1 c2 : Int) (c3 : Bool) (G : GH) :
    l_zk_0 (R := R) O F Kret K0 (j + 1) (m : Int) (hi : Int) (lo : Int) e more c0 c1 c2 c3 G = K0 (m : Int) (hi : Int) (lo : Int) e more c0 c1 c2 c3 G := by
  simp only [l_zk_0, u_zk_0]
  rw [decide_eq_false (show ¬ (m : Int) ≥ 64 by omega), cond_false]

theorem or_dec (h lo : Nat) : (decide (lo ≠ 0) || decide (h ≠ 0)) = decide (h * 2 ^ 64 + lo ≠ 0) := by
  rw [← Bool.decide_or, decide_eq_decide]
  omega

theorem wRDown {F n : Nat} (hF : 10 ≤ F) (hn : 1 ≤ n) : SRDown (runC (R := R) Try.prog lo0 F n) := by
  obtain ⟨n, rfl⟩ : ∃ j, n = j + 1 := ⟨n - 1, by omega⟩
  intro N s e more hN he1 he2 hs1 hs2 G k
  have hF1 : 1 ≤ F := by omega
  have hF' : ∃ f, F = f + 3 := ⟨F - 3, by omega⟩
  have hstart : ∀ (a b : Int), runC (R := R) Try.prog lo0 F (n + 1) fn_zk [.agg [.int .u64 a, .int .u64 b, .int .i64 e, .bool more], .int .i64 s] G k = u_zk (runC (R := R) Try.prog lo0 F n) k (L_zk_0 (runC (R := R) Try.prog lo0 F n) F k) a b e more s G := by
    intro a b
    rw [r_zk, e_zk]
  unfold V
  rw [hstart]
  generalize runC (R := R) Try.prog lo0 F n = O
  simp only [u_zk]
  by_cases h0 : s ≤ 0
  · have ht : s.toNat = 0 := by omega
    rw [decide_eq_true h0, cond_true, ht]
    simp only [Nat.pow_zero, Nat.div_one, Nat.mod_one]
    simp
  obtain ⟨m, rfl⟩ : ∃ m : Nat, s = m := ⟨s.toNat, by omega⟩
  rw [decide_eq_false h0, cond_false, Int.toNat_natCast, wrapI (v := e + (m : Int)) (by omega) (by omega)]
  obtain ⟨hi, lo, hhl, hlo, d1, d2⟩ := split128 N
  have hhi : hi < 2 ^ 64 := by omega
  have hfold : ∀ (X : Nat) (b : Bool), (IV.agg [.int .u64 ((X / 2 ^ 64 : Nat) : Int), .int .u64 ((X % 2 ^ 64 : Nat) : Int), .int .i64 (e + (m : Int)), .bool b]) = V X (e + m) b := fun X b => rfl
  rw [d1, d2, hfold]
  generalize e + (m : Int) = e'
  simp only [L_zk_0]
  obtain ⟨f, hf⟩ := hF'
  have hl : ∀ (a b c : Int), l_zk_0 O F (a_zk_0ret O k) (a_zk_00 O k (L_zk_2 O F k)) F a b c e' more 0 0 0 false G = l_zk_0 O F (a_zk_0ret O k) (a_zk_00 O k (L_zk_2 O F k)) (f + 3) a b c e' more 0 0 0 false G := by
    intro a b c; rw [← hf]
  rw [hl]
  by_cases h64 : m < 64
  · rw [down_exit _ _ h64, down_low hF1 h64 hhi hlo, ← hhl]
  · obtain ⟨j, rfl⟩ : ∃ j, m = 64 + j := ⟨m - 64, by omega⟩
    have q1 : N / 2 ^ (64 + j) = hi / 2 ^ j := by rw [Nat.pow_add, ← Nat.div_div_eq_div_mul, d1]
    have q3 : N % 2 ^ (64 + j) = hi % 2 ^ j * 2 ^ 64 + lo := by
      rw [Nat.pow_add, Nat.mod_mul, d1, d2]; omega
    rw [down_step hF1 _ _ (by omega) (by omega), q1, q3]
    by_cases hz : hi = 0
    · rw [if_pos hz, hz, Nat.zero_div, Nat.zero_mod, Nat.zero_mul, Nat.zero_add]
      rfl
    · rw [if_neg hz, show 64 + j - 64 = j by omega]
      by_cases hj : j < 64
      · have := down_low (O := O) hF1 hj (hi := 0) (lo := hi) (by decide) hhi e' (more || decide (lo ≠ 0)) 0 0 0 false G k
        rw [Nat.zero_mul, Nat.zero_add] at this
        have hx := down_exit (O := O) (F := F) (a_zk_0ret O k) (a_zk_00 O k (L_zk_2 O F k)) (hi := 0) (lo := hi) (j := f + 1) hj e' (more || decide (lo ≠ 0)) 0 0 0 false G
        refine hx.trans (this.trans ?_)
        congr 2
        rw [Bool.or_assoc]
        rw [or_dec]
      · have hst := down_step (O := O) hF1 (a_zk_0ret O k) (a_zk_00 O k (L_zk_2 O F k)) (m := j) (hi := 0) (lo := hi) (j := f + 1) (by omega) (by omega) e' (more || decide (lo ≠ 0)) 0 0 0 false G
        rw [if_pos rfl, decide_eq_true hz, Bool.or_true] at hst
        refine hst.trans ?_
        have hb : hi < 2 ^ j := Nat.lt_of_lt_of_le hhi (Nat.pow_le_pow_right (by decide) (by omega))
        rw [Nat.div_eq_of_lt hb, Nat.mod_eq_of_lt hb, decide_eq_true (show hi * 2 ^ 64 + lo ≠ 0 by omega), Bool.or_true]
        rfl

theorem pow_rung {t q : Nat} (h : t = q + 52) : floorR (2 ^ t) = q * 2 ^ 52 + 2 ^ 52 := by
  refine floorR_of ?_ ?_ (by decide) (.inr (Nat.le_refl _))
  · rw [h, ← Nat.pow_add, Nat.add_comm]; exact Nat.le_refl _
  · rw [h, Nat.add_mul, ← Nat.pow_add, Nat.add_comm 52 q, Nat.one_mul]
    have := Nat.two_pow_pos q
    omega
theorem wRPower {F n : Nat} (hn : 2 ≤ n) : SRPower (runC (R := R) Try.prog lo0 F n) := by
  obtain ⟨n, rfl⟩ : ∃ j, n = j + 2 := ⟨n - 2, by omega⟩
  have hfr := wFrom (R := R) (F := F) (n := n + 1) (by omega)
  intro t ht G k
  rw [r_zD1, e_zD1]
  by_cases h : t < 52
  · have hlt : 2 ^ t < 2 ^ 53 := Nat.pow_lt_pow_right (by decide) (by omega)
    rw [decide_eq_false (by omega), cond_false, wrapI (by omega) (by omega), decide_eq_false (by omega), cond_false, show (t : Int) - 1074 + 1074 = (t : Int) by omega, show (1 : Int) = ((1 : Nat) : Int) from rfl, shl_nat, Nat.one_mul, Nat.mod_eq_of_lt (by omega), hfr, ivF, floorR_small hlt]
  · rw [decide_eq_true (by omega), cond_true, show (t : Int) - 1074 + 1023 = ((t - 51 : Nat) : Int) by omega, wrapI (by omega) (by omega), wrapU_small (by omega), show (52 : Int) = ((52 : Nat) : Int) from rfl, shl_nat, Nat.mod_eq_of_lt (by omega), hfr, ivF, pow_rung (t := t) (q := t - 52) (by omega), show t - 51 = t - 52 + 1 by omega, Nat.add_mul, Nat.one_mul]
end
end Go.LI.Film

/-! The reference of round: the number at or next to a number of 128 bits. -/
namespace Go.LI.Film
open Go.Proofs.Ytmhoddmenfondaa Go Go.Proofs Go.LI Go.LI.Fl
set_option linter.unusedVariables false
set_option linter.unusedSimpArgs false
set_option maxRecDepth 100000

/-- A rung that is not beyond the greatest number, but where it grows. -/
def nearW (r : Nat) (grow : Bool) : Nat := if r < 9218868437227405312 then r else if grow then 9218868437227405312 else 9218868437227405311
theorem sealW_near (neg : Bool) (r : Nat) (grow : Bool) : sealW neg r grow = if nearW r grow = 0 then 0 else dbl.word neg (nearW r grow) := rfl
theorem nearW_le (r : Nat) (grow : Bool) : nearW r grow ≤ 9218868437227405312 := by
  unfold nearW; split
  · omega
  · split <;> omega

theorem mul_pow' {m t K : Nat} (hK : K = 1074) (hm : m ≤ 2 ^ 53) (ht : t ≤ 2045) (hr : floorR (m * 2 ^ t) < 9218868437227405312) : dbl.mul (floorR (m * 2 ^ K)) (floorR (2 ^ t)) = some (floorR (m * 2 ^ t)) := by
  have h1 : floorR (m * 2 ^ K) < 9218868437227405312 := nat_rung hm (by omega)
  have h2 : floorR (2 ^ t) < 9218868437227405312 := by
    rw [floorR_inf]
    have := blen_of (n := 2 ^ t) (k := t) (Nat.le_refl _) (Nat.pow_lt_pow_right (by decide) (by omega))
    omega
  refine mul_exact h1 h2 hr ?_
  have hp : mag dbl (floorR (2 ^ t)) = 2 ^ t := by
    have := floorR_mul (m := 1) (q := t) (by decide)
    rw [Nat.one_mul] at this
    exact this
  rw [floorR_mul hm, hp, floorR_mul hm, ← hK, Nat.mul_assoc, Nat.mul_assoc, Nat.mul_comm (2 ^ K)]

theorem sub_zero' {r : Nat} (h : r ≤ 9218868437227405312) : dbl.sub 0 r = some (if r = 0 then 0 else dbl.word true r) := by
  by_cases h0 : r = 0
  · subst h0; decide +kernel
  · rw [if_neg h0]
    have hr := rg_small (r := r) (by omega)
    by_cases h1 : r < 9218868437227405312
    · have := Go.LI.Fl.sub_zero dbl (x := r) (by rw [hr.1]; exact fin_lt h1) (by rw [hr.1]; exact h0)
      rw [this, hr.1, hr.2]
      rfl
    · have : r = 9218868437227405312 := by omega
      subst this
      decide +kernel

section
variable {R : Type}
abbrev SRNear (O : Ora R) : Prop := ∀ (N p s : Nat) (e : Int) (more grow : Bool) (A B : Nat), N < 2 ^ 128 → -20000 ≤ e → e ≤ 20000 → 0 < B → (p : Int) - s = e + 1074 → RepN N p s more A B → (more = true → 54 ≤ blen N) → ∀ (G : GH) (k : IV → GH → Option R),
  O fn_ze [V N e more, .bool grow] G k = k (.float .f64 (nearW (rndR A B grow) grow)) G
abbrev SRTo (O : Ora R) : Prop := ∀ (neg : Bool) (N p s : Nat) (e : Int) (more down : Bool) (A B : Nat), N < 2 ^ 128 → -20000 ≤ e → e ≤ 20000 → 0 < B → (p : Int) - s = e + 1074 → RepN N p s more A B → (more = true → 54 ≤ blen N) → ∀ (G : GH) (k : IV → GH → Option R),
  O fn_zb1 [V N e more, .bool neg, .bool down] G k = k (.float .f64 (sealW neg (rndR A B (neg == down)) (neg == down))) G
abbrev SRInf (O : Ora R) : Prop := ∀ (G : GH) (k : IV → GH → Option R), O fn_zK [] G k = k (.float .f64 9218868437227405312) G
abbrev SRMost (O : Ora R) : Prop := ∀ (G : GH) (k : IV → GH → Option R), O fn_zT1 [] G k = k (.float .f64 9218868437227405311) G
abbrev SRZeroed (O : Ora R) : Prop := ∀ (x : Nat), x < 2 ^ 64 → rg dbl x ≤ 9218868437227405312 → ∀ (G : GH) (k : IV → GH → Option R), O fn_zX [.float .f64 x] G k = k (.float .f64 (if rg dbl x = 0 then 0 else x)) G

theorem wRInf {F n : Nat} (hn : 2 ≤ n) : SRInf (runC (R := R) Try.prog lo0 F n) := by
  obtain ⟨n, rfl⟩ : ∃ j, n = j + 2 := ⟨n - 2, by omega⟩
  have hfr := wFrom (R := R) (F := F) (n := n + 1) (by omega)
  intro G k
  rw [r_zK, e_zK, show (9218868437227405312 : Int) = ((9218868437227405312 : Nat) : Int) from rfl, hfr, ivF]
theorem wRMost {F n : Nat} (hn : 2 ≤ n) : SRMost (runC (R := R) Try.prog lo0 F n) := by
  obtain ⟨n, rfl⟩ : ∃ j, n = j + 2 := ⟨n - 2, by omega⟩
  have hfr := wFrom (R := R) (F := F) (n := n + 1) (by omega)
  intro G k
  rw [r_zT1, e_zT1, show (9218868437227405311 : Int) = ((9218868437227405311 : Nat) : Int) from rfl, hfr, ivF]
theorem wRZeroed {F n : Nat} (hn : 1 ≤ n) : SRZeroed (runC (R := R) Try.prog lo0 F n) := by
  obtain ⟨n, rfl⟩ : ∃ j, n = j + 1 := ⟨n - 1, by omega⟩
  intro x hx hi G k
  rw [r_zX, e_zX, feq_zero hx hi]
  by_cases h : rg dbl x = 0
  · rw [decide_eq_true h, cond_true, if_pos h]
  · rw [decide_eq_false h, cond_false, if_neg h]

theorem near4 {O : Ora R} (K0 : Int → Int → Int → Int → Bool → GH → Option R) (b0 b1 : Int) (b3 : Bool) (G : GH) : ∀ (i j m : Nat), i < j → i ≤ 1000 → m * 2 ^ i < 2 ^ 64 → l_ze_4 O K0 j (m : Int) b0 b1 (971 + (i : Int)) b3 G = K0 ((m * 2 ^ i : Nat) : Int) b0 b1 971 b3 G := by
  intro i
  induction i with
  | zero =>
    intro j m hj _ hm
    obtain ⟨j, rfl⟩ : ∃ j', j = j' + 1 := ⟨j - 1, by omega⟩
    simp only [l_ze_4, u_ze_4]
    rw [decide_eq_false (by omega), cond_false, Nat.pow_zero, Nat.mul_one]
    rfl
  | succ i ih =>
    intro j m hj hi hm
    obtain ⟨j, rfl⟩ : ∃ j', j = j' + 1 := ⟨j - 1, by omega⟩
    simp only [l_ze_4, u_ze_4]
    have h2 : m * 2 ^ (i + 1) = m * 2 * 2 ^ i := by rw [Nat.pow_succ, Nat.mul_comm (2 ^ i) 2, Nat.mul_assoc]
    rw [h2] at hm ⊢
    have hlt : m * 2 < 2 ^ 64 := by
      have := Nat.mul_le_mul_left (m * 2) (Nat.two_pow_pos i)
      omega
    rw [decide_eq_true (by omega), cond_true, show (1 : Int) = ((1 : Nat) : Int) from rfl, shl_nat, Nat.pow_one, Nat.mod_eq_of_lt hlt, wrapI (by omega) (by omega), show 971 + ((i + 1 : Nat) : Int) - ((1 : Nat) : Int) = 971 + (i : Int) by omega]
    exact ih j (m * 2) (by omega) (by omega) hm

/-- From the whole number of 53 bits on. -/
theorem near_end {O : Ora R} {F : Nat} (hF : 1100 ≤ F) (hLen : SRLength O) (hPw : SRPower O) (hInf : SRInf O) (hMo : SRMost O) (grow : Bool) {m t : Nat} (hm : m ≤ 2 ^ 53) (ht : t ≤ 100000) (b0 b1 : Int) (b3 : Bool) (G : GH) (k : IV → GH → Option R) :
    a_ze_1N O k (L_ze_3 O F k) grow (m : Int) b0 b1 ((t : Int) - 1074) b3 G = k (.float .f64 (nearW (floorR (m * 2 ^ t)) grow)) G := by
  simp only [a_ze_1N]
  rw [ib]
  by_cases h0 : m = 0
  · rw [decide_eq_true h0, cond_true, h0, Nat.zero_mul, floorR_small (by decide)]
    rfl
  rw [decide_eq_false h0, cond_false]
  have hb : blen m ≤ 54 := blen_lt.2 (by omega)
  have hl := hLen m 0 false (by omega) (gfreeze G)
  unfold V at hl
  rw [Nat.div_eq_of_lt (show m < 2 ^ 64 by omega), Nat.mod_eq_of_lt (show m < 2 ^ 64 by omega)] at hl
  have hl' : ∀ (k : IV → GH → Option R), O fn_zl [.agg [.int .u64 0, .int .u64 (m : Int), .int .i64 0, .bool false]] (gfreeze G) k = k (.int .i64 (blen m : Nat)) (gfreeze G) := hl
  rw [hl', ivI, wrapI (v := ((blen m : Nat) : Int) - 1) (by omega) (by omega), wrapI (v := ((blen m : Nat) : Int) - 1 + ((t : Int) - 1074)) (by omega) (by omega)]
  have hiff : floorR (m * 2 ^ t) < 9218868437227405312 ↔ blen m + t ≤ 2098 := by rw [floorR_inf, blen_mul_pow h0]
  by_cases hbig : blen m + t ≤ 2098
  · have hlt := hiff.2 hbig
    rw [decide_eq_false (by omega), cond_false]
    have hnear : nearW (floorR (m * 2 ^ t)) grow = floorR (m * 2 ^ t) := by unfold nearW; rw [if_pos hlt]
    rw [hnear]
    simp only [L_ze_3]
    rw [stepF (by omega)]
    simp only [l_ze_3, u_ze_3]
    rw [decide_eq_true (by omega), cond_true]
    simp only [a_ze_3N]
    obtain ⟨K, hK⟩ : ∃ K : Nat, K = 1074 := ⟨_, rfl⟩
    by_cases h971 : t ≤ 2045
    · rw [decide_eq_true (by omega), cond_true, hPw t h971, ivF, show FloatKind.f64.format = dbl from rfl, (nat_word' hm hK).1, mul_pow' hK hm h971 hlt, Option.bind_some]
    · rw [decide_eq_false (by omega), cond_false]
      obtain ⟨i, hi⟩ : ∃ i : Nat, t = 2045 + i := ⟨t - 2045, by omega⟩
      have hmi : blen (m * 2 ^ i) ≤ 53 := by rw [blen_mul_pow h0]; omega
      have hmi2 : m * 2 ^ i < 2 ^ 53 := blen_lt.1 hmi
      obtain ⟨Q, hQ⟩ : ∃ Q : Nat, Q = 2045 := ⟨_, rfl⟩
      have he : m * 2 ^ t = m * 2 ^ i * 2 ^ Q := by rw [hi, ← hQ, Nat.mul_assoc, ← Nat.pow_add, Nat.add_comm]
      simp only [L_ze_4]
      rw [show (t : Int) - 1074 = 971 + (i : Int) by omega, near4 _ _ _ _ _ i F m (by omega) (by omega) (by omega)]
      simp only [a_ze_40, L_ze_5]
      obtain ⟨f, hf⟩ : ∃ f, F = f + 1 := ⟨F - 1, by omega⟩
      have h5 : l_ze_5 O (a_ze_52 O k) F ((m * 2 ^ i : Nat) : Int) b0 b1 971 b3 G = a_ze_52 O k ((m * 2 ^ i : Nat) : Int) b0 b1 971 b3 G := by
        rw [hf]
        simp only [l_ze_5, u_ze_5]
        rw [decide_eq_false (by omega), cond_false]
      rw [h5]
      simp only [a_ze_52]
      have hpw := hPw Q (by omega) G
      rw [show (Q : Int) - 1074 = 971 by omega] at hpw
      rw [he] at hlt ⊢
      rw [hpw, ivF, show FloatKind.f64.format = dbl from rfl, (nat_word' (m := m * 2 ^ i) (by omega) hK).1, mul_pow' hK (by omega) (by omega) hlt, Option.bind_some]
  · have hge := mt hiff.1 hbig
    rw [decide_eq_true (by omega), cond_true]
    unfold nearW
    rw [if_neg hge]
    cases grow with
    | true => rw [cond_true, hInf, ivF]; rfl
    | false => rw [cond_false, hMo, ivF]; rfl

theorem near_body {O : Ora R} {F : Nat} (hF : 1100 ≤ F) (hLen : SRLength O) (hD : SRDown O) (hPw : SRPower O) (hInf : SRInf O) (hMo : SRMost O) {more grow : Bool} {N p s A B : Nat} {e : Int} (hN : N < 2 ^ 128) (he1 : -20000 ≤ e) (he2 : e ≤ 20000) (hB : 0 < B) (hps : (p : Int) - s = e + 1074) (hrep : RepN N p s more A B) (hmore : more = true → 54 ≤ blen N) (G : GH) (k : IV → GH → Option R) :
    u_ze O k (L_ze_0 O F k) ((N / 2 ^ 64 : Nat) : Int) ((N % 2 ^ 64 : Nat) : Int) e more grow G = k (.float .f64 (nearW (rndR A B grow) grow)) G := by
  have hF1 : 1 ≤ F := by omega
  simp only [u_ze]
  have hL : ∀ (k : IV → GH → Option R), O fn_zl [.agg [.int .u64 ((N / 2 ^ 64 : Nat) : Int), .int .u64 ((N % 2 ^ 64 : Nat) : Int), .int .i64 e, .bool more]] G k = k (.int .i64 (blen N : Nat)) G := hLen N e more hN G
  have hb : blen N ≤ 128 := blen_lt.2 hN
  rw [hL, ivI, wrapI (v := ((blen N : Nat) : Int) - 53) (by omega) (by omega)]
  simp only [L_ze_0]
  rw [stepF hF1]
  simp only [l_ze_0, u_ze_0]
  rw [wrapI (v := -1074 - e) (by omega) (by omega)]
  obtain ⟨v, hv⟩ : ∃ v : Int, v = (if (-1074 : Int) - e > ((blen N : Nat) : Int) - 53 then -1074 - e else ((blen N : Nat) : Int) - 53) := ⟨_, rfl⟩
  have fin : a_ze_0N O k (L_ze_1 O F k) grow v ((N / 2 ^ 64 : Nat) : Int) ((N % 2 ^ 64 : Nat) : Int) e more G = k (.float .f64 (nearW (rndR A B grow) grow)) G := by
    obtain ⟨n, hn⟩ : ∃ n : Nat, n = v.toNat := ⟨_, rfl⟩
    simp only [a_ze_0N]
    have hDD : ∀ (k : IV → GH → Option R), O fn_zk [.agg [.int .u64 ((N / 2 ^ 64 : Nat) : Int), .int .u64 ((N % 2 ^ 64 : Nat) : Int), .int .i64 e, .bool more], .int .i64 v] G k = k (V (N / 2 ^ n) (e + n) (more || decide (N % 2 ^ n ≠ 0))) G := by
      rw [hn]
      exact hD N v e more hN (by omega) (by omega) (by split at hv <;> omega) (by split at hv <;> omega) G
    rw [hDD, V_open]
    obtain ⟨M, hM⟩ : ∃ M, M = N / 2 ^ n := ⟨_, rfl⟩
    obtain ⟨mo, hmo⟩ : ∃ mo, mo = (more || decide (N % 2 ^ n ≠ 0)) := ⟨_, rfl⟩
    rw [← hM, ← hmo]
    have hbl := blen_div_pow N n
    have hM53 : M < 2 ^ 53 := by
      rw [hM]
      refine blen_lt.1 ?_
      split at hv <;> omega
    obtain ⟨t, ht⟩ : ∃ t : Nat, (t : Int) = e + n + 1074 := ⟨(e + n + 1074).toNat, by split at hv <;> omega⟩
    have hc : (t = 0 ∨ 2 ^ 52 ≤ M) ∨ mo = false := by
      by_cases h0 : v > 0
      · left
        split at hv
        · left; omega
        · right; rw [hM]; exact blen_ge.1 (by omega)
      · right
        have hm0 : more = false := by
          cases more with
          | false => rfl
          | true => have := hmore rfl; exfalso; split at hv <;> omega
        have : n = 0 := by omega
        rw [hmo, this, hm0, Nat.pow_zero, Nat.mod_one]
        rfl
    have hsh := hrep.shift hB n
    rw [← hM, ← hmo] at hsh
    have hcan : RepN M t 0 mo A B := by
      refine RepN.cancel (s := s) ?_
      rw [show t + s = p + n by omega]
      exact hsh
    have hround := rndR_of hB hcan hM53 hc grow
    simp only [L_ze_1]
    rw [stepF hF1]
    simp only [l_ze_1, u_ze_1, L_ze_2]
    rw [stepF hF1]
    simp only [l_ze_2, u_ze_2]
    rw [show M / 2 ^ 64 = 0 by omega, Nat.mod_eq_of_lt (show M < 2 ^ 64 by omega), show e + (n : Int) = (t : Int) - 1074 by omega]
    have go : ∀ (b : Bool), (b = true ↔ mo = true ∧ grow = true) → a_ze_2N O (a_ze_1N O k (L_ze_3 O F k)) grow (M : Int) b ((0 : Nat) : Int) (M : Int) ((t : Int) - 1074) mo G = k (.float .f64 (nearW (rndR A B grow) grow)) G := by
      intro b hbb
      rw [hround]
      simp only [a_ze_2N]
      cases b with
      | true =>
        rw [if_pos (hbb.1 rfl), cond_true, show (M : Int) + 1 = ((M + 1 : Nat) : Int) by omega, wrapU_small (by omega)]
        exact near_end hF hLen hPw hInf hMo grow (by omega) (by split at hv <;> omega) _ _ _ G k
      | false =>
        rw [if_neg (fun h => by have := hbb.2 h; cases this), cond_false, Nat.add_zero]
        exact near_end hF hLen hPw hInf hMo grow (by omega) (by split at hv <;> omega) _ _ _ G k
    cases mo with
    | true => rw [cond_true]; exact go grow (by simp)
    | false => rw [cond_false]; exact go false (by simp)
  by_cases hcmp : (-1074 : Int) - e > ((blen N : Nat) : Int) - 53
  · rw [decide_eq_true hcmp, cond_true]
    rw [if_pos hcmp] at hv
    rw [← hv]
    exact fin
  · rw [decide_eq_false hcmp, cond_false]
    rw [if_neg hcmp] at hv
    rw [← hv]
    exact fin

theorem wRNear {F n : Nat} (hF : 1100 ≤ F) (hn : 3 ≤ n) : SRNear (runC (R := R) Try.prog lo0 F n) := by
  obtain ⟨n, rfl⟩ : ∃ j, n = j + 3 := ⟨n - 3, by omega⟩
  intro N p s e more grow A B hN he1 he2 hB hps hrep hmore G k
  unfold V
  rw [r_ze, e_ze]
  exact near_body hF (wRLength (by omega) (by omega)) (wRDown (by omega) (by omega)) (wRPower (by omega)) (wRInf (by omega)) (wRMost (by omega)) hN he1 he2 hB hps hrep hmore G k

theorem word_lt {w : Nat} (h : w ≤ 9218868437227405312) : dbl.word true w < 2 ^ 64 := by
  unfold Ieee.Format.word
  rw [dbl_sw]
  simp only [if_true]
  omega
theorem neg_seal {w : Nat} {neg : Bool} (h : neg = false) : w = if w = 0 then 0 else dbl.word neg w := by
  subst h
  split
  · assumption
  · rfl

theorem rto_body {O : Ora R} {F : Nat} (h1 : SRNear O) (h2 : SRZeroed O) {neg : Bool} {N p s : Nat} {e : Int} {more down : Bool} {A B : Nat} (hN : N < 2 ^ 128) (he1 : -20000 ≤ e) (he2 : e ≤ 20000) (hB : 0 < B) (hps : (p : Int) - s = e + 1074) (hrep : RepN N p s more A B) (hmore : more = true → 54 ≤ blen N) (G : GH) (k : IV → GH → Option R) :
    bodyC Try.prog O [3, 777777] F Try.f94 [V N e more, .bool neg, .bool down] G k = k (.float .f64 (sealW neg (rndR A B (neg == down)) (neg == down))) G := by
  have h1' := h1 N p s e more (neg == down) A B hN he1 he2 hB hps hrep hmore G
  unfold V at h1' ⊢
  rw [e_zb1, h1', ivF, sealW_near]
  have hle := nearW_le (rndR A B (neg == down)) (neg == down)
  generalize nearW (rndR A B (neg == down)) (neg == down) = w at hle
  cases neg with
  | false =>
    rw [cond_false, ← neg_seal rfl]
  | true =>
    rw [cond_true, show FloatKind.f64.format = dbl from rfl, sub_zero' hle, Option.bind_some]
    by_cases h0 : w = 0
    · rw [if_pos h0, h2 0 (by decide) (by decide), ivF]; rfl
    · rw [if_neg h0]
      have hw : rg dbl (dbl.word true w) = w := rg_word dbl (by rw [dbl_sw]; omega)
      rw [h2 _ (word_lt hle) (by rw [hw]; exact hle), ivF, hw, if_neg h0]

theorem wRTo {F n : Nat} (hF : 1100 ≤ F) (hn : 4 ≤ n) : SRTo (runC (R := R) Try.prog lo0 F n) := by
  obtain ⟨n, rfl⟩ : ∃ j, n = j + 4 := ⟨n - 4, by omega⟩
  intro neg N p s e more down A B hN he1 he2 hB hps hrep hmore G k
  have h := rto_body (O := runC (R := R) Try.prog lo0 F (n + 3)) (F := F) (wRNear hF (by omega)) (wRZeroed (by omega)) (neg := neg) (down := down) hN he1 he2 hB hps hrep hmore G k
  unfold V at h ⊢
  rw [r_zb1]
  exact h
end
end Go.LI.Film

/-! The reference of round: Add. -/
namespace Go.LI.Film
open Go.Proofs.Ytmhoddmenfondaa Go Go.Proofs Go.LI Go.LI.Fl
set_option linter.unusedVariables false
set_option linter.unusedSimpArgs false
set_option maxRecDepth 100000

/-- A number in units of the least one, rounded down or up. -/
def rndS (S : Int) (down : Bool) : Nat := sealW (decide (S < 0)) (rndR S.natAbs 1 (decide (S < 0) == down)) (decide (S < 0) == down)
theorem addR_S (x y : Nat) (down : Bool) : addR x y down = rndS (sv x + sv y) down := rfl
theorem rndS_of {n : Bool} {N : Nat} {e : Int} {m : Bool} {S : Int} (h : WOk n N e m S) (down : Bool) : sealW n (rndR S.natAbs 1 (n == down)) (n == down) = rndS S down := by
  unfold rndS
  by_cases h0 : S = 0
  · rw [h0, show (0 : Int).natAbs = 0 from rfl, rndR_zero, rndR_zero, sealW_zero, sealW_zero]
  · rw [h.hs h0]

theorem rndR_mag (r : Nat) (g : Bool) : rndR (mag dbl r) 1 g = r := by
  unfold rndR
  rw [Nat.div_one, floorR_inv, if_neg]
  · rfl
  · rintro ⟨_, h⟩
    exact h (Nat.mul_one _)
theorem mag_pos {r : Nat} (h : r ≠ 0) : 0 < mag dbl r := Nat.pos_of_ne_zero fun hc => h ((mag_zero dbl).1 hc)
theorem rndS_sv {x : Nat} (hx : x < 2 ^ 64) (hf : rg dbl x < 9218868437227405312) (down : Bool) : rndS (sv x) down = if rg dbl x = 0 then 0 else x := by
  unfold rndS
  have ha : (sv x).natAbs = mag dbl (rg dbl x) := by rw [sv_sgn, sgn_abs]
  rw [ha, rndR_mag, sealW_near]
  have hn : ∀ g, nearW (rg dbl x) g = rg dbl x := fun g => by unfold nearW; rw [if_pos hf]
  rw [hn]
  by_cases h0 : rg dbl x = 0
  · rw [if_pos h0, if_pos h0]
  · rw [if_neg h0, if_neg h0]
    have hp := mag_pos h0
    have hs : decide (sv x < 0) = sg dbl x := by
      rw [sv_sgn]
      unfold sgn
      cases sg dbl x
      · simp only [Bool.false_eq_true, if_false]; exact decide_eq_false (by omega)
      · simp only [if_true]; exact decide_eq_true (by omega)
    rw [hs, word_sr dbl (by rw [dbl_sw]; omega)]
theorem sv_zero {x : Nat} (h : rg dbl x = 0) : sv x = 0 := by
  rw [sv_sgn, h, (mag_zero dbl).2 rfl]
  unfold sgn
  split <;> rfl

theorem sub_self {x : Nat} (hx : x < 2 ^ 64) : (match dbl.sub x x with | some r => feq .f64 r 0 | none => false) = fin x := by
  unfold fin
  rcases Nat.lt_trichotomy (rg dbl x) 9218868437227405312 with h | h | h
  · obtain ⟨i, m, h1, h2⟩ := read_num h
    have hs : dbl.sub x x = some 0 := by
      unfold Ieee.Format.sub
      rw [h1]
      simp only [Ieee.Datum.opposite, Ieee.Datum.sum, Option.map_some, Ieee.Format.write]
      have ht : Ieee.signed (sg dbl x) m (-1074 + (i : Int) - min (-1074 + (i : Int)) (-1074 + (i : Int))).toNat + Ieee.signed (!(sg dbl x)) m (-1074 + (i : Int) - min (-1074 + (i : Int)) (-1074 + (i : Int))).toNat = 0 := by
        unfold Ieee.signed
        cases sg dbl x <;> simp <;> omega
      rw [ht, if_pos rfl]
      have hb : (sg dbl x && !(sg dbl x)) = false := by cases sg dbl x <;> rfl
      rw [hb]
      rw [nearest_exact dbl (r := 0) (Nat.zero_le _) (by rw [(mag_zero dbl).2 rfl]; simp)]
      rfl
    rw [hs, decide_eq_true h]
    exact (feq_zero (x := 0) (by decide) (by decide)).trans (by decide)
  · have hs : dbl.sub x x = none := by
      unfold Ieee.Format.sub
      rw [read_infty hx h]
      simp only [Ieee.Datum.opposite, Ieee.Datum.sum]
      cases sg dbl x <;> rfl
    rw [hs, decide_eq_false (by omega)]
  · have hs : dbl.sub x x = none := by
      unfold Ieee.Format.sub
      have hn : ∃ a b, dbl.read x = .nan a b := by
        unfold Ieee.Format.read
        simp only
        rw [show x % dbl.signWeight = rg dbl x from rfl, dbl_B, dbl_inf, if_neg (by omega), if_neg (by omega), if_neg (by omega)]
        exact ⟨_, _, rfl⟩
      obtain ⟨a, b, hn⟩ := hn
      rw [hn]
      rfl
    rw [hs, decide_eq_false (by omega)]

section
variable {R : Type}
abbrev SRNumber (O : Ora R) : Prop := ∀ (x : Nat), x < 2 ^ 64 → ∀ (G : GH) (k : IV → GH → Option R), O fn_zO [.float .f64 x] G k = k (.bool (fin x)) G
abbrev SRPart (O : Ora R) : Prop := ∀ (x : Nat), x < 2 ^ 64 → fin x = true → ∃ N e, FOk (sg dbl x) N e (sv x) ∧ ∀ (G : GH) (k : IV → GH → Option R), O fn_zB [.float .f64 x] G k = k (.tuple [V N e false, .bool (sg dbl x)]) G
abbrev SRAdd (O : Ora R) : Prop := ∀ (x y : Nat) (down : Bool), x < 2 ^ 64 → y < 2 ^ 64 → ∀ (G : GH) (k : IV → GH → Option R), O fn_zf [.float .f64 x, .float .f64 y, .bool down] G k = k (.tuple [.float .f64 (if (fin x && fin y) = true then addR x y down else 0), .int .i64 (if (fin x && fin y) = true then 0 else 10)]) G

theorem wRNumber {F n : Nat} (hn : 1 ≤ n) : SRNumber (runC (R := R) Try.prog lo0 F n) := by
  obtain ⟨n, rfl⟩ : ∃ j, n = j + 1 := ⟨n - 1, by omega⟩
  intro x hx G k
  have h := sub_self hx
  rw [r_zO, e_zO, ← h]
  rfl

theorem part_body {O : Ora R} {F : Nat} (hF : 1 ≤ F) (h1 : SBits O) {x : Nat} (hx : x < 2 ^ 64) (hf : fin x = true) : ∃ N e, FOk (sg dbl x) N e (sv x) ∧ ∀ (G : GH) (k : IV → GH → Option R), u_zB O k (L_zB_0 O F k) x G = k (.tuple [V N e false, .bool (sg dbl x)]) G := by
  obtain ⟨E, m, hm, hE, hr, q1, q2, q3⟩ := parts hx
  have hf' : rg dbl x < 9218868437227405312 := of_decide_eq_true hf
  have hE2 : E < 2047 := by omega
  have a1 : andI .u64 (x : Int) 4503599627370495 = (m : Int) := by
    have := and_low hx 52 (by omega)
    rw [q1] at this
    exact this
  have a2 : andI .u64 (shrI .u64 (x : Int) 52) 2047 = (E : Int) := by
    have := shr_nat hx 52
    rw [show (52 : Int) = ((52 : Nat) : Int) from rfl, this]
    have h := and_low (a := x / 2 ^ 52) (Nat.lt_of_le_of_lt (Nat.div_le_self _ _) hx) 11 (by omega)
    rw [q2] at h
    exact h
  have a3 : (shrI .u64 (x : Int) 63 != 0) = sg dbl x := by
    rw [show (63 : Int) = ((63 : Nat) : Int) from rfl, shr_nat hx, ibn, q3]
  have hsv : ∀ (q M : Nat), rg dbl x = q * 2 ^ 52 + M → M ≤ 2 ^ 53 → (q = 0 ∨ 2 ^ 52 ≤ M) → sv x = sgn (sg dbl x) (M * 2 ^ q) := by
    intro q M h h' h''
    rw [sv_sgn, h, mag_form h' h'']
  have start : ∀ (G : GH) (k : IV → GH → Option R), u_zB O k (L_zB_0 O F k) x G = bif decide ((E : Int) > 0) then k (.tuple [.agg [.int .u64 0, .int .u64 (orI .u64 (m : Int) 4503599627370496), .int .i64 (IntKind.wrap .i64 ((E : Int) - 1075)), .bool false], .bool (sg dbl x)]) G else k (.tuple [.agg [.int .u64 0, .int .u64 (m : Int), .int .i64 (IntKind.wrap .i64 (1 - 1075)), .bool false], .bool (sg dbl x)]) G := by
    intro G k
    simp only [u_zB]
    rw [h1 x, ivU, a1, a2, wrapI (v := (E : Int)) (by omega) (by omega)]
    simp only [L_zB_0]
    rw [stepF hF]
    simp only [l_zB_0, u_zB_0, a_zB_0N]
    rw [a3]
  by_cases h0 : E = 0
  · refine ⟨m, -1074, ⟨by omega, by omega, by omega, ?_⟩, fun G k => ?_⟩
    · rw [hsv 0 m (by rw [hr, h0]) (by omega) (.inl rfl), show ((-1074 : Int) + 1074).toNat = 0 from rfl]
    · rw [start, decide_eq_false (by omega), cond_false]
      unfold V
      rw [show m / 2 ^ 64 = 0 by omega, show m % 2 ^ 64 = m by omega]
      rfl
  · refine ⟨2 ^ 52 + m, (E : Int) - 1075, ⟨by omega, by omega, by omega, ?_⟩, fun G k => ?_⟩
    · have hq : ((E : Int) - 1075 + 1074).toNat = E - 1 := by omega
      have hq' : E = E - 1 + 1 := by omega
      rw [hsv (E - 1) (2 ^ 52 + m) (by rw [hr]; conv => lhs; rw [hq', Nat.add_mul, Nat.one_mul, Nat.add_assoc]) (by omega) (.inr (Nat.le_add_right _ _)), hq]
    · rw [start, decide_eq_true (by omega), cond_true, wrapI (v := (E : Int) - 1075) (by omega) (by omega)]
      have hor : orI .u64 (m : Int) 4503599627370496 = ((2 ^ 52 + m : Nat) : Int) := by
        have := or_nat (a := m) (b := 2 ^ 52) (by omega) (by omega)
        rw [Nat.or_comm, show (2 : Nat) ^ 52 = 1 * 2 ^ 52 from rfl, or_add hm, Nat.one_mul] at this
        exact this
      rw [hor]
      unfold V
      rw [show (2 ^ 52 + m) / 2 ^ 64 = 0 by omega, show (2 ^ 52 + m) % 2 ^ 64 = 2 ^ 52 + m by omega]
      rfl

theorem wRPart {F n : Nat} (hF : 1 ≤ F) (hn : 2 ≤ n) : SRPart (runC (R := R) Try.prog lo0 F n) := by
  obtain ⟨n, rfl⟩ : ∃ j, n = j + 2 := ⟨n - 2, by omega⟩
  intro x hx hf
  obtain ⟨N, e, h1, h2⟩ := part_body (O := runC (R := R) Try.prog lo0 F (n + 1)) hF (wBits (by omega)) hx hf
  refine ⟨N, e, h1, fun G k => ?_⟩
  rw [r_zB, e_zB]
  exact h2 G k

/-- The word of a sum, rounded. -/
theorem to_word {O : Ora R} (hTo : SRTo O) {n : Bool} {N : Nat} {e : Int} {m : Bool} {S : Int} (h : WOk n N e m S) (down : Bool) (G : GH) (k : IV → GH → Option R) :
    O fn_zb1 [.agg [.int .u64 ((N / 2 ^ 64 : Nat) : Int), .int .u64 ((N % 2 ^ 64 : Nat) : Int), .int .i64 e, .bool m], .bool n, .bool down] G k = k (.float .f64 (rndS S down)) G := by
  have hr := rndS_of h down
  obtain ⟨h1, h2, h3, ⟨p, s, h4, h5⟩, h6, h7⟩ := h
  rw [← hr]
  exact hTo n N p s e m down _ 1 h1 h2 h3 (by omega) h4 h5 h6 G k

theorem rsum_end {O : Ora R} {F : Nat} (hF : 1 ≤ F) (hPl : SRPlus O) (hBe : SRBelow O) (hMi : SRMinus O) (hTo : SRTo O) {n n2 : Bool} {N M p s V' U : Nat} {e : Int} {more : Bool} (hps : (p : Int) - s = e + 1074) (he1 : -20000 ≤ e) (he2 : e ≤ 20000) (h : N * 2 ^ p = V' * 2 ^ s) (k : RepN M p s more U 1) (hN : 2 ^ 125 ≤ N) (hN2 : N < 2 ^ 126) (hM : M < 2 ^ 126) (hmo : more = true → M < 2 ^ 53) (down : Bool) (G : GH) (K : IV → GH → Option R) :
    a_zf_2N O K (L_zf_3 O F K) down n n2 ((N / 2 ^ 64 : Nat) : Int) ((N % 2 ^ 64 : Nat) : Int) e false ((M / 2 ^ 64 : Nat) : Int) ((M % 2 ^ 64 : Nat) : Int) e more G = K (.tuple [.float .f64 (rndS (sgn n V' + sgn n2 U) down), .int .i64 0]) G := by
  simp only [a_zf_2N]
  by_cases hs : n = n2
  · subst hs
    have hw := sum_same (n := n) hps he1 he2 h k hN hN2 hM
    have hp : ∀ (K : IV → GH → Option R), O fn_zG [.agg [.int .u64 ((N / 2 ^ 64 : Nat) : Int), .int .u64 ((N % 2 ^ 64 : Nat) : Int), .int .i64 e, .bool false], .agg [.int .u64 ((M / 2 ^ 64 : Nat) : Int), .int .u64 ((M % 2 ^ 64 : Nat) : Int), .int .i64 e, .bool more]] G K = K (V (N + M) e more) G := by
      intro K
      have := hPl N M e e false more (by omega) G K
      rw [Bool.false_or] at this
      exact this
    rw [show (n == n) = true by simp, cond_true, hp, V_open, to_word hTo hw, ivF]
  · obtain rfl : n2 = !n := by cases n <;> cases n2 <;> simp_all
    obtain ⟨c1, c2⟩ := sum_diff (n := n) hps he1 he2 h k hN hN2 hM hmo
    have hm1 : ∀ (hMN : M ≤ N) (K : IV → GH → Option R), O fn_zU [.agg [.int .u64 ((N / 2 ^ 64 : Nat) : Int), .int .u64 ((N % 2 ^ 64 : Nat) : Int), .int .i64 e, .bool false], .agg [.int .u64 ((M / 2 ^ 64 : Nat) : Int), .int .u64 ((M % 2 ^ 64 : Nat) : Int), .int .i64 e, .bool more]] G K = K (V (N - M) e false) G := fun hMN K => hMi N M e e false more hMN (by omega) G K
    have hm2 : ∀ (hNM : N ≤ M) (K : IV → GH → Option R), O fn_zU [.agg [.int .u64 ((M / 2 ^ 64 : Nat) : Int), .int .u64 ((M % 2 ^ 64 : Nat) : Int), .int .i64 e, .bool more], .agg [.int .u64 ((N / 2 ^ 64 : Nat) : Int), .int .u64 ((N % 2 ^ 64 : Nat) : Int), .int .i64 e, .bool false]] G K = K (V (M - N) e false) G := fun hNM K => hMi M N e e more false hNM (by omega) G K
    have hbe : ∀ (K : IV → GH → Option R), O fn_zB1 [.agg [.int .u64 ((N / 2 ^ 64 : Nat) : Int), .int .u64 ((N % 2 ^ 64 : Nat) : Int), .int .i64 e, .bool false], .agg [.int .u64 ((M / 2 ^ 64 : Nat) : Int), .int .u64 ((M % 2 ^ 64 : Nat) : Int), .int .i64 e, .bool more]] G K = K (.bool (decide (N < M))) G := fun K => hBe N M e e false more G K
    rw [show (n == !n) = false by cases n <;> rfl, cond_false]
    simp only [L_zf_3]
    rw [stepF hF]
    simp only [l_zf_3, u_zf_3]
    -- behind the comparing
    have fin : ∀ (b : Bool), (b = true ↔ more = false ∧ N < M) → a_zf_3N O K (L_zf_4 O F K) down n (!n) b ((N / 2 ^ 64 : Nat) : Int) ((N % 2 ^ 64 : Nat) : Int) e false ((M / 2 ^ 64 : Nat) : Int) ((M % 2 ^ 64 : Nat) : Int) e more G = K (.tuple [.float .f64 (rndS (sgn n V' + sgn (!n) U) down), .int .i64 0]) G := by
      intro b hb
      simp only [a_zf_3N]
      cases b with
      | true =>
        obtain ⟨hmf, hlt⟩ := hb.1 rfl
        obtain ⟨_, hw⟩ := c2 (by omega)
        rw [cond_true, hm2 (by omega), V_open, to_word hTo hw, ivF]
      | false =>
        have hMN : M ≤ N := by
          cases hmm : more with
          | true => have := hmo hmm; omega
          | false =>
            rcases Nat.lt_or_ge N M with h' | h'
            · have := hb.2 ⟨hmm, h'⟩; cases this
            · exact h'
        rw [cond_false, hm1 hMN, V_open]
        simp only [L_zf_4]
        rw [stepF hF]
        simp only [l_zf_4, u_zf_4]
        cases hmm : more with
        | true =>
          subst hmm
          have hM53 := hmo rfl
          have hw := c1 (by simp only [if_true]; omega)
          simp only [if_true] at hw
          have h1 : ∀ (K : IV → GH → Option R), O fn_zU [.agg [.int .u64 (((N - M) / 2 ^ 64 : Nat) : Int), .int .u64 (((N - M) % 2 ^ 64 : Nat) : Int), .int .i64 e, .bool false], .agg [.int .u64 0, .int .u64 1, .int .i64 0, .bool false]] G K = K (V (N - M - 1) e false) G := fun K => hMi (N - M) 1 e 0 false false (by omega) (by omega) G K
          rw [cond_true, h1, V_open]
          simp only [a_zf_4N]
          rw [to_word hTo hw, ivF]
        | false =>
          subst hmm
          have hw := c1 (by simpa using hMN)
          simp only [Bool.false_eq_true, if_false, Nat.sub_zero] at hw
          rw [cond_false]
          simp only [a_zf_4N]
          rw [to_word hTo hw, ivF]
    cases hmm : more with
    | true => subst hmm; rw [Bool.not_true, cond_false]; exact fin false (by simp)
    | false =>
      subst hmm
      rw [Bool.not_false, cond_true, hbe, ivB]
      exact fin _ (by simp)
end
end Go.LI.Film

/-! The reference of round: Add, whole. -/
namespace Go.LI.Film
open Go.Proofs.Ytmhoddmenfondaa Go Go.Proofs Go.LI Go.LI.Fl
set_option linter.unusedVariables false
set_option linter.unusedSimpArgs false
set_option maxRecDepth 100000
section
variable {R : Type}

theorem rsum_ord {O : Ora R} {F : Nat} (hF : 1 ≤ F) (hL : SRLength O) (hUp : SRUp O) (hD : SRDown O) (hPl : SRPlus O) (hBe : SRBelow O) (hMi : SRMinus O) (hTo : SRTo O) {na nb : Bool} {Na Nb : Nat} {ea eb va vb : Int} (ha : FOk na Na ea va) (hb : FOk nb Nb eb vb) (ha0 : Na ≠ 0) (h0 : Nb ≠ 0) (hle : eb + (blen Nb : Nat) ≤ ea + (blen Na : Nat)) (down : Bool) (G : GH) (K : IV → GH → Option R) :
    a_zf_1N O K (L_zf_2 O F K) down na nb ((Na / 2 ^ 64 : Nat) : Int) ((Na % 2 ^ 64 : Nat) : Int) ea false ((Nb / 2 ^ 64 : Nat) : Int) ((Nb % 2 ^ 64 : Nat) : Int) eb false G = K (.tuple [.float .f64 (rndS (va + vb) down), .int .i64 0]) G := by
  have hb1 : blen Na ≤ 53 := blen_lt.2 ha.hN
  have hb2 : blen Nb ≤ 53 := blen_lt.2 hb.hN
  have hba := (blen_pos ha0)
  have hbb := (blen_pos h0)
  obtain ⟨h1, h2, h3, h4⟩ := ha
  obtain ⟨k1, k2, k3, k4⟩ := hb
  obtain ⟨j, hj⟩ : ∃ j : Nat, j = 126 - blen Na := ⟨_, rfl⟩
  obtain ⟨pa, hpa⟩ : ∃ pa : Nat, pa = (ea + 1074).toNat := ⟨_, rfl⟩
  obtain ⟨pb, hpb⟩ : ∃ pb : Nat, pb = (eb + 1074).toNat := ⟨_, rfl⟩
  rw [← hpa] at h4
  rw [← hpb] at k4
  have hNj : blen (Na * 2 ^ j) = 126 := by rw [blen_mul_pow ha0]; omega
  have hN1 : 2 ^ 125 ≤ Na * 2 ^ j := blen_ge.1 (by omega)
  have hN2 : Na * 2 ^ j < 2 ^ 126 := blen_lt.1 (by omega)
  have hV : Na * 2 ^ j * 2 ^ pa = Na * 2 ^ pa * 2 ^ j := Nat.mul_right_comm _ _ _
  have hlen : ∀ (G : GH) (k : IV → GH → Option R), O fn_zl [.agg [.int .u64 ((Na / 2 ^ 64 : Nat) : Int), .int .u64 ((Na % 2 ^ 64 : Nat) : Int), .int .i64 ea, .bool false]] G k = k (.int .i64 (blen Na : Nat)) G := fun G k => hL Na ea false (by omega) G k
  have hleft : ∀ (G : GH) (k : IV → GH → Option R), O fn_zD [.agg [.int .u64 ((Na / 2 ^ 64 : Nat) : Int), .int .u64 ((Na % 2 ^ 64 : Nat) : Int), .int .i64 ea, .bool false], .int .i64 (j : Int)] G k = k (V (Na * 2 ^ j) (ea - j) false) G := fun G k => hUp Na j ea false ha0 (by omega) (by omega) (by omega) G k
  simp only [a_zf_1N]
  rw [hlen, ivI, wrapI (v := 126 - ((blen Na : Nat) : Int)) (by omega) (by omega), show 126 - ((blen Na : Nat) : Int) = (j : Int) by omega, hleft, V_open]
  simp only [L_zf_2]
  rw [stepF hF]
  simp only [l_zf_2, u_zf_2]
  rw [h4, k4]
  by_cases hc : eb ≥ ea - j
  · obtain ⟨i, hi⟩ : ∃ i : Nat, (i : Int) = eb - (ea - j) := ⟨(eb - (ea - j)).toNat, by omega⟩
    have hMb : blen (Nb * 2 ^ i) ≤ 126 := by rw [blen_mul_pow h0]; omega
    have hM : Nb * 2 ^ i < 2 ^ 126 := blen_lt.1 hMb
    have hrep : RepN (Nb * 2 ^ i) pa j false (Nb * 2 ^ pb) 1 := rep_exact (pow_comm (by omega))
    have hlb : ∀ (G : GH) (k : IV → GH → Option R), O fn_zD [.agg [.int .u64 ((Nb / 2 ^ 64 : Nat) : Int), .int .u64 ((Nb % 2 ^ 64 : Nat) : Int), .int .i64 eb, .bool false], .int .i64 (i : Int)] G k = k (V (Nb * 2 ^ i) (ea - j) false) G := fun G k => by
      have := hUp Nb i eb false h0 (by omega) (by omega) (by omega) G k
      rw [show eb - (i : Int) = ea - j by omega] at this
      exact this
    rw [decide_eq_true hc, cond_true, wrapI (v := eb - (ea - j)) (by omega) (by omega), ← hi, hlb, V_open]
    exact rsum_end (n := na) (n2 := nb) (e := ea - j) hF hPl hBe hMi hTo (by omega) (by omega) (by omega) hV hrep hN1 hN2 hM (fun h => (by cases h)) down G K
  · obtain ⟨i, hi⟩ : ∃ i : Nat, (i : Int) = ea - j - eb := ⟨(ea - j - eb).toNat, by omega⟩
    have hM : Nb / 2 ^ i < 2 ^ 53 := Nat.lt_of_le_of_lt (Nat.div_le_self _ _) k1
    have hrep : RepN (Nb / 2 ^ i) pa j (decide (Nb % 2 ^ i ≠ 0)) (Nb * 2 ^ pb) 1 := lay_right (by omega)
    have hrb : ∀ (G : GH) (k : IV → GH → Option R), O fn_zk [.agg [.int .u64 ((Nb / 2 ^ 64 : Nat) : Int), .int .u64 ((Nb % 2 ^ 64 : Nat) : Int), .int .i64 eb, .bool false], .int .i64 (i : Int)] G k = k (V (Nb / 2 ^ i) (ea - j) (decide (Nb % 2 ^ i ≠ 0))) G := fun G k => by
      have := hD Nb (i : Int) eb false (by omega) (by omega) (by omega) (by omega) (by omega) G k
      rw [Int.toNat_natCast, Bool.false_or, show eb + (i : Int) = ea - j by omega] at this
      exact this
    rw [decide_eq_false hc, cond_false, wrapI (v := ea - j - eb) (by omega) (by omega), ← hi, hrb, V_open]
    exact rsum_end (n := na) (n2 := nb) (e := ea - j) hF hPl hBe hMi hTo (by omega) (by omega) (by omega) hV hrep hN1 hN2 (by omega) (fun _ => hM) down G K

theorem pairVB {β : Type} (N : Nat) (e : Int) (m s : Bool) (f : Int → Int → Int → Bool → Bool → Option β) :
    ((ivTup 2 (.tuple [V N e m, .bool s])).bind fun c6 => (ivAgg 4 (c6.getD 0 undefI)).bind fun c7 => (ivInt .u64 (c7.getD 0 undefI)).bind fun x8 => (ivInt .u64 (c7.getD 1 undefI)).bind fun x9 => (ivInt .i64 (c7.getD 2 undefI)).bind fun x10 => (ivBool (c7.getD 3 undefI)).bind fun x11 => (ivBool (c6.getD 1 undefI)).bind fun x12 => f x8 x9 x10 x11 x12) =
      f ((N / 2 ^ 64 : Nat) : Int) ((N % 2 ^ 64 : Nat) : Int) e m s := rfl

theorem fok_ne {n : Bool} {N x : Nat} {e : Int} (h : FOk n N e (sv x)) (h0 : rg dbl x ≠ 0) : N ≠ 0 := by
  rintro rfl
  have h1 := h.hv
  rw [Nat.zero_mul, sv_sgn] at h1
  have h2 := congrArg Int.natAbs h1
  rw [sgn_abs, sgn_abs] at h2
  have := mag_pos h0
  omega

theorem radd_body {O : Ora R} {F : Nat} (hF : 1 ≤ F) (hNum : SRNumber O) (hZr : SRZeroed O) (hPa : SRPart O) (hL : SRLength O) (hUp : SRUp O) (hD : SRDown O) (hPl : SRPlus O) (hBe : SRBelow O) (hMi : SRMinus O) (hTo : SRTo O) {x y : Nat} {down : Bool} (hx : x < 2 ^ 64) (hy : y < 2 ^ 64) (G : GH) (K : IV → GH → Option R) :
    u_zf O K (L_zf_0 O F K) x y down G = K (.tuple [.float .f64 (if (fin x && fin y) = true then addR x y down else 0), .int .i64 (if (fin x && fin y) = true then 0 else 10)]) G := by
  simp only [u_zf, L_zf_0]
  rw [stepF hF]
  simp only [l_zf_0, u_zf_0]
  rw [hNum x hx, ivB]
  have bad : a_zf_0N O K (L_zf_1 O F K) x y down true G = K (.tuple [.float .f64 0, .int .i64 10]) G := by
    simp only [a_zf_0N, cond_true]
  by_cases hfx' : fin x = false
  · rw [hfx', Bool.not_false, cond_true, Bool.false_and, if_neg (by simp), if_neg (by simp), bad]
  have hfx : fin x = true := by simpa using hfx'
  rw [hfx, Bool.not_true, cond_false, hNum y hy, ivB, Bool.true_and]
  by_cases hfy' : fin y = false
  · rw [hfy', Bool.not_false, if_neg (by simp), if_neg (by simp), bad]
  have hfy : fin y = true := by simpa using hfy'
  rw [hfy, Bool.not_true, if_pos rfl, if_pos rfl, addR_S]
  have lx : rg dbl x < 9218868437227405312 := of_decide_eq_true hfx
  have ly : rg dbl y < 9218868437227405312 := of_decide_eq_true hfy
  simp only [a_zf_0N, cond_false]
  rw [feq_zero hy (Nat.le_of_lt ly)]
  by_cases hy0 : rg dbl y = 0
  · rw [decide_eq_true hy0, cond_true, hZr x hx (Nat.le_of_lt lx), ivF, sv_zero hy0, Int.add_zero, rndS_sv hx lx]
  rw [decide_eq_false hy0, cond_false, feq_zero hx (Nat.le_of_lt lx)]
  by_cases hx0 : rg dbl x = 0
  · rw [decide_eq_true hx0, cond_true, sv_zero hx0, Int.zero_add, rndS_sv hy ly, if_neg hy0]
  rw [decide_eq_false hx0, cond_false]
  obtain ⟨Nx, ex, fx, hpx⟩ := hPa x hx hfx
  obtain ⟨Ny, ey, fy, hpy⟩ := hPa y hy hfy
  have nx := fok_ne fx hx0
  have ny := fok_ne fy hy0
  rw [hpx, pairVB, hpy, pairVB]
  simp only [L_zf_1]
  rw [stepF hF]
  simp only [l_zf_1, u_zf_1]
  have hb1 : blen Nx ≤ 53 := blen_lt.2 fx.hN
  have hb2 : blen Ny ≤ 53 := blen_lt.2 fy.hN
  have x1 := fx.e1
  have x2 := fx.e2
  have y1 := fy.e1
  have y2 := fy.e2
  have hla : ∀ (G : GH) (k : IV → GH → Option R), O fn_zl [.agg [.int .u64 ((Nx / 2 ^ 64 : Nat) : Int), .int .u64 ((Nx % 2 ^ 64 : Nat) : Int), .int .i64 ex, .bool false]] G k = k (.int .i64 (blen Nx : Nat)) G := fun G k => hL Nx ex false (by have := fx.hN; omega) G k
  have hlb : ∀ (G : GH) (k : IV → GH → Option R), O fn_zl [.agg [.int .u64 ((Ny / 2 ^ 64 : Nat) : Int), .int .u64 ((Ny % 2 ^ 64 : Nat) : Int), .int .i64 ey, .bool false]] G k = k (.int .i64 (blen Ny : Nat)) G := fun G k => hL Ny ey false (by have := fy.hN; omega) G k
  rw [hla, ivI, hlb, ivI, wrapI (v := ((blen Nx : Nat) : Int) + ex) (by omega) (by omega), wrapI (v := ((blen Ny : Nat) : Int) + ey) (by omega) (by omega)]
  by_cases hc : ((blen Nx : Nat) : Int) + ex < ((blen Ny : Nat) : Int) + ey
  · rw [decide_eq_true hc, cond_true, rsum_ord hF hL hUp hD hPl hBe hMi hTo fy fx ny nx (by omega), Int.add_comm]
  · rw [decide_eq_false hc, cond_false, rsum_ord hF hL hUp hD hPl hBe hMi hTo fx fy nx ny (by omega)]

theorem wRAdd {F n : Nat} (hF : 1100 ≤ F) (hn : 5 ≤ n) : SRAdd (runC (R := R) Try.prog lo0 F n) := by
  obtain ⟨n, rfl⟩ : ∃ j, n = j + 5 := ⟨n - 5, by omega⟩
  intro x y down hx hy G k
  rw [r_zf, e_zf]
  exact radd_body (by omega) (wRNumber (by omega)) (wRZeroed (by omega)) (wRPart (by omega) (by omega)) (wRLength (by omega) (by omega)) (wRUp (by omega) (by omega)) (wRDown (by omega) (by omega)) (wRPlus (by omega) (by omega)) (wRBelow (by omega)) (wRMinus (by omega)) (wRTo hF (by omega)) hx hy G k
end
end Go.LI.Film

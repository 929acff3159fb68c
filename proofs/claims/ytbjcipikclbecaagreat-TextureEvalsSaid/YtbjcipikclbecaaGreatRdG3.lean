/- Several texts of this claim in one. -/
import Derived.Test.YtbjcipikclbecaaGreatRdG2
import Derived.Test.YtbjcipikclbecaaGreatRdPc
set_option linter.unusedVariables false
set_option linter.unusedSimpArgs false
set_option maxRecDepth 100000
namespace Go.LI.Film
open Go.Proofs.YtbjcipikclbecaaGreat Go Go.Proofs Go.LI Go.LI.Fl
def V (N : Nat) (e : Int) (more : Bool) : IV := .agg [uL ((N / 2 ^ 64 : Nat) : Int), uL ((N % 2 ^ 64 : Nat) : Int), iL e, .bool more]
theorem znr {β : Type} (N : Nat) (e : Int) (more : Bool) (f : Int → Int → Int → Bool → Option β) :
    ((zr 4 (V N e more)).bind fun c3 => (zk .u64 (c3.getD 0 za)).bind fun x5 => (zk .u64 (c3.getD 1 za)).bind fun x6 => (zk .i64 (c3.getD 2 za)).bind fun x7 => (zl (c3.getD 3 za)).bind fun x8 => f x5 x6 x7 x8) =
      f ((N / 2 ^ 64 : Nat) : Int) ((N % 2 ^ 64 : Nat) : Int) e more := rfl
theorem zF3 {a b : Nat} (ha : a < 2 ^ 64) (hb : b < 2 ^ 64) : IntKind.wrap .u64 ((a : Int) - b) = (((a + 2 ^ 64 - b) % 2 ^ 64 : Nat) : Int) := by
  have e1 : IntKind.u64.bits = 64 := rfl
  unfold IntKind.wrap
  simp only [IntKind.signed, Bool.false_and, Bool.false_eq_true, if_false, e1]
  omega
section
variable {R : Type}
abbrev zpW (O : Ora R) : Prop := ∀ (N : Nat) (e : Int) (more : Bool), N < 2 ^ 128 → ∀ (G : GH) (k : IV → GH → Option R), O zK [V N e more] G k = k (iL (zE N : Nat)) G
abbrev zIj (O : Ora R) : Prop := ∀ (N n : Nat) (e : Int) (more : Bool), N ≠ 0 → N * 2 ^ n < 2 ^ 128 → -100000 ≤ e → e ≤ 100000 → ∀ (G : GH) (k : IV → GH → Option R),
  O zhC [V N e more, iL (n : Int)] G k = k (V (N * 2 ^ n) (e - n) more) G
abbrev zzE (O : Ora R) : Prop := ∀ (N : Nat) (n e : Int) (more : Bool), N < 2 ^ 128 → -100000 ≤ e → e ≤ 100000 → -100000 ≤ n → n ≤ 100000 → ∀ (G : GH) (k : IV → GH → Option R),
  O zcK [V N e more, iL n] G k = k (V (N / 2 ^ n.toNat) (e + n.toNat) (more || decide (N % 2 ^ n.toNat ≠ 0))) G
abbrev zzZ (O : Ora R) : Prop := ∀ (N M : Nat) (e d : Int) (more mo : Bool), N + M < 2 ^ 128 → ∀ (G : GH) (k : IV → GH → Option R),
  O zkb [V N e more, V M d mo] G k = k (V (N + M) e (more || mo)) G
abbrev zvR (O : Ora R) : Prop := ∀ (N M : Nat) (e d : Int) (more mo : Bool) (G : GH) (k : IV → GH → Option R),
  O ziD [V N e more, V M d mo] G k = k (.bool (decide (N < M))) G
abbrev zv7 (O : Ora R) : Prop := ∀ (N M : Nat) (e d : Int) (more mo : Bool), M ≤ N → N < 2 ^ 128 → ∀ (G : GH) (k : IV → GH → Option R),
  O zbi [V N e more, V M d mo] G k = k (V (N - M) e false) G
abbrev zyy (O : Ora R) : Prop := ∀ (t : Nat), t ≤ 2045 → ∀ (G : GH) (k : IV → GH → Option R), O zic [iL ((t : Int) - 1074)] G k = k (fL (zU (2 ^ t))) G
theorem zml {O : Ora R} {F : Nat} (hF : 1 ≤ F) (K0 : tY2 R) (b0 b1 b2 : Int) (b3 : Bool) (G : GH) {d n : Nat} (hd : d ≤ 32) (hd0 : 0 < d) {x s : Nat} (hx : x < 2 ^ (2 * d)) (hs : s ≤ 1000) :
    ∃ x' s' : Nat, x' < 2 ^ d ∧ s' + zE x' = s + zE x ∧ s' ≤ s + d ∧ zn O F K0 (n + 1) (s : Int) (x : Int) (d : Int) b0 b1 b2 b3 G = zn O F K0 n (s' : Int) (x' : Int) ((d / 2 : Nat) : Int) b0 b1 b2 b3 G := by
  have hx64 : x < 2 ^ 64 := Nat.lt_of_lt_of_le hx (Nat.pow_le_pow_right (by decide) (by omega))
  have hstep : ∀ (s x : Nat), zaJ O (zn O F K0 n) K0 (s : Int) (x : Int) (d : Int) b0 b1 b2 b3 G = zn O F K0 n (s : Int) (x : Int) ((d / 2 : Nat) : Int) b0 b1 b2 b3 G := by
    intro s x
    simp only [zaJ]
    rw [show Int.tdiv (d : Int) 2 = ((d / 2 : Nat) : Int) by rw [Int.tdiv_eq_ediv_of_nonneg (by omega)]; omega, zF (by omega) (by omega)]
  have hopen : zn O F K0 (n + 1) (s : Int) (x : Int) (d : Int) b0 b1 b2 b3 G = bif decide (x / 2 ^ d ≠ 0) then zaJ O (zn O F K0 n) K0 ((s + d : Nat) : Int) ((x / 2 ^ d : Nat) : Int) (d : Int) b0 b1 b2 b3 G else zaJ O (zn O F K0 n) K0 (s : Int) (x : Int) (d : Int) b0 b1 b2 b3 G := by
    simp only [zn, zdq, zdw]
    rw [decide_eq_true (show (d : Int) > 0 by omega), cond_true, zaN hF]
    simp only [zdr, zge]
    rw [decide_eq_false (show ¬ (d : Int) < 0 by omega), cond_false, cond_false, zao hx64, ibn, zF (by omega) (by omega), show (s : Int) + (d : Int) = ((s + d : Nat) : Int) by omega]
  by_cases h : x / 2 ^ d = 0
  · refine ⟨x, s, ?_, rfl, by omega, ?_⟩
    · rcases Nat.lt_or_ge x (2 ^ d) with h' | h'
      · exact h'
      · have := Nat.div_pos h' (Nat.two_pow_pos d); omega
    · rw [hopen, decide_eq_false (by omega), cond_false, hstep]
  · refine ⟨x / 2 ^ d, s + d, ?_, ?_, Nat.le_refl _, ?_⟩
    · rw [Nat.div_lt_iff_lt_mul (Nat.two_pow_pos d), ← Nat.pow_add, show d + d = 2 * d by omega]; exact hx
    · have := zmo (x := x) (s := d) (c := 0) (by
        rcases Nat.lt_or_ge x (2 ^ d) with h' | h'
        · exact absurd (Nat.div_eq_of_lt h') h
        · exact h')
      omega
    · rw [hopen, decide_eq_true h, cond_true, hstep]
theorem zGp {O : Ora R} {F : Nat} (hF : 10 ≤ F) (K0 : tY2 R) (b0 b1 b2 : Int) (b3 : Bool) (G : GH) {x s : Nat} (hx : x < 2 ^ 64) (hs : s ≤ 100) :
    ∃ x' s' : Nat, s' + x' = s + zE x ∧ s' ≤ 200 ∧ x' ≤ 1 ∧ zn O F K0 F (s : Int) (x : Int) 32 b0 b1 b2 b3 G = K0 (s' : Int) (x' : Int) b0 b1 b2 b3 G := by
  obtain ⟨f, hf⟩ : ∃ f, F = f + 7 := ⟨F - 7, by omega⟩
  have hF1 : 1 ≤ F := by omega
  obtain ⟨x1, s1, a1, a2, a3, a4⟩ := zml (O := O) hF1 K0 b0 b1 b2 b3 G (d := 32) (n := f + 6) (by omega) (by omega) (x := x) (s := s) hx (by omega)
  obtain ⟨x2, s2, c1, c2, c3, c4⟩ := zml (O := O) hF1 K0 b0 b1 b2 b3 G (d := 16) (n := f + 5) (by omega) (by omega) (x := x1) (s := s1) a1 (by omega)
  obtain ⟨x3, s3, d1, d2, d3, d4⟩ := zml (O := O) hF1 K0 b0 b1 b2 b3 G (d := 8) (n := f + 4) (by omega) (by omega) (x := x2) (s := s2) c1 (by omega)
  obtain ⟨x4, s4, e1, e2, e3, e4⟩ := zml (O := O) hF1 K0 b0 b1 b2 b3 G (d := 4) (n := f + 3) (by omega) (by omega) (x := x3) (s := s3) d1 (by omega)
  obtain ⟨x5, s5, f1, f2, f3, f4⟩ := zml (O := O) hF1 K0 b0 b1 b2 b3 G (d := 2) (n := f + 2) (by omega) (by omega) (x := x4) (s := s4) e1 (by omega)
  obtain ⟨x6, s6, g1, g2, g3, g4⟩ := zml (O := O) hF1 K0 b0 b1 b2 b3 G (d := 1) (n := f + 1) (by omega) (by omega) (x := x5) (s := s5) f1 (by omega)
  have hb : zE x6 = x6 := by
    rcases (by omega : x6 = 0 ∨ x6 = 1) with h | h
    · rw [h]; rfl
    · rw [h]; exact zwh (k := 0) (by decide) (by decide)
  refine ⟨x6, s6, by omega, by omega, by omega, ?_⟩
  conv => lhs; rw [hf]
  rw [← hf]
  have h0 : zn O F K0 (f + 1) (s6 : Int) (x6 : Int) ((0 : Nat) : Int) b0 b1 b2 b3 G = K0 (s6 : Int) (x6 : Int) b0 b1 b2 b3 G := by
    simp only [zn, zdq]
    rfl
  have e32 : zn O F K0 F (s : Int) (x : Int) 32 b0 b1 b2 b3 G = zn O F K0 (f + 6 + 1) (s : Int) (x : Int) ((32 : Nat) : Int) b0 b1 b2 b3 G := by
    rw [show f + 6 + 1 = F by omega]; rfl
  rw [e32, a4, show 32 / 2 = 16 from rfl, c4, show 16 / 2 = 8 from rfl, d4, show 8 / 2 = 4 from rfl, e4, show 4 / 2 = 2 from rfl, f4, show 2 / 2 = 1 from rfl, g4, show 1 / 2 = 0 from rfl, h0]
theorem zz7 {F n : Nat} (hF : 10 ≤ F) (hn : 1 ≤ n) : zpW (runC (R := R) Tryz.prog lo0 F n) := by
  obtain ⟨n, rfl⟩ : ∃ j, n = j + 1 := ⟨n - 1, by omega⟩
  intro N e more hN G k
  unfold V
  rw [zuZ, zuH]
  generalize runC (R := R) Tryz.prog lo0 F n = O
  simp only [ziM, zdu]
  rw [zaN (by omega)]
  simp only [zdv, zgh]
  have fin : ∀ (s x : Nat) (b0 b1 b2 : Int) (b3 : Bool), x < 2 ^ 64 → s ≤ 64 → zcE O k (zbM O F k) (s : Int) (x : Int) b0 b1 b2 b3 G = k (iL ((s + zE x : Nat) : Int)) G := by
    intro s x b0 b1 b2 b3 hx hs
    simp only [zcE, zbM]
    obtain ⟨x', s', h1, h2, h3, h4⟩ := zGp (O := O) hF (zcY O k) b0 b1 b2 b3 G hx (by omega : s ≤ 100)
    rw [h4]
    simp only [zcY]
    rw [zF (v := (x' : Int)) (by omega) (by omega), zF (by omega) (by omega), ← h1, Int.natCast_add]
  rw [ibn]
  by_cases h : N / 2 ^ 64 = 0
  · rw [decide_eq_false (by omega), cond_false]
    have := fin 0 (N % 2 ^ 64) ((N / 2 ^ 64 : Nat) : Int) ((N % 2 ^ 64 : Nat) : Int) e more (Nat.mod_lt _ (by decide)) (by omega)
    rw [Nat.zero_add, show N % 2 ^ 64 = N by omega] at this
    rw [show N % 2 ^ 64 = N by omega]
    exact this
  · rw [decide_eq_true h, cond_true]
    have := fin 64 (N / 2 ^ 64) ((N / 2 ^ 64 : Nat) : Int) ((N % 2 ^ 64 : Nat) : Int) e more (by omega) (by omega)
    have h2 := zmo (x := N) (s := 64) (c := 0) (by omega)
    rw [show 64 + zE (N / 2 ^ 64) = zE N by omega] at this
    exact this
theorem zJW {F n : Nat} (hF : 1 ≤ F) (hn : 1 ≤ n) : zIj (runC (R := R) Tryz.prog lo0 F n) := by
  obtain ⟨n, rfl⟩ : ∃ j, n = j + 1 := ⟨n - 1, by omega⟩
  intro N m e more h0 hN he1 he2 G k
  unfold V
  rw [zAW, zAL]
  have hm : m < 128 := by
    rcases Nat.lt_or_ge m 128 with h | h
    · exact h
    · have h1 : 2 ^ 128 ≤ 2 ^ m := Nat.pow_le_pow_right (by decide) h
      have h2 : 1 * 2 ^ m ≤ N * 2 ^ m := Nat.mul_le_mul_right _ (by omega)
      omega
  simp only [zqr, zhV]
  rw [zaN hF]
  simp only [zh7, zlx, zkn]
  by_cases h64 : (m : Int) ≥ 64
  · rw [decide_eq_true h64, cond_true, zF (v := (m : Int) - 64) (by omega) (by omega), decide_eq_false (by omega), cond_false, show (m : Int) - 64 = ((m - 64 : Nat) : Int) by omega, zdH, zF (by omega) (by omega)]
    have hN64 : N < 2 ^ 64 := by
      rcases Nat.lt_or_ge N (2 ^ 64) with h | h
      · exact h
      · have h1 : 2 ^ 64 ≤ 2 ^ m := Nat.pow_le_pow_right (by decide) (by omega)
        have h2 : 2 ^ 64 * 2 ^ 64 ≤ N * 2 ^ m := Nat.mul_le_mul h h1
        omega
    have e1 : N * 2 ^ m = N * 2 ^ (m - 64) * 2 ^ 64 := by rw [Nat.mul_assoc, ← Nat.pow_add]; congr 2; omega
    have hlt : N * 2 ^ (m - 64) < 2 ^ 64 := by
      rw [e1] at hN
      have : N * 2 ^ (m - 64) * 2 ^ 64 < 2 ^ 64 * 2 ^ 64 := by omega
      exact Nat.lt_of_mul_lt_mul_right this
    rw [e1, Nat.mul_div_cancel _ (by decide), Nat.mul_mod_left, Nat.mod_eq_of_lt hN64, Nat.mod_eq_of_lt hlt]
    rfl
  · rw [decide_eq_false h64, cond_false]
    by_cases hz : (m : Int) > 0
    · rw [decide_eq_true hz, cond_true, decide_eq_false (by omega), cond_false, zF (v := (64 : Int) - m) (by omega) (by omega), decide_eq_false (by omega), cond_false, cond_false, show (64 : Int) - m = ((64 - m : Nat) : Int) by omega,
        zdH, zdH, zao (Nat.mod_lt _ (by decide)), zF (by omega) (by omega)]
      obtain ⟨hi, lo, hhl, hlo⟩ : ∃ hi lo, N = hi * 2 ^ 64 + lo ∧ lo < 2 ^ 64 := ⟨N / 2 ^ 64, N % 2 ^ 64, by omega, by omega⟩
      have d1 : N / 2 ^ 64 = hi := by omega
      have d2 : N % 2 ^ 64 = lo := by omega
      rw [d1, d2]
      have hp : 2 ^ (64 - m) * 2 ^ m = 2 ^ 64 := by rw [← Nat.pow_add]; congr 1; omega
      have hq : lo / 2 ^ (64 - m) < 2 ^ m := by rw [Nat.div_lt_iff_lt_mul (Nat.two_pow_pos _), Nat.mul_comm, hp]; exact hlo
      have hdm := Nat.div_add_mod lo (2 ^ (64 - m))
      have e1 : lo * 2 ^ m = lo / 2 ^ (64 - m) * 2 ^ 64 + lo % 2 ^ (64 - m) * 2 ^ m := by
        conv => lhs; rw [← hdm]
        rw [Nat.add_mul, Nat.mul_comm (2 ^ (64 - m)), Nat.mul_assoc, hp]
      have hr : lo % 2 ^ (64 - m) * 2 ^ m < 2 ^ 64 := by
        rw [← hp]; exact Nat.mul_lt_mul_of_pos_right (Nat.mod_lt _ (Nat.two_pow_pos _)) (Nat.two_pow_pos _)
      have e2 : N * 2 ^ m = (hi * 2 ^ m + lo / 2 ^ (64 - m)) * 2 ^ 64 + lo % 2 ^ (64 - m) * 2 ^ m := by
        rw [hhl, Nat.add_mul, e1, Nat.add_mul, Nat.mul_right_comm, Nat.add_assoc]
      have hb : hi * 2 ^ m + lo / 2 ^ (64 - m) < 2 ^ 64 := by
        rw [e2] at hN
        omega
      have hhi : hi * 2 ^ m < 2 ^ 64 := by omega
      rw [Nat.mod_eq_of_lt hhi, zvm hhi hq (by omega), e2]
      have f1 : ((hi * 2 ^ m + lo / 2 ^ (64 - m)) * 2 ^ 64 + lo % 2 ^ (64 - m) * 2 ^ m) / 2 ^ 64 = hi * 2 ^ m + lo / 2 ^ (64 - m) := by omega
      have f2 : ((hi * 2 ^ m + lo / 2 ^ (64 - m)) * 2 ^ 64 + lo % 2 ^ (64 - m) * 2 ^ m) % 2 ^ 64 = lo * 2 ^ m % 2 ^ 64 := by rw [e1]; omega
      rw [f1, f2]
    · have hm0 : m = 0 := by omega
      subst hm0
      rw [decide_eq_false hz, cond_false, zF (by omega) (by omega)]
      simp
theorem zGk {F n : Nat} (hn : 1 ≤ n) : zvR (runC (R := R) Tryz.prog lo0 F n) := by
  obtain ⟨n, rfl⟩ : ∃ j, n = j + 1 := ⟨n - 1, by omega⟩
  intro N M e d more mo G k
  unfold V
  rw [zvM, zvJ]
  by_cases h1 : N / 2 ^ 64 < M / 2 ^ 64
  · rw [decide_eq_true (by omega), cond_true, decide_eq_true (by omega)]
  · rw [decide_eq_false (by omega), cond_false]
    by_cases h2 : N / 2 ^ 64 = M / 2 ^ 64
    · rw [h2, show (((M / 2 ^ 64 : Nat) : Int) == ((M / 2 ^ 64 : Nat) : Int)) = true by simp, cond_true]
      congr 2
      rw [decide_eq_decide]; omega
    · rw [show (((N / 2 ^ 64 : Nat) : Int) == ((M / 2 ^ 64 : Nat) : Int)) = false by rw [beq_eq_false_iff_ne]; omega, cond_false, decide_eq_false (by omega)]
theorem zGe {F n : Nat} (hn : 1 ≤ n) : zv7 (runC (R := R) Tryz.prog lo0 F n) := by
  obtain ⟨n, rfl⟩ : ∃ j, n = j + 1 := ⟨n - 1, by omega⟩
  intro N M e d more mo hMN hN G k
  unfold V
  rw [zwv, zwd, zF3 (Nat.mod_lt _ (by decide)) (Nat.mod_lt _ (by decide)), zF3 (by omega) (by omega)]
  have q1 : (N % 2 ^ 64 + 2 ^ 64 - M % 2 ^ 64) % 2 ^ 64 = (N - M) % 2 ^ 64 := by omega
  rw [q1]
  by_cases h : N % 2 ^ 64 < M % 2 ^ 64
  · rw [decide_eq_true (by omega), cond_true, show (1 : Int) = ((1 : Nat) : Int) from rfl, zF3 (Nat.mod_lt _ (by decide)) (by decide), show ((N / 2 ^ 64 + 2 ^ 64 - M / 2 ^ 64) % 2 ^ 64 + 2 ^ 64 - 1) % 2 ^ 64 = (N - M) / 2 ^ 64 by omega]
  · rw [decide_eq_false (by omega), cond_false, show (N / 2 ^ 64 + 2 ^ 64 - M / 2 ^ 64) % 2 ^ 64 = (N - M) / 2 ^ 64 by omega]
theorem zHr {F n : Nat} (hF : 1 ≤ F) (hn : 1 ≤ n) : zzZ (runC (R := R) Tryz.prog lo0 F n) := by
  obtain ⟨n, rfl⟩ : ∃ j, n = j + 1 := ⟨n - 1, by omega⟩
  intro N M e d more mo hN G k
  unfold V
  rw [zxW, zxH]
  generalize runC (R := R) Tryz.prog lo0 F n = O
  simp only [zlO, zff]
  rw [zaN hF]
  simp only [zfM, ziB, zhF]
  rw [← Int.natCast_add, ← Int.natCast_add, zyG, zyG, show ((N % 2 ^ 64 + M % 2 ^ 64) % 2 ^ 64) = (N + M) % 2 ^ 64 by omega]
  have fin : ∀ (b : Bool), (bif decide ((((N + M) % 2 ^ 64 : Nat) : Int) < ((N % 2 ^ 64 : Nat) : Int)) then k (.agg [uL (IntKind.wrap .u64 ((((N / 2 ^ 64 + M / 2 ^ 64) % 2 ^ 64 : Nat) : Int) + 1)), uL (((N + M) % 2 ^ 64 : Nat) : Int), iL e, .bool b]) G else k (.agg [uL (((N / 2 ^ 64 + M / 2 ^ 64) % 2 ^ 64 : Nat) : Int), uL (((N + M) % 2 ^ 64 : Nat) : Int), iL e, .bool b]) G) = k (.agg [uL (((N + M) / 2 ^ 64 : Nat) : Int), uL (((N + M) % 2 ^ 64 : Nat) : Int), iL e, .bool b]) G := by
    intro b
    by_cases h : (N + M) % 2 ^ 64 < N % 2 ^ 64
    · rw [decide_eq_true (by omega), cond_true, show (((N / 2 ^ 64 + M / 2 ^ 64) % 2 ^ 64 : Nat) : Int) + 1 = (((N / 2 ^ 64 + M / 2 ^ 64) % 2 ^ 64 + 1 : Nat) : Int) by omega, zyG, show ((N / 2 ^ 64 + M / 2 ^ 64) % 2 ^ 64 + 1) % 2 ^ 64 = (N + M) / 2 ^ 64 by omega]
    · rw [decide_eq_false (by omega), cond_false, show (N / 2 ^ 64 + M / 2 ^ 64) % 2 ^ 64 = (N + M) / 2 ^ 64 by omega]
  cases more with
  | true => rw [cond_true, Bool.true_or]; exact fin true
  | false => rw [cond_false, Bool.false_or]; exact fin mo
end
end Go.LI.Film
namespace Go.LI.Film
open Go.Proofs.YtbjcipikclbecaaGreat Go Go.Proofs Go.LI Go.LI.Fl
section
variable {R : Type}
theorem zzQ {O : Ora R} {F : Nat} (hF : 1 ≤ F) {m hi lo : Nat} (hm : m < 64) (hhi : hi < 2 ^ 64) (hlo : lo < 2 ^ 64) (e : Int) (more : Bool) (c0 c1 c2 : Int) (c3 : Bool) (G : GH) (k : IV → GH → Option R) :
    zap O k (zan O F k) (m : Int) (hi : Int) (lo : Int) e more c0 c1 c2 c3 G = k (V ((hi * 2 ^ 64 + lo) / 2 ^ m) e (more || decide ((hi * 2 ^ 64 + lo) % 2 ^ m ≠ 0))) G := by
  obtain ⟨N, hN⟩ : ∃ N, N = hi * 2 ^ 64 + lo := ⟨_, rfl⟩
  rw [← hN]
  unfold V
  simp only [zap]
  by_cases h0 : (m : Int) > 0
  · rw [decide_eq_true h0, cond_true]
    simp only [zan]
    rw [zaN hF]
    simp only [zfL, ziK, zhD]
    have w2 : IntKind.wrap .i64 ((64 : Int) - (m : Int)) = ((64 - m : Nat) : Int) := by rw [zF (by omega) (by omega)]; omega
    rw [w2, decide_eq_false (show ¬ ((m : Nat) : Int) < 0 by omega), decide_eq_false (show ¬ ((64 - m : Nat) : Int) < 0 by omega), zao hhi, zao hlo, zdH, zdH, ibn]
    have hp : 2 ^ (64 - m) * 2 ^ m = 2 ^ 64 := by rw [← Nat.pow_add]; congr 1; omega
    have hp' : 2 ^ m * 2 ^ (64 - m) = 2 ^ 64 := by rw [Nat.mul_comm]; exact hp
    have hq : lo / 2 ^ m < 2 ^ (64 - m) := by rw [Nat.div_lt_iff_lt_mul (Nat.two_pow_pos _), hp]; exact hlo
    have hdm := Nat.div_add_mod hi (2 ^ m)
    have e1 : hi * 2 ^ (64 - m) = hi / 2 ^ m * 2 ^ 64 + hi % 2 ^ m * 2 ^ (64 - m) := by
      conv => lhs; rw [← hdm]
      rw [Nat.add_mul, Nat.mul_comm (2 ^ m), Nat.mul_assoc, hp']
    have hr : hi % 2 ^ m * 2 ^ (64 - m) < 2 ^ 64 := by
      rw [← hp']; exact Nat.mul_lt_mul_of_pos_right (Nat.mod_lt _ (Nat.two_pow_pos _)) (Nat.two_pow_pos _)
    have e2 : hi * 2 ^ (64 - m) % 2 ^ 64 = hi % 2 ^ m * 2 ^ (64 - m) := by rw [e1]; exact (zHa hr).2
    have q1 : N / 2 ^ m = hi / 2 ^ m * 2 ^ 64 + (hi % 2 ^ m * 2 ^ (64 - m) + lo / 2 ^ m) := by
      have : N = (hi / 2 ^ m * 2 ^ 64 + hi % 2 ^ m * 2 ^ (64 - m)) * 2 ^ m + lo := by
        rw [← e1, Nat.mul_assoc, hp]; exact hN
      rw [this, Nat.mul_comm _ (2 ^ m), Nat.mul_add_div (Nat.two_pow_pos m)]; omega
    have q3 : N % 2 ^ m = lo % 2 ^ m := by
      have : N = 2 ^ m * (hi * 2 ^ (64 - m)) + lo := by rw [hN, ← Nat.mul_assoc, Nat.mul_comm (2 ^ m) hi, Nat.mul_assoc, hp']
      rw [this, Nat.mul_add_mod]
    have hsum : hi % 2 ^ m * 2 ^ (64 - m) + lo / 2 ^ m < 2 ^ 64 := by
      have h1 : (hi % 2 ^ m + 1) * 2 ^ (64 - m) ≤ 2 ^ m * 2 ^ (64 - m) := Nat.mul_le_mul_right _ (Nat.mod_lt _ (Nat.two_pow_pos m))
      rw [Nat.add_mul, hp'] at h1
      omega
    have hor : orI .u64 ((lo / 2 ^ m : Nat) : Int) ((hi * 2 ^ (64 - m) % 2 ^ 64 : Nat) : Int) = ((hi % 2 ^ m * 2 ^ (64 - m) + lo / 2 ^ m : Nat) : Int) := by
      rw [e2, zu5 (Nat.lt_of_le_of_lt (Nat.div_le_self _ _) hlo) hr, Nat.or_comm, zvj hq]
    rw [hor, q1, q3]
    obtain ⟨f1, f2⟩ := zHa (A := hi / 2 ^ m) hsum
    rw [f1, f2]
    have ho := zyF (x := lo) (m := m) hlo (by omega)
    have hdec : decide (lo * 2 ^ (64 - m) % 2 ^ 64 ≠ 0) = decide (lo % 2 ^ m ≠ 0) := by
      rw [decide_eq_decide]; exact not_congr ho
    rw [hdec]
    cases more <;> simp only [cond_true, cond_false, Bool.true_or, Bool.false_or]
  · have hm0 : m = 0 := by omega
    subst hm0
    rw [decide_eq_false h0, cond_false, Nat.pow_zero, Nat.div_one, Nat.mod_one]
    obtain ⟨f1, f2⟩ := zHa (A := hi) hlo
    rw [hN, f1, f2]
    simp
theorem zxV {O : Ora R} {F : Nat} (hF : 1 ≤ F) (Kret K0) {m hi lo j : Nat} (hm : 64 ≤ m) (hm2 : m ≤ 200000) (e : Int) (more : Bool) (c0 c1 c2 : Int) (c3 : Bool) (G : GH) :
    zD (R := R) O F Kret K0 (j + 1) (m : Int) (hi : Int) (lo : Int) e more c0 c1 c2 c3 G =
      if hi = 0 then Kret 0 0 e (more || decide (lo ≠ 0)) 0 0 e (more || decide (lo ≠ 0)) G
      else zD O F Kret K0 j ((m - 64 : Nat) : Int) 0 (hi : Int) e (more || decide (lo ≠ 0)) c0 c1 c2 c3 G := by
  have h1 : zD (R := R) O F Kret K0 (j + 1) (m : Int) (hi : Int) (lo : Int) e more c0 c1 c2 c3 G = zex O Kret (zD O F Kret K0 j) K0 (m : Int) (hi : Int) (lo : Int) e (more || decide (lo ≠ 0)) c0 c1 c2 c3 G := by
    simp only [zD, zfw, zfW]
    rw [decide_eq_true (show (m : Int) ≥ 64 by omega), cond_true, zaN hF]
    simp only [zfN, zie]
    rw [ibn]
    cases more with
    | true => rw [cond_true, Bool.true_or]
    | false => rw [cond_false, Bool.false_or]
  rw [h1]
  simp only [zex]
  rw [ib]
  by_cases h : hi = 0
  · rw [decide_eq_true h, cond_true, if_pos h, h]; rfl
  · rw [decide_eq_false h, cond_false, if_neg h, zF (by omega) (by omega), show (m : Int) - 64 = ((m - 64 : Nat) : Int) by omega]
theorem zxm {O : Ora R} {F : Nat} (Kret K0) {m hi lo j : Nat} (hm : m < 64) (e : Int) (more : Bool) (c0 c1 c2 : Int) (c3 : Bool) (G : GH) :
    zD (R := R) O F Kret K0 (j + 1) (m : Int) (hi : Int) (lo : Int) e more c0 c1 c2 c3 G = K0 (m : Int) (hi : Int) (lo : Int) e more c0 c1 c2 c3 G := by
  simp only [zD, zfw]
  rw [decide_eq_false (show ¬ (m : Int) ≥ 64 by omega), cond_false]
theorem zG3 (h lo : Nat) : (decide (lo ≠ 0) || decide (h ≠ 0)) = decide (h * 2 ^ 64 + lo ≠ 0) := by
  rw [← Bool.decide_or, decide_eq_decide]
  omega
theorem zEY {F n : Nat} (hF : 10 ≤ F) (hn : 1 ≤ n) : zzE (runC (R := R) Tryz.prog lo0 F n) := by
  obtain ⟨n, rfl⟩ : ∃ j, n = j + 1 := ⟨n - 1, by omega⟩
  intro N s e more hN he1 he2 hs1 hs2 G k
  have hF1 : 1 ≤ F := by omega
  have hF' : ∃ f, F = f + 3 := ⟨F - 3, by omega⟩
  have hstart : ∀ (a b : Int), runC (R := R) Tryz.prog lo0 F (n + 1) zcK [.agg [uL a, uL b, iL e, .bool more], iL s] G k = zh0 (runC (R := R) Tryz.prog lo0 F n) k (zdf (runC (R := R) Tryz.prog lo0 F n) F k) a b e more s G := by
    intro a b
    rw [zw5, zxg]
  unfold V
  rw [hstart]
  generalize runC (R := R) Tryz.prog lo0 F n = O
  simp only [zh0]
  by_cases h0 : s ≤ 0
  · have ht : s.toNat = 0 := by omega
    rw [decide_eq_true h0, cond_true, ht]
    simp only [Nat.pow_zero, Nat.div_one, Nat.mod_one]
    simp
  obtain ⟨m, rfl⟩ : ∃ m : Nat, s = m := ⟨s.toNat, by omega⟩
  rw [decide_eq_false h0, cond_false, Int.toNat_natCast, zF (v := e + (m : Int)) (by omega) (by omega)]
  obtain ⟨hi, lo, hhl, hlo, d1, d2⟩ := zz6 N
  have hhi : hi < 2 ^ 64 := by omega
  have hfold : ∀ (X : Nat) (b : Bool), (IV.agg [uL ((X / 2 ^ 64 : Nat) : Int), uL ((X % 2 ^ 64 : Nat) : Int), iL (e + (m : Int)), .bool b]) = V X (e + m) b := fun X b => rfl
  rw [d1, d2, hfold]
  generalize e + (m : Int) = e'
  simp only [zdf]
  obtain ⟨f, hf⟩ := hF'
  have hl : ∀ (a b c : Int), zD O F (zaK O k) (zap O k (zan O F k)) F a b c e' more 0 0 0 false G = zD O F (zaK O k) (zap O k (zan O F k)) (f + 3) a b c e' more 0 0 0 false G := by
    intro a b c; rw [← hf]
  rw [hl]
  by_cases h64 : m < 64
  · rw [zxm _ _ h64, zzQ hF1 h64 hhi hlo, ← hhl]
  · obtain ⟨j, rfl⟩ : ∃ j, m = 64 + j := ⟨m - 64, by omega⟩
    have q1 : N / 2 ^ (64 + j) = hi / 2 ^ j := by rw [Nat.pow_add, ← Nat.div_div_eq_div_mul, d1]
    have q3 : N % 2 ^ (64 + j) = hi % 2 ^ j * 2 ^ 64 + lo := by
      rw [Nat.pow_add, Nat.mod_mul, d1, d2]; omega
    rw [zxV hF1 _ _ (by omega) (by omega), q1, q3]
    by_cases hz : hi = 0
    · rw [if_pos hz, hz, Nat.zero_div, Nat.zero_mod, Nat.zero_mul, Nat.zero_add]
      rfl
    · rw [if_neg hz, show 64 + j - 64 = j by omega]
      by_cases hj : j < 64
      · have := zzQ (O := O) hF1 hj (hi := 0) (lo := hi) (by decide) hhi e' (more || decide (lo ≠ 0)) 0 0 0 false G k
        rw [Nat.zero_mul, Nat.zero_add] at this
        have hx := zxm (O := O) (F := F) (zaK O k) (zap O k (zan O F k)) (hi := 0) (lo := hi) (j := f + 1) hj e' (more || decide (lo ≠ 0)) 0 0 0 false G
        refine hx.trans (this.trans ?_)
        congr 2
        rw [Bool.or_assoc]
        rw [zG3]
      · have hst := zxV (O := O) hF1 (zaK O k) (zap O k (zan O F k)) (m := j) (hi := 0) (lo := hi) (j := f + 1) (by omega) (by omega) e' (more || decide (lo ≠ 0)) 0 0 0 false G
        rw [if_pos rfl, decide_eq_true hz, Bool.or_true] at hst
        refine hst.trans ?_
        have hb : hi < 2 ^ j := Nat.lt_of_lt_of_le hhi (Nat.pow_le_pow_right (by decide) (by omega))
        rw [Nat.div_eq_of_lt hb, Nat.mod_eq_of_lt hb, decide_eq_true (show hi * 2 ^ 64 + lo ≠ 0 by omega), Bool.or_true]
        rfl
theorem zDv {t q : Nat} (h : t = q + 52) : zU (2 ^ t) = q * 2 ^ 52 + 2 ^ 52 := by
  refine zi9 ?_ ?_ (by decide) (.inr (Nat.le_refl _))
  · rw [h, ← Nat.pow_add, Nat.add_comm]; exact Nat.le_refl _
  · rw [h, Nat.add_mul, ← Nat.pow_add, Nat.add_comm 52 q, Nat.one_mul]
    have := Nat.two_pow_pos q
    omega
theorem zFk {F n : Nat} (hn : 2 ≤ n) : zyy (runC (R := R) Tryz.prog lo0 F n) := by
  obtain ⟨n, rfl⟩ : ∃ j, n = j + 2 := ⟨n - 2, by omega⟩
  have hfr := zxB (R := R) (F := F) (n := n + 1) (by omega)
  intro t ht G k
  rw [zvV, zwj]
  by_cases h : t < 52
  · have hlt : 2 ^ t < 2 ^ 53 := Nat.pow_lt_pow_right (by decide) (by omega)
    rw [decide_eq_false (by omega), cond_false, zF (by omega) (by omega), decide_eq_false (by omega), cond_false, show (t : Int) - 1074 + 1074 = (t : Int) by omega, show (1 : Int) = ((1 : Nat) : Int) from rfl, zdH, Nat.one_mul, Nat.mod_eq_of_lt (by omega), hfr, ivF, zdM hlt]
  · rw [decide_eq_true (by omega), cond_true, show (t : Int) - 1074 + 1023 = ((t - 51 : Nat) : Int) by omega, zF (by omega) (by omega), zu (by omega), show (52 : Int) = ((52 : Nat) : Int) from rfl, zdH, Nat.mod_eq_of_lt (by omega), hfr, ivF, zDv (t := t) (q := t - 52) (by omega), show t - 51 = t - 52 + 1 by omega, Nat.add_mul, Nat.one_mul]
end
end Go.LI.Film
namespace Go.LI.Film
open Go.Proofs.YtbjcipikclbecaaGreat Go Go.Proofs Go.LI Go.LI.Fl
def zor (r : Nat) (grow : Bool) : Nat := if r < 9218868437227405312 then r else if grow then 9218868437227405312 else 9218868437227405311
theorem zvp (neg : Bool) (r : Nat) (grow : Bool) : zjH neg r grow = if zor r grow = 0 then 0 else dbl.word neg (zor r grow) := rfl
theorem zED (r : Nat) (grow : Bool) : zor r grow ≤ 9218868437227405312 := by
  unfold zor; split
  · omega
  · split <;> omega
theorem zAt {m t K : Nat} (hK : K = 1074) (hm : m ≤ 2 ^ 53) (ht : t ≤ 2045) (hr : zU (m * 2 ^ t) < 9218868437227405312) : dbl.mul (zU (m * 2 ^ K)) (zU (2 ^ t)) = some (zU (m * 2 ^ t)) := by
  have h1 : zU (m * 2 ^ K) < 9218868437227405312 := zzO hm (by omega)
  have h2 : zU (2 ^ t) < 9218868437227405312 := by
    rw [zjx]
    have := zwh (n := 2 ^ t) (k := t) (Nat.le_refl _) (Nat.pow_lt_pow_right (by decide) (by omega))
    omega
  refine ztX h1 h2 hr ?_
  have hp : mag dbl (zU (2 ^ t)) = 2 ^ t := by
    have := zg8 (m := 1) (q := t) (by decide)
    rw [Nat.one_mul] at this
    exact this
  rw [zg8 hm, hp, zg8 hm, ← hK, Nat.mul_assoc, Nat.mul_assoc, Nat.mul_comm (2 ^ K)]
theorem zCS {r : Nat} (h : r ≤ 9218868437227405312) : dbl.sub 0 r = some (if r = 0 then 0 else dbl.word true r) := by
  by_cases h0 : r = 0
  · subst h0; decide +kernel
  · rw [if_neg h0]
    have hr := zfs (r := r) (by omega)
    by_cases h1 : r < 9218868437227405312
    · have := Go.LI.Fl.sub_zero dbl (x := r) (by rw [hr.1]; exact zoK h1) (by rw [hr.1]; exact h0)
      rw [this, hr.1, hr.2]
      rfl
    · have : r = 9218868437227405312 := by omega
      subst this
      decide +kernel
section
variable {R : Type}
abbrev zE5 (O : Ora R) : Prop := ∀ (N p s : Nat) (e : Int) (more grow : Bool) (A B : Nat), N < 2 ^ 128 → -20000 ≤ e → e ≤ 20000 → 0 < B → (p : Int) - s = e + 1074 → zlc N p s more A B → (more = true → 54 ≤ zE N) → ∀ (G : GH) (k : IV → GH → Option R),
  O zpl [V N e more, .bool grow] G k = k (fL (zor (ztB A B grow) grow)) G
abbrev zGL (O : Ora R) : Prop := ∀ (neg : Bool) (N p s : Nat) (e : Int) (more down : Bool) (A B : Nat), N < 2 ^ 128 → -20000 ≤ e → e ≤ 20000 → 0 < B → (p : Int) - s = e + 1074 → zlc N p s more A B → (more = true → 54 ≤ zE N) → ∀ (G : GH) (k : IV → GH → Option R),
  O zeT [V N e more, .bool neg, .bool down] G k = k (fL (zjH neg (ztB A B (neg == down)) (neg == down))) G
abbrev zFQ (O : Ora R) : Prop := ∀ (G : GH) (k : IV → GH → Option R), O zaf [] G k = k (fL 9218868437227405312) G
abbrev zCB (O : Ora R) : Prop := ∀ (G : GH) (k : IV → GH → Option R), O zp8 [] G k = k (fL 9218868437227405311) G
abbrev zv0 (O : Ora R) : Prop := ∀ (x : Nat), x < 2 ^ 64 → rg dbl x ≤ 9218868437227405312 → ∀ (G : GH) (k : IV → GH → Option R), O zar [fL x] G k = k (fL (if rg dbl x = 0 then 0 else x)) G
theorem zH5 {F n : Nat} (hn : 2 ≤ n) : zFQ (runC (R := R) Tryz.prog lo0 F n) := by
  obtain ⟨n, rfl⟩ : ∃ j, n = j + 2 := ⟨n - 2, by omega⟩
  have hfr := zxB (R := R) (F := F) (n := n + 1) (by omega)
  intro G k
  rw [zuw, zuo, show (9218868437227405312 : Int) = ((9218868437227405312 : Nat) : Int) from rfl, hfr, ivF]
theorem zG7 {F n : Nat} (hn : 2 ≤ n) : zCB (runC (R := R) Tryz.prog lo0 F n) := by
  obtain ⟨n, rfl⟩ : ∃ j, n = j + 2 := ⟨n - 2, by omega⟩
  have hfr := zxB (R := R) (F := F) (n := n + 1) (by omega)
  intro G k
  rw [zxD, zwV, show (9218868437227405311 : Int) = ((9218868437227405311 : Nat) : Int) from rfl, hfr, ivF]
theorem zAj {F n : Nat} (hn : 1 ≤ n) : zv0 (runC (R := R) Tryz.prog lo0 F n) := by
  obtain ⟨n, rfl⟩ : ∃ j, n = j + 1 := ⟨n - 1, by omega⟩
  intro x hx hi G k
  rw [znk, zno, zmB hx hi]
  by_cases h : rg dbl x = 0
  · rw [decide_eq_true h, cond_true, if_pos h]
  · rw [decide_eq_false h, cond_false, if_neg h]
theorem zHX {O : Ora R} (K0 : tY3 R) (b0 b1 : Int) (b3 : Bool) (G : GH) : ∀ (i j m : Nat), i < j → i ≤ 1000 → m * 2 ^ i < 2 ^ 64 → zaG O K0 j (m : Int) b0 b1 (971 + (i : Int)) b3 G = K0 ((m * 2 ^ i : Nat) : Int) b0 b1 971 b3 G := by
  intro i
  induction i with
  | zero =>
    intro j m hj _ hm
    obtain ⟨j, rfl⟩ : ∃ j', j = j' + 1 := ⟨j - 1, by omega⟩
    simp only [zaG, zfi]
    rw [decide_eq_false (by omega), cond_false, Nat.pow_zero, Nat.mul_one]
    rfl
  | succ i ih =>
    intro j m hj hi hm
    obtain ⟨j, rfl⟩ : ∃ j', j = j' + 1 := ⟨j - 1, by omega⟩
    simp only [zaG, zfi]
    have h2 : m * 2 ^ (i + 1) = m * 2 * 2 ^ i := by rw [Nat.pow_succ, Nat.mul_comm (2 ^ i) 2, Nat.mul_assoc]
    rw [h2] at hm ⊢
    have hlt : m * 2 < 2 ^ 64 := by
      have := Nat.mul_le_mul_left (m * 2) (Nat.two_pow_pos i)
      omega
    rw [decide_eq_true (by omega), cond_true, show (1 : Int) = ((1 : Nat) : Int) from rfl, zdH, Nat.pow_one, Nat.mod_eq_of_lt hlt, zF (by omega) (by omega), show 971 + ((i + 1 : Nat) : Int) - ((1 : Nat) : Int) = 971 + (i : Int) by omega]
    exact ih j (m * 2) (by omega) (by omega) hm
theorem zAb {O : Ora R} {F : Nat} (hF : 1100 ≤ F) (hLen : zpW O) (hPw : zyy O) (hInf : zFQ O) (hMo : zCB O) (grow : Bool) {m t : Nat} (hm : m ≤ 2 ^ 53) (ht : t ≤ 100000) (b0 b1 : Int) (b3 : Bool) (G : GH) (k : IV → GH → Option R) :
    zcc O k (zbQ O F k) grow (m : Int) b0 b1 ((t : Int) - 1074) b3 G = k (fL (zor (zU (m * 2 ^ t)) grow)) G := by
  simp only [zcc]
  rw [ib]
  by_cases h0 : m = 0
  · rw [decide_eq_true h0, cond_true, h0, Nat.zero_mul, zdM (by decide)]
    rfl
  rw [decide_eq_false h0, cond_false]
  have hb : zE m ≤ 54 := zP.2 (by omega)
  have hl := hLen m 0 false (by omega) (zj G)
  unfold V at hl
  rw [Nat.div_eq_of_lt (show m < 2 ^ 64 by omega), Nat.mod_eq_of_lt (show m < 2 ^ 64 by omega)] at hl
  have hl' : ∀ (k : IV → GH → Option R), O zK [.agg [uL 0, uL (m : Int), iL 0, .bool false]] (zj G) k = k (iL (zE m : Nat)) (zj G) := hl
  rw [hl', ivI, zF (v := ((zE m : Nat) : Int) - 1) (by omega) (by omega), zF (v := ((zE m : Nat) : Int) - 1 + ((t : Int) - 1074)) (by omega) (by omega)]
  have hiff : zU (m * 2 ^ t) < 9218868437227405312 ↔ zE m + t ≤ 2098 := by rw [zjx, zag h0]
  by_cases hbig : zE m + t ≤ 2098
  · have hlt := hiff.2 hbig
    rw [decide_eq_false (by omega), cond_false]
    have hnear : zor (zU (m * 2 ^ t)) grow = zU (m * 2 ^ t) := by unfold zor; rw [if_pos hlt]
    rw [hnear]
    simp only [zbQ]
    rw [zaN (by omega)]
    simp only [zfo, zif]
    rw [decide_eq_true (by omega), cond_true]
    simp only [zhx]
    obtain ⟨K, hK⟩ : ∃ K : Nat, K = 1074 := ⟨_, rfl⟩
    by_cases h971 : t ≤ 2045
    · rw [decide_eq_true (by omega), cond_true, hPw t h971, ivF, show FloatKind.f64.format = dbl from rfl, (zpq hm hK).1, zAt hK hm h971 hlt, Option.bind_some]
    · rw [decide_eq_false (by omega), cond_false]
      obtain ⟨i, hi⟩ : ∃ i : Nat, t = 2045 + i := ⟨t - 2045, by omega⟩
      have hmi : zE (m * 2 ^ i) ≤ 53 := by rw [zag h0]; omega
      have hmi2 : m * 2 ^ i < 2 ^ 53 := zP.1 hmi
      obtain ⟨Q, hQ⟩ : ∃ Q : Nat, Q = 2045 := ⟨_, rfl⟩
      have he : m * 2 ^ t = m * 2 ^ i * 2 ^ Q := by rw [hi, ← hQ, Nat.mul_assoc, ← Nat.pow_add, Nat.add_comm]
      simp only [zfV]
      rw [show (t : Int) - 1074 = 971 + (i : Int) by omega, zHX _ _ _ _ _ i F m (by omega) (by omega) (by omega)]
      simp only [zhi, zfR]
      obtain ⟨f, hf⟩ : ∃ f, F = f + 1 := ⟨F - 1, by omega⟩
      have h5 : zbf O (zcs O k) F ((m * 2 ^ i : Nat) : Int) b0 b1 971 b3 G = zcs O k ((m * 2 ^ i : Nat) : Int) b0 b1 971 b3 G := by
        rw [hf]
        simp only [zbf, ziL]
        rw [decide_eq_false (by omega), cond_false]
      rw [h5]
      simp only [zcs]
      have hpw := hPw Q (by omega) G
      rw [show (Q : Int) - 1074 = 971 by omega] at hpw
      rw [he] at hlt ⊢
      rw [hpw, ivF, show FloatKind.f64.format = dbl from rfl, (zpq (m := m * 2 ^ i) (by omega) hK).1, zAt hK (by omega) (by omega) hlt, Option.bind_some]
  · have hge := mt hiff.1 hbig
    rw [decide_eq_true (by omega), cond_true]
    unfold zor
    rw [if_neg hge]
    cases grow with
    | true => rw [cond_true, hInf, ivF]; rfl
    | false => rw [cond_false, hMo, ivF]; rfl
theorem zCu {O : Ora R} {F : Nat} (hF : 1100 ≤ F) (hLen : zpW O) (hD : zzE O) (hPw : zyy O) (hInf : zFQ O) (hMo : zCB O) {more grow : Bool} {N p s A B : Nat} {e : Int} (hN : N < 2 ^ 128) (he1 : -20000 ≤ e) (he2 : e ≤ 20000) (hB : 0 < B) (hps : (p : Int) - s = e + 1074) (hrep : zlc N p s more A B) (hmore : more = true → 54 ≤ zE N) (G : GH) (k : IV → GH → Option R) :
    zh6 O k (zc5 O F k) ((N / 2 ^ 64 : Nat) : Int) ((N % 2 ^ 64 : Nat) : Int) e more grow G = k (fL (zor (ztB A B grow) grow)) G := by
  have hF1 : 1 ≤ F := by omega
  simp only [zh6]
  have hL : ∀ (k : IV → GH → Option R), O zK [.agg [uL ((N / 2 ^ 64 : Nat) : Int), uL ((N % 2 ^ 64 : Nat) : Int), iL e, .bool more]] G k = k (iL (zE N : Nat)) G := hLen N e more hN G
  have hb : zE N ≤ 128 := zP.2 hN
  rw [hL, ivI, zF (v := ((zE N : Nat) : Int) - 53) (by omega) (by omega)]
  simp only [zc5]
  rw [zaN hF1]
  simp only [zfn, ziC]
  rw [zF (v := -1074 - e) (by omega) (by omega)]
  obtain ⟨v, hv⟩ : ∃ v : Int, v = (if (-1074 : Int) - e > ((zE N : Nat) : Int) - 53 then -1074 - e else ((zE N : Nat) : Int) - 53) := ⟨_, rfl⟩
  have fin : zeH O k (zc6 O F k) grow v ((N / 2 ^ 64 : Nat) : Int) ((N % 2 ^ 64 : Nat) : Int) e more G = k (fL (zor (ztB A B grow) grow)) G := by
    obtain ⟨n, hn⟩ : ∃ n : Nat, n = v.toNat := ⟨_, rfl⟩
    simp only [zeH]
    have hDD : ∀ (k : IV → GH → Option R), O zcK [.agg [uL ((N / 2 ^ 64 : Nat) : Int), uL ((N % 2 ^ 64 : Nat) : Int), iL e, .bool more], iL v] G k = k (V (N / 2 ^ n) (e + n) (more || decide (N % 2 ^ n ≠ 0))) G := by
      rw [hn]
      exact hD N v e more hN (by omega) (by omega) (by split at hv <;> omega) (by split at hv <;> omega) G
    rw [hDD, znr]
    obtain ⟨M, hM⟩ : ∃ M, M = N / 2 ^ n := ⟨_, rfl⟩
    obtain ⟨mo, hmo⟩ : ∃ mo, mo = (more || decide (N % 2 ^ n ≠ 0)) := ⟨_, rfl⟩
    rw [← hM, ← hmo]
    have hbl := zf0 N n
    have hM53 : M < 2 ^ 53 := by
      rw [hM]
      refine zP.1 ?_
      split at hv <;> omega
    obtain ⟨t, ht⟩ : ∃ t : Nat, (t : Int) = e + n + 1074 := ⟨(e + n + 1074).toNat, by split at hv <;> omega⟩
    have hc : (t = 0 ∨ 2 ^ 52 ≤ M) ∨ mo = false := by
      by_cases h0 : v > 0
      · left
        split at hv
        · left; omega
        · right; rw [hM]; exact ze2.1 (by omega)
      · right
        have hm0 : more = false := by
          cases more with
          | false => rfl
          | true => have := hmore rfl; exfalso; split at hv <;> omega
        have : n = 0 := by omega
        rw [hmo, this, hm0, Nat.pow_zero, Nat.mod_one]
        rfl
    have hsh := hrep.shift hB n
    rw [← hM, ← hmo] at hsh
    have hcan : zlc M t 0 mo A B := by
      refine zlc.cancel (s := s) ?_
      rw [show t + s = p + n by omega]
      exact hsh
    have hround := zCL hB hcan hM53 hc grow
    simp only [zc6]
    rw [zaN hF1]
    simp only [zfc, ziq, zfq]
    rw [zaN hF1]
    simp only [zfF, ziP]
    rw [show M / 2 ^ 64 = 0 by omega, Nat.mod_eq_of_lt (show M < 2 ^ 64 by omega), show e + (n : Int) = (t : Int) - 1074 by omega]
    have go : ∀ (b : Bool), (b = true ↔ mo = true ∧ grow = true) → zd7 O (zcc O k (zbQ O F k)) grow (M : Int) b ((0 : Nat) : Int) (M : Int) ((t : Int) - 1074) mo G = k (fL (zor (ztB A B grow) grow)) G := by
      intro b hbb
      rw [hround]
      simp only [zd7]
      cases b with
      | true =>
        rw [if_pos (hbb.1 rfl), cond_true, show (M : Int) + 1 = ((M + 1 : Nat) : Int) by omega, zu (by omega)]
        exact zAb hF hLen hPw hInf hMo grow (by omega) (by split at hv <;> omega) _ _ _ G k
      | false =>
        rw [if_neg (fun h => by have := hbb.2 h; cases this), cond_false, Nat.add_zero]
        exact zAb hF hLen hPw hInf hMo grow (by omega) (by split at hv <;> omega) _ _ _ G k
    cases mo with
    | true => rw [cond_true]; exact go grow (by simp)
    | false => rw [cond_false]; exact go false (by simp)
  by_cases hcmp : (-1074 : Int) - e > ((zE N : Nat) : Int) - 53
  · rw [decide_eq_true hcmp, cond_true]
    rw [if_pos hcmp] at hv
    rw [← hv]
    exact fin
  · rw [decide_eq_false hcmp, cond_false]
    rw [if_neg hcmp] at hv
    rw [← hv]
    exact fin
theorem zHv {F n : Nat} (hF : 1100 ≤ F) (hn : 3 ≤ n) : zE5 (runC (R := R) Tryz.prog lo0 F n) := by
  obtain ⟨n, rfl⟩ : ∃ j, n = j + 3 := ⟨n - 3, by omega⟩
  intro N p s e more grow A B hN he1 he2 hB hps hrep hmore G k
  unfold V
  rw [zxp, zxT]
  exact zCu hF (zz7 (by omega) (by omega)) (zEY (by omega) (by omega)) (zFk (by omega)) (zH5 (by omega)) (zG7 (by omega)) hN he1 he2 hB hps hrep hmore G k
theorem zF2 {w : Nat} (h : w ≤ 9218868437227405312) : dbl.word true w < 2 ^ 64 := by
  unfold Ieee.Format.word
  rw [zbp]
  simp only [if_true]
  omega
theorem zD8 {w : Nat} {neg : Bool} (h : neg = false) : w = if w = 0 then 0 else dbl.word neg w := by
  subst h
  split
  · assumption
  · rfl
theorem zDZ {O : Ora R} {F : Nat} (h1 : zE5 O) (h2 : zv0 O) {neg : Bool} {N p s : Nat} {e : Int} {more down : Bool} {A B : Nat} (hN : N < 2 ^ 128) (he1 : -20000 ≤ e) (he2 : e ≤ 20000) (hB : 0 < B) (hps : (p : Int) - s = e + 1074) (hrep : zlc N p s more A B) (hmore : more = true → 54 ≤ zE N) (G : GH) (k : IV → GH → Option R) :
    zf Tryz.prog O [3, 777777] F Tryz.f71 [V N e more, .bool neg, .bool down] G k = k (fL (zjH neg (ztB A B (neg == down)) (neg == down))) G := by
  have h1' := h1 N p s e more (neg == down) A B hN he1 he2 hB hps hrep hmore G
  unfold V at h1' ⊢
  rw [zAQ, h1', ivF, zvp]
  have hle := zED (ztB A B (neg == down)) (neg == down)
  generalize zor (ztB A B (neg == down)) (neg == down) = w at hle
  cases neg with
  | false =>
    rw [cond_false, ← zD8 rfl]
  | true =>
    rw [cond_true, show FloatKind.f64.format = dbl from rfl, zCS hle, Option.bind_some]
    by_cases h0 : w = 0
    · rw [if_pos h0, h2 0 (by decide) (by decide), ivF]; rfl
    · rw [if_neg h0]
      have hw : rg dbl (dbl.word true w) = w := znx dbl (by rw [zbp]; omega)
      rw [h2 _ (zF2 hle) (by rw [hw]; exact hle), ivF, hw, if_neg h0]
theorem zI5 {F n : Nat} (hF : 1100 ≤ F) (hn : 4 ≤ n) : zGL (runC (R := R) Tryz.prog lo0 F n) := by
  obtain ⟨n, rfl⟩ : ∃ j, n = j + 4 := ⟨n - 4, by omega⟩
  intro neg N p s e more down A B hN he1 he2 hB hps hrep hmore G k
  have h := zDZ (O := runC (R := R) Tryz.prog lo0 F (n + 3)) (F := F) (zHv hF (by omega)) (zAj (by omega)) (neg := neg) (down := down) hN he1 he2 hB hps hrep hmore G k
  unfold V at h ⊢
  rw [zBo]
  exact h
end
end Go.LI.Film
namespace Go.LI.Film
open Go.Proofs.YtbjcipikclbecaaGreat Go Go.Proofs Go.LI Go.LI.Fl
def zD7 (S : Int) (down : Bool) : Nat := zjH (decide (S < 0)) (ztB S.natAbs 1 (decide (S < 0) == down)) (decide (S < 0) == down)
theorem zGO (x y : Nat) (down : Bool) : zEW x y down = zD7 (sv x + sv y) down := rfl
theorem zFD {n : Bool} {N : Nat} {e : Int} {m : Bool} {S : Int} (h : WOk n N e m S) (down : Bool) : zjH n (ztB S.natAbs 1 (n == down)) (n == down) = zD7 S down := by
  unfold zD7
  by_cases h0 : S = 0
  · rw [h0, show (0 : Int).natAbs = 0 from rfl, zoR, zoR, zmr, zmr]
  · rw [h.hs h0]
theorem zEu (r : Nat) (g : Bool) : ztB (mag dbl r) 1 g = r := by
  unfold ztB
  rw [Nat.div_one, zmn, if_neg]
  · rfl
  · rintro ⟨_, h⟩
    exact h (Nat.mul_one _)
theorem zCT {r : Nat} (h : r ≠ 0) : 0 < mag dbl r := Nat.pos_of_ne_zero fun hc => h ((zaE dbl).1 hc)
theorem zBW {x : Nat} (hx : x < 2 ^ 64) (hf : rg dbl x < 9218868437227405312) (down : Bool) : zD7 (sv x) down = if rg dbl x = 0 then 0 else x := by
  unfold zD7
  have ha : (sv x).natAbs = mag dbl (rg dbl x) := by rw [zgm, zcx]
  rw [ha, zEu, zvp]
  have hn : ∀ g, zor (rg dbl x) g = rg dbl x := fun g => by unfold zor; rw [if_pos hf]
  rw [hn]
  by_cases h0 : rg dbl x = 0
  · rw [if_pos h0, if_pos h0]
  · rw [if_neg h0, if_neg h0]
    have hp := zCT h0
    have hs : decide (sv x < 0) = sg dbl x := by
      rw [zgm]
      unfold sgn
      cases sg dbl x
      · simp only [Bool.false_eq_true, if_false]; exact decide_eq_false (by omega)
      · simp only [if_true]; exact decide_eq_true (by omega)
    rw [hs, zlj dbl (by rw [zbp]; omega)]
theorem zCW {x : Nat} (h : rg dbl x = 0) : sv x = 0 := by
  rw [zgm, h, (zaE dbl).2 rfl]
  unfold sgn
  split <;> rfl
theorem sub_self {x : Nat} (hx : x < 2 ^ 64) : (match dbl.sub x x with | some r => feq .f64 r 0 | none => false) = fin x := by
  unfold fin
  rcases Nat.lt_trichotomy (rg dbl x) 9218868437227405312 with h | h | h
  · obtain ⟨i, m, h1, h2⟩ := zcG h
    have hs : dbl.sub x x = some 0 := by
      unfold Ieee.Format.sub
      rw [h1]
      simp only [Ieee.Datum.opposite, Ieee.Datum.sum, Option.map_some, Ieee.Format.write]
      have ht : Ieee.signed (sg dbl x) m (-1074 + (i : Int) - min (-1074 + (i : Int)) (-1074 + (i : Int))).toNat + Ieee.signed (!(sg dbl x)) m (-1074 + (i : Int) - min (-1074 + (i : Int)) (-1074 + (i : Int))).toNat = 0 := by
        unfold Ieee.signed
        cases sg dbl x <;> simp <;> omega
      rw [ht, if_pos rfl]
      have hb : (sg dbl x && !(sg dbl x)) = false := by cases sg dbl x <;> rfl
      rw [hb]
      rw [zcI dbl (r := 0) (Nat.zero_le _) (by rw [(zaE dbl).2 rfl]; simp)]
      rfl
    rw [hs, decide_eq_true h]
    exact (zmB (x := 0) (by decide) (by decide)).trans (by decide)
  · have hs : dbl.sub x x = none := by
      unfold Ieee.Format.sub
      rw [zeZ hx h]
      simp only [Ieee.Datum.opposite, Ieee.Datum.sum]
      cases sg dbl x <;> rfl
    rw [hs, decide_eq_false (by omega)]
  · have hs : dbl.sub x x = none := by
      unfold Ieee.Format.sub
      have hn : ∃ a b, dbl.read x = .nan a b := by
        unfold Ieee.Format.read
        simp only
        rw [show x % dbl.signWeight = rg dbl x from rfl, zxS, zek, if_neg (by omega), if_neg (by omega), if_neg (by omega)]
        exact ⟨_, _, rfl⟩
      obtain ⟨a, b, hn⟩ := hn
      rw [hn]
      rfl
    rw [hs, decide_eq_false (by omega)]
section
variable {R : Type}
abbrev zwp (O : Ora R) : Prop := ∀ (x : Nat), x < 2 ^ 64 → ∀ (G : GH) (k : IV → GH → Option R), O zt [fL x] G k = k (.bool (fin x)) G
abbrev zDq (O : Ora R) : Prop := ∀ (x : Nat), x < 2 ^ 64 → fin x = true → ∃ N e, FOk (sg dbl x) N e (sv x) ∧ ∀ (G : GH) (k : IV → GH → Option R), O zeh [fL x] G k = k (.tuple [V N e false, .bool (sg dbl x)]) G
abbrev zIm (O : Ora R) : Prop := ∀ (x y : Nat) (down : Bool), x < 2 ^ 64 → y < 2 ^ 64 → ∀ (G : GH) (k : IV → GH → Option R), O zlg [fL x, fL y, .bool down] G k = k (.tuple [fL (if (fin x && fin y) = true then zEW x y down else 0), iL (if (fin x && fin y) = true then 0 else 10)]) G
theorem zzD {F n : Nat} (hn : 1 ≤ n) : zwp (runC (R := R) Tryz.prog lo0 F n) := by
  obtain ⟨n, rfl⟩ : ∃ j, n = j + 1 := ⟨n - 1, by omega⟩
  intro x hx G k
  have h := sub_self hx
  rw [znn, zne, ← h]
  rfl
theorem zCe {O : Ora R} {F : Nat} (hF : 1 ≤ F) (h1 : zEr O) {x : Nat} (hx : x < 2 ^ 64) (hf : fin x = true) : ∃ N e, FOk (sg dbl x) N e (sv x) ∧ ∀ (G : GH) (k : IV → GH → Option R), zf3 O k (zbR O F k) x G = k (.tuple [V N e false, .bool (sg dbl x)]) G := by
  obtain ⟨E, m, hm, hE, hr, q1, q2, q3⟩ := parts hx
  have hf' : rg dbl x < 9218868437227405312 := of_decide_eq_true hf
  have hE2 : E < 2047 := by omega
  have a1 : ziI .u64 (x : Int) 4503599627370495 = (m : Int) := by
    have := zia hx 52 (by omega)
    rw [q1] at this
    exact this
  have a2 : ziI .u64 (zeg .u64 (x : Int) 52) 2047 = (E : Int) := by
    have := zao hx 52
    rw [show (52 : Int) = ((52 : Nat) : Int) from rfl, this]
    have h := zia (a := x / 2 ^ 52) (Nat.lt_of_le_of_lt (Nat.div_le_self _ _) hx) 11 (by omega)
    rw [q2] at h
    exact h
  have a3 : (zeg .u64 (x : Int) 63 != 0) = sg dbl x := by
    rw [show (63 : Int) = ((63 : Nat) : Int) from rfl, zao hx, ibn, q3]
  have hsv : ∀ (q M : Nat), rg dbl x = q * 2 ^ 52 + M → M ≤ 2 ^ 53 → (q = 0 ∨ 2 ^ 52 ≤ M) → sv x = sgn (sg dbl x) (M * 2 ^ q) := by
    intro q M h h' h''
    rw [zgm, h, zdm h' h'']
  have start : ∀ (G : GH) (k : IV → GH → Option R), zf3 O k (zbR O F k) x G = bif decide ((E : Int) > 0) then k (.tuple [.agg [uL 0, uL (orI .u64 (m : Int) 4503599627370496), iL (IntKind.wrap .i64 ((E : Int) - 1075)), .bool false], .bool (sg dbl x)]) G else k (.tuple [.agg [uL 0, uL (m : Int), iL (IntKind.wrap .i64 (1 - 1075)), .bool false], .bool (sg dbl x)]) G := by
    intro G k
    simp only [zf3]
    rw [h1 x, ivU, a1, a2, zF (v := (E : Int)) (by omega) (by omega)]
    simp only [zbR]
    rw [zaN hF]
    simp only [zfe, zip, zhq]
    rw [a3]
  by_cases h0 : E = 0
  · refine ⟨m, -1074, ⟨by omega, by omega, by omega, ?_⟩, fun G k => ?_⟩
    · rw [hsv 0 m (by rw [hr, h0]) (by omega) (.inl rfl), show ((-1074 : Int) + 1074).toNat = 0 from rfl]
    · rw [start, decide_eq_false (by omega), cond_false]
      unfold V
      rw [show m / 2 ^ 64 = 0 by omega, show m % 2 ^ 64 = m by omega]
      rfl
  · refine ⟨2 ^ 52 + m, (E : Int) - 1075, ⟨by omega, by omega, by omega, ?_⟩, fun G k => ?_⟩
    · have hq : ((E : Int) - 1075 + 1074).toNat = E - 1 := by omega
      have hq' : E = E - 1 + 1 := by omega
      rw [hsv (E - 1) (2 ^ 52 + m) (by rw [hr]; conv => lhs; rw [hq', Nat.add_mul, Nat.one_mul, Nat.add_assoc]) (by omega) (.inr (Nat.le_add_right _ _)), hq]
    · rw [start, decide_eq_true (by omega), cond_true, zF (v := (E : Int) - 1075) (by omega) (by omega)]
      have hor : orI .u64 (m : Int) 4503599627370496 = ((2 ^ 52 + m : Nat) : Int) := by
        have := zu5 (a := m) (b := 2 ^ 52) (by omega) (by omega)
        rw [Nat.or_comm, show (2 : Nat) ^ 52 = 1 * 2 ^ 52 from rfl, zvj hm, Nat.one_mul] at this
        exact this
      rw [hor]
      unfold V
      rw [show (2 ^ 52 + m) / 2 ^ 64 = 0 by omega, show (2 ^ 52 + m) % 2 ^ 64 = 2 ^ 52 + m by omega]
      rfl
theorem zEK {F n : Nat} (hF : 1 ≤ F) (hn : 2 ≤ n) : zDq (runC (R := R) Tryz.prog lo0 F n) := by
  obtain ⟨n, rfl⟩ : ∃ j, n = j + 2 := ⟨n - 2, by omega⟩
  intro x hx hf
  obtain ⟨N, e, h1, h2⟩ := zCe (O := runC (R := R) Tryz.prog lo0 F (n + 1)) hF (zBA (by omega)) hx hf
  refine ⟨N, e, h1, fun G k => ?_⟩
  rw [zyk, zxq]
  exact h2 G k
theorem zvD {O : Ora R} (hTo : zGL O) {n : Bool} {N : Nat} {e : Int} {m : Bool} {S : Int} (h : WOk n N e m S) (down : Bool) (G : GH) (k : IV → GH → Option R) :
    O zeT [.agg [uL ((N / 2 ^ 64 : Nat) : Int), uL ((N % 2 ^ 64 : Nat) : Int), iL e, .bool m], .bool n, .bool down] G k = k (fL (zD7 S down)) G := by
  have hr := zFD h down
  obtain ⟨h1, h2, h3, ⟨p, s, h4, h5⟩, h6, h7⟩ := h
  rw [← hr]
  exact hTo n N p s e m down _ 1 h1 h2 h3 (by omega) h4 h5 h6 G k
theorem zAp {O : Ora R} {F : Nat} (hF : 1 ≤ F) (hPl : zzZ O) (hBe : zvR O) (hMi : zv7 O) (hTo : zGL O) {n n2 : Bool} {N M p s V' U : Nat} {e : Int} {more : Bool} (hps : (p : Int) - s = e + 1074) (he1 : -20000 ≤ e) (he2 : e ≤ 20000) (h : N * 2 ^ p = V' * 2 ^ s) (k : zlc M p s more U 1) (hN : 2 ^ 125 ≤ N) (hN2 : N < 2 ^ 126) (hM : M < 2 ^ 126) (hmo : more = true → M < 2 ^ 53) (down : Bool) (G : GH) (K : IV → GH → Option R) :
    zfp O K (zd3 O F K) down n n2 ((N / 2 ^ 64 : Nat) : Int) ((N % 2 ^ 64 : Nat) : Int) e false ((M / 2 ^ 64 : Nat) : Int) ((M % 2 ^ 64 : Nat) : Int) e more G = K (.tuple [fL (zD7 (sgn n V' + sgn n2 U) down), iL 0]) G := by
  simp only [zfp]
  by_cases hs : n = n2
  · subst hs
    have hw := zzG (n := n) hps he1 he2 h k hN hN2 hM
    have hp : ∀ (K : IV → GH → Option R), O zkb [.agg [uL ((N / 2 ^ 64 : Nat) : Int), uL ((N % 2 ^ 64 : Nat) : Int), iL e, .bool false], .agg [uL ((M / 2 ^ 64 : Nat) : Int), uL ((M % 2 ^ 64 : Nat) : Int), iL e, .bool more]] G K = K (V (N + M) e more) G := by
      intro K
      have := hPl N M e e false more (by omega) G K
      rw [Bool.false_or] at this
      exact this
    rw [show (n == n) = true by simp, cond_true, hp, znr, zvD hTo hw, ivF]
  · obtain rfl : n2 = !n := by cases n <;> cases n2 <;> simp_all
    obtain ⟨c1, c2⟩ := zzL (n := n) hps he1 he2 h k hN hN2 hM hmo
    have hm1 : ∀ (hMN : M ≤ N) (K : IV → GH → Option R), O zbi [.agg [uL ((N / 2 ^ 64 : Nat) : Int), uL ((N % 2 ^ 64 : Nat) : Int), iL e, .bool false], .agg [uL ((M / 2 ^ 64 : Nat) : Int), uL ((M % 2 ^ 64 : Nat) : Int), iL e, .bool more]] G K = K (V (N - M) e false) G := fun hMN K => hMi N M e e false more hMN (by omega) G K
    have hm2 : ∀ (hNM : N ≤ M) (K : IV → GH → Option R), O zbi [.agg [uL ((M / 2 ^ 64 : Nat) : Int), uL ((M % 2 ^ 64 : Nat) : Int), iL e, .bool more], .agg [uL ((N / 2 ^ 64 : Nat) : Int), uL ((N % 2 ^ 64 : Nat) : Int), iL e, .bool false]] G K = K (V (M - N) e false) G := fun hNM K => hMi M N e e more false hNM (by omega) G K
    have hbe : ∀ (K : IV → GH → Option R), O ziD [.agg [uL ((N / 2 ^ 64 : Nat) : Int), uL ((N % 2 ^ 64 : Nat) : Int), iL e, .bool false], .agg [uL ((M / 2 ^ 64 : Nat) : Int), uL ((M % 2 ^ 64 : Nat) : Int), iL e, .bool more]] G K = K (.bool (decide (N < M))) G := fun K => hBe N M e e false more G K
    rw [show (n == !n) = false by cases n <;> rfl, cond_false]
    simp only [zd3]
    rw [zaN hF]
    simp only [zg1, zkc]
    have fin : ∀ (b : Bool), (b = true ↔ more = false ∧ N < M) → zfP O K (zdW O F K) down n (!n) b ((N / 2 ^ 64 : Nat) : Int) ((N % 2 ^ 64 : Nat) : Int) e false ((M / 2 ^ 64 : Nat) : Int) ((M % 2 ^ 64 : Nat) : Int) e more G = K (.tuple [fL (zD7 (sgn n V' + sgn (!n) U) down), iL 0]) G := by
      intro b hb
      simp only [zfP]
      cases b with
      | true =>
        obtain ⟨hmf, hlt⟩ := hb.1 rfl
        obtain ⟨_, hw⟩ := c2 (by omega)
        rw [cond_true, hm2 (by omega), znr, zvD hTo hw, ivF]
      | false =>
        have hMN : M ≤ N := by
          cases hmm : more with
          | true => have := hmo hmm; omega
          | false =>
            rcases Nat.lt_or_ge N M with h' | h'
            · have := hb.2 ⟨hmm, h'⟩; cases this
            · exact h'
        rw [cond_false, hm1 hMN, znr]
        simp only [zdW]
        rw [zaN hF]
        simp only [zgN, zky]
        cases hmm : more with
        | true =>
          subst hmm
          have hM53 := hmo rfl
          have hw := c1 (by simp only [if_true]; omega)
          simp only [if_true] at hw
          have h1 : ∀ (K : IV → GH → Option R), O zbi [.agg [uL (((N - M) / 2 ^ 64 : Nat) : Int), uL (((N - M) % 2 ^ 64 : Nat) : Int), iL e, .bool false], .agg [uL 0, uL 1, iL 0, .bool false]] G K = K (V (N - M - 1) e false) G := fun K => hMi (N - M) 1 e 0 false false (by omega) (by omega) G K
          rw [cond_true, h1, znr]
          simp only [zfH]
          rw [zvD hTo hw, ivF]
        | false =>
          subst hmm
          have hw := c1 (by simpa using hMN)
          simp only [Bool.false_eq_true, if_false, Nat.sub_zero] at hw
          rw [cond_false]
          simp only [zfH]
          rw [zvD hTo hw, ivF]
    cases hmm : more with
    | true => subst hmm; rw [Bool.not_true, cond_false]; exact fin false (by simp)
    | false =>
      subst hmm
      rw [Bool.not_false, cond_true, hbe, ivB]
      exact fin _ (by simp)
end
end Go.LI.Film
namespace Go.LI.Film
open Go.Proofs.YtbjcipikclbecaaGreat Go Go.Proofs Go.LI Go.LI.Fl
section
variable {R : Type}
theorem zAo {O : Ora R} {F : Nat} (hF : 1 ≤ F) (hL : zpW O) (hUp : zIj O) (hD : zzE O) (hPl : zzZ O) (hBe : zvR O) (hMi : zv7 O) (hTo : zGL O) {na nb : Bool} {Na Nb : Nat} {ea eb va vb : Int} (ha : FOk na Na ea va) (hb : FOk nb Nb eb vb) (ha0 : Na ≠ 0) (h0 : Nb ≠ 0) (hle : eb + (zE Nb : Nat) ≤ ea + (zE Na : Nat)) (down : Bool) (G : GH) (K : IV → GH → Option R) :
    zfQ O K (zel O F K) down na nb ((Na / 2 ^ 64 : Nat) : Int) ((Na % 2 ^ 64 : Nat) : Int) ea false ((Nb / 2 ^ 64 : Nat) : Int) ((Nb % 2 ^ 64 : Nat) : Int) eb false G = K (.tuple [fL (zD7 (va + vb) down), iL 0]) G := by
  have hb1 : zE Na ≤ 53 := zP.2 ha.hN
  have hb2 : zE Nb ≤ 53 := zP.2 hb.hN
  have hba := (zh3 ha0)
  have hbb := (zh3 h0)
  obtain ⟨h1, h2, h3, h4⟩ := ha
  obtain ⟨k1, k2, k3, k4⟩ := hb
  obtain ⟨j, hj⟩ : ∃ j : Nat, j = 126 - zE Na := ⟨_, rfl⟩
  obtain ⟨pa, hpa⟩ : ∃ pa : Nat, pa = (ea + 1074).toNat := ⟨_, rfl⟩
  obtain ⟨pb, hpb⟩ : ∃ pb : Nat, pb = (eb + 1074).toNat := ⟨_, rfl⟩
  rw [← hpa] at h4
  rw [← hpb] at k4
  have hNj : zE (Na * 2 ^ j) = 126 := by rw [zag ha0]; omega
  have hN1 : 2 ^ 125 ≤ Na * 2 ^ j := ze2.1 (by omega)
  have hN2 : Na * 2 ^ j < 2 ^ 126 := zP.1 (by omega)
  have hV : Na * 2 ^ j * 2 ^ pa = Na * 2 ^ pa * 2 ^ j := Nat.mul_right_comm _ _ _
  have hlen : ∀ (G : GH) (k : IV → GH → Option R), O zK [.agg [uL ((Na / 2 ^ 64 : Nat) : Int), uL ((Na % 2 ^ 64 : Nat) : Int), iL ea, .bool false]] G k = k (iL (zE Na : Nat)) G := fun G k => hL Na ea false (by omega) G k
  have hleft : ∀ (G : GH) (k : IV → GH → Option R), O zhC [.agg [uL ((Na / 2 ^ 64 : Nat) : Int), uL ((Na % 2 ^ 64 : Nat) : Int), iL ea, .bool false], iL (j : Int)] G k = k (V (Na * 2 ^ j) (ea - j) false) G := fun G k => hUp Na j ea false ha0 (by omega) (by omega) (by omega) G k
  simp only [zfQ]
  rw [hlen, ivI, zF (v := 126 - ((zE Na : Nat) : Int)) (by omega) (by omega), show 126 - ((zE Na : Nat) : Int) = (j : Int) by omega, hleft, znr]
  simp only [zel]
  rw [zaN hF]
  simp only [zgU, zj9]
  rw [h4, k4]
  by_cases hc : eb ≥ ea - j
  · obtain ⟨i, hi⟩ : ∃ i : Nat, (i : Int) = eb - (ea - j) := ⟨(eb - (ea - j)).toNat, by omega⟩
    have hMb : zE (Nb * 2 ^ i) ≤ 126 := by rw [zag h0]; omega
    have hM : Nb * 2 ^ i < 2 ^ 126 := zP.1 hMb
    have hrep : zlc (Nb * 2 ^ i) pa j false (Nb * 2 ^ pb) 1 := zja (zz4 (by omega))
    have hlb : ∀ (G : GH) (k : IV → GH → Option R), O zhC [.agg [uL ((Nb / 2 ^ 64 : Nat) : Int), uL ((Nb % 2 ^ 64 : Nat) : Int), iL eb, .bool false], iL (i : Int)] G k = k (V (Nb * 2 ^ i) (ea - j) false) G := fun G k => by
      have := hUp Nb i eb false h0 (by omega) (by omega) (by omega) G k
      rw [show eb - (i : Int) = ea - j by omega] at this
      exact this
    rw [decide_eq_true hc, cond_true, zF (v := eb - (ea - j)) (by omega) (by omega), ← hi, hlb, znr]
    exact zAp (n := na) (n2 := nb) (e := ea - j) hF hPl hBe hMi hTo (by omega) (by omega) (by omega) hV hrep hN1 hN2 hM (fun h => (by cases h)) down G K
  · obtain ⟨i, hi⟩ : ∃ i : Nat, (i : Int) = ea - j - eb := ⟨(ea - j - eb).toNat, by omega⟩
    have hM : Nb / 2 ^ i < 2 ^ 53 := Nat.lt_of_le_of_lt (Nat.div_le_self _ _) k1
    have hrep : zlc (Nb / 2 ^ i) pa j (decide (Nb % 2 ^ i ≠ 0)) (Nb * 2 ^ pb) 1 := zye (by omega)
    have hrb : ∀ (G : GH) (k : IV → GH → Option R), O zcK [.agg [uL ((Nb / 2 ^ 64 : Nat) : Int), uL ((Nb % 2 ^ 64 : Nat) : Int), iL eb, .bool false], iL (i : Int)] G k = k (V (Nb / 2 ^ i) (ea - j) (decide (Nb % 2 ^ i ≠ 0))) G := fun G k => by
      have := hD Nb (i : Int) eb false (by omega) (by omega) (by omega) (by omega) (by omega) G k
      rw [Int.toNat_natCast, Bool.false_or, show eb + (i : Int) = ea - j by omega] at this
      exact this
    rw [decide_eq_false hc, cond_false, zF (v := ea - j - eb) (by omega) (by omega), ← hi, hrb, znr]
    exact zAp (n := na) (n2 := nb) (e := ea - j) hF hPl hBe hMi hTo (by omega) (by omega) (by omega) hV hrep hN1 hN2 (by omega) (fun _ => hM) down G K
theorem zE3 {β : Type} (N : Nat) (e : Int) (m s : Bool) (f : Int → Int → Int → Bool → Bool → Option β) :
    ((zY 2 (.tuple [V N e m, .bool s])).bind fun c6 => (zr 4 (c6.getD 0 za)).bind fun c7 => (zk .u64 (c7.getD 0 za)).bind fun x8 => (zk .u64 (c7.getD 1 za)).bind fun x9 => (zk .i64 (c7.getD 2 za)).bind fun x10 => (zl (c7.getD 3 za)).bind fun x11 => (zl (c6.getD 1 za)).bind fun x12 => f x8 x9 x10 x11 x12) =
      f ((N / 2 ^ 64 : Nat) : Int) ((N % 2 ^ 64 : Nat) : Int) e m s := rfl
theorem zEN {n : Bool} {N x : Nat} {e : Int} (h : FOk n N e (sv x)) (h0 : rg dbl x ≠ 0) : N ≠ 0 := by
  rintro rfl
  have h1 := h.hv
  rw [Nat.zero_mul, zgm] at h1
  have h2 := congrArg Int.natAbs h1
  rw [zcx, zcx] at h2
  have := zCT h0
  omega
theorem zDe {O : Ora R} {F : Nat} (hF : 1 ≤ F) (hNum : zwp O) (hZr : zv0 O) (hPa : zDq O) (hL : zpW O) (hUp : zIj O) (hD : zzE O) (hPl : zzZ O) (hBe : zvR O) (hMi : zv7 O) (hTo : zGL O) {x y : Nat} {down : Bool} (hx : x < 2 ^ 64) (hy : y < 2 ^ 64) (G : GH) (K : IV → GH → Option R) :
    zj5 O K (zec O F K) x y down G = K (.tuple [fL (if (fin x && fin y) = true then zEW x y down else 0), iL (if (fin x && fin y) = true then 0 else 10)]) G := by
  simp only [zj5, zec]
  rw [zaN hF]
  simp only [zgO, zjZ]
  rw [hNum x hx, ivB]
  have bad : zdi O K (zdX O F K) x y down true G = K (.tuple [fL 0, iL 10]) G := by
    simp only [zdi, cond_true]
  by_cases hfx' : fin x = false
  · rw [hfx', Bool.not_false, cond_true, Bool.false_and, if_neg (by simp), if_neg (by simp), bad]
  have hfx : fin x = true := by simpa using hfx'
  rw [hfx, Bool.not_true, cond_false, hNum y hy, ivB, Bool.true_and]
  by_cases hfy' : fin y = false
  · rw [hfy', Bool.not_false, if_neg (by simp), if_neg (by simp), bad]
  have hfy : fin y = true := by simpa using hfy'
  rw [hfy, Bool.not_true, if_pos rfl, if_pos rfl, zGO]
  have lx : rg dbl x < 9218868437227405312 := of_decide_eq_true hfx
  have ly : rg dbl y < 9218868437227405312 := of_decide_eq_true hfy
  simp only [zdi, cond_false]
  rw [zmB hy (Nat.le_of_lt ly)]
  by_cases hy0 : rg dbl y = 0
  · rw [decide_eq_true hy0, cond_true, hZr x hx (Nat.le_of_lt lx), ivF, zCW hy0, Int.add_zero, zBW hx lx]
  rw [decide_eq_false hy0, cond_false, zmB hx (Nat.le_of_lt lx)]
  by_cases hx0 : rg dbl x = 0
  · rw [decide_eq_true hx0, cond_true, zCW hx0, Int.zero_add, zBW hy ly, if_neg hy0]
  rw [decide_eq_false hx0, cond_false]
  obtain ⟨Nx, ex, fx, hpx⟩ := hPa x hx hfx
  obtain ⟨Ny, ey, fy, hpy⟩ := hPa y hy hfy
  have nx := zEN fx hx0
  have ny := zEN fy hy0
  rw [hpx, zE3, hpy, zE3]
  simp only [zdX]
  rw [zaN hF]
  simp only [zgB, zjB]
  have hb1 : zE Nx ≤ 53 := zP.2 fx.hN
  have hb2 : zE Ny ≤ 53 := zP.2 fy.hN
  have x1 := fx.e1
  have x2 := fx.e2
  have y1 := fy.e1
  have y2 := fy.e2
  have hla : ∀ (G : GH) (k : IV → GH → Option R), O zK [.agg [uL ((Nx / 2 ^ 64 : Nat) : Int), uL ((Nx % 2 ^ 64 : Nat) : Int), iL ex, .bool false]] G k = k (iL (zE Nx : Nat)) G := fun G k => hL Nx ex false (by have := fx.hN; omega) G k
  have hlb : ∀ (G : GH) (k : IV → GH → Option R), O zK [.agg [uL ((Ny / 2 ^ 64 : Nat) : Int), uL ((Ny % 2 ^ 64 : Nat) : Int), iL ey, .bool false]] G k = k (iL (zE Ny : Nat)) G := fun G k => hL Ny ey false (by have := fy.hN; omega) G k
  rw [hla, ivI, hlb, ivI, zF (v := ((zE Nx : Nat) : Int) + ex) (by omega) (by omega), zF (v := ((zE Ny : Nat) : Int) + ey) (by omega) (by omega)]
  by_cases hc : ((zE Nx : Nat) : Int) + ex < ((zE Ny : Nat) : Int) + ey
  · rw [decide_eq_true hc, cond_true, zAo hF hL hUp hD hPl hBe hMi hTo fy fx ny nx (by omega), Int.add_comm]
  · rw [decide_eq_false hc, cond_false, zAo hF hL hUp hD hPl hBe hMi hTo fx fy nx ny (by omega)]
theorem zHZ {F n : Nat} (hF : 1100 ≤ F) (hn : 5 ≤ n) : zIm (runC (R := R) Tryz.prog lo0 F n) := by
  obtain ⟨n, rfl⟩ : ∃ j, n = j + 5 := ⟨n - 5, by omega⟩
  intro x y down hx hy G k
  rw [zys, zyB]
  exact zDe (by omega) (zzD (by omega)) (zAj (by omega)) (zEK (by omega) (by omega)) (zz7 (by omega) (by omega)) (zJW (by omega) (by omega)) (zEY (by omega) (by omega)) (zHr (by omega) (by omega)) (zGk (by omega)) (zGe (by omega)) (zI5 hF (by omega)) hx hy G k
end
end Go.LI.Film

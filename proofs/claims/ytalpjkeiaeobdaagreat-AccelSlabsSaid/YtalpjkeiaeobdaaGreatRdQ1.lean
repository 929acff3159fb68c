/- math/bits: Div64. -/
import Derived.Test.YtalpjkeiaeobdaaGreatRdS1
import Derived.Test.YtalpjkeiaeobdaaGreatRdPn
namespace Go.LI.Film
open Go.Proofs.YtalpjkeiaeobdaaGreat Go Go.Proofs Go.LI Go.LI.Fl
set_option linter.unusedVariables false
set_option linter.unusedSimpArgs false
set_option maxRecDepth 100000

/-- What a digit's guess keeps. -/
structure Gs (y1 y0 U u1 q r : Nat) : Prop where
  a1 : 2147483648 ≤ y1
  a2 : y1 < 4294967296
  a3 : y0 < 4294967296
  a4 : U < y1 * 4294967296 + y0
  a5 : u1 < 4294967296
  eq : q * y1 + r = U
  lo : (U * 4294967296 + u1) / (y1 * 4294967296 + y0) ≤ q
  hi : q ≤ 4294967297
theorem Gs.small {y1 y0 U u1 q r : Nat} (g : Gs y1 y0 U u1 q r) : (U * 4294967296 + u1) / (y1 * 4294967296 + y0) < 4294967296 := by
  obtain ⟨a1, a2, a3, a4, a5, _, _, _⟩ := g
  rw [Nat.div_lt_iff_lt_mul (by omega)]
  omega
theorem mulD (q y1 y0 : Nat) : q * (y1 * 4294967296 + y0) = q * y1 * 4294967296 + q * y0 := by
  rw [Nat.mul_add, Nat.mul_assoc]
theorem Gs.step {y1 y0 U u1 q r : Nat} (g : Gs y1 y0 U u1 q r) (hc : 4294967296 ≤ q ∨ 4294967296 * r + u1 < q * y0) : Gs y1 y0 U u1 (q - 1) (r + y1) ∧ 1 ≤ q ∧ (4294967296 ≤ r + y1 → q - 1 = (U * 4294967296 + u1) / (y1 * 4294967296 + y0)) := by
  have hsm := g.small
  obtain ⟨a1, a2, a3, a4, a5, heq, hlo, hhi⟩ := g
  have hlt : (U * 4294967296 + u1) / (y1 * 4294967296 + y0) < q := by
    rcases hc with h | h
    · omega
    · rw [Nat.div_lt_iff_lt_mul (by omega), mulD]
      omega
  have hq1 : 1 ≤ q := Nat.lt_of_le_of_lt (Nat.zero_le _) hlt
  obtain ⟨p, rfl⟩ : ∃ p, q = p + 1 := ⟨q - 1, by omega⟩
  rw [Nat.add_sub_cancel]
  have e : p * y1 + (r + y1) = U := by rw [Nat.add_mul] at heq; omega
  refine ⟨⟨a1, a2, a3, a4, a5, e, Nat.le_of_lt_succ hlt, by omega⟩, by omega, fun hb => ?_⟩
  have h1 : p ≤ (U * 4294967296 + u1) / (y1 * 4294967296 + y0) := by
    rw [Nat.le_div_iff_mul_le (by omega), mulD]
    have h2 : p * y0 ≤ 4294967296 * 4294967295 := Nat.mul_le_mul (by omega) (by omega)
    omega
  exact Nat.le_antisymm h1 (Nat.le_of_lt_succ hlt)
theorem Gs.done {y1 y0 U u1 q r : Nat} (g : Gs y1 y0 U u1 q r) (h2 : ¬ 4294967296 * r + u1 < q * y0) : q = (U * 4294967296 + u1) / (y1 * 4294967296 + y0) := by
  obtain ⟨a1, a2, a3, a4, a5, heq, hlo, hhi⟩ := g
  have h1 : q ≤ (U * 4294967296 + u1) / (y1 * 4294967296 + y0) := by
    rw [Nat.le_div_iff_mul_le (by omega), mulD]
    omega
  omega
theorem Gs.start {y1 y0 U u1 : Nat} (a1 : 2147483648 ≤ y1) (a2 : y1 < 4294967296) (a3 : y0 < 4294967296) (a4 : U < y1 * 4294967296 + y0) (a5 : u1 < 4294967296) : Gs y1 y0 U u1 (U / y1) (U % y1) := by
  refine ⟨a1, a2, a3, a4, a5, by rw [Nat.mul_comm]; exact Nat.div_add_mod U y1, ?_, ?_⟩
  · rw [Nat.le_div_iff_mul_le (by omega)]
    have h := Nat.div_mul_le_self (U * 4294967296 + u1) (y1 * 4294967296 + y0)
    rw [mulD] at h
    generalize (U * 4294967296 + u1) / (y1 * 4294967296 + y0) = t at h
    generalize t * y1 = z at h
    generalize t * y0 = w at h
    omega
  · have : U / y1 < 4294967298 := by
      rw [Nat.div_lt_iff_lt_mul (by omega)]
      omega
    omega

theorem nmul (a b : Nat) : (a : Int) * (b : Int) = ((a * b : Nat) : Int) := (Int.natCast_mul a b).symm
theorem wrapZ (z : Int) : IntKind.wrap .u64 z = z % 18446744073709551616 := by
  have e1 : IntKind.u64.bits = 64 := rfl
  unfold IntKind.wrap
  simp only [IntKind.signed, Bool.false_and, e1]
  simp only [Bool.false_eq_true, if_false]
  rfl

section
variable {R : Type}
theorem div_loop2 {O : Ora R} {F : Nat} (hF : 1 ≤ F) (K0 : Int → Int → Int → Int → Int → Int → Int → Int → GH → Option R) {y1 y0 U u1 : Nat} (s2 s8 s11 s14 : Int) (G : GH) :
    ∀ (m q r n : Nat), Gs y1 y0 U u1 q r → r < 4294967296 → 4294967296 ≤ r + m * 2147483648 → m < n →
      l_bits_Div64_2 O F K0 n s2 s8 (y1 : Int) (y0 : Int) s11 (u1 : Int) s14 (q : Int) (r : Int) G = K0 s2 s8 (y1 : Int) (y0 : Int) s11 (u1 : Int) s14 (((U * 4294967296 + u1) / (y1 * 4294967296 + y0) : Nat) : Int) G := by
  intro m
  induction m with
  | zero => intro q r n g h1 h2; omega
  | succ m ih =>
    intro q r n g h1 h2 hn
    obtain ⟨n, rfl⟩ : ∃ n', n = n' + 1 := ⟨n - 1, by omega⟩
    simp only [l_bits_Div64_2, u_bits_Div64_2, L_bits_Div64_3]
    rw [stepF hF]
    simp only [l_bits_Div64_3, u_bits_Div64_3]
    have a1 := g.a1
    have a2 := g.a2
    have a3 := g.a3
    have a5 := g.a5
    have hstep : (4294967296 ≤ q ∨ 4294967296 * r + u1 < q * y0) → a_bits_Div64_3N O K0 (l_bits_Div64_2 O F K0 n) s2 s8 (y1 : Int) (y0 : Int) s11 (u1 : Int) s14 (q : Int) (r : Int) G = K0 s2 s8 (y1 : Int) (y0 : Int) s11 (u1 : Int) s14 (((U * 4294967296 + u1) / (y1 * 4294967296 + y0) : Nat) : Int) G := by
      intro hc
      obtain ⟨g2, hq, hb⟩ := g.step hc
      have e1 : IntKind.wrap .u64 ((q : Int) - 1) = ((q - 1 : Nat) : Int) := by
        have := g.hi
        rw [show (q : Int) - 1 = ((q - 1 : Nat) : Int) by omega, wrapU_small (by omega)]
      have e2 : IntKind.wrap .u64 ((r : Int) + (y1 : Int)) = ((r + y1 : Nat) : Int) := by
        rw [show (r : Int) + (y1 : Int) = ((r + y1 : Nat) : Int) by omega, wrapU_small (by omega)]
      simp only [a_bits_Div64_3N]
      rw [e1, e2]
      by_cases hge : 4294967296 ≤ r + y1
      · rw [decide_eq_true (by omega), cond_true, hb hge]
      · rw [decide_eq_false (by omega), cond_false]
        exact ih (q - 1) (r + y1) n g2 (by omega) (by omega) (by omega)
    by_cases hq : 4294967296 ≤ q
    · rw [decide_eq_true (by omega), cond_true]
      exact hstep (.inl hq)
    · have hb : q * y0 ≤ 4294967295 * 4294967295 := Nat.mul_le_mul (by omega) (by omega)
      have e1 : IntKind.wrap .u64 ((q : Int) * (y0 : Int)) = ((q * y0 : Nat) : Int) := by rw [nmul, wrapU_small (by omega)]
      have e2 : IntKind.wrap .u64 ((IntKind.wrap .u64 ((4294967296 : Int) * (r : Int))) + (u1 : Int)) = ((4294967296 * r + u1 : Nat) : Int) := by
        rw [show (4294967296 : Int) * (r : Int) = ((4294967296 * r : Nat) : Int) by omega, wrapU_small (by omega), show ((4294967296 * r : Nat) : Int) + (u1 : Int) = ((4294967296 * r + u1 : Nat) : Int) by omega, wrapU_small (by omega)]
      rw [decide_eq_false (by omega), cond_false, e1, e2]
      by_cases hc : 4294967296 * r + u1 < q * y0
      · rw [decide_eq_true (show ((q * y0 : Nat) : Int) > ((4294967296 * r + u1 : Nat) : Int) from Int.ofNat_lt.2 hc), cond_true]
        exact hstep (.inr hc)
      · rw [decide_eq_false (show ¬ ((q * y0 : Nat) : Int) > ((4294967296 * r + u1 : Nat) : Int) from fun h => hc (Int.ofNat_lt.1 h)), cond_false]
        simp only [a_bits_Div64_30]
        rw [← g.done hc]
theorem div_loop4 {O : Ora R} {F : Nat} (hF : 1 ≤ F) (K2 : Int → Int → Int → Int → Int → Int → GH → Option R) {y1 y0 U u1 : Nat} (s2 s8 s15 s17 : Int) (G : GH) :
    ∀ (m q r n : Nat), Gs y1 y0 U u1 q r → r < 4294967296 → 4294967296 ≤ r + m * 2147483648 → m < n →
      l_bits_Div64_4 O F K2 n s2 s8 (y1 : Int) (y0 : Int) (u1 : Int) s15 (r : Int) s17 (q : Int) G = K2 s2 s8 (u1 : Int) s15 s17 (((U * 4294967296 + u1) / (y1 * 4294967296 + y0) : Nat) : Int) G := by
  intro m
  induction m with
  | zero => intro q r n g h1 h2; omega
  | succ m ih =>
    intro q r n g h1 h2 hn
    obtain ⟨n, rfl⟩ : ∃ n', n = n' + 1 := ⟨n - 1, by omega⟩
    simp only [l_bits_Div64_4, u_bits_Div64_4, L_bits_Div64_5]
    rw [stepF hF]
    simp only [l_bits_Div64_5, u_bits_Div64_5]
    have a1 := g.a1
    have a2 := g.a2
    have a3 := g.a3
    have a5 := g.a5
    have hstep : (4294967296 ≤ q ∨ 4294967296 * r + u1 < q * y0) → a_bits_Div64_5N O K2 (l_bits_Div64_4 O F K2 n) s2 s8 (y1 : Int) (y0 : Int) (u1 : Int) s15 (r : Int) s17 (q : Int) G = K2 s2 s8 (u1 : Int) s15 s17 (((U * 4294967296 + u1) / (y1 * 4294967296 + y0) : Nat) : Int) G := by
      intro hc
      obtain ⟨g2, hq, hb⟩ := g.step hc
      have e1 : IntKind.wrap .u64 ((q : Int) - 1) = ((q - 1 : Nat) : Int) := by
        have := g.hi
        rw [show (q : Int) - 1 = ((q - 1 : Nat) : Int) by omega, wrapU_small (by omega)]
      have e2 : IntKind.wrap .u64 ((r : Int) + (y1 : Int)) = ((r + y1 : Nat) : Int) := by
        rw [show (r : Int) + (y1 : Int) = ((r + y1 : Nat) : Int) by omega, wrapU_small (by omega)]
      simp only [a_bits_Div64_5N]
      rw [e1, e2]
      by_cases hge : 4294967296 ≤ r + y1
      · rw [decide_eq_true (by omega), cond_true, hb hge]
      · rw [decide_eq_false (by omega), cond_false]
        exact ih (q - 1) (r + y1) n g2 (by omega) (by omega) (by omega)
    by_cases hq : 4294967296 ≤ q
    · rw [decide_eq_true (by omega), cond_true]
      exact hstep (.inl hq)
    · have hb : q * y0 ≤ 4294967295 * 4294967295 := Nat.mul_le_mul (by omega) (by omega)
      have e1 : IntKind.wrap .u64 ((q : Int) * (y0 : Int)) = ((q * y0 : Nat) : Int) := by rw [nmul, wrapU_small (by omega)]
      have e2 : IntKind.wrap .u64 ((IntKind.wrap .u64 ((4294967296 : Int) * (r : Int))) + (u1 : Int)) = ((4294967296 * r + u1 : Nat) : Int) := by
        rw [show (4294967296 : Int) * (r : Int) = ((4294967296 * r : Nat) : Int) by omega, wrapU_small (by omega), show ((4294967296 * r : Nat) : Int) + (u1 : Int) = ((4294967296 * r + u1 : Nat) : Int) by omega, wrapU_small (by omega)]
      rw [decide_eq_false (by omega), cond_false, e1, e2]
      by_cases hc : 4294967296 * r + u1 < q * y0
      · rw [decide_eq_true (show ((q * y0 : Nat) : Int) > ((4294967296 * r + u1 : Nat) : Int) from Int.ofNat_lt.2 hc), cond_true]
        exact hstep (.inr hc)
      · rw [decide_eq_false (show ¬ ((q * y0 : Nat) : Int) > ((4294967296 * r + u1 : Nat) : Int) from fun h => hc (Int.ofNat_lt.1 h)), cond_false]
        simp only [a_bits_Div64_52]
        rw [← g.done hc]

abbrev SDiv64 (O : Ora R) : Prop := ∀ (hi lo y : Nat), 2 ^ 52 ≤ y → y < 2 ^ 53 → hi < y → lo < 2 ^ 64 → ∀ (G : GH) (k : IV → GH → Option R),
  O fn_bits_Div64 [.int .u64 (hi : Int), .int .u64 (lo : Int), .int .u64 (y : Int)] G k = k (.tuple [.int .u64 (((hi * 2 ^ 64 + lo) / y : Nat) : Int), .int .u64 (((hi * 2 ^ 64 + lo) % y : Nat) : Int)]) G

/-- The guess's start, as the code has it. -/
theorem guess {y1 U : Nat} (h1 : 2147483648 ≤ y1) (hU : U < 2 ^ 64) : IntKind.wrap .u64 (Int.tdiv (U : Int) (y1 : Int)) = ((U / y1 : Nat) : Int) ∧ IntKind.wrap .u64 ((U : Int) - (IntKind.wrap .u64 (((U / y1 : Nat) : Int) * (y1 : Int)))) = ((U % y1 : Nat) : Int) := by
  have h2 : U / y1 ≤ U := Nat.div_le_self _ _
  have h3 := Nat.div_add_mod U y1
  have h4 : U / y1 * y1 ≤ U := Nat.div_mul_le_self U y1
  constructor
  · rw [Int.tdiv_eq_ediv_of_nonneg (by omega), ← Int.natCast_ediv, wrapU_small (by omega)]
  · rw [nmul, wrapU_small (by omega)]
    rw [Nat.mul_comm] at h3
    generalize U / y1 * y1 = z at h3 h4
    generalize U % y1 = w at h3
    rw [show (U : Int) - (z : Int) = (w : Int) by omega, wrapU_small (by omega)]
/-- What is left over, as the code has it. -/
theorem leftover {U u1 D : Nat} (hU : U < D) (hu : u1 < 4294967296) (hD : D < 2 ^ 64) (h0 : 0 < D) : IntKind.wrap .u64 ((IntKind.wrap .u64 ((IntKind.wrap .u64 ((U : Int) * (4294967296 : Int))) + (u1 : Int))) - (IntKind.wrap .u64 ((((U * 4294967296 + u1) / D : Nat) : Int) * (D : Int)))) = (((U * 4294967296 + u1) % D : Nat) : Int) := by
  have h1 := Nat.div_add_mod (U * 4294967296 + u1) D
  have h2 := Nat.mod_lt (U * 4294967296 + u1) h0
  rw [Nat.mul_comm] at h1
  rw [nmul, wrapZ, wrapZ, wrapZ, wrapZ]
  generalize (U * 4294967296 + u1) % D = w at h1 h2
  generalize (U * 4294967296 + u1) / D * D = z at h1
  omega
theorem rem_lt {U u1 D : Nat} (h0 : 0 < D) : (U * 4294967296 + u1) % D < D := Nat.mod_lt _ h0
theorem halve {X Y t : Nat} (k : X * 2048 = Y * 2048 + t) : X = t / 2048 + Y := by omega
/-- Two digits make the quotient. -/
theorem two_digits {hi lo y U a b q r p t : Nat} (hU : U = hi * 2048 + lo / 2 ^ 53) (hab : a * 4294967296 + b = lo * 2048 % 2 ^ 64) (h1 : U * 4294967296 + a = q * (y * 2048) + r) (h2 : r * 4294967296 + b = p * (y * 2048) + t) (ht : t < y * 2048) (hlo : lo < 2 ^ 64) :
    (hi * 2 ^ 64 + lo) / y = q * 4294967296 + p ∧ (hi * 2 ^ 64 + lo) % y = t / 2048 := by
  have e : hi * 2 ^ 64 + lo = t / 2048 + y * (q * 4294967296 + p) := by
    have e1 : y * (q * 4294967296 + p) = q * y * 4294967296 + p * y := by rw [Nat.mul_add, ← Nat.mul_assoc, Nat.mul_comm y q, Nat.mul_comm y p]
    rw [← Nat.mul_assoc] at h1 h2
    rw [e1]
    generalize q * y = A at h1
    generalize p * y = C at h2
    have hv : lo * 2048 = lo / 2 ^ 53 * 18446744073709551616 + lo * 2048 % 2 ^ 64 := by omega
    rw [← hab] at hv
    generalize lo / 2 ^ 53 = u at hv hU
    have k : (hi * 18446744073709551616 + lo) * 2048 = (A * 4294967296 + C) * 2048 + t := by omega
    rw [show (2 : Nat) ^ 64 = 18446744073709551616 from rfl]
    exact halve k
  have hy : t / 2048 < y := by omega
  rw [e, Nat.add_mul_div_left _ _ (by omega), Nat.add_mul_mod_self_left, Nat.div_eq_of_lt hy, Nat.mod_eq_of_lt hy]
  omega

theorem div64_body {O : Ora R} {F : Nat} (hF : 4 ≤ F) (hLz : ∀ (x : Nat), 2 ^ 52 ≤ x → x < 2 ^ 53 → ∀ (G : GH) (k : IV → GH → Option R), O fn_bits_LeadingZeros64 [.int .u64 (x : Int)] G k = k (.int .i64 11) G) {hi lo y : Nat} (y1 : 2 ^ 52 ≤ y) (y2 : y < 2 ^ 53) (hh : hi < y) (hl : lo < 2 ^ 64) (G : GH) (k : IV → GH → Option R) :
    u_bits_Div64 O k (L_bits_Div64_0 O F k) (hi : Int) (lo : Int) (y : Int) G = k (.tuple [.int .u64 (((hi * 2 ^ 64 + lo) / y : Nat) : Int), .int .u64 (((hi * 2 ^ 64 + lo) % y : Nat) : Int)]) G := by
  simp only [u_bits_Div64, L_bits_Div64_0]
  rw [stepF (by omega)]
  simp only [l_bits_Div64_0, u_bits_Div64_0]
  rw [show ((y : Int) == 0) = false by rw [beq_eq_false_iff_ne]; omega, cond_false]
  simp only [a_bits_Div64_0N, L_bits_Div64_1]
  rw [stepF (by omega)]
  simp only [l_bits_Div64_1, u_bits_Div64_1]
  rw [decide_eq_false (by omega), cond_false]
  simp only [a_bits_Div64_1N]
  by_cases h0 : hi = 0
  · subst h0
    rw [show (((0 : Nat) : Int) == 0) = true from rfl, cond_true, show ((y : Int) == 0) = false by rw [beq_eq_false_iff_ne]; omega, cond_false, cond_false, Nat.zero_mul, Nat.zero_add]
    have h3 : lo / y ≤ lo := Nat.div_le_self _ _
    rw [Int.tdiv_eq_ediv_of_nonneg (by omega), ← Int.natCast_ediv, wrapU_small (by omega), Int.tmod_eq_emod_of_nonneg (by omega), ← Int.natCast_emod]
  · rw [show ((hi : Int) == 0) = false by rw [beq_eq_false_iff_ne]; omega, cond_false, hLz y y1 y2, ivI]
    have w11 : IntKind.wrap .u64 (11 : Int) = ((11 : Nat) : Int) := by decide
    have w53 : IntKind.wrap .u64 ((64 : Int) - ((11 : Nat) : Int)) = ((53 : Nat) : Int) := by decide
    rw [w11, w53, decide_eq_false (by omega), decide_eq_false (by omega), cond_false, cond_false, cond_false, cond_false]
    have hy' : shlI .u64 (y : Int) ((11 : Nat) : Int) = ((y * 2048 : Nat) : Int) := by rw [shl_nat, Nat.mod_eq_of_lt (by omega)]
    have hy1 : shrI .u64 ((y * 2048 : Nat) : Int) (32 : Int) = ((y * 2048 / 4294967296 : Nat) : Int) := shr_nat (n := 32) (by omega)
    have hy0 : andI .u64 ((y * 2048 : Nat) : Int) (4294967295 : Int) = ((y * 2048 % 4294967296 : Nat) : Int) := and_low (by omega) 32 (by omega)
    have hU : orI .u64 (shlI .u64 (hi : Int) ((11 : Nat) : Int)) (shrI .u64 (lo : Int) ((53 : Nat) : Int)) = ((hi * 2048 + lo / 2 ^ 53 : Nat) : Int) := by
      rw [shl_nat, Nat.mod_eq_of_lt (by omega), shr_nat hl]
      exact or_nat_add (k := 11) (by omega) (by omega) (by omega)
    have hb : shlI .u64 (lo : Int) ((11 : Nat) : Int) = ((lo * 2048 % 2 ^ 64 : Nat) : Int) := shl_nat lo 11
    have hu1 : shrI .u64 ((lo * 2048 % 2 ^ 64 : Nat) : Int) (32 : Int) = ((lo * 2048 % 2 ^ 64 / 4294967296 : Nat) : Int) := shr_nat (n := 32) (by omega)
    have hu0 : andI .u64 ((lo * 2048 % 2 ^ 64 : Nat) : Int) (4294967295 : Int) = ((lo * 2048 % 2 ^ 64 % 4294967296 : Nat) : Int) := and_low (by omega) 32 (by omega)
    rw [hy', hy1, hy0, hU, hb, hu1, hu0]
    obtain ⟨U, eU⟩ : ∃ U, U = hi * 2048 + lo / 2 ^ 53 := ⟨_, rfl⟩
    obtain ⟨a, ea⟩ : ∃ a, a = lo * 2048 % 2 ^ 64 / 4294967296 := ⟨_, rfl⟩
    obtain ⟨b, eb⟩ : ∃ b, b = lo * 2048 % 2 ^ 64 % 4294967296 := ⟨_, rfl⟩
    obtain ⟨c, ec⟩ : ∃ c, c = y * 2048 / 4294967296 := ⟨_, rfl⟩
    obtain ⟨d, ed⟩ : ∃ d, d = y * 2048 % 4294967296 := ⟨_, rfl⟩
    have hD : y * 2048 = c * 4294967296 + d := by omega
    have hUD : U < y * 2048 := by omega
    have hc1 : 2147483648 ≤ c := by omega
    have hc2 : c < 4294967296 := by omega
    rw [← eU, ← ea, ← eb, ← ec, ← ed]
    obtain ⟨g1, g2⟩ := guess hc1 (U := U) (by omega)
    rw [show ((c : Int) == 0) = false by rw [beq_eq_false_iff_ne]; omega, cond_false, g1, g2]
    simp only [L_bits_Div64_2]
    have hm1 : U % c < c := Nat.mod_lt _ (by omega)
    rw [div_loop2 (by omega) _ _ _ _ _ G 2 (U / c) (U % c) F (Gs.start hc1 hc2 (by omega) (by omega) (by omega)) (by omega) (by omega) (by omega)]
    simp only [a_bits_Div64_20]
    rw [← hD]
    rw [show ((c : Int) == 0) = false by rw [beq_eq_false_iff_ne]; omega, cond_false, leftover hUD (by omega) (by omega) (by omega)]
    have hrl := rem_lt (U := U) (u1 := a) (D := y * 2048) (by omega)
    have hdm1 := Nat.div_add_mod (U * 4294967296 + a) (y * 2048)
    obtain ⟨q, hq⟩ : ∃ q, q = (U * 4294967296 + a) / (y * 2048) := ⟨_, rfl⟩
    obtain ⟨r, hr⟩ : ∃ r, r = (U * 4294967296 + a) % (y * 2048) := ⟨_, rfl⟩
    rw [← hq, ← hr] at hdm1
    rw [← hr] at hrl
    rw [← hq, ← hr]
    obtain ⟨g3, g4⟩ := guess hc1 (U := r) (by omega)
    rw [g3, g4]
    simp only [L_bits_Div64_4]
    have hm2 : r % c < c := Nat.mod_lt _ (by omega)
    rw [div_loop4 (by omega) _ _ _ _ _ G 2 (r / c) (r % c) F (Gs.start hc1 hc2 (by omega) (by omega) (by omega)) (by omega) (by omega) (by omega)]
    simp only [a_bits_Div64_42]
    rw [← hD, decide_eq_false (by omega), cond_false, leftover hrl (by omega) (by omega) (by omega)]
    have hrl2 := rem_lt (U := r) (u1 := b) (D := y * 2048) (by omega)
    have hdm2 := Nat.div_add_mod (r * 4294967296 + b) (y * 2048)
    have hqs : q < 4294967296 := by
      have := (Gs.start hc1 hc2 (U := U) (u1 := a) (y0 := d) (by omega) (by omega) (by omega)).small
      rw [← hD, ← hq] at this
      exact this
    have hps : (r * 4294967296 + b) / (y * 2048) < 4294967296 := by
      have := (Gs.start hc1 hc2 (U := r) (u1 := b) (y0 := d) (by omega) (by omega) (by omega)).small
      rwa [← hD] at this
    obtain ⟨p, hp⟩ : ∃ p, p = (r * 4294967296 + b) / (y * 2048) := ⟨_, rfl⟩
    obtain ⟨t, ht⟩ : ∃ t, t = (r * 4294967296 + b) % (y * 2048) := ⟨_, rfl⟩
    rw [← hp, ← ht] at hdm2
    rw [← hp] at hps
    rw [← ht] at hrl2
    rw [← hp, ← ht]
    obtain ⟨z1, z2⟩ := two_digits (hi := hi) (lo := lo) (y := y) (U := U) (a := a) (b := b) (q := q) (r := r) (p := p) (t := t) eU (by omega) (by rw [Nat.mul_comm q]; omega) (by rw [Nat.mul_comm p]; omega) hrl2 hl
    rw [z1, z2, show (q : Int) * (4294967296 : Int) = ((q * 4294967296 : Nat) : Int) by omega, wrapU_small (by omega), show ((q * 4294967296 : Nat) : Int) + (p : Int) = ((q * 4294967296 + p : Nat) : Int) by omega, wrapU_small (by omega), shr_nat (by omega)]
theorem wDiv64 {F n : Nat} (hF : 4 ≤ F) (hn : 3 ≤ n) : SDiv64 (runC (R := R) Tryz.prog lo0 F n) := by
  obtain ⟨n, rfl⟩ : ∃ j, n = j + 3 := ⟨n - 3, by omega⟩
  intro hi lo y y1 y2 hh hl G k
  have hLz : ∀ (x : Nat), 2 ^ 52 ≤ x → x < 2 ^ 53 → ∀ (G : GH) (k : IV → GH → Option R), runC (R := R) Tryz.prog lo0 F (n + 2) fn_bits_LeadingZeros64 [.int .u64 (x : Int)] G k = k (.int .i64 11) G := by
    intro x h1 h2 G k
    rw [r_bits_LeadingZeros64, e_bits_LeadingZeros64, wLen64 (by omega) (by omega) x (by omega), ivI, blen_of (k := 52) h1 h2]
    rfl
  have h := div64_body (O := runC (R := R) Tryz.prog lo0 F (n + 2)) (F := F) hF hLz y1 y2 hh hl G k
  rw [r_bits_Div64, e_bits_Div64]
  exact h
end
end Go.LI.Film

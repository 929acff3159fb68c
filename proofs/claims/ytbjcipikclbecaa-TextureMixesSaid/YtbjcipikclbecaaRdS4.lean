/- Package math: Ldexp. -/
import Derived.Test.YtbjcipikclbecaaRdS3
import Derived.Test.YtbjcipikclbecaaRdL
namespace Go.LI.Film
open Go.Proofs.Ytbjcipikclbecaa Go Go.Proofs Go.LI Go.LI.Fl
set_option linter.unusedVariables false
set_option linter.unusedSimpArgs false
set_option maxRecDepth 100000
section
variable {R : Type}
abbrev SNormal (O : Ora R) : Prop := ∀ (x : Nat), x < 2 ^ 63 → 2 ^ 52 ≤ x → x < 9218868437227405312 → ∀ (G : GH) (k : IV → GH → Option R), O fn_math_normalize [.float .f64 x] G k = k (.tuple [.float .f64 x, .int .i64 0]) G
/-- m times 2 to the e. -/
abbrev SLdexp (O : Ora R) : Prop := ∀ (m t : Nat), m ≤ 2 ^ 53 → t ≤ 100000 → ∀ (G : GH) (k : IV → GH → Option R),
  O fn_math_Ldexp [.float .f64 (FloatKind.nearest .f64 (m : Int)), .int .i64 ((t : Int) - 1074)] G k = k (.float .f64 (min (floorR (m * 2 ^ t)) 9218868437227405312)) G

abbrev Sldexp' (O : Ora R) : Prop := ∀ (m t : Nat), m ≤ 2 ^ 53 → t ≤ 100000 → ∀ (G : GH) (k : IV → GH → Option R),
  O fn_math_ldexp [.float .f64 (FloatKind.nearest .f64 (m : Int)), .int .i64 ((t : Int) - 1074)] G k = k (.float .f64 (min (floorR (m * 2 ^ t)) 9218868437227405312)) G

theorem pairFI {β : Type} (x : Nat) (n : Int) (f : Nat → Int → Option β) : ((ivTup 2 (.tuple [.float .f64 x, .int .i64 n])).bind fun c => (ivFloat .f64 (c.getD 0 undefI)).bind fun a => (ivInt .i64 (c.getD 1 undefI)).bind fun b => f a b) = f x n := rfl

theorem wNormal {F n : Nat} (hn : 3 ≤ n) : SNormal (runC (R := R) Try.prog lo0 F n) := by
  obtain ⟨n, rfl⟩ : ∃ j, n = j + 3 := ⟨n - 3, by omega⟩
  intro x hx h1 h2 G k
  have hr := rg_small hx
  rw [r_math_normalize, e_math_normalize, wAbs (by omega) x (by omega), ivF, hr.1]
  obtain ⟨n1, s1⟩ := num_small (r := x) (by omega)
  obtain ⟨n2, s2⟩ := num_small (r := 4503599627370496) (by decide)
  have := mag_le (r := 4503599627370496) (s := x) h1
  rw [flt_sv n1 n2, s1, s2, decide_eq_false (by omega), cond_false]

theorem and_natI {a b : Nat} (ha : a < 2 ^ 63) (hb : b < 2 ^ 63) : andI .i64 (a : Int) (b : Int) = ((a &&& b : Nat) : Int) := by
  have e1 : IntKind.i64.bits = 64 := rfl
  unfold andI
  rw [e1, BitVec.toNat_and, bv_nat (by omega), bv_nat (by omega)]
  have : a &&& b ≤ a := Nat.and_le_left
  exact wrapI (by omega) (by omega)

theorem ldexp_end {O : Ora R} {F : Nat} (hF : 1 ≤ F) (hfrom : SFrom O) {m t f : Nat} (h0 : m ≠ 0) (hf1 : 2 ^ 52 ≤ f) (hf2 : f < 2 ^ 53) (hf : f * 2 ^ blen m = m * 2 ^ 53) (hb1 : 1 ≤ blen m) (hbt : blen m + t ≤ 2098) {x : Nat} (hx : x < 2 ^ 63) (hxf : x % 2 ^ 52 = f - 2 ^ 52) (G : GH) (k : IV → GH → Option R) :
    L_math_ldexp_1 O F k ((t : Int) - 1074 + (blen m : Nat) - 1) (x : Int) 4607182418800017408 G = k (.float .f64 (floorR (m * 2 ^ t))) G := by
  simp only [L_math_ldexp_1]
  rw [stepF hF]
  simp only [l_math_ldexp_1, u_math_ldexp_1]
  have word : ∀ (E : Nat), 1 ≤ E → E ≤ 2046 → orI .u64 (notI .u64 (x : Int) 9218868437227405312) (shlI .u64 (IntKind.wrap .u64 (IntKind.wrap .i64 ((E : Int) - 1023 + 1023))) 52) = (((E - 1) * 2 ^ 52 + f : Nat) : Int) := by
    intro E hE1 hE2
    rw [not_mid hx, hxf, show (E : Int) - 1023 + 1023 = (E : Int) by omega, wrapI (by omega) (by omega), wrapU_small (by omega), show (52 : Int) = ((52 : Nat) : Int) from rfl, shl_nat, Nat.mod_eq_of_lt (show E * 2 ^ 52 < 2 ^ 64 by omega),
      or_nat (by omega) (by omega)]
    have h : (f - 2 ^ 52) ||| (E * 2 ^ 52) = (E - 1) * 2 ^ 52 + f := by
      rw [Nat.or_comm, or_add (by omega)]; omega
    rw [h]
  by_cases hs : (t : Int) - 1074 + (blen m : Nat) - 1 < -1022
  · rw [decide_eq_true hs, cond_true]
    simp only [a_math_ldexp_1N]
    have hlt : m * 2 ^ t < 2 ^ 52 := blen_lt.1 (by rw [blen_mul_pow h0]; omega)
    rw [wrapI (v := (t : Int) - 1074 + (blen m : Nat) - 1 + 53) (by omega) (by omega), show (t : Int) - 1074 + (blen m : Nat) - 1 + 53 = ((t + blen m + 1 : Nat) : Int) - 1023 by omega, word _ (by omega) (by omega), hfrom, ivF]
    have hr : floorR (m * 2 ^ t) = m * 2 ^ t := floorR_small (by omega)
    rw [show FloatKind.f64.format = dbl from rfl, hr, mul_small hf1 hf2 (by omega) hlt (by rw [pow_swap (t := t + 53) hf (q := t + blen m + 1 - 1) (by omega), Nat.pow_add, ← Nat.mul_assoc]), Option.bind_some]
  · rw [decide_eq_false hs, cond_false]
    simp only [a_math_ldexp_1N]
    rw [show (t : Int) - 1074 + (blen m : Nat) - 1 = ((t + blen m - 52 : Nat) : Int) - 1023 by omega, word _ (by omega) (by omega), hfrom, ivF]
    have hr : floorR (m * 2 ^ t) = (t + blen m - 53) * 2 ^ 52 + f := rung_normal hf1 hf2 hf (by omega)
    rw [show FloatKind.f64.format = dbl from rfl, show t + blen m - 52 - 1 = t + blen m - 53 by omega, ← hr, mul_one_word (floorR_inf.2 (by rw [blen_mul_pow h0]; exact hbt)), Option.bind_some]

theorem ldexp_body {O : Ora R} {F : Nat} (hF : 1 ≤ F) (hI : SIsInf O) (hN : SIsNaN O) (hM : SNormal O) (hB : SBits O) (hFr : SFrom O) (hT : SInf O) {m t : Nat} (hm : m ≤ 2 ^ 53) (ht : t ≤ 100000) (G : GH) (k : IV → GH → Option R) :
    u_math_ldexp O k (L_math_ldexp_0 O F k) (FloatKind.nearest .f64 (m : Int)) ((t : Int) - 1074) G = k (.float .f64 (min (floorR (m * 2 ^ t)) 9218868437227405312)) G := by
  obtain ⟨K, hK⟩ : ∃ K : Nat, K = 1074 := ⟨_, rfl⟩
  obtain ⟨w1, w2⟩ := nat_word' (m := m) (q := K) hm hK
  rw [w1]
  have hxs := rg_small (r := floorR (m * 2 ^ K)) (by omega)
  simp only [u_math_ldexp]
  rw [feq_zero (by omega) (by rw [hxs.1]; omega), hxs.1]
  by_cases h0 : m = 0
  · subst h0
    rw [Nat.zero_mul, Nat.zero_mul, floorR_small (by decide), decide_eq_true rfl, cond_true, Nat.min_eq_left (by omega)]
  · obtain ⟨f, hf1, hf2, hf, hb2, hb1⟩ := digits53 h0 hm
    have hx : floorR (m * 2 ^ K) = (K + blen m - 53) * 2 ^ 52 + f := rung_normal hf1 hf2 hf (by omega)
    have hx2 : (K + blen m - 53) * 2 ^ 52 + f < 9218868437227405312 := by omega
    rw [hx]
    have hr := rg_small (r := (K + blen m - 53) * 2 ^ 52 + f) (by omega)
    rw [decide_eq_false (by omega), cond_false]
    simp only [L_math_ldexp_0]
    rw [stepF hF]
    simp only [l_math_ldexp_0, u_math_ldexp_0]
    rw [hI _ (by omega), ivB, hr.1, decide_eq_false (by omega), cond_false, hN _ (by omega), ivB, hr.1, decide_eq_false (by omega)]
    simp only [a_math_ldexp_0N, cond_false]
    rw [hM _ (by omega) (by omega) hx2, pairFI, hB, ivU]
    have he : IntKind.wrap .i64 ((t : Int) - 1074 + 0) = (t : Int) - 1074 := by rw [wrapI (by omega) (by omega)]; omega
    have hsh : shrI .u64 (((K + blen m - 53) * 2 ^ 52 + f : Nat) : Int) 52 = ((K + blen m - 52 : Nat) : Int) := by
      rw [show (52 : Int) = ((52 : Nat) : Int) from rfl, shr_nat (by omega)]
      congr 1
      omega
    have hand : andI .i64 ((K + blen m - 52 : Nat) : Int) 2047 = ((K + blen m - 52 : Nat) : Int) := by
      rw [show (2047 : Int) = ((2047 : Nat) : Int) from rfl, and_natI (by omega) (by omega)]
      congr 1
      rw [show (2047 : Nat) = 2 ^ 11 - 1 from rfl, Nat.and_two_pow_sub_one_eq_mod]
      omega
    rw [he, hsh, wrapI (v := ((K + blen m - 52 : Nat) : Int)) (by omega) (by omega), hand, wrapI (v := ((K + blen m - 52 : Nat) : Int) - 1023) (by omega) (by omega), wrapI (v := (t : Int) - 1074 + (((K + blen m - 52 : Nat) : Int) - 1023)) (by omega) (by omega)]
    have hexp : (t : Int) - 1074 + (((K + blen m - 52 : Nat) : Int) - 1023) = (t : Int) - 1074 + (blen m : Nat) - 1 := by omega
    rw [hexp, decide_eq_false (by omega), cond_false, min_inf, blen_mul_pow h0]
    by_cases hbig : blen m + t ≤ 2098
    · rw [if_pos hbig, decide_eq_false (by omega), cond_false, ldexp_end hF hFr h0 hf1 hf2 hf hb1 hbig (by omega) (by omega)]
    · rw [if_neg hbig, decide_eq_true (by omega), cond_true]
      obtain ⟨n1, s1⟩ := num_small (r := (K + blen m - 53) * 2 ^ 52 + f) (by omega)
      obtain ⟨n2, s2⟩ := num_small (r := 0) (by decide)
      rw [flt_sv n1 n2, s1, s2, decide_eq_false (by have := mag_le (r := 0) (s := (K + blen m - 53) * 2 ^ 52 + f) (by omega); omega), cond_false]
      rw [(hT G _).1, ivF]

theorem wldexp' {F n : Nat} (hF : 1 ≤ F) (hn : 5 ≤ n) : Sldexp' (runC (R := R) Try.prog lo0 F n) := by
  obtain ⟨n, rfl⟩ : ∃ j, n = j + 5 := ⟨n - 5, by omega⟩
  intro m t hm ht G k
  rw [r_math_ldexp, e_math_ldexp]
  obtain ⟨F, rfl⟩ : ∃ F', F = F' + 1 := ⟨F - 1, by omega⟩
  exact ldexp_body hF (wIsInf hF (by omega)) (wIsNaN (by omega)) (wNormal (by omega)) (wBits (by omega)) (wFrom (by omega)) (wInf (by omega)) hm ht G k

theorem wLdexp {F n : Nat} (hF : 1 ≤ F) (hn : 6 ≤ n) : SLdexp (runC (R := R) Try.prog lo0 F n) := by
  obtain ⟨n, rfl⟩ : ∃ j, n = j + 6 := ⟨n - 6, by omega⟩
  intro m t hm ht G k
  rw [r_math_Ldexp, e_math_Ldexp, wldexp' hF (by omega) m t hm ht, ivF]
end
end Go.LI.Film

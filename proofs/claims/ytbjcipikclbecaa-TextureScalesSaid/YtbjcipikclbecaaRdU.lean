/- Sums of numbers of 128 bits. -/
import Derived.Test.YtbjcipikclbecaaRdT
set_option linter.unusedVariables false
set_option maxRecDepth 100000
namespace Go.LI.Fl
open Go Go.LI Ieee

/-- A word's parts. -/
structure FOk (neg : Bool) (N : Nat) (e : Int) (v : Int) : Prop where
  hN : N < 2 ^ 53
  e1 : -1074 ≤ e
  e2 : e ≤ 971
  hv : v = sgn neg (N * 2 ^ (e + 1074).toNat)
/-- A number of 128 bits that stands for S. -/
structure WOk (neg : Bool) (N : Nat) (e : Int) (more : Bool) (S : Int) : Prop where
  hN : N < 2 ^ 128
  e1 : -20000 ≤ e
  e2 : e ≤ 20000
  rep : ∃ p s : Nat, (p : Int) - s = e + 1074 ∧ RepN N p s more S.natAbs 1
  hm : more = true → 54 ≤ blen N
  hs : S ≠ 0 → neg = decide (S < 0)

theorem sgn_abs (s : Bool) (M : Nat) : (sgn s M).natAbs = M := by
  unfold sgn; cases s <;> simp
theorem rep_exact {N p s V : Nat} (h : N * 2 ^ p = V * 2 ^ s) : RepN N p s false V 1 := by
  refine ⟨by rw [Nat.mul_one, h]; exact Nat.le_refl _, ?_, ?_⟩
  · rw [Nat.mul_one, ← h]; exact Nat.mul_lt_mul_of_pos_right (by omega) (Nat.two_pow_pos p)
  · rw [Nat.mul_one, h]; simp

theorem rep_add {N M p s V U : Nat} {more : Bool} (h : N * 2 ^ p = V * 2 ^ s) (k : RepN M p s more U 1) : RepN (N + M) p s more (V + U) 1 := by
  obtain ⟨k1, k2, k3⟩ := k
  rw [Nat.mul_one] at k1 k2 k3
  refine ⟨?_, ?_, ?_⟩
  · rw [Nat.mul_one, Nat.add_mul, Nat.add_mul, h]; omega
  · rw [Nat.mul_one, Nat.add_assoc, Nat.add_mul N, Nat.add_mul V, h]; omega
  · rw [Nat.mul_one, Nat.add_mul, Nat.add_mul, h, k3]; omega
theorem rep_sub {N M p s V U : Nat} {more : Bool} (h : N * 2 ^ p = V * 2 ^ s) (k : RepN M p s more U 1) (hd : M + (if more = true then 1 else 0) ≤ N) : U ≤ V ∧ RepN (N - M - (if more = true then 1 else 0)) p s more (V - U) 1 := by
  obtain ⟨k1, k2, k3⟩ := k
  rw [Nat.mul_one] at k1 k2 k3
  have hp := Nat.two_pow_pos p
  have hle : U * 2 ^ s ≤ V * 2 ^ s := by
    rw [← h]
    cases more with
    | false =>
      have : ¬ (M * 2 ^ p ≠ U * 2 ^ s) := fun hh => by have := k3.2 hh; cases this
      have he : M * 2 ^ p = U * 2 ^ s := by omega
      rw [← he]; exact Nat.mul_le_mul_right _ (by simpa using hd)
    | true =>
      have := Nat.mul_le_mul_right (2 ^ p) (show M + 1 ≤ N by simpa using hd)
      omega
  have hUV : U ≤ V := Nat.le_of_mul_le_mul_right hle (Nat.two_pow_pos s)
  refine ⟨hUV, ?_⟩
  have hVU : (V - U) * 2 ^ s = V * 2 ^ s - U * 2 ^ s := Nat.sub_mul _ _ _
  cases more with
  | false =>
    have : ¬ (M * 2 ^ p ≠ U * 2 ^ s) := fun hh => by have := k3.2 hh; cases this
    refine rep_exact ?_
    simp only [Bool.false_eq_true, if_false, Nat.sub_zero]
    rw [hVU, Nat.sub_mul, h]
    omega
  | true =>
    have hne := k3.1 rfl
    simp only [if_true] at hd ⊢
    have e1 : (N - M - 1) * 2 ^ p = N * 2 ^ p - M * 2 ^ p - 2 ^ p := by rw [Nat.sub_mul, Nat.sub_mul, Nat.one_mul]
    have e2 : (N - M - 1 + 1) * 2 ^ p = N * 2 ^ p - M * 2 ^ p := by rw [show N - M - 1 + 1 = N - M by omega, Nat.sub_mul]
    have e3 := Nat.mul_le_mul_right (2 ^ p) hd
    rw [Nat.add_mul, Nat.one_mul] at e3 k2
    refine ⟨?_, ?_, ?_⟩
    · rw [Nat.mul_one, e1, hVU]; omega
    · rw [Nat.mul_one, e2, hVU]; omega
    · rw [Nat.mul_one, e1, hVU]
      exact ⟨fun _ => by omega, fun _ => rfl⟩
theorem rep_rev {N M p s V U : Nat} (h : N * 2 ^ p = V * 2 ^ s) (k : RepN M p s false U 1) (hd : N < M) : V < U ∧ RepN (M - N) p s false (U - V) 1 := by
  obtain ⟨k1, k2, k3⟩ := k
  rw [Nat.mul_one] at k1 k2 k3
  have : ¬ (M * 2 ^ p ≠ U * 2 ^ s) := fun hh => by have := k3.2 hh; cases this
  have he : M * 2 ^ p = U * 2 ^ s := by omega
  have hlt : V * 2 ^ s < U * 2 ^ s := by rw [← h, ← he]; exact Nat.mul_lt_mul_of_pos_right hd (Nat.two_pow_pos p)
  refine ⟨Nat.lt_of_mul_lt_mul_right hlt, rep_exact ?_⟩
  rw [Nat.sub_mul, Nat.sub_mul, h, he]

theorem pow_comm {N i p q s : Nat} (h : i + p = q + s) : N * 2 ^ i * 2 ^ p = N * 2 ^ q * 2 ^ s := by
  rw [Nat.mul_assoc, Nat.mul_assoc, ← Nat.pow_add, ← Nat.pow_add, h]

/-- The lesser one, laid beside the greater. -/
theorem lay_right {Nb pb j pa s : Nat} (h : pb + s + j = pa) : RepN (Nb / 2 ^ j) pa s (decide (Nb % 2 ^ j ≠ 0)) (Nb * 2 ^ pb) 1 := by
  have h0 : RepN Nb (pb + s) s false (Nb * 2 ^ pb) 1 := rep_exact (by rw [Nat.pow_add, Nat.mul_assoc])
  have := h0.shift (by decide) j
  rw [h, Bool.false_or] at this
  exact this

/-- The sum's word when the signs are alike. -/
theorem sum_same {n : Bool} {N M p s V U : Nat} {e : Int} {more : Bool} (hps : (p : Int) - s = e + 1074) (he1 : -20000 ≤ e) (he2 : e ≤ 20000) (h : N * 2 ^ p = V * 2 ^ s) (k : RepN M p s more U 1) (hN : 2 ^ 125 ≤ N) (hN2 : N < 2 ^ 126) (hM : M < 2 ^ 126) :
    WOk n (N + M) e more (sgn n V + sgn n U) := by
  have hS : sgn n V + sgn n U = sgn n (V + U) := by unfold sgn; cases n <;> simp <;> omega
  have hr := rep_add h k
  refine ⟨by omega, he1, he2, ⟨p, s, hps, by rw [hS, sgn_abs]; exact hr⟩, fun _ => ?_, fun h0 => ?_⟩
  · have := blen_ge.2 (show 2 ^ 125 ≤ N + M by omega); omega
  · rw [hS] at h0 ⊢
    unfold sgn at h0 ⊢
    cases n
    · simp only [Bool.false_eq_true, if_false] at h0 ⊢; exact (decide_eq_false (by omega)).symm
    · simp only [if_true] at h0 ⊢; exact (decide_eq_true (by omega)).symm
theorem sum_diff {n : Bool} {N M p s V U : Nat} {e : Int} {more : Bool} (hps : (p : Int) - s = e + 1074) (he1 : -20000 ≤ e) (he2 : e ≤ 20000) (h : N * 2 ^ p = V * 2 ^ s) (k : RepN M p s more U 1) (hN : 2 ^ 125 ≤ N) (hN2 : N < 2 ^ 126) (hM : M < 2 ^ 126) (hmo : more = true → M < 2 ^ 53) :
    (M + (if more = true then 1 else 0) ≤ N → WOk n (N - M - (if more = true then 1 else 0)) e more (sgn n V + sgn (!n) U)) ∧ (N < M + (if more = true then 1 else 0) → more = false ∧ WOk (!n) (M - N) e false (sgn n V + sgn (!n) U)) := by
  constructor
  · intro hd
    obtain ⟨hUV, hr⟩ := rep_sub h k hd
    have hS : sgn n V + sgn (!n) U = sgn n (V - U) := by unfold sgn; cases n <;> simp <;> omega
    refine ⟨by omega, he1, he2, ⟨p, s, hps, by rw [hS, sgn_abs]; exact hr⟩, fun hm => ?_, fun h0 => ?_⟩
    · have := hmo hm
      rw [if_pos hm]
      have := blen_ge.2 (show 2 ^ 54 ≤ N - M - 1 by omega)
      omega
    · rw [hS] at h0 ⊢
      unfold sgn at h0 ⊢
      cases n
      · simp only [Bool.false_eq_true, if_false] at h0 ⊢; exact (decide_eq_false (by omega)).symm
      · simp only [if_true] at h0 ⊢; exact (decide_eq_true (by omega)).symm
  · intro hd
    have hmf : more = false := by
      cases more with
      | false => rfl
      | true => have := hmo rfl; simp only [if_true] at hd; omega
    subst hmf
    refine ⟨rfl, ?_⟩
    have hd' : N < M := by simpa using hd
    obtain ⟨hVU, hr⟩ := rep_rev h k hd'
    have hS : sgn n V + sgn (!n) U = sgn (!n) (U - V) := by unfold sgn; cases n <;> simp <;> omega
    refine ⟨by omega, he1, he2, ⟨p, s, hps, by rw [hS, sgn_abs]; exact hr⟩, fun hm => (by cases hm), fun h0 => ?_⟩
    rw [hS] at h0 ⊢
    unfold sgn at h0 ⊢
    cases n
    · simp only [Bool.not_false, if_true] at h0 ⊢; exact (decide_eq_true (by omega)).symm
    · simp only [Bool.not_true, Bool.false_eq_true, if_false] at h0 ⊢; exact (decide_eq_false (by omega)).symm

/-- 128 bits are added and taken away in two steps. -/
theorem add128 {N M : Nat} (h : N + M < 2 ^ 128) :
    (N % 2 ^ 64 + M % 2 ^ 64 + 0) % 2 ^ 64 = (N + M) % 2 ^ 64 ∧ (N / 2 ^ 64 + M / 2 ^ 64 + (N % 2 ^ 64 + M % 2 ^ 64 + 0) / 2 ^ 64) % 2 ^ 64 = (N + M) / 2 ^ 64 := by omega
end Go.LI.Fl

/- Package round: sums. -/
import Derived.Test.YtbjcipikclbecaaRdS5
import Derived.Test.YtbjcipikclbecaaRdU
namespace Go.LI.Film
open Go.Proofs.Ytbjcipikclbecaa Go Go.Proofs Go.LI Go.LI.Fl
set_option linter.unusedVariables false
set_option linter.unusedSimpArgs false
set_option maxRecDepth 100000
section
variable {R : Type}
abbrev SAdd64 (O : Ora R) : Prop := ∀ (x y c : Nat), c ≤ 1 → ∀ (G : GH) (k : IV → GH → Option R), O fn_bits_Add64 [.int .u64 (x : Int), .int .u64 (y : Int), .int .u64 (c : Int)] G k = k (.tuple [.int .u64 (((x + y + c) % 2 ^ 64 : Nat) : Int), .int .u64 (((x + y + c) / 2 ^ 64 : Nat) : Int)]) G
abbrev SSub64 (O : Ora R) : Prop := ∀ (x y c : Nat), c ≤ 1 → ∀ (G : GH) (k : IV → GH → Option R), O fn_bits_Sub64 [.int .u64 (x : Int), .int .u64 (y : Int), .int .u64 (c : Int)] G k = k (.tuple [.int .u64 (((x + 2 ^ 64 - y - c) % 2 ^ 64 : Nat) : Int), .int .u64 (((if x < y + c then 1 else 0) : Nat) : Int)]) G
abbrev SSum (O : Ora R) : Prop := ∀ (na nb : Bool) (Na Nb : Nat) (ea eb va vb : Int), FOk na Na ea va → FOk nb Nb eb vb → ∃ n N e m, WOk n N e m (va + vb) ∧ ∀ (G : GH) (k : IV → GH → Option R), O fn_round_sum [W na Na ea false, W nb Nb eb false] G k = k (W n N e m) G

theorem add64_raw {F n : Nat} (x y c : Nat) (G : GH) (k : IV → GH → Option R) : runC (R := R) Try.prog lo0 F (n + 1) fn_bits_Add64 [.int .u64 (x : Int), .int .u64 (y : Int), .int .u64 (c : Int)] G k =
    if c > 1 then none else k (.tuple [.int .u64 (((x + y + c) % 2 ^ 64 : Nat) : Int), .int .u64 (((x + y + c) / 2 ^ 64 : Nat) : Int)]) G := by kernel_rfl
theorem sub64_raw {F n : Nat} (x y c : Nat) (G : GH) (k : IV → GH → Option R) : runC (R := R) Try.prog lo0 F (n + 1) fn_bits_Sub64 [.int .u64 (x : Int), .int .u64 (y : Int), .int .u64 (c : Int)] G k =
    if c > 1 then none else k (.tuple [.int .u64 (((x + 2 ^ 64 - y - c) % 2 ^ 64 : Nat) : Int), .int .u64 (((if x < y + c then 1 else 0) : Nat) : Int)]) G := by kernel_rfl
theorem wAdd64 {F n : Nat} (hn : 1 ≤ n) : SAdd64 (runC (R := R) Try.prog lo0 F n) := by
  obtain ⟨n, rfl⟩ : ∃ j, n = j + 1 := ⟨n - 1, by omega⟩
  intro x y c hc G k
  rw [add64_raw, if_neg (by omega)]
theorem wSub64 {F n : Nat} (hn : 1 ≤ n) : SSub64 (runC (R := R) Try.prog lo0 F n) := by
  obtain ⟨n, rfl⟩ : ∃ j, n = j + 1 := ⟨n - 1, by omega⟩
  intro x y c hc G k
  rw [sub64_raw, if_neg (by omega)]
theorem pairUU {β : Type} (x y : Int) (f : Int → Int → Option β) : ((ivTup 2 (.tuple [.int .u64 x, .int .u64 y])).bind fun c => (ivInt .u64 (c.getD 0 undefI)).bind fun a => (ivInt .u64 (c.getD 1 undefI)).bind fun b => f a b) = f x y := rfl

/-- What an operation with a word does. -/
theorem sum_end {O : Ora R} {F : Nat} (hF : 1 ≤ F) (hA : SAdd64 O) (hSb : SSub64 O) {n n2 : Bool} {N M p s V U : Nat} {e eb : Int} {more : Bool} (hps : (p : Int) - s = e + 1074) (he1 : -20000 ≤ e) (he2 : e ≤ 20000) (h : N * 2 ^ p = V * 2 ^ s) (k : RepN M p s more U 1) (hN : 2 ^ 125 ≤ N) (hN2 : N < 2 ^ 126) (hM : M < 2 ^ 126) (hmo : more = true → M < 2 ^ 53) (b20 : Bool) (b21 b22 b23 : Int) (b24 : Bool) :
    ∃ n' N' m', WOk n' N' e m' (sgn n V + sgn n2 U) ∧ ∀ (G : GH) (K : IV → GH → Option R),
      a_round_sum_2N O K (L_round_sum_3 O F K) n ((N / 2 ^ 64 : Nat) : Int) ((N % 2 ^ 64 : Nat) : Int) e false n2 ((M / 2 ^ 64 : Nat) : Int) ((M % 2 ^ 64 : Nat) : Int) eb more b20 b21 b22 b23 b24 G = K (W n' N' e m') G := by
  by_cases hs : n = n2
  · subst hs
    refine ⟨n, N + M, more, sum_same hps he1 he2 h k hN hN2 hM, fun G K => ?_⟩
    obtain ⟨q1, q2⟩ := add128 (N := N) (M := M) (by omega)
    simp only [a_round_sum_2N]
    have h01 : (N % 2 ^ 64 + M % 2 ^ 64 + 0) / 2 ^ 64 ≤ 1 := by omega
    rw [show (n == n) = true by simp, cond_true, show (0 : Int) = ((0 : Nat) : Int) from rfl, hA _ _ _ (by omega), pairUU, hA _ _ _ h01, pairUU, q1, q2]
    rfl
  · obtain rfl : n2 = !n := by cases n <;> cases n2 <;> simp_all
    obtain ⟨c1, c2⟩ := sum_diff (n := n) hps he1 he2 h k hN hN2 hM hmo
    obtain ⟨c, hc⟩ : ∃ c : Nat, c = if more = true then 1 else 0 := ⟨_, rfl⟩
    rw [← hc] at c1 c2
    have hc1 : c ≤ 1 := by rw [hc]; split <;> omega
    have step : ∀ (G : GH) (K : IV → GH → Option R), a_round_sum_2N O K (L_round_sum_3 O F K) n ((N / 2 ^ 64 : Nat) : Int) ((N % 2 ^ 64 : Nat) : Int) e false (!n) ((M / 2 ^ 64 : Nat) : Int) ((M % 2 ^ 64 : Nat) : Int) eb more b20 b21 b22 b23 b24 G =
        a_round_sum_3N O K (c : Int) n ((N / 2 ^ 64 : Nat) : Int) ((N % 2 ^ 64 : Nat) : Int) e false (!n) ((M / 2 ^ 64 : Nat) : Int) ((M % 2 ^ 64 : Nat) : Int) eb more b20 b21 b22 b23 b24 G := by
      intro G K
      simp only [a_round_sum_2N]
      rw [show (n == !n) = false by cases n <;> rfl, cond_false]
      simp only [L_round_sum_3]
      rw [stepF hF]
      simp only [l_round_sum_3, u_round_sum_3]
      cases more with
      | true => rw [cond_true, hc]; rfl
      | false => rw [cond_false, hc]; rfl
    have hb1 : (if N % 2 ^ 64 < M % 2 ^ 64 + c then 1 else 0) ≤ 1 := by split <;> omega
    by_cases hd : M + c ≤ N
    · refine ⟨n, N - M - c, more, c1 hd, fun G K => ?_⟩
      rw [step]
      simp only [a_round_sum_3N]
      rw [hSb _ _ _ hc1, pairUU, hSb _ _ _ hb1, pairUU]
      have q0 : (if N / 2 ^ 64 < M / 2 ^ 64 + (if N % 2 ^ 64 < M % 2 ^ 64 + c then 1 else 0) then 1 else 0) = 0 := by
        rw [if_neg]
        split <;> omega
      have q1 : (N % 2 ^ 64 + 2 ^ 64 - M % 2 ^ 64 - c) % 2 ^ 64 = (N - M - c) % 2 ^ 64 := by omega
      have q2 : (N / 2 ^ 64 + 2 ^ 64 - M / 2 ^ 64 - (if N % 2 ^ 64 < M % 2 ^ 64 + c then 1 else 0)) % 2 ^ 64 = (N - M - c) / 2 ^ 64 := by split <;> omega
      rw [q0, q1, q2, show (((0 : Nat) : Int) != 0) = false from rfl, cond_false]
      rfl
    · obtain ⟨hmf, hw⟩ := c2 (by omega)
      subst hmf
      have hc0 : c = 0 := by rw [hc]; rfl
      subst hc0
      refine ⟨!n, M - N, false, hw, fun G K => ?_⟩
      rw [step]
      simp only [a_round_sum_3N]
      rw [hSb _ _ _ hc1, pairUU, hSb _ _ _ hb1, pairUU]
      have q0 : (if N / 2 ^ 64 < M / 2 ^ 64 + (if N % 2 ^ 64 < M % 2 ^ 64 + 0 then 1 else 0) then 1 else 0) = 1 := by
        rw [if_pos]
        split <;> omega
      obtain ⟨X, hX⟩ : ∃ X, X = (N % 2 ^ 64 + 2 ^ 64 - M % 2 ^ 64 - 0) % 2 ^ 64 := ⟨_, rfl⟩
      obtain ⟨Y, hY⟩ : ∃ Y, Y = (N / 2 ^ 64 + 2 ^ 64 - M / 2 ^ 64 - (if N % 2 ^ 64 < M % 2 ^ 64 + 0 then 1 else 0)) % 2 ^ 64 := ⟨_, rfl⟩
      have hb2 : (if 0 < X + 0 then 1 else 0) ≤ 1 := by split <;> omega
      have q1 : (0 + 2 ^ 64 - X - 0) % 2 ^ 64 = (M - N) % 2 ^ 64 := by rw [hX]; omega
      have q2 : (0 + 2 ^ 64 - Y - (if 0 < X + 0 then 1 else 0)) % 2 ^ 64 = (M - N) / 2 ^ 64 := by
        rw [hY, hX]; split <;> split <;> omega
      rw [q0, ← hX, ← hY, show (((1 : Nat) : Int) != 0) = true from rfl, cond_true, show (0 : Int) = ((0 : Nat) : Int) from rfl, hSb 0 X 0 (by omega), pairUU, hSb 0 Y _ hb2, pairUU, q1, q2]
      rfl
end
end Go.LI.Film

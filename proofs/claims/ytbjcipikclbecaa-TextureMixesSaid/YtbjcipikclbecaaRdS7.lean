/- Package round: sums, whole. -/
import Derived.Test.YtbjcipikclbecaaRdS6
namespace Go.LI.Film
open Go.Proofs.Ytbjcipikclbecaa Go Go.Proofs Go.LI Go.LI.Fl
set_option linter.unusedVariables false
set_option linter.unusedSimpArgs false
set_option maxRecDepth 100000
section
variable {R : Type}

theorem fok_rep {n : Bool} {N : Nat} {e v : Int} (h : FOk n N e v) : WOk n N e false v := by
  obtain ⟨h1, h2, h3, h4⟩ := h
  refine ⟨by omega, by omega, by omega, ⟨(e + 1074).toNat, 0, by omega, ?_⟩, fun hm => (by cases hm), fun h0 => ?_⟩
  · rw [h4, sgn_abs]
    exact rep_exact (by rw [Nat.pow_zero, Nat.mul_one])
  · rw [h4] at h0 ⊢
    unfold sgn at h0 ⊢
    cases n
    · simp only [Bool.false_eq_true, if_false] at h0 ⊢; exact (decide_eq_false (by omega)).symm
    · simp only [if_true] at h0 ⊢; exact (decide_eq_true (by omega)).symm

/-- The sum when the greater one stands first. -/
theorem sum_ord {O : Ora R} {F : Nat} (hF : 1 ≤ F) (hZ : SZero O) (hL : SLength O) (hLe : SLeft O) (hR : SRight O) (hA : SAdd64 O) (hSb : SSub64 O) {na nb : Bool} {Na Nb : Nat} {ea eb va vb : Int} (ha : FOk na Na ea va) (hb : FOk nb Nb eb vb) (ho : Nb = 0 ∨ (Na ≠ 0 ∧ eb + (blen Nb : Nat) ≤ ea + (blen Na : Nat))) (b20 : Bool) (b21 b22 b23 : Int) (b24 : Bool) :
    ∃ n N e m, WOk n N e m (va + vb) ∧ ∀ (G : GH) (k : IV → GH → Option R),
      a_round_sum_0N O k (L_round_sum_2 O F k) na ((Na / 2 ^ 64 : Nat) : Int) ((Na % 2 ^ 64 : Nat) : Int) ea false nb ((Nb / 2 ^ 64 : Nat) : Int) ((Nb % 2 ^ 64 : Nat) : Int) eb false b20 b21 b22 b23 b24 G = k (W n N e m) G := by
  have hzb : ∀ (G : GH) (k : IV → GH → Option R), O fn_round_exact_zero [.agg [.bool nb, .int .u64 ((Nb / 2 ^ 64 : Nat) : Int), .int .u64 ((Nb % 2 ^ 64 : Nat) : Int), .int .i64 eb, .bool false]] G k = k (.bool (decide (Nb = 0))) G := fun G k => hZ nb Nb eb false G k
  by_cases h0 : Nb = 0
  · refine ⟨na, Na, ea, false, ?_, fun G k => ?_⟩
    · have : vb = 0 := by rw [hb.hv, h0, Nat.zero_mul]; unfold sgn; split <;> rfl
      rw [this, Int.add_zero]
      exact fok_rep ha
    · simp only [a_round_sum_0N]
      rw [hzb, ivB, decide_eq_true h0, cond_true]
      rfl
  obtain ⟨ha0, hle⟩ := ho.resolve_left h0
  have hb1 : blen Na ≤ 53 := blen_lt.2 ha.hN
  have hb2 : blen Nb ≤ 53 := blen_lt.2 hb.hN
  have hba := (blen_pos ha0)
  have hbb := (blen_pos h0)
  obtain ⟨h1, h2, h3, h4⟩ := ha
  obtain ⟨k1, k2, k3, k4⟩ := hb
  obtain ⟨j, hj⟩ : ∃ j : Nat, j = 126 - blen Na := ⟨_, rfl⟩
  obtain ⟨pa, hpa⟩ : ∃ pa : Nat, pa = (ea + 1074).toNat := ⟨_, rfl⟩
  obtain ⟨pb, hpb⟩ : ∃ pb : Nat, pb = (eb + 1074).toNat := ⟨_, rfl⟩
  rw [← hpa] at h4
  rw [← hpb] at k4
  have hNj : blen (Na * 2 ^ j) = 126 := by rw [blen_mul_pow ha0]; omega
  have hN1 : 2 ^ 125 ≤ Na * 2 ^ j := blen_ge.1 (by omega)
  have hN2 : Na * 2 ^ j < 2 ^ 126 := blen_lt.1 (by omega)
  have hV : Na * 2 ^ j * 2 ^ pa = Na * 2 ^ pa * 2 ^ j := Nat.mul_right_comm _ _ _
  have hlen : ∀ (G : GH) (k : IV → GH → Option R), O fn_round_exact_length [.agg [.bool na, .int .u64 ((Na / 2 ^ 64 : Nat) : Int), .int .u64 ((Na % 2 ^ 64 : Nat) : Int), .int .i64 ea, .bool false]] G k = k (.int .i64 (blen Na : Nat)) G := fun G k => hL na Na ea false (by omega) G k
  have hleft : ∀ (G : GH) (k : IV → GH → Option R), O fn_round_exact_left [.agg [.bool na, .int .u64 ((Na / 2 ^ 64 : Nat) : Int), .int .u64 ((Na % 2 ^ 64 : Nat) : Int), .int .i64 ea, .bool false], .int .i64 (j : Int)] G k = k (W na (Na * 2 ^ j) (ea - j) false) G := fun G k => hLe na Na j ea false ha0 (by omega) (by omega) (by omega) G k
  have start : ∀ (G : GH) (k : IV → GH → Option R), a_round_sum_0N O k (L_round_sum_2 O F k) na ((Na / 2 ^ 64 : Nat) : Int) ((Na % 2 ^ 64 : Nat) : Int) ea false nb ((Nb / 2 ^ 64 : Nat) : Int) ((Nb % 2 ^ 64 : Nat) : Int) eb false b20 b21 b22 b23 b24 G =
      u_round_sum_2 O (a_round_sum_2N O k (L_round_sum_3 O F k)) na ((Na * 2 ^ j / 2 ^ 64 : Nat) : Int) ((Na * 2 ^ j % 2 ^ 64 : Nat) : Int) (ea - j) false nb ((Nb / 2 ^ 64 : Nat) : Int) ((Nb % 2 ^ 64 : Nat) : Int) eb false b20 b21 b22 b23 b24 G := by
    intro G k
    simp only [a_round_sum_0N]
    rw [hzb, ivB, decide_eq_false h0, cond_false, hlen, ivI, wrapI (v := 126 - ((blen Na : Nat) : Int)) (by omega) (by omega), show 126 - ((blen Na : Nat) : Int) = (j : Int) by omega, hleft, W_open]
    simp only [L_round_sum_2]
    rw [stepF hF]
    simp only [l_round_sum_2]
  by_cases hc : eb > ea - j
  · obtain ⟨i, hi⟩ : ∃ i : Nat, (i : Int) = eb - (ea - j) := ⟨(eb - (ea - j)).toNat, by omega⟩
    have hMb : blen (Nb * 2 ^ i) ≤ 126 := by rw [blen_mul_pow h0]; omega
    have hM : Nb * 2 ^ i < 2 ^ 126 := blen_lt.1 hMb
    have hrep : RepN (Nb * 2 ^ i) pa j false (Nb * 2 ^ pb) 1 := rep_exact (pow_comm (by omega))
    obtain ⟨n', N', m', hw, hend⟩ := sum_end (n := na) (n2 := nb) (e := ea - j) (eb := eb - i) hF hA hSb (by omega) (by omega) (by omega) hV hrep hN1 hN2 hM (fun h => (by cases h)) b20 b21 b22 b23 b24
    refine ⟨n', N', ea - j, m', by rw [h4, k4]; exact hw, fun G k => ?_⟩
    rw [start]
    simp only [u_round_sum_2]
    have hlb : ∀ (G : GH) (k : IV → GH → Option R), O fn_round_exact_left [.agg [.bool nb, .int .u64 ((Nb / 2 ^ 64 : Nat) : Int), .int .u64 ((Nb % 2 ^ 64 : Nat) : Int), .int .i64 eb, .bool false], .int .i64 (i : Int)] G k = k (W nb (Nb * 2 ^ i) (eb - i) false) G := fun G k => hLe nb Nb i eb false h0 (by omega) (by omega) (by omega) G k
    rw [decide_eq_true hc, cond_true, wrapI (v := eb - (ea - j)) (by omega) (by omega), ← hi, hlb, W_open]
    exact hend G k
  · obtain ⟨i, hi⟩ : ∃ i : Nat, (i : Int) = ea - j - eb := ⟨(ea - j - eb).toNat, by omega⟩
    have hM : Nb / 2 ^ i < 2 ^ 53 := Nat.lt_of_le_of_lt (Nat.div_le_self _ _) k1
    have hrep : RepN (Nb / 2 ^ i) pa j (decide (Nb % 2 ^ i ≠ 0)) (Nb * 2 ^ pb) 1 := lay_right (by omega)
    obtain ⟨n', N', m', hw, hend⟩ := sum_end (n := na) (n2 := nb) (e := ea - j) (eb := eb + i) hF hA hSb (by omega) (by omega) (by omega) hV hrep hN1 hN2 (by omega) (fun _ => hM) b20 b21 b22 b23 b24
    refine ⟨n', N', ea - j, m', by rw [h4, k4]; exact hw, fun G k => ?_⟩
    rw [start]
    simp only [u_round_sum_2]
    have hrb : ∀ (G : GH) (k : IV → GH → Option R), O fn_round_exact_right [.agg [.bool nb, .int .u64 ((Nb / 2 ^ 64 : Nat) : Int), .int .u64 ((Nb % 2 ^ 64 : Nat) : Int), .int .i64 eb, .bool false], .int .i64 (i : Int)] G k = k (W nb (Nb / 2 ^ i) (eb + i) (decide (Nb % 2 ^ i ≠ 0))) G := fun G k => by
      have := hR nb Nb (i : Int) eb false (by omega) (by omega) (by omega) (by omega) (by omega) G k
      rw [Int.toNat_natCast, Bool.false_or] at this
      exact this
    rw [decide_eq_false hc, cond_false, wrapI (v := ea - j - eb) (by omega) (by omega), ← hi, hrb, W_open]
    exact hend G k

theorem sum_body {O : Ora R} {F : Nat} (hF : 1 ≤ F) (hZ : SZero O) (hL : SLength O) (hLe : SLeft O) (hR : SRight O) (hA : SAdd64 O) (hSb : SSub64 O) {na nb : Bool} {Na Nb : Nat} {ea eb va vb : Int} (ha : FOk na Na ea va) (hb : FOk nb Nb eb vb) :
    ∃ n N e m, WOk n N e m (va + vb) ∧ ∀ (G : GH) (k : IV → GH → Option R),
      u_round_sum O k (L_round_sum_0 O F k) na ((Na / 2 ^ 64 : Nat) : Int) ((Na % 2 ^ 64 : Nat) : Int) ea false nb ((Nb / 2 ^ 64 : Nat) : Int) ((Nb % 2 ^ 64 : Nat) : Int) eb false G = k (W n N e m) G := by
  have hza : ∀ (G : GH) (k : IV → GH → Option R), O fn_round_exact_zero [.agg [.bool na, .int .u64 ((Na / 2 ^ 64 : Nat) : Int), .int .u64 ((Na % 2 ^ 64 : Nat) : Int), .int .i64 ea, .bool false]] G k = k (.bool (decide (Na = 0))) G := fun G k => hZ na Na ea false G k
  have hzb : ∀ (G : GH) (k : IV → GH → Option R), O fn_round_exact_zero [.agg [.bool nb, .int .u64 ((Nb / 2 ^ 64 : Nat) : Int), .int .u64 ((Nb % 2 ^ 64 : Nat) : Int), .int .i64 eb, .bool false]] G k = k (.bool (decide (Nb = 0))) G := fun G k => hZ nb Nb eb false G k
  have hla : ∀ (G : GH) (k : IV → GH → Option R), O fn_round_exact_length [.agg [.bool na, .int .u64 ((Na / 2 ^ 64 : Nat) : Int), .int .u64 ((Na % 2 ^ 64 : Nat) : Int), .int .i64 ea, .bool false]] G k = k (.int .i64 (blen Na : Nat)) G := fun G k => hL na Na ea false (by have := ha.hN; omega) G k
  have hlb : ∀ (G : GH) (k : IV → GH → Option R), O fn_round_exact_length [.agg [.bool nb, .int .u64 ((Nb / 2 ^ 64 : Nat) : Int), .int .u64 ((Nb % 2 ^ 64 : Nat) : Int), .int .i64 eb, .bool false]] G k = k (.int .i64 (blen Nb : Nat)) G := fun G k => hL nb Nb eb false (by have := hb.hN; omega) G k
  have hb1 : blen Na ≤ 53 := blen_lt.2 ha.hN
  have hb2 : blen Nb ≤ 53 := blen_lt.2 hb.hN
  obtain ⟨sw, hsw⟩ : ∃ sw : Bool, sw = if Na = 0 then true else if Nb ≠ 0 then decide (ea + ((blen Na : Nat) : Int) < eb + ((blen Nb : Nat) : Int)) else false := ⟨_, rfl⟩
  have start : ∀ (G : GH) (k : IV → GH → Option R), u_round_sum O k (L_round_sum_0 O F k) na ((Na / 2 ^ 64 : Nat) : Int) ((Na % 2 ^ 64 : Nat) : Int) ea false nb ((Nb / 2 ^ 64 : Nat) : Int) ((Nb % 2 ^ 64 : Nat) : Int) eb false G =
      a_round_sum_1N O (a_round_sum_0N O k (L_round_sum_2 O F k)) sw na ((Na / 2 ^ 64 : Nat) : Int) ((Na % 2 ^ 64 : Nat) : Int) ea false nb ((Nb / 2 ^ 64 : Nat) : Int) ((Nb % 2 ^ 64 : Nat) : Int) eb false false 0 0 0 false G := by
    intro G k
    simp only [u_round_sum, L_round_sum_0]
    rw [stepF hF]
    simp only [l_round_sum_0, u_round_sum_0, L_round_sum_1]
    rw [stepF hF]
    simp only [l_round_sum_1, u_round_sum_1]
    rw [hza, ivB]
    by_cases h1 : Na = 0
    · rw [decide_eq_true h1, cond_true, hsw, if_pos h1]
    · rw [decide_eq_false h1, cond_false, hzb, ivB]
      by_cases h2 : Nb = 0
      · rw [decide_eq_true h2, Bool.not_true, cond_false, hsw, if_neg h1, if_neg (by simpa using h2)]
      · rw [decide_eq_false h2, Bool.not_false, cond_true, hla, ivI, hlb, ivI, wrapI (v := ea + ((blen Na : Nat) : Int)) (by have := ha.e1; have := ha.e2; omega) (by have := ha.e1; have := ha.e2; omega), wrapI (v := eb + ((blen Nb : Nat) : Int)) (by have := hb.e1; have := hb.e2; omega) (by have := hb.e1; have := hb.e2; omega), hsw, if_neg h1, if_pos h2]
  by_cases hs : sw = true
  · have ho : Na = 0 ∨ (Nb ≠ 0 ∧ ea + ((blen Na : Nat) : Int) ≤ eb + ((blen Nb : Nat) : Int)) := by
      rw [hs] at hsw
      by_cases h1 : Na = 0
      · exact .inl h1
      · rw [if_neg h1] at hsw
        by_cases h2 : Nb = 0
        · rw [if_neg (by simpa using h2)] at hsw; cases hsw
        · rw [if_pos h2] at hsw
          have := of_decide_eq_true hsw.symm
          exact .inr ⟨h2, by omega⟩
    obtain ⟨n, N, e, m, hw, hend⟩ := sum_ord (F := F) hF hZ hL hLe hR hA hSb hb ha ho false 0 0 0 false
    refine ⟨n, N, e, m, by rw [Int.add_comm]; exact hw, fun G k => ?_⟩
    rw [start]
    simp only [a_round_sum_1N]
    rw [hs, cond_true]
    exact hend G k
  · have hs' : sw = false := by simpa using hs
    have ho : Nb = 0 ∨ (Na ≠ 0 ∧ eb + ((blen Nb : Nat) : Int) ≤ ea + ((blen Na : Nat) : Int)) := by
      rw [hs'] at hsw
      by_cases h1 : Na = 0
      · rw [if_pos h1] at hsw; cases hsw
      · rw [if_neg h1] at hsw
        by_cases h2 : Nb = 0
        · exact .inl h2
        · rw [if_pos h2] at hsw
          have := of_decide_eq_false hsw.symm
          exact .inr ⟨h1, by omega⟩
    obtain ⟨n, N, e, m, hw, hend⟩ := sum_ord (F := F) hF hZ hL hLe hR hA hSb ha hb ho false 0 0 0 false
    refine ⟨n, N, e, m, hw, fun G k => ?_⟩
    rw [start]
    simp only [a_round_sum_1N]
    rw [hs', cond_false]
    exact hend G k

theorem wSum {F n : Nat} (hF : 1 ≤ F) (hn : 4 ≤ n) : SSum (runC (R := R) Try.prog lo0 F n) := by
  obtain ⟨n, rfl⟩ : ∃ j, n = j + 4 := ⟨n - 4, by omega⟩
  intro na nb Na Nb ea eb va vb ha hb
  obtain ⟨n', N, e, m, hw, h⟩ := sum_body (O := runC (R := R) Try.prog lo0 F (n + 3)) hF (wZero (by omega)) (wLength hF (by omega)) (wLeft hF (by omega)) (wRight hF (by omega)) (wAdd64 (by omega)) (wSub64 (by omega)) ha hb
  refine ⟨n', N, e, m, hw, fun G k => ?_⟩
  unfold W
  rw [r_round_sum, e_round_sum]
  exact h G k
end
end Go.LI.Film

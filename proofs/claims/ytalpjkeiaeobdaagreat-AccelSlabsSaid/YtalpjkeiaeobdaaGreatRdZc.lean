/- ref02.Div. -/
import Derived.Test.YtalpjkeiaeobdaaGreatRdZb
import Derived.Test.YtalpjkeiaeobdaaGreatHpA
namespace Go.LI.Film
open Go.Proofs.YtalpjkeiaeobdaaGreat Go Go.Proofs Go.LI Go.LI.Fl
set_option linter.unusedVariables false
set_option linter.unusedSimpArgs false
set_option maxRecDepth 100000
section
variable {R : Type}
theorem rquo_step {O : Ora R} {F : Nat} (hF : 1 ≤ F) (hD : SRDiv O) (K0 : Nat → Nat → Nat → Nat → Nat → Nat → Nat → Nat → GH → Option R) {G : GH} {q p : Nat} {xs ys : List IV} {e1 e2 : Nat} (hx : G[q]? = some ⟨xs, e1, 1⟩) (hy : G[p]? = some ⟨ys, e2, 1⟩) {x y lo hi : Nat} {i : Nat} (hi4 : i < 4) (hxi : xs[i]? = some (.float .f64 x)) (hyi : ys[i]? = some (.float .f64 y)) (x64 : x < 2 ^ 64) (y64 : y < 2 ^ 64) (hlo : clean lo) (hhi : clean hi) (j : Nat) (b0 b1 c0 c1 d0 d1 : Nat) :
    l_ref02_Div_1 O F K0 (j + 1) lo hi (some ⟨q, 0⟩) 4 (some ⟨p, 0⟩) 4 (i : Int) b0 b1 c0 c1 d0 d1 G = l_ref02_Div_1 O F K0 j (minW lo (divV x y true)) (maxW hi (divV x y false)) (some ⟨q, 0⟩) 4 (some ⟨p, 0⟩) 4 ((i + 1 : Nat) : Int) b0 b1 c0 c1 d0 d1 G := by
  have idx : ∀ b : Nat, idx? (some (⟨b, 0⟩ : GA)) 4 (i : Int) 1 = some ⟨b, i⟩ := by
    intro b
    simp only [idx?]
    rw [if_pos (by omega), Int.toNat_natCast]
    simp [GA.add]
  have lx : ldFloat G .f64 ⟨q, i⟩ = some x := by simp [ldFloat, gld, hx, hxi]
  have ly : ldFloat G .f64 ⟨p, i⟩ = some y := by simp [ldFloat, gld, hy, hyi]
  have cd := clean_divV x y true
  have cu := clean_divV x y false
  simp only [l_ref02_Div_1, u_ref02_Div_1, L_ref02_Div_2]
  rw [decide_eq_true (by omega), cond_true, stepF hF]
  simp only [l_ref02_Div_2, u_ref02_Div_2]
  rw [idx, Option.bind_some, lx, Option.bind_some, idx, Option.bind_some, ly, Option.bind_some, hD x y true x64 y64, pairFI, Option.bind_some, lx, Option.bind_some, Option.bind_some, ly, Option.bind_some, hD x y false x64 y64, pairFI]
  simp only [L_ref02_Div_3]
  rw [stepF hF]
  simp only [l_ref02_Div_3, u_ref02_Div_3, a_ref02_Div_3N, a_ref02_Div_2N]
  rw [flt_sv cd.1 hlo.1, fgt_sv cu.1 hhi.1, wrapI (v := (i : Int) + 1) (by omega) (by omega), show (i : Int) + 1 = ((i + 1 : Nat) : Int) by omega]
  unfold minW maxW
  by_cases h1 : sv (divV x y true) < sv lo
  · rw [decide_eq_true h1, cond_true, if_pos h1]
    by_cases h2 : sv hi < sv (divV x y false)
    · rw [decide_eq_true h2, cond_true, if_pos h2]
    · rw [decide_eq_false h2, cond_false, if_neg h2]
  · rw [decide_eq_false h1, cond_false, if_neg h1]
    by_cases h2 : sv hi < sv (divV x y false)
    · rw [decide_eq_true h2, cond_true, if_pos h2]
    · rw [decide_eq_false h2, cond_false, if_neg h2]

theorem rspanDiv_body {O : Ora R} {F : Nat} (hF : 8 ≤ F) (hA : SRAll O) (hW : SRWide O) (hI : SRInf O) (hD : SRDiv O) {a b c d : Nat} (ha : num a) (hb : num b) (hc : num c) (hd : num d) (G : GH) :
    ∃ G', ∀ (k : IV → GH → Option R), u_ref02_Div O k (L_ref02_Div_0 O F k) a b c d G = k (SP (quoL a b c d) (quoH a b c d)) G' := by
  obtain ⟨xs, hxs⟩ : ∃ xs : List IV, xs = [.float .f64 a, .float .f64 a, .float .f64 b, .float .f64 b] := ⟨_, rfl⟩
  obtain ⟨ys, hys⟩ : ∃ ys : List IV, ys = [.float .f64 c, .float .f64 d, .float .f64 c, .float .f64 d] := ⟨_, rfl⟩
  obtain ⟨G2, hG2⟩ : ∃ G2, G2 = gnew (gnew G xs 22) ys 22 := ⟨_, rfl⟩
  have gx : G2[G.length]? = some ⟨xs, 22, 1⟩ := by rw [hG2, gnew_old (by rw [gnew_length]; omega), gnew_at]
  have gy : G2[G.length + 1]? = some ⟨ys, 22, 1⟩ := by
    have := gnew_at (gnew G xs 22) ys 22
    rw [gnew_length] at this
    rw [hG2]; exact this
  have g1 : gaddr G = ⟨G.length, 0⟩ := rfl
  have g2 : gaddr (gnew G xs 22) = ⟨G.length + 1, 0⟩ := by unfold gaddr; rw [gnew_length]
  have big : quoB a b c d = false → ∀ k, a_ref02_Div_0N O k (L_ref02_Div_1 O F k) false a b c d 0 0 G = k (SP (quoL a b c d) (quoH a b c d)) G2 := by
    intro hq k
    have l1 := clean_min clean_inf (clean_divV a c true)
    have l2 := clean_min l1 (clean_divV a d true)
    have l3 := clean_min l2 (clean_divV b c true)
    have h1 := clean_max clean_ninf (clean_divV a c false)
    have h2 := clean_max h1 (clean_divV a d false)
    have h3 := clean_max h2 (clean_divV b c false)
    obtain ⟨j, rfl⟩ : ∃ j, F = j + 1 + 1 + 1 + 1 + 1 := ⟨F - 5, by omega⟩
    simp only [a_ref02_Div_0N]
    rw [cond_false, hI, ivF, hI, ivF, negInf, ← hxs, ← hys, ← hG2, g1, g2]
    simp only [L_ref02_Div_1]
    have s0 := rquo_step (O := O) (F := j + 1 + 1 + 1 + 1 + 1) (by omega) hD (a_ref02_Div_10 O k) gx gy (i := 0) (x := a) (y := c) (by decide) (by rw [hxs]; rfl) (by rw [hys]; rfl) ha.1 hc.1 clean_inf clean_ninf (j + 1 + 1 + 1 + 1) a b c d 0 0
    have s1 := rquo_step (O := O) (F := j + 1 + 1 + 1 + 1 + 1) (by omega) hD (a_ref02_Div_10 O k) gx gy (i := 1) (x := a) (y := d) (by decide) (by rw [hxs]; rfl) (by rw [hys]; rfl) ha.1 hd.1 l1 h1 (j + 1 + 1 + 1) a b c d 0 0
    have s2 := rquo_step (O := O) (F := j + 1 + 1 + 1 + 1 + 1) (by omega) hD (a_ref02_Div_10 O k) gx gy (i := 2) (x := b) (y := c) (by decide) (by rw [hxs]; rfl) (by rw [hys]; rfl) hb.1 hc.1 l2 h2 (j + 1 + 1) a b c d 0 0
    have s3 := rquo_step (O := O) (F := j + 1 + 1 + 1 + 1 + 1) (by omega) hD (a_ref02_Div_10 O k) gx gy (i := 3) (x := b) (y := d) (by decide) (by rw [hxs]; rfl) (by rw [hys]; rfl) hb.1 hd.1 l3 h3 (j + 1) a b c d 0 0
    refine s0.trans (s1.trans (s2.trans (s3.trans ?_)))
    simp only [l_ref02_Div_1, u_ref02_Div_1]
    rw [decide_eq_false (by decide), cond_false]
    simp only [a_ref02_Div_10]
    unfold quoL quoH
    rw [hq, if_neg (by simp), if_neg (by simp)]
  have all : quoB a b c d = true → ∀ k, a_ref02_Div_0N O k (L_ref02_Div_1 O F k) true a b c d 0 0 G = k (SP (quoL a b c d) (quoH a b c d)) G := by
    intro hq k
    simp only [a_ref02_Div_0N]
    rw [cond_true, hA, SP_open]
    unfold quoL quoH
    rw [hq, if_pos rfl, if_pos rfl]
  have start : ∀ k, u_ref02_Div O k (L_ref02_Div_0 O F k) a b c d G = a_ref02_Div_0N O k (L_ref02_Div_1 O F k) (quoB a b c d) a b c d 0 0 G := by
    intro k
    simp only [u_ref02_Div, L_ref02_Div_0]
    rw [stepF (by omega)]
    simp only [l_ref02_Div_0, u_ref02_Div_0]
    have w1 := fun G => hW a b ha.1 hb.1 G
    have w2 := fun G => hW c d hc.1 hd.1 G
    rw [fle_sv hc zero_num.1, zero_num.2, fge_sv hd zero_num.1, zero_num.2]
    unfold quoB
    by_cases q1 : sv c ≤ 0
    · rw [decide_eq_true q1, cond_true]
      by_cases q2 : 0 ≤ sv d
      · rw [decide_eq_true q2, cond_true]; rfl
      · rw [decide_eq_false q2, cond_false, w1, ivB]
        cases f1 : (fin a && fin b) with
        | false => rw [Bool.not_false, cond_true]; rfl
        | true =>
          rw [Bool.not_true, cond_false, w2, ivB]; rfl
    · rw [decide_eq_false q1, cond_false, w1, ivB]
      cases f1 : (fin a && fin b) with
      | false => rw [Bool.not_false, cond_true]; rfl
      | true => rw [Bool.not_true, cond_false, w2, ivB]; rfl
  cases hq : quoB a b c d with
  | true => exact ⟨G, fun k => by rw [start, hq]; exact all hq k⟩
  | false => exact ⟨G2, fun k => by rw [start, hq]; exact big hq k⟩
theorem wRSpanDiv {F n : Nat} (hF : 1100 ≤ F) (hn : 8 ≤ n) : SRSpanDiv (runC (R := R) Tryz.prog lo0 F n) := by
  obtain ⟨n, rfl⟩ : ∃ j, n = j + 8 := ⟨n - 8, by omega⟩
  intro a b c d ha hb hc hd G
  obtain ⟨G', h⟩ := rspanDiv_body (O := runC (R := R) Tryz.prog lo0 F (n + 7)) (F := F) (by omega) (wRAll (by omega)) (wRWide (by omega)) (wRInf (by omega)) (wRDiv hF (by omega)) ha hb hc hd G
  refine ⟨G', fun k => ?_⟩
  rw [r_ref02_Div, e_ref02_Div]
  exact h k
end
end Go.LI.Film

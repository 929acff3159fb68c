/- TextureMixes: the law, and over the interpreter. -/
import Derived.Test.YtbjcipikclbecaaTxS
namespace Go.LI.Film
open Go.Proofs.Ytbjcipikclbecaa Go Go.Proofs Go.LI Go.LI.Fl
set_option linter.unusedVariables false
set_option linter.unusedSimpArgs false
set_option maxRecDepth 100000
set_option exponentiation.threshold 2500

theorem scl_of {s : Nat} (w : s < 2 ^ 64) (h0 : fge .f64 s (0 : Nat) = true) (h1 : fle .f64 s (4607182418800017408 : Nat) = true) : Scl s := by
  have hn : num s := by
    by_cases h : rg dbl s ≤ 9218868437227405312
    · exact ⟨w, h⟩
    · have e : (FloatKind.format .f64).order s 0 = none := order_nan (fun hc => h hc.1)
      unfold fge at h0
      rw [e] at h0
      cases h0
  rw [fge_sv hn num_nil, sv_zero', decide_eq_true_eq] at h0
  rw [fle_sv hn one_sv.1, one_sv.2.1, decide_eq_true_eq] at h1
  have hf : fin s = true := by
    rcases Nat.lt_or_ge (rg dbl s) 9218868437227405312 with h | h
    · exact decide_eq_true h
    · exfalso
      have hr : rg dbl s = 9218868437227405312 := by have := hn.2; omega
      have hlt : one74 < mag dbl 9218868437227405312 := by rw [← one_mag]; exact mag_lt (by decide)
      have hp := inf_mag_pos
      unfold sv at h0 h1
      rw [hr] at h0 h1
      cases hs : sg dbl s with
      | false =>
        rw [hs] at h1
        simp only [Bool.false_eq_true, if_false] at h1
        omega
      | true =>
        rw [hs] at h0
        simp only [if_true] at h0
        omega
  exact ⟨w, hf, by rw [sv_zw]; exact h0, by rw [sv_zw]; exact h1⟩

section
variable {R : Type} {O : Ora R}
abbrev SWi (O : Ora R) : Prop := ∀ (a0 a1 a2 a3 a4 a5 b0 b1 b2 b3 b4 b5 : Nat), fle .f64 b0 a0 = true → fle .f64 a1 b1 = true → fle .f64 b2 a2 = true → fle .f64 a3 b3 = true → fle .f64 b4 a4 = true → fle .f64 a5 b5 = true →
  ∀ (G : GH) (k : IV → GH → Option R), O fn_ref03_Within [S6 a0 a1 a2 a3 a4 a5, S6 b0 b1 b2 b3 b4 b5] G k = k (.bool true) G
theorem yWi {F n : Nat} (hn : 2 ≤ n) : SWi (runC (R := R) Try.prog lo0 F n) := by
  obtain ⟨n, rfl⟩ : ∃ j, n = j + 2 := ⟨n - 2, by omega⟩
  have h2 : ∀ (a0 a1 b0 b1 : Nat), fle .f64 b0 a0 = true → fle .f64 a1 b1 = true → ∀ (G : GH) (k : IV → GH → Option R), runC (R := R) Try.prog lo0 F (n + 1) fn_ref02_Within [S2 a0 a1, S2 b0 b1] G k = k (.bool true) G := fun a0 a1 b0 b1 h1 h2 G k => by
    rw [show fn_ref02_Within = 32 from rfl, r_ref02_Within, e_ref02_Within, h1, cond_true, h2]
  intro a0 a1 a2 a3 a4 a5 b0 b1 b2 b3 b4 b5 p0 p1 p2 p3 p4 p5 G k
  rw [show fn_ref03_Within = 16 from rfl, r_ref03_Within, e_ref03_Within, h2 _ _ _ _ p0 p1, ivB, cond_true, h2 _ _ _ _ p2 p3, ivB, cond_true, h2 _ _ _ _ p4 p5, ivB]
theorem Mx.f1 {c l h : Nat} (m : Mx c l h) (w : c < 2 ^ 64) (f : fin c = true) : fle .f64 l (zw c) = true := by
  rw [fle_sv m.nl (zw_num (num_fin w f))]
  exact decide_eq_true m.lo
theorem Mx.f2 {c l h : Nat} (m : Mx c l h) (w : c < 2 ^ 64) (f : fin c = true) : fle .f64 (zw c) h = true := by
  rw [fle_sv (zw_num (num_fin w f)) m.nh]
  exact decide_eq_true m.hi
theorem mix_on (hE1 : SEv1 O) (hE2 : SEv2 O) (hO : SQVOf O) (hW : SWi O) (hS : SQS3 O) (c0 c1 c2 s u0 u1 v0 v1 : Nat) (hc : Col c0 c1 c2) (hs : Scl s) (hu0 : u0 < 2 ^ 64) (hu1 : u1 < 2 ^ 64) (hv0 : v0 < 2 ^ 64) (hv1 : v1 < 2 ^ 64) (G : GH) (k : IV → GH → Option R) :
    ∃ G', a_law09_TextureMixes_0N O k s c0 c1 c2 u0 u1 v0 v1 G = k (.bool true) G' := by
  have hT : BL (gnew G (lst c0 c1 c2 s) 52) G.length (lst c0 c1 c2 s) 52 := BL.new G _ 52
  obtain ⟨l0, h0, l1, h1, l2, h2, m0, m1, m2, e1⟩ := hE1 c0 c1 c2 s hc hs
  obtain ⟨G2, K2, e1⟩ := e1 G.length u0 u1 v0 v1 _ hT
  obtain ⟨z, e2⟩ := hE2 c0 c1 c2 s u0 u1 v0 v1 hc hs hu0 hu1 hv0 hv1
  obtain ⟨G3, e2⟩ := e2 G.length G2 (hT.keep K2 hT.lt)
  have e2' : ∀ (k : IV → GH → Option R), O fn_texture_Eval [.slice (some (gaddr G)) 3, .slice none 0, .int .i64 2, S2 u0 u1, S2 v0 v1] G2 k = k (.tuple [S6 (zw c0) (zw c0) (zw c1) (zw c1) (zw c2) (zw c2), .int .i64 z, .int .i64 0]) G3 := e2
  have z0 : ((0 : Int) == 0) = true := by decide
  have z1 : ((1 : Int) == 1) = true := by decide
  refine ⟨G3, ?_⟩
  unfold a_law09_TextureMixes_0N
  refine (e1 _).trans ?_
  rw [tup3, Option.bind_some]
  simp only [List.getD_cons_zero, List.getD_cons_succ]
  rw [S6_open, ivI, ivI, e2', tup3, Option.bind_some]
  simp only [List.getD_cons_zero, List.getD_cons_succ]
  rw [S6_open, ivI, ivI, z0, cond_true, cond_true, z1, cond_true, hO c0 c1 c2 hc.w0 hc.w1 hc.w2 hc.f0 hc.f1 hc.f2, S6_open,
    hW _ _ _ _ _ _ _ _ _ _ _ _ (m0.f1 hc.w0 hc.f0) (m0.f2 hc.w0 hc.f0) (m1.f1 hc.w1 hc.f1) (m1.f2 hc.w1 hc.f1) (m2.f1 hc.w2 hc.f2) (m2.f2 hc.w2 hc.f2), ivB, cond_true,
    hO c0 c1 c2 hc.w0 hc.w1 hc.w2 hc.f0 hc.f1 hc.f2, S6_open, hS, ivB]
/-- The law. -/
theorem mixes_body (hA : SQAw O) (hN : SQNs O) (hV : SQVal O) (hE1 : SEv1 O) (hE2 : SEv2 O) (hO : SQVOf O) (hW : SWi O) (hS : SQS3 O) {F : Nat} (hF : 1 ≤ F) (c0 c1 c2 s u0 u1 v0 v1 : Nat) (w0 : c0 < 2 ^ 64) (w1 : c1 < 2 ^ 64) (w2 : c2 < 2 ^ 64) (ws : s < 2 ^ 64) (hu0 : u0 < 2 ^ 64) (hu1 : u1 < 2 ^ 64) (hv0 : v0 < 2 ^ 64) (hv1 : v1 < 2 ^ 64) (G : GH) (k : IV → GH → Option R) :
    ∃ G', bodyC Try.prog O lo5 F Try.f5 [.agg [.float .f64 c0, .float .f64 c1, .float .f64 c2], .float .f64 s, .agg [.float .f64 u0, .float .f64 u1], .agg [.float .f64 v0, .float .f64 v1]] G k = k (.bool true) G' := by
  obtain ⟨F, rfl⟩ : ∃ F', F = F' + 1 := ⟨F - 1, by omega⟩
  rw [e_law09_TextureMixes]
  unfold u_law09_TextureMixes
  rw [hA, ivB, Bool.not_true, cond_false]
  simp only [L_law09_TextureMixes_0, stepN_succ, l_law09_TextureMixes_0]
  obtain ⟨r1, n1, n2⟩ := hN c0 c1 c2 w0 w1 w2
  obtain ⟨r2, q1, _⟩ := hV u0 u1 hu0 hu1
  obtain ⟨r3, q2, _⟩ := hV v0 v1 hv0 hv1
  unfold u_law09_TextureMixes_0
  rw [n1, ivB]
  cases r1 with
  | false => exact ⟨G, rfl⟩
  | true =>
    obtain ⟨f0, f1, f2⟩ := n2 rfl
    rw [Bool.not_true, cond_false]
    cases g0 : fge .f64 s (0 : Nat) with
    | false => exact ⟨G, rfl⟩
    | true =>
      rw [cond_true]
      cases g1 : fle .f64 s (4607182418800017408 : Nat) with
      | false => exact ⟨G, rfl⟩
      | true =>
        rw [Bool.not_true, cond_false, q1, ivB]
        cases r2 with
        | false => exact ⟨G, rfl⟩
        | true =>
          rw [Bool.not_true, cond_false, q2, ivB]
          cases r3 with
          | false => exact ⟨G, rfl⟩
          | true =>
            rw [Bool.not_true, cond_false]
            exact mix_on hE1 hE2 hO hW hS c0 c1 c2 s u0 u1 v0 v1 ⟨w0, w1, w2, f0, f1, f2⟩ (scl_of ws g0 g1) hu0 hu1 hv0 hv1 G k

/-! ### Over the interpreter -/
theorem yOneC {F n : Nat} (hF : 1 ≤ F) (hn : 8 ≤ n) : SOneC (runC (R := R) Try.prog lo0 F n) := by
  obtain ⟨n, rfl⟩ : ∃ j, n = j + 1 := ⟨n - 1, by omega⟩
  intro c0 c1 c2 hc pa va pn vn u0 u1 v0 v1 G k
  have := oneC_body (O := runC (R := R) Try.prog lo0 F n) (yOf hF (by omega)) (yVOf hF (by omega)) (F := F) c0 c1 c2 hc pa va pn vn u0 u1 v0 v1 G k
  rw [show fn_texture_one = 28 from rfl]
  unfold tcs at this ⊢
  rw [r_texture_one]
  exact this
theorem yOneM {F n : Nat} (hn : 15 ≤ n) : SOneM (runC (R := R) Try.prog lo0 (F + 4) n) := by
  obtain ⟨n, rfl⟩ : ∃ j, n = j + 1 := ⟨n - 1, by omega⟩
  intro c0 c1 c2 s hc hs
  obtain ⟨l0, h0, l1, h1, l2, h2, m0, m1, m2, h⟩ := oneM_body (O := runC (R := R) Try.prog lo0 (F + 4) n) (yOf (by omega) (by omega)) (ySRest (by omega) (by omega)) (yScal (by omega)) (yVAd (by omega)) (yB1 (by omega)) (F := F + 4) c0 c1 c2 s hc hs
  refine ⟨l0, h0, l1, h1, l2, h2, m0, m1, m2, fun pa pn bv vn u0 u1 v0 v1 e rest G hv hB k => ?_⟩
  have := h pa pn bv vn u0 u1 v0 v1 e rest G hv hB k
  rw [show fn_texture_one = 28 from rfl]
  unfold tcs at this ⊢
  rw [r_texture_one]
  exact this
theorem yOneK {F n : Nat} (hn : 12 ≤ n) : SOneK (runC (R := R) Try.prog lo0 (F + 4) n) := by
  obtain ⟨n, rfl⟩ : ∃ j, n = j + 1 := ⟨n - 1, by omega⟩
  intro s u0 u1 v0 v1 ws hs hu0 hu1 hv0 hv1
  obtain ⟨z, h⟩ := oneK_body (O := runC (R := R) Try.prog lo0 (F + 4) n) (yOf (by omega) (by omega)) (yMul (by omega)) (ySFl (by omega) (by omega)) (yBo (by omega)) (F := F + 4) (by omega) s u0 u1 v0 v1 ws hs hu0 hu1 hv0 hv1
  refine ⟨z, fun c0 c1 c2 pa pn bv vn e rest G hv hB k => ?_⟩
  have := h c0 c1 c2 pa pn bv vn e rest G hv hB k
  rw [show fn_texture_one = 28 from rfl]
  unfold tcs at this ⊢
  rw [r_texture_one]
  exact this
theorem yCkq {F n : Nat} (hF : 1000 ≤ F) (hn : 7 ≤ n) : SCkq (runC (R := R) Try.prog lo0 F n) := by
  obtain ⟨n, rfl⟩ : ∃ j, n = j + 1 := ⟨n - 1, by omega⟩
  intro a pa c m ts G hT hw hc
  obtain ⟨G', k1, h1⟩ := ckq_body (O := runC (R := R) Try.prog lo0 F n) (yChp (by omega) (by omega)) hF a pa c m ts G hT hw hc
  exact ⟨G', k1, fun k => by rw [show fn_texture_Check = 10 from rfl, r_texture_Check]; exact h1 k⟩
theorem yNd1 {F n : Nat} (hF : 5 ≤ F) (hn : 1 ≤ n) : SNd1 (runC (R := R) Try.prog lo0 F n) := by
  obtain ⟨n, rfl⟩ : ∃ j, n = j + 1 := ⟨n - 1, by omega⟩
  intro c0 c1 c2 s bt G hB
  obtain ⟨G', b1, k1, h1⟩ := nd1_body (O := runC (R := R) Try.prog lo0 F n) hF c0 c1 c2 s bt G hB
  exact ⟨G', b1, k1, fun k => by rw [show fn_texture_needed = 27 from rfl, r_texture_needed]; exact h1 k⟩
theorem yNd2 {F n : Nat} (hF : 5 ≤ F) (hn : 1 ≤ n) : SNd2 (runC (R := R) Try.prog lo0 F n) := by
  obtain ⟨n, rfl⟩ : ∃ j, n = j + 1 := ⟨n - 1, by omega⟩
  intro c0 c1 c2 s bt G hB
  obtain ⟨G', b1, k1, h1⟩ := nd2_body (O := runC (R := R) Try.prog lo0 F n) hF c0 c1 c2 s bt G hB
  exact ⟨G', b1, k1, fun k => by rw [show fn_texture_needed = 27 from rfl, r_texture_needed]; exact h1 k⟩
theorem yEv1 {F n : Nat} (hF : 1000 ≤ F) (hn : 16 ≤ n) : SEv1 (runC (R := R) Try.prog lo0 (F + 4) n) := by
  obtain ⟨n, rfl⟩ : ∃ j, n = j + 1 := ⟨n - 1, by omega⟩
  intro c0 c1 c2 s hc hs
  obtain ⟨l0, h0, l1, h1, l2, h2, m0, m1, m2, h⟩ := ev1_body (O := runC (R := R) Try.prog lo0 (F + 4) n) (yCkq (by omega) (by omega)) (yNd1 (by omega) (by omega)) (yOneC (by omega) (by omega)) (yOneM (by omega)) (F := F + 4) (by omega) c0 c1 c2 s hc hs
  refine ⟨l0, h0, l1, h1, l2, h2, m0, m1, m2, fun bt u0 u1 v0 v1 G hB => ?_⟩
  obtain ⟨G', K, h⟩ := h bt u0 u1 v0 v1 G hB
  exact ⟨G', K, fun k => by rw [show fn_texture_Eval = 14 from rfl, r_texture_Eval]; exact h k⟩
theorem yEv2 {F n : Nat} (hF : 1000 ≤ F) (hn : 14 ≤ n) : SEv2 (runC (R := R) Try.prog lo0 (F + 4) n) := by
  obtain ⟨n, rfl⟩ : ∃ j, n = j + 1 := ⟨n - 1, by omega⟩
  intro c0 c1 c2 s u0 u1 v0 v1 hc hs hu0 hu1 hv0 hv1
  obtain ⟨z, h⟩ := ev2_body (O := runC (R := R) Try.prog lo0 (F + 4) n) (yCkq (by omega) (by omega)) (yNd2 (by omega) (by omega)) (yOneC (by omega) (by omega)) (yOneK (by omega)) (F := F + 4) (by omega) c0 c1 c2 s u0 u1 v0 v1 hc hs hu0 hu1 hv0 hv1
  refine ⟨z, fun bt G hB => ?_⟩
  obtain ⟨G', h⟩ := h bt G hB
  exact ⟨G', fun k => by rw [show fn_texture_Eval = 14 from rfl, r_texture_Eval]; exact h k⟩
/-- TextureMixes gives true. -/
theorem s5m {F n : Nat} (hF : 1000 ≤ F) (hn : 16 ≤ n) (hA : SQAw (runC (R := R) Try.prog lo0 (F + 4) n)) (c0 c1 c2 s u0 u1 v0 v1 : Nat) (w0 : c0 < 2 ^ 64) (w1 : c1 < 2 ^ 64) (w2 : c2 < 2 ^ 64) (ws : s < 2 ^ 64) (hu0 : u0 < 2 ^ 64) (hu1 : u1 < 2 ^ 64) (hv0 : v0 < 2 ^ 64) (hv1 : v1 < 2 ^ 64) (G : GH) (k : IV → GH → Option R) :
    ∃ G', runC Try.prog lo0 (F + 4) (n + 1) 5 [.agg [.float .f64 c0, .float .f64 c1, .float .f64 c2], .float .f64 s, .agg [.float .f64 u0, .float .f64 u1], .agg [.float .f64 v0, .float .f64 v1]] G k = k (.bool true) G' := by
  rw [r_law09_TextureMixes]
  exact mixes_body (O := runC (R := R) Try.prog lo0 (F + 4) n) hA (yNs (by omega)) (yVal (by omega)) (yEv1 hF (by omega)) (yEv2 hF (by omega)) (yQVOf (by omega)) (yWi (by omega)) (yS3 (by omega)) (by omega) c0 c1 c2 s u0 u1 v0 v1 w0 w1 w2 ws hu0 hu1 hv0 hv1 G k
end
end Go.LI.Film

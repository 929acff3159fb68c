/- TextureSingle over the interpreter. -/
import Derived.Test.YtbjcipikclbecaaTxD
namespace Go.LI.Film
open Go.Proofs.Ytbjcipikclbecaa Go Go.Proofs Go.LI Go.LI.Fl
set_option linter.unusedVariables false
set_option maxRecDepth 100000
theorem awakeT {R : Type} (G : GH) (k : IV → GH → Option R) : (runC Try.prog lo0 1152921504606846976 50 8 [] G k) = k (.bool true) G := by kernel_rfl
section
variable {R : Type}
theorem yOf {F n : Nat} (hF : 1 ≤ F) (hn : 5 ≤ n) : SOf (runC (R := R) Try.prog lo0 F n) := by
  obtain ⟨n, rfl⟩ : ∃ j, n = j + 1 := ⟨n - 1, by omega⟩
  intro x hx hf G k
  have e : fn_span_Of = 44 := rfl
  rw [e, r_span_Of]
  exact of_body (wNumber hF (by omega)) hx hf G k
theorem yAll {F n : Nat} (hF : 1 ≤ F) (hn : 3 ≤ n) : SAll (runC (R := R) Try.prog lo0 F n) := by
  obtain ⟨n, rfl⟩ : ∃ j, n = j + 1 := ⟨n - 1, by omega⟩
  obtain ⟨F, rfl⟩ : ∃ j, F = j + 1 := ⟨F - 1, by omega⟩
  intro G k
  have e : fn_span_All = 56 := rfl
  rw [e, r_span_All]
  exact all_body (wInf (by omega)) G k
theorem yWide {F n : Nat} (hF : 1 ≤ F) (hn : 4 ≤ n) : SWide (runC (R := R) Try.prog lo0 F n) := by
  obtain ⟨n, rfl⟩ : ∃ j, n = j + 1 := ⟨n - 1, by omega⟩
  intro x y hx hy
  obtain ⟨b, h⟩ := wide_body (O := runC (R := R) Try.prog lo0 F n) (wIsInf hF (by omega)) (F := F) hx hy
  have e : fn_span_Wide = 58 := rfl
  exact ⟨b, fun G k => by rw [e, r_span_Wide]; exact h G k⟩
theorem yMul {F n : Nat} (hn : 10 ≤ n) : SMulT (runC (R := R) Try.prog lo0 (F + 4) n) := by
  obtain ⟨n, rfl⟩ : ∃ j, n = j + 1 := ⟨n - 1, by omega⟩
  intro a b c d ha hb hc hd
  obtain ⟨l, h, h1, h2, h3⟩ := mulT_body (O := runC (R := R) Try.prog lo0 (F + 4) n) (yWide (by omega) (by omega)) (yAll (by omega) (by omega)) (wInf (F := F + 3) (by omega)) (wMul (by omega) (by omega)) (F := F) ha hb hc hd
  have e : fn_span_Mul = 46 := rfl
  exact ⟨l, h, h1, h2, fun G k => by rw [e, r_span_Mul]; exact h3 G k⟩
theorem yArch {F n : Nat} (hn : 1 ≤ n) : SArch (runC (R := R) Try.prog lo0 F n) := by
  obtain ⟨n, rfl⟩ : ∃ j, n = j + 1 := ⟨n - 1, by omega⟩
  intro x hx hf
  obtain ⟨y, h1, h2⟩ := arch_body (O := runC (R := R) Try.prog lo0 F n) (F := F) hx hf
  have e : fn_math_archFloor = 78 := rfl
  exact ⟨y, h1, fun G k => by rw [e]; exact (run_body Try.func78 rfl rfl).trans (h2 G k)⟩
theorem yFloor {F n : Nat} (hn : 2 ≤ n) : SFloor (runC (R := R) Try.prog lo0 F n) := by
  obtain ⟨n, rfl⟩ : ∃ j, n = j + 1 := ⟨n - 1, by omega⟩
  intro x hx hf
  obtain ⟨y, h1, h2⟩ := floor_body (O := runC (R := R) Try.prog lo0 F n) (yArch (by omega)) (F := F) hx hf
  have e : fn_math_Floor = 68 := rfl
  exact ⟨y, h1, fun G k => by rw [e, r_math_Floor]; exact h2 G k⟩
theorem yRFl {F n : Nat} (hF : 1 ≤ F) (hn : 5 ≤ n) : SRFl (runC (R := R) Try.prog lo0 F n) := by
  obtain ⟨n, rfl⟩ : ∃ j, n = j + 1 := ⟨n - 1, by omega⟩
  intro x hx
  obtain ⟨y, a, h1, h2⟩ := rfl_body (O := runC (R := R) Try.prog lo0 F n) (wNumber hF (by omega)) (yFloor (by omega)) (wPlain (by omega)) (F := F) hx
  have e : fn_round_Floor = 57 := rfl
  exact ⟨y, a, h1, fun G k => by rw [e, r_round_Floor]; exact h2 G k⟩
theorem ySFl {F n : Nat} (hF : 1 ≤ F) (hn : 6 ≤ n) : SSFl (runC (R := R) Try.prog lo0 F n) := by
  obtain ⟨n, rfl⟩ : ∃ j, n = j + 1 := ⟨n - 1, by omega⟩
  intro x y hx hy
  obtain ⟨m, a, h⟩ := sfl_body (O := runC (R := R) Try.prog lo0 F n) (yRFl hF (by omega)) hF hx hy
  have e : fn_span_Floor = 45 := rfl
  exact ⟨m, a, fun G k => by rw [e, r_span_Floor]; exact h G k⟩
theorem yIw {F n : Nat} (hn : 1 ≤ n) : SIw (runC (R := R) Try.prog lo0 F n) := by
  obtain ⟨n, rfl⟩ : ∃ j, n = j + 1 := ⟨n - 1, by omega⟩
  intro x G k
  have e : fn_image_wrap = 77 := rfl
  rw [e, r_image_wrap]
  exact iw_body x G k
theorem yINew {F n : Nat} (hF : 1 ≤ F) (hn : 1 ≤ n) : SINew (runC (R := R) Try.prog lo0 F n) := by
  obtain ⟨n, rfl⟩ : ∃ j, n = j + 1 := ⟨n - 1, by omega⟩
  intro G k
  have e : fn_image_New_api_Triple = 76 := rfl
  rw [e, r_image_New_api_Triple]
  exact inew_body hF G k
theorem yIOf {F n : Nat} (hF : 1 ≤ F) (hn : 2 ≤ n) : SIOf (runC (R := R) Try.prog lo0 F n) := by
  obtain ⟨n, rfl⟩ : ∃ j, n = j + 1 := ⟨n - 1, by omega⟩
  intro bx c0 c1 c2 G hB
  obtain ⟨b1, b2, G', q1, q2, q3⟩ := iof_body (O := runC (R := R) Try.prog lo0 F n) (yINew hF (by omega)) (F := F) bx c0 c1 c2 G hB
  have e : fn_image_Of_api_Triple = 64 := rfl
  exact ⟨b1, b2, G', q1, q2, fun k => by rw [e, r_image_Of_api_Triple]; exact q3 k⟩
theorem yWp {F n : Nat} (hn : 2 ≤ n) : SWp (runC (R := R) Try.prog lo0 F n) := by
  obtain ⟨n, rfl⟩ : ∃ j, n = j + 1 := ⟨n - 1, by omega⟩
  intro b1 b2 c0 c1 c2 x y G k h1 h2
  have e : fn_image_Image_api_Triple_Wrapped = 65 := rfl
  rw [e, r_image_Image_api_Triple_Wrapped]
  exact wp_body (yIw (by omega)) b1 b2 c0 c1 c2 x y G k h1 h2
theorem yVOf {F n : Nat} (hF : 1 ≤ F) (hn : 6 ≤ n) : SVOf (runC (R := R) Try.prog lo0 F n) := by
  obtain ⟨n, rfl⟩ : ∃ j, n = j + 1 := ⟨n - 1, by omega⟩
  intro c0 c1 c2 w0 w1 w2 h0 h1 h2 G k
  have e : fn_vec_Of = 53 := rfl
  rw [e, r_vec_Of]
  exact vof_body (yOf hF (by omega)) w0 w1 w2 h0 h1 h2 G k
theorem yBo {F n : Nat} (hn : 1 ≤ n) : SBo (runC (R := R) Try.prog lo0 F n) := by
  obtain ⟨n, rfl⟩ : ∃ j, n = j + 1 := ⟨n - 1, by omega⟩
  intro a b
  obtain ⟨c, h⟩ := bo_body (O := runC (R := R) Try.prog lo0 F n) (F := F) a b
  have e : fn_texture_both = 47 := rfl
  exact ⟨c, fun G k => by rw [e, r_texture_both]; exact h G k⟩
theorem ySa {F n : Nat} (hn : 11 ≤ n) : SSa (runC (R := R) Try.prog lo0 (F + 4) n) := by
  obtain ⟨n, rfl⟩ : ∃ j, n = j + 1 := ⟨n - 1, by omega⟩
  intro bx c0 c1 c2 u0 u1 v0 v1 G w0 w1 w2 h0 h1 h2 hu0 hu1 hv0 hv1 hB
  obtain ⟨a, G', h⟩ := sa_body (O := runC (R := R) Try.prog lo0 (F + 4) n) (yIOf (by omega) (by omega)) (yOf (by omega) (by omega)) (yMul (by omega)) (ySFl (by omega) (by omega)) (yWp (by omega)) (yVOf (by omega) (by omega)) (yBo (by omega)) (F := F + 4) bx c0 c1 c2 u0 u1 v0 v1 G w0 w1 w2 h0 h1 h2 hu0 hu1 hv0 hv1 hB
  have e : fn_texture_sample = 51 := rfl
  exact ⟨a, G', fun k => by rw [e, r_texture_sample]; exact h k⟩
theorem yOne {F n : Nat} (hn : 12 ≤ n) : SOne (runC (R := R) Try.prog lo0 (F + 4) n) := by
  obtain ⟨n, rfl⟩ : ∃ j, n = j + 1 := ⟨n - 1, by omega⟩
  intro bp bx c0 c1 c2 s u0 u1 v0 v1 va vn G w0 w1 w2 h0 h1 h2 ws hs hu0 hu1 hv0 hv1 hB hP
  obtain ⟨a, h⟩ := one_body (O := runC (R := R) Try.prog lo0 (F + 4) n) (yOf (by omega) (by omega)) (yMul (by omega)) (ySa (by omega)) (F := F + 4) bp bx c0 c1 c2 s u0 u1 v0 v1 va vn G w0 w1 w2 h0 h1 h2 ws hs hu0 hu1 hv0 hv1 hB hP
  have e : fn_texture_one = 28 := rfl
  exact ⟨a, fun k => by unfold ts at h ⊢; rw [e, r_texture_one]; exact h k⟩
theorem yChk {F n : Nat} (hF : 1 ≤ F) (hn : 5 ≤ n) : SChk (runC (R := R) Try.prog lo0 F n) := by
  obtain ⟨n, rfl⟩ : ∃ j, n = j + 1 := ⟨n - 1, by omega⟩
  intro s hs hf G k
  have e : fn_texture_check = 22 := rfl
  have h := chk_body (O := runC (R := R) Try.prog lo0 F n) (wNumber hF (by omega)) hF hs hf G k
  unfold ts at h ⊢
  rw [e, r_texture_check]
  exact h
theorem yCk {F n : Nat} (hF : 3 ≤ F) (hn : 6 ≤ n) : SCk (runC (R := R) Try.prog lo0 F n) := by
  obtain ⟨n, rfl⟩ : ∃ j, n = j + 1 := ⟨n - 1, by omega⟩
  intro s bt pa G k hs hf hB
  have e : fn_texture_Check = 10 := rfl
  rw [e, r_texture_Check]
  exact ck_body (yChk (by omega) (by omega)) hF pa G k hs hf hB
theorem yNd {F n : Nat} (hF : 3 ≤ F) (hn : 1 ≤ n) : SNd (runC (R := R) Try.prog lo0 F n) := by
  obtain ⟨n, rfl⟩ : ∃ j, n = j + 1 := ⟨n - 1, by omega⟩
  intro s bt G hB
  obtain ⟨G', h1, h2, h3⟩ := nd_body (O := runC (R := R) Try.prog lo0 F n) (s := s) hF G hB
  have e : fn_texture_needed = 27 := rfl
  exact ⟨G', h1, h2, fun k => by rw [e, r_texture_needed]; exact h3 k⟩
theorem yEv {F n : Nat} (hn : 13 ≤ n) : SEv (runC (R := R) Try.prog lo0 (F + 4) n) := by
  obtain ⟨n, rfl⟩ : ∃ j, n = j + 1 := ⟨n - 1, by omega⟩
  intro bt bp bx c0 c1 c2 s u0 u1 v0 v1 G w0 w1 w2 h0 h1 h2 ws hs hu0 hu1 hv0 hv1 hT hB hP
  obtain ⟨a, G', h⟩ := ev_body (O := runC (R := R) Try.prog lo0 (F + 4) n) (yCk (by omega) (by omega)) (yNd (by omega) (by omega)) (yOne (by omega)) (F := F + 4) (by omega) bt bp bx c0 c1 c2 s u0 u1 v0 v1 G w0 w1 w2 h0 h1 h2 ws hs hu0 hu1 hv0 hv1 hT hB hP
  have e : fn_texture_Eval = 14 := rfl
  exact ⟨a, G', fun k => by rw [e, r_texture_Eval]; exact h k⟩
theorem yVal {F n : Nat} (hn : 3 ≤ n) : SQVal (runC (R := R) Try.prog lo0 F n) := by
  obtain ⟨n, rfl⟩ : ∃ j, n = j + 1 := ⟨n - 1, by omega⟩
  intro x y hx hy
  obtain ⟨b, h1, h2⟩ := val_body (O := runC (R := R) Try.prog lo0 F n) (wQInf (by omega)) (wQMin (by omega)) (F := F) hx hy
  have e : fn_ref02_Valid = 13 := rfl
  exact ⟨b, fun G k => by rw [e, r_ref02_Valid]; exact h1 G k, h2⟩
theorem yNs {F n : Nat} (hn : 4 ≤ n) : SQNs (runC (R := R) Try.prog lo0 (F + 4) n) := by
  obtain ⟨n, rfl⟩ : ∃ j, n = j + 1 := ⟨n - 1, by omega⟩
  intro a b c ha hb hc
  obtain ⟨r, h1, h2⟩ := ns_body (O := runC (R := R) Try.prog lo0 (F + 4) n) (yVal (by omega)) (F := F) ha hb hc
  have e : fn_ref03_Numbers = 17 := rfl
  exact ⟨r, fun G k => by rw [e, r_ref03_Numbers]; exact h1 G k, h2⟩
theorem yQOf {F n : Nat} (hn : 2 ≤ n) : SQOf (runC (R := R) Try.prog lo0 F n) := by
  obtain ⟨n, rfl⟩ : ∃ j, n = j + 1 := ⟨n - 1, by omega⟩
  intro x hx hf G k
  have e : fn_ref02_Of = 21 := rfl
  rw [e, r_ref02_Of]
  exact qof_body (wQNumber (by omega)) (wQZ (by omega)) hx hf G k
theorem yQVOf {F n : Nat} (hn : 3 ≤ n) : SQVOf (runC (R := R) Try.prog lo0 F n) := by
  obtain ⟨n, rfl⟩ : ∃ j, n = j + 1 := ⟨n - 1, by omega⟩
  intro c0 c1 c2 w0 w1 w2 h0 h1 h2 G k
  have e : fn_ref03_Of = 18 := rfl
  rw [e, r_ref03_Of]
  exact qvof_body (yQOf (by omega)) w0 w1 w2 h0 h1 h2 G k
theorem yS2 {F n : Nat} (hn : 2 ≤ n) : SQS2 (runC (R := R) Try.prog lo0 F n) := by
  obtain ⟨n, rfl⟩ : ∃ j, n = j + 1 := ⟨n - 1, by omega⟩
  intro x y G k
  have e : fn_ref02_Same = 33 := rfl
  rw [e, r_ref02_Same]
  exact s2_body (wBits (by omega)) x y G k
theorem yS3 {F n : Nat} (hn : 3 ≤ n) : SQS3 (runC (R := R) Try.prog lo0 F n) := by
  obtain ⟨n, rfl⟩ : ∃ j, n = j + 1 := ⟨n - 1, by omega⟩
  intro a b c d e f G k
  have e' : fn_ref03_Same = 19 := rfl
  rw [e', r_ref03_Same]
  exact s3_body (yS2 (by omega)) a b c d e f G k
theorem s7 {F n : Nat} (hn : 13 ≤ n) (hA : SQAw (runC (R := R) Try.prog lo0 (F + 4) n)) (c0 c1 c2 s u0 u1 v0 v1 : Nat) (w0 : c0 < 2 ^ 64) (w1 : c1 < 2 ^ 64) (w2 : c2 < 2 ^ 64) (ws : s < 2 ^ 64) (hu0 : u0 < 2 ^ 64) (hu1 : u1 < 2 ^ 64) (hv0 : v0 < 2 ^ 64) (hv1 : v1 < 2 ^ 64) (G : GH) (k : IV → GH → Option R) :
    ∃ G', runC Try.prog lo0 (F + 4) (n + 1) 7 [.agg [.float .f64 c0, .float .f64 c1, .float .f64 c2], .float .f64 s, .agg [.float .f64 u0, .float .f64 u1], .agg [.float .f64 v0, .float .f64 v1]] G k = k (.bool true) G' := by
  rw [r_law09_TextureSingle]
  exact single_body hA (yNs (by omega)) (yVal (by omega)) (yEv hn) (yQVOf (by omega)) (yS3 (by omega)) (by omega) c0 c1 c2 s u0 u1 v0 v1 w0 w1 w2 ws hu0 hu1 hv0 hv1 G k
end
end Go.LI.Film

/- Mixes: one texture of each kind that the law has. -/
import Derived.Test.YtbjcipikclbecaaTxP
namespace Go.LI.Film
open Go.Proofs.Ytbjcipikclbecaa Go Go.Proofs Go.LI Go.LI.Fl
set_option linter.unusedVariables false
set_option linter.unusedSimpArgs false
set_option maxRecDepth 100000
set_option exponentiation.threshold 2500

theorem zw_fin {x : Nat} (h : fin x = true) : fin (zw x) = true := by
  unfold zw
  split
  · decide +kernel
  · exact h
theorem zw_one : zw 4607182418800017408 = 4607182418800017408 := by decide +kernel
theorem idxn (b n sz : Nat) (hn : 0 < n) : idx? (some (⟨b, 0⟩ : GA)) n (0 : Int) sz = some ⟨b, 0⟩ := by
  simp only [idx?, GA.add, Int.toNat_zero, Nat.zero_mul, Nat.add_zero]
  rw [if_pos ⟨by omega, by omega⟩]
/-- Three numbers of a colour. -/
structure Col (c0 c1 c2 : Nat) : Prop where
  w0 : c0 < 2 ^ 64
  w1 : c1 < 2 ^ 64
  w2 : c2 < 2 ^ 64
  f0 : fin c0 = true
  f1 : fin c1 = true
  f2 : fin c2 = true
def tC (c0 c1 c2 : Nat) : Tx := ⟨1, c0, c1, c2, 0, 0, 0, 0⟩
def tM (s : Nat) : Tx := ⟨3, 0, 0, 0, 0, 0, s, 0⟩
def tK (s : Nat) : Tx := ⟨2, 0, 0, 0, 0, 0, s, 0⟩
def v7 (l0 h0 l1 h1 l2 h2 : Nat) (a : Int) : List IV := [.float .f64 l0, .float .f64 h0, .float .f64 l1, .float .f64 h1, .float .f64 l2, .float .f64 h2, .int .i64 a]
/-- A scale between 0 and 1. -/
structure Scl (s : Nat) : Prop where
  w : s < 2 ^ 64
  f : fin s = true
  lo : 0 ≤ sv (zw s)
  hi : sv (zw s) ≤ (one74 : Int)
theorem Scl.num {s : Nat} (h : Scl s) : num (zw s) := zw_num (num_fin h.w h.f)
theorem Scl.small {s : Nat} (h : Scl s) : small (zw s) := by
  refine ⟨h.num, zw_fin h.f, ?_⟩
  have h1 := h.lo
  have h2 := h.hi
  unfold sv at h1 h2
  cases hs : sg dbl (zw s) with
  | false => rw [hs] at h2; simp only [Bool.false_eq_true, if_false] at h2; exact_mod_cast h2
  | true => rw [hs] at h1; simp only [if_true] at h1; omega

section
variable {R : Type} {O : Ora R}
abbrev SB1 (O : Ora R) : Prop := ∀ (G : GH) (k : IV → GH → Option R), O fn_texture_both [.int .i64 1, .int .i64 1] G k = k (.int .i64 1) G
theorem yB1 {F n : Nat} (hn : 1 ≤ n) : SB1 (runC (R := R) Try.prog lo0 F n) := by
  obtain ⟨n, rfl⟩ : ∃ j, n = j + 1 := ⟨n - 1, by omega⟩
  intro G k
  rw [show fn_texture_both = 47 from rfl, r_texture_both, e_texture_both]
  rfl
abbrev SOneC (O : Ora R) : Prop := ∀ (c0 c1 c2 : Nat), Col c0 c1 c2 → ∀ (pa va : Option GA) (pn vn u0 u1 v0 v1 : Nat) (G : GH) (k : IV → GH → Option R), O fn_texture_one [.agg (tcs (tC c0 c1 c2)), .slice pa pn, .slice va vn, S2 u0 u1, S2 v0 v1] G k = k (.agg (sp c0 c1 c2 1)) G
theorem oneC_body (hO : SOf O) (hV : SVOf O) {F : Nat} (c0 c1 c2 : Nat) (hc : Col c0 c1 c2) (pa va : Option GA) (pn vn u0 u1 v0 v1 : Nat) (G : GH) (k : IV → GH → Option R) : bodyC Try.prog O lo28 F Try.f28 [.agg (tcs (tC c0 c1 c2)), .slice pa pn, .slice va vn, S2 u0 u1, S2 v0 v1] G k = k (.agg (sp c0 c1 c2 1)) G := by
  have f0 : fin 0 = true := by decide +kernel
  have k2 : ((1 : Int) == 2) = false := by decide
  have k3 : ((1 : Int) == 3) = false := by decide
  have k4 : ((1 : Int) == 4) = false := by decide
  have k5 : ((1 : Int) == 5) = false := by decide
  unfold tcs tC
  rw [e_texture_one]
  unfold u_texture_one
  rw [hO 0 (by decide) f0, agg2, k2, cond_false, k3, cond_false, k4, cond_false, k5, cond_false, hV c0 c1 c2 hc.w0 hc.w1 hc.w2 hc.f0 hc.f1 hc.f2, agg6]
  rfl
/-- What a mix of a colour with itself holds. -/
structure Mx (c l h : Nat) : Prop where
  nl : num l
  nh : num h
  lo : sv l ≤ sv (zw c)
  hi : sv (zw c) ≤ sv h
theorem mx_of {c r0 r1 s l h l' h' : Nat} (hc : c < 2 ^ 64) (fc : fin c = true) (m : MB (zw c) (zw c) r0 r1 l h) (m' : MB (zw c) (zw c) (zw s) (zw s) l' h') (a0 : sv r0 + sv (zw s) ≤ (one74 : Int)) (a1 : (one74 : Int) ≤ sv r1 + sv (zw s)) : Mx c (lowX l l') (highX h h') := by
  have fz := fin_sv (zw_fin fc)
  refine ⟨?_, ?_, ?_, ?_⟩
  · unfold lowX; split
    · exact num_seal _ _ _
    · exact ninf_num
  · unfold highX; split
    · exact num_seal _ _ _
    · exact inf_num
  · exact lowX_le fz.1 (mix_lo one74_pos a0 a1 (m.lo _ _ (.inl rfl) (.inl rfl)) (m.lo _ _ (.inl rfl) (.inr rfl)) (m'.lo _ _ (.inl rfl) (.inl rfl)))
  · exact highX_ge fz.2 (mix_hi one74_pos a0 a1 (m.hi _ _ (.inl rfl) (.inl rfl)) (m.hi _ _ (.inl rfl) (.inr rfl)) (m'.hi _ _ (.inl rfl) (.inl rfl)))
abbrev SOneM (O : Ora R) : Prop := ∀ (c0 c1 c2 s : Nat), Col c0 c1 c2 → Scl s → ∃ l0 h0 l1 h1 l2 h2, Mx c0 l0 h0 ∧ Mx c1 l1 h1 ∧ Mx c2 l2 h2 ∧ ∀ (pa : Option GA) (pn bv vn u0 u1 v0 v1 e : Nat) (rest : List IV) (G : GH), 0 < vn → BL G bv (sp c0 c1 c2 1 ++ rest) e →
  ∀ (k : IV → GH → Option R), O fn_texture_one [.agg (tcs (tM s)), .slice pa pn, .slice (some ⟨bv, 0⟩) vn, S2 u0 u1, S2 v0 v1] G k = k (.agg (v7 l0 h0 l1 h1 l2 h2 1)) G
theorem oneM_body (hO : SOf O) (hR : SRest O) (hS : SScal O) (hA : SVAd O) (hB1 : SB1 O) {F : Nat} (c0 c1 c2 s : Nat) (hc : Col c0 c1 c2) (hs : Scl s) : ∃ l0 h0 l1 h1 l2 h2, Mx c0 l0 h0 ∧ Mx c1 l1 h1 ∧ Mx c2 l2 h2 ∧ ∀ (pa : Option GA) (pn bv vn u0 u1 v0 v1 e : Nat) (rest : List IV) (G : GH), 0 < vn → BL G bv (sp c0 c1 c2 1 ++ rest) e →
    ∀ (k : IV → GH → Option R), bodyC Try.prog O lo28 F Try.f28 [.agg (tcs (tM s)), .slice pa pn, .slice (some ⟨bv, 0⟩) vn, S2 u0 u1, S2 v0 v1] G k = k (.agg (v7 l0 h0 l1 h1 l2 h2 1)) G := by
  obtain ⟨r0, r1, s0, s1, a0, a1, eR⟩ := hR (zw s) hs.num (zw_fin hs.f) hs.lo hs.hi
  have n0 := zw_num (num_fin hc.w0 hc.f0)
  have n1 := zw_num (num_fin hc.w1 hc.f1)
  have n2 := zw_num (num_fin hc.w2 hc.f2)
  obtain ⟨l0, h0, l1, h1, l2, h2, m0, m1, m2, e1⟩ := hS (zw c0) (zw c1) (zw c2) r0 r1 n0 n1 n2 (zw_fin hc.f0) (zw_fin hc.f1) (zw_fin hc.f2) s0 s1
  obtain ⟨p0, q0, p1, q1, p2, q2, o0, o1, o2, e2⟩ := hS (zw c0) (zw c1) (zw c2) (zw s) (zw s) n0 n1 n2 (zw_fin hc.f0) (zw_fin hc.f1) (zw_fin hc.f2) hs.small hs.small
  have e3 := hA l0 h0 l1 h1 l2 h2 p0 q0 p1 q1 p2 q2 m0.nl m0.nh m1.nl m1.nh m2.nl m2.nh o0.nl o0.nh o1.nl o1.nh o2.nl o2.nh
  refine ⟨_, _, _, _, _, _, mx_of hc.w0 hc.f0 m0 o0 a0 a1, mx_of hc.w1 hc.f1 m1 o1 a0 a1, mx_of hc.w2 hc.f2 m2 o2 a0 a1, fun pa pn bv vn u0 u1 v0 v1 e rest G hv hB k => ?_⟩
  have k2 : ((3 : Int) == 2) = false := by decide
  have k3 : ((3 : Int) == 3) = true := by decide
  have j0 := hB.flo (i := 0) (x := zw c0) rfl
  have j1 := hB.flo (i := 1) (x := zw c0) rfl
  have j2 := hB.flo (i := 2) (x := zw c1) rfl
  have j3 := hB.flo (i := 3) (x := zw c1) rfl
  have j4 := hB.flo (i := 4) (x := zw c2) rfl
  have j5 := hB.flo (i := 5) (x := zw c2) rfl
  have j6 := hB.int (i := 6) (x := 1) rfl
  have o1' := hO 4607182418800017408 one_sv.1.1 one_sv.2.2
  rw [zw_one] at o1'
  unfold tcs tM
  rw [e_texture_one]
  unfold u_texture_one
  rw [hO s hs.w hs.f, agg2, k2, cond_false, k3, cond_true, idxn bv vn 7 hv, Option.bind_some]
  simp only [add00, j0, j1, j2, j3, j4, j5, j6, Option.bind_some]
  rw [o1', agg2, eR, agg2, e1, S6_open, e2, S6_open, e3, S6_open, hB1, ivI]
  rfl
abbrev SOneK (O : Ora R) : Prop := ∀ (s u0 u1 v0 v1 : Nat), s < 2 ^ 64 → fin s = true → u0 < 2 ^ 64 → u1 < 2 ^ 64 → v0 < 2 ^ 64 → v1 < 2 ^ 64 → ∃ z : Int, ∀ (c0 c1 c2 : Nat) (pa : Option GA) (pn bv vn e : Nat) (rest : List IV) (G : GH), 0 < vn → BL G bv (sp c0 c1 c2 1 ++ rest) e →
  ∀ (k : IV → GH → Option R), O fn_texture_one [.agg (tcs (tK s)), .slice pa pn, .slice (some ⟨bv, 0⟩) vn, S2 u0 u1, S2 v0 v1] G k = k (.agg (sp c0 c1 c2 z)) G
theorem oneK_body (hO : SOf O) (hM : SMulT O) (hFl : SSFl O) (hBo : SBo O) {F : Nat} (hF : 1 ≤ F) (s u0 u1 v0 v1 : Nat) (ws : s < 2 ^ 64) (hs : fin s = true) (hu0 : u0 < 2 ^ 64) (hu1 : u1 < 2 ^ 64) (hv0 : v0 < 2 ^ 64) (hv1 : v1 < 2 ^ 64) : ∃ z : Int, ∀ (c0 c1 c2 : Nat) (pa : Option GA) (pn bv vn e : Nat) (rest : List IV) (G : GH), 0 < vn → BL G bv (sp c0 c1 c2 1 ++ rest) e →
    ∀ (k : IV → GH → Option R), bodyC Try.prog O lo28 F Try.f28 [.agg (tcs (tK s)), .slice pa pn, .slice (some ⟨bv, 0⟩) vn, S2 u0 u1, S2 v0 v1] G k = k (.agg (sp c0 c1 c2 z)) G := by
  obtain ⟨F, rfl⟩ : ∃ F', F = F' + 1 := ⟨F - 1, by omega⟩
  have ns : zw s < 2 ^ 64 := (zw_num (num_fin ws hs)).1
  obtain ⟨l1, r1, n1, n2, m1⟩ := hM u0 u1 _ _ hu0 hu1 ns ns
  obtain ⟨l2, r2, n3, n4, m2⟩ := hM v0 v1 _ _ hv0 hv1 ns ns
  obtain ⟨x, a, f1⟩ := hFl l1 r1 n1.1 n2.1
  obtain ⟨y, b, f2⟩ := hFl l2 r2 n3.1 n4.1
  obtain ⟨c, b1⟩ := hBo a b
  obtain ⟨z, b2⟩ := hBo c 1
  refine ⟨z, fun c0 c1 c2 pa pn bv vn e rest G hv hB k => ?_⟩
  have k2 : ((2 : Int) == 2) = true := by decide
  have j0 := hB.flo (i := 0) (x := zw c0) rfl
  have j1 := hB.flo (i := 1) (x := zw c0) rfl
  have j2 := hB.flo (i := 2) (x := zw c1) rfl
  have j3 := hB.flo (i := 3) (x := zw c1) rfl
  have j4 := hB.flo (i := 4) (x := zw c2) rfl
  have j5 := hB.flo (i := 5) (x := zw c2) rfl
  have j6 := hB.int (i := 6) (x := 1) rfl
  unfold tcs tK
  rw [e_texture_one]
  unfold u_texture_one
  rw [hO s ws hs, agg2, k2, cond_true, m1, agg2, f1, tupII, m2, agg2, f2, tupII, idxn bv vn 7 hv, Option.bind_some]
  simp only [add00, j0, j1, j2, j3, j4, j5, j6, Option.bind_some, L_texture_one_0, stepN_succ, l_texture_one_0, u_texture_one_0]
  cases (Int.tmod (IntKind.wrap .i64 (x + y)) (2 : Int) != (0 : Int)) with
  | true =>
    rw [cond_true, idxn bv vn 7 hv, Option.bind_some]
    simp only [add00, j0, j1, j2, j3, j4, j5, j6, Option.bind_some, a_texture_one_0N]
    rw [b1, ivI, b2, ivI]
    rfl
  | false =>
    simp only [cond_false, a_texture_one_0N]
    rw [b1, ivI, b2, ivI]
    rfl
end
end Go.LI.Film

/- PfmSizes: what the walk computes for pictures of zeros, over an oracle. -/
import Derived.Test.YtmhoddmenfondaaDoorDoorB
import Derived.Test.YtmhoddmenfondaaDoorDoorC
import Derived.Test.YtmhoddmenfondaaDoorHpA
namespace Go.LI.Door
open Go.Proofs.YtmhoddmenfondaaDoor Go Go.Proofs Go.LI
set_option linter.unusedVariables false
set_option linter.unusedSimpArgs false
set_option maxRecDepth 100000

theorem wr {v : Int} (h1 : -9223372036854775808 ≤ v) (h2 : v < 9223372036854775808) : IntKind.wrap .i64 v = v := by
  have e1 : IntKind.i64.bits = 64 := rfl
  unfold IntKind.wrap
  simp only [IntKind.signed, Bool.true_and, decide_eq_true_eq, ge_iff_le, e1]
  split <;> omega
theorem u64_mod (p : Int) : 0 ≤ IntKind.wrap .u64 p := by
  have e1 : IntKind.u64.bits = 64 := rfl
  unfold IntKind.wrap
  simp only [IntKind.signed, Bool.false_and, decide_eq_true_eq, ge_iff_le, e1]
  simp only [Bool.false_eq_true, if_false]
  omega
theorem side_of (p : Int) {m : Nat} (hm : 0 < m) (hm1 : m ≤ 1000) : ∃ w : Nat, 1 ≤ w ∧ w ≤ m ∧ IntKind.wrap .i64 ((1 : Int) + (IntKind.wrap .i64 (Int.tmod (IntKind.wrap .u64 p) (m : Int)))) = (w : Int) := by
  have h0 := u64_mod p
  generalize IntKind.wrap .u64 p = q at h0
  have e : Int.tmod q (m : Int) = q % (m : Int) := Int.tmod_eq_emod_of_nonneg h0
  have h1 : 0 ≤ q % (m : Int) := Int.emod_nonneg _ (by omega)
  have h2 : q % (m : Int) < m := Int.emod_lt_of_pos _ (by omega)
  rw [e]
  generalize q % (m : Int) = z at h1 h2
  refine ⟨(1 + z).toNat, by omega, by omega, ?_⟩
  rw [wr (v := z) (by omega) (by omega), wr (by omega) (by omega)]
  omega

theorem sl_appendM {base : Nat} {G : GH} {e sz bytes : Nat} {a : Option GA} {n m : Nat} {cs x : List IV} (h : Sl base G e sz a n cs) (hb : base ≤ G.length) (hx : x.length = m * sz) (hm : m ≠ 0) (hr : (n + m) * bytes ≤ roomI) :
    ∃ a' G', gappend (gnew G x e) e sz bytes a n x m = some (some a', G') ∧ Sl base G' e sz (some a') (n + m) (cs ++ x) ∧ Keeps base G G' ∧ base ≤ G'.length := by
  obtain ⟨hl, h | ⟨b, h1, h2, h3⟩⟩ := h
  · obtain ⟨rfl, rfl⟩ := h
    have hcs : cs = [] := List.length_eq_zero_iff.1 (by simpa using hl)
    subst hcs
    have hk := (keeps_new G x e hb).trans (keeps_new (gnew G x e) x e (by rw [gnew_length]; omega))
    refine ⟨gaddr (gnew G x e), gnew (gnew G x e) x e, ?_, ⟨by simp [hx], .inr ⟨G.length + 1, by omega, by simp [gaddr, gnew_length], ?_⟩⟩, hk, by have := hk.1; omega⟩
    · unfold gappend
      rw [if_pos hr]
      simp [hm]
    · have := gnew_at (gnew G x e) x e
      rw [gnew_length] at this
      simpa using this
  · subst h2
    have hbl := (List.getElem?_eq_some_iff.1 h3).1
    have hG1 : (gnew G x e)[b]? = some ⟨cs, e, 1⟩ := by rw [gnew_old hbl]; exact h3
    have hgr : grd (gnew G x e) ⟨b, 0⟩ (n * sz) = some cs := by rw [← hl]; simp [grd, hG1]
    have hown : gown (gnew G x e) b e = true := by simp [gown, hG1]
    have hkill : gkill (gnew G x e) b = (gnew G x e).set b ⟨cs, e, 2⟩ := by simp [gkill, hG1]
    refine ⟨gaddr (gnew G x e), gnew ((gnew G x e).set b ⟨cs, e, 2⟩) (cs ++ x) e, ?_, ⟨by simp [hx, hl]; rw [Nat.add_mul], .inr ⟨G.length + 1, by omega, by simp [gaddr, gnew_length], ?_⟩⟩, ?_, by simp [gnew_length]; omega⟩
    · unfold gappend
      rw [if_pos hr]
      simp only [hgr, hown, hkill]
    · have := gnew_at ((gnew G x e).set b ⟨cs, e, 2⟩) (cs ++ x) e
      rw [List.length_set, gnew_length] at this
      exact this
    · refine ⟨by simp [gnew_length]; omega, fun i hi => ?_⟩
      rw [gnew_old (by rw [List.length_set, gnew_length]; omega), List.getElem?_set_ne (by omega), gnew_old (by omega)]

/-- A block of n samples that are zero. -/
def ZB (G : GH) (b n : Nat) : Prop := G[b]? = some ⟨List.replicate n (.float .f64 0), 39, 1⟩
theorem ZB.ld {G : GH} {b n o : Nat} (h : ZB G b n) (ho : o < n) : ldFloat G .f64 ⟨b, o⟩ = some 0 := by
  have h' : G[b]? = some ⟨List.replicate n (.float .f64 0), 39, 1⟩ := h
  simp [ldFloat, gld, h', ho]
theorem ZB.keep {G G' : GH} {b n base : Nat} (h : ZB G b n) (k : Keeps base G G') (hb : b < base) : ZB G' b n := (k.2 b hb).trans h
theorem ZB.cut {G : GH} {b n o : Nat} (h : ZB G b n) : gcut G (some ⟨b, o⟩) 39 = true := by
  have h' : G[b]? = some ⟨List.replicate n (.float .f64 0), 39, 1⟩ := h
  simp [gcut, h']

section
variable {R : Type} {O : Ora R}
/-- The callees at zero. -/
structure Z0 (O : Ora R) : Prop where
  nan : ∀ (G : GH) (k : IV → GH → Option R), O fn_math_IsNaN [.float .f64 0] G k = k (.bool false) G
  inf : ∀ (G : GH) (k : IV → GH → Option R), O fn_math_IsInf [.float .f64 0, .int .i64 0] G k = k (.bool false) G
  bits : ∀ (G : GH) (k : IV → GH → Option R), O fn_math_Float32bits [.float .f32 0] G k = k (.int .u32 0) G
  byte : ∀ (G : GH) (k : IV → GH → Option R), O fn_pfm_Byte [.float .f64 0] G k = k (.int .u8 0) G

theorem grd4 (G : GH) (c0 c1 c2 c3 : IV) : grd (gnew G [c0, c1, c2, c3] 5) (gaddr G) (4 * 1) = some [c0, c1, c2, c3] := grd_gnew G _ 5 _ rfl
theorem grd3 (G : GH) (c0 c1 c2 : IV) : grd (gnew G [c0, c1, c2] 5) (gaddr G) (3 * 1) = some [c0, c1, c2] := grd_gnew G _ 5 _ rfl

theorem iv32 : ivInt .u32 (.int .u32 0) = some 0 := rfl
theorem iv8 : ivInt .u8 (.int .u8 0) = some 0 := rfl
/-- One sample is written: a row's round. -/
theorem row_step (hZ : Z0 O) {Kret} {KN : Option GA → Nat → Int → Option GA → Nat → Int → Int → Int → Int → Option GA → Nat → GH → Option R} {K2} {base b n off w : Nat} {G : GH} {s5a : Option GA} {s5n i : Nat} {cs : List IV}
    (hB : ZB G b n) (hb : b < base) (hS : Sl base G 5 1 s5a s5n cs) (hG : base ≤ G.length) (hn : s5n + 12 ≤ 1000000) (hi : i < w) (ho : off + (i * 3 + 3) ≤ n) (hw : w ≤ 1000) (s6 b0 b1 : Int) (pa : Option GA) (pn : Nat) :
    ∃ a' G' cs', u_pfm_Write_1 O Kret KN K2 s5a s5n s6 (some ⟨b, off⟩) w (w : Int) (i : Int) b0 b1 pa pn G = KN (some a') (s5n + 12) s6 (some ⟨b, off⟩) w (w : Int) ((i + 1 : Nat) : Int) b0 b1 pa pn G' ∧
      Sl base G' 5 1 (some a') (s5n + 12) cs' ∧ Keeps base G G' ∧ base ≤ G'.length := by
  have e1 : IntKind.wrap .i64 ((i : Int) + (1 : Int)) = ((i + 1 : Nat) : Int) := by rw [wr (by omega) (by omega)]; omega
  have hidx : idx? (some ⟨b, off⟩) w (i : Int) 3 = some ⟨b, off + i * 3⟩ := by
    simp only [idx?]
    rw [if_pos ⟨by omega, by omega⟩]
    rfl
  have hlt : decide ((i : Int) < (w : Int)) = true := by simpa using (by omega : (i : Int) < w)
  have l0 : ldFloat G .f64 (GA.add ⟨b, off + i * 3⟩ 0) = some 0 := hB.ld (o := off + i * 3 + 0) (by omega)
  have l1 : ldFloat G .f64 (GA.add ⟨b, off + i * 3⟩ 1) = some 0 := hB.ld (o := off + i * 3 + 1) (by omega)
  have l2 : ldFloat G .f64 (GA.add ⟨b, off + i * 3⟩ 2) = some 0 := hB.ld (o := off + i * 3 + 2) (by omega)
  have room : roomI = 1099511627776 := rfl
  obtain ⟨a1, G1, g1, S1, K1, B1⟩ := sl_appendM (bytes := 1) (m := 4) hS hG (x := [.int .u8 0, .int .u8 0, .int .u8 0, .int .u8 0]) rfl (by decide) (by omega)
  obtain ⟨a2, G2, g2, S2, K2', B2⟩ := sl_appendM (bytes := 1) (m := 4) S1 B1 (x := [.int .u8 0, .int .u8 0, .int .u8 0, .int .u8 0]) rfl (by decide) (by omega)
  obtain ⟨a3, G3, g3, S3, K3, B3⟩ := sl_appendM (bytes := 1) (m := 4) S2 B2 (x := [.int .u8 0, .int .u8 0, .int .u8 0, .int .u8 0]) rfl (by decide) (by omega)
  have w0 : IntKind.wrap .u8 0 = 0 := by decide
  have s8 : shrI .u32 0 8 = 0 := by decide
  have s16 : shrI .u32 0 16 = 0 := by decide
  have s24 : shrI .u32 0 24 = 0 := by decide
  refine ⟨a3, G3, _, ?_, S3, (K1.trans K2').trans K3, B3⟩
  unfold u_pfm_Write_1
  simp only [hlt, cond_true, hidx, Option.bind_some, l0, l1, l2, n0, n1, n2, hZ.nan, hZ.inf, hZ.bits, ivBool, iv32, cond_false, w0, s8, s16, s24, grd4, g1, g2, g3, e1, if_true]

/-- A row. -/
theorem row_loop (hZ : Z0 O) {Kret K2} {base b n off w : Nat} (hb : b < base) (hw : w ≤ 1000) (s6 b0 b1 : Int) (pa : Option GA) (pn : Nat) (ho : off + w * 3 ≤ n) :
    ∀ (m i F : Nat) (G : GH) (s5a : Option GA) (s5n : Nat) (cs : List IV), i + m = w → m < F → ZB G b n → Sl base G 5 1 s5a s5n cs → base ≤ G.length → s5n + 12 * m ≤ 1000000 →
    ∃ a' n' G' cs', l_pfm_Write_1 O Kret K2 F s5a s5n s6 (some ⟨b, off⟩) w (w : Int) (i : Int) b0 b1 pa pn G = K2 a' n' s6 b0 b1 pa pn G' ∧ n' = s5n + 12 * m ∧ Sl base G' 5 1 a' n' cs' ∧ Keeps base G G' ∧ base ≤ G'.length := by
  intro m
  induction m with
  | zero =>
    intro i F G s5a s5n cs hi hF hB hS hG hn
    obtain ⟨F, rfl⟩ : ∃ F', F = F' + 1 := ⟨F - 1, by omega⟩
    have hlt : decide ((i : Int) < (w : Int)) = false := by simpa using (by omega : ¬ (i : Int) < w)
    refine ⟨s5a, s5n, G, cs, ?_, by omega, hS, Keeps.refl _ _, hG⟩
    simp only [l_pfm_Write_1, u_pfm_Write_1, hlt, cond_false]
  | succ m ih =>
    intro i F G s5a s5n cs hi hF hB hS hG hn
    obtain ⟨F, rfl⟩ : ∃ F', F = F' + 1 := ⟨F - 1, by omega⟩
    obtain ⟨a1, G1, cs1, e, S1, K1, B1⟩ := row_step hZ (Kret := Kret) (KN := l_pfm_Write_1 O Kret K2 F) (K2 := K2) (i := i) (off := off) (w := w) hB hb hS hG (by omega) (by omega) (by omega) hw s6 b0 b1 pa pn
    obtain ⟨a2, n2, G2, cs2, e2, h2, S2, K2', B2⟩ := ih (i + 1) F G1 (some a1) (s5n + 12) cs1 (by omega) (by omega) (hB.keep K1 hb) S1 B1 (by omega)
    refine ⟨a2, n2, G2, cs2, ?_, by omega, S2, K1.trans K2', B2⟩
    simp only [l_pfm_Write_1]
    rw [e]
    exact e2

/-- All rows, from the last one. -/
theorem rows_loop (hZ : Z0 O) {Kret K0} {base b w h F : Nat} (hb : b < base) (hw : 1 ≤ w ∧ w ≤ 30) (hh : h ≤ 30) (hF : 100 ≤ F) :
    ∀ (j f : Nat) (G : GH) (s5a : Option GA) (s5n : Nat) (cs : List IV), j ≤ h → j < f → ZB G b (w * h * 3) → Sl base G 5 1 s5a s5n cs → base ≤ G.length → s5n + 12 * (w * j) ≤ 1000000 →
    ∃ a' n' G' cs', l_pfm_Write_0 O F Kret K0 f s5a s5n ((j : Int) - 1) (w : Int) (h : Int) (some ⟨b, 0⟩) (w * h) G = K0 a' n' (w : Int) (h : Int) (some ⟨b, 0⟩) (w * h) G' ∧ n' = s5n + 12 * (w * j) ∧ Sl base G' 5 1 a' n' cs' ∧ Keeps base G G' ∧ base ≤ G'.length := by
  intro j
  induction j with
  | zero =>
    intro f G s5a s5n cs hj hf hB hS hG hn
    obtain ⟨f, rfl⟩ : ∃ F', f = F' + 1 := ⟨f - 1, by omega⟩
    have hlt : decide (((0 : Nat) : Int) - 1 ≥ (0 : Int)) = false := by decide
    refine ⟨s5a, s5n, G, cs, ?_, by simp, hS, Keeps.refl _ _, hG⟩
    simp only [l_pfm_Write_0, u_pfm_Write_0, hlt, cond_false]
  | succ j ih =>
    intro f G s5a s5n cs hj hf hB hS hG hn
    obtain ⟨f, rfl⟩ : ∃ F', f = F' + 1 := ⟨f - 1, by omega⟩
    have hm1 : w * (j + 1) = w * j + w := by rw [Nat.mul_add]; omega
    have hjh : w * (j + 1) ≤ w * h := Nat.mul_le_mul_left _ hj
    have hjw : w * j ≤ 30 * 30 := Nat.mul_le_mul (by omega) (by omega)
    have ej : (((j + 1 : Nat) : Int) - 1) = (j : Int) := by omega
    have hge : decide ((j : Int) ≥ (0 : Int)) = true := by simp
    have e1 : IntKind.wrap .i64 ((j : Int) * (w : Int)) = ((w * j : Nat) : Int) := by
      rw [show ((j : Int) * (w : Int)) = ((w * j : Nat) : Int) by rw [Nat.mul_comm]; exact (Int.natCast_mul _ _).symm]
      exact wr (by omega) (by omega)
    have e2 : IntKind.wrap .i64 ((j : Int) + (1 : Int)) = ((j + 1 : Nat) : Int) := by rw [wr (by omega) (by omega)]; omega
    have e3 : IntKind.wrap .i64 (((j + 1 : Nat) : Int) * (w : Int)) = ((w * j + w : Nat) : Int) := by
      rw [show (((j + 1 : Nat) : Int) * (w : Int)) = ((w * j + w : Nat) : Int) by rw [← hm1, Nat.mul_comm]; exact (Int.natCast_mul _ _).symm]
      exact wr (by omega) (by omega)
    have e4 : IntKind.wrap .i64 ((j : Int) - (1 : Int)) = (j : Int) - 1 := wr (by omega) (by omega)
    have c1 : decide (0 ≤ ((w * j : Nat) : Int) ∧ ((w * j : Nat) : Int) ≤ ((w * j + w : Nat) : Int) ∧ ((w * j + w : Nat) : Int) ≤ ((w * h : Nat) : Int)) = true := by
      simp only [decide_eq_true_eq]
      exact ⟨by omega, by omega, by omega⟩
    have e5 : Int.toNat ((w * j + w : Nat) : Int) - Int.toNat ((w * j : Nat) : Int) = w := by omega
    obtain ⟨a1, n1, G1, cs1, r1, hn1, S1, K1, B1⟩ := row_loop hZ (Kret := a_pfm_Write_1ret O Kret (l_pfm_Write_0 O F Kret K0 f) K0) (K2 := a_pfm_Write_12 O Kret (l_pfm_Write_0 O F Kret K0 f) K0) (base := base) (b := b) (n := w * h * 3) (off := w * j * 3) (w := w) hb (by omega) (j : Int) (w : Int) (h : Int) (some ⟨b, 0⟩) (w * h) (by omega) w 0 F G s5a s5n cs (by omega) (by omega) hB hS hG (by omega)
    obtain ⟨a2, n2, G2, cs2, r2, hn2, S2, K2', B2⟩ := ih f G1 a1 n1 cs1 (by omega) (by omega) (hB.keep K1 hb) S1 B1 (by omega)
    refine ⟨a2, n2, G2, cs2, ?_, by omega, S2, K1.trans K2', B2⟩
    simp only [l_pfm_Write_0, u_pfm_Write_0, ej, hge, cond_true, e1, e2, e3, hB.cut, Bool.and_true]
    rw [c1, cond_true, e5]
    simp only [L_pfm_Write_1, cutA, GA.add, Int.toNat_natCast, Nat.zero_add]
    refine Eq.trans r1 ?_
    simp only [a_pfm_Write_12, e4]
    exact r2

/-- Bytes of zeros: the loop of WritePPM. -/
theorem ppm_loop (hZ : Z0 O) {K0} {base b N : Nat} (hb : b < base) (hN : N ≤ 1000) (b0 b1 : Int) :
    ∀ (m i F : Nat) (G : GH) (s5a : Option GA) (s5n : Nat) (cs : List IV), i + m = N → m < F → ZB G b (N * 3) → Sl base G 5 1 s5a s5n cs → base ≤ G.length → s5n + 3 * m ≤ 1000000 →
    ∃ a' n' G' cs', l_pfm_WritePPM_0 O K0 F s5a s5n (some ⟨b, 0⟩) N (N : Int) (i : Int) b0 b1 (some ⟨b, 0⟩) N G = K0 a' n' b0 b1 (some ⟨b, 0⟩) N G' ∧ n' = s5n + 3 * m ∧ Sl base G' 5 1 a' n' cs' ∧ Keeps base G G' ∧ base ≤ G'.length := by
  intro m
  induction m with
  | zero =>
    intro i F G s5a s5n cs hi hF hB hS hG hn
    obtain ⟨F, rfl⟩ : ∃ F', F = F' + 1 := ⟨F - 1, by omega⟩
    have hlt : decide ((i : Int) < (N : Int)) = false := by simpa using (by omega : ¬ (i : Int) < N)
    refine ⟨s5a, s5n, G, cs, ?_, by omega, hS, Keeps.refl _ _, hG⟩
    simp only [l_pfm_WritePPM_0, u_pfm_WritePPM_0, hlt, cond_false]
  | succ m ih =>
    intro i F G s5a s5n cs hi hF hB hS hG hn
    obtain ⟨F, rfl⟩ : ∃ F', F = F' + 1 := ⟨F - 1, by omega⟩
    have e1 : IntKind.wrap .i64 ((i : Int) + (1 : Int)) = ((i + 1 : Nat) : Int) := by rw [wr (by omega) (by omega)]; omega
    have hidx : idx? (some ⟨b, 0⟩) N (i : Int) 3 = some ⟨b, 0 + i * 3⟩ := by
      simp only [idx?]
      rw [if_pos ⟨by omega, by omega⟩]
      rfl
    have hlt : decide ((i : Int) < (N : Int)) = true := by simpa using (by omega : (i : Int) < N)
    have l0 : ldFloat G .f64 (GA.add ⟨b, 0 + i * 3⟩ 0) = some 0 := hB.ld (o := 0 + i * 3 + 0) (by omega)
    have l1 : ldFloat G .f64 (GA.add ⟨b, 0 + i * 3⟩ 1) = some 0 := hB.ld (o := 0 + i * 3 + 1) (by omega)
    have l2 : ldFloat G .f64 (GA.add ⟨b, 0 + i * 3⟩ 2) = some 0 := hB.ld (o := 0 + i * 3 + 2) (by omega)
    have room : roomI = 1099511627776 := rfl
    obtain ⟨a1, G1, g1, S1, K1, B1⟩ := sl_appendM (bytes := 1) (m := 3) hS hG (x := [.int .u8 0, .int .u8 0, .int .u8 0]) rfl (by decide) (by omega)
    obtain ⟨a2, n2, G2, cs2, e2, h2, S2, K2', B2⟩ := ih (i + 1) F G1 (some a1) (s5n + 3) _ (by omega) (by omega) (hB.keep K1 hb) S1 B1 (by omega)
    refine ⟨a2, n2, G2, cs2, ?_, by omega, S2, K1.trans K2', B2⟩
    simp only [l_pfm_WritePPM_0, u_pfm_WritePPM_0, hlt, cond_true, hidx, Option.bind_some, l0, l1, l2, hZ.byte, iv8, grd3, g1, e1, if_true]
    exact e2
end
end Go.LI.Door

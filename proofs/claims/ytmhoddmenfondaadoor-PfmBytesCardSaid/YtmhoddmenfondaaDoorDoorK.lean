/- PfmBytes over an oracle. -/
import Derived.Test.YtmhoddmenfondaaDoorDoorI
namespace Go.LI.Door
open Go.Proofs.YtmhoddmenfondaaDoor Go Go.Proofs Go.LI Go.LI.Fl
set_option linter.unusedVariables false
set_option linter.unusedSimpArgs false
set_option maxRecDepth 100000

theorem Sl.by {base n : Nat} {G : GH} {a : Option GA} {bs : List UInt8} (h : Sl base G 5 1 a n (bytesI bs)) (h0 : bs ≠ []) : ∃ b, base ≤ b ∧ a = some ⟨b, 0⟩ ∧ By G b 0 bs ∧ n = bs.length := by
  obtain ⟨hl, h | ⟨b, h1, h2, h3⟩⟩ := h
  · obtain ⟨rfl, rfl⟩ := h
    rw [bytesI_length] at hl
    exact absurd (List.length_eq_zero_iff.1 (by omega)) h0
  · rw [bytesI_length] at hl
    exact ⟨b, h1, h2, ⟨_, 1, h3, by decide, by rw [bytesI_length]; omega, by rw [List.drop_zero, List.take_of_length_le (by rw [bytesI_length]; exact Nat.le_refl _)]⟩, by omega⟩
theorem Sl.fb {base n : Nat} {G : GH} {a : Option GA} {bs : List UInt8} (h : Sl base G 39 3 a n (flc bs)) (h0 : n ≠ 0) : ∃ b, base ≤ b ∧ a = some ⟨b, 0⟩ ∧ FB3 G b bs := by
  obtain ⟨hl, h | ⟨b, h1, h2, h3⟩⟩ := h
  · exact absurd h.2 h0
  · exact ⟨b, h1, h2, h3⟩

section
variable {R : Type} {O : Ora R}
abbrev SI6 (O : Ora R) : Prop := ∀ (x : Nat) (G : GH) (k : IV → GH → Option R), 1 ≤ x → x ≤ 6 → O fn_strconv_Itoa [.int .i64 (x : Int)] G k = k (.str [dgt x]) G
abbrev SH6 (O : Ora R) : Prop := ∀ (w h : Nat) (a : Option GA) (n : Nat) (G : GH) (k : IV → GH → Option R), 1 ≤ w → w ≤ 6 → 1 ≤ h → h ≤ 6 →
  O fn_pfm_head [.str [80, 54], .agg [.int .i64 (w : Int), .int .i64 (h : Int), .slice a n], .str [50, 53, 53]] G k = k (.slice (some (gaddr G)) 11) (gnew G (bytesI (hd w h)) 5)
theorem iH6 (hI : SI6 O) {F w h : Nat} (a : Option GA) (n : Nat) (G : GH) (k : IV → GH → Option R) (hw1 : 1 ≤ w) (hw : w ≤ 6) (hh1 : 1 ≤ h) (hh : h ≤ 6) :
    bodyC Tryd.prog O [4, 777777] F Tryd.f25 [.str [80, 54], .agg [.int .i64 (w : Int), .int .i64 (h : Int), .slice a n], .str [50, 53, 53]] G k = k (.slice (some (gaddr G)) 11) (gnew G (bytesI (hd w h)) 5) := by
  rw [e_pfm_head, room_of (by simp only [List.length_append, List.length_cons, List.length_nil]; omega), cond_true, hI w _ _ hw1 hw]
  simp only [ivSt, Option.bind_some]
  rw [room_of (by simp only [List.length_append, List.length_cons, List.length_nil]; omega), cond_true, room_of (by simp only [List.length_append, List.length_cons, List.length_nil]; omega), cond_true, hI h _ _ hh1 hh]
  simp only [ivSt, Option.bind_some]
  rw [room_of (by simp only [List.length_append, List.length_cons, List.length_nil]; omega), cond_true, room_of (by simp only [List.length_append, List.length_cons, List.length_nil]; omega), cond_true,
    room_of (by simp only [List.length_append, List.length_cons, List.length_nil]; omega), cond_true, room_of (by simp only [List.length_append, List.length_cons, List.length_nil]; omega), cond_true]
  rfl

abbrev SWB (O : Ora R) : Prop := ∀ (w h b base : Nat) (bs : List UInt8) (G : GH) (k : IV → GH → Option R), 1 ≤ w → w ≤ 6 → 1 ≤ h → h ≤ 6 → 3 * (w * h) = bs.length → FB3 G b bs → b < base → base ≤ G.length →
  ∃ a' G', O fn_pfm_WritePPM [.agg [.int .i64 (w : Int), .int .i64 (h : Int), .slice (some ⟨b, 0⟩) (w * h)]] G k = k (.tuple [.slice a' (11 + bs.length), .int .i64 0]) G' ∧ Sl base G' 5 1 a' (11 + bs.length) (bytesI (hd w h ++ bs)) ∧ Keeps base G G' ∧ base ≤ G'.length
theorem p36 {w h : Nat} (hw : w ≤ 6) (hh : h ≤ 6) : w * h ≤ 36 := Nat.mul_le_mul hw hh
theorem iWB (hBy : SBy O) (hC : SCh O) (hH : SH6 O) {F w h b base : Nat} {bs : List UInt8} (hF : 100 ≤ F) (G : GH) (k : IV → GH → Option R) (hw1 : 1 ≤ w) (hw : w ≤ 6) (hh1 : 1 ≤ h) (hh : h ≤ 6) (hN : 3 * (w * h) = bs.length) (hB : FB3 G b bs) (hb : b < base) (hG : base ≤ G.length) :
    ∃ a' G', bodyC Tryd.prog O lo13 F Tryd.f13 [.agg [.int .i64 (w : Int), .int .i64 (h : Int), .slice (some ⟨b, 0⟩) (w * h)]] G k = k (.tuple [.slice a' (11 + bs.length), .int .i64 0]) G' ∧ Sl base G' 5 1 a' (11 + bs.length) (bytesI (hd w h ++ bs)) ∧ Keeps base G G' ∧ base ≤ G'.length := by
  have hp := p36 hw hh
  have k0 : Keeps base G (gnew G (bytesI (hd w h)) 5) := keeps_new G _ 5 hG
  have S0 : Sl base (gnew G (bytesI (hd w h)) 5) 5 1 (some (gaddr G)) ((hd w h).length + 3 * 0) (bytesI (hd w h ++ bs.take (3 * 0))) := by
    rw [Nat.mul_zero, List.take_zero, List.append_nil]
    exact ⟨by rw [bytesI_length]; omega, .inr ⟨G.length, hG, rfl, gnew_at G _ 5⟩⟩
  obtain ⟨a', G', r, S, K, B⟩ := write_loop hBy (K0 := a_pfm_WritePPM_00 O k) (base := base) (b := b) (N := w * h) (bs := bs) (hd := hd w h) hb hN (by omega) (by simp [hd]) (w : Int) (h : Int) (w * h) 0 F (gnew G (bytesI (hd w h)) 5) (some (gaddr G)) (by omega) (by omega) (hB.keep k0 hb) S0 (by rw [gnew_length]; omega)
  have e11 : (hd w h).length + 3 * (w * h) = 11 + bs.length := by rw [hN]; rfl
  refine ⟨a', G', ?_, by rw [← e11]; exact S, k0.trans K, B⟩
  rw [e_pfm_WritePPM]
  unfold u_pfm_WritePPM
  rw [hC w h _ _ _ hw1 (by omega) hh1 (by omega)]
  simp only [iv64, Option.bind_some, ne0, cond_false]
  rw [hH w h _ _ _ _ hw1 hw hh1 hh]
  simp only [ivSl, Option.bind_some]
  rw [← e11]
  exact r

abbrev SRp (O : Ora R) : Prop := ∀ (w h b o : Nat) (bs : List UInt8) (G : GH) (k : IV → GH → Option R), 1 ≤ w → w ≤ 6 → 1 ≤ h → h ≤ 6 → 3 * (w * h) = bs.length → By G b o (hd w h ++ bs) →
  ∃ a' G', O fn_pfm_ReadPPM [.slice (some ⟨b, o⟩) (11 + bs.length)] G k = k (.tuple [.agg [.int .i64 (w : Int), .int .i64 (h : Int), .slice a' (w * h)], .int .i64 0]) G' ∧ Sl G.length G' 39 3 a' (w * h) (flc bs) ∧ Keeps G.length G G'
theorem t5 (a b c d e : IV) : ivTup 5 (.tuple [a, b, c, d, e]) = some [a, b, c, d, e] := rfl
theorem iRp (hB0 : SBg O) {F w h b o : Nat} {bs : List UInt8} (hF : 100 ≤ F) (G : GH) (k : IV → GH → Option R) (hw1 : 1 ≤ w) (hw : w ≤ 6) (hh1 : 1 ≤ h) (hh : h ≤ 6) (hN : 3 * (w * h) = bs.length) (hB : By G b o (hd w h ++ bs)) :
    ∃ a' G', bodyC Tryd.prog O lo16 F Tryd.f16 [.slice (some ⟨b, o⟩) (11 + bs.length)] G k = k (.tuple [.agg [.int .i64 (w : Int), .int .i64 (h : Int), .slice a' (w * h)], .int .i64 0]) G' ∧ Sl G.length G' 39 3 a' (w * h) (flc bs) ∧ Keeps G.length G G' := by
  have hp := p36 hw hh
  have hb := hB.lt
  obtain ⟨G1, e1, K1⟩ := hB0 b o w h bs G (fun v1 G2 =>
    (ivTup 5 v1).bind fun c3 => (ivInt .i64 (c3.getD 0 undefI)).bind fun x4 => (ivInt .i64 (c3.getD 1 undefI)).bind fun x5 => (ivStr (c3.getD 2 undefI)).bind fun x6 => (ivSlice (c3.getD 3 undefI)).bind fun x7 => (ivInt .i64 (c3.getD 4 undefI)).bind fun x8 =>
    bif (x8 != (0 : Int)) then k (.tuple [.agg [.int .i64 (0 : Int), .int .i64 (0 : Int), .slice none 0], .int .i64 x8]) G2 else
    bif (!(x6 == ([50, 53, 53] : List UInt8))) then k (.tuple [.agg [.int .i64 (0 : Int), .int .i64 (0 : Int), .slice none 0], .int .i64 (80 : Int)]) G2 else
    bif ((x7.2 : Int) != (IntKind.wrap .i64 ((IntKind.wrap .i64 ((3 : Int) * x4)) * x5))) then k (.tuple [.agg [.int .i64 (0 : Int), .int .i64 (0 : Int), .slice none 0], .int .i64 (81 : Int)]) G2 else
    L_pfm_ReadPPM_0 O F k x7.1 x7.2 (IntKind.wrap .i64 (x4 * x5)) (0 : Int) (0 : Int) (0 : Int) none 0 x4 x5 none 0 G2) hB (by omega) hw1 hw hh1 hh
  have hB1 : By G1 b (o + 11) (bs ++ []) := by rw [List.append_nil]; exact (By.right (l := hd w h) hB).keep K1 hb
  obtain ⟨a', G', r, S, K, B⟩ := read_loop (O := O) (K1 := a_pfm_ReadPPM_01 O k) (base := G.length) (b := b) (o := o + 11) (N := w * h) (bs := bs) (rest := []) hb hN (by omega) bs.length (Nat.le_refl _) (0 : Int) (0 : Int) none 0 (w : Int) (h : Int) (w * h) 0 F G1 none (by omega) (by omega) hB1 (by simpa [flc] using sl_nil G.length G1 39 3) K1.1
  refine ⟨a', G', ?_, S, K1.trans K⟩
  rw [e_pfm_ReadPPM]
  unfold u_pfm_ReadPPM
  refine e1.trans ?_
  rw [t5, Option.bind_some]
  have m3 := m12 (w := w) (h := h) (by omega) (by omega) 3 (by decide)
  have e3 : ((bs.length : Int) != ((3 * (w * h) : Nat) : Int)) = false := by rw [hN]; simp
  simp only [List.getD_cons_zero, List.getD_cons_succ, ivI64, ivSt, ivSc, Option.bind_some, ne0, cond_false, beq_self_eq_true, Bool.not_true]
  rw [show (3 : Int) = ((3 : Nat) : Int) from rfl, m3, e3, cond_false, wmul (by omega) (by omega)]
  exact r

abbrev SSm (O : Ora R) : Prop := ∀ (w h : Int) (N b1 b2 : Nat) (bs : List UInt8) (G : GH) (k : IV → GH → Option R), N * 3 = bs.length → N ≤ 1000 → FB3 G b1 bs → FB3 G b2 bs →
  O fn_ref08_Same [.agg [.int .i64 w, .int .i64 h, .slice (some ⟨b1, 0⟩) N], .agg [.int .i64 w, .int .i64 h, .slice (some ⟨b2, 0⟩) N]] G k = k (.bool true) G
theorem same_in (h33 : S33 O) {Kret K2} {N b1 b2 i : Nat} {bs : List UInt8} {G : GH} (h1 : FB3 G b1 bs) (h2 : FB3 G b2 bs) (hN : N * 3 = bs.length) (hi : i < N) (hN1 : N ≤ 1000) (p0 p1 q0 q1 : Int) : ∀ (m j F : Nat), j + m = 3 → m < F →
    l_ref08_Same_2 O Kret K2 F (i : Int) (j : Int) p0 p1 (some ⟨b1, 0⟩) N q0 q1 (some ⟨b2, 0⟩) N G = K2 (i : Int) p0 p1 (some ⟨b1, 0⟩) N q0 q1 (some ⟨b2, 0⟩) N G := by
  intro m
  induction m with
  | zero =>
    intro j F hj hF
    obtain ⟨F, rfl⟩ : ∃ F', F = F' + 1 := ⟨F - 1, by omega⟩
    obtain rfl : j = 3 := by omega
    have hlt : decide (((3 : Nat) : Int) < (3 : Int)) = false := by decide
    simp only [l_ref08_Same_2, u_ref08_Same_2, hlt, cond_false]
  | succ m ih =>
    intro j F hj hF
    obtain ⟨F, rfl⟩ : ∃ F', F = F' + 1 := ⟨F - 1, by omega⟩
    have hlt : decide ((j : Int) < (3 : Int)) = true := by simp only [decide_eq_true_eq]; omega
    have hc : 0 ≤ (j : Int) ∧ (j : Int) < (3 : Int) := ⟨by omega, by omega⟩
    have w1 : IntKind.wrap .i64 ((j : Int) + (1 : Int)) = ((j + 1 : Nat) : Int) := wr31 (by omega) 1 (by decide)
    have x1 : idx? (some (⟨b1, 0⟩ : GA)) N (i : Int) 3 = some ⟨b1, i * 3⟩ := by
      simp only [idx?]; rw [if_pos ⟨by omega, by omega⟩]; simp [GA.add]
    have x2 : idx? (some (⟨b2, 0⟩ : GA)) N (i : Int) 3 = some ⟨b2, i * 3⟩ := by
      simp only [idx?]; rw [if_pos ⟨by omega, by omega⟩]; simp [GA.add]
    have l1 : ldFloat G .f64 (GA.add ⟨b1, i * 3⟩ (Int.toNat (j : Int) * 1)) = some (fl (bs[i * 3 + j]'(by omega))) := by
      have := h1.ld (o := i * 3 + j) (by omega)
      simpa [GA.add] using this
    have l2 : ldFloat G .f64 (GA.add ⟨b2, i * 3⟩ (Int.toNat (j : Int) * 1)) = some (fl (bs[i * 3 + j]'(by omega))) := by
      have := h2.ld (o := i * 3 + j) (by omega)
      simpa [GA.add] using this
    have iu : ∀ n : Int, ivInt .u64 (.int .u64 n) = some n := fun _ => rfl
    simp only [l_ref08_Same_2, u_ref08_Same_2, hlt, cond_true, x1, x2, Option.bind_some, if_pos hc, l1, l2, h33, iu, bne_self_eq_false, cond_false, w1]
    exact ih (j + 1) F (by omega) (by omega)
theorem same_out (h33 : S33 O) {Kret K0} {N b1 b2 F0 : Nat} {bs : List UInt8} {G : GH} (h1 : FB3 G b1 bs) (h2 : FB3 G b2 bs) (hN : N * 3 = bs.length) (hN1 : N ≤ 1000) (hF0 : 4 ≤ F0) (p0 p1 q0 q1 : Int) : ∀ (m i F : Nat), i + m = N → m < F →
    l_ref08_Same_1 O F0 Kret K0 F (i : Int) p0 p1 (some ⟨b1, 0⟩) N q0 q1 (some ⟨b2, 0⟩) N G = K0 p0 p1 (some ⟨b1, 0⟩) N q0 q1 (some ⟨b2, 0⟩) N G := by
  intro m
  induction m with
  | zero =>
    intro i F hi hF
    obtain ⟨F, rfl⟩ : ∃ F', F = F' + 1 := ⟨F - 1, by omega⟩
    have hlt : decide ((i : Int) < (N : Int)) = false := by simp; omega
    simp only [l_ref08_Same_1, u_ref08_Same_1, hlt, cond_false]
  | succ m ih =>
    intro i F hi hF
    obtain ⟨F, rfl⟩ : ∃ F', F = F' + 1 := ⟨F - 1, by omega⟩
    have hlt : decide ((i : Int) < (N : Int)) = true := by simp only [decide_eq_true_eq]; omega
    have w1 : IntKind.wrap .i64 ((i : Int) + (1 : Int)) = ((i + 1 : Nat) : Int) := wr31 (by omega) 1 (by decide)
    simp only [l_ref08_Same_1, u_ref08_Same_1, hlt, cond_true, L_ref08_Same_2]
    refine (same_in h33 h1 h2 hN (by omega) hN1 p0 p1 q0 q1 3 0 F0 (by omega) (by omega)).trans ?_
    simp only [a_ref08_Same_22, w1]
    exact ih (i + 1) F (by omega) (by omega)
theorem iSm (h33 : S33 O) {F : Nat} (hF : 2000 ≤ F) (w h : Int) (N b1 b2 : Nat) (bs : List UInt8) (G : GH) (k : IV → GH → Option R) (hN : N * 3 = bs.length) (hN1 : N ≤ 1000) (h1 : FB3 G b1 bs) (h2 : FB3 G b2 bs) :
    bodyC Tryd.prog O lo17 F Tryd.f17 [.agg [.int .i64 w, .int .i64 h, .slice (some ⟨b1, 0⟩) N], .agg [.int .i64 w, .int .i64 h, .slice (some ⟨b2, 0⟩) N]] G k = k (.bool true) G := by
  obtain ⟨F, rfl⟩ : ∃ F', F = F' + 1 := ⟨F - 1, by omega⟩
  rw [e_ref08_Same]
  unfold u_ref08_Same
  simp only [L_ref08_Same_0, stepN_succ, l_ref08_Same_0, u_ref08_Same_0, bne_self_eq_false, cond_false, a_ref08_Same_0N, L_ref08_Same_1]
  refine (same_out h33 h1 h2 hN hN1 (by omega) w h w h N 0 (F + 1) (by omega) (by omega)).trans ?_
  rfl

/-- All bytes come back. -/
theorem bytes_loop (hBy : SBy O) {Kret K0} (s0 s1 : Int) (sa : Option GA) (sn s3 s4 : Nat) (G : GH) : ∀ (m i F : Nat), i + m = 256 → m < F →
    l_law08_PfmBytes_0 O Kret K0 F s0 s1 sa sn s3 s4 (i : Int) G = K0 s0 s1 sa sn s3 s4 G := by
  intro m
  induction m with
  | zero =>
    intro i F hi hF
    obtain ⟨F, rfl⟩ : ∃ F', F = F' + 1 := ⟨F - 1, by omega⟩
    obtain rfl : i = 256 := by omega
    have hlt : decide (((256 : Nat) : Int) < (256 : Int)) = false := by decide
    simp only [l_law08_PfmBytes_0, u_law08_PfmBytes_0, hlt, cond_false]
  | succ m ih =>
    intro i F hi hF
    obtain ⟨F, rfl⟩ : ∃ F', F = F' + 1 := ⟨F - 1, by omega⟩
    have hlt : decide ((i : Int) < (256 : Int)) = true := by simp only [decide_eq_true_eq]; omega
    have w1 : IntKind.wrap .i64 ((i : Int) + (1 : Int)) = ((i + 1 : Nat) : Int) := wr31 (by omega) 1 (by decide)
    obtain ⟨r, q1, q2, q3⟩ := byte_of (v := i) (by omega)
    have w8 : IntKind.wrap .u8 (i : Int) = (i : Int) := by
      have e1 : IntKind.u8.bits = 8 := rfl
      unfold IntKind.wrap
      simp only [IntKind.signed, Bool.false_and, e1, Bool.false_eq_true, if_false]
      omega
    simp only [l_law08_PfmBytes_0, u_law08_PfmBytes_0, hlt, cond_true, q1, Option.bind_some, hBy r i G _ q3, ivI8, w8, bne_self_eq_false, cond_false, w1]
    exact ih (i + 1) F (by omega) (by omega)

/-- The law. -/
theorem bytes_b (hA : SAw O) (hBy : SBy O) (hW : SWB O) (hR : SRp O) (hS : SSm O) {F : Nat} (hF : 3000 ≤ F) (p0 p1 : Int) {pa : Option GA} {pn : Nat} {x y : Nat} (hx : x < 2 ^ 64) (hy : y < 2 ^ 64) {G : GH}
    (hD : pn = 0 ∨ ∃ b ds, pa = some ⟨b, 0⟩ ∧ By G b 0 ds ∧ pn = ds.length) (hpn : pn ≤ 140737488355328) (k : IV → GH → Option R) :
    ∃ G', bodyC Tryd.prog O lo5 (F + 1) Tryd.f5 [.int .i64 p0, .int .i64 p1, .slice pa pn, .float .f64 x, .float .f64 y] G k = k (.bool true) G' := by
  obtain ⟨w, hw1, hw, ew⟩ := side_of p0 (m := 6) (by decide) (by decide)
  obtain ⟨h, hh1, hh, eh⟩ := side_of p1 (m := 6) (by decide) (by decide)
  have ew' : IntKind.wrap .i64 ((1 : Int) + (IntKind.wrap .i64 (Int.tmod (IntKind.wrap .u64 p0) (6 : Int)))) = (w : Int) := ew
  have eh' : IntKind.wrap .i64 ((1 : Int) + (IntKind.wrap .i64 (Int.tmod (IntKind.wrap .u64 p1) (6 : Int)))) = (h : Int) := eh
  have hp := p36 hw hh
  have hp1 : 1 ≤ w * h := Nat.mul_pos hw1 hh1
  have m3 := m12 (w := w) (h := h) (by omega) (by omega) 3 (by decide)
  have m3' : IntKind.wrap .i64 ((IntKind.wrap .i64 ((3 : Int) * (w : Int))) * (h : Int)) = ((3 * (w * h) : Nat) : Int) := m3
  obtain ⟨v, v1, v2⟩ := byte_tot hx
  obtain ⟨u, u1, u2⟩ := byte_tot hy
  rw [e_law08_PfmBytes]
  unfold u_law08_PfmBytes
  rw [hA]
  simp only [ivBo, Option.bind_some, Bool.not_true, cond_false, L_law08_PfmBytes_0]
  have hloop := bytes_loop hBy (Kret := a_law08_PfmBytes_0ret O k) (K0 := a_law08_PfmBytes_00 O k (L_law08_PfmBytes_1 O (F + 1) k)) p0 p1 pa pn x y G 256 0 (F + 1) (by omega) (by omega)
  have rest : ∃ G', a_law08_PfmBytes_1N O k (L_law08_PfmBytes_2 O (F + 1) k) p0 p1 pa pn G = k (.bool true) G' := by
    unfold a_law08_PfmBytes_1N
    rw [ew', eh', m3']
    by_cases hlt : (pn : Int) < ((3 * (w * h) : Nat) : Int)
    · rw [show decide ((pn : Int) < ((3 * (w * h) : Nat) : Int)) = true by simpa using hlt, cond_true]
      exact ⟨G, rfl⟩
    · rw [show decide ((pn : Int) < ((3 * (w * h) : Nat) : Int)) = false by simp only [decide_eq_false_iff_not]; exact hlt, cond_false]
      rcases hD with h0 | ⟨b, ds, rfl, hB, rfl⟩
      · exfalso; omega
      · have hle : 3 * (w * h) ≤ ds.length := by omega
        generalize hbs : ds.take (3 * (w * h)) = bs
        generalize hrs : ds.drop (3 * (w * h)) = rs
        have hds : ds = bs ++ rs := by rw [← hbs, ← hrs, List.take_append_drop]
        have hN : 3 * (w * h) = bs.length := by rw [← hbs, List.length_take]; omega
        have hb := hB.lt
        have hB' : By G b 0 (bs ++ rs) := by rw [← hds]; exact hB
        simp only [L_law08_PfmBytes_2]
        obtain ⟨a1, G1, e1, S1, K1, B1⟩ := make_loop (O := O) (K2 := a_law08_PfmBytes_22 O k (L_law08_PfmBytes_3 O (F + 1) k)) (base := G.length) (b := b) (o := 0) (w := w) (h := h) (bs := bs) (rest := rs) hb hN hw hh (by omega) ds.length (by omega) (w : Int) (h : Int) (w * h) 0 (F + 1) G none (by omega) (by omega) hB' (by simpa [flc] using sl_nil G.length G 39 3) (Nat.le_refl _)
        obtain ⟨c1, hc1, rfl, F1⟩ := Sl.fb S1 (by omega)
        have hc1l : c1 < G1.length := (List.getElem?_eq_some_iff.1 F1).1
        obtain ⟨a2, G2, e2, S2, K2, B2⟩ := hW w h c1 G1.length bs G1 (fun v1 G2 => (ivTup 2 v1).bind fun c3 => (ivSlice (c3.getD 0 undefI)).bind fun x4 => (ivInt .i64 (c3.getD 1 undefI)).bind fun x5 =>
          L_law08_PfmBytes_3 O (F + 1) k (w : Int) (h : Int) (some ⟨b, 0⟩) ds.length x4.1 x4.2 x5 (w : Int) (h : Int) (some ⟨c1, 0⟩) (w * h) G2) hw1 hw hh1 hh hN F1 hc1l (Nat.le_refl _)
        obtain ⟨c2, hc2, rfl, F2, hn2⟩ := Sl.by S2 (by simp [hd])
        have hc2l := F2.lt
        obtain ⟨a3, G3, e3, S3, K3⟩ := hR w h c2 0 bs G2 (fun v1 G2 => (ivTup 2 v1).bind fun c3 => (ivAgg 3 (c3.getD 0 undefI)).bind fun c4 => (ivInt .i64 (c4.getD 0 undefI)).bind fun x5 => (ivInt .i64 (c4.getD 1 undefI)).bind fun x6 => (ivSlice (c4.getD 2 undefI)).bind fun x7 => (ivInt .i64 (c3.getD 1 undefI)).bind fun x8 =>
          bif (x8 == (0 : Int)) then
          O fn_ref08_Same [.agg [.int .i64 (w : Int), .int .i64 (h : Int), .slice (some ⟨c1, 0⟩) (w * h)], .agg [.int .i64 x5, .int .i64 x6, .slice x7.1 x7.2]] G2 fun v9 G10 => (ivBool v9).bind fun x11 => k (.bool x11) G10
          else k (.bool false) G2) hw1 hw hh1 hh hN F2
        obtain ⟨c3, hc3, rfl, F3⟩ := Sl.fb S3 (by omega)
        have F1' : FB3 G2 c1 bs := F1.keep K2 hc1l
        have hc1l2 : c1 < G2.length := (List.getElem?_eq_some_iff.1 F1').1
        have F1'' : FB3 G3 c1 bs := F1'.keep K3 hc1l2
        have same := hS (w : Int) (h : Int) (w * h) c1 c3 bs G3 (fun v9 G10 => (ivBool v9).bind fun x11 => k (.bool x11) G10) (by omega) (by omega) F1'' F3
        refine ⟨G3, e1.trans ?_⟩
        simp only [a_law08_PfmBytes_22]
        refine e2.trans ?_
        have hBd : By G2 b 0 (bs ++ rs) := (hB'.keep K1 hb).keep K2 (Nat.lt_of_lt_of_le hb K1.1)
        have q0 : IntKind.wrap .i64 (((11 + bs.length : Nat) : Int) - ((3 * (w * h) : Nat) : Int)) = ((11 : Nat) : Int) := by rw [hN, wr (by omega) (by omega)]; omega
        have d1 : decide (0 ≤ ((11 : Nat) : Int) ∧ ((11 : Nat) : Int) ≤ ((11 + bs.length : Nat) : Int) ∧ ((11 + bs.length : Nat) : Int) ≤ ((11 + bs.length : Nat) : Int)) = true := by simp only [decide_eq_true_eq]; exact ⟨by omega, by omega, by omega⟩
        have d2 : decide (0 ≤ (0 : Int) ∧ (0 : Int) ≤ ((3 * (w * h) : Nat) : Int) ∧ ((3 * (w * h) : Nat) : Int) ≤ (ds.length : Int)) = true := by simp only [decide_eq_true_eq]; exact ⟨by omega, by omega, by omega⟩
        have s1 := (By.right (l := hd w h) F2).str (R := R)
        have s2 := hBd.left.str (R := R)
        have n1 : Int.toNat ((11 + bs.length : Nat) : Int) - Int.toNat ((11 : Nat) : Int) = bs.length := by rw [Int.toNat_natCast, Int.toNat_natCast]; omega
        have n2 : Int.toNat ((3 * (w * h) : Nat) : Int) - Int.toNat (0 : Int) = bs.length := by rw [Int.toNat_natCast]; simp; omega
        have a1' : cutA (some (⟨c2, 0⟩ : GA)) (Int.toNat ((11 : Nat) : Int) * 1) = some ⟨c2, 0 + (hd w h).length⟩ := rfl
        have a2' : cutA (some (⟨b, 0⟩ : GA)) (Int.toNat (0 : Int) * 1) = some ⟨b, 0⟩ := rfl
        have z0 : ((0 : Int) != 0) = false := by decide
        rw [t2, Option.bind_some]
        simp only [List.getD_cons_zero, List.getD_cons_succ, ivSc, ivI64, Option.bind_some, L_law08_PfmBytes_3, stepN_succ, l_law08_PfmBytes_3, u_law08_PfmBytes_3, z0, cond_false, m3', q0]
        rw [d1, F2.cut, Bool.and_self, cond_true, n1, a1', s1, d2, hBd.cut, Bool.and_self, cond_true, n2, a2', s2]
        simp only [beq_self_eq_true, Bool.not_true, cond_false, a_law08_PfmBytes_3N]
        refine e3.trans ?_
        have z1 : ((0 : Int) == 0) = true := by decide
        have ag : ∀ a b c : IV, ivAgg 3 (.agg [a, b, c]) = some [a, b, c] := fun _ _ _ => rfl
        rw [t2, Option.bind_some]
        simp only [List.getD_cons_zero, List.getD_cons_succ, ag, ivSc, ivI64, Option.bind_some, z1, cond_true]
        exact same
  obtain ⟨G', hrest⟩ := rest
  refine ⟨G', hloop.trans ?_⟩
  simp only [a_law08_PfmBytes_00, L_law08_PfmBytes_1, stepN_succ, l_law08_PfmBytes_1, u_law08_PfmBytes_1]
  cases hle : fle .f64 x y with
  | false => rw [cond_false]; exact hrest
  | true =>
    have hm := byte_mono hx hy hle v1 u1
    have hg : decide ((v : Int) > (u : Int)) = false := by simp only [decide_eq_false_iff_not]; omega
    rw [cond_true, hBy x v _ _ v1]
    simp only [ivI8, Option.bind_some]
    rw [hBy y u _ _ u1]
    simp only [ivI8, Option.bind_some, hg, cond_false]
    exact hrest
end
end Go.LI.Door

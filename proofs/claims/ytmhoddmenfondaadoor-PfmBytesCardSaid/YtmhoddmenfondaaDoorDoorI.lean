/- Reading and writing a file of bytes, over an oracle. -/
import Derived.Test.YtmhoddmenfondaaDoorDoorH
import Derived.Test.YtmhoddmenfondaaDoorDoorE
namespace Go.LI.Door
open Go.Proofs.YtmhoddmenfondaaDoor Go Go.Proofs Go.LI Go.LI.Fl
set_option linter.unusedVariables false
set_option linter.unusedSimpArgs false
set_option maxRecDepth 100000

def dgt (x : Nat) : UInt8 := UInt8.ofNat (48 + x)
/-- A file's head. -/
def hd (w h : Nat) : List UInt8 := [80, 54, 10, dgt w, 32, dgt h, 10, 50, 53, 53, 10]
theorem dgt_ne {x : Nat} (h1 : 1 ≤ x) (h2 : x ≤ 6) : dgt x ≠ 10 := by
  rcases (by omega : x = 1 ∨ x = 2 ∨ x = 3 ∨ x = 4 ∨ x = 5 ∨ x = 6) with rfl | rfl | rfl | rfl | rfl | rfl <;> decide
/-- A byte's number between 0 and 1. -/
def fl (d : UInt8) : Nat := ((FloatKind.format .f64).div (FloatKind.nearest .f64 (d.toNat : Int)) (4643176031446892544 : Nat)).getD 0
theorem fl_spec (d : UInt8) : (FloatKind.format .f64).div (FloatKind.nearest .f64 (d.toNat : Int)) (4643176031446892544 : Nat) = some (fl d) ∧ fl d < 2 ^ 64 ∧ byteV (fl d) = some (d.toNat : Int) := by
  obtain ⟨r, h1, h2, h3⟩ := byte_of (v := d.toNat) d.toNat_lt
  have e : fl d = r := by unfold fl; rw [h1]; rfl
  rw [e]
  exact ⟨h1, h2, h3⟩
def flc (l : List UInt8) : List IV := l.map fun d => .float .f64 (fl d)
theorem flc_length (l : List UInt8) : (flc l).length = l.length := by simp [flc]

theorem take3 {l : List UInt8} {i : Nat} (h : 3 * i + 3 ≤ l.length) : l.take (3 * (i + 1)) = l.take (3 * i) ++ [l[3 * i]'(by omega), l[3 * i + 1]'(by omega), l[3 * i + 2]'(by omega)] := by
  have e : 3 * (i + 1) = 3 * i + 1 + 1 + 1 := by omega
  rw [e, List.take_add_one, List.take_add_one, List.take_add_one]
  rw [List.getElem?_eq_getElem (by omega), List.getElem?_eq_getElem (by omega), List.getElem?_eq_getElem (by omega)]
  simp only [Option.toList_some, List.append_assoc, List.cons_append, List.nil_append]

theorem grdF (G : GH) (c0 c1 c2 : IV) : grd (gnew G [c0, c1, c2] 39) (gaddr G) (1 * 3) = some [c0, c1, c2] := grd_gnew G _ 39 _ rfl

section
variable {R : Type} {O : Ora R}
abbrev SCut (O : Ora R) : Prop := ∀ (w h : Nat) (G : GH) (k : IV → GH → Option R), 1 ≤ w → w ≤ 6 → 1 ≤ h → h ≤ 6 → O fn_strings_Cut [.str [dgt w, 32, dgt h], .str [32]] G k = k (.tuple [.str [dgt w], .str [dgt h], .bool true]) G
abbrev SNm (O : Ora R) : Prop := ∀ (w : Nat) (G : GH) (k : IV → GH → Option R), 1 ≤ w → w ≤ 6 → O fn_pfm_number [.str [dgt w]] G k = k (.tuple [.int .i64 (w : Int), .bool true]) G
abbrev SBg (O : Ora R) : Prop := ∀ (b o w h : Nat) (ds : List UInt8) (G : GH) (k : IV → GH → Option R), By G b o (hd w h ++ ds) → ds.length ≤ 1000 → 1 ≤ w → w ≤ 6 → 1 ≤ h → h ≤ 6 →
  ∃ G', O fn_pfm_begin [.slice (some ⟨b, o⟩) (11 + ds.length), .str [80, 54]] G k = k (.tuple [.int .i64 (w : Int), .int .i64 (h : Int), .str [50, 53, 53], .slice (some ⟨b, o + 11⟩) ds.length, .int .i64 0]) G' ∧ Keeps G.length G G'

theorem t3 (x y z : IV) : ivTup 3 (.tuple [x, y, z]) = some [x, y, z] := rfl
theorem ivSt (s : List UInt8) : ivStr (.str s) = some s := rfl
theorem ivBo (b : Bool) : ivBool (.bool b) = some b := rfl
theorem ivI64 (n : Int) : ivInt .i64 (.int .i64 n) = some n := rfl
theorem ivI8 (n : Int) : ivInt .u8 (.int .u8 n) = some n := rfl
theorem ivSc (a : Option GA) (n : Nat) : ivSlice (.slice a n) = some (a, n) := rfl
theorem t2 (x y : IV) : ivTup 2 (.tuple [x, y]) = some [x, y] := rfl

/-- The three lines of a head. -/
theorem iBg (hL : SLn O) (hC : SCut O) (hN : SNm O) (hF : SFi O) {F : Nat} (b o w h : Nat) (ds : List UInt8) (G : GH) (k : IV → GH → Option R) (hB : By G b o (hd w h ++ ds)) (hd1 : ds.length ≤ 1000) (hw1 : 1 ≤ w) (hw : w ≤ 6) (hh1 : 1 ≤ h) (hh : h ≤ 6) :
    ∃ G', bodyC Tryd.prog O lo32 (F + 1) Tryd.f32 [.slice (some ⟨b, o⟩) (11 + ds.length), .str [80, 54]] G k = k (.tuple [.int .i64 (w : Int), .int .i64 (h : Int), .str [50, 53, 53], .slice (some ⟨b, o + 11⟩) ds.length, .int .i64 0]) G' ∧ Keeps G.length G G' := by
  have hb := hB.lt
  have B1 : By G b o ([80, 54] ++ 10 :: ([dgt w, 32, dgt h] ++ 10 :: ([50, 53, 53] ++ 10 :: ds))) := hB
  have k1 : Keeps G.length G (gnew G [.int .u8 10] 5) := keeps_new G _ 5 (Nat.le_refl _)
  have k2 : Keeps G.length (gnew G [.int .u8 10] 5) (gnew (gnew G [.int .u8 10] 5) [.int .u8 10] 5) := keeps_new _ _ 5 (by rw [gnew_length]; omega)
  have k3 : Keeps G.length (gnew (gnew G [.int .u8 10] 5) [.int .u8 10] 5) (gnew (gnew (gnew G [.int .u8 10] 5) [.int .u8 10] 5) [.int .u8 10] 5) := keeps_new _ _ 5 (by rw [gnew_length, gnew_length]; omega)
  have B2 : By (gnew G [.int .u8 10] 5) b (o + 3) ([dgt w, 32, dgt h] ++ 10 :: ([50, 53, 53] ++ 10 :: ds)) := by
    have hh : By G b o ([80, 54, 10] ++ ([dgt w, 32, dgt h] ++ 10 :: ([50, 53, 53] ++ 10 :: ds))) := hB
    exact hh.right.keep k1 hb
  have B3 : By (gnew (gnew G [.int .u8 10] 5) [.int .u8 10] 5) b (o + 3 + 4) ([50, 53, 53] ++ 10 :: ds) := by
    have hh : By (gnew G [.int .u8 10] 5) b (o + 3) ([dgt w, 32, dgt h, 10] ++ ([50, 53, 53] ++ 10 :: ds)) := B2
    exact hh.right.keep k2 hb
  have L1 := fun k => hL b o [80, 54] ([dgt w, 32, dgt h] ++ 10 :: ([50, 53, 53] ++ 10 :: ds)) G k B1 (by decide) (by simp; omega)
  have L2 := fun k => hL b (o + 3) [dgt w, 32, dgt h] ([50, 53, 53] ++ 10 :: ds) _ k B2 (by
    have := dgt_ne hw1 hw
    have := dgt_ne hh1 hh
    intro hm
    simp only [List.mem_cons, List.not_mem_nil, or_false] at hm
    rcases hm with hm | hm | hm
    · exact dgt_ne hw1 hw hm.symm
    · exact absurd hm (by decide)
    · exact dgt_ne hh1 hh hm.symm) (by simp; omega)
  have L3 := fun k => hL b (o + 3 + 4) [50, 53, 53] ds _ k B3 (by decide) (by simp; omega)
  have e1 : 11 + ds.length = ([80, 54] : List UInt8).length + (([dgt w, 32, dgt h] ++ 10 :: ([50, 53, 53] ++ 10 :: ds)).length + 1) := by simp; omega
  have e2 : ([dgt w, 32, dgt h] ++ 10 :: ([50, 53, 53] ++ 10 :: ds)).length = ([dgt w, 32, dgt h] : List UInt8).length + (([50, 53, 53] ++ 10 :: ds).length + 1) := by simp only [List.length_append, List.length_cons, List.length_nil]
  have e3 : ([50, 53, 53] ++ 10 :: ds).length = ([50, 53, 53] : List UInt8).length + (ds.length + 1) := by simp; omega
  refine ⟨_, ?_, (k1.trans k2).trans k3⟩
  rw [e_pfm_begin]
  unfold u_pfm_begin
  rw [e1, L1, t3, Option.bind_some]
  simp only [List.getD_cons_zero, List.getD_cons_succ, ivSt, ivSc, ivBo, Option.bind_some]
  rw [e2, show o + (([80, 54] : List UInt8).length + 1) = o + 3 from rfl, L2, t3, Option.bind_some]
  simp only [List.getD_cons_zero, List.getD_cons_succ, ivSt, ivSc, ivBo, Option.bind_some]
  rw [e3, show o + 3 + (([dgt w, 32, dgt h] : List UInt8).length + 1) = o + 3 + 4 from rfl, L3, t3, Option.bind_some]
  simp only [List.getD_cons_zero, List.getD_cons_succ, ivSt, ivSc, ivBo, Option.bind_some]
  rw [hC w h _ _ hw1 hw hh1 hh, t3, Option.bind_some]
  simp only [List.getD_cons_zero, List.getD_cons_succ, ivSt, ivSc, ivBo, Option.bind_some]
  rw [hN w _ _ hw1 hw, t2, Option.bind_some]
  simp only [List.getD_cons_zero, List.getD_cons_succ, ivI64, ivBo, Option.bind_some]
  rw [hN h _ _ hh1 hh, t2, Option.bind_some]
  simp only [List.getD_cons_zero, List.getD_cons_succ, ivI64, ivBo, Option.bind_some, L_pfm_begin_0, stepN_succ, l_pfm_begin_0, u_pfm_begin_0, Bool.not_true, cond_false, beq_self_eq_true, a_pfm_begin_0N]
  rw [hF w h _ _ hw1 (by omega) hh1 (by omega)]
  simp only [ivBo, Option.bind_some, Bool.not_true, cond_false]
  rfl

/-- Three bytes become a sample. -/
theorem tri {base b o i : Nat} {bs rest : List UInt8} {G : GH} {a : Option GA} (hB : By G b o (bs ++ rest)) (h3 : 3 * i + 3 ≤ bs.length) (hn : bs.length ≤ 1000) (hS : Sl base G 39 3 a i (flc (bs.take (3 * i)))) (hG : base ≤ G.length) :
    ∃ (d0 d1 d2 : UInt8) (a' : GA) (G' : GH), ldInt G .u8 ⟨b, o + 3 * i⟩ = some (d0.toNat : Int) ∧ ldInt G .u8 ⟨b, o + (3 * i + 1)⟩ = some (d1.toNat : Int) ∧ ldInt G .u8 ⟨b, o + (3 * i + 2)⟩ = some (d2.toNat : Int) ∧
      gappend (gnew G [.float .f64 (fl d0), .float .f64 (fl d1), .float .f64 (fl d2)] 39) 39 3 24 a i [.float .f64 (fl d0), .float .f64 (fl d1), .float .f64 (fl d2)] 1 = some (some a', G') ∧
      Sl base G' 39 3 (some a') (i + 1) (flc (bs.take (3 * (i + 1)))) ∧ Keeps base G G' ∧ base ≤ G'.length := by
  have hL := hB.left
  have room : roomI = 1099511627776 := rfl
  obtain ⟨a', G', g, S, K⟩ := sl_append (bytes := 24) hS hG (x := [.float .f64 (fl (bs[3 * i]'(by omega))), .float .f64 (fl (bs[3 * i + 1]'(by omega))), .float .f64 (fl (bs[3 * i + 2]'(by omega)))]) rfl (by omega)
  refine ⟨bs[3 * i]'(by omega), bs[3 * i + 1]'(by omega), bs[3 * i + 2]'(by omega), a', G', hL.cell (by omega), hL.cell (by omega), hL.cell (by omega), g, ?_, K, by have := K.1; omega⟩
  rw [take3 h3]
  unfold flc at S ⊢
  rw [List.map_append]
  exact S

abbrev S33 (O : Ora R) : Prop := ∀ (x : Nat) (G : GH) (k : IV → GH → Option R), O fn_math_Float64bits [.float .f64 x] G k = k (.int .u64 (x : Int)) G
abbrev SBy (O : Ora R) : Prop := ∀ (x : Nat) (v : Nat) (G : GH) (k : IV → GH → Option R), byteV x = some (v : Int) → O fn_pfm_Byte [.float .f64 x] G k = k (.int .u8 (v : Int)) G
theorem iBy {F x v : Nat} (G : GH) (k : IV → GH → Option R) (h : byteV x = some (v : Int)) : bodyC Tryd.prog O [777777] F Tryd.f15 [.float .f64 x] G k = k (.int .u8 (v : Int)) G := by
  rw [e_pfm_Byte]
  unfold byteV at h
  cases h1 : !(fgt .f64 x (0 : Nat)) with
  | true => rw [h1, cond_true] at h; injection h with h; rw [← h]; rfl
  | false =>
    rw [h1, cond_false] at h
    rw [cond_false]
    cases h2 : fge .f64 x (4607182418800017408 : Nat) with
    | true => rw [h2, cond_true] at h; injection h with h; rw [← h]; rfl
    | false =>
      rw [h2, cond_false] at h
      rw [cond_false]
      cases h3 : (FloatKind.format .f64).mul x (4643176031446892544 : Nat) with
      | none => rw [h3] at h; cases h
      | some r1 =>
        rw [h3, Option.bind_some] at h
        rw [Option.bind_some]
        cases h4 : (FloatKind.format .f64).add r1 (4602678819172646912 : Nat) with
        | none => rw [h4] at h; cases h
        | some r2 =>
          rw [h4, Option.bind_some] at h
          rw [Option.bind_some, h, Option.bind_some]

theorem wr3 {i : Nat} (h : i ≤ 1000) : IntKind.wrap .i64 ((3 : Int) * (i : Int)) = ((3 * i : Nat) : Int) := by rw [wr (by omega) (by omega)]; omega
theorem wr31 {i : Nat} (h : i ≤ 10000) (j : Nat) (hj : j ≤ 2) : IntKind.wrap .i64 ((i : Int) + (j : Int)) = ((i + j : Nat) : Int) := by rw [wr (by omega) (by omega)]; omega

/-- The loop of ReadPPM. -/
theorem read_loop {K1} {base b o N : Nat} {bs rest : List UInt8} (hb : b < base) (hN : 3 * N = bs.length) (hbs : bs.length ≤ 1000) (n : Nat) (hn : bs.length ≤ n) (c0 c1 : Int) (ca : Option GA) (cn : Nat) (d0 d1 : Int) :
    ∀ (m i F : Nat) (G : GH) (a : Option GA), i + m = N → m < F → By G b o (bs ++ rest) → Sl base G 39 3 a i (flc (bs.take (3 * i))) → base ≤ G.length →
    ∃ a' G', l_pfm_ReadPPM_0 O K1 F (some ⟨b, o⟩) n (N : Int) (i : Int) c0 c1 ca cn d0 d1 a i G = K1 c0 c1 ca cn d0 d1 a' N G' ∧ Sl base G' 39 3 a' N (flc bs) ∧ Keeps base G G' ∧ base ≤ G'.length := by
  intro m
  induction m with
  | zero =>
    intro i F G a hi hF hB hS hG
    obtain ⟨F, rfl⟩ : ∃ F', F = F' + 1 := ⟨F - 1, by omega⟩
    obtain rfl : i = N := by omega
    have hlt : decide ((i : Int) < (i : Int)) = false := by simp
    refine ⟨a, G, ?_, ?_, Keeps.refl _ _, hG⟩
    · simp only [l_pfm_ReadPPM_0, u_pfm_ReadPPM_0, hlt, cond_false]
    · rw [hN, List.take_length] at hS
      exact hS
  | succ m ih =>
    intro i F G a hi hF hB hS hG
    obtain ⟨F, rfl⟩ : ∃ F', F = F' + 1 := ⟨F - 1, by omega⟩
    obtain ⟨x0, x1, x2, a1, G1, l0, l1, l2, g, S1, Kp, B1⟩ := tri hB (i := i) (by omega) hbs hS hG
    obtain ⟨a2, G2, e2, S2, K2, B2⟩ := ih (i + 1) F G1 (some a1) (by omega) (by omega) (hB.keep Kp hb) S1 B1
    have hlt : decide ((i : Int) < (N : Int)) = true := by simp; omega
    have w0 := wr3 (i := i) (by omega)
    have w1 : IntKind.wrap .i64 (((3 * i : Nat) : Int) + (1 : Int)) = ((3 * i + 1 : Nat) : Int) := wr31 (by omega) 1 (by decide)
    have w2 : IntKind.wrap .i64 (((3 * i : Nat) : Int) + (2 : Int)) = ((3 * i + 2 : Nat) : Int) := wr31 (by omega) 2 (by decide)
    have w3 : IntKind.wrap .i64 ((i : Int) + (1 : Int)) = ((i + 1 : Nat) : Int) := wr31 (by omega) 1 (by decide)
    have i0 : idx? (some (⟨b, o⟩ : GA)) n ((3 * i : Nat) : Int) 1 = some ⟨b, o + 3 * i⟩ := idxB (by omega)
    have i1 : idx? (some (⟨b, o⟩ : GA)) n ((3 * i + 1 : Nat) : Int) 1 = some ⟨b, o + (3 * i + 1)⟩ := idxB (by omega)
    have i2 : idx? (some (⟨b, o⟩ : GA)) n ((3 * i + 2 : Nat) : Int) 1 = some ⟨b, o + (3 * i + 2)⟩ := idxB (by omega)
    refine ⟨a2, G2, ?_, S2, Kp.trans K2, B2⟩
    simp only [l_pfm_ReadPPM_0, u_pfm_ReadPPM_0, hlt, cond_true, w0, w1, w2, w3, i0, i1, i2, Option.bind_some, l0, l1, l2, (fl_spec _).1, grdF, g]
    exact e2
/-- The same loop of the law. -/
theorem make_loop {K2} {base b o w h : Nat} {bs rest : List UInt8} (hb : b < base) (hN : 3 * (w * h) = bs.length) (hw : w ≤ 6) (hh : h ≤ 6) (hbs : bs.length ≤ 1000) (n : Nat) (hn : bs.length ≤ n) (c0 c1 : Int) :
    ∀ (m i F : Nat) (G : GH) (a : Option GA), i + m = w * h → m < F → By G b o (bs ++ rest) → Sl base G 39 3 a i (flc (bs.take (3 * i))) → base ≤ G.length →
    ∃ a' G', l_law08_PfmBytes_2 O K2 F (w : Int) (h : Int) (some ⟨b, o⟩) n (i : Int) c0 c1 a i G = K2 (w : Int) (h : Int) (some ⟨b, o⟩) n c0 c1 a' (w * h) G' ∧ Sl base G' 39 3 a' (w * h) (flc bs) ∧ Keeps base G G' ∧ base ≤ G'.length := by
  intro m
  have wm := wmul (w := w) (h := h) (by omega) (by omega)
  induction m with
  | zero =>
    intro i F G a hi hF hB hS hG
    obtain ⟨F, rfl⟩ : ∃ F', F = F' + 1 := ⟨F - 1, by omega⟩
    obtain rfl : i = w * h := by omega
    have hlt : decide (((w * h : Nat) : Int) < ((w * h : Nat) : Int)) = false := by simp
    refine ⟨a, G, ?_, ?_, Keeps.refl _ _, hG⟩
    · simp only [l_law08_PfmBytes_2, u_law08_PfmBytes_2, wm, hlt, cond_false]
    · rw [hN, List.take_length] at hS
      exact hS
  | succ m ih =>
    intro i F G a hi hF hB hS hG
    obtain ⟨F, rfl⟩ : ∃ F', F = F' + 1 := ⟨F - 1, by omega⟩
    obtain ⟨x0, x1, x2, a1, G1, l0, l1, l2, g, S1, Kp, B1⟩ := tri hB (i := i) (by omega) hbs hS hG
    obtain ⟨a2, G2, e2, S2, K2, B2⟩ := ih (i + 1) F G1 (some a1) (by omega) (by omega) (hB.keep Kp hb) S1 B1
    have hlt : decide ((i : Int) < ((w * h : Nat) : Int)) = true := by simp only [decide_eq_true_eq]; omega
    have w0 := wr3 (i := i) (by omega)
    have w1 : IntKind.wrap .i64 (((3 * i : Nat) : Int) + (1 : Int)) = ((3 * i + 1 : Nat) : Int) := wr31 (by omega) 1 (by decide)
    have w2 : IntKind.wrap .i64 (((3 * i : Nat) : Int) + (2 : Int)) = ((3 * i + 2 : Nat) : Int) := wr31 (by omega) 2 (by decide)
    have w3 : IntKind.wrap .i64 ((i : Int) + (1 : Int)) = ((i + 1 : Nat) : Int) := wr31 (by omega) 1 (by decide)
    have i0 : idx? (some (⟨b, o⟩ : GA)) n ((3 * i : Nat) : Int) 1 = some ⟨b, o + 3 * i⟩ := idxB (by omega)
    have i1 : idx? (some (⟨b, o⟩ : GA)) n ((3 * i + 1 : Nat) : Int) 1 = some ⟨b, o + (3 * i + 1)⟩ := idxB (by omega)
    have i2 : idx? (some (⟨b, o⟩ : GA)) n ((3 * i + 2 : Nat) : Int) 1 = some ⟨b, o + (3 * i + 2)⟩ := idxB (by omega)
    refine ⟨a2, G2, ?_, S2, Kp.trans K2, B2⟩
    simp only [l_law08_PfmBytes_2, u_law08_PfmBytes_2, wm, hlt, cond_true, w0, w1, w2, w3, i0, i1, i2, Option.bind_some, l0, l1, l2, (fl_spec _).1, grdF, g]
    exact e2

/-- A block of samples. -/
def FB3 (G : GH) (b : Nat) (bs : List UInt8) : Prop := G[b]? = some ⟨flc bs, 39, 1⟩
theorem FB3.ld {G : GH} {b o : Nat} {bs : List UInt8} (h : FB3 G b bs) (ho : o < bs.length) : ldFloat G .f64 ⟨b, o⟩ = some (fl (bs[o]'ho)) := by
  have h' : G[b]? = some ⟨flc bs, 39, 1⟩ := h
  simp [ldFloat, gld, h', flc, ho]
theorem FB3.keep {G G' : GH} {b base : Nat} {bs : List UInt8} (h : FB3 G b bs) (k : Keeps base G G') (hb : b < base) : FB3 G' b bs := (k.2 b hb).trans h

/-- The loop of WritePPM. -/
theorem write_loop (hBy : SBy O) {K0} {base b N : Nat} {bs hd : List UInt8} (hb : b < base) (hN : 3 * N = bs.length) (hbs : bs.length ≤ 1000) (hhd : hd.length ≤ 1000) (b0 b1 : Int) :
    ∀ (m i F : Nat) (G : GH) (s5a : Option GA), i + m = N → m < F → FB3 G b bs → Sl base G 5 1 s5a (hd.length + 3 * i) (bytesI (hd ++ bs.take (3 * i))) → base ≤ G.length →
    ∃ a' G', l_pfm_WritePPM_0 O K0 F s5a (hd.length + 3 * i) (some ⟨b, 0⟩) N (N : Int) (i : Int) b0 b1 (some ⟨b, 0⟩) N G = K0 a' (hd.length + 3 * N) b0 b1 (some ⟨b, 0⟩) N G' ∧ Sl base G' 5 1 a' (hd.length + 3 * N) (bytesI (hd ++ bs)) ∧ Keeps base G G' ∧ base ≤ G'.length := by
  intro m
  induction m with
  | zero =>
    intro i F G s5a hi hF hB hS hG
    obtain ⟨F, rfl⟩ : ∃ F', F = F' + 1 := ⟨F - 1, by omega⟩
    obtain rfl : i = N := by omega
    have hlt : decide ((i : Int) < (i : Int)) = false := by simp
    refine ⟨s5a, G, ?_, ?_, Keeps.refl _ _, hG⟩
    · simp only [l_pfm_WritePPM_0, u_pfm_WritePPM_0, hlt, cond_false]
    · have e : bs.take (3 * i) = bs := by rw [hN, List.take_length]
      rw [e] at hS
      exact hS
  | succ m ih =>
    intro i F G s5a hi hF hB hS hG
    obtain ⟨F, rfl⟩ : ∃ F', F = F' + 1 := ⟨F - 1, by omega⟩
    have e1 : IntKind.wrap .i64 ((i : Int) + (1 : Int)) = ((i + 1 : Nat) : Int) := wr31 (by omega) 1 (by decide)
    have hidx : idx? (some (⟨b, 0⟩ : GA)) N (i : Int) 3 = some ⟨b, 3 * i⟩ := by
      simp only [idx?]
      rw [if_pos ⟨by omega, by omega⟩]
      simp [GA.add, Nat.mul_comm]
    have hlt : decide ((i : Int) < (N : Int)) = true := by simp only [decide_eq_true_eq]; omega
    have l0 : ldFloat G .f64 (GA.add ⟨b, 3 * i⟩ 0) = some (fl (bs[3 * i]'(by omega))) := hB.ld (o := 3 * i) (by omega)
    have l1 : ldFloat G .f64 (GA.add ⟨b, 3 * i⟩ 1) = some (fl (bs[3 * i + 1]'(by omega))) := hB.ld (o := 3 * i + 1) (by omega)
    have l2 : ldFloat G .f64 (GA.add ⟨b, 3 * i⟩ 2) = some (fl (bs[3 * i + 2]'(by omega))) := hB.ld (o := 3 * i + 2) (by omega)
    have room : roomI = 1099511627776 := rfl
    obtain ⟨a1, G1, g1, S1, K1, B1⟩ := sl_appendM (bytes := 1) (m := 3) hS hG (x := [.int .u8 ((bs[3 * i]'(by omega)).toNat : Int), .int .u8 ((bs[3 * i + 1]'(by omega)).toNat : Int), .int .u8 ((bs[3 * i + 2]'(by omega)).toNat : Int)]) rfl (by decide) (by omega)
    have S1' : Sl base G1 5 1 (some a1) (hd.length + 3 * (i + 1)) (bytesI (hd ++ bs.take (3 * (i + 1)))) := by
      rw [take3 (by omega), ← List.append_assoc, bytesI_app]
      exact S1
    obtain ⟨a2, G2, e2, S2, K2, B2⟩ := ih (i + 1) F G1 (some a1) (by omega) (by omega) (hB.keep K1 hb) S1' B1
    refine ⟨a2, G2, ?_, S2, K1.trans K2, B2⟩
    have y0 := fun G k => hBy _ _ G k (fl_spec (bs[3 * i]'(by omega))).2.2
    have y1 := fun G k => hBy _ _ G k (fl_spec (bs[3 * i + 1]'(by omega))).2.2
    have y2 := fun G k => hBy _ _ G k (fl_spec (bs[3 * i + 2]'(by omega))).2.2
    simp only [l_pfm_WritePPM_0, u_pfm_WritePPM_0, hlt, cond_true, hidx, Option.bind_some, l0, l1, l2, y0, y1, y2, ivI8, grd3, g1, e1]
    exact e2
end
end Go.LI.Door

/- PfmSizes: what it computes. -/
import Derived.Test.YtmhoddmenfondaaDoorDoorD
import Derived.Test.YtmhoddmenfondaaDoorDoorAw
namespace Go.LI.Door
open Go.Proofs.YtmhoddmenfondaaDoor Go Go.Proofs Go.LI
set_option linter.unusedVariables false
set_option linter.unusedSimpArgs false
set_option maxRecDepth 100000

/-- How many digits. -/
def dig (x : Nat) : Nat := if 9 < x then 2 else 1
theorem dig_le (x : Nat) : dig x ≤ 2 := by unfold dig; split <;> omega
section
variable {R : Type} {O : Ora R}
abbrev SI (O : Ora R) : Prop := ∀ x : Nat, 1 ≤ x → x ≤ 30 → ∃ l : List UInt8, l.length = dig x ∧ ∀ (G : GH) (k : IV → GH → Option R), O fn_strconv_Itoa [.int .i64 (x : Int)] G k = k (.str l) G
abbrev SCh (O : Ora R) : Prop := ∀ (w h : Nat) (a : Option GA) (G : GH) (k : IV → GH → Option R), 1 ≤ w → w ≤ 30 → 1 ≤ h → h ≤ 30 → O fn_pfm_check [.agg [.int .i64 (w : Int), .int .i64 (h : Int), .slice a (w * h)]] G k = k (.int .i64 0) G
abbrev SFi (O : Ora R) : Prop := ∀ (w h : Nat) (G : GH) (k : IV → GH → Option R), 1 ≤ w → w ≤ 30 → 1 ≤ h → h ≤ 30 → O fn_pfm_fits [.int .i64 (w : Int), .int .i64 (h : Int)] G k = k (.bool true) G
abbrev SHd (O : Ora R) : Prop := ∀ (p q : List UInt8) (w h : Nat) (a : Option GA) (n : Nat), p.length ≤ 10 → q.length ≤ 10 → 1 ≤ w → w ≤ 30 → 1 ≤ h → h ≤ 30 →
  ∃ cs : List IV, cs.length = p.length + q.length + dig w + dig h + 4 ∧ ∀ (G : GH) (k : IV → GH → Option R), O fn_pfm_head [.str p, .agg [.int .i64 (w : Int), .int .i64 (h : Int), .slice a n], .str q] G k = k (.slice (some (gaddr G)) cs.length) (gnew G cs 5)

theorem prod_le {w h : Nat} (hw : w ≤ 30) (hh : h ≤ 30) : w * h ≤ 900 := Nat.mul_le_mul hw hh
theorem wmul {w h : Nat} (hw : w ≤ 30) (hh : h ≤ 30) : IntKind.wrap .i64 ((w : Int) * (h : Int)) = ((w * h : Nat) : Int) := by
  have := prod_le hw hh
  rw [show ((w : Int) * (h : Int)) = ((w * h : Nat) : Int) from (Int.natCast_mul _ _).symm]
  exact wr (by omega) (by omega)

theorem fits_b {F : Nat} {w h : Nat} (G : GH) (k : IV → GH → Option R) (hw1 : 1 ≤ w) (hw : w ≤ 30) (hh1 : 1 ≤ h) (hh : h ≤ 30) : bodyC Tryd.prog O [777777] F Tryd.f38 [.int .i64 (w : Int), .int .i64 (h : Int)] G k = k (.bool true) G := by
  have := prod_le hw hh
  rw [e_pfm_fits, wmul hw hh]
  have d1 : decide ((w : Int) ≥ 1) = true := by simp only [decide_eq_true_eq]; omega
  have d2 : decide ((h : Int) ≥ 1) = true := by simp only [decide_eq_true_eq]; omega
  have d3 : decide ((w : Int) ≤ 1024) = true := by simp only [decide_eq_true_eq]; omega
  have d4 : decide ((h : Int) ≤ 1024) = true := by simp only [decide_eq_true_eq]; omega
  have d5 : decide (((w * h : Nat) : Int) ≤ 65536) = true := by simp only [decide_eq_true_eq]; omega
  rw [d1, cond_true, d2, cond_true, d3, cond_true, d4, cond_true, d5]
theorem check_b (hF : SFi O) {F : Nat} {w h : Nat} (a : Option GA) (G : GH) (k : IV → GH → Option R) (hw1 : 1 ≤ w) (hw : w ≤ 30) (hh1 : 1 ≤ h) (hh : h ≤ 30) :
    bodyC Tryd.prog O [1, 777777] F Tryd.f24 [.agg [.int .i64 (w : Int), .int .i64 (h : Int), .slice a (w * h)]] G k = k (.int .i64 0) G := by
  have ne : (((w * h : Nat) : Int) != ((w * h : Nat) : Int)) = false := by simp
  rw [e_pfm_check, hF w h _ _ hw1 hw hh1 hh]
  simp only [ivBool, Option.bind_some, Bool.not_true, cond_false]
  rw [wmul hw hh, ne, cond_false]
theorem room_of {n : Nat} (h : n ≤ 1000) : decide (n ≤ roomS) = true := by
  have e : roomS = 4611686018427387904 := rfl
  simp only [decide_eq_true_eq]; omega
theorem head_b (hI : SI O) {F : Nat} (p q : List UInt8) (w h : Nat) (a : Option GA) (n : Nat) (hp : p.length ≤ 10) (hq : q.length ≤ 10) (hw1 : 1 ≤ w) (hw : w ≤ 30) (hh1 : 1 ≤ h) (hh : h ≤ 30) :
  ∃ cs : List IV, cs.length = p.length + q.length + dig w + dig h + 4 ∧ ∀ (G : GH) (k : IV → GH → Option R), bodyC Tryd.prog O [4, 777777] F Tryd.f25 [.str p, .agg [.int .i64 (w : Int), .int .i64 (h : Int), .slice a n], .str q] G k = k (.slice (some (gaddr G)) cs.length) (gnew G cs 5) := by
  obtain ⟨l, hl, el⟩ := hI w hw1 hw
  obtain ⟨m, hm, em⟩ := hI h hh1 hh
  have b1 := dig_le w
  have b2 := dig_le h
  refine ⟨bytesI (((((((p ++ ([10] : List UInt8)) ++ l) ++ ([32] : List UInt8)) ++ m) ++ ([10] : List UInt8)) ++ q) ++ ([10] : List UInt8)), ?_, ?_⟩
  · simp only [bytesI, List.length_map, List.length_append, List.length_cons, List.length_nil]; omega
  intro G k
  rw [e_pfm_head, room_of (by simp only [List.length_append, List.length_cons, List.length_nil]; omega), cond_true, el]
  have ivs : ∀ s : List UInt8, ivStr (.str s) = some s := fun _ => rfl
  simp only [ivs, Option.bind_some]
  rw [room_of (by simp only [List.length_append, List.length_cons, List.length_nil]; omega), cond_true, room_of (by simp only [List.length_append, List.length_cons, List.length_nil]; omega), cond_true, em]
  simp only [ivs, Option.bind_some]
  rw [room_of (by simp only [List.length_append, List.length_cons, List.length_nil]; omega), cond_true, room_of (by simp only [List.length_append, List.length_cons, List.length_nil]; omega), cond_true,
    room_of (by simp only [List.length_append, List.length_cons, List.length_nil]; omega), cond_true, room_of (by simp only [List.length_append, List.length_cons, List.length_nil]; omega), cond_true]
  simp only [bytesI, List.length_map]

theorem iv64 (n : Int) : ivInt .i64 (.int .i64 n) = some n := rfl
theorem ivSl (a : Option GA) (n : Nat) : ivSlice (.slice a n) = some (a, n) := rfl
theorem ne0 : ((0 : Int) != (0 : Int)) = false := by decide
theorem sl_gnew {base : Nat} {G : GH} {cs : List IV} (h : base ≤ G.length) : Sl base (gnew G cs 5) 5 1 (some (gaddr G)) cs.length cs :=
  ⟨by omega, .inr ⟨G.length, h, rfl, gnew_at G cs 5⟩⟩

abbrev SWr (O : Ora R) : Prop := ∀ (w h b base : Nat) (G : GH) (k : IV → GH → Option R), 1 ≤ w → w ≤ 30 → 1 ≤ h → h ≤ 30 → ZB G b (w * h * 3) → b < base → base ≤ G.length →
  ∃ a' n' G', O fn_pfm_Write [.agg [.int .i64 (w : Int), .int .i64 (h : Int), .slice (some ⟨b, 0⟩) (w * h)]] G k = k (.tuple [.slice a' n', .int .i64 0]) G' ∧ n' = 10 + dig w + dig h + 12 * (w * h) ∧ Keeps base G G' ∧ base ≤ G'.length
abbrev SWp (O : Ora R) : Prop := ∀ (w h b base : Nat) (G : GH) (k : IV → GH → Option R), 1 ≤ w → w ≤ 30 → 1 ≤ h → h ≤ 30 → ZB G b (w * h * 3) → b < base → base ≤ G.length →
  ∃ a' n' G', O fn_pfm_WritePPM [.agg [.int .i64 (w : Int), .int .i64 (h : Int), .slice (some ⟨b, 0⟩) (w * h)]] G k = k (.tuple [.slice a' n', .int .i64 0]) G' ∧ n' = 9 + dig w + dig h + 3 * (w * h)

theorem write_b (hZ : Z0 O) (hC : SCh O) (hH : SHd O) {F w h b base : Nat} (hF : 2000 ≤ F) (G : GH) (k : IV → GH → Option R) (hw1 : 1 ≤ w) (hw : w ≤ 30) (hh1 : 1 ≤ h) (hh : h ≤ 30) (hB : ZB G b (w * h * 3)) (hb : b < base) (hG : base ≤ G.length) :
    ∃ a' n' G', bodyC Tryd.prog O lo10 (F + 4) Tryd.f10 [.agg [.int .i64 (w : Int), .int .i64 (h : Int), .slice (some ⟨b, 0⟩) (w * h)]] G k = k (.tuple [.slice a' n', .int .i64 0]) G' ∧ n' = 10 + dig w + dig h + 12 * (w * h) ∧ Keeps base G G' ∧ base ≤ G'.length := by
  obtain ⟨cs, hl, eh⟩ := hH [80, 70] [45, 49, 46, 48] w h (some ⟨b, 0⟩) (w * h) (by decide) (by decide) hw1 hw hh1 hh
  have e1 : IntKind.wrap .i64 ((h : Int) - (1 : Int)) = (h : Int) - 1 := wr (by omega) (by omega)
  have b1 := dig_le w
  have b2 := dig_le h
  have hp := prod_le hw hh
  have k0 := keeps_new (base := base) G cs 5 hG
  simp only [List.length_cons, List.length_nil] at hl
  obtain ⟨a', n', G', cs', r, hn, S, K, B⟩ := rows_loop hZ (Kret := a_pfm_Write_0ret O k) (K0 := a_pfm_Write_00 O k) (base := base) (b := b) (w := w) (h := h) (F := F + 4) hb ⟨hw1, hw⟩ hh (by omega) h (F + 4) (gnew G cs 5) (some (gaddr G)) cs.length cs (by omega) (by omega) (hB.keep k0 hb) (sl_gnew hG) (by rw [gnew_length]; omega) (by omega)
  refine ⟨a', n', G', ?_, by omega, k0.trans K, B⟩
  rw [e_pfm_Write]
  unfold u_pfm_Write
  rw [hC w h _ _ _ hw1 hw hh1 hh]
  simp only [iv64, Option.bind_some, ne0, cond_false]
  rw [eh]
  simp only [ivSl, Option.bind_some, e1]
  exact r
theorem writePPM_b (hZ : Z0 O) (hC : SCh O) (hH : SHd O) {F w h b base : Nat} (hF : 2000 ≤ F) (G : GH) (k : IV → GH → Option R) (hw1 : 1 ≤ w) (hw : w ≤ 30) (hh1 : 1 ≤ h) (hh : h ≤ 30) (hB : ZB G b (w * h * 3)) (hb : b < base) (hG : base ≤ G.length) :
    ∃ a' n' G', bodyC Tryd.prog O lo13 F Tryd.f13 [.agg [.int .i64 (w : Int), .int .i64 (h : Int), .slice (some ⟨b, 0⟩) (w * h)]] G k = k (.tuple [.slice a' n', .int .i64 0]) G' ∧ n' = 9 + dig w + dig h + 3 * (w * h) := by
  obtain ⟨cs, hl, eh⟩ := hH [80, 54] [50, 53, 53] w h (some ⟨b, 0⟩) (w * h) (by decide) (by decide) hw1 hw hh1 hh
  have b1 := dig_le w
  have b2 := dig_le h
  have hp := prod_le hw hh
  have k0 := keeps_new (base := base) G cs 5 hG
  simp only [List.length_cons, List.length_nil] at hl
  obtain ⟨a', n', G', cs', r, hn, S, K, B⟩ := ppm_loop hZ (K0 := a_pfm_WritePPM_00 O k) (base := base) (b := b) (N := w * h) hb (by omega) (w : Int) (h : Int) (w * h) 0 F (gnew G cs 5) (some (gaddr G)) cs.length cs (by omega) (by omega) (hB.keep k0 hb) (sl_gnew hG) (by rw [gnew_length]; omega) (by omega)
  refine ⟨a', n', G', ?_, by omega⟩
  rw [e_pfm_WritePPM]
  unfold u_pfm_WritePPM
  rw [hC w h _ _ _ hw1 hw hh1 hh]
  simp only [iv64, Option.bind_some, ne0, cond_false]
  rw [eh]
  simp only [ivSl, Option.bind_some]
  exact r

theorem ivT2 (x y : IV) : ivTup 2 (.tuple [x, y]) = some [x, y] := rfl
theorem flat3 (n : Nat) (x : IV) : (List.replicate n [x, x, x]).flatten = List.replicate (n * 3) x := List.flatten_replicate_replicate (m := 3)
theorem m12 {w h : Nat} (hw : w ≤ 30) (hh : h ≤ 30) (c : Nat) (hc : c ≤ 12) : IntKind.wrap .i64 ((IntKind.wrap .i64 ((c : Int) * (w : Int))) * (h : Int)) = ((c * (w * h) : Nat) : Int) := by
  have h1 : c * w ≤ 12 * 30 := Nat.mul_le_mul hc hw
  have h2 : c * w * h ≤ 12 * 30 * 30 := Nat.mul_le_mul h1 hh
  rw [show ((c : Int) * (w : Int)) = ((c * w : Nat) : Int) from (Int.natCast_mul _ _).symm, wr (v := ((c * w : Nat) : Int)) (by omega) (by omega), show (((c * w : Nat) : Int) * (h : Int)) = ((c * w * h : Nat) : Int) from (Int.natCast_mul _ _).symm, wr (by omega) (by omega), Nat.mul_assoc]

theorem tail_b {F w h n1 n2 : Nat} (k : IV → GH → Option R) (hw : w ≤ 30) (hh : h ≤ 30) (h1 : n1 = 10 + dig w + dig h + 12 * (w * h)) (h2 : n2 = 9 + dig w + dig h + 3 * (w * h)) (a1 a2 : Option GA) (b0 b1 : Int) (pa : Option GA) (pn : Nat) (G : GH) :
    L_law08_PfmSizes_0 O (F + 1) k (w : Int) (h : Int) a1 n1 0 a2 n2 0 10 b0 b1 pa pn G = k (.bool true) G := by
  have e12 := m12 hw hh 12 (by omega)
  have e3 := m12 hw hh 3 (by omega)
  have hp := prod_le hw hh
  have z : ((0 : Int) == (0 : Int)) = true := by decide
  have key : ∀ t : Nat, t = 8 + dig w + dig h → a_law08_PfmSizes_1N O k (w : Int) (h : Int) a1 n1 0 a2 n2 0 (t : Int) b0 b1 pa pn G = k (.bool true) G := by
    intro t ht
    have b1' := dig_le w
    have b2' := dig_le h
    have q1 : ((n1 : Int) == IntKind.wrap .i64 ((IntKind.wrap .i64 ((t : Int) + (2 : Int))) + (IntKind.wrap .i64 ((IntKind.wrap .i64 ((12 : Int) * (w : Int))) * (h : Int))))) = true := by
      rw [show (12 : Int) = ((12 : Nat) : Int) from rfl, e12, wr (v := (t : Int) + 2) (by omega) (by omega), wr (by omega) (by omega), beq_iff_eq]
      omega
    have q2 : ((n2 : Int) == IntKind.wrap .i64 ((IntKind.wrap .i64 ((t : Int) + (1 : Int))) + (IntKind.wrap .i64 ((IntKind.wrap .i64 ((3 : Int) * (w : Int))) * (h : Int))))) = true := by
      rw [show (3 : Int) = ((3 : Nat) : Int) from rfl, e3, wr (v := (t : Int) + 1) (by omega) (by omega), wr (by omega) (by omega), beq_iff_eq]
      omega
    unfold a_law08_PfmSizes_1N
    rw [q1, q2, z]
    rfl
  simp only [L_law08_PfmSizes_0, stepN_succ, l_law08_PfmSizes_0, u_law08_PfmSizes_0, a_law08_PfmSizes_0N, L_law08_PfmSizes_1, l_law08_PfmSizes_1, u_law08_PfmSizes_1]
  have w10 : IntKind.wrap .i64 ((10 : Int) + (1 : Int)) = ((11 : Nat) : Int) := by decide
  have w11 : IntKind.wrap .i64 (((11 : Nat) : Int) + (1 : Int)) = ((12 : Nat) : Int) := by decide
  by_cases c1 : 9 < w <;> by_cases c2 : 9 < h
  · rw [show decide ((w : Int) > 9) = true by simp only [decide_eq_true_eq]; omega, show decide ((h : Int) > 9) = true by simp only [decide_eq_true_eq]; omega, cond_true, cond_true, w10, w11]
    exact key 12 (by unfold dig; rw [if_pos c1, if_pos c2])
  · rw [show decide ((w : Int) > 9) = true by simp only [decide_eq_true_eq]; omega, show decide ((h : Int) > 9) = false by simp only [decide_eq_false_iff_not]; omega, cond_true, cond_false, w10]
    exact key 11 (by unfold dig; rw [if_pos c1, if_neg c2])
  · rw [show decide ((w : Int) > 9) = false by simp only [decide_eq_false_iff_not]; omega, show decide ((h : Int) > 9) = true by simp only [decide_eq_true_eq]; omega, cond_true, cond_false, w10]
    exact key 11 (by unfold dig; rw [if_neg c1, if_pos c2])
  · rw [show decide ((w : Int) > 9) = false by simp only [decide_eq_false_iff_not]; omega, show decide ((h : Int) > 9) = false by simp only [decide_eq_false_iff_not]; omega, cond_false, cond_false]
    exact key 10 (by unfold dig; rw [if_neg c1, if_neg c2])

abbrev SAw (O : Ora R) : Prop := ∀ (G : GH) (k : IV → GH → Option R), O fn_law08_Awake [] G k = k (.bool true) G
/-- The law. -/
theorem sizes_b (hA : SAw O) (hW : SWr O) (hP : SWp O) {F : Nat} (p0 p1 : Int) (G : GH) (k : IV → GH → Option R) :
    ∃ G', bodyC Tryd.prog O lo4 (F + 1) Tryd.f4 [.int .i64 p0, .int .i64 p1] G k = k (.bool true) G' := by
  obtain ⟨w, hw1, hw, ew⟩ := side_of p0 (m := 30) (by decide) (by decide)
  obtain ⟨h, hh1, hh, eh⟩ := side_of p1 (m := 30) (by decide) (by decide)
  have ew' : IntKind.wrap .i64 ((1 : Int) + (IntKind.wrap .i64 (Int.tmod (IntKind.wrap .u64 p0) (30 : Int)))) = (w : Int) := ew
  have eh' : IntKind.wrap .i64 ((1 : Int) + (IntKind.wrap .i64 (Int.tmod (IntKind.wrap .u64 p1) (30 : Int)))) = (h : Int) := eh
  have hp := prod_le hw hh
  have room : roomI = 1099511627776 := rfl
  have eT : Int.toNat ((w * h : Nat) : Int) = w * h := Int.toNat_natCast _
  have hB : ZB (gnew G (List.replicate (w * h) [.float .f64 (0 : Nat), .float .f64 (0 : Nat), .float .f64 (0 : Nat)]).flatten 39) G.length (w * h * 3) := by
    rw [flat3]; exact gnew_at _ _ _
  have c1 : (decide (0 ≤ ((w * h : Nat) : Int) ∧ ((w * h : Nat) : Int) ≤ ((w * h : Nat) : Int) ∧ ((w * h : Nat) : Int) * 24 ≤ roomI ∧ ((w * h : Nat) : Int) ≤ roomI) && true && true) = true := by
    simp only [Bool.and_true, decide_eq_true_eq]
    rw [room]
    exact ⟨by omega, by omega, by omega, by omega⟩
  have B0 : G.length + 1 ≤ (gnew G (List.replicate (w * h) [IV.float .f64 (0 : Nat), .float .f64 (0 : Nat), .float .f64 (0 : Nat)]).flatten 39).length := by rw [gnew_length]; omega
  rw [e_law08_PfmSizes]
  unfold u_law08_PfmSizes
  simp only [ew', eh', wmul hw hh, eT]
  rw [hA]
  simp only [ivBool, Option.bind_some, Bool.not_true, cond_false]
  rw [c1, cond_true]
  obtain ⟨a1, n1, G1, e1, hn1, K1, B1⟩ := hW w h G.length (G.length + 1) _ (fun v4 G5 =>
    (ivTup 2 v4).bind fun c6 => (ivSlice (c6.getD 0 undefI)).bind fun x7 => (ivInt .i64 (c6.getD 1 undefI)).bind fun x8 =>
    O fn_pfm_WritePPM [.agg [.int .i64 (w : Int), .int .i64 (h : Int), .slice (some (gaddr G)) (w * h)]] G5 fun v9 G10 =>
    (ivTup 2 v9).bind fun c11 => (ivSlice (c11.getD 0 undefI)).bind fun x12 => (ivInt .i64 (c11.getD 1 undefI)).bind fun x13 =>
    L_law08_PfmSizes_0 O (F + 1) k (w : Int) (h : Int) x7.1 x7.2 x8 x12.1 x12.2 x13 (10 : Int) (w : Int) (h : Int) (some (gaddr G)) (w * h) G10) hw1 hw hh1 hh hB (by omega) B0
  obtain ⟨a2, n2, G2, e2, hn2⟩ := hP w h G.length (G.length + 1) G1 (fun v9 G10 =>
    (ivTup 2 v9).bind fun c11 => (ivSlice (c11.getD 0 undefI)).bind fun x12 => (ivInt .i64 (c11.getD 1 undefI)).bind fun x13 =>
    L_law08_PfmSizes_0 O (F + 1) k (w : Int) (h : Int) a1 n1 0 x12.1 x12.2 x13 (10 : Int) (w : Int) (h : Int) (some (gaddr G)) (w * h) G10) hw1 hw hh1 hh (hB.keep K1 (by omega)) (by omega) B1
  exact ⟨G2, e1.trans (e2.trans (tail_b k hw hh hn1 hn2 a1 a2 _ _ _ _ G2))⟩
end
end Go.LI.Door

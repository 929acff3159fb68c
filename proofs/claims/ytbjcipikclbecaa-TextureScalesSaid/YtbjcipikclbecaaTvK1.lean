/- Several texts of this claim in one. -/
import Derived.Test.YtbjcipikclbecaaTxP
import Derived.Test.YtbjcipikclbecaaTxR
import Derived.Test.YtbjcipikclbecaaTxT

/-! Spans, explicit: what each operation of package span and vec gives. -/
namespace Go.LI.Fl
open Go Go.LI Ieee
set_option linter.unusedVariables false
set_option maxRecDepth 100000
theorem sv_sgnV (x : Nat) : sv x = sgn (sg dbl x) (mag dbl (rg dbl x)) := rfl
theorem mag_injV {a b : Nat} (h : mag dbl a = mag dbl b) : a = b := by
  rcases Nat.lt_trichotomy a b with h1 | h1 | h1
  · have := mag_lt h1; omega
  · exact h1
  · have := mag_lt h1; omega
theorem sv_word {s : Bool} {r : Nat} (h : r < 2 ^ 63) : sv (dbl.word s r) = sgn s (mag dbl r) := by
  have h' : r < dbl.signWeight := by rw [dbl_sw]; exact h
  rw [sv_sgnV, sg_word dbl h', rg_word dbl h']
theorem word_lt64 {s : Bool} {r : Nat} (h : r < 2 ^ 63) : dbl.word s r < 2 ^ 64 := by
  have := (word_split dbl (neg := s) (r := r) (by rw [dbl_sw]; exact h)).2.2
  rw [dbl_sw] at this
  omega
theorem rg_word' {s : Bool} {r : Nat} (h : r < 2 ^ 63) : rg dbl (dbl.word s r) = r := rg_word dbl (by rw [dbl_sw]; exact h)
theorem word_self {x : Nat} (h : x < 2 ^ 64) : dbl.word (sg dbl x) (rg dbl x) = x := word_sr dbl (by rw [dbl_sw]; omega)
theorem sv_inj {x y : Nat} (hx : x < 2 ^ 64) (hy : y < 2 ^ 64) (h : sv x = sv y) (h0 : sv y ≠ 0) : x = y := by
  rw [sv_sgnV, sv_sgnV] at h
  rw [sv_sgnV] at h0
  unfold sgn at h h0
  have hm : mag dbl (rg dbl x) = mag dbl (rg dbl y) := by
    split at h <;> split at h <;> omega
  have hs : sg dbl x = sg dbl y := by
    cases h1 : sg dbl x <;> cases h2 : sg dbl y
    · rfl
    · rw [h1, h2] at h; rw [h2] at h0; simp at h h0; omega
    · rw [h1, h2] at h; rw [h2] at h0; simp at h h0; omega
    · rfl
  rw [← word_self hx, ← word_self hy, hs, mag_injV hm]
/-- A number, no -0. -/
def clean (x : Nat) : Prop := num x ∧ (sv x = 0 → x = 0)
theorem clean_eq {x y : Nat} (hx : clean x) (hy : clean y) (h : sv x = sv y) : x = y := by
  by_cases h0 : sv y = 0
  · rw [hy.2 h0, hx.2 (h.trans h0)]
  · exact sv_inj hx.1.1 hy.1.1 h h0
theorem clean_zero : clean 0 := ⟨(num_small (by decide)).1, fun _ => rfl⟩
theorem clean_word {s : Bool} {r : Nat} (h0 : r ≠ 0) (h : r ≤ 9218868437227405312) : clean (dbl.word s r) := by
  refine ⟨⟨word_lt64 (by omega), by rw [rg_word' (by omega)]; exact h⟩, fun hc => ?_⟩
  exfalso
  rw [sv_word (by omega)] at hc
  have : mag dbl r = 0 := by unfold sgn at hc; split at hc <;> omega
  exact h0 ((mag_zero dbl).1 this)
def infW : Nat := 9218868437227405312
def ninfW : Nat := 18442240474082181120
theorem ninf_word : dbl.word true infW = ninfW := by decide +kernel
theorem clean_inf : clean infW := by
  have h : dbl.word false infW = infW := rfl
  rw [← h]
  exact clean_word (by decide) (Nat.le_refl _)
theorem clean_ninf : clean ninfW := by rw [← ninf_word]; exact clean_word (by decide) (Nat.le_refl _)
theorem clean_seal (s : Bool) (r : Nat) (g : Bool) : clean (sealW s r g) := by
  unfold sealW
  simp only
  by_cases h1 : r < 9218868437227405312
  · rw [if_pos h1]
    by_cases h0 : r = 0
    · rw [if_pos h0]; exact clean_zero
    · rw [if_neg h0]; exact clean_word h0 (by omega)
  · rw [if_neg h1]
    cases g with
    | true => rw [if_pos rfl, if_neg (by decide)]; exact clean_word (by decide) (Nat.le_refl _)
    | false => rw [if_neg (by simp), if_neg (by decide)]; exact clean_word (by decide) (by decide)
def minW (x y : Nat) : Nat := if sv y < sv x then y else x
def maxW (x y : Nat) : Nat := if sv x < sv y then y else x
theorem clean_min {x y : Nat} (hx : clean x) (hy : clean y) : clean (minW x y) := by unfold minW; split <;> assumption
theorem clean_max {x y : Nat} (hx : clean x) (hy : clean y) : clean (maxW x y) := by unfold maxW; split <;> assumption
theorem cmpZ (a b : Int) : (a < b → compare a b = .lt) ∧ (a = b → compare a b = .eq) ∧ (b < a → compare a b = .gt) := by
  refine ⟨fun h => ?_, fun h => ?_, fun h => ?_⟩
  · exact Int.compare_eq_lt.2 h
  · exact Int.compare_eq_eq.2 h
  · exact Int.compare_eq_gt.2 h
theorem fmin_clean {x y : Nat} (hx : clean x) (hy : clean y) : fmin .f64 x y = some (minW x y) := by
  unfold fmin minW
  have ho : (FloatKind.format .f64).order x y = some (compare (sv x) (sv y)) := order_sv hx.1 hy.1
  rw [ho]
  rcases Int.lt_trichotomy (sv x) (sv y) with h | h | h
  · rw [(cmpZ _ _).1 h, if_neg (c := sv y < sv x) (by omega)]
  · rw [(cmpZ _ _).2.1 h, if_neg (c := sv y < sv x) (by omega), clean_eq hx hy h]
    simp
  · rw [(cmpZ _ _).2.2 h, if_pos (c := sv y < sv x) h]
theorem fmax_clean {x y : Nat} (hx : clean x) (hy : clean y) : fmax .f64 x y = some (maxW x y) := by
  unfold fmax maxW
  have ho : (FloatKind.format .f64).order x y = some (compare (sv x) (sv y)) := order_sv hx.1 hy.1
  rw [ho]
  rcases Int.lt_trichotomy (sv x) (sv y) with h | h | h
  · rw [(cmpZ _ _).1 h, if_pos (c := sv x < sv y) h]
  · rw [(cmpZ _ _).2.1 h, if_neg (c := sv x < sv y) (by omega), clean_eq hx hy h]
    simp
  · rw [(cmpZ _ _).2.2 h, if_neg (c := sv x < sv y) (by omega)]
theorem fin_num {x : Nat} (h : num x) : decide (rg dbl x = 9218868437227405312) = !fin x := by
  have := h.2
  unfold fin
  by_cases hc : rg dbl x = 9218868437227405312
  · rw [decide_eq_true hc, decide_eq_false (by omega)]; rfl
  · rw [decide_eq_false hc, decide_eq_true (by omega)]; rfl
end Go.LI.Fl
namespace Go.LI.Film
open Go.Proofs.Ytbjcipikclbecaa Go Go.Proofs Go.LI Go.LI.Fl
set_option linter.unusedVariables false
set_option linter.unusedSimpArgs false
set_option maxRecDepth 100000
set_option exponentiation.threshold 2500

theorem clean_zw {x : Nat} (h : num x) : clean (zw x) := by
  refine ⟨zw_num h, fun h0 => ?_⟩
  unfold zw at h0 ⊢
  split
  · rfl
  · rename_i hr
    rw [if_neg hr] at h0
    exfalso
    have := h.2
    have hm : mag dbl (rg dbl x) = 0 := by unfold sv at h0; split at h0 <;> omega
    exact hr ((mag_zero dbl).1 hm)
theorem clean_mulV (a b : Nat) (d : Bool) : clean (mulV a b d) := by
  unfold mulV
  split
  · exact clean_seal _ _ _
  · exact clean_zero
/-! ### The operations -/
def ofL (x : Nat) : Nat := bif fin x then zw x else ninfW
def ofH (x : Nat) : Nat := bif fin x then zw x else infW
def ngW (x : Nat) : Nat := ((FloatKind.format .f64).sub 0 x).getD 0
def nilS (a b : Nat) : Bool := feq .f64 a 0 && feq .f64 b 0
def wideS (a b : Nat) : Bool := !(fin a && fin b)
def proL (a b c d : Nat) : Nat := minW (minW (minW (minW infW (mulV a c true)) (mulV a d true)) (mulV b c true)) (mulV b d true)
def proH (a b c d : Nat) : Nat := maxW (maxW (maxW (maxW ninfW (mulV a c false)) (mulV a d false)) (mulV b c false)) (mulV b d false)
def mulL (a b c d : Nat) : Nat := bif nilS a b || nilS c d then 0 else bif wideS a b || wideS c d then ninfW else proL a b c d
def mulH (a b c d : Nat) : Nat := bif nilS a b || nilS c d then 0 else bif wideS a b || wideS c d then infW else proH a b c d
def subL (a b c d : Nat) : Nat := lowX a (ngW d)
def subH (a b c d : Nat) : Nat := highX b (ngW c)
/-- The floor of a finite word, no -0. -/
def flW (x : Nat) : Nat := match FloatKind.f64.decode x with | .nan _ _ => 0 | d => zw (FloatKind.f64.encode (d.integral .down))
def flB (x y : Nat) : Bool := (fin x && fin y) && (feq .f64 (flW x) (flW y) && (!flt .f64 (flW x) 14069245235905429504 && !fgt .f64 (flW x) 4845873199050653696))
def flN (x y : Nat) : Int := bif flB x y then (f2i .f64 (flW x) .i64).getD 0 else 0
def flA (x y : Nat) : Int := bif flB x y then 1 else 2
def both (a b : Int) : Int := bif a == 1 && b == 1 then 1 else 2

theorem clean_ofL {x : Nat} (h : x < 2 ^ 64) : clean (ofL x) := by
  unfold ofL
  cases hf : fin x with
  | true => exact clean_zw (num_fin h hf)
  | false => exact clean_ninf
theorem clean_ofH {x : Nat} (h : x < 2 ^ 64) : clean (ofH x) := by
  unfold ofH
  cases hf : fin x with
  | true => exact clean_zw (num_fin h hf)
  | false => exact clean_inf
theorem clean_mulL (a b c d : Nat) : clean (mulL a b c d) := by
  unfold mulL
  cases nilS a b || nilS c d with
  | true => exact clean_zero
  | false => cases wideS a b || wideS c d with
    | true => exact clean_ninf
    | false => exact clean_min (clean_min (clean_min (clean_min clean_inf (clean_mulV _ _ _)) (clean_mulV _ _ _)) (clean_mulV _ _ _)) (clean_mulV _ _ _)
theorem clean_mulH (a b c d : Nat) : clean (mulH a b c d) := by
  unfold mulH
  cases nilS a b || nilS c d with
  | true => exact clean_zero
  | false => cases wideS a b || wideS c d with
    | true => exact clean_inf
    | false => exact clean_max (clean_max (clean_max (clean_max clean_ninf (clean_mulV _ _ _)) (clean_mulV _ _ _)) (clean_mulV _ _ _)) (clean_mulV _ _ _)
theorem clean_lowX (a b : Nat) : clean (lowX a b) := by
  unfold lowX
  split
  · exact clean_seal _ _ _
  · exact clean_ninf
theorem clean_highX (a b : Nat) : clean (highX a b) := by
  unfold highX
  split
  · exact clean_seal _ _ _
  · exact clean_inf
theorem sub0 {x : Nat} (hx : num x) : ∃ y, (FloatKind.format .f64).sub 0 x = some y ∧ num y := by
  show ∃ y, dbl.sub 0 x = some y ∧ num y
  have hz : dbl.read 0 = .number false 0 (-1074) := by decide +kernel
  rcases Nat.lt_or_ge (rg dbl x) 9218868437227405312 with h | h
  · obtain ⟨i, m, h1, h2⟩ := read_num h
    unfold Ieee.Format.sub
    rw [h1, hz]
    simp only [Ieee.Datum.opposite, Ieee.Datum.sum, Option.map_some, Ieee.Format.write]
    split
    · exact ⟨_, rfl, num_nearest _ _ _⟩
    · exact ⟨_, rfl, num_nearest _ _ _⟩
  · unfold Ieee.Format.sub
    have hr : rg dbl x = 9218868437227405312 := by have := hx.2; omega
    rw [read_infty hx.1 hr, hz]
    simp only [Ieee.Datum.opposite, Ieee.Datum.sum, Option.map_some, Ieee.Format.write]
    refine ⟨_, rfl, num_word ?_⟩
    rw [dbl_inf]
    exact Nat.le_refl _
theorem ng_some {x : Nat} (hx : num x) : (FloatKind.format .f64).sub 0 x = some (ngW x) ∧ num (ngW x) := by
  obtain ⟨y, h1, h2⟩ := sub0 hx
  unfold ngW
  rw [h1]
  exact ⟨rfl, h2⟩
theorem num_flW {x : Nat} (hf : fin x = true) : num (flW x) := by
  obtain ⟨i, m, h1, h2⟩ := read_num (x := x) (of_decide_eq_true hf)
  have hd : FloatKind.f64.decode x = .number (sg dbl x) m (-1074 + (i : Int)) := h1
  unfold flW
  rw [hd]
  exact zw_num (num_nearest _ _ _)

section
variable {R : Type}
abbrev VOf (O : Ora R) : Prop := ∀ (x : Nat), x < 2 ^ 64 → ∀ (G : GH) (k : IV → GH → Option R), O fn_span_Of [.float .f64 x] G k = k (S2 (ofL x) (ofH x)) G
abbrev VWide (O : Ora R) : Prop := ∀ (x y : Nat), num x → num y → ∀ (G : GH) (k : IV → GH → Option R), O fn_span_Wide [S2 x y] G k = k (.bool (wideS x y)) G
abbrev VMul (O : Ora R) : Prop := ∀ (a b c d : Nat), num a → num b → num c → num d → ∀ (G : GH) (k : IV → GH → Option R), O fn_span_Mul [S2 a b, S2 c d] G k = k (S2 (mulL a b c d) (mulH a b c d)) G
abbrev VSub (O : Ora R) : Prop := ∀ (a b c d : Nat), num a → num b → num c → num d → ∀ (G : GH) (k : IV → GH → Option R), O fn_span_Sub [S2 a b, S2 c d] G k = k (S2 (subL a b c d) (subH a b c d)) G
abbrev VFloor (O : Ora R) : Prop := ∀ (x y : Nat), x < 2 ^ 64 → y < 2 ^ 64 → ∀ (G : GH) (k : IV → GH → Option R), O fn_span_Floor [S2 x y] G k = k (.tuple [.int .i64 (flN x y), .int .i64 (flA x y)]) G
theorem vOf {F n : Nat} (hF : 1 ≤ F) (hn : 5 ≤ n) : VOf (runC (R := R) Try.prog lo0 F n) := by
  obtain ⟨n, rfl⟩ : ∃ j, n = j + 1 := ⟨n - 1, by omega⟩
  have hN := wNumber (R := R) (F := F) (n := n) hF (by omega)
  have hA := yAll (R := R) (F := F) (n := n) hF (by omega)
  intro x hx G k
  unfold ofL ofH
  rw [r_span_Of, e_span_Of, hN x hx, ivB]
  cases hf : fin x with
  | true =>
    have ha : (FloatKind.format .f64).add x 0 = some (zw x) := add_zero' hx (num_fin hx hf).2
    rw [Bool.not_true, cond_false, ha, Option.bind_some, Option.bind_some]
    rfl
  | false =>
    rw [Bool.not_false, cond_true, hA, agg2]
    rfl
theorem vWide {F n : Nat} (hF : 1 ≤ F) (hn : 4 ≤ n) : VWide (runC (R := R) Try.prog lo0 F n) := by
  obtain ⟨n, rfl⟩ : ∃ j, n = j + 1 := ⟨n - 1, by omega⟩
  have hI := wIsInf (R := R) (F := F) (n := n) hF (by omega)
  intro x y hx hy G k
  unfold wideS
  rw [r_span_Wide, e_span_Wide, hI x hx.1, ivB, fin_num hx]
  cases hf : fin x with
  | true =>
    rw [Bool.not_true, cond_false, hI y hy.1, ivB, fin_num hy]
    rfl
  | false => rfl
theorem vMul {F n : Nat} (hn : 10 ≤ n) : VMul (runC (R := R) Try.prog lo0 (F + 4) n) := by
  obtain ⟨n, rfl⟩ : ∃ j, n = j + 1 := ⟨n - 1, by omega⟩
  have hW := vWide (R := R) (F := F + 4) (n := n) (by omega) (by omega)
  have hAl := yAll (R := R) (F := F + 4) (n := n) (by omega) (by omega)
  have hI := wInf (R := R) (F := F + 3) (n := n) (by omega)
  have hD := wMul (R := R) (F := F + 4) (n := n) (by omega) (by omega)
  intro a b c d ha hb hc hd G k
  have l1 := clean_min clean_inf (clean_mulV a c true)
  have l2 := clean_min l1 (clean_mulV a d true)
  have l3 := clean_min l2 (clean_mulV b c true)
  have h1 := clean_max clean_ninf (clean_mulV a c false)
  have h2 := clean_max h1 (clean_mulV a d false)
  have h3 := clean_max h2 (clean_mulV b c false)
  rw [r_span_Mul, e_span_Mul]
  unfold mulL mulH nilS
  rw [Bool.and_true, Bool.and_true]
  cases (feq .f64 a 0 && feq .f64 b 0) with
  | true => rw [cond_true, Bool.true_or, cond_true, cond_true]
  | false =>
    rw [cond_false, Bool.false_or]
    cases (feq .f64 c 0 && feq .f64 d 0) with
    | true => rw [cond_true, cond_true, cond_true]
    | false =>
      rw [cond_false, cond_false, cond_false, hW a b ha hb, ivB]
      cases wideS a b with
      | true => rw [cond_true, hAl, agg2]; rfl
      | false =>
        rw [cond_false, hW c d hc hd, ivB]
        cases wideS c d with
        | true => rw [cond_true, hAl, agg2]; rfl
        | false =>
          rw [cond_false, (hI G _).1, ivF, (hI G _).2, ivF, Bool.or_false, cond_false, cond_false]
          rw [hD a c true ha.1 hc.1, tupFI, hD a c false ha.1 hc.1, tupFI, show fmin .f64 9218868437227405312 (mulV a c true) = some (minW infW (mulV a c true)) from fmin_clean clean_inf (clean_mulV _ _ _), Option.bind_some, show fmax .f64 18442240474082181120 (mulV a c false) = some (maxW ninfW (mulV a c false)) from fmax_clean clean_ninf (clean_mulV _ _ _), Option.bind_some]
          rw [hD a d true ha.1 hd.1, tupFI, hD a d false ha.1 hd.1, tupFI, fmin_clean l1 (clean_mulV _ _ _), Option.bind_some, fmax_clean h1 (clean_mulV _ _ _), Option.bind_some]
          rw [hD b c true hb.1 hc.1, tupFI, hD b c false hb.1 hc.1, tupFI, fmin_clean l2 (clean_mulV _ _ _), Option.bind_some, fmax_clean h2 (clean_mulV _ _ _), Option.bind_some]
          rw [hD b d true hb.1 hd.1, tupFI, hD b d false hb.1 hd.1, tupFI, fmin_clean l3 (clean_mulV _ _ _), Option.bind_some, fmax_clean h3 (clean_mulV _ _ _), Option.bind_some]
          rfl
theorem vSub {F n : Nat} (hF : 1 ≤ F) (hn : 11 ≤ n) : VSub (runC (R := R) Try.prog lo0 F n) := by
  obtain ⟨n, rfl⟩ : ∃ j, n = j + 11 := ⟨n - 11, by omega⟩
  have hA := xAdd (R := R) (F := F) (n := n + 10) hF (by omega)
  intro a b c d ha hb hc hd G k
  have hN : ∀ (G : GH) (k : IV → GH → Option R), runC Try.prog lo0 F (n + 10) fn_span_Neg [S2 c d] G k = k (S2 (ngW d) (ngW c)) G := fun G k => by
    rw [r_span_Neg, e_span_Neg, (ng_some hd).1, Option.bind_some, (ng_some hc).1, Option.bind_some]
  rw [r_span_Sub, e_span_Sub, hN, agg2, hA a b _ _ ha.1 hb.1 (ng_some hd).2.1 (ng_some hc).2.1, agg2]
  rfl
theorem vFloor {F n : Nat} (hF : 1 ≤ F) (hn : 6 ≤ n) : VFloor (runC (R := R) Try.prog lo0 F n) := by
  obtain ⟨n, rfl⟩ : ∃ j, n = j + 4 := ⟨n - 4, by omega⟩
  have hN := wNumber (R := R) (F := F) (n := n + 2) hF (by omega)
  have hP := wPlain (R := R) (F := F) (n := n + 2) (by omega)
  have hR : ∀ (x : Nat), x < 2 ^ 64 → ∀ (G : GH) (k : IV → GH → Option R), runC Try.prog lo0 F (n + 3) fn_round_Floor [.float .f64 x] G k = k (.tuple [.float .f64 (bif fin x then flW x else 0), .int .i64 (bif fin x then 0 else 10)]) G := by
    intro x hx G k
    rw [r_round_Floor, e_round_Floor, hN x hx, ivB]
    cases hf : fin x with
    | false => rfl
    | true =>
      obtain ⟨i, m, h1, h2⟩ := read_num (x := x) (of_decide_eq_true hf)
      have hd : FloatKind.f64.decode x = .number (sg dbl x) m (-1074 + (i : Int)) := h1
      have hfl : ∀ (G : GH) (k : IV → GH → Option R), runC Try.prog lo0 F (n + 2) fn_math_Floor [.float .f64 x] G k = k (.float .f64 (FloatKind.f64.encode ((Ieee.Datum.number (sg dbl x) m (-1074 + (i : Int))).integral .down))) G := by
        intro G k
        rw [r_math_Floor, e_math_Floor, show runC (R := R) Try.prog lo0 F (n + 1) fn_math_archFloor [.float .f64 x] G = bodyC Try.prog (runC Try.prog lo0 F n) [] F Try.f78 [.float .f64 x] G from funext fun k => run_body Try.func78 rfl rfl, x78, hd]
        rfl
      rw [Bool.not_true, cond_false, hfl, ivF, hP (FloatKind.f64.encode ((Ieee.Datum.number (sg dbl x) m (-1074 + (i : Int))).integral .down)) (num_nearest _ _ _), ivF]
      unfold flW
      rw [hd]
      rfl
  intro x y hx hy G k
  rw [r_span_Floor, e_span_Floor]
  unfold u_span_Floor
  rw [hR x hx, tupFI, hR y hy, tupFI]
  simp only [L_span_Floor_0, stepF hF, l_span_Floor_0]
  unfold u_span_Floor_0 flN flA flB
  cases fx : fin x with
  | false => rfl
  | true =>
    cases fy : fin y with
    | false => rfl
    | true =>
      simp only [Bool.and_self, Bool.true_and, cond_true]
      rw [show ((0 : Int) != 0) = false from rfl, cond_false, cond_false]
      cases c3 : feq .f64 (flW x) (flW y) with
      | false => rfl
      | true =>
        rw [Bool.not_true, cond_false, Bool.true_and]
        cases c4 : flt .f64 (flW x) 14069245235905429504 with
        | true => rfl
        | false =>
          rw [cond_false, Bool.not_false, Bool.true_and]
          cases c5 : fgt .f64 (flW x) 4845873199050653696 with
          | true => rfl
          | false =>
            have hu := num_flW fx
            have d4 := c4
            have d5 := c5
            rw [flt_sv hu bot53.1, bot53.2, decide_eq_false_iff_not] at d4
            rw [fgt_sv hu top53.1, top53.2, decide_eq_false_iff_not] at d5
            obtain ⟨m, hm⟩ := trunc_i64 hu (Int.not_lt.1 d4) (Int.not_lt.1 d5)
            unfold a_span_Floor_0N
            rw [cond_false, hm, Option.bind_some]
            rfl

/-! ### Three spans -/
abbrev VVOf (O : Ora R) : Prop := ∀ (c0 c1 c2 : Nat), c0 < 2 ^ 64 → c1 < 2 ^ 64 → c2 < 2 ^ 64 → ∀ (G : GH) (k : IV → GH → Option R), O fn_vec_Of [.agg [.float .f64 c0, .float .f64 c1, .float .f64 c2]] G k = k (S6 (ofL c0) (ofH c0) (ofL c1) (ofH c1) (ofL c2) (ofH c2)) G
theorem vVOf {F n : Nat} (hF : 1 ≤ F) (hn : 6 ≤ n) : VVOf (runC (R := R) Try.prog lo0 F n) := by
  obtain ⟨n, rfl⟩ : ∃ j, n = j + 1 := ⟨n - 1, by omega⟩
  have hO := vOf (R := R) (F := F) (n := n) hF (by omega)
  intro c0 c1 c2 h0 h1 h2 G k
  rw [r_vec_Of, e_vec_Of, hO c0 h0, agg2, hO c1 h1, agg2, hO c2 h2, agg2]
abbrev VTimes (O : Ora R) : Prop := ∀ (a0 a1 a2 a3 a4 a5 b0 b1 b2 b3 b4 b5 : Nat), num a0 → num a1 → num a2 → num a3 → num a4 → num a5 → num b0 → num b1 → num b2 → num b3 → num b4 → num b5 →
  ∀ (G : GH) (k : IV → GH → Option R), O fn_vec_Times [S6 a0 a1 a2 a3 a4 a5, S6 b0 b1 b2 b3 b4 b5] G k = k (S6 (mulL a0 a1 b0 b1) (mulH a0 a1 b0 b1) (mulL a2 a3 b2 b3) (mulH a2 a3 b2 b3) (mulL a4 a5 b4 b5) (mulH a4 a5 b4 b5)) G
theorem vTimes {F n : Nat} (hn : 12 ≤ n) : VTimes (runC (R := R) Try.prog lo0 (F + 4) n) := by
  obtain ⟨n, rfl⟩ : ∃ j, n = j + 12 := ⟨n - 12, by omega⟩
  have hM := vMul (R := R) (F := F) (n := n + 10) (by omega)
  intro a0 a1 a2 a3 a4 a5 b0 b1 b2 b3 b4 b5 p0 p1 p2 p3 p4 p5 q0 q1 q2 q3 q4 q5 G k
  have hE : ∀ (G : GH) (k : IV → GH → Option R), runC Try.prog lo0 (F + 4) (n + 11) fn_vec_each [S6 a0 a1 a2 a3 a4 a5, S6 b0 b1 b2 b3 b4 b5, .func 46 []] G k = k (S6 (mulL a0 a1 b0 b1) (mulH a0 a1 b0 b1) (mulL a2 a3 b2 b3) (mulH a2 a3 b2 b3) (mulL a4 a5 b4 b5) (mulH a4 a5 b4 b5)) G := fun G k => by
    rw [r_each, e_each_mul, hM _ _ _ _ p0 p1 q0 q1, agg2, hM _ _ _ _ p2 p3 q2 q3, agg2, hM _ _ _ _ p4 p5 q4 q5, agg2]
  rw [r_vec_Times, e_vec_Times, hE, S6_open]
abbrev VScal (O : Ora R) : Prop := ∀ (a0 a1 a2 a3 a4 a5 s0 s1 : Nat), num a0 → num a1 → num a2 → num a3 → num a4 → num a5 → num s0 → num s1 →
  ∀ (G : GH) (k : IV → GH → Option R), O fn_vec_Scale [S6 a0 a1 a2 a3 a4 a5, S2 s0 s1] G k = k (S6 (mulL a0 a1 s0 s1) (mulH a0 a1 s0 s1) (mulL a2 a3 s0 s1) (mulH a2 a3 s0 s1) (mulL a4 a5 s0 s1) (mulH a4 a5 s0 s1)) G
theorem vScal {F n : Nat} (hn : 13 ≤ n) : VScal (runC (R := R) Try.prog lo0 (F + 4) n) := by
  obtain ⟨n, rfl⟩ : ∃ j, n = j + 1 := ⟨n - 1, by omega⟩
  have hT := vTimes (R := R) (F := F) (n := n) (by omega)
  intro a0 a1 a2 a3 a4 a5 s0 s1 p0 p1 p2 p3 p4 p5 q0 q1 G k
  rw [r_vec_Scale, e_vec_Scale, hT _ _ _ _ _ _ _ _ _ _ _ _ p0 p1 p2 p3 p4 p5 q0 q1 q0 q1 q0 q1, S6_open]
abbrev VBoth (O : Ora R) : Prop := ∀ (a b : Int) (G : GH) (k : IV → GH → Option R), O fn_texture_both [.int .i64 a, .int .i64 b] G k = k (.int .i64 (both a b)) G
theorem vBoth {F n : Nat} (hn : 1 ≤ n) : VBoth (runC (R := R) Try.prog lo0 F n) := by
  obtain ⟨n, rfl⟩ : ∃ j, n = j + 1 := ⟨n - 1, by omega⟩
  intro a b G k
  rw [r_texture_both, e_texture_both]
  unfold both
  cases (a == (1 : Int)) <;> cases (b == (1 : Int)) <;> rfl
end
end Go.LI.Film

/-! One texture, explicit: samples of pictures, and each kind of texture. -/
namespace Go.LI.Film
open Go.Proofs.Ytbjcipikclbecaa Go Go.Proofs Go.LI Go.LI.Fl
set_option linter.unusedVariables false
set_option linter.unusedSimpArgs false
set_option maxRecDepth 100000
set_option exponentiation.threshold 2500

/-- What a texture comes to. -/
structure Vl where
  l0 : Nat
  h0 : Nat
  l1 : Nat
  h1 : Nat
  l2 : Nat
  h2 : Nat
  s : Int
def Vl.nil : Vl := ⟨0, 0, 0, 0, 0, 0, 0⟩
def vcs (v : Vl) : List IV := [.float .f64 v.l0, .float .f64 v.h0, .float .f64 v.l1, .float .f64 v.h1, .float .f64 v.l2, .float .f64 v.h2, .int .i64 v.s]
theorem vcs_length (v : Vl) : (vcs v).length = 7 := rfl
/-- Clean words all. -/
structure Vl.ok (v : Vl) : Prop where
  a0 : clean v.l0
  b0 : clean v.h0
  a1 : clean v.l1
  b1 : clean v.h1
  a2 : clean v.l2
  b2 : clean v.h2
theorem Vl.ok_nil : Vl.nil.ok := ⟨clean_zero, clean_zero, clean_zero, clean_zero, clean_zero, clean_zero⟩
theorem vl_ld {G : GH} {a : Option GA} {n i : Nat} {vs : List Vl} {v : Vl} (h : RP vcs G a n vs) (hi : vs[i]? = some v) : ∃ p, idx? a n (i : Int) 7 = some p ∧ ldFloat G .f64 (GA.add p 0) = some v.l0 ∧ ldFloat G .f64 (GA.add p 1) = some v.h0 ∧ ldFloat G .f64 (GA.add p 2) = some v.l1 ∧ ldFloat G .f64 (GA.add p 3) = some v.h1 ∧
    ldFloat G .f64 (GA.add p 4) = some v.l2 ∧ ldFloat G .f64 (GA.add p 5) = some v.h2 ∧ ldInt G .i64 (GA.add p 6) = some v.s := by
  have hl := (List.getElem?_eq_some_iff.1 hi).1
  obtain ⟨b, e, rest, rfl, hB⟩ := h.2 (by have := h.1; omega)
  have hn := h.1
  have at' : ∀ j, j < 7 → ((vs.map vcs).flatten ++ rest)[i * 7 + j]? = (vcs v)[j]? := fun j hj => (List.getElem?_append_left (by rw [recs_len vcs_length]; omega)).trans (recs_at vcs_length hi j hj)
  refine ⟨⟨b, i * 7⟩, ?_, ?_, ?_, ?_, ?_, ?_, ?_, ?_⟩
  · simp only [idx?, GA.add, Int.toNat_natCast, Nat.zero_add]
    rw [if_pos ⟨by omega, by omega⟩]
  · exact hB.flo (i := i * 7 + 0) (at' 0 (by omega))
  · exact hB.flo (i := i * 7 + 1) (at' 1 (by omega))
  · exact hB.flo (i := i * 7 + 2) (at' 2 (by omega))
  · exact hB.flo (i := i * 7 + 3) (at' 3 (by omega))
  · exact hB.flo (i := i * 7 + 4) (at' 4 (by omega))
  · exact hB.flo (i := i * 7 + 5) (at' 5 (by omega))
  · exact hB.int (i := i * 7 + 6) (at' 6 (by omega))

/-! ### Pictures -/
abbrev Tri := Nat × Nat × Nat
def tri (c : Tri) : List IV := [.float .f64 c.1, .float .f64 c.2.1, .float .f64 c.2.2]
theorem tri_length (c : Tri) : (tri c).length = 3 := rfl
structure Pi where
  w : Int
  h : Int
  px : List Tri
def Tri.w (c : Tri) : Prop := c.1 < 2 ^ 64 ∧ c.2.1 < 2 ^ 64 ∧ c.2.2 < 2 ^ 64
def Pi.w' (p : Pi) : Prop := ∀ c ∈ p.px, Tri.w c
structure PicOf (G : GH) (q : Pc) (p : Pi) : Prop where
  w : q.w = p.w
  h : q.h = p.h
  px : RP tri G q.a q.n p.px
def PR (G : GH) (a : Option GA) (n : Nat) (ps : List Pi) : Prop := ∃ qs, RP pics G a n qs ∧ qs.length = ps.length ∧ ∀ (i : Nat) (q : Pc) (p : Pi), qs[i]? = some q → ps[i]? = some p → PicOf G q p
theorem PR.keep {G G' : GH} {a : Option GA} {n base : Nat} {ps : List Pi} (h : PR G a n ps) (k : Keeps base G G') (hb : G.length ≤ base) : PR G' a n ps := by
  obtain ⟨qs, h1, h2, h3⟩ := h
  exact ⟨qs, h1.keep k hb, h2, fun i q p hq hp => ⟨(h3 i q p hq hp).w, (h3 i q p hq hp).h, (h3 i q p hq hp).px.keep k hb⟩⟩
theorem RP.freeze {α : Type} {f : α → List IV} {G : GH} {a : Option GA} {n : Nat} {ps : List α} (h : RP f G a n ps) : RP f (gfreeze G) a n ps := by
  refine ⟨h.1, fun hn => ?_⟩
  obtain ⟨b, e, rest, h1, h2⟩ := h.2 hn
  exact ⟨b, e, rest, h1, h2.freeze⟩
theorem pl_ldP {G : GH} {a : Option GA} {n i : Nat} {qs : List Pc} {q : Pc} (h : RP pics G a n qs) (hi : qs[i]? = some q) : ∃ p, idx? a n (i : Int) 3 = some p ∧ ldInt G .i64 (GA.add p 0) = some q.w ∧ ldInt G .i64 (GA.add p 1) = some q.h ∧ ldSlice G (GA.add p 2) = some (q.a, q.n) := by
  have hl := (List.getElem?_eq_some_iff.1 hi).1
  obtain ⟨b, e, rest, rfl, hB⟩ := h.2 (by have := h.1; omega)
  have hn := h.1
  have at' : ∀ j, j < 3 → ((qs.map pics).flatten ++ rest)[i * 3 + j]? = (pics q)[j]? := fun j hj => (List.getElem?_append_left (by rw [recs_len pics_length]; omega)).trans (recs_at pics_length hi j hj)
  refine ⟨⟨b, i * 3⟩, ?_, ?_, ?_, ?_⟩
  · simp only [idx?, GA.add, Int.toNat_natCast, Nat.zero_add]
    rw [if_pos ⟨by omega, by omega⟩]
  · exact hB.int (i := i * 3 + 0) (at' 0 (by omega))
  · exact hB.int (i := i * 3 + 1) (at' 1 (by omega))
  · exact hB.sli (i := i * 3 + 2) (at' 2 (by omega))

/-! ### What is computed -/
def lawful (w h : Int) (n : Nat) : Bool := (decide (1 ≤ w) && decide (1 ≤ h) && decide (w ≤ 1024) && decide (h ≤ 1024) && decide (w * h ≤ 65536)) && decide ((n : Int) = w * h)
def wrapN (x n : Int) : Int := bif decide (Int.tmod x n < 0) then Int.tmod x n + n else Int.tmod x n
theorem wrapN_lt {x n : Int} (h : 1 ≤ n) : 0 ≤ wrapN x n ∧ wrapN x n < n := by
  have h1 : Int.tmod x n < n := Int.tmod_lt_of_pos x (by omega)
  have h2 : -n < Int.tmod x n := by
    have := Int.lt_tmod_of_pos x (show 0 < n by omega)
    omega
  unfold wrapN
  cases hd : decide (Int.tmod x n < 0) with
  | true => have := of_decide_eq_true hd; rw [cond_true]; omega
  | false => have := of_decide_eq_false hd; rw [cond_false]; omega
def fW (w : Int) : Nat := FloatKind.nearest .f64 w
def sampV (w h : Int) (px : List Tri) (u0 u1 v0 v1 : Nat) : Vl :=
  bif lawful w h px.length then
    let a0 := mulL u0 u1 (ofL (fW w)) (ofH (fW w))
    let a1 := mulH u0 u1 (ofL (fW w)) (ofH (fW w))
    let b0 := mulL v0 v1 (ofL (fW h)) (ofH (fW h))
    let b1 := mulH v0 v1 (ofL (fW h)) (ofH (fW h))
    let c := px.getD (wrapN (flN b0 b1) h * w + wrapN (flN a0 a1) w).toNat (0, 0, 0)
    ⟨ofL c.1, ofH c.1, ofL c.2.1, ofH c.2.1, ofL c.2.2, ofH c.2.2, both (flA a0 a1) (flA b0 b1)⟩
  else ⟨0, 0, 0, 0, 0, 0, 2⟩
def oneV (ps : List Pi) (u0 u1 v0 v1 : Nat) (t : Tx) (x y : Vl) : Vl :=
  bif t.k == 2 then
    let a0 := mulL u0 u1 (ofL t.s) (ofH t.s)
    let a1 := mulH u0 u1 (ofL t.s) (ofH t.s)
    let b0 := mulL v0 v1 (ofL t.s) (ofH t.s)
    let b1 := mulH v0 v1 (ofL t.s) (ofH t.s)
    let p := bif Int.tmod (IntKind.wrap .i64 (flN a0 a1 + flN b0 b1)) 2 != 0 then y else x
    ⟨p.l0, p.h0, p.l1, p.h1, p.l2, p.h2, both (both (flA a0 a1) (flA b0 b1)) p.s⟩
  else bif t.k == 3 then
    let r0 := subL 4607182418800017408 4607182418800017408 (ofL t.s) (ofH t.s)
    let r1 := subH 4607182418800017408 4607182418800017408 (ofL t.s) (ofH t.s)
    let s0 := ofL t.s
    let s1 := ofH t.s
    ⟨lowX (mulL x.l0 x.h0 r0 r1) (mulL y.l0 y.h0 s0 s1), highX (mulH x.l0 x.h0 r0 r1) (mulH y.l0 y.h0 s0 s1),
     lowX (mulL x.l1 x.h1 r0 r1) (mulL y.l1 y.h1 s0 s1), highX (mulH x.l1 x.h1 r0 r1) (mulH y.l1 y.h1 s0 s1),
     lowX (mulL x.l2 x.h2 r0 r1) (mulL y.l2 y.h2 s0 s1), highX (mulH x.l2 x.h2 r0 r1) (mulH y.l2 y.h2 s0 s1), both x.s y.s⟩
  else bif t.k == 4 then
    let p := ps.getD t.im.toNat ⟨0, 0, []⟩
    sampV p.w p.h p.px (mulL u0 u1 (ofL t.s) (ofH t.s)) (mulH u0 u1 (ofL t.s) (ofH t.s)) (mulL v0 v1 (ofL t.s) (ofH t.s)) (mulH v0 v1 (ofL t.s) (ofH t.s))
  else bif t.k == 5 then
    ⟨mulL x.l0 x.h0 (ofL t.c0) (ofH t.c0), mulH x.l0 x.h0 (ofL t.c0) (ofH t.c0), mulL x.l1 x.h1 (ofL t.c1) (ofH t.c1), mulH x.l1 x.h1 (ofL t.c1) (ofH t.c1), mulL x.l2 x.h2 (ofL t.c2) (ofH t.c2), mulH x.l2 x.h2 (ofL t.c2) (ofH t.c2), x.s⟩
  else ⟨ofL t.c0, ofH t.c0, ofL t.c1, ofH t.c1, ofL t.c2, ofH t.c2, 1⟩
theorem sampV_ok {w h : Int} {px : List Tri} (hp : ∀ c ∈ px, Tri.w c) (u0 u1 v0 v1 : Nat) : (sampV w h px u0 u1 v0 v1).ok := by
  unfold sampV
  cases lawful w h px.length with
  | false => exact ⟨clean_zero, clean_zero, clean_zero, clean_zero, clean_zero, clean_zero⟩
  | true =>
    rw [cond_true]
    simp only
    generalize (wrapN _ h * w + wrapN _ w).toNat = i
    have hw : Tri.w (px.getD i (0, 0, 0)) := by
      rw [List.getD_eq_getElem?_getD]
      cases hi : px[i]? with
      | none => exact ⟨by decide, by decide, by decide⟩
      | some c => exact hp c (List.mem_of_getElem? hi)
    exact ⟨clean_ofL hw.1, clean_ofH hw.1, clean_ofL hw.2.1, clean_ofH hw.2.1, clean_ofL hw.2.2, clean_ofH hw.2.2⟩
theorem oneV_ok {ps : List Pi} {u0 u1 v0 v1 : Nat} {t : Tx} {x y : Vl} (hp : ∀ p ∈ ps, p.w') (ht : t.w) (hx : x.ok) (hy : y.ok) : (oneV ps u0 u1 v0 v1 t x y).ok := by
  unfold oneV
  cases t.k == 2 with
  | true =>
    rw [cond_true]
    simp only
    generalize (Int.tmod _ 2 != 0) = c
    cases c with
    | true => exact ⟨hy.a0, hy.b0, hy.a1, hy.b1, hy.a2, hy.b2⟩
    | false => exact ⟨hx.a0, hx.b0, hx.a1, hx.b1, hx.a2, hx.b2⟩
  | false =>
    cases t.k == 3 with
    | true => exact ⟨clean_lowX _ _, clean_highX _ _, clean_lowX _ _, clean_highX _ _, clean_lowX _ _, clean_highX _ _⟩
    | false =>
      cases t.k == 4 with
      | true =>
        rw [cond_false, cond_false, cond_true]
        simp only
        refine sampV_ok ?_ _ _ _ _
        rw [List.getD_eq_getElem?_getD]
        cases hi : ps[t.im.toNat]? with
        | none => intro c hc; cases hc
        | some p => exact hp p (List.mem_of_getElem? hi)
      | false =>
        cases t.k == 5 with
        | true => exact ⟨clean_mulL _ _ _ _, clean_mulH _ _ _ _, clean_mulL _ _ _ _, clean_mulH _ _ _ _, clean_mulL _ _ _ _, clean_mulH _ _ _ _⟩
        | false => exact ⟨clean_ofL ht.1, clean_ofH ht.1, clean_ofL ht.2.1, clean_ofH ht.2.1, clean_ofL ht.2.2.1, clean_ofH ht.2.2.1⟩
end Go.LI.Film

/-! Samples of pictures over the interpreter. -/
namespace Go.LI.Film
open Go.Proofs.Ytbjcipikclbecaa Go Go.Proofs Go.LI Go.LI.Fl
set_option linter.unusedVariables false
set_option linter.unusedSimpArgs false
set_option maxRecDepth 100000
set_option exponentiation.threshold 2500

def lw (w h : Int) : Bool := decide (1 ≤ w) && decide (1 ≤ h) && decide (w ≤ 1024) && decide (h ≤ 1024) && decide (w * h ≤ 65536)
theorem lw_spec {w h : Int} (hl : lw w h = true) : 1 ≤ w ∧ 1 ≤ h ∧ w ≤ 1024 ∧ h ≤ 1024 ∧ w * h ≤ 65536 := by
  unfold lw at hl
  simp only [Bool.and_eq_true, decide_eq_true_eq] at hl
  exact ⟨hl.1.1.1.1, hl.1.1.1.2, hl.1.1.2, hl.1.2, hl.2⟩
theorem prod_pos {w h : Int} (h1 : 1 ≤ w) (h2 : 1 ≤ h) : 1 ≤ w * h := by
  have : 0 < w * h := Int.mul_pos (by omega) (by omega)
  omega
theorem prod_top {w h : Int} (h1 : 1 ≤ w) (h2 : 1 ≤ h) (h3 : w ≤ 1024) (h4 : h ≤ 1024) : w * h ≤ 1048576 := by
  have a := Int.mul_le_mul_of_nonneg_right h3 (show 0 ≤ h by omega)
  omega
theorem grd_pre {G : GH} {b e n : Nat} {cs rest : List IV} (h : BL G b (cs ++ rest) e) (hn : cs.length = n) : grd G ⟨b, 0⟩ n = some cs := by
  obtain ⟨md, h1, h2⟩ := h
  subst hn
  simp [Go.LI.grd, h1, h2]
theorem zeros_len (n : Nat) : ((List.replicate n [IV.float .f64 (0 : Nat), .float .f64 (0 : Nat), .float .f64 (0 : Nat)]).flatten).length = n * 3 := by
  induction n with
  | zero => rfl
  | succ n ih => rw [List.replicate_succ, List.flatten_cons, List.length_append, ih]; simp; omega
section
variable {R : Type}
abbrev VNew (O : Ora R) : Prop := ∀ (w h : Int), (lw w h = false → ∀ (G : GH) (k : IV → GH → Option R), O fn_image_New_api_Triple [.int .i64 w, .int .i64 h] G k = k (.tuple [.ptr none, .int .i64 70]) G) ∧
  (lw w h = true → ∀ (G : GH) (k : IV → GH → Option R), O fn_image_New_api_Triple [.int .i64 w, .int .i64 h] G k =
    k (.tuple [.ptr (some ⟨G.length + 1, 0⟩), .int .i64 0]) (gnew (gnew G (List.replicate (w * h).toNat [IV.float .f64 (0 : Nat), .float .f64 (0 : Nat), .float .f64 (0 : Nat)]).flatten 48) [.int .i64 w, .int .i64 h, .slice (some ⟨G.length, 0⟩) (w * h).toNat] 110))
theorem vNew {F n : Nat} (hF : 1 ≤ F) (hn : 1 ≤ n) : VNew (runC (R := R) Try.prog lo0 F n) := by
  obtain ⟨n, rfl⟩ : ∃ j, n = j + 1 := ⟨n - 1, by omega⟩
  intro w h
  have run : ∀ (G : GH) (k : IV → GH → Option R), runC (R := R) Try.prog lo0 F (n + 1) fn_image_New_api_Triple [.int .i64 w, .int .i64 h] G k = u_image_New_api_Triple_0 (runC Try.prog lo0 F n) (a_image_New_api_Triple_0N (runC Try.prog lo0 F n) k) w h G := by
    intro G k
    rw [r_image_New_api_Triple, e_image_New_api_Triple]
    simp only [u_image_New_api_Triple, L_image_New_api_Triple_0, stepF hF, l_image_New_api_Triple_0]
  have bad : ∀ (G : GH) (k : IV → GH → Option R), a_image_New_api_Triple_0N (runC Try.prog lo0 F n) k w h true G = k (.tuple [.ptr none, .int .i64 70]) G := fun _ _ => rfl
  constructor
  · intro hl G k
    rw [run]
    unfold u_image_New_api_Triple_0
    cases c1 : decide (w < 1) with
    | true => rw [cond_true, bad]
    | false =>
      cases c2 : decide (h < 1) with
      | true => rw [cond_false, cond_true, bad]
      | false =>
        cases c3 : decide (w > 1024) with
        | true => rw [cond_false, cond_false, cond_true, bad]
        | false =>
          cases c4 : decide (h > 1024) with
          | true => rw [cond_false, cond_false, cond_false, cond_true, bad]
          | false =>
            rw [decide_eq_false_iff_not] at c1 c2 c3 c4
            have p1 := prod_pos (w := w) (h := h) (by omega) (by omega)
            have p2 := prod_top (w := w) (h := h) (by omega) (by omega) (by omega) (by omega)
            rw [cond_false, cond_false, cond_false, cond_false, wrapI (by omega) (by omega)]
            unfold lw at hl
            rw [decide_eq_true (show 1 ≤ w by omega), decide_eq_true (show 1 ≤ h by omega), decide_eq_true (show w ≤ 1024 by omega), decide_eq_true (show h ≤ 1024 by omega)] at hl
            simp only [Bool.and_self, Bool.true_and, decide_eq_false_iff_not] at hl
            rw [decide_eq_true (show w * h > 65536 by omega), bad]
  · intro hl G k
    obtain ⟨q1, q2, q3, q4, q5⟩ := lw_spec hl
    have p1 := prod_pos q1 q2
    rw [run]
    unfold u_image_New_api_Triple_0 a_image_New_api_Triple_0N
    rw [decide_eq_false (show ¬ w < 1 by omega), decide_eq_false (show ¬ h < 1 by omega), decide_eq_false (show ¬ w > 1024 by omega), decide_eq_false (show ¬ h > 1024 by omega), wrapI (show -9223372036854775808 ≤ w * h by omega) (by omega), decide_eq_false (show ¬ w * h > 65536 by omega)]
    rw [cond_false, cond_false, cond_false, cond_false, cond_false]
    rw [show (decide (0 ≤ w * h ∧ w * h ≤ w * h ∧ w * h * 24 ≤ (roomI : Int) ∧ w * h ≤ (roomI : Int)) && true && true) = true by
      unfold roomI; rw [Bool.and_true, Bool.and_true, decide_eq_true_eq]; refine ⟨by omega, by omega, by omega, by omega⟩]
    rw [cond_true]
    simp only [gaddr, gnew_length]
abbrev VIOf (O : Ora R) : Prop := ∀ (w h : Int) (pa : Option GA) (pn : Nat) (px : List Tri) (G : GH), RP tri G pa pn px →
  (lawful w h px.length = false → ∃ G', Keeps G.length G G' ∧ ∃ e : Int, e ≠ 0 ∧ ∀ (k : IV → GH → Option R), O fn_image_Of_api_Triple [.int .i64 w, .int .i64 h, .slice pa pn] G k = k (.tuple [.ptr none, .int .i64 e]) G') ∧
  (lawful w h px.length = true → ∃ (b1 b2 : Nat) (G' : GH), BL G' b1 ((px.map tri).flatten) 48 ∧ BL G' b2 [.int .i64 w, .int .i64 h, .slice (some ⟨b1, 0⟩) px.length] 110 ∧ Keeps G.length G G' ∧
    ∀ (k : IV → GH → Option R), O fn_image_Of_api_Triple [.int .i64 w, .int .i64 h, .slice pa pn] G k = k (.tuple [.ptr (some ⟨b2, 0⟩), .int .i64 0]) G')
theorem vIOf {F n : Nat} (hF : 1 ≤ F) (hn : 2 ≤ n) : VIOf (runC (R := R) Try.prog lo0 F n) := by
  obtain ⟨n, rfl⟩ : ∃ j, n = j + 1 := ⟨n - 1, by omega⟩
  have hN := vNew (R := R) (F := F) (n := n) hF (by omega)
  intro w h pa pn px G hP
  have hlen : px.length = pn := hP.1
  obtain ⟨n0, n1⟩ := hN w h
  have law : lawful w h px.length = (lw w h && decide ((pn : Int) = w * h)) := by unfold lawful lw; rw [hlen]
  rw [law]
  cases hl : lw w h with
  | false =>
    refine ⟨fun _ => ⟨G, Keeps.refl _ _, 70, by decide, fun k => ?_⟩, fun h => by cases h⟩
    rw [r_image_Of_api_Triple, e_image_Of_api_Triple, n0 hl, tupPI]
    rfl
  | true =>
    obtain ⟨q1, q2, q3, q4, q5⟩ := lw_spec hl
    have p1 := prod_pos q1 q2
    have e1 : ((0 : Int) != 0) = false := by decide
    rw [Bool.true_and]
    have kp : Keeps G.length G (gnew (gnew G (List.replicate (w * h).toNat [IV.float .f64 (0 : Nat), .float .f64 (0 : Nat), .float .f64 (0 : Nat)]).flatten 48) [.int .i64 w, .int .i64 h, .slice (some ⟨G.length, 0⟩) (w * h).toNat] 110) := (keeps_new G _ 48 (Nat.le_refl _)).trans (keeps_new _ _ 110 (by rw [gnew_length]; omega))
    constructor
    · intro hd
      rw [decide_eq_false_iff_not] at hd
      refine ⟨_, kp, 70, by decide, fun k => ?_⟩
      rw [r_image_Of_api_Triple, e_image_Of_api_Triple, n1 hl, tupPI, e1, cond_false, wrapI (by omega) (by omega), show ((pn : Int) != w * h) = true by simpa using hd, cond_true]
    · intro hd
      have hd := of_decide_eq_true hd
      have hpn : (w * h).toNat = pn := by omega
      have hpos : 0 < pn := by omega
      rw [hpn] at n1 kp
      obtain ⟨b, e, rest, rfl, hB⟩ := hP.2 hpos
      have hbx := hB.lt
      have h1 : (gnew (gnew G (List.replicate pn [IV.float .f64 (0 : Nat), .float .f64 (0 : Nat), .float .f64 (0 : Nat)]).flatten 48) [.int .i64 w, .int .i64 h, .slice (some ⟨G.length, 0⟩) pn] 110)[G.length]? = some ⟨(List.replicate pn [IV.float .f64 (0 : Nat), .float .f64 (0 : Nat), .float .f64 (0 : Nat)]).flatten, 48, 1⟩ := by
        rw [gnew_old (by rw [gnew_length]; omega)]; exact gnew_at G _ 48
      have h2 : (gnew (gnew G (List.replicate pn [IV.float .f64 (0 : Nat), .float .f64 (0 : Nat), .float .f64 (0 : Nat)]).flatten 48) [.int .i64 w, .int .i64 h, .slice (some ⟨G.length, 0⟩) pn] 110)[G.length + 1]? = some ⟨[.int .i64 w, .int .i64 h, .slice (some ⟨G.length, 0⟩) pn], 110, 1⟩ := by
        have := gnew_at (gnew G (List.replicate pn [IV.float .f64 (0 : Nat), .float .f64 (0 : Nat), .float .f64 (0 : Nat)]).flatten 48) [.int .i64 w, .int .i64 h, .slice (some ⟨G.length, 0⟩) pn] 110
        rwa [gnew_length] at this
      have hB2 := hB.keep kp hbx
      have hn := fun k => n1 hl G k
      generalize gnew (gnew G (List.replicate pn [IV.float .f64 (0 : Nat), .float .f64 (0 : Nat), .float .f64 (0 : Nat)]).flatten 48) [.int .i64 w, .int .i64 h, .slice (some ⟨G.length, 0⟩) pn] 110 = G2 at h1 h2 hB2 kp hn
      have hll : ((px.map tri).flatten).length = pn * 3 := by rw [recs_len tri_length, hlen]
      obtain ⟨G3, g1, g2, g3, g4⟩ := gst_all h1 (vs := (px.map tri).flatten) (by rw [hll, zeros_len])
      have q2' : BL G2 (G.length + 1) [.int .i64 w, .int .i64 h, .slice (some ⟨G.length, 0⟩) pn] 110 := ⟨1, by decide, h2⟩
      refine ⟨G.length, G.length + 1, G3, ⟨1, by decide, g2⟩, ⟨1, by decide, by rw [g3 _ (by omega), hlen]; exact h2⟩, ⟨by have := kp.1; omega, fun i hi => by rw [g3 i (by omega), kp.2 i hi]⟩, fun k => ?_⟩
      have hs := q2'.sli (i := 2) (a := some ⟨G.length, 0⟩) (n := pn) rfl
      have hg := grd_pre (n := min pn pn * 3) hB2 (by rw [hll, Nat.min_self])
      rw [r_image_Of_api_Triple, e_image_Of_api_Triple, hn, tupPI, e1, cond_false, wrapI (by omega) (by omega), show ((pn : Int) != w * h) = false by simpa using hd, cond_false, Option.bind_some, add00, hs, Option.bind_some]
      simp only [copyK, hg, g1]
abbrev VWrap (O : Ora R) : Prop := ∀ (x n : Int), 1 ≤ n → n ≤ 1024 → ∀ (G : GH) (k : IV → GH → Option R), O fn_image_wrap [.int .i64 x, .int .i64 n] G k = k (.int .i64 (wrapN x n)) G
theorem vWrap {F n : Nat} (hn : 1 ≤ n) : VWrap (runC (R := R) Try.prog lo0 F n) := by
  obtain ⟨n, rfl⟩ : ∃ j, n = j + 1 := ⟨n - 1, by omega⟩
  intro x m h1 h2 G k
  have b1 : Int.tmod x m < m := Int.tmod_lt_of_pos x (by omega)
  have b2 : -m < Int.tmod x m := by
    have := Int.lt_tmod_of_pos x (show 0 < m by omega)
    omega
  rw [r_image_wrap, e_image_wrap, show (m == 0) = false by simp; omega, cond_false]
  unfold wrapN
  cases hd : decide (Int.tmod x m < 0) with
  | true => rw [cond_true, cond_true, wrapI (by omega) (by omega)]
  | false => rw [cond_false, cond_false]
abbrev VWp (O : Ora R) : Prop := ∀ (b1 b2 : Nat) (w h : Int) (px : List Tri) (x y : Int) (G : GH), lawful w h px.length = true → BL G b1 ((px.map tri).flatten) 48 → BL G b2 [.int .i64 w, .int .i64 h, .slice (some ⟨b1, 0⟩) px.length] 110 → ∀ (k : IV → GH → Option R),
  O fn_image_Image_api_Triple_Wrapped [.ptr (some ⟨b2, 0⟩), .int .i64 x, .int .i64 y] G k = k (.agg [.float .f64 (px.getD (wrapN y h * w + wrapN x w).toNat (0, 0, 0)).1, .float .f64 (px.getD (wrapN y h * w + wrapN x w).toNat (0, 0, 0)).2.1, .float .f64 (px.getD (wrapN y h * w + wrapN x w).toNat (0, 0, 0)).2.2]) G
theorem wrap_in {w h x y : Int} (q1 : 1 ≤ w) (q2 : 1 ≤ h) : 0 ≤ wrapN y h * w + wrapN x w ∧ wrapN y h * w + wrapN x w < w * h := by
  obtain ⟨a1, a2⟩ := wrapN_lt (x := y) q2
  obtain ⟨b1, b2⟩ := wrapN_lt (x := x) q1
  have c1 : 0 ≤ wrapN y h * w := Int.mul_nonneg a1 (by omega)
  have c2 : (wrapN y h + 1) * w ≤ h * w := Int.mul_le_mul_of_nonneg_right (by omega) (by omega)
  rw [Int.add_mul, Int.one_mul, Int.mul_comm h w] at c2
  omega
theorem vWp {F n : Nat} (hn : 2 ≤ n) : VWp (runC (R := R) Try.prog lo0 F n) := by
  obtain ⟨n, rfl⟩ : ∃ j, n = j + 1 := ⟨n - 1, by omega⟩
  have hW := vWrap (R := R) (F := F) (n := n) (by omega)
  intro b1 b2 w h px x y G hl h1 h2 k
  have hl' : lw w h = true ∧ ((px.length : Int) = w * h) := by
    unfold lawful at hl
    rw [Bool.and_eq_true] at hl
    exact ⟨hl.1, of_decide_eq_true hl.2⟩
  obtain ⟨q1, q2, q3, q4, q5⟩ := lw_spec hl'.1
  obtain ⟨i0, i1⟩ := wrap_in (w := w) (h := h) (x := x) (y := y) q1 q2
  have s2 := h2.sli (i := 2) (a := some ⟨b1, 0⟩) (n := px.length) rfl
  have e0 := h2.int (i := 0) (x := w) rfl
  have e1 := h2.int (i := 1) (x := h) rfl
  obtain ⟨m, hm⟩ : ∃ m : Nat, wrapN y h * w + wrapN x w = (m : Int) := ⟨(wrapN y h * w + wrapN x w).toNat, by omega⟩
  have hml : m < px.length := by have := hl'.2; omega
  have hg := List.getElem?_eq_getElem hml
  have at' : ∀ j, j < 3 → ((px.map tri).flatten)[m * 3 + j]? = (tri px[m])[j]? := fun j hj => recs_at tri_length hg j hj
  have f0 := h1.flo (i := m * 3 + 0) (at' 0 (by omega))
  have f1 := h1.flo (i := m * 3 + 1) (at' 1 (by omega))
  have f2 := h1.flo (i := m * 3 + 2) (at' 2 (by omega))
  have hpd : px.getD m (0, 0, 0) = px[m] := by rw [List.getD_eq_getElem?_getD, hg]; rfl
  have hc1 : 0 ≤ wrapN y h * w := Int.mul_nonneg (wrapN_lt (x := y) q2).1 (by omega)
  have hc2 := (wrapN_lt (x := x) q1).1
  rw [r_image_Image_api_Triple_Wrapped, e_image_Image_api_Triple_Wrapped]
  simp only [add00, s2, e0, e1, Option.bind_some]
  rw [hW y h q2 q4, ivI, hW x w q1 q3, ivI, wrapI (show -9223372036854775808 ≤ wrapN y h * w by omega) (by omega), wrapI (by omega) (by omega), hm]
  rw [show idx? (some (⟨b1, 0⟩ : GA)) px.length (m : Int) 3 = some ⟨b1, m * 3⟩ by simp only [idx?, GA.add, Int.toNat_natCast, Nat.zero_add]; rw [if_pos ⟨by omega, by omega⟩], Option.bind_some]
  simp only [GA.add]
  rw [f0, Option.bind_some, f1, Option.bind_some, f2, Option.bind_some, Int.toNat_natCast, hpd]
theorem fW_w (w : Int) : fW w < 2 ^ 64 := by
  unfold fW FloatKind.nearest
  exact (num_nearest _ _ _).1
abbrev VSamp (O : Ora R) : Prop := ∀ (w h : Int) (px : List Tri) (u0 u1 v0 v1 : Nat), (∀ c ∈ px, Tri.w c) → num u0 → num u1 → num v0 → num v1 → ∀ (pa : Option GA) (pn : Nat) (G : GH), RP tri G pa pn px →
  ∃ G', Keeps G.length G G' ∧ ∀ (k : IV → GH → Option R), O fn_texture_sample [.agg [.int .i64 w, .int .i64 h, .slice pa pn], S2 u0 u1, S2 v0 v1] G k = k (.agg (vcs (sampV w h px u0 u1 v0 v1))) G'
theorem vSamp {F n : Nat} (hn : 11 ≤ n) : VSamp (runC (R := R) Try.prog lo0 (F + 4) n) := by
  obtain ⟨n, rfl⟩ : ∃ j, n = j + 1 := ⟨n - 1, by omega⟩
  have hI := vIOf (R := R) (F := F + 4) (n := n) (by omega) (by omega)
  have hO := vOf (R := R) (F := F + 4) (n := n) (by omega) (by omega)
  have hM := vMul (R := R) (F := F) (n := n) (by omega)
  have hFl := vFloor (R := R) (F := F + 4) (n := n) (by omega) (by omega)
  have hW := vWp (R := R) (F := F + 4) (n := n) (by omega)
  have hV := vVOf (R := R) (F := F + 4) (n := n) (by omega) (by omega)
  have hB := vBoth (R := R) (F := F + 4) (n := n) (by omega)
  intro w h px u0 u1 v0 v1 hpx hu0 hu1 hv0 hv1 pa pn G hP
  obtain ⟨i0, i1⟩ := hI w h pa pn px G hP
  unfold sampV
  cases hl : lawful w h px.length with
  | false =>
    obtain ⟨G', k1, e, he, h1⟩ := i0 hl
    refine ⟨G', k1, fun k => ?_⟩
    rw [r_texture_sample, e_texture_sample, h1, tupPI, show (e != 0) = true by simpa using he, cond_true]
    rfl
  | true =>
    obtain ⟨b1, b2, G', B1, B2, k1, h1⟩ := i1 hl
    refine ⟨G', k1, fun k => ?_⟩
    have e1 : ((0 : Int) != 0) = false := by decide
    have wp := hW b1 b2 w h px
    have hc : ∀ m, Tri.w (px.getD m (0, 0, 0)) := fun m => by
      rw [List.getD_eq_getElem?_getD]
      cases hi : px[m]? with
      | none => exact ⟨by decide, by decide, by decide⟩
      | some c => exact hpx c (List.mem_of_getElem? hi)
    have cw := fW_w w
    have ch := fW_w h
    have hw1 : FloatKind.nearest .f64 w = fW w := rfl
    have hh1 : FloatKind.nearest .f64 h = fW h := rfl
    rw [r_texture_sample, e_texture_sample, h1, tupPI, e1, cond_false, hw1, hh1]
    rw [hO _ cw, agg2, hM u0 u1 _ _ hu0 hu1 (clean_ofL cw).1 (clean_ofH cw).1, agg2, hFl _ _ (clean_mulL _ _ _ _).1.1 (clean_mulH _ _ _ _).1.1, tupII]
    rw [hO _ ch, agg2, hM v0 v1 _ _ hv0 hv1 (clean_ofL ch).1 (clean_ofH ch).1, agg2, hFl _ _ (clean_mulL _ _ _ _).1.1 (clean_mulH _ _ _ _).1.1, tupII]
    rw [wp _ _ G' hl B1 B2, agg3, hV _ _ _ (hc _).1 (hc _).2.1 (hc _).2.2, agg6, hB, ivI]
    rfl
end
end Go.LI.Film

/-! One texture over the interpreter. -/
namespace Go.LI.Film
open Go.Proofs.Ytbjcipikclbecaa Go Go.Proofs Go.LI Go.LI.Fl
set_option linter.unusedVariables false
set_option linter.unusedSimpArgs false
set_option maxRecDepth 100000
set_option exponentiation.threshold 2500

theorem ldf_lt {G : GH} {k : FloatKind} {a : GA} {x : Nat} (h : ldFloat G k a = some x) : a.b < G.length := by
  rcases Nat.lt_or_ge a.b G.length with h1 | h1
  · exact h1
  · simp only [ldFloat, gld, List.getElem?_eq_none h1] at h
    cases h
theorem blt_true {a b : Nat} (h : a < b) : Nat.blt a b = true := Nat.ble_eq_true_of_le h
/-- What a texture with which nothing is wrong has. -/
structure ChkOk (t : Tx) (i p : Int) : Prop where
  k : t.k = 1 ∨ t.k = 2 ∨ t.k = 3 ∨ t.k = 4 ∨ t.k = 5
  two : t.k = 2 ∨ t.k = 3 → (0 ≤ t.a ∧ t.a < i) ∧ (0 ≤ t.b ∧ t.b < i)
  sc : t.k = 5 → 0 ≤ t.a ∧ t.a < i
  im : t.k = 4 → 0 ≤ t.im ∧ t.im < p
theorem ahd_spec {x i : Int} (h : ahd x i = true) : 0 ≤ x ∧ x < i := by
  unfold ahd at h
  simp only [Bool.and_eq_true, decide_eq_true_eq] at h
  omega
theorem chk_ok {t : Tx} {i p : Int} (h : chk t i p = 0) : ChkOk t i p := by
  obtain ⟨k, c0, c1, c2, a, b, s, im⟩ := t
  unfold chk at h
  simp only at h
  rcases kcases k with hk | hk | rfl | rfl | rfl | rfl | rfl
  · rw [decide_eq_true hk, Bool.true_or, cond_true] at h; cases h
  · rw [decide_eq_true hk, Bool.or_true, cond_true] at h; cases h
  · exact ⟨.inl rfl, fun h => by simp at h, fun h => by simp at h, fun h => by simp at h⟩
  · refine ⟨.inr (.inl rfl), fun _ => ?_, fun h => by simp at h, fun h => by simp at h⟩
    simp only [show (decide ((2 : Int) < 1) || decide ((2 : Int) > 5)) = false by decide, cond_false, show ((2 : Int) == 1) = false by decide, show ((2 : Int) == 5) = false by decide, show ((2 : Int) == 2) = true by decide, show ((2 : Int) == 3) = false by decide, show ((2 : Int) == 4) = false by decide, Bool.or_self, Bool.false_and, Bool.true_or, Bool.true_and, Bool.or_false] at h
    cases hs : !fin s with
    | true => rw [hs] at h; cases h
    | false =>
      rw [hs, cond_false] at h
      cases h1 : ahd a i with
      | false => rw [h1] at h; cases h
      | true =>
        cases h2 : ahd b i with
        | false => rw [h1, h2] at h; cases h
        | true => exact ⟨ahd_spec h1, ahd_spec h2⟩
  · refine ⟨.inr (.inr (.inl rfl)), fun _ => ?_, fun h => by simp at h, fun h => by simp at h⟩
    simp only [show (decide ((3 : Int) < 1) || decide ((3 : Int) > 5)) = false by decide, cond_false, show ((3 : Int) == 1) = false by decide, show ((3 : Int) == 5) = false by decide, show ((3 : Int) == 2) = false by decide, show ((3 : Int) == 3) = true by decide, show ((3 : Int) == 4) = false by decide, Bool.or_self, Bool.false_and, Bool.true_or, Bool.or_true, Bool.true_and, Bool.or_false] at h
    cases hs : !fin s with
    | true => rw [hs] at h; cases h
    | false =>
      rw [hs, cond_false] at h
      cases hs2 : (flt .f64 s 0 || fgt .f64 s 4607182418800017408) with
      | true => rw [hs2] at h; cases h
      | false =>
        rw [hs2, cond_false] at h
        cases h1 : ahd a i with
        | false => rw [h1] at h; cases h
        | true =>
          cases h2 : ahd b i with
          | false => rw [h1, h2] at h; cases h
          | true => exact ⟨ahd_spec h1, ahd_spec h2⟩
  · refine ⟨.inr (.inr (.inr (.inl rfl))), fun h => by simp at h, fun h => by simp at h, fun _ => ?_⟩
    simp only [show (decide ((4 : Int) < 1) || decide ((4 : Int) > 5)) = false by decide, cond_false, show ((4 : Int) == 1) = false by decide, show ((4 : Int) == 5) = false by decide, show ((4 : Int) == 2) = false by decide, show ((4 : Int) == 3) = false by decide, show ((4 : Int) == 4) = true by decide, Bool.or_self, Bool.false_and, Bool.true_or, Bool.or_true, Bool.true_and, Bool.or_false] at h
    cases hs : !fin s with
    | true => rw [hs] at h; cases h
    | false =>
      rw [hs, cond_false] at h
      cases h1 : (decide (im < 0) || decide (im ≥ p)) with
      | true => rw [h1] at h; cases h
      | false =>
        simp only [Bool.or_eq_false_iff, decide_eq_false_iff_not] at h1
        simp only
        omega
  · refine ⟨.inr (.inr (.inr (.inr rfl))), fun h => by simp at h, fun _ => ?_, fun h => by simp at h⟩
    simp only [show (decide ((5 : Int) < 1) || decide ((5 : Int) > 5)) = false by decide, cond_false, show ((5 : Int) == 1) = false by decide, show ((5 : Int) == 5) = true by decide, show ((5 : Int) == 2) = false by decide, show ((5 : Int) == 3) = false by decide, show ((5 : Int) == 4) = false by decide, Bool.or_self, Bool.false_and, Bool.true_or, Bool.or_true, Bool.true_and, Bool.or_false, Bool.false_or] at h
    cases hs : !(fin c0 && (fin c1 && fin c2)) with
    | true => rw [hs] at h; cases h
    | false =>
      rw [hs, cond_false] at h
      cases h1 : ahd a i with
      | false => rw [h1] at h; cases h
      | true => exact ahd_spec h1
section
variable {R : Type}
abbrev VOne (O : Ora R) : Prop := ∀ (ps : List Pi) (u0 u1 v0 v1 : Nat) (t : Tx) (vals : List Vl) (i : Nat), t.w → chk t i ps.length = 0 → i ≤ vals.length → (∀ v ∈ vals, v.ok) → (∀ p ∈ ps, p.w') → num u0 → num u1 → num v0 → num v1 →
  ∀ (pa va : Option GA) (pn vn : Nat) (G : GH), PR G pa pn ps → RP vcs G va vn vals → ∀ (k : IV → GH → Option R),
  O fn_texture_one [.agg (tcs t), .slice pa pn, .slice va vn, S2 u0 u1, S2 v0 v1] G k = k (.agg (vcs (oneV ps u0 u1 v0 v1 t (vals.getD t.a.toNat Vl.nil) (vals.getD t.b.toNat Vl.nil)))) G
theorem vl_at {G : GH} {a : Option GA} {n : Nat} {vs : List Vl} {x : Int} {i : Nat} (h : RP vcs G a n vs) (hx : 0 ≤ x ∧ x < i) (hi : i ≤ vs.length) : ∃ p, idx? a n x 7 = some p ∧ ldFloat G .f64 (GA.add p 0) = some (vs.getD x.toNat Vl.nil).l0 ∧ ldFloat G .f64 (GA.add p 1) = some (vs.getD x.toNat Vl.nil).h0 ∧ ldFloat G .f64 (GA.add p 2) = some (vs.getD x.toNat Vl.nil).l1 ∧ ldFloat G .f64 (GA.add p 3) = some (vs.getD x.toNat Vl.nil).h1 ∧
    ldFloat G .f64 (GA.add p 4) = some (vs.getD x.toNat Vl.nil).l2 ∧ ldFloat G .f64 (GA.add p 5) = some (vs.getD x.toNat Vl.nil).h2 ∧ ldInt G .i64 (GA.add p 6) = some (vs.getD x.toNat Vl.nil).s := by
  obtain ⟨m, rfl⟩ : ∃ m : Nat, x = (m : Int) := ⟨x.toNat, by omega⟩
  have hm : m < vs.length := by omega
  have hg := List.getElem?_eq_getElem hm
  rw [Int.toNat_natCast, List.getD_eq_getElem?_getD, hg]
  exact vl_ld h hg
theorem vl_okD {vs : List Vl} (h : ∀ v ∈ vs, v.ok) (m : Nat) : (vs.getD m Vl.nil).ok := by
  rw [List.getD_eq_getElem?_getD]
  cases hi : vs[m]? with
  | none => exact Vl.ok_nil
  | some v => exact h v (List.mem_of_getElem? hi)
theorem one_w' : num 4607182418800017408 := num_fin (by decide) one_fin
theorem ofL_one : ofL 4607182418800017408 = 4607182418800017408 := by unfold ofL; rw [one_fin, cond_true, zw_one]
theorem ofH_one : ofH 4607182418800017408 = 4607182418800017408 := by unfold ofH; rw [one_fin, cond_true, zw_one]
theorem vOne {F n : Nat} (hn : 14 ≤ n) : VOne (runC (R := R) Try.prog lo0 (F + 4) n) := by
  obtain ⟨n, rfl⟩ : ∃ j, n = j + 1 := ⟨n - 1, by omega⟩
  have hO := vOf (R := R) (F := F + 4) (n := n) (by omega) (by omega)
  have hM := vMul (R := R) (F := F) (n := n) (by omega)
  have hSu := vSub (R := R) (F := F + 4) (n := n) (by omega) (by omega)
  have hFl := vFloor (R := R) (F := F + 4) (n := n) (by omega) (by omega)
  have hV := vVOf (R := R) (F := F + 4) (n := n) (by omega) (by omega)
  have hT := vTimes (R := R) (F := F) (n := n) (by omega)
  have hSc := vScal (R := R) (F := F) (n := n) (by omega)
  have hA := yVAd (R := R) (F := F) (n := n) (by omega)
  have hB := vBoth (R := R) (F := F + 4) (n := n) (by omega)
  have hSa := vSamp (R := R) (F := F) (n := n) (by omega)
  intro ps u0 u1 v0 v1 t vals i ht hck hi hvo hpo hu0 hu1 hv0 hv1 pa va pn vn G hP hR k
  have hc := chk_ok hck
  obtain ⟨K, c0, c1, c2, a, b, s, im⟩ := t
  obtain ⟨w0, w1, w2, ws⟩ := ht
  simp only at w0 w1 w2 ws
  have hk : K = 1 ∨ K = 2 ∨ K = 3 ∨ K = 4 ∨ K = 5 := hc.k
  have hc2 : K = 2 ∨ K = 3 → (0 ≤ a ∧ a < (i : Int)) ∧ (0 ≤ b ∧ b < (i : Int)) := hc.two
  have hc5 : K = 5 → 0 ≤ a ∧ a < (i : Int) := hc.sc
  have hc4 : K = 4 → 0 ≤ im ∧ im < (ps.length : Int) := hc.im
  clear hc hck
  have nL := (clean_ofL ws).1
  have nH := (clean_ofH ws).1
  unfold tcs
  simp only
  rw [r_texture_one, e_texture_one]
  unfold u_texture_one
  rw [hO s ws, agg2]
  rcases hk with rfl | rfl | rfl | rfl | rfl
  · rw [show ((1 : Int) == 2) = false by decide, show ((1 : Int) == 3) = false by decide, show ((1 : Int) == 4) = false by decide, show ((1 : Int) == 5) = false by decide, cond_false, cond_false, cond_false, cond_false, hV c0 c1 c2 w0 w1 w2, agg6]
    rfl
  · obtain ⟨ha, hb⟩ := hc2 (.inl rfl)
    obtain ⟨p, i0, j0, j1, j2, j3, j4, j5, j6⟩ := vl_at hR ha hi
    obtain ⟨q, i1, m0, m1, m2, m3, m4, m5, m6⟩ := vl_at hR hb hi
    rw [show ((2 : Int) == 2) = true by decide, cond_true, hM _ _ _ _ hu0 hu1 nL nH, agg2, hFl _ _ (clean_mulL _ _ _ _).1.1 (clean_mulH _ _ _ _).1.1, tupII]
    rw [hM _ _ _ _ hv0 hv1 nL nH, agg2, hFl _ _ (clean_mulL _ _ _ _).1.1 (clean_mulH _ _ _ _).1.1, tupII]
    rw [i0, Option.bind_some, j0, Option.bind_some, j1, Option.bind_some, j2, Option.bind_some, j3, Option.bind_some, j4, Option.bind_some, j5, Option.bind_some, j6, Option.bind_some]
    simp only [L_texture_one_0, stepN_succ, l_texture_one_0, u_texture_one_0]
    unfold oneV
    simp only [show ((2 : Int) == 2) = true by decide, cond_true]
    generalize hcc : (Int.tmod (IntKind.wrap .i64 (flN (mulL u0 u1 (ofL s) (ofH s)) (mulH u0 u1 (ofL s) (ofH s)) + flN (mulL v0 v1 (ofL s) (ofH s)) (mulH v0 v1 (ofL s) (ofH s)))) 2 != 0) = cc
    cases cc with
    | true =>
      rw [cond_true, i1, Option.bind_some, m0, Option.bind_some, m1, Option.bind_some, m2, Option.bind_some, m3, Option.bind_some, m4, Option.bind_some, m5, Option.bind_some, m6, Option.bind_some]
      simp only [a_texture_one_0N]
      rw [hB, ivI, hB, ivI]
      rfl
    | false =>
      rw [cond_false]
      simp only [a_texture_one_0N]
      rw [hB, ivI, hB, ivI]
      rfl
  · obtain ⟨ha, hb⟩ := hc2 (.inr rfl)
    obtain ⟨p, i0, j0, j1, j2, j3, j4, j5, j6⟩ := vl_at hR ha hi
    obtain ⟨q, i1, m0, m1, m2, m3, m4, m5, m6⟩ := vl_at hR hb hi
    have xo := vl_okD hvo a.toNat
    have yo := vl_okD hvo b.toNat
    have r0 : num (subL 4607182418800017408 4607182418800017408 (ofL s) (ofH s)) := (clean_lowX _ _).1
    have r1 : num (subH 4607182418800017408 4607182418800017408 (ofL s) (ofH s)) := (clean_highX _ _).1
    have o1 := hO 4607182418800017408 (by decide)
    rw [ofL_one, ofH_one] at o1
    have pb : p.b < G.length := ldf_lt (a := GA.add p 0) j0
    have qb : q.b < G.length := ldf_lt (a := GA.add q 0) m0
    rw [show ((3 : Int) == 2) = false by decide, show ((3 : Int) == 3) = true by decide, cond_false, cond_true]
    rw [i0, Option.bind_some, if_pos (blt_true pb), j0, Option.bind_some, j1, Option.bind_some, j2, Option.bind_some, j3, Option.bind_some, j4, Option.bind_some, j5, Option.bind_some, j6, Option.bind_some]
    rw [i1, Option.bind_some, if_pos (blt_true qb), m0, Option.bind_some, m1, Option.bind_some, m2, Option.bind_some, m3, Option.bind_some, m4, Option.bind_some, m5, Option.bind_some, m6, Option.bind_some]
    rw [o1, agg2, hSu _ _ _ _ one_w' one_w' nL nH, agg2]
    rw [hSc _ _ _ _ _ _ _ _ xo.a0.1 xo.b0.1 xo.a1.1 xo.b1.1 xo.a2.1 xo.b2.1 r0 r1, agg6, hSc _ _ _ _ _ _ _ _ yo.a0.1 yo.b0.1 yo.a1.1 yo.b1.1 yo.a2.1 yo.b2.1 nL nH, agg6]
    rw [hA _ _ _ _ _ _ _ _ _ _ _ _ (clean_mulL _ _ _ _).1 (clean_mulH _ _ _ _).1 (clean_mulL _ _ _ _).1 (clean_mulH _ _ _ _).1 (clean_mulL _ _ _ _).1 (clean_mulH _ _ _ _).1 (clean_mulL _ _ _ _).1 (clean_mulH _ _ _ _).1 (clean_mulL _ _ _ _).1 (clean_mulH _ _ _ _).1 (clean_mulL _ _ _ _).1 (clean_mulH _ _ _ _).1, agg6, hB, ivI]
    rfl
  · have him := hc4 rfl
    obtain ⟨qs, P1, P2, P3⟩ := hP
    obtain ⟨m, rfl⟩ : ∃ m : Nat, im = (m : Int) := ⟨im.toNat, by omega⟩
    have hm : m < ps.length := by omega
    have hg := List.getElem?_eq_getElem hm
    have hq := List.getElem?_eq_getElem (show m < qs.length by omega)
    have po := P3 m _ _ hq hg
    obtain ⟨p, i0, j0, j1, j2⟩ := pl_ldP P1 hq
    have nl := (clean_mulL u0 u1 (ofL s) (ofH s)).1
    have nh := (clean_mulH u0 u1 (ofL s) (ofH s)).1
    have ml := (clean_mulL v0 v1 (ofL s) (ofH s)).1
    have mh := (clean_mulH v0 v1 (ofL s) (ofH s)).1
    obtain ⟨G', k1, h1⟩ := hSa (ps[m]).w (ps[m]).h (ps[m]).px _ _ _ _ (hpo _ (List.getElem_mem hm)) nl nh ml mh (qs[m]).a (qs[m]).n (gfreeze G) po.px.freeze
    rw [po.w] at j0
    rw [po.h] at j1
    rw [show ((4 : Int) == 2) = false by decide, show ((4 : Int) == 3) = false by decide, show ((4 : Int) == 4) = true by decide, cond_false, cond_false, cond_true]
    rw [i0, Option.bind_some, j0, Option.bind_some, j1, Option.bind_some, j2, Option.bind_some]
    rw [hM _ _ _ _ hu0 hu1 nL nH, agg2, hM _ _ _ _ hv0 hv1 nL nH, agg2]
    rw [h1]
    unfold vcs
    rw [agg7]
    unfold oneV
    simp only [show ((4 : Int) == 2) = false by decide, show ((4 : Int) == 3) = false by decide, show ((4 : Int) == 4) = true by decide, cond_true, cond_false, Int.toNat_natCast]
    rw [List.getD_eq_getElem?_getD, hg]
    rfl
  · have ha := hc5 rfl
    obtain ⟨p, i0, j0, j1, j2, j3, j4, j5, j6⟩ := vl_at hR ha hi
    have xo := vl_okD hvo a.toNat
    have pad : ∀ j, GA.add (GA.add p 0) j = GA.add p j := fun j => by simp [GA.add]
    rw [show ((5 : Int) == 2) = false by decide, show ((5 : Int) == 3) = false by decide, show ((5 : Int) == 4) = false by decide, show ((5 : Int) == 5) = true by decide, cond_false, cond_false, cond_false, cond_true]
    rw [i0, Option.bind_some]
    simp only [pad]
    rw [j0, Option.bind_some, j1, Option.bind_some, j2, Option.bind_some, j3, Option.bind_some, j4, Option.bind_some, j5, Option.bind_some]
    rw [hV c0 c1 c2 w0 w1 w2, agg6, hT _ _ _ _ _ _ _ _ _ _ _ _ xo.a0.1 xo.b0.1 xo.a1.1 xo.b1.1 xo.a2.1 xo.b2.1 (clean_ofL w0).1 (clean_ofH w0).1 (clean_ofL w1).1 (clean_ofH w1).1 (clean_ofL w2).1 (clean_ofH w2).1, agg6, Option.bind_some, j6, Option.bind_some]
    rfl
end
end Go.LI.Film

/-! Which textures are needed; Eval, whole. -/
namespace Go.LI.Film
open Go.Proofs.Ytbjcipikclbecaa Go Go.Proofs Go.LI Go.LI.Fl
set_option linter.unusedVariables false
set_option linter.unusedSimpArgs false
set_option maxRecDepth 100000
set_option exponentiation.threshold 2500

def Tx.nil : Tx := ⟨0, 0, 0, 0, 0, 0, 0, 0⟩
def ndStep (t : Tx) (i : Nat) (nd : List Bool) : List Bool :=
  bif nd.getD i false then bif t.k == 2 || t.k == 3 then (nd.set t.b.toNat true).set t.a.toNat true else bif t.k == 5 then nd.set t.a.toNat true else nd else nd
def ndRun (ts : List Tx) : Nat → List Bool → List Bool
  | 0, nd => nd
  | i + 1, nd => ndRun ts i (ndStep (ts.getD i Tx.nil) i nd)
theorem ndStep_length (t : Tx) (i : Nat) (nd : List Bool) : (ndStep t i nd).length = nd.length := by
  unfold ndStep
  cases nd.getD i false with
  | false => rfl
  | true =>
    cases t.k == 2 || t.k == 3 with
    | true => simp
    | false => cases t.k == 5 <;> simp
theorem ndRun_length (ts : List Tx) : ∀ (i : Nat) (nd : List Bool), (ndRun ts i nd).length = nd.length
  | 0, nd => rfl
  | i + 1, nd => by rw [ndRun, ndRun_length ts i, ndStep_length]
def evRun (f : Tx → Vl → Vl → Vl) (ts : List Tx) (nd : List Bool) : Nat → Nat → List Vl → List Vl
  | 0, _, vs => vs
  | r + 1, i, vs => evRun f ts nd r (i + 1) (bif nd.getD i false then vs.set i (f (ts.getD i Tx.nil) (vs.getD (ts.getD i Tx.nil).a.toNat Vl.nil) (vs.getD (ts.getD i Tx.nil).b.toNat Vl.nil)) else vs)
def evNd (ts : List Tx) (n : Nat) : List Bool := ndRun ts (n + 1) ((List.replicate (n + 1) false).set n true)
def evAll (f : Tx → Vl → Vl → Vl) (ts : List Tx) (n : Nat) : Vl := (evRun f ts (evNd ts n) (n + 1) 0 (List.replicate (n + 1) Vl.nil)).getD n Vl.nil
/-- What Eval tells is wrong. -/
def evE (ts : List Tx) (m : Nat) (n : Int) : Int := bif decide (n < 0) || decide (n ≥ (ts.length : Int)) then 110 else (chkA (m : Int) (ts.take (n.toNat + 1)) 0).2
def evV (ps : List Pi) (u0 u1 v0 v1 : Nat) (ts : List Tx) (n : Int) : Vl := bif evE ts ps.length n == 0 then evAll (oneV ps u0 u1 v0 v1) ts n.toNat else Vl.nil

theorem chkA_all {p : Int} : ∀ {ts : List Tx} {i : Nat}, (chkA p ts i).2 = 0 → ∀ (j : Nat) (t : Tx), ts[j]? = some t → chk t ((i + j : Nat) : Int) p = 0
  | [], i, h, j, t, hj => by simp at hj
  | t0 :: ts, i, h, j, t, hj => by
    rw [chkA] at h
    cases hc : (chk t0 i p != 0) with
    | true =>
      rw [hc, cond_true] at h
      simp only at h
      rw [h] at hc
      cases hc
    | false =>
      rw [hc, cond_false] at h
      cases j with
      | zero =>
        simp only [List.getElem?_cons_zero, Option.some.injEq] at hj
        subst hj
        simpa using hc
      | succ j =>
        rw [List.getElem?_cons_succ] at hj
        have := chkA_all h j t hj
        rwa [show i + 1 + j = i + (j + 1) by omega] at this
theorem splice_set {nd : List Bool} {o : Nat} (h : o < nd.length) : splice (nd.map IV.bool) o [.bool true] = (nd.set o true).map IV.bool := by
  unfold splice
  rw [List.set_eq_take_append_cons_drop, if_pos h, List.map_append, List.map_cons, List.map_take, List.map_drop]
  simp
theorem RP.pre {α : Type} {f : α → List IV} {G : GH} {a : Option GA} {n m : Nat} {ps : List α} (h : RP f G a n ps) (hm : m ≤ n) : RP f G a m (ps.take m) := by
  refine ⟨by rw [List.length_take, h.1]; omega, fun hp => ?_⟩
  obtain ⟨b, e, rest, h1, h2⟩ := h.2 (by omega)
  refine ⟨b, e, ((ps.drop m).map f).flatten ++ rest, h1, ?_⟩
  rw [← List.append_assoc, ← List.flatten_append, ← List.map_append, List.take_append_drop]
  exact h2
theorem RP.ofK {α : Type} {f : α → List IV} {G0 G : GH} {a : Option GA} {n : Nat} {ps : List α} (h : RP f G0 a n ps) (k : Keeps G0.length G0 G) : RP f G a n ps := h.keep k (Nat.le_refl _)
theorem flat_splice {α : Type} {f : α → List IV} {c : Nat} (hf : ∀ x, (f x).length = c) : ∀ {ps : List α} {i : Nat} {v : α}, i < ps.length → splice ((ps.map f).flatten) (i * c) (f v) = ((ps.set i v).map f).flatten
  | p :: ps, 0, v, _ => by
    unfold splice
    have : ∀ l : List IV, (f p ++ l).drop (f p).length = l := fun l => by simp
    rw [Nat.zero_mul, List.take_zero, List.nil_append, Nat.zero_add, hf, ← hf p, List.map_cons, List.flatten_cons, this]
    rfl
  | p :: ps, i + 1, v, h => by
    have ih := flat_splice hf (ps := ps) (i := i) (v := v) (by simpa using h)
    unfold splice at ih ⊢
    rw [List.set_cons_succ, List.map_cons, List.map_cons, List.flatten_cons, List.flatten_cons, ← ih]
    have e1 : (i + 1) * c = (f p).length + i * c := by rw [hf, Nat.add_mul]; omega
    rw [e1, List.take_length_add_append, Nat.add_assoc, List.drop_length_add_append]
    simp only [List.append_assoc]
section
variable {R : Type} {O : Ora R}
theorem nd_gst {G : GH} {bn m : Nat} {nd : List Bool} (h : G[bn]? = some ⟨nd.map IV.bool, 4, 1⟩) (hm : nd.length = m) {x : Int} (hx : 0 ≤ x ∧ x < (m : Int)) :
    ∃ G', idx? (some (⟨bn, 0⟩ : GA)) m x 1 = some ⟨bn, x.toNat⟩ ∧ gst G ⟨bn, x.toNat⟩ [.bool true] = some G' ∧ G'[bn]? = some ⟨(nd.set x.toNat true).map IV.bool, 4, 1⟩ ∧ (∀ i, i ≠ bn → G'[i]? = G[i]?) ∧ G'.length = G.length := by
  obtain ⟨o, rfl⟩ : ∃ o : Nat, x = (o : Int) := ⟨x.toNat, by omega⟩
  have ho : o < nd.length := by omega
  obtain ⟨G', h1, h2, h3, h4⟩ := gst_at (o := o) h (vs := [.bool true]) (by simp; omega)
  refine ⟨G', ?_, h1, ?_, h3, h4⟩
  · simp only [idx?, GA.add, Int.toNat_natCast, Nat.zero_add, Nat.mul_one]
    rw [if_pos ⟨by omega, by omega⟩]
  · rw [Int.toNat_natCast, h2, splice_set ho]
theorem nd_loop {F : Nat} (hF : 1 ≤ F) {a : Option GA} {n m p : Nat} {ts : List Tx} {G0 : GH} {bn : Nat} (hT : RP tcs G0 a n ts) (hmn : m ≤ n) (hm : m < 2 ^ 60) (hck : ∀ (j : Nat) (t : Tx), j < m → ts[j]? = some t → ChkOk t (j : Int) (p : Int)) (hb : G0.length ≤ bn) :
    ∀ (i : Nat) (G : GH) (nd : List Bool), i ≤ m → nd.length = m → Keeps G0.length G0 G → G[bn]? = some ⟨nd.map IV.bool, 4, 1⟩ →
    ∃ G', Keeps G0.length G0 G' ∧ G'[bn]? = some ⟨(ndRun ts i nd).map IV.bool, 4, 1⟩ ∧ (∀ b, b ≠ bn → G'[b]? = G[b]?) ∧ G'.length = G.length ∧ ∀ (K0 : OG → Nat → GH → Option R) (j : Nat), i < j →
      l_texture_needed_0 O F K0 j a n (some ⟨bn, 0⟩) m ((i : Int) - 1) G = K0 (some ⟨bn, 0⟩) m G' := by
  intro i
  induction i with
  | zero =>
    intro G nd hi hnd kG hN
    refine ⟨G, kG, hN, fun _ _ => rfl, rfl, fun K0 j hj => ?_⟩
    obtain ⟨j, rfl⟩ : ∃ j', j = j' + 1 := ⟨j - 1, by omega⟩
    simp only [l_texture_needed_0, u_texture_needed_0]
    rw [decide_eq_false (by omega), cond_false]
  | succ i ih =>
    intro G nd hi hnd kG hN
    have hl : i < ts.length := by have := hT.1; omega
    have hg := List.getElem?_eq_getElem hl
    have hgd : ts.getD i Tx.nil = ts[i] := by rw [List.getD_eq_getElem?_getD, hg]; rfl
    have hc := hck i _ (by omega) hg
    have e1 : ((i + 1 : Nat) : Int) - 1 = (i : Int) := by omega
    have bl : BL G bn (nd.map IV.bool) 4 := ⟨1, by decide, hN⟩
    have hi' : i < nd.length := by omega
    have hget : nd.getD i false = nd[i] := by rw [List.getD_eq_getElem?_getD, List.getElem?_eq_getElem hi']; rfl
    have hb1 := bl.boo (i := i) (x := nd[i]) (by rw [List.getElem?_map, List.getElem?_eq_getElem hi']; rfl)
    have x1 : idx? (some (⟨bn, 0⟩ : GA)) m (i : Int) 1 = some ⟨bn, i⟩ := by
      simp only [idx?, GA.add, Int.toNat_natCast, Nat.zero_add, Nat.mul_one]
      rw [if_pos ⟨by omega, by omega⟩]
    obtain ⟨q, l0, l1, -, -, -, l5, l6, -, -⟩ := tl_ldP (hT.ofK kG) hg
    have w1 : IntKind.wrap .i64 ((i : Int) - 1) = (i : Int) - 1 := wrapI (by omega) (by omega)
    have next : ∀ (G1 : GH) (nd1 : List Bool), nd1 = ndStep ts[i] i nd → (∀ b, b ≠ bn → G1[b]? = G[b]?) → G1.length = G.length → G1[bn]? = some ⟨nd1.map IV.bool, 4, 1⟩ →
        (∀ (K0 : OG → Nat → GH → Option R) (j : Nat), l_texture_needed_0 O F K0 (j + 1) a n (some ⟨bn, 0⟩) m (((i + 1 : Nat) : Int) - 1) G = l_texture_needed_0 O F K0 j a n (some ⟨bn, 0⟩) m ((i : Int) - 1) G1) →
        ∃ G', Keeps G0.length G0 G' ∧ G'[bn]? = some ⟨(ndRun ts (i + 1) nd).map IV.bool, 4, 1⟩ ∧ (∀ b, b ≠ bn → G'[b]? = G[b]?) ∧ G'.length = G.length ∧ ∀ (K0 : OG → Nat → GH → Option R) (j : Nat), i + 1 < j →
          l_texture_needed_0 O F K0 j a n (some ⟨bn, 0⟩) m (((i + 1 : Nat) : Int) - 1) G = K0 (some ⟨bn, 0⟩) m G' := by
      intro G1 nd1 h1 h2 h3 h4 h5
      have k1 : Keeps G0.length G0 G1 := ⟨by rw [h3]; exact kG.1, fun b hb' => by rw [h2 b (by omega), kG.2 b hb']⟩
      obtain ⟨G', q1, q2, q3, q4, q5⟩ := ih G1 nd1 (by omega) (by rw [h1, ndStep_length, hnd]) k1 h4
      refine ⟨G', q1, ?_, fun b hb' => (q3 b hb').trans (h2 b hb'), q4.trans h3, fun K0 j hj => ?_⟩
      · rw [ndRun, hgd, ← h1]; exact q2
      · obtain ⟨j, rfl⟩ : ∃ j', j = j' + 1 := ⟨j - 1, by omega⟩
        rw [h5, q5 K0 j (by omega)]
    have unf : ∀ (K0 : OG → Nat → GH → Option R) (j : Nat), l_texture_needed_0 O F K0 (j + 1) a n (some ⟨bn, 0⟩) m (((i + 1 : Nat) : Int) - 1) G = bif !nd[i] then l_texture_needed_0 O F K0 j a n (some ⟨bn, 0⟩) m ((i : Int) - 1) G else
        L_texture_needed_2 O F (a_texture_needed_1N O (l_texture_needed_0 O F K0 j) K0) a n (some ⟨bn, 0⟩) m (i : Int) ts[i].k G := by
      intro K0 j
      rw [e1, l_texture_needed_0]
      simp only [u_texture_needed_0]
      rw [decide_eq_true (show (i : Int) ≥ 0 by omega), cond_true]
      simp only [L_texture_needed_1, stepF hF, l_texture_needed_1, u_texture_needed_1]
      rw [x1, Option.bind_some, hb1, Option.bind_some]
      cases nd[i] with
      | false => rw [Bool.not_false, cond_true, cond_true, a_texture_needed_1N, w1]
      | true => rw [Bool.not_true, cond_false, cond_false, l0, Option.bind_some, l1, Option.bind_some]
    cases hn : nd[i] with
    | false =>
      refine next G nd ?_ (fun _ _ => rfl) rfl hN fun K0 j => ?_
      · unfold ndStep; rw [hget, hn]; rfl
      · rw [unf, hn, Bool.not_false, cond_true]
    | true =>
      cases h23 : (ts[i].k == 2 || ts[i].k == 3) with
      | true =>
        have hh : ts[i].k = 2 ∨ ts[i].k = 3 := by simpa using h23
        obtain ⟨ha, hbb⟩ := hc.two hh
        obtain ⟨G1, y1, y2, y3, y4, y5⟩ := nd_gst hN hnd (x := ts[i].b) ⟨hbb.1, by omega⟩
        obtain ⟨G2, z1, z2, z3, z4, z5⟩ := nd_gst y3 (by rw [List.length_set, hnd]) (x := ts[i].a) ⟨ha.1, by omega⟩
        have kG1 : Keeps G0.length G0 G1 := ⟨by rw [y5]; exact kG.1, fun b hb' => by rw [y4 b (by omega), kG.2 b hb']⟩
        obtain ⟨q', l0', -, -, -, -, l5', -, -, -⟩ := tl_ldP (hT.ofK kG1) hg
        refine next G2 _ ?_ (fun b hb' => (z4 b hb').trans (y4 b hb')) (z5.trans y5) z3 fun K0 j => ?_
        · unfold ndStep; rw [hget, hn, h23]; rfl
        · rw [unf, hn, Bool.not_true, cond_false]
          have fin2 : a_texture_needed_3N O (a_texture_needed_2N O (a_texture_needed_1N O (l_texture_needed_0 O F K0 j) K0)) (a_texture_needed_22 O (a_texture_needed_1N O (l_texture_needed_0 O F K0 j) K0)) a n (some ⟨bn, 0⟩) m (i : Int) G = l_texture_needed_0 O F K0 j a n (some ⟨bn, 0⟩) m ((i : Int) - 1) G2 := by
            unfold a_texture_needed_3N
            rw [l0, Option.bind_some, l6, Option.bind_some, y1, Option.bind_some, y2, Option.bind_some]
            unfold a_texture_needed_2N
            rw [l0', Option.bind_some, l5', Option.bind_some, z1, Option.bind_some, z2, Option.bind_some, a_texture_needed_1N, w1]
          simp only [L_texture_needed_2, stepF hF, l_texture_needed_2, u_texture_needed_2, L_texture_needed_3, l_texture_needed_3, u_texture_needed_3, L_texture_needed_4, l_texture_needed_4, u_texture_needed_4]
          rcases hh with hh | hh
          · rw [hh, show ((2 : Int) == 2) = true by decide, cond_true, cond_true, a_texture_needed_43, fin2]
          · rw [hh, show ((3 : Int) == 2) = false by decide, show ((3 : Int) == 3) = true by decide, cond_false, cond_true, a_texture_needed_43, fin2]
      | false =>
        have h2 : (ts[i].k == 2) = false := by cases h : ts[i].k == 2 with | false => rfl | true => rw [h] at h23; cases h23
        have h3 : (ts[i].k == 3) = false := by cases h : ts[i].k == 3 with | false => rfl | true => rw [h, Bool.or_true] at h23; cases h23
        cases h5 : (ts[i].k == 5) with
        | true =>
          have ha := hc.sc (by simpa using h5)
          obtain ⟨G2, z1, z2, z3, z4, z5⟩ := nd_gst hN hnd (x := ts[i].a) ⟨ha.1, by omega⟩
          refine next G2 _ ?_ z4 z5 z3 fun K0 j => ?_
          · unfold ndStep; rw [hget, hn, h23, h5]; rfl
          · rw [unf, hn, Bool.not_true, cond_false]
            simp only [L_texture_needed_2, stepF hF, l_texture_needed_2, u_texture_needed_2, L_texture_needed_3, l_texture_needed_3, u_texture_needed_3, L_texture_needed_4, l_texture_needed_4, u_texture_needed_4]
            rw [h2, h3, cond_false, cond_false, a_texture_needed_4N, h5, cond_true, a_texture_needed_34]
            unfold a_texture_needed_2N
            rw [l0, Option.bind_some, l5, Option.bind_some, z1, Option.bind_some, z2, Option.bind_some, a_texture_needed_1N, w1]
        | false =>
          refine next G nd ?_ (fun _ _ => rfl) rfl hN fun K0 j => ?_
          · unfold ndStep; rw [hget, hn, h23, h5]; rfl
          · rw [unf, hn, Bool.not_true, cond_false]
            simp only [L_texture_needed_2, stepF hF, l_texture_needed_2, u_texture_needed_2, L_texture_needed_3, l_texture_needed_3, u_texture_needed_3, L_texture_needed_4, l_texture_needed_4, u_texture_needed_4]
            rw [h2, h3, cond_false, cond_false, a_texture_needed_4N, h5, cond_false, a_texture_needed_32, a_texture_needed_22, a_texture_needed_1N, w1]
end
section
variable {R : Type}
abbrev VNd (O : Ora R) : Prop := ∀ (a : Option GA) (n m p : Nat) (ts : List Tx) (G : GH), RP tcs G a n ts → m + 1 ≤ n → n ≤ 200 → (∀ (j : Nat) (t : Tx), j < m + 1 → ts[j]? = some t → ChkOk t (j : Int) (p : Int)) →
  ∃ G', Keeps G.length G G' ∧ G'[G.length]? = some ⟨(evNd ts m).map IV.bool, 4, 1⟩ ∧ G'.length = G.length + 1 ∧ ∀ (k : IV → GH → Option R), O fn_texture_needed [.slice a n, .int .i64 (m : Int)] G k = k (.slice (some ⟨G.length, 0⟩) (m + 1)) G'
theorem vNd {F n : Nat} (hF : 1000 ≤ F) (hn : 1 ≤ n) : VNd (runC (R := R) Try.prog lo0 F n) := by
  obtain ⟨n, rfl⟩ : ∃ j, n = j + 1 := ⟨n - 1, by omega⟩
  intro a nn m p ts G hT hm hnn hck
  have h0 : (gnew G (List.replicate (m + 1) [IV.bool false]).flatten 4)[G.length]? = some ⟨(List.replicate (m + 1) false).map IV.bool, 4, 1⟩ := by
    rw [gnew_at]
    congr 2
    rw [List.map_replicate]
    induction (m + 1) with
    | zero => rfl
    | succ j ih => rw [List.replicate_succ, List.flatten_cons, ih]; rfl
  have k0 : Keeps G.length G (gnew G (List.replicate (m + 1) [IV.bool false]).flatten 4) := keeps_new G _ 4 (Nat.le_refl _)
  have l0 := gnew_length G (List.replicate (m + 1) [IV.bool false]).flatten 4
  obtain ⟨G2, z1, z2, z3, z4, z5⟩ := nd_gst h0 (m := m + 1) (by rw [List.length_replicate]) (x := (m : Int)) ⟨by omega, by omega⟩
  have k2 : Keeps G.length G G2 := ⟨by omega, fun b hb => by rw [z4 b (by omega), k0.2 b hb]⟩
  rw [Int.toNat_natCast] at z1 z2 z3
  obtain ⟨G', q1, q2, q3, q4, q5⟩ := nd_loop (O := runC (R := R) Try.prog lo0 F n) (F := F) (by omega) hT hm (by omega) hck (Nat.le_refl _) (m + 1) G2 _ (Nat.le_refl _) (by rw [List.length_set, List.length_replicate]) k2 z3
  refine ⟨G', q1, q2, by omega, fun k => ?_⟩
  have w1 : IntKind.wrap .i64 ((m : Int) + 1) = ((m + 1 : Nat) : Int) := wrapI (by omega) (by omega)
  rw [r_texture_needed, e_texture_needed]
  unfold u_texture_needed
  rw [w1, Int.toNat_natCast]
  rw [show (decide (0 ≤ ((m + 1 : Nat) : Int) ∧ ((m + 1 : Nat) : Int) ≤ ((m + 1 : Nat) : Int) ∧ ((m + 1 : Nat) : Int) * 1 ≤ (roomI : Int) ∧ ((m + 1 : Nat) : Int) ≤ (roomI : Int)) && true && true) = true by
    unfold roomI; rw [Bool.and_true, Bool.and_true, decide_eq_true_eq]; refine ⟨by omega, by omega, by omega, by omega⟩]
  rw [cond_true, show gaddr G = ⟨G.length, 0⟩ from rfl, z1, Option.bind_some, z2, Option.bind_some]
  unfold L_texture_needed_0
  have e1 : ((m : Nat) : Int) = ((m + 1 : Nat) : Int) - 1 := by omega
  rw [e1, q5 _ F (by omega)]
  rfl
end
end Go.LI.Film

/-! Eval, whole. -/
namespace Go.LI.Film
open Go.Proofs.Ytbjcipikclbecaa Go Go.Proofs Go.LI Go.LI.Fl
set_option linter.unusedVariables false
set_option linter.unusedSimpArgs false
set_option maxRecDepth 100000
set_option exponentiation.threshold 2500

theorem PR.len {G : GH} {a : Option GA} {n : Nat} {ps : List Pi} (h : PR G a n ps) : ps.length = n := by
  obtain ⟨qs, h1, h2, _⟩ := h
  rw [← h2, h1.1]
theorem evRun_length (f : Tx → Vl → Vl → Vl) (ts : List Tx) (nd : List Bool) : ∀ (r i : Nat) (vs : List Vl), (evRun f ts nd r i vs).length = vs.length
  | 0, i, vs => rfl
  | r + 1, i, vs => by
    rw [evRun, evRun_length f ts nd r]
    cases nd.getD i false with
    | true => rw [cond_true, List.length_set]
    | false => rfl
/-- All textures of a list are words. -/
def TsW (ts : List Tx) : Prop := ∀ t ∈ ts, t.w
theorem TsW.at {ts : List Tx} (h : TsW ts) (i : Nat) : (ts.getD i Tx.nil).w := by
  rw [List.getD_eq_getElem?_getD]
  cases hi : ts[i]? with
  | none => exact ⟨by decide, by decide, by decide, by decide⟩
  | some t => exact h t (List.mem_of_getElem? hi)
theorem evRun_ok {ps : List Pi} {u0 u1 v0 v1 : Nat} {ts : List Tx} {nd : List Bool} (hp : ∀ p ∈ ps, p.w') (ht : TsW ts) : ∀ (r i : Nat) (vs : List Vl), (∀ v ∈ vs, v.ok) → ∀ v ∈ evRun (oneV ps u0 u1 v0 v1) ts nd r i vs, v.ok
  | 0, i, vs, h => h
  | r + 1, i, vs, h => by
    rw [evRun]
    refine evRun_ok hp ht r (i + 1) _ ?_
    cases nd.getD i false with
    | false => exact h
    | true =>
      rw [cond_true]
      intro v hv
      rcases List.mem_or_eq_of_mem_set hv with h1 | h1
      · exact h v h1
      · subst h1
        exact oneV_ok hp (ht.at i) (vl_okD h _) (vl_okD h _)
theorem gst_val {G : GH} {bv m i : Nat} {vs : List Vl} (h : G[bv]? = some ⟨(vs.map vcs).flatten, 70, 1⟩) (hm : vs.length = m) (hi : i < m) (v : Vl) :
    ∃ G', idx? (some (⟨bv, 0⟩ : GA)) m (i : Int) 7 = some ⟨bv, i * 7⟩ ∧ gst G ⟨bv, i * 7⟩ (vcs v) = some G' ∧ G'[bv]? = some ⟨((vs.set i v).map vcs).flatten, 70, 1⟩ ∧ (∀ b, b ≠ bv → G'[b]? = G[b]?) ∧ G'.length = G.length := by
  obtain ⟨G', h1, h2, h3, h4⟩ := gst_at (o := i * 7) h (vs := vcs v) (by rw [recs_len vcs_length, vcs_length]; omega)
  refine ⟨G', ?_, h1, ?_, h3, h4⟩
  · simp only [idx?, GA.add, Int.toNat_natCast, Nat.zero_add]
    rw [if_pos ⟨by omega, by omega⟩]
  · rw [h2, flat_splice vcs_length (by omega)]
section
variable {R : Type} {O : Ora R}
theorem ev_loop (hO : VOne O) {a pa : Option GA} {n pn m : Nat} {ts : List Tx} {ps : List Pi} {G0 : GH} {bv bn : Nat} {nd : List Bool} {u0 u1 v0 v1 : Nat} {s2 : Int} (hT : RP tcs G0 a n ts) (hP : PR G0 pa pn ps) (ht : TsW ts) (hp : ∀ p ∈ ps, p.w') (hu0 : num u0) (hu1 : num u1) (hv0 : num v0) (hv1 : num v1)
    (hmn : m ≤ n) (hm : m < 2 ^ 60) (hck : ∀ (j : Nat) (t : Tx), j < m → ts[j]? = some t → chk t (j : Int) (ps.length : Int) = 0) (hbv : G0.length ≤ bv) (hbn : G0.length ≤ bn) (hne : bv ≠ bn) (hnd : nd.length = m) :
    ∀ (r i : Nat) (G : GH) (vs : List Vl), i + r = m → vs.length = m → (∀ v ∈ vs, v.ok) → Keeps G0.length G0 G → G[bv]? = some ⟨(vs.map vcs).flatten, 70, 1⟩ → G[bn]? = some ⟨nd.map IV.bool, 4, 1⟩ →
    ∃ G', Keeps G0.length G0 G' ∧ G'[bv]? = some ⟨((evRun (oneV ps u0 u1 v0 v1) ts nd r i vs).map vcs).flatten, 70, 1⟩ ∧ ∀ (K0 : Int → OG → Nat → Nat → Nat → Nat → Nat → Nat → Nat → Nat → Nat → Nat → Nat → GH → Option R) (j : Nat), r < j →
      l_texture_Eval_1 O K0 j a n pa pn s2 (some ⟨bv, 0⟩) m (some ⟨bn, 0⟩) m (m : Int) (i : Int) u0 u1 v0 v1 0 0 0 0 0 0 G = K0 s2 (some ⟨bv, 0⟩) m u0 u1 v0 v1 0 0 0 0 0 0 G' := by
  intro r
  induction r with
  | zero =>
    intro i G vs hi hvs hok kG hV hN
    refine ⟨G, kG, hV, fun K0 j hj => ?_⟩
    obtain ⟨j, rfl⟩ : ∃ j', j = j' + 1 := ⟨j - 1, by omega⟩
    simp only [l_texture_Eval_1, u_texture_Eval_1]
    rw [decide_eq_false (by omega), cond_false]
  | succ r ih =>
    intro i G vs hi hvs hok kG hV hN
    have hl : i < ts.length := by have := hT.1; omega
    have hg := List.getElem?_eq_getElem hl
    have hgd : ts.getD i Tx.nil = ts[i] := by rw [List.getD_eq_getElem?_getD, hg]; rfl
    have bl : BL G bn (nd.map IV.bool) 4 := ⟨1, by decide, hN⟩
    have hi' : i < nd.length := by omega
    have hget : nd.getD i false = nd[i] := by rw [List.getD_eq_getElem?_getD, List.getElem?_eq_getElem hi']; rfl
    have hb1 := bl.boo (i := i) (x := nd[i]) (by rw [List.getElem?_map, List.getElem?_eq_getElem hi']; rfl)
    have x1 : idx? (some (⟨bn, 0⟩ : GA)) m (i : Int) 1 = some ⟨bn, i⟩ := by
      simp only [idx?, GA.add, Int.toNat_natCast, Nat.zero_add, Nat.mul_one]
      rw [if_pos ⟨by omega, by omega⟩]
    have w1 : IntKind.wrap .i64 ((i : Int) + 1) = ((i + 1 : Nat) : Int) := wrapI (by omega) (by omega)
    obtain ⟨q, l0, l1, l2, l3, l4, l5, l6, l7, l8⟩ := tl_ldP (hT.ofK kG) hg
    cases hn : nd[i] with
    | false =>
      obtain ⟨G', q1, q2, q3⟩ := ih (i + 1) G vs (by omega) hvs hok kG hV hN
      refine ⟨G', q1, ?_, fun K0 j hj => ?_⟩
      · rw [evRun, hget, hn, cond_false]; exact q2
      · obtain ⟨j, rfl⟩ : ∃ j', j = j' + 1 := ⟨j - 1, by omega⟩
        rw [← q3 K0 j (by omega)]
        simp only [l_texture_Eval_1, u_texture_Eval_1]
        rw [decide_eq_true (by omega), cond_true, x1, Option.bind_some, hb1, Option.bind_some, hn, cond_false, w1]
    | true =>
      have hone := hO ps u0 u1 v0 v1 ts[i] vs i (ht _ (List.getElem_mem hl)) (hck i _ (by omega) hg) (by omega) hok hp hu0 hu1 hv0 hv1 pa (some ⟨bv, 0⟩) pn m G (hP.keep kG (Nat.le_refl _)) ⟨hvs, fun _ => ⟨bv, 70, [], rfl, 1, by decide, by rw [List.append_nil]; exact hV⟩⟩
      have hnew : ∀ v ∈ vs.set i (oneV ps u0 u1 v0 v1 ts[i] (vs.getD ts[i].a.toNat Vl.nil) (vs.getD ts[i].b.toNat Vl.nil)), v.ok := by
        intro v hv
        rcases List.mem_or_eq_of_mem_set hv with h1 | h1
        · exact hok v h1
        · subst h1
          exact oneV_ok hp (ht _ (List.getElem_mem hl)) (vl_okD hok _) (vl_okD hok _)
      generalize hvv : oneV ps u0 u1 v0 v1 ts[i] (vs.getD ts[i].a.toNat Vl.nil) (vs.getD ts[i].b.toNat Vl.nil) = v at hone hnew
      obtain ⟨G1, y1, y2, y3, y4, y5⟩ := gst_val hV hvs (i := i) (by omega) v
      have k1 : Keeps G0.length G0 G1 := ⟨by rw [y5]; exact kG.1, fun b hb' => by rw [y4 b (by omega), kG.2 b hb']⟩
      obtain ⟨G', q1, q2, q3⟩ := ih (i + 1) G1 (vs.set i v) (by omega) (by rw [List.length_set, hvs]) hnew k1 y3 (by rw [y4 bn (Ne.symm hne)]; exact hN)
      refine ⟨G', q1, ?_, fun K0 j hj => ?_⟩
      · rw [evRun, hget, hn, cond_true, hgd, hvv]; exact q2
      · obtain ⟨j, rfl⟩ : ∃ j', j = j' + 1 := ⟨j - 1, by omega⟩
        rw [← q3 K0 j (by omega)]
        unfold tcs at hone
        unfold vcs at hone y2
        simp only [l_texture_Eval_1, u_texture_Eval_1]
        rw [decide_eq_true (by omega), cond_true, x1, Option.bind_some, hb1, Option.bind_some, hn, cond_true]
        rw [l0, Option.bind_some, l1, Option.bind_some, l2, Option.bind_some, l3, Option.bind_some, l4, Option.bind_some, l5, Option.bind_some, l6, Option.bind_some, l7, Option.bind_some, l8, Option.bind_some]
        rw [hone, agg7, y1, Option.bind_some, y2, Option.bind_some, w1]
theorem flat_rep (n : Nat) : (List.replicate n (vcs Vl.nil)).flatten = ((List.replicate n Vl.nil).map vcs).flatten := by rw [List.map_replicate]
abbrev VEv (O : Ora R) : Prop := ∀ (ts : List Tx) (ps : List Pi) (u0 u1 v0 v1 : Nat) (at' : Int), TsW ts → (∀ p ∈ ps, p.w') → num u0 → num u1 → num v0 → num v1 → ts.length ≤ 200 → ∀ (a pa : Option GA) (n pn : Nat) (G : GH), RP tcs G a n ts → PR G pa pn ps → gcut G a 52 = true →
  ∃ G', Keeps G.length G G' ∧ ∀ (k : IV → GH → Option R), O fn_texture_Eval [.slice a n, .slice pa pn, .int .i64 at', S2 u0 u1, S2 v0 v1] G k =
    k (.tuple [S6 (evV ps u0 u1 v0 v1 ts at').l0 (evV ps u0 u1 v0 v1 ts at').h0 (evV ps u0 u1 v0 v1 ts at').l1 (evV ps u0 u1 v0 v1 ts at').h1 (evV ps u0 u1 v0 v1 ts at').l2 (evV ps u0 u1 v0 v1 ts at').h2, .int .i64 (evV ps u0 u1 v0 v1 ts at').s, .int .i64 (evE ts ps.length at')]) G'
theorem vEv {F n : Nat} (hF : 1000 ≤ F) (hn : 15 ≤ n) : VEv (runC (R := R) Try.prog lo0 F n) := by
  obtain ⟨n, rfl⟩ : ∃ j, n = j + 1 := ⟨n - 1, by omega⟩
  obtain ⟨F4, rfl⟩ : ∃ F', F = F' + 4 := ⟨F - 4, by omega⟩
  have hC := yCkq (R := R) (F := F4 + 4) (n := n) hF (by omega)
  have hNd := vNd (R := R) (F := F4 + 4) (n := n) hF (by omega)
  have hO := vOne (R := R) (F := F4) (n := n) (by omega)
  generalize hFF : F4 + 4 = F at *
  intro ts ps u0 u1 v0 v1 at' ht hp hu0 hu1 hv0 hv1 hlen a pa nn pn G hT hP hcut
  have hn1 := hT.1
  have hpl := hP.len
  have ent : ∀ (k : IV → GH → Option R), runC (R := R) Try.prog lo0 F (n + 1) fn_texture_Eval [.slice a nn, .slice pa pn, .int .i64 at', S2 u0 u1, S2 v0 v1] G k =
      bif decide (at' < 0) || decide (at' ≥ (nn : Int)) then k (.tuple [S6 0 0 0 0 0 0, .int .i64 0, .int .i64 110]) G else a_texture_Eval_0N (runC Try.prog lo0 F n) k (L_texture_Eval_1 (runC Try.prog lo0 F n) F k) a nn pa pn at' false u0 u1 v0 v1 0 0 0 0 0 0 G := by
    intro k
    rw [r_texture_Eval, e_texture_Eval]
    simp only [u_texture_Eval, L_texture_Eval_0, stepF (show 1 ≤ F by omega), l_texture_Eval_0, u_texture_Eval_0]
    cases decide (at' < 0) with
    | true => rw [cond_true, Bool.true_or, cond_true]; rfl
    | false =>
      rw [cond_false, Bool.false_or]
      cases decide (at' ≥ (nn : Int)) with
      | true => rw [cond_true]; rfl
      | false => rw [cond_false]
  unfold evV evE
  rw [hn1]
  cases hout : (decide (at' < 0) || decide (at' ≥ (nn : Int))) with
  | true =>
    refine ⟨G, Keeps.refl _ _, fun k => ?_⟩
    rw [ent, hout]
    rfl
  | false =>
    rw [cond_false]
    simp only [Bool.or_eq_false_iff, decide_eq_false_iff_not] at hout
    obtain ⟨m, rfl⟩ : ∃ m : Nat, at' = (m : Int) := ⟨at'.toNat, by omega⟩
    have hm : m + 1 ≤ nn := by omega
    have w1 : IntKind.wrap .i64 ((m : Int) + 1) = ((m + 1 : Nat) : Int) := wrapI (by omega) (by omega)
    have d2 : (decide (0 ≤ (0 : Int) ∧ (0 : Int) ≤ ((m + 1 : Nat) : Int) ∧ ((m + 1 : Nat) : Int) ≤ (nn : Int)) && gcut G a 52) = true := by
      rw [hcut, Bool.and_true, decide_eq_true_eq]; omega
    have hcu : cutA a (Int.toNat (0 : Int) * 8) = a := by cases a with | none => rfl | some b => simp [cutA, GA.add]
    obtain ⟨G1, K1, h1⟩ := hC a pa (m + 1) pn (ts.take (m + 1)) G (hT.pre hm) (fun t h => ht t (List.mem_of_mem_take h)) (by omega)
    rw [Int.toNat_natCast]
    rw [hpl]
    have enter : ∀ (k : IV → GH → Option R), runC (R := R) Try.prog lo0 F (n + 1) fn_texture_Eval [.slice a nn, .slice pa pn, .int .i64 (m : Int), S2 u0 u1, S2 v0 v1] G k =
        bif (chkA (pn : Int) (ts.take (m + 1)) 0).2 != 0 then k (.tuple [S6 0 0 0 0 0 0, .int .i64 0, .int .i64 (chkA (pn : Int) (ts.take (m + 1)) 0).2]) G1 else
        runC (R := R) Try.prog lo0 F n fn_texture_needed [.slice a nn, .int .i64 (m : Int)] (gnew G1 ((List.replicate (m + 1) Vl.nil).map vcs).flatten 70) fun v6 G7 => (ivSlice v6).bind fun x8 =>
          L_texture_Eval_1 (runC Try.prog lo0 F n) F k a nn pa pn (m : Int) (some ⟨G1.length, 0⟩) (m + 1) x8.1 x8.2 (x8.2 : Int) (0 : Int) u0 u1 v0 v1 0 0 0 0 0 0 G7 := by
      intro k
      rw [ent, decide_eq_false (show ¬ (m : Int) < 0 by omega), decide_eq_false (show ¬ (m : Int) ≥ (nn : Int) by omega), Bool.or_self, cond_false]
      unfold a_texture_Eval_0N
      rw [cond_false, w1, d2, cond_true, hcu, Int.toNat_natCast, show m + 1 - Int.toNat (0 : Int) = m + 1 from rfl, h1, tupII]
      rw [show (decide (0 ≤ ((m + 1 : Nat) : Int) ∧ ((m + 1 : Nat) : Int) ≤ ((m + 1 : Nat) : Int) ∧ ((m + 1 : Nat) : Int) * 56 ≤ (roomI : Int) ∧ ((m + 1 : Nat) : Int) ≤ (roomI : Int)) && true && true) = true by
        unfold roomI; rw [Bool.and_true, Bool.and_true, decide_eq_true_eq]; refine ⟨by omega, by omega, by omega, by omega⟩]
      rw [cond_true, ← flat_rep]
      rfl
    cases he : ((chkA (pn : Int) (ts.take (m + 1)) 0).2 == 0) with
    | false =>
      have he' : ((chkA (pn : Int) (ts.take (m + 1)) 0).2 != 0) = true := by unfold bne; rw [he]; rfl
      refine ⟨G1, K1, fun k => ?_⟩
      rw [enter, he', cond_true]
      rfl
    | true =>
      have he' : ((chkA (pn : Int) (ts.take (m + 1)) 0).2 != 0) = false := by unfold bne; rw [he]; rfl
      have he0 : (chkA (pn : Int) (ts.take (m + 1)) 0).2 = 0 := by simpa using he
      have hck : ∀ (j : Nat) (t : Tx), j < m + 1 → ts[j]? = some t → chk t (j : Int) (pn : Int) = 0 := fun j t hj hjt => by
        have := chkA_all he0 j t (by rw [List.getElem?_take, if_pos hj]; exact hjt)
        rwa [Nat.zero_add] at this
      have K2 : Keeps G.length G (gnew G1 ((List.replicate (m + 1) Vl.nil).map vcs).flatten 70) := K1.trans (keeps_new G1 _ 70 K1.1)
      have hv0' := gnew_at G1 ((List.replicate (m + 1) Vl.nil).map vcs).flatten 70
      have hl2 := gnew_length G1 ((List.replicate (m + 1) Vl.nil).map vcs).flatten 70
      generalize gnew G1 ((List.replicate (m + 1) Vl.nil).map vcs).flatten 70 = G2 at *
      obtain ⟨G3, K3, hN3, hl3, h3⟩ := hNd a nn m pn ts G2 (hT.ofK K2) hm (by omega) (fun j t hj hjt => chk_ok (hck j t hj hjt))
      have K03 : Keeps G.length G G3 := K2.trans (K3.mono K2.1)
      have hvv : ∀ v ∈ List.replicate (m + 1) Vl.nil, v.ok := fun v hv => by
        rw [List.mem_replicate] at hv
        rw [hv.2]
        exact Vl.ok_nil
      have hlt : G1.length < G2.length := by omega
      obtain ⟨G4, K4, hV4, h4⟩ := ev_loop hO (s2 := (m : Int)) hT hP ht hp hu0 hu1 hv0 hv1 hm (by omega) (by rw [hpl]; exact hck) K1.1 (by have := K1.1; omega) (by omega) (nd := evNd ts m) (by unfold evNd; rw [ndRun_length, List.length_set, List.length_replicate])
        (m + 1) 0 G3 (List.replicate (m + 1) Vl.nil) (by omega) (by rw [List.length_replicate]) hvv K03 (by rw [K3.2 _ hlt]; exact hv0') hN3
      refine ⟨G4, K4, fun k => ?_⟩
      rw [enter, he', cond_false, h3]
      rw [show ivSlice (.slice (some (⟨G2.length, 0⟩ : GA)) (m + 1)) = some (some ⟨G2.length, 0⟩, m + 1) from rfl, Option.bind_some]
      unfold L_texture_Eval_1
      simp only
      rw [show (0 : Int) = ((0 : Nat) : Int) from rfl, h4 _ F (by omega)]
      have hlenR : (evRun (oneV ps u0 u1 v0 v1) ts (evNd ts m) (m + 1) 0 (List.replicate (m + 1) Vl.nil)).length = m + 1 := by rw [evRun_length, List.length_replicate]
      have hRP : RP vcs G4 (some ⟨G1.length, 0⟩) (m + 1) (evRun (oneV ps u0 u1 v0 v1) ts (evNd ts m) (m + 1) 0 (List.replicate (m + 1) Vl.nil)) := ⟨hlenR, fun _ => ⟨G1.length, 70, [], rfl, 1, by decide, by rw [List.append_nil]; exact hV4⟩⟩
      obtain ⟨q, i0, j0, j1, j2, j3, j4, j5, j6⟩ := vl_at hRP (x := (m : Int)) (i := m + 1) ⟨by omega, by omega⟩ (by omega)
      have pad : ∀ j, GA.add (GA.add q 0) j = GA.add q j := fun j => by simp [GA.add]
      unfold a_texture_Eval_10
      rw [i0, Option.bind_some]
      simp only [pad]
      rw [j0, Option.bind_some, j1, Option.bind_some, j2, Option.bind_some, j3, Option.bind_some, j4, Option.bind_some, j5, Option.bind_some, Option.bind_some, j6, Option.bind_some, he0, Int.toNat_natCast]
      rfl
end
end Go.LI.Film

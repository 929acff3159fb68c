/- span.Div and ref02.Div. -/
import Derived.Test.YtalpjkeiaeobdaaGreatRdZa
import Derived.Test.YtalpjkeiaeobdaaGreatRdPr
import Derived.Test.YtalpjkeiaeobdaaGreatRdR5
namespace Go.LI.Film
open Go.Proofs.YtalpjkeiaeobdaaGreat Go Go.Proofs Go.LI Go.LI.Fl
set_option linter.unusedVariables false
set_option linter.unusedSimpArgs false
set_option maxRecDepth 100000
section
variable {R : Type}
abbrev SAll (O : Ora R) : Prop := ∀ (G : GH) (k : IV → GH → Option R), O fn_span_All [] G k = k (SP ninfW infW) G
abbrev SRAll (O : Ora R) : Prop := ∀ (G : GH) (k : IV → GH → Option R), O fn_ref02_All [] G k = k (SP ninfW infW) G
abbrev SWide (O : Ora R) : Prop := ∀ (a b : Nat), num a → num b → ∀ (G : GH) (k : IV → GH → Option R), O fn_span_Wide [SP a b] G k = k (.bool (!(fin a && fin b))) G
abbrev SRWide (O : Ora R) : Prop := ∀ (a b : Nat), a < 2 ^ 64 → b < 2 ^ 64 → ∀ (G : GH) (k : IV → GH → Option R), O fn_ref02_Wide [SP a b] G k = k (.bool (!(fin a && fin b))) G
abbrev SSpanDiv (O : Ora R) : Prop := ∀ (a b c d : Nat), num a → num b → num c → num d → ∀ (G : GH) (k : IV → GH → Option R), O fn_span_Div [SP a b, SP c d] G k = k (SP (quoL a b c d) (quoH a b c d)) G
abbrev SRSpanDiv (O : Ora R) : Prop := ∀ (a b c d : Nat), num a → num b → num c → num d → ∀ (G : GH), ∃ G', ∀ (k : IV → GH → Option R), O fn_ref02_Div [SP a b, SP c d] G k = k (SP (quoL a b c d) (quoH a b c d)) G'

theorem wAll {F n : Nat} (hF : 1 ≤ F) (hn : 3 ≤ n) : SAll (runC (R := R) Tryz.prog lo0 F n) := by
  obtain ⟨n, rfl⟩ : ∃ j, n = j + 3 := ⟨n - 3, by omega⟩
  obtain ⟨F, rfl⟩ : ∃ F', F = F' + 1 := ⟨F - 1, by omega⟩
  intro G k
  have hI := wInf (R := R) (F := F) (n := n + 2) (by omega)
  rw [r_span_All, e_span_All, (hI G _).2, ivF, (hI G _).1, ivF]
  rfl
theorem negInf : Op.negFloat .f64 9218868437227405312 = ninfW := by decide +kernel
theorem wRAll {F n : Nat} (hn : 3 ≤ n) : SRAll (runC (R := R) Tryz.prog lo0 F n) := by
  obtain ⟨n, rfl⟩ : ∃ j, n = j + 3 := ⟨n - 3, by omega⟩
  intro G k
  rw [r_ref02_All, e_ref02_All, wRInf (by omega), ivF, wRInf (by omega), ivF, negInf]
  rfl
theorem wWide {F n : Nat} (hF : 1 ≤ F) (hn : 4 ≤ n) : SWide (runC (R := R) Tryz.prog lo0 F n) := by
  obtain ⟨n, rfl⟩ : ∃ j, n = j + 4 := ⟨n - 4, by omega⟩
  intro a b ha hb G k
  rw [r_span_Wide, e_span_Wide, wIsInf hF (by omega) a ha.1, ivB, fin_num ha]
  cases fin a with
  | false => rfl
  | true => rw [Bool.not_true, cond_false, wIsInf hF (by omega) b hb.1, ivB, fin_num hb, Bool.true_and]
theorem wRWide {F n : Nat} (hn : 2 ≤ n) : SRWide (runC (R := R) Tryz.prog lo0 F n) := by
  obtain ⟨n, rfl⟩ : ∃ j, n = j + 2 := ⟨n - 2, by omega⟩
  intro a b ha hb G k
  rw [r_ref02_Wide, e_ref02_Wide, wRNumber (by omega) a ha, ivB]
  cases fin a with
  | false => rfl
  | true => rw [Bool.not_true, cond_false, wRNumber (by omega) b hb, ivB, Bool.true_and]

theorem zero_num : num 0 ∧ sv 0 = 0 := ⟨clean_zero.1, by have := (num_small (r := 0) (by decide)).2; rw [this, (mag_zero dbl).2 rfl]; rfl⟩
theorem spanDiv_body {O : Ora R} {F : Nat} (hA : SAll O) (hW : SWide O) (hI : SInf O) (hD : SDiv O) {a b c d : Nat} (ha : num a) (hb : num b) (hc : num c) (hd : num d) (G : GH) (k : IV → GH → Option R) :
    bodyC Tryz.prog O [2, 3, 4, 5, 777777] (F + 4) Tryz.f18 [SP a b, SP c d] G k = k (SP (quoL a b c d) (quoH a b c d)) G := by
  have big : quoB a b c d = false →
      (O fn_math_Inf [.int .i64 (1 : Int)] G fun v6 G7 => (ivFloat .f64 v6).bind fun x8 => O fn_math_Inf [.int .i64 ((-1 : Int))] G7 fun v9 G10 => (ivFloat .f64 v9).bind fun x11 =>
        O fn_round_Div [.float .f64 a, .float .f64 c, .bool true] G10 fun v12 G13 => (ivTup 2 v12).bind fun c14 => (ivFloat .f64 (c14.getD 0 undefI)).bind fun x15 => (ivInt .i64 (c14.getD 1 undefI)).bind fun x16 =>
        O fn_round_Div [.float .f64 a, .float .f64 c, .bool false] G13 fun v17 G18 => (ivTup 2 v17).bind fun c19 => (ivFloat .f64 (c19.getD 0 undefI)).bind fun x20 => (ivInt .i64 (c19.getD 1 undefI)).bind fun x21 =>
        (fmin .f64 x8 x15).bind fun r22 => (fmax .f64 x11 x20).bind fun r23 =>
        O fn_round_Div [.float .f64 a, .float .f64 d, .bool true] G18 fun v12 G13 => (ivTup 2 v12).bind fun c14 => (ivFloat .f64 (c14.getD 0 undefI)).bind fun x15 => (ivInt .i64 (c14.getD 1 undefI)).bind fun x16 =>
        O fn_round_Div [.float .f64 a, .float .f64 d, .bool false] G13 fun v17 G18 => (ivTup 2 v17).bind fun c19 => (ivFloat .f64 (c19.getD 0 undefI)).bind fun x20 => (ivInt .i64 (c19.getD 1 undefI)).bind fun x21 =>
        (fmin .f64 r22 x15).bind fun r22 => (fmax .f64 r23 x20).bind fun r23 =>
        O fn_round_Div [.float .f64 b, .float .f64 c, .bool true] G18 fun v12 G13 => (ivTup 2 v12).bind fun c14 => (ivFloat .f64 (c14.getD 0 undefI)).bind fun x15 => (ivInt .i64 (c14.getD 1 undefI)).bind fun x16 =>
        O fn_round_Div [.float .f64 b, .float .f64 c, .bool false] G13 fun v17 G18 => (ivTup 2 v17).bind fun c19 => (ivFloat .f64 (c19.getD 0 undefI)).bind fun x20 => (ivInt .i64 (c19.getD 1 undefI)).bind fun x21 =>
        (fmin .f64 r22 x15).bind fun r22 => (fmax .f64 r23 x20).bind fun r23 =>
        O fn_round_Div [.float .f64 b, .float .f64 d, .bool true] G18 fun v12 G13 => (ivTup 2 v12).bind fun c14 => (ivFloat .f64 (c14.getD 0 undefI)).bind fun x15 => (ivInt .i64 (c14.getD 1 undefI)).bind fun x16 =>
        O fn_round_Div [.float .f64 b, .float .f64 d, .bool false] G13 fun v17 G18 => (ivTup 2 v17).bind fun c19 => (ivFloat .f64 (c19.getD 0 undefI)).bind fun x20 => (ivInt .i64 (c19.getD 1 undefI)).bind fun x21 =>
        (fmin .f64 r22 x15).bind fun r22 => (fmax .f64 r23 x20).bind fun r23 => k (.agg [.float .f64 r22, .float .f64 r23]) G18) = k (SP (quoL a b c d) (quoH a b c d)) G := by
    intro hq
    have l1 := clean_min clean_inf (clean_divV a c true)
    have l2 := clean_min l1 (clean_divV a d true)
    have l3 := clean_min l2 (clean_divV b c true)
    have h1 := clean_max clean_ninf (clean_divV a c false)
    have h2 := clean_max h1 (clean_divV a d false)
    have h3 := clean_max h2 (clean_divV b c false)
    have i1 := (hI G)
    rw [(hI G _).1, ivF, (hI G _).2, ivF]
    rw [hD a c true ha.1 hc.1, pairFI, hD a c false ha.1 hc.1, pairFI, show fmin .f64 9218868437227405312 (divV a c true) = some (minW infW (divV a c true)) from fmin_clean clean_inf (clean_divV _ _ _), Option.bind_some, show fmax .f64 18442240474082181120 (divV a c false) = some (maxW ninfW (divV a c false)) from fmax_clean clean_ninf (clean_divV _ _ _), Option.bind_some]
    rw [hD a d true ha.1 hd.1, pairFI, hD a d false ha.1 hd.1, pairFI, fmin_clean l1 (clean_divV _ _ _), Option.bind_some, fmax_clean h1 (clean_divV _ _ _), Option.bind_some]
    rw [hD b c true hb.1 hc.1, pairFI, hD b c false hb.1 hc.1, pairFI, fmin_clean l2 (clean_divV _ _ _), Option.bind_some, fmax_clean h2 (clean_divV _ _ _), Option.bind_some]
    rw [hD b d true hb.1 hd.1, pairFI, hD b d false hb.1 hd.1, pairFI, fmin_clean l3 (clean_divV _ _ _), Option.bind_some, fmax_clean h3 (clean_divV _ _ _), Option.bind_some]
    unfold quoL quoH
    rw [hq, if_neg (by simp), if_neg (by simp)]
  have all : quoB a b c d = true → (O fn_span_All [] G fun v1 G2 => (ivAgg 2 v1).bind fun c3 => (ivFloat .f64 (c3.getD 0 undefI)).bind fun x4 => (ivFloat .f64 (c3.getD 1 undefI)).bind fun x5 => k (.agg [.float .f64 x4, .float .f64 x5]) G2) = k (SP (quoL a b c d) (quoH a b c d)) G := by
    intro hq
    rw [hA, SP_open]
    unfold quoL quoH
    rw [hq, if_pos rfl, if_pos rfl]
  have w1 := fun G => hW a b ha hb G
  have w2 := fun G => hW c d hc hd G
  rw [e_span_Div, fle_sv hc zero_num.1, zero_num.2, fge_sv hd zero_num.1, zero_num.2]
  by_cases q1 : sv c ≤ 0
  · rw [decide_eq_true q1, cond_true]
    by_cases q2 : 0 ≤ sv d
    · rw [decide_eq_true q2, cond_true]
      exact all (by unfold quoB; rw [decide_eq_true q1, decide_eq_true q2]; rfl)
    · rw [decide_eq_false q2, cond_false, w1, ivB]
      cases f1 : (fin a && fin b) with
      | false => rw [Bool.not_false, cond_true]; exact all (by unfold quoB; rw [f1]; simp)
      | true =>
        rw [Bool.not_true, cond_false, w2, ivB]
        cases f2 : (fin c && fin d) with
        | false => rw [Bool.not_false, cond_true]; exact all (by unfold quoB; rw [f2]; simp)
        | true => rw [Bool.not_true, cond_false]; exact big (by unfold quoB; rw [f1, f2, decide_eq_false q2]; simp)
  · rw [decide_eq_false q1, cond_false, w1, ivB]
    cases f1 : (fin a && fin b) with
    | false => rw [Bool.not_false, cond_true]; exact all (by unfold quoB; rw [f1]; simp)
    | true =>
      rw [Bool.not_true, cond_false, w2, ivB]
      cases f2 : (fin c && fin d) with
      | false => rw [Bool.not_false, cond_true]; exact all (by unfold quoB; rw [f2]; simp)
      | true => rw [Bool.not_true, cond_false]; exact big (by unfold quoB; rw [f1, f2, decide_eq_false q1]; simp)
theorem wSpanDiv {F n : Nat} (hF : 8 ≤ F) (hn : 10 ≤ n) : SSpanDiv (runC (R := R) Tryz.prog lo0 F n) := by
  obtain ⟨n, rfl⟩ : ∃ j, n = j + 10 := ⟨n - 10, by omega⟩
  obtain ⟨F, rfl⟩ : ∃ F', F = F' + 4 := ⟨F - 4, by omega⟩
  intro a b c d ha hb hc hd G k
  rw [r_span_Div]
  exact spanDiv_body (wAll (by omega) (by omega)) (wWide (by omega) (by omega)) (wInf (F := F + 3) (by omega)) (wDiv (by omega) (by omega)) ha hb hc hd G k
end
end Go.LI.Film

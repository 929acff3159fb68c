/- Spans: what is needed of products, floors and spans of one number. -/
import Derived.Test.YtbjcipikclbecaaTxA
namespace Go.LI.Fl
open Go Go.LI Ieee
set_option linter.unusedVariables false
set_option maxRecDepth 100000
set_option exponentiation.threshold 2500

theorem order_some {x y : Nat} (hx : num x) (hy : num y) : ∃ o, (FloatKind.format .f64).order x y = some o := ⟨_, order_sv hx hy⟩
theorem fmin_num {x y : Nat} (hx : num x) (hy : num y) : ∃ z, fmin .f64 x y = some z ∧ num z := by
  obtain ⟨o, h⟩ := order_some hx hy
  unfold fmin
  rw [h]
  cases o with
  | lt => exact ⟨x, rfl, hx⟩
  | gt => exact ⟨y, rfl, hy⟩
  | eq =>
    refine ⟨_, rfl, ?_⟩
    split
    · exact hx
    · exact hy
theorem fmax_num {x y : Nat} (hx : num x) (hy : num y) : ∃ z, fmax .f64 x y = some z ∧ num z := by
  obtain ⟨o, h⟩ := order_some hx hy
  unfold fmax
  rw [h]
  cases o with
  | lt => exact ⟨y, rfl, hy⟩
  | gt => exact ⟨x, rfl, hx⟩
  | eq =>
    refine ⟨_, rfl, ?_⟩
    split
    · exact hy
    · exact hx
theorem num_word {n : Bool} {r : Nat} (h : r ≤ 9218868437227405312) : num (dbl.word n r) := by
  have hlt : r < dbl.signWeight := by rw [dbl_sw]; omega
  refine ⟨?_, by rw [rg_word dbl hlt]; exact h⟩
  have := (word_split dbl (neg := n) hlt).2.2
  rw [dbl_sw] at this
  omega
theorem num_nearest (n : Bool) (m : Nat) (e : Int) : num (dbl.nearest n m e) := by
  unfold Format.nearest
  split
  · exact num_word (Nat.zero_le _)
  · refine num_word ?_
    rw [dbl_inf]
    exact Nat.min_le_right _ _
theorem num_fin {x : Nat} (hx : x < 2 ^ 64) (hf : fin x = true) : num x := ⟨hx, Nat.le_of_lt (of_decide_eq_true hf)⟩
/-- A number without the sign of nothing. -/
def zw (x : Nat) : Nat := if rg dbl x = 0 then 0 else x
theorem zw_num {x : Nat} (hx : num x) : num (zw x) := by
  unfold zw; split
  · exact num_nil
  · exact hx

theorem inf_num : num 9218868437227405312 := num_word (n := false) (Nat.le_refl _)
theorem ninf_num : num 18442240474082181120 := num_word (n := true) (r := 9218868437227405312) (Nat.le_refl _)
theorem top53 : num 4845873199050653696 ∧ sv 4845873199050653696 = ((2 ^ 53 * 2 ^ 1074 : Nat) : Int) := by
  have h := mag_form (q := 1075) (m := 2 ^ 52) (by decide) (.inr (by decide))
  have e : 1075 * 2 ^ 52 + 2 ^ 52 = 4845873199050653696 := by decide
  rw [e] at h
  obtain ⟨h1, h2⟩ := num_small (r := 4845873199050653696) (by decide)
  refine ⟨h1, ?_⟩
  rw [h2, h, ← Nat.pow_add]
theorem bot53 : num 14069245235905429504 ∧ sv 14069245235905429504 = -((2 ^ 53 * 2 ^ 1074 : Nat) : Int) := by
  have e : (14069245235905429504 : Nat) = dbl.word true 4845873199050653696 := by decide +kernel
  have hlt : 4845873199050653696 < dbl.signWeight := by rw [dbl_sw]; decide
  have h := mag_form (q := 1075) (m := 2 ^ 52) (by decide) (.inr (by decide))
  have e2 : 1075 * 2 ^ 52 + 2 ^ 52 = 4845873199050653696 := by decide
  rw [e2] at h
  refine ⟨by rw [e]; exact num_word (by decide), ?_⟩
  rw [e, sv_sgn, sg_word dbl hlt, rg_word dbl hlt, h, ← Nat.pow_add]
  rfl

theorem cut_zero' (neg : Bool) (n drop : Nat) : Toward.zero.cut neg n drop = n / 2 ^ drop := by
  unfold Toward.cut
  simp only [Bool.toNat_false, Nat.add_zero, Nat.one_shiftLeft]
  by_cases h : drop ≤ n.log2 + 2
  · rw [Nat.min_eq_left h]
  · rw [Nat.min_eq_right (by omega)]
    have h1 : n < 2 ^ (n.log2 + 2) := Nat.lt_of_lt_of_le Nat.lt_log2_self (Nat.pow_le_pow_right (by decide) (by omega))
    have h2 : n < 2 ^ drop := Nat.lt_of_lt_of_le h1 (Nat.pow_le_pow_right (by decide) (by omega))
    rw [Nat.div_eq_of_lt h1, Nat.div_eq_of_lt h2]
/-- What is not beyond 2^53 is a whole number of 64 bits when cut. -/
theorem trunc_i64 {x : Nat} (hx : num x) (h1 : -((2 ^ 53 * 2 ^ 1074 : Nat) : Int) ≤ sv x) (h2 : sv x ≤ ((2 ^ 53 * 2 ^ 1074 : Nat) : Int)) : ∃ n : Int, f2i .f64 x .i64 = some n := by
  have hm : mag dbl (rg dbl x) ≤ 2 ^ 53 * 2 ^ 1074 := by
    have h3 := sgn_abs (sg dbl x) (mag dbl (rg dbl x))
    rw [← sv_sgn] at h3
    generalize 2 ^ 53 * 2 ^ 1074 = T at h1 h2 ⊢
    omega
  have hf : rg dbl x < 9218868437227405312 := by
    rcases Nat.lt_or_ge (rg dbl x) 9218868437227405312 with h | h
    · exact h
    · exfalso
      have h3 := mag_lt (r := 4845873199050653696) (s := rg dbl x) (by omega)
      have h4 := top53.2
      rw [(num_small (r := 4845873199050653696) (by decide)).2] at h4
      have h5 := Int.ofNat.inj h4
      rw [h5] at h3
      omega
  obtain ⟨i, m, q1, q2⟩ := read_num hf
  have hd : FloatKind.f64.decode x = .number (sg dbl x) m (-1074 + (i : Int)) := q1
  obtain ⟨n, hn, hb⟩ : ∃ n : Int, (FloatKind.f64.decode x).toInt .zero = some n ∧ n.natAbs ≤ 2 ^ 53 := by
    rw [hd]
    unfold Datum.toInt
    simp only [Datum.integral, cut_zero', Nat.shiftLeft_eq]
    refine ⟨_, rfl, ?_⟩
    have hs : ∀ M, (signed (sg dbl x) M 0).natAbs = M := by
      intro M
      have := signed_natAbs (sg dbl x) M 0
      rw [Nat.pow_zero, Nat.mul_one] at this
      exact this
    rw [hs]
    have hP := Nat.two_pow_pos 1074
    by_cases hi : 1074 ≤ i
    · have p1 : (-1074 + (i : Int)).toNat = i - 1074 := by omega
      have p2 : (-(-1074 + (i : Int))).toNat = 0 := by omega
      have hp : 2 ^ i = 2 ^ (i - 1074) * 2 ^ 1074 := by rw [← Nat.pow_add]; congr 1; omega
      rw [p1, p2, Nat.pow_zero, Nat.div_one]
      rw [hp, ← Nat.mul_assoc] at q2
      rw [← q2] at hm
      exact Nat.le_of_mul_le_mul_right hm hP
    · have p1 : (-1074 + (i : Int)).toNat = 0 := by omega
      have p2 : (-(-1074 + (i : Int))).toNat = 1074 - i := by omega
      have hp : 2 ^ 1074 = 2 ^ (1074 - i) * 2 ^ i := by rw [← Nat.pow_add]; congr 1; omega
      rw [p1, p2, Nat.pow_zero, Nat.mul_one]
      rw [← q2, hp, ← Nat.mul_assoc] at hm
      have h6 := Nat.le_of_mul_le_mul_right hm (Nat.two_pow_pos i)
      exact Nat.div_le_of_le_mul (by rw [Nat.mul_comm]; exact h6)
  have e1 : IntKind.i64.min = -9223372036854775808 := by decide
  have e2 : IntKind.i64.max = 9223372036854775807 := by decide
  refine ⟨n, ?_⟩
  unfold f2i
  rw [hn]
  simp only [e1, e2]
  rw [if_pos ⟨by omega, by omega⟩]
end Go.LI.Fl

namespace Go.LI.Film
open Go.Proofs.Ytbjcipikclbecaa Go Go.Proofs Go.LI Go.LI.Fl
set_option linter.unusedVariables false
set_option maxRecDepth 100000
set_option exponentiation.threshold 2500
section
variable {R : Type} {O : Ora R}
theorem agg2 {β : Type} (a b : Nat) (f : Nat → Nat → Option β) : ((ivAgg 2 (.agg [.float .f64 a, .float .f64 b])).bind fun c => (ivFloat .f64 (c.getD 0 undefI)).bind fun x => (ivFloat .f64 (c.getD 1 undefI)).bind fun y => f x y) = f a b := rfl
theorem tupFI {β : Type} (a : Nat) (b : Int) (f : Nat → Int → Option β) : ((ivTup 2 (.tuple [.float .f64 a, .int .i64 b])).bind fun c => (ivFloat .f64 (c.getD 0 undefI)).bind fun x => (ivInt .i64 (c.getD 1 undefI)).bind fun y => f x y) = f a b := rfl
theorem tupII {β : Type} (a b : Int) (f : Int → Int → Option β) : ((ivTup 2 (.tuple [.int .i64 a, .int .i64 b])).bind fun c => (ivInt .i64 (c.getD 0 undefI)).bind fun x => (ivInt .i64 (c.getD 1 undefI)).bind fun y => f x y) = f a b := rfl

abbrev SOf (O : Ora R) : Prop := ∀ (x : Nat), x < 2 ^ 64 → fin x = true → ∀ (G : GH) (k : IV → GH → Option R), O fn_span_Of [.float .f64 x] G k = k (.agg [.float .f64 (zw x), .float .f64 (zw x)]) G
theorem of_body (hN : SNumber O) {F x : Nat} (hx : x < 2 ^ 64) (hf : fin x = true) (G : GH) (k : IV → GH → Option R) : bodyC Try.prog O [2, 777777] F Try.f44 [.float .f64 x] G k = k (.agg [.float .f64 (zw x), .float .f64 (zw x)]) G := by
  have ha : (FloatKind.format .f64).add x 0 = some (zw x) := add_zero' hx (num_fin hx hf).2
  rw [e_span_Of, hN x hx, ivB, hf, Bool.not_true, cond_false, ha, Option.bind_some, Option.bind_some]
abbrev SAll (O : Ora R) : Prop := ∀ (G : GH) (k : IV → GH → Option R), O fn_span_All [] G k = k (.agg [.float .f64 18442240474082181120, .float .f64 9218868437227405312]) G
theorem all_body (hI : SInf O) {F : Nat} (G : GH) (k : IV → GH → Option R) : bodyC Try.prog O [0, 777777] F Try.f56 [] G k = k (.agg [.float .f64 18442240474082181120, .float .f64 9218868437227405312]) G := by
  rw [e_span_All, (hI _ _).2, ivF, (hI _ _).1, ivF]
abbrev SWide (O : Ora R) : Prop := ∀ (x y : Nat), x < 2 ^ 64 → y < 2 ^ 64 → ∃ b : Bool, ∀ (G : GH) (k : IV → GH → Option R), O fn_span_Wide [.agg [.float .f64 x, .float .f64 y]] G k = k (.bool b) G
theorem wide_body (hI : SIsInf O) {F x y : Nat} (hx : x < 2 ^ 64) (hy : y < 2 ^ 64) : ∃ b : Bool, ∀ (G : GH) (k : IV → GH → Option R), bodyC Try.prog O [1, 777777] F Try.f58 [.agg [.float .f64 x, .float .f64 y]] G k = k (.bool b) G := by
  by_cases h : rg dbl x = 9218868437227405312
  · refine ⟨true, fun G k => ?_⟩
    rw [e_span_Wide, hI x hx, ivB, decide_eq_true h, cond_true]
  · refine ⟨decide (rg dbl y = 9218868437227405312), fun G k => ?_⟩
    rw [e_span_Wide, hI x hx, ivB, decide_eq_false h, cond_false, hI y hy, ivB]

abbrev SMulT (O : Ora R) : Prop := ∀ (a b c d : Nat), a < 2 ^ 64 → b < 2 ^ 64 → c < 2 ^ 64 → d < 2 ^ 64 → ∃ l h : Nat, num l ∧ num h ∧ ∀ (G : GH) (k : IV → GH → Option R), O fn_span_Mul [.agg [.float .f64 a, .float .f64 b], .agg [.float .f64 c, .float .f64 d]] G k = k (.agg [.float .f64 l, .float .f64 h]) G
theorem mulT_body (hW : SWide O) (hAl : SAll O) (hI : SInf O) (hM : SMul O) {F a b c d : Nat} (ha : a < 2 ^ 64) (hb : b < 2 ^ 64) (hc : c < 2 ^ 64) (hd : d < 2 ^ 64) :
    ∃ l h : Nat, num l ∧ num h ∧ ∀ (G : GH) (k : IV → GH → Option R), bodyC Try.prog O [2, 3, 4, 5, 777777] (F + 4) Try.f46 [.agg [.float .f64 a, .float .f64 b], .agg [.float .f64 c, .float .f64 d]] G k = k (.agg [.float .f64 l, .float .f64 h]) G := by
  cases h1 : (feq .f64 a (0 : Nat)) && ((feq .f64 b (0 : Nat)) && true) with
  | true =>
    refine ⟨0, 0, num_nil, num_nil, fun G k => ?_⟩
    rw [e_span_Mul, h1, cond_true]
  | false =>
    cases h2 : (feq .f64 c (0 : Nat)) && ((feq .f64 d (0 : Nat)) && true) with
    | true =>
      refine ⟨0, 0, num_nil, num_nil, fun G k => ?_⟩
      rw [e_span_Mul, h1, cond_false, h2, cond_true]
    | false =>
      obtain ⟨w1, hw1⟩ := hW a b ha hb
      obtain ⟨w2, hw2⟩ := hW c d hc hd
      cases w1 with
      | true =>
        refine ⟨_, _, ninf_num, inf_num, fun G k => ?_⟩
        rw [e_span_Mul, h1, cond_false, h2, cond_false, hw1, ivB, cond_true, hAl, agg2]
      | false =>
        cases w2 with
        | true =>
          refine ⟨_, _, ninf_num, inf_num, fun G k => ?_⟩
          rw [e_span_Mul, h1, cond_false, h2, cond_false, hw1, ivB, cond_false, hw2, ivB, cond_true, hAl, agg2]
        | false =>
          obtain ⟨m1, e1, n1⟩ := fmin_num inf_num (mulV_num a c true)
          obtain ⟨M1, f1, o1⟩ := fmax_num ninf_num (mulV_num a c false)
          obtain ⟨m2, e2, n2⟩ := fmin_num n1 (mulV_num a d true)
          obtain ⟨M2, f2, o2⟩ := fmax_num o1 (mulV_num a d false)
          obtain ⟨m3, e3, n3⟩ := fmin_num n2 (mulV_num b c true)
          obtain ⟨M3, f3, o3⟩ := fmax_num o2 (mulV_num b c false)
          obtain ⟨m4, e4, n4⟩ := fmin_num n3 (mulV_num b d true)
          obtain ⟨M4, f4, o4⟩ := fmax_num o3 (mulV_num b d false)
          refine ⟨m4, M4, n4, o4, fun G k => ?_⟩
          rw [e_span_Mul, h1, cond_false, h2, cond_false, hw1, ivB, cond_false, hw2, ivB, cond_false, (hI _ _).1, ivF, (hI _ _).2, ivF,
            hM a c true ha hc, tupFI, hM a c false ha hc, tupFI, e1, Option.bind_some, f1, Option.bind_some,
            hM a d true ha hd, tupFI, hM a d false ha hd, tupFI, e2, Option.bind_some, f2, Option.bind_some,
            hM b c true hb hc, tupFI, hM b c false hb hc, tupFI, e3, Option.bind_some, f3, Option.bind_some,
            hM b d true hb hd, tupFI, hM b d false hb hd, tupFI, e4, Option.bind_some, f4, Option.bind_some]

abbrev SArch (O : Ora R) : Prop := ∀ (x : Nat), x < 2 ^ 64 → fin x = true → ∃ y, num y ∧ ∀ (G : GH) (k : IV → GH → Option R), O fn_math_archFloor [.float .f64 x] G k = k (.float .f64 y) G
theorem x78 (O : Ora R) (F x : Nat) (G : GH) (k : IV → GH → Option R) : bodyC Try.prog O [] F Try.f78 [.float .f64 x] G k = (match FloatKind.f64.decode x with | .nan _ _ => none | d => k (.float .f64 (FloatKind.f64.encode (d.integral .down))) G) := by kernel_rfl
theorem arch_body {F x : Nat} (hx : x < 2 ^ 64) (hf : fin x = true) : ∃ y, num y ∧ ∀ (G : GH) (k : IV → GH → Option R), bodyC Try.prog O [] F Try.f78 [.float .f64 x] G k = k (.float .f64 y) G := by
  obtain ⟨i, m, h1, h2⟩ := read_num (x := x) (of_decide_eq_true hf)
  have hd : FloatKind.f64.decode x = .number (sg dbl x) m (-1074 + (i : Int)) := h1
  refine ⟨FloatKind.f64.encode ((Ieee.Datum.number (sg dbl x) m (-1074 + (i : Int))).integral .down), ?_, fun G k => ?_⟩
  · exact num_nearest _ _ _
  · rw [x78, hd]
abbrev SFloor (O : Ora R) : Prop := ∀ (x : Nat), x < 2 ^ 64 → fin x = true → ∃ y, num y ∧ ∀ (G : GH) (k : IV → GH → Option R), O fn_math_Floor [.float .f64 x] G k = k (.float .f64 y) G
theorem floor_body (hA : SArch O) {F x : Nat} (hx : x < 2 ^ 64) (hf : fin x = true) : ∃ y, num y ∧ ∀ (G : GH) (k : IV → GH → Option R), bodyC Try.prog O [777777] F Try.f68 [.float .f64 x] G k = k (.float .f64 y) G := by
  obtain ⟨y, hy, h⟩ := hA x hx hf
  exact ⟨y, hy, fun G k => by rw [e_math_Floor, h, ivF]⟩
abbrev SRFl (O : Ora R) : Prop := ∀ (x : Nat), x < 2 ^ 64 → ∃ (y : Nat) (e : Int), num y ∧ ∀ (G : GH) (k : IV → GH → Option R), O fn_round_Floor [.float .f64 x] G k = k (.tuple [.float .f64 y, .int .i64 e]) G
theorem rfl_body (hN : SNumber O) (hFl : SFloor O) (hP : SPlain O) {F x : Nat} (hx : x < 2 ^ 64) : ∃ (y : Nat) (e : Int), num y ∧ ∀ (G : GH) (k : IV → GH → Option R), bodyC Try.prog O [777777] F Try.f57 [.float .f64 x] G k = k (.tuple [.float .f64 y, .int .i64 e]) G := by
  cases hf : fin x with
  | false =>
    refine ⟨0, 10, num_nil, fun G k => ?_⟩
    rw [e_round_Floor, hN x hx, ivB, hf, Bool.not_false, cond_true]
  | true =>
    obtain ⟨y, hy, h⟩ := hFl x hx hf
    refine ⟨zw y, 0, zw_num hy, fun G k => ?_⟩
    rw [e_round_Floor, hN x hx, ivB, hf, Bool.not_true, cond_false, h, ivF, hP y hy, ivF]
    rfl
abbrev SSFl (O : Ora R) : Prop := ∀ (x y : Nat), x < 2 ^ 64 → y < 2 ^ 64 → ∃ (n a : Int), ∀ (G : GH) (k : IV → GH → Option R), O fn_span_Floor [.agg [.float .f64 x, .float .f64 y]] G k = k (.tuple [.int .i64 n, .int .i64 a]) G
theorem sfl_body (hR : SRFl O) {F x y : Nat} (hF : 1 ≤ F) (hx : x < 2 ^ 64) (hy : y < 2 ^ 64) : ∃ (n a : Int), ∀ (G : GH) (k : IV → GH → Option R), bodyC Try.prog O lo45 F Try.f45 [.agg [.float .f64 x, .float .f64 y]] G k = k (.tuple [.int .i64 n, .int .i64 a]) G := by
  obtain ⟨u, e, hu, h1⟩ := hR x hx
  obtain ⟨v, f, hv, h2⟩ := hR y hy
  have st : ∀ (n a : Int) (s38 : Bool), (∀ (G : GH) (k : IV → GH → Option R), u_span_Floor_0 O (a_span_Floor_0N O k) u e v f x y G = a_span_Floor_0N O k u s38 x y G) → (∀ (G : GH) (k : IV → GH → Option R), a_span_Floor_0N O k u s38 x y G = k (.tuple [.int .i64 n, .int .i64 a]) G) →
      ∃ (n a : Int), ∀ (G : GH) (k : IV → GH → Option R), bodyC Try.prog O lo45 F Try.f45 [.agg [.float .f64 x, .float .f64 y]] G k = k (.tuple [.int .i64 n, .int .i64 a]) G := by
    intro n a s38 g1 g2
    refine ⟨n, a, fun G k => ?_⟩
    rw [e_span_Floor]
    unfold u_span_Floor
    rw [h1, tupFI, h2, tupFI]
    simp only [L_span_Floor_0, stepF hF, l_span_Floor_0]
    rw [g1, g2]
  have bad : ∀ (G : GH) (k : IV → GH → Option R), a_span_Floor_0N O k u true x y G = k (.tuple [.int .i64 0, .int .i64 2]) G := fun G k => rfl
  cases c1 : (e != (0 : Int)) with
  | true => exact st 0 2 true (fun G k => by unfold u_span_Floor_0; rw [c1, cond_true]) bad
  | false =>
    cases c2 : (f != (0 : Int)) with
    | true => exact st 0 2 true (fun G k => by unfold u_span_Floor_0; rw [c1, cond_false, c2, cond_true]) bad
    | false =>
      cases c3 : (!feq .f64 u v) with
      | true => exact st 0 2 true (fun G k => by unfold u_span_Floor_0; rw [c1, cond_false, c2, cond_false, c3, cond_true]) bad
      | false =>
        cases c4 : flt .f64 u 14069245235905429504 with
        | true => exact st 0 2 true (fun G k => by unfold u_span_Floor_0; rw [c1, cond_false, c2, cond_false, c3, cond_false, c4, cond_true]) bad
        | false =>
          cases c5 : fgt .f64 u 4845873199050653696 with
          | true => exact st 0 2 true (fun G k => by unfold u_span_Floor_0; rw [c1, cond_false, c2, cond_false, c3, cond_false, c4, cond_false, c5]) bad
          | false =>
            have d4 := c4
            have d5 := c5
            rw [flt_sv hu bot53.1, bot53.2, decide_eq_false_iff_not] at d4
            rw [fgt_sv hu top53.1, top53.2, decide_eq_false_iff_not] at d5
            obtain ⟨n, hn⟩ := trunc_i64 hu (Int.not_lt.1 d4) (Int.not_lt.1 d5)
            refine st n 1 false (fun G k => by unfold u_span_Floor_0; rw [c1, cond_false, c2, cond_false, c3, cond_false, c4, cond_false, c5]) (fun G k => ?_)
            unfold a_span_Floor_0N
            rw [cond_false, hn, Option.bind_some]
end
end Go.LI.Film

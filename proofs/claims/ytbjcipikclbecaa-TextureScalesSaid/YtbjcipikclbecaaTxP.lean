/- Mixes: the functions' steps. -/
import Derived.Test.YtbjcipikclbecaaTxO
import Derived.Test.YtbjcipikclbecaaTxH
namespace Go.LI.Film
open Go.Proofs.Ytbjcipikclbecaa Go Go.Proofs Go.LI Go.LI.Fl
set_option linter.unusedVariables false
set_option linter.unusedSimpArgs false
set_option maxRecDepth 100000
set_option exponentiation.threshold 2500

abbrev S2 (a b : Nat) : IV := .agg [.float .f64 a, .float .f64 b]
abbrev S6 (a b c d e f : Nat) : IV := .agg [.float .f64 a, .float .f64 b, .float .f64 c, .float .f64 d, .float .f64 e, .float .f64 f]
theorem S6_open {β : Type} (a b c d e g : Nat) (f : Nat → Nat → Nat → Nat → Nat → Nat → Option β) :
    ((ivAgg 6 (S6 a b c d e g)).bind fun c3 => (ivFloat .f64 (c3.getD 0 undefI)).bind fun x4 => (ivFloat .f64 (c3.getD 1 undefI)).bind fun x5 => (ivFloat .f64 (c3.getD 2 undefI)).bind fun x6 => (ivFloat .f64 (c3.getD 3 undefI)).bind fun x7 => (ivFloat .f64 (c3.getD 4 undefI)).bind fun x8 => (ivFloat .f64 (c3.getD 5 undefI)).bind fun x9 => f x4 x5 x6 x7 x8 x9) = f a b c d e g := rfl
theorem pickX (c : Bool) (x y : Nat) : (if (if c = true then (0 : Int) else 10) = 0 then (if c = true then x else 0) else y) = if c = true then x else y := by cases c <;> rfl

section
variable {R : Type}
abbrev XLow (O : Ora R) : Prop := ∀ (x : Nat) (e : Int) (G : GH) (k : IV → GH → Option R), O fn_span_low [.float .f64 x, .int .i64 e] G k = k (.float .f64 (if e = 0 then x else 18442240474082181120)) G
abbrev XHigh (O : Ora R) : Prop := ∀ (x : Nat) (e : Int) (G : GH) (k : IV → GH → Option R), O fn_span_high [.float .f64 x, .int .i64 e] G k = k (.float .f64 (if e = 0 then x else 9218868437227405312)) G
abbrev XAdd (O : Ora R) : Prop := ∀ (a b c d : Nat), a < 2 ^ 64 → b < 2 ^ 64 → c < 2 ^ 64 → d < 2 ^ 64 → ∀ (G : GH) (k : IV → GH → Option R), O fn_span_Add [S2 a b, S2 c d] G k = k (S2 (lowX a c) (highX b d)) G
theorem xLow {F n : Nat} (hn : 3 ≤ n) : XLow (runC (R := R) Try.prog lo0 (F + 1) n) := by
  obtain ⟨n, rfl⟩ : ∃ j, n = j + 3 := ⟨n - 3, by omega⟩
  have hI := wInf (R := R) (F := F) (n := n + 2) (by omega)
  intro x e G k
  rw [show fn_span_low = 73 from rfl, r_span_low, e_span_low]
  by_cases h : e = 0
  · subst h; rw [show ((0 : Int) != 0) = false from rfl, cond_false, if_pos rfl]
  · rw [show (e != 0) = true by simpa using h, cond_true, (hI G _).2, ivF, if_neg h]
theorem xHigh {F n : Nat} (hn : 3 ≤ n) : XHigh (runC (R := R) Try.prog lo0 (F + 1) n) := by
  obtain ⟨n, rfl⟩ : ∃ j, n = j + 3 := ⟨n - 3, by omega⟩
  have hI := wInf (R := R) (F := F) (n := n + 2) (by omega)
  intro x e G k
  rw [show fn_span_high = 75 from rfl, r_span_high, e_span_high]
  by_cases h : e = 0
  · subst h; rw [show ((0 : Int) != 0) = false from rfl, cond_false, if_pos rfl]
  · rw [show (e != 0) = true by simpa using h, cond_true, (hI G _).1, ivF, if_neg h]
theorem xAdd {F n : Nat} (hF : 1 ≤ F) (hn : 10 ≤ n) : XAdd (runC (R := R) Try.prog lo0 F n) := by
  obtain ⟨n, rfl⟩ : ∃ j, n = j + 10 := ⟨n - 10, by omega⟩
  obtain ⟨F, rfl⟩ : ∃ F', F = F' + 1 := ⟨F - 1, by omega⟩
  have hA := wAdd (R := R) (F := F + 1) (n := n + 9) (by omega) (by omega)
  have hL := xLow (R := R) (F := F) (n := n + 9) (by omega)
  have hH := xHigh (R := R) (F := F) (n := n + 9) (by omega)
  intro a b c d ha hb hc hd G k
  rw [show fn_span_Add = 61 from rfl, r_span_Add, e_span_Add, hA a c true ha hc, tupFI, hL, ivF, hA b d false hb hd, tupFI, hH, ivF]
  rw [pickX, pickX]
  rfl
theorem e_each_mul (O : Ora R) (fuel : Nat) (a0 a1 a2 a3 a4 a5 b0 b1 b2 b3 b4 b5 : Nat) (G : GH) (k : IV → GH → Option R) :
  bodyC Try.prog O [3, 4, 6, 7, 777777] (fuel + 4) Try.f63 [S6 a0 a1 a2 a3 a4 a5, S6 b0 b1 b2 b3 b4 b5, .func 46 []] G k =
  O fn_span_Mul [S2 a0 a1, S2 b0 b1] G fun v0 G1 => (ivAgg 2 v0).bind fun c0 => (ivFloat .f64 (c0.getD 0 undefI)).bind fun x0 => (ivFloat .f64 (c0.getD 1 undefI)).bind fun x1 =>
  O fn_span_Mul [S2 a2 a3, S2 b2 b3] G1 fun v1 G2 => (ivAgg 2 v1).bind fun c1 => (ivFloat .f64 (c1.getD 0 undefI)).bind fun x2 => (ivFloat .f64 (c1.getD 1 undefI)).bind fun x3 =>
  O fn_span_Mul [S2 a4 a5, S2 b4 b5] G2 fun v2 G3 => (ivAgg 2 v2).bind fun c2 => (ivFloat .f64 (c2.getD 0 undefI)).bind fun x4 => (ivFloat .f64 (c2.getD 1 undefI)).bind fun x5 =>
  k (S6 x0 x1 x2 x3 x4 x5) G3 := by kernel_rfl
theorem e_each_add (O : Ora R) (fuel : Nat) (a0 a1 a2 a3 a4 a5 b0 b1 b2 b3 b4 b5 : Nat) (G : GH) (k : IV → GH → Option R) :
  bodyC Try.prog O [3, 4, 6, 7, 777777] (fuel + 4) Try.f63 [S6 a0 a1 a2 a3 a4 a5, S6 b0 b1 b2 b3 b4 b5, .func 61 []] G k =
  O fn_span_Add [S2 a0 a1, S2 b0 b1] G fun v0 G1 => (ivAgg 2 v0).bind fun c0 => (ivFloat .f64 (c0.getD 0 undefI)).bind fun x0 => (ivFloat .f64 (c0.getD 1 undefI)).bind fun x1 =>
  O fn_span_Add [S2 a2 a3, S2 b2 b3] G1 fun v1 G2 => (ivAgg 2 v1).bind fun c1 => (ivFloat .f64 (c1.getD 0 undefI)).bind fun x2 => (ivFloat .f64 (c1.getD 1 undefI)).bind fun x3 =>
  O fn_span_Add [S2 a4 a5, S2 b4 b5] G2 fun v2 G3 => (ivAgg 2 v2).bind fun c2 => (ivFloat .f64 (c2.getD 0 undefI)).bind fun x4 => (ivFloat .f64 (c2.getD 1 undefI)).bind fun x5 =>
  k (S6 x0 x1 x2 x3 x4 x5) G3 := by kernel_rfl
theorem r_each (fuel n : Nat) (args : List IV) (G : GH) (k : IV → GH → Option R) :
  runC (R := R) Try.prog lo0 fuel (n + 1) 63 args G k = bodyC Try.prog (runC Try.prog lo0 fuel n) [3, 4, 6, 7, 777777] fuel Try.f63 args G k := run_body Try.func63 rfl rfl

abbrev SVAd (O : Ora R) : Prop := ∀ (a0 a1 a2 a3 a4 a5 b0 b1 b2 b3 b4 b5 : Nat), num a0 → num a1 → num a2 → num a3 → num a4 → num a5 → num b0 → num b1 → num b2 → num b3 → num b4 → num b5 →
  ∀ (G : GH) (k : IV → GH → Option R), O fn_vec_Add [S6 a0 a1 a2 a3 a4 a5, S6 b0 b1 b2 b3 b4 b5] G k = k (S6 (lowX a0 b0) (highX a1 b1) (lowX a2 b2) (highX a3 b3) (lowX a4 b4) (highX a5 b5)) G
theorem yVAd {F n : Nat} (hn : 12 ≤ n) : SVAd (runC (R := R) Try.prog lo0 (F + 4) n) := by
  obtain ⟨n, rfl⟩ : ∃ j, n = j + 12 := ⟨n - 12, by omega⟩
  have hA := xAdd (R := R) (F := F + 4) (n := n + 10) (by omega) (by omega)
  intro a0 a1 a2 a3 a4 a5 b0 b1 b2 b3 b4 b5 p0 p1 p2 p3 p4 p5 q0 q1 q2 q3 q4 q5 G k
  have hE : ∀ (G : GH) (k : IV → GH → Option R), runC Try.prog lo0 (F + 4) (n + 11) fn_vec_each [S6 a0 a1 a2 a3 a4 a5, S6 b0 b1 b2 b3 b4 b5, .func 61 []] G k = k (S6 (lowX a0 b0) (highX a1 b1) (lowX a2 b2) (highX a3 b3) (lowX a4 b4) (highX a5 b5)) G := fun G k => by
    rw [show fn_vec_each = 63 from rfl, r_each, e_each_add, hA _ _ _ _ p0.1 p1.1 q0.1 q1.1, agg2, hA _ _ _ _ p2.1 p3.1 q2.1 q3.1, agg2, hA _ _ _ _ p4.1 p5.1 q4.1 q5.1, agg2]
  rw [show fn_vec_Add = 49 from rfl, r_vec_Add, e_vec_Add, hE, S6_open]
end
end Go.LI.Film

/- What the interpreter gives for the reader (written by decomp.py). -/
import Derived.Test.YtckelpgijjbpaaaLexA
namespace Go.LI.Lex
open Go.Proofs.Ytckelpgijjbpaaa Go Go.Proofs Go.LI
set_option maxRecDepth 100000
set_option linter.unusedVariables false
set_option linter.unusedSimpArgs false
/-! ### (*lantern/lex.Reader).run -/
def c24a_1 {R : Type} (O : Ora R) (KN : GA → Int → GH → Option R) (K0 : GA → Int → GH → Option R) (s0 : GA) (s5 : Int) (G : GH) : Option R :=
  (ldInt G .i64 (GA.add s0 1)).bind fun x1 =>
  (ldStr G (GA.add s0 0)).bind fun x2 =>
  bif (decide (x1 < (x2.length : Int))) then
  (ldStr G (GA.add s0 0)).bind fun x3 =>
  (ldInt G .i64 (GA.add s0 1)).bind fun x4 =>
  bif decide (0 ≤ x4 ∧ x4 < (x3.length : Int)) then
  O 25 [.int .u8 ((x3.getD (Int.toNat x4) 0).toNat : Int)] (gfreeze G) fun v5 _ =>
  (ivBool v5).bind fun x6 =>
  bif x6 then
  KN s0 s5 G
  else
  K0 s0 s5 G
  else none
  else
  K0 s0 s5 G

theorem c24a_1_body {R : Type} (O : Ora R) (fuel : Nat) (d2 d3 d4 d6 d7 d8 d9 d10 d11 d12 d13 d14 d15 d16 d17 d18 d19 d20 d21 d22 d23 d24 d25 d26 d27 d28 d29 d30 d31 d32 d33 d34 d35 d36 d37 d38 d39 d40 d41 d42 d43 d44 d45 d46 d47 d48 d49 : IV) (s0 : GA) (s5 : Int) (G : GH) (k : Ex → List IV → List (List IV) → GH → Option R) :
  codeC Try.prog O [] fuel (nav (Try.f24.body.getD .skip) [1, 1, 0, 0, 0, 0]) [.ptr (some s0), .func 25 [], d2, d3, d4, .int .i64 s5, d6, d7, d8, d9, d10, d11, d12, d13, d14, d15, d16, d17, d18, d19, d20, d21, d22, d23, d24, d25, d26, d27, d28, d29, d30, d31, d32, d33, d34, d35, d36, d37, d38, d39, d40, d41, d42, d43, d44, d45, d46, d47, d48, d49] [] G k =
  (ldInt G .i64 (GA.add s0 1)).bind fun x1 =>
  (ldStr G (GA.add s0 0)).bind fun x2 =>
  bif (decide (x1 < (x2.length : Int))) then
  (ldStr G (GA.add s0 0)).bind fun x3 =>
  (ldInt G .i64 (GA.add s0 1)).bind fun x4 =>
  bif decide (0 ≤ x4 ∧ x4 < (x3.length : Int)) then
  O 25 [.int .u8 ((x3.getD (Int.toNat x4) 0).toNat : Int)] (gfreeze G) fun v5 _ =>
  (ivBool v5).bind fun x6 =>
  bif x6 then
  k .normal [.ptr (some s0), .func 25 [], d2, d3, d4, .int .i64 s5, d6, d7, d8, d9, .ptr (some s0), .ptr (some s0), .ptr (some (GA.add s0 1)), .int .i64 x1, .ptr (some s0), .ptr (some s0), .ptr (some (GA.add s0 0)), .str x2, .int .i64 (x2.length : Int), .bool (decide (x1 < (x2.length : Int))), .bool true, .func 25 [], .ptr (some s0), .ptr (some s0), .ptr (some (GA.add s0 0)), .str x3, .ptr (some s0), .ptr (some s0), .ptr (some (GA.add s0 1)), .int .i64 x4, .int .u8 ((x3.getD (Int.toNat x4) 0).toNat : Int), .bool x6, .bool x6, d33, d34, d35, d36, d37, d38, d39, d40, d41, d42, d43, d44, d45, d46, d47, d48, d49] [] G
  else
  k (.exit 0) [.ptr (some s0), .func 25 [], d2, d3, d4, .int .i64 s5, d6, d7, d8, d9, .ptr (some s0), .ptr (some s0), .ptr (some (GA.add s0 1)), .int .i64 x1, .ptr (some s0), .ptr (some s0), .ptr (some (GA.add s0 0)), .str x2, .int .i64 (x2.length : Int), .bool (decide (x1 < (x2.length : Int))), .bool true, .func 25 [], .ptr (some s0), .ptr (some s0), .ptr (some (GA.add s0 0)), .str x3, .ptr (some s0), .ptr (some s0), .ptr (some (GA.add s0 1)), .int .i64 x4, .int .u8 ((x3.getD (Int.toNat x4) 0).toNat : Int), .bool x6, .bool x6, d33, d34, d35, d36, d37, d38, d39, d40, d41, d42, d43, d44, d45, d46, d47, d48, d49] [] G
  else none
  else
  k (.exit 0) [.ptr (some s0), .func 25 [], d2, d3, d4, .int .i64 s5, d6, d7, d8, d9, .ptr (some s0), .ptr (some s0), .ptr (some (GA.add s0 1)), .int .i64 x1, .ptr (some s0), .ptr (some s0), .ptr (some (GA.add s0 0)), .str x2, .int .i64 (x2.length : Int), .bool (decide (x1 < (x2.length : Int))), .bool false, .tuple [], .tuple [], .tuple [], .tuple [], .tuple [], .tuple [], .tuple [], .tuple [], .tuple [], .tuple [], .tuple [], .bool false, d33, d34, d35, d36, d37, d38, d39, d40, d41, d42, d43, d44, d45, d46, d47, d48, d49] [] G := by kernel_rfl

theorem c24a_1_afterN {R : Type} (O : Ora R) (fuel : Nat) (d2 d3 d4 d6 d7 d8 d9 d10 d11 d12 d13 d14 d15 d16 d17 d18 d19 d20 d21 d22 d23 d24 d25 d26 d27 d28 d29 d30 d31 d32 d33 d34 d35 d36 d37 d38 d39 d40 d41 d42 d43 d44 d45 d46 d47 d48 d49 : IV) (s0 : GA) (s5 : Int) (G : GH) (k : Ex → List IV → List (List IV) → GH → Option R) :
  contC Try.prog O [] fuel (nav (Try.f24.body.getD .skip) [1, 1, 0, 0, 0]) [0] k .normal [.ptr (some s0), .func 25 [], d2, d3, d4, .int .i64 s5, d6, d7, d8, d9, d10, d11, d12, d13, d14, d15, d16, d17, d18, d19, d20, d21, d22, d23, d24, d25, d26, d27, d28, d29, d30, d31, d32, d33, d34, d35, d36, d37, d38, d39, d40, d41, d42, d43, d44, d45, d46, d47, d48, d49] [] G =
  (ldInt G .i64 (GA.add s0 1)).bind fun x1 =>
  (gst G (GA.add s0 1) [.int .i64 (IntKind.wrap .i64 (x1 + (1 : Int)))]).bind fun G2 =>
  k .normal [.ptr (some s0), .func 25 [], d2, d3, d4, .int .i64 s5, d6, d7, d8, d9, d10, d11, d12, d13, d14, d15, d16, d17, d18, d19, d20, d21, d22, d23, d24, d25, d26, d27, d28, d29, d30, d31, d32, .ptr (some s0), .ptr (some s0), .ptr (some (GA.add s0 1)), .int .i64 x1, .int .i64 (IntKind.wrap .i64 (x1 + (1 : Int))), .ptr (some s0), .ptr (some (GA.add s0 1)), d40, d41, d42, d43, d44, d45, d46, d47, d48, d49] [] G2 := by kernel_rfl

theorem c24a_1_after0 {R : Type} (O : Ora R) (fuel : Nat) (d1 d2 d3 d4 d6 d7 d8 d9 d10 d11 d12 d13 d14 d15 d16 d17 d18 d19 d20 d21 d22 d23 d24 d25 d26 d27 d28 d29 d30 d31 d32 d33 d34 d35 d36 d37 d38 d39 d40 d41 d42 d43 d44 d45 d46 d47 d48 d49 : IV) (s0 : GA) (s5 : Int) (G : GH) (k : Ex → List IV → List (List IV) → GH → Option R) :
  contC Try.prog O [] fuel (nav (Try.f24.body.getD .skip) [1, 1, 0, 0, 0]) [0] k (.exit 0) [.ptr (some s0), d1, d2, d3, d4, .int .i64 s5, d6, d7, d8, d9, d10, d11, d12, d13, d14, d15, d16, d17, d18, d19, d20, d21, d22, d23, d24, d25, d26, d27, d28, d29, d30, d31, d32, d33, d34, d35, d36, d37, d38, d39, d40, d41, d42, d43, d44, d45, d46, d47, d48, d49] [] G =
  k (.exit 0) [.ptr (some s0), d1, d2, d3, d4, .int .i64 s5, d6, d7, d8, d9, d10, d11, d12, d13, d14, d15, d16, d17, d18, d19, d20, d21, d22, d23, d24, d25, d26, d27, d28, d29, d30, d31, d32, d33, d34, d35, d36, d37, d38, d39, d40, d41, d42, d43, d44, d45, d46, d47, d48, d49] [] G := by kernel_rfl

theorem c24a_1_eq {R : Type} (O : Ora R) (fuel : Nat) (k : Ex → List IV → List (List IV) → GH → Option R) (HN : GA → Int → GH → Option R) (hN : ∀ (d2 d3 d4 d6 d7 d8 d9 d10 d11 d12 d13 d14 d15 d16 d17 d18 d19 d20 d21 d22 d23 d24 d25 d26 d27 d28 d29 d30 d31 d32 d33 d34 d35 d36 d37 d38 d39 d40 d41 d42 d43 d44 d45 d46 d47 d48 d49 : IV) (s0 : GA) (s5 : Int) (G : GH), k .normal [.ptr (some s0), .func 25 [], d2, d3, d4, .int .i64 s5, d6, d7, d8, d9, d10, d11, d12, d13, d14, d15, d16, d17, d18, d19, d20, d21, d22, d23, d24, d25, d26, d27, d28, d29, d30, d31, d32, d33, d34, d35, d36, d37, d38, d39, d40, d41, d42, d43, d44, d45, d46, d47, d48, d49] [] G = HN s0 s5 G) (H0 : GA → Int → GH → Option R) (h0 : ∀ (d1 d2 d3 d4 d6 d7 d8 d9 d10 d11 d12 d13 d14 d15 d16 d17 d18 d19 d20 d21 d22 d23 d24 d25 d26 d27 d28 d29 d30 d31 d32 d33 d34 d35 d36 d37 d38 d39 d40 d41 d42 d43 d44 d45 d46 d47 d48 d49 : IV) (s0 : GA) (s5 : Int) (G : GH), k (.exit 0) [.ptr (some s0), d1, d2, d3, d4, .int .i64 s5, d6, d7, d8, d9, d10, d11, d12, d13, d14, d15, d16, d17, d18, d19, d20, d21, d22, d23, d24, d25, d26, d27, d28, d29, d30, d31, d32, d33, d34, d35, d36, d37, d38, d39, d40, d41, d42, d43, d44, d45, d46, d47, d48, d49] [] G = H0 s0 s5 G) : ∀ (d2 d3 d4 d6 d7 d8 d9 d10 d11 d12 d13 d14 d15 d16 d17 d18 d19 d20 d21 d22 d23 d24 d25 d26 d27 d28 d29 d30 d31 d32 d33 d34 d35 d36 d37 d38 d39 d40 d41 d42 d43 d44 d45 d46 d47 d48 d49 : IV) (s0 : GA) (s5 : Int) (G : GH),
  codeC Try.prog O [] fuel (nav (Try.f24.body.getD .skip) [1, 1, 0, 0, 0, 0]) [.ptr (some s0), .func 25 [], d2, d3, d4, .int .i64 s5, d6, d7, d8, d9, d10, d11, d12, d13, d14, d15, d16, d17, d18, d19, d20, d21, d22, d23, d24, d25, d26, d27, d28, d29, d30, d31, d32, d33, d34, d35, d36, d37, d38, d39, d40, d41, d42, d43, d44, d45, d46, d47, d48, d49] [] G (contC Try.prog O [] fuel (nav (Try.f24.body.getD .skip) [1, 1, 0, 0, 0]) [0] k) =
  c24a_1 O (fun (s0 : GA) (s5 : Int) G => (ldInt G .i64 (GA.add s0 1)).bind fun x1 =>
(gst G (GA.add s0 1) [.int .i64 (IntKind.wrap .i64 (x1 + (1 : Int)))]).bind fun G2 =>
  HN s0 s5 G2) (fun (s0 : GA) (s5 : Int) G => H0 s0 s5 G)  s0 s5 G := by
    intros
    rw [c24a_1_body]
    simp only [c24a_1, c24a_1_afterN, c24a_1_after0, hN, h0]

def l24a_0 {R : Type} (O : Ora R) (K0 : GA → Int → GH → Option R) (fuel : Nat) : Nat → GA → Int → GH → Option R
  | 0, _, _, _ => none
  | n + 1, s0, s5, G =>
  stepN fuel (c24a_1 O (fun (s0 : GA) (s5 : Int) G => (ldInt G .i64 (GA.add s0 1)).bind fun x1 =>
  (gst G (GA.add s0 1) [.int .i64 (IntKind.wrap .i64 (x1 + (1 : Int)))]).bind fun G2 =>
  l24a_0 O K0 fuel n s0 s5 G2) (fun (s0 : GA) (s5 : Int) G => K0 s0 s5 G) s0 s5 G)

theorem l24a_0_body {R : Type} (O : Ora R) (fuel : Nat) (d2 d3 d4 d6 d7 d8 d9 d10 d11 d12 d13 d14 d15 d16 d17 d18 d19 d20 d21 d22 d23 d24 d25 d26 d27 d28 d29 d30 d31 d32 d33 d34 d35 d36 d37 d38 d39 d40 d41 d42 d43 d44 d45 d46 d47 d48 d49 : IV) (s0 : GA) (s5 : Int) (G : GH) (k : Ex → List IV → List (List IV) → GH → Option R) :
  codeC Try.prog O [] fuel (nav (Try.f24.body.getD .skip) [1, 1, 0, 0, 0]) [.ptr (some s0), .func 25 [], d2, d3, d4, .int .i64 s5, d6, d7, d8, d9, d10, d11, d12, d13, d14, d15, d16, d17, d18, d19, d20, d21, d22, d23, d24, d25, d26, d27, d28, d29, d30, d31, d32, d33, d34, d35, d36, d37, d38, d39, d40, d41, d42, d43, d44, d45, d46, d47, d48, d49] [] G k =
  stepN fuel (codeC Try.prog O [] fuel (nav (Try.f24.body.getD .skip) [1, 1, 0, 0, 0, 0]) [.ptr (some s0), .func 25 [], d2, d3, d4, .int .i64 s5, d6, d7, d8, d9, d10, d11, d12, d13, d14, d15, d16, d17, d18, d19, d20, d21, d22, d23, d24, d25, d26, d27, d28, d29, d30, d31, d32, d33, d34, d35, d36, d37, d38, d39, d40, d41, d42, d43, d44, d45, d46, d47, d48, d49] [] G (contC Try.prog O [] fuel (nav (Try.f24.body.getD .skip) [1, 1, 0, 0, 0]) [0] k)) := by kernel_rfl

theorem l24a_0_after0 {R : Type} (O : Ora R) (fuel : Nat) (d1 d2 d3 d4 d6 d7 d8 d9 d10 d11 d12 d13 d14 d15 d16 d17 d18 d19 d20 d21 d22 d23 d24 d25 d26 d27 d28 d29 d30 d31 d32 d33 d34 d35 d36 d37 d38 d39 d40 d41 d42 d43 d44 d45 d46 d47 d48 d49 : IV) (s0 : GA) (s5 : Int) (G : GH) (k : IV → GH → Option R) :
  contC Try.prog O [] fuel (Try.f24.body.getD .skip) [1, 1, 0, 0] (fun e env F G => match e with | .exit _ => none | _ => resC Try.prog Try.f24 env F G k) (.exit 0) [.ptr (some s0), d1, d2, d3, d4, .int .i64 s5, d6, d7, d8, d9, d10, d11, d12, d13, d14, d15, d16, d17, d18, d19, d20, d21, d22, d23, d24, d25, d26, d27, d28, d29, d30, d31, d32, d33, d34, d35, d36, d37, d38, d39, d40, d41, d42, d43, d44, d45, d46, d47, d48, d49] [] G =
  (ldStr G (GA.add s0 0)).bind fun x1 =>
  (ldInt G .i64 (GA.add s0 1)).bind fun x2 =>
  bif decide (0 ≤ s5 ∧ s5 ≤ x2 ∧ x2 ≤ (x1.length : Int)) then
  k (.str ((x1.drop (Int.toNat s5)).take (Int.toNat x2 - Int.toNat s5))) G
  else none := by kernel_rfl

theorem l24a_0_eq {R : Type} (O : Ora R) (fuel : Nat) (k : IV → GH → Option R) : ∀ (n : Nat) (d2 d3 d4 d6 d7 d8 d9 d10 d11 d12 d13 d14 d15 d16 d17 d18 d19 d20 d21 d22 d23 d24 d25 d26 d27 d28 d29 d30 d31 d32 d33 d34 d35 d36 d37 d38 d39 d40 d41 d42 d43 d44 d45 d46 d47 d48 d49 : IV) (s0 : GA) (s5 : Int) (G : GH),
  loopN (fun env F G k => codeC Try.prog O [] fuel (nav (Try.f24.body.getD .skip) [1, 1, 0, 0, 0]) env F G k) n [.ptr (some s0), .func 25 [], d2, d3, d4, .int .i64 s5, d6, d7, d8, d9, d10, d11, d12, d13, d14, d15, d16, d17, d18, d19, d20, d21, d22, d23, d24, d25, d26, d27, d28, d29, d30, d31, d32, d33, d34, d35, d36, d37, d38, d39, d40, d41, d42, d43, d44, d45, d46, d47, d48, d49] [] G (contC Try.prog O [] fuel (Try.f24.body.getD .skip) [1, 1, 0, 0] (fun e env F G => match e with | .exit _ => none | _ => resC Try.prog Try.f24 env F G k)) =
  l24a_0 O (fun (s0 : GA) (s5 : Int) G => (ldStr G (GA.add s0 0)).bind fun x1 =>
(ldInt G .i64 (GA.add s0 1)).bind fun x2 =>
  bif decide (0 ≤ s5 ∧ s5 ≤ x2 ∧ x2 ≤ (x1.length : Int)) then
  k (.str ((x1.drop (Int.toNat s5)).take (Int.toNat x2 - Int.toNat s5))) G
else none) fuel n s0 s5 G := by
  intro n
  induction n with
  | zero => intros; rfl
  | succ n ih =>
    intros
    have hin0 := c24a_1_eq (R := R) O fuel (loopK (fun env F G k => codeC Try.prog O [] fuel (nav (Try.f24.body.getD .skip) [1, 1, 0, 0, 0]) env F G k) n (contC Try.prog O [] fuel (Try.f24.body.getD .skip) [1, 1, 0, 0] (fun e env F G => match e with | .exit _ => none | _ => resC Try.prog Try.f24 env F G k))) (fun (s0 : GA) (s5 : Int) G => l24a_0 O (fun (s0 : GA) (s5 : Int) G => (ldStr G (GA.add s0 0)).bind fun x1 =>
(ldInt G .i64 (GA.add s0 1)).bind fun x2 =>
  bif decide (0 ≤ s5 ∧ s5 ≤ x2 ∧ x2 ≤ (x1.length : Int)) then
  k (.str ((x1.drop (Int.toNat s5)).take (Int.toNat x2 - Int.toNat s5))) G
else none) fuel n s0 s5 G) (by intros; simp only [loopK_normal, loopK_exit, loopK_ret, ih, l24a_0_after0]) (fun (s0 : GA) (s5 : Int) G => (ldStr G (GA.add s0 0)).bind fun x3 =>
(ldInt G .i64 (GA.add s0 1)).bind fun x4 =>
  bif decide (0 ≤ s5 ∧ s5 ≤ x4 ∧ x4 ≤ (x3.length : Int)) then
  k (.str ((x3.drop (Int.toNat s5)).take (Int.toNat x4 - Int.toNat s5))) G
else none) (by intros; simp only [loopK_normal, loopK_exit, loopK_ret, ih, l24a_0_after0])
    rw [loopN_succ, l24a_0_body]
    simp only [l24a_0, loopK_normal, loopK_exit, loopK_ret, ih, l24a_0_after0, hin0]

theorem e24a_raw {R : Type} (O : Ora R) (fuel : Nat) (p0 : GA) (G : GH) (k : IV → GH → Option R) :
  bodyC Try.prog O [] fuel Try.f24 [.ptr (some p0), .func 25 []] G k =
  (ldInt G .i64 (GA.add p0 1)).bind fun x1 =>
  loopN (fun env F G k => codeC Try.prog O [] fuel (nav (Try.f24.body.getD .skip) [1, 1, 0, 0, 0]) env F G k) fuel [.ptr (some p0), .func 25 [], .tuple [], .tuple [], .str ([] : List UInt8), .int .i64 x1, .ptr (some p0), .ptr (some p0), .ptr (some (GA.add p0 1)), .int .i64 x1, .tuple [], .tuple [], .tuple [], .tuple [], .tuple [], .tuple [], .tuple [], .tuple [], .tuple [], .tuple [], .tuple [], .tuple [], .tuple [], .tuple [], .tuple [], .tuple [], .tuple [], .tuple [], .tuple [], .tuple [], .tuple [], .tuple [], .tuple [], .tuple [], .tuple [], .tuple [], .tuple [], .tuple [], .tuple [], .tuple [], .tuple [], .tuple [], .tuple [], .tuple [], .tuple [], .tuple [], .tuple [], .tuple [], .tuple [], .tuple []] [] G (contC Try.prog O [] fuel (Try.f24.body.getD .skip) [1, 1, 0, 0] (fun e env F G => match e with | .exit _ => none | _ => resC Try.prog Try.f24 env F G k)) := by kernel_rfl

theorem e24a {R : Type} (O : Ora R) (fuel : Nat) (p0 : GA) (G : GH) (k : IV → GH → Option R) :
  bodyC Try.prog O [] fuel Try.f24 [.ptr (some p0), .func 25 []] G k =
  (ldInt G .i64 (GA.add p0 1)).bind fun x1 =>
  l24a_0 O (fun (s0 : GA) (s5 : Int) G => (ldStr G (GA.add s0 0)).bind fun x2 =>
  (ldInt G .i64 (GA.add s0 1)).bind fun x3 =>
  bif decide (0 ≤ s5 ∧ s5 ≤ x3 ∧ x3 ≤ (x2.length : Int)) then
  k (.str ((x2.drop (Int.toNat s5)).take (Int.toNat x3 - Int.toNat s5))) G
  else none) fuel fuel p0 x1 G := by
  rw [e24a_raw]; simp only [l24a_0_eq O fuel k]

theorem r24a {R : Type} (fuel n : Nat) (p0 : GA) (G : GH) (k : IV → GH → Option R) :
  runL Try.prog lexLib lo0 fuel (n + 1) 24 [.ptr (some p0), .func 25 []] G k = bodyC Try.prog (runL Try.prog lexLib lo0 fuel n) [] fuel Try.f24 [.ptr (some p0), .func 25 []] G k := runL_body Try.func24 rfl rfl rfl

/-! ### (*lantern/lex.Reader).run -/
def c24b_1 {R : Type} (O : Ora R) (KN : GA → Int → GH → Option R) (K0 : GA → Int → GH → Option R) (s0 : GA) (s5 : Int) (G : GH) : Option R :=
  (ldInt G .i64 (GA.add s0 1)).bind fun x1 =>
  (ldStr G (GA.add s0 0)).bind fun x2 =>
  bif (decide (x1 < (x2.length : Int))) then
  (ldStr G (GA.add s0 0)).bind fun x3 =>
  (ldInt G .i64 (GA.add s0 1)).bind fun x4 =>
  bif decide (0 ≤ x4 ∧ x4 < (x3.length : Int)) then
  O 26 [.int .u8 ((x3.getD (Int.toNat x4) 0).toNat : Int)] (gfreeze G) fun v5 _ =>
  (ivBool v5).bind fun x6 =>
  bif x6 then
  KN s0 s5 G
  else
  K0 s0 s5 G
  else none
  else
  K0 s0 s5 G

theorem c24b_1_body {R : Type} (O : Ora R) (fuel : Nat) (d2 d3 d4 d6 d7 d8 d9 d10 d11 d12 d13 d14 d15 d16 d17 d18 d19 d20 d21 d22 d23 d24 d25 d26 d27 d28 d29 d30 d31 d32 d33 d34 d35 d36 d37 d38 d39 d40 d41 d42 d43 d44 d45 d46 d47 d48 d49 : IV) (s0 : GA) (s5 : Int) (G : GH) (k : Ex → List IV → List (List IV) → GH → Option R) :
  codeC Try.prog O [] fuel (nav (Try.f24.body.getD .skip) [1, 1, 0, 0, 0, 0]) [.ptr (some s0), .func 26 [], d2, d3, d4, .int .i64 s5, d6, d7, d8, d9, d10, d11, d12, d13, d14, d15, d16, d17, d18, d19, d20, d21, d22, d23, d24, d25, d26, d27, d28, d29, d30, d31, d32, d33, d34, d35, d36, d37, d38, d39, d40, d41, d42, d43, d44, d45, d46, d47, d48, d49] [] G k =
  (ldInt G .i64 (GA.add s0 1)).bind fun x1 =>
  (ldStr G (GA.add s0 0)).bind fun x2 =>
  bif (decide (x1 < (x2.length : Int))) then
  (ldStr G (GA.add s0 0)).bind fun x3 =>
  (ldInt G .i64 (GA.add s0 1)).bind fun x4 =>
  bif decide (0 ≤ x4 ∧ x4 < (x3.length : Int)) then
  O 26 [.int .u8 ((x3.getD (Int.toNat x4) 0).toNat : Int)] (gfreeze G) fun v5 _ =>
  (ivBool v5).bind fun x6 =>
  bif x6 then
  k .normal [.ptr (some s0), .func 26 [], d2, d3, d4, .int .i64 s5, d6, d7, d8, d9, .ptr (some s0), .ptr (some s0), .ptr (some (GA.add s0 1)), .int .i64 x1, .ptr (some s0), .ptr (some s0), .ptr (some (GA.add s0 0)), .str x2, .int .i64 (x2.length : Int), .bool (decide (x1 < (x2.length : Int))), .bool true, .func 26 [], .ptr (some s0), .ptr (some s0), .ptr (some (GA.add s0 0)), .str x3, .ptr (some s0), .ptr (some s0), .ptr (some (GA.add s0 1)), .int .i64 x4, .int .u8 ((x3.getD (Int.toNat x4) 0).toNat : Int), .bool x6, .bool x6, d33, d34, d35, d36, d37, d38, d39, d40, d41, d42, d43, d44, d45, d46, d47, d48, d49] [] G
  else
  k (.exit 0) [.ptr (some s0), .func 26 [], d2, d3, d4, .int .i64 s5, d6, d7, d8, d9, .ptr (some s0), .ptr (some s0), .ptr (some (GA.add s0 1)), .int .i64 x1, .ptr (some s0), .ptr (some s0), .ptr (some (GA.add s0 0)), .str x2, .int .i64 (x2.length : Int), .bool (decide (x1 < (x2.length : Int))), .bool true, .func 26 [], .ptr (some s0), .ptr (some s0), .ptr (some (GA.add s0 0)), .str x3, .ptr (some s0), .ptr (some s0), .ptr (some (GA.add s0 1)), .int .i64 x4, .int .u8 ((x3.getD (Int.toNat x4) 0).toNat : Int), .bool x6, .bool x6, d33, d34, d35, d36, d37, d38, d39, d40, d41, d42, d43, d44, d45, d46, d47, d48, d49] [] G
  else none
  else
  k (.exit 0) [.ptr (some s0), .func 26 [], d2, d3, d4, .int .i64 s5, d6, d7, d8, d9, .ptr (some s0), .ptr (some s0), .ptr (some (GA.add s0 1)), .int .i64 x1, .ptr (some s0), .ptr (some s0), .ptr (some (GA.add s0 0)), .str x2, .int .i64 (x2.length : Int), .bool (decide (x1 < (x2.length : Int))), .bool false, .tuple [], .tuple [], .tuple [], .tuple [], .tuple [], .tuple [], .tuple [], .tuple [], .tuple [], .tuple [], .tuple [], .bool false, d33, d34, d35, d36, d37, d38, d39, d40, d41, d42, d43, d44, d45, d46, d47, d48, d49] [] G := by kernel_rfl

theorem c24b_1_afterN {R : Type} (O : Ora R) (fuel : Nat) (d2 d3 d4 d6 d7 d8 d9 d10 d11 d12 d13 d14 d15 d16 d17 d18 d19 d20 d21 d22 d23 d24 d25 d26 d27 d28 d29 d30 d31 d32 d33 d34 d35 d36 d37 d38 d39 d40 d41 d42 d43 d44 d45 d46 d47 d48 d49 : IV) (s0 : GA) (s5 : Int) (G : GH) (k : Ex → List IV → List (List IV) → GH → Option R) :
  contC Try.prog O [] fuel (nav (Try.f24.body.getD .skip) [1, 1, 0, 0, 0]) [0] k .normal [.ptr (some s0), .func 26 [], d2, d3, d4, .int .i64 s5, d6, d7, d8, d9, d10, d11, d12, d13, d14, d15, d16, d17, d18, d19, d20, d21, d22, d23, d24, d25, d26, d27, d28, d29, d30, d31, d32, d33, d34, d35, d36, d37, d38, d39, d40, d41, d42, d43, d44, d45, d46, d47, d48, d49] [] G =
  (ldInt G .i64 (GA.add s0 1)).bind fun x1 =>
  (gst G (GA.add s0 1) [.int .i64 (IntKind.wrap .i64 (x1 + (1 : Int)))]).bind fun G2 =>
  k .normal [.ptr (some s0), .func 26 [], d2, d3, d4, .int .i64 s5, d6, d7, d8, d9, d10, d11, d12, d13, d14, d15, d16, d17, d18, d19, d20, d21, d22, d23, d24, d25, d26, d27, d28, d29, d30, d31, d32, .ptr (some s0), .ptr (some s0), .ptr (some (GA.add s0 1)), .int .i64 x1, .int .i64 (IntKind.wrap .i64 (x1 + (1 : Int))), .ptr (some s0), .ptr (some (GA.add s0 1)), d40, d41, d42, d43, d44, d45, d46, d47, d48, d49] [] G2 := by kernel_rfl

theorem c24b_1_after0 {R : Type} (O : Ora R) (fuel : Nat) (d1 d2 d3 d4 d6 d7 d8 d9 d10 d11 d12 d13 d14 d15 d16 d17 d18 d19 d20 d21 d22 d23 d24 d25 d26 d27 d28 d29 d30 d31 d32 d33 d34 d35 d36 d37 d38 d39 d40 d41 d42 d43 d44 d45 d46 d47 d48 d49 : IV) (s0 : GA) (s5 : Int) (G : GH) (k : Ex → List IV → List (List IV) → GH → Option R) :
  contC Try.prog O [] fuel (nav (Try.f24.body.getD .skip) [1, 1, 0, 0, 0]) [0] k (.exit 0) [.ptr (some s0), d1, d2, d3, d4, .int .i64 s5, d6, d7, d8, d9, d10, d11, d12, d13, d14, d15, d16, d17, d18, d19, d20, d21, d22, d23, d24, d25, d26, d27, d28, d29, d30, d31, d32, d33, d34, d35, d36, d37, d38, d39, d40, d41, d42, d43, d44, d45, d46, d47, d48, d49] [] G =
  k (.exit 0) [.ptr (some s0), d1, d2, d3, d4, .int .i64 s5, d6, d7, d8, d9, d10, d11, d12, d13, d14, d15, d16, d17, d18, d19, d20, d21, d22, d23, d24, d25, d26, d27, d28, d29, d30, d31, d32, d33, d34, d35, d36, d37, d38, d39, d40, d41, d42, d43, d44, d45, d46, d47, d48, d49] [] G := by kernel_rfl

theorem c24b_1_eq {R : Type} (O : Ora R) (fuel : Nat) (k : Ex → List IV → List (List IV) → GH → Option R) (HN : GA → Int → GH → Option R) (hN : ∀ (d2 d3 d4 d6 d7 d8 d9 d10 d11 d12 d13 d14 d15 d16 d17 d18 d19 d20 d21 d22 d23 d24 d25 d26 d27 d28 d29 d30 d31 d32 d33 d34 d35 d36 d37 d38 d39 d40 d41 d42 d43 d44 d45 d46 d47 d48 d49 : IV) (s0 : GA) (s5 : Int) (G : GH), k .normal [.ptr (some s0), .func 26 [], d2, d3, d4, .int .i64 s5, d6, d7, d8, d9, d10, d11, d12, d13, d14, d15, d16, d17, d18, d19, d20, d21, d22, d23, d24, d25, d26, d27, d28, d29, d30, d31, d32, d33, d34, d35, d36, d37, d38, d39, d40, d41, d42, d43, d44, d45, d46, d47, d48, d49] [] G = HN s0 s5 G) (H0 : GA → Int → GH → Option R) (h0 : ∀ (d1 d2 d3 d4 d6 d7 d8 d9 d10 d11 d12 d13 d14 d15 d16 d17 d18 d19 d20 d21 d22 d23 d24 d25 d26 d27 d28 d29 d30 d31 d32 d33 d34 d35 d36 d37 d38 d39 d40 d41 d42 d43 d44 d45 d46 d47 d48 d49 : IV) (s0 : GA) (s5 : Int) (G : GH), k (.exit 0) [.ptr (some s0), d1, d2, d3, d4, .int .i64 s5, d6, d7, d8, d9, d10, d11, d12, d13, d14, d15, d16, d17, d18, d19, d20, d21, d22, d23, d24, d25, d26, d27, d28, d29, d30, d31, d32, d33, d34, d35, d36, d37, d38, d39, d40, d41, d42, d43, d44, d45, d46, d47, d48, d49] [] G = H0 s0 s5 G) : ∀ (d2 d3 d4 d6 d7 d8 d9 d10 d11 d12 d13 d14 d15 d16 d17 d18 d19 d20 d21 d22 d23 d24 d25 d26 d27 d28 d29 d30 d31 d32 d33 d34 d35 d36 d37 d38 d39 d40 d41 d42 d43 d44 d45 d46 d47 d48 d49 : IV) (s0 : GA) (s5 : Int) (G : GH),
  codeC Try.prog O [] fuel (nav (Try.f24.body.getD .skip) [1, 1, 0, 0, 0, 0]) [.ptr (some s0), .func 26 [], d2, d3, d4, .int .i64 s5, d6, d7, d8, d9, d10, d11, d12, d13, d14, d15, d16, d17, d18, d19, d20, d21, d22, d23, d24, d25, d26, d27, d28, d29, d30, d31, d32, d33, d34, d35, d36, d37, d38, d39, d40, d41, d42, d43, d44, d45, d46, d47, d48, d49] [] G (contC Try.prog O [] fuel (nav (Try.f24.body.getD .skip) [1, 1, 0, 0, 0]) [0] k) =
  c24b_1 O (fun (s0 : GA) (s5 : Int) G => (ldInt G .i64 (GA.add s0 1)).bind fun x1 =>
(gst G (GA.add s0 1) [.int .i64 (IntKind.wrap .i64 (x1 + (1 : Int)))]).bind fun G2 =>
  HN s0 s5 G2) (fun (s0 : GA) (s5 : Int) G => H0 s0 s5 G)  s0 s5 G := by
    intros
    rw [c24b_1_body]
    simp only [c24b_1, c24b_1_afterN, c24b_1_after0, hN, h0]

def l24b_0 {R : Type} (O : Ora R) (K0 : GA → Int → GH → Option R) (fuel : Nat) : Nat → GA → Int → GH → Option R
  | 0, _, _, _ => none
  | n + 1, s0, s5, G =>
  stepN fuel (c24b_1 O (fun (s0 : GA) (s5 : Int) G => (ldInt G .i64 (GA.add s0 1)).bind fun x1 =>
  (gst G (GA.add s0 1) [.int .i64 (IntKind.wrap .i64 (x1 + (1 : Int)))]).bind fun G2 =>
  l24b_0 O K0 fuel n s0 s5 G2) (fun (s0 : GA) (s5 : Int) G => K0 s0 s5 G) s0 s5 G)

theorem l24b_0_body {R : Type} (O : Ora R) (fuel : Nat) (d2 d3 d4 d6 d7 d8 d9 d10 d11 d12 d13 d14 d15 d16 d17 d18 d19 d20 d21 d22 d23 d24 d25 d26 d27 d28 d29 d30 d31 d32 d33 d34 d35 d36 d37 d38 d39 d40 d41 d42 d43 d44 d45 d46 d47 d48 d49 : IV) (s0 : GA) (s5 : Int) (G : GH) (k : Ex → List IV → List (List IV) → GH → Option R) :
  codeC Try.prog O [] fuel (nav (Try.f24.body.getD .skip) [1, 1, 0, 0, 0]) [.ptr (some s0), .func 26 [], d2, d3, d4, .int .i64 s5, d6, d7, d8, d9, d10, d11, d12, d13, d14, d15, d16, d17, d18, d19, d20, d21, d22, d23, d24, d25, d26, d27, d28, d29, d30, d31, d32, d33, d34, d35, d36, d37, d38, d39, d40, d41, d42, d43, d44, d45, d46, d47, d48, d49] [] G k =
  stepN fuel (codeC Try.prog O [] fuel (nav (Try.f24.body.getD .skip) [1, 1, 0, 0, 0, 0]) [.ptr (some s0), .func 26 [], d2, d3, d4, .int .i64 s5, d6, d7, d8, d9, d10, d11, d12, d13, d14, d15, d16, d17, d18, d19, d20, d21, d22, d23, d24, d25, d26, d27, d28, d29, d30, d31, d32, d33, d34, d35, d36, d37, d38, d39, d40, d41, d42, d43, d44, d45, d46, d47, d48, d49] [] G (contC Try.prog O [] fuel (nav (Try.f24.body.getD .skip) [1, 1, 0, 0, 0]) [0] k)) := by kernel_rfl

theorem l24b_0_after0 {R : Type} (O : Ora R) (fuel : Nat) (d1 d2 d3 d4 d6 d7 d8 d9 d10 d11 d12 d13 d14 d15 d16 d17 d18 d19 d20 d21 d22 d23 d24 d25 d26 d27 d28 d29 d30 d31 d32 d33 d34 d35 d36 d37 d38 d39 d40 d41 d42 d43 d44 d45 d46 d47 d48 d49 : IV) (s0 : GA) (s5 : Int) (G : GH) (k : IV → GH → Option R) :
  contC Try.prog O [] fuel (Try.f24.body.getD .skip) [1, 1, 0, 0] (fun e env F G => match e with | .exit _ => none | _ => resC Try.prog Try.f24 env F G k) (.exit 0) [.ptr (some s0), d1, d2, d3, d4, .int .i64 s5, d6, d7, d8, d9, d10, d11, d12, d13, d14, d15, d16, d17, d18, d19, d20, d21, d22, d23, d24, d25, d26, d27, d28, d29, d30, d31, d32, d33, d34, d35, d36, d37, d38, d39, d40, d41, d42, d43, d44, d45, d46, d47, d48, d49] [] G =
  (ldStr G (GA.add s0 0)).bind fun x1 =>
  (ldInt G .i64 (GA.add s0 1)).bind fun x2 =>
  bif decide (0 ≤ s5 ∧ s5 ≤ x2 ∧ x2 ≤ (x1.length : Int)) then
  k (.str ((x1.drop (Int.toNat s5)).take (Int.toNat x2 - Int.toNat s5))) G
  else none := by kernel_rfl

theorem l24b_0_eq {R : Type} (O : Ora R) (fuel : Nat) (k : IV → GH → Option R) : ∀ (n : Nat) (d2 d3 d4 d6 d7 d8 d9 d10 d11 d12 d13 d14 d15 d16 d17 d18 d19 d20 d21 d22 d23 d24 d25 d26 d27 d28 d29 d30 d31 d32 d33 d34 d35 d36 d37 d38 d39 d40 d41 d42 d43 d44 d45 d46 d47 d48 d49 : IV) (s0 : GA) (s5 : Int) (G : GH),
  loopN (fun env F G k => codeC Try.prog O [] fuel (nav (Try.f24.body.getD .skip) [1, 1, 0, 0, 0]) env F G k) n [.ptr (some s0), .func 26 [], d2, d3, d4, .int .i64 s5, d6, d7, d8, d9, d10, d11, d12, d13, d14, d15, d16, d17, d18, d19, d20, d21, d22, d23, d24, d25, d26, d27, d28, d29, d30, d31, d32, d33, d34, d35, d36, d37, d38, d39, d40, d41, d42, d43, d44, d45, d46, d47, d48, d49] [] G (contC Try.prog O [] fuel (Try.f24.body.getD .skip) [1, 1, 0, 0] (fun e env F G => match e with | .exit _ => none | _ => resC Try.prog Try.f24 env F G k)) =
  l24b_0 O (fun (s0 : GA) (s5 : Int) G => (ldStr G (GA.add s0 0)).bind fun x1 =>
(ldInt G .i64 (GA.add s0 1)).bind fun x2 =>
  bif decide (0 ≤ s5 ∧ s5 ≤ x2 ∧ x2 ≤ (x1.length : Int)) then
  k (.str ((x1.drop (Int.toNat s5)).take (Int.toNat x2 - Int.toNat s5))) G
else none) fuel n s0 s5 G := by
  intro n
  induction n with
  | zero => intros; rfl
  | succ n ih =>
    intros
    have hin0 := c24b_1_eq (R := R) O fuel (loopK (fun env F G k => codeC Try.prog O [] fuel (nav (Try.f24.body.getD .skip) [1, 1, 0, 0, 0]) env F G k) n (contC Try.prog O [] fuel (Try.f24.body.getD .skip) [1, 1, 0, 0] (fun e env F G => match e with | .exit _ => none | _ => resC Try.prog Try.f24 env F G k))) (fun (s0 : GA) (s5 : Int) G => l24b_0 O (fun (s0 : GA) (s5 : Int) G => (ldStr G (GA.add s0 0)).bind fun x1 =>
(ldInt G .i64 (GA.add s0 1)).bind fun x2 =>
  bif decide (0 ≤ s5 ∧ s5 ≤ x2 ∧ x2 ≤ (x1.length : Int)) then
  k (.str ((x1.drop (Int.toNat s5)).take (Int.toNat x2 - Int.toNat s5))) G
else none) fuel n s0 s5 G) (by intros; simp only [loopK_normal, loopK_exit, loopK_ret, ih, l24b_0_after0]) (fun (s0 : GA) (s5 : Int) G => (ldStr G (GA.add s0 0)).bind fun x3 =>
(ldInt G .i64 (GA.add s0 1)).bind fun x4 =>
  bif decide (0 ≤ s5 ∧ s5 ≤ x4 ∧ x4 ≤ (x3.length : Int)) then
  k (.str ((x3.drop (Int.toNat s5)).take (Int.toNat x4 - Int.toNat s5))) G
else none) (by intros; simp only [loopK_normal, loopK_exit, loopK_ret, ih, l24b_0_after0])
    rw [loopN_succ, l24b_0_body]
    simp only [l24b_0, loopK_normal, loopK_exit, loopK_ret, ih, l24b_0_after0, hin0]

theorem e24b_raw {R : Type} (O : Ora R) (fuel : Nat) (p0 : GA) (G : GH) (k : IV → GH → Option R) :
  bodyC Try.prog O [] fuel Try.f24 [.ptr (some p0), .func 26 []] G k =
  (ldInt G .i64 (GA.add p0 1)).bind fun x1 =>
  loopN (fun env F G k => codeC Try.prog O [] fuel (nav (Try.f24.body.getD .skip) [1, 1, 0, 0, 0]) env F G k) fuel [.ptr (some p0), .func 26 [], .tuple [], .tuple [], .str ([] : List UInt8), .int .i64 x1, .ptr (some p0), .ptr (some p0), .ptr (some (GA.add p0 1)), .int .i64 x1, .tuple [], .tuple [], .tuple [], .tuple [], .tuple [], .tuple [], .tuple [], .tuple [], .tuple [], .tuple [], .tuple [], .tuple [], .tuple [], .tuple [], .tuple [], .tuple [], .tuple [], .tuple [], .tuple [], .tuple [], .tuple [], .tuple [], .tuple [], .tuple [], .tuple [], .tuple [], .tuple [], .tuple [], .tuple [], .tuple [], .tuple [], .tuple [], .tuple [], .tuple [], .tuple [], .tuple [], .tuple [], .tuple [], .tuple [], .tuple []] [] G (contC Try.prog O [] fuel (Try.f24.body.getD .skip) [1, 1, 0, 0] (fun e env F G => match e with | .exit _ => none | _ => resC Try.prog Try.f24 env F G k)) := by kernel_rfl

theorem e24b {R : Type} (O : Ora R) (fuel : Nat) (p0 : GA) (G : GH) (k : IV → GH → Option R) :
  bodyC Try.prog O [] fuel Try.f24 [.ptr (some p0), .func 26 []] G k =
  (ldInt G .i64 (GA.add p0 1)).bind fun x1 =>
  l24b_0 O (fun (s0 : GA) (s5 : Int) G => (ldStr G (GA.add s0 0)).bind fun x2 =>
  (ldInt G .i64 (GA.add s0 1)).bind fun x3 =>
  bif decide (0 ≤ s5 ∧ s5 ≤ x3 ∧ x3 ≤ (x2.length : Int)) then
  k (.str ((x2.drop (Int.toNat s5)).take (Int.toNat x3 - Int.toNat s5))) G
  else none) fuel fuel p0 x1 G := by
  rw [e24b_raw]; simp only [l24b_0_eq O fuel k]

theorem r24b {R : Type} (fuel n : Nat) (p0 : GA) (G : GH) (k : IV → GH → Option R) :
  runL Try.prog lexLib lo0 fuel (n + 1) 24 [.ptr (some p0), .func 26 []] G k = bodyC Try.prog (runL Try.prog lexLib lo0 fuel n) [] fuel Try.f24 [.ptr (some p0), .func 26 []] G k := runL_body Try.func24 rfl rfl rfl

/-! ### (*lantern/lex.Reader).run -/
def c24c_1 {R : Type} (O : Ora R) (KN : GA → Int → GH → Option R) (K0 : GA → Int → GH → Option R) (s0 : GA) (s5 : Int) (G : GH) : Option R :=
  (ldInt G .i64 (GA.add s0 1)).bind fun x1 =>
  (ldStr G (GA.add s0 0)).bind fun x2 =>
  bif (decide (x1 < (x2.length : Int))) then
  (ldStr G (GA.add s0 0)).bind fun x3 =>
  (ldInt G .i64 (GA.add s0 1)).bind fun x4 =>
  bif decide (0 ≤ x4 ∧ x4 < (x3.length : Int)) then
  O 28 [.int .u8 ((x3.getD (Int.toNat x4) 0).toNat : Int)] (gfreeze G) fun v5 _ =>
  (ivBool v5).bind fun x6 =>
  bif x6 then
  KN s0 s5 G
  else
  K0 s0 s5 G
  else none
  else
  K0 s0 s5 G

theorem c24c_1_body {R : Type} (O : Ora R) (fuel : Nat) (d2 d3 d4 d6 d7 d8 d9 d10 d11 d12 d13 d14 d15 d16 d17 d18 d19 d20 d21 d22 d23 d24 d25 d26 d27 d28 d29 d30 d31 d32 d33 d34 d35 d36 d37 d38 d39 d40 d41 d42 d43 d44 d45 d46 d47 d48 d49 : IV) (s0 : GA) (s5 : Int) (G : GH) (k : Ex → List IV → List (List IV) → GH → Option R) :
  codeC Try.prog O [] fuel (nav (Try.f24.body.getD .skip) [1, 1, 0, 0, 0, 0]) [.ptr (some s0), .func 28 [], d2, d3, d4, .int .i64 s5, d6, d7, d8, d9, d10, d11, d12, d13, d14, d15, d16, d17, d18, d19, d20, d21, d22, d23, d24, d25, d26, d27, d28, d29, d30, d31, d32, d33, d34, d35, d36, d37, d38, d39, d40, d41, d42, d43, d44, d45, d46, d47, d48, d49] [] G k =
  (ldInt G .i64 (GA.add s0 1)).bind fun x1 =>
  (ldStr G (GA.add s0 0)).bind fun x2 =>
  bif (decide (x1 < (x2.length : Int))) then
  (ldStr G (GA.add s0 0)).bind fun x3 =>
  (ldInt G .i64 (GA.add s0 1)).bind fun x4 =>
  bif decide (0 ≤ x4 ∧ x4 < (x3.length : Int)) then
  O 28 [.int .u8 ((x3.getD (Int.toNat x4) 0).toNat : Int)] (gfreeze G) fun v5 _ =>
  (ivBool v5).bind fun x6 =>
  bif x6 then
  k .normal [.ptr (some s0), .func 28 [], d2, d3, d4, .int .i64 s5, d6, d7, d8, d9, .ptr (some s0), .ptr (some s0), .ptr (some (GA.add s0 1)), .int .i64 x1, .ptr (some s0), .ptr (some s0), .ptr (some (GA.add s0 0)), .str x2, .int .i64 (x2.length : Int), .bool (decide (x1 < (x2.length : Int))), .bool true, .func 28 [], .ptr (some s0), .ptr (some s0), .ptr (some (GA.add s0 0)), .str x3, .ptr (some s0), .ptr (some s0), .ptr (some (GA.add s0 1)), .int .i64 x4, .int .u8 ((x3.getD (Int.toNat x4) 0).toNat : Int), .bool x6, .bool x6, d33, d34, d35, d36, d37, d38, d39, d40, d41, d42, d43, d44, d45, d46, d47, d48, d49] [] G
  else
  k (.exit 0) [.ptr (some s0), .func 28 [], d2, d3, d4, .int .i64 s5, d6, d7, d8, d9, .ptr (some s0), .ptr (some s0), .ptr (some (GA.add s0 1)), .int .i64 x1, .ptr (some s0), .ptr (some s0), .ptr (some (GA.add s0 0)), .str x2, .int .i64 (x2.length : Int), .bool (decide (x1 < (x2.length : Int))), .bool true, .func 28 [], .ptr (some s0), .ptr (some s0), .ptr (some (GA.add s0 0)), .str x3, .ptr (some s0), .ptr (some s0), .ptr (some (GA.add s0 1)), .int .i64 x4, .int .u8 ((x3.getD (Int.toNat x4) 0).toNat : Int), .bool x6, .bool x6, d33, d34, d35, d36, d37, d38, d39, d40, d41, d42, d43, d44, d45, d46, d47, d48, d49] [] G
  else none
  else
  k (.exit 0) [.ptr (some s0), .func 28 [], d2, d3, d4, .int .i64 s5, d6, d7, d8, d9, .ptr (some s0), .ptr (some s0), .ptr (some (GA.add s0 1)), .int .i64 x1, .ptr (some s0), .ptr (some s0), .ptr (some (GA.add s0 0)), .str x2, .int .i64 (x2.length : Int), .bool (decide (x1 < (x2.length : Int))), .bool false, .tuple [], .tuple [], .tuple [], .tuple [], .tuple [], .tuple [], .tuple [], .tuple [], .tuple [], .tuple [], .tuple [], .bool false, d33, d34, d35, d36, d37, d38, d39, d40, d41, d42, d43, d44, d45, d46, d47, d48, d49] [] G := by kernel_rfl

theorem c24c_1_afterN {R : Type} (O : Ora R) (fuel : Nat) (d2 d3 d4 d6 d7 d8 d9 d10 d11 d12 d13 d14 d15 d16 d17 d18 d19 d20 d21 d22 d23 d24 d25 d26 d27 d28 d29 d30 d31 d32 d33 d34 d35 d36 d37 d38 d39 d40 d41 d42 d43 d44 d45 d46 d47 d48 d49 : IV) (s0 : GA) (s5 : Int) (G : GH) (k : Ex → List IV → List (List IV) → GH → Option R) :
  contC Try.prog O [] fuel (nav (Try.f24.body.getD .skip) [1, 1, 0, 0, 0]) [0] k .normal [.ptr (some s0), .func 28 [], d2, d3, d4, .int .i64 s5, d6, d7, d8, d9, d10, d11, d12, d13, d14, d15, d16, d17, d18, d19, d20, d21, d22, d23, d24, d25, d26, d27, d28, d29, d30, d31, d32, d33, d34, d35, d36, d37, d38, d39, d40, d41, d42, d43, d44, d45, d46, d47, d48, d49] [] G =
  (ldInt G .i64 (GA.add s0 1)).bind fun x1 =>
  (gst G (GA.add s0 1) [.int .i64 (IntKind.wrap .i64 (x1 + (1 : Int)))]).bind fun G2 =>
  k .normal [.ptr (some s0), .func 28 [], d2, d3, d4, .int .i64 s5, d6, d7, d8, d9, d10, d11, d12, d13, d14, d15, d16, d17, d18, d19, d20, d21, d22, d23, d24, d25, d26, d27, d28, d29, d30, d31, d32, .ptr (some s0), .ptr (some s0), .ptr (some (GA.add s0 1)), .int .i64 x1, .int .i64 (IntKind.wrap .i64 (x1 + (1 : Int))), .ptr (some s0), .ptr (some (GA.add s0 1)), d40, d41, d42, d43, d44, d45, d46, d47, d48, d49] [] G2 := by kernel_rfl

theorem c24c_1_after0 {R : Type} (O : Ora R) (fuel : Nat) (d1 d2 d3 d4 d6 d7 d8 d9 d10 d11 d12 d13 d14 d15 d16 d17 d18 d19 d20 d21 d22 d23 d24 d25 d26 d27 d28 d29 d30 d31 d32 d33 d34 d35 d36 d37 d38 d39 d40 d41 d42 d43 d44 d45 d46 d47 d48 d49 : IV) (s0 : GA) (s5 : Int) (G : GH) (k : Ex → List IV → List (List IV) → GH → Option R) :
  contC Try.prog O [] fuel (nav (Try.f24.body.getD .skip) [1, 1, 0, 0, 0]) [0] k (.exit 0) [.ptr (some s0), d1, d2, d3, d4, .int .i64 s5, d6, d7, d8, d9, d10, d11, d12, d13, d14, d15, d16, d17, d18, d19, d20, d21, d22, d23, d24, d25, d26, d27, d28, d29, d30, d31, d32, d33, d34, d35, d36, d37, d38, d39, d40, d41, d42, d43, d44, d45, d46, d47, d48, d49] [] G =
  k (.exit 0) [.ptr (some s0), d1, d2, d3, d4, .int .i64 s5, d6, d7, d8, d9, d10, d11, d12, d13, d14, d15, d16, d17, d18, d19, d20, d21, d22, d23, d24, d25, d26, d27, d28, d29, d30, d31, d32, d33, d34, d35, d36, d37, d38, d39, d40, d41, d42, d43, d44, d45, d46, d47, d48, d49] [] G := by kernel_rfl

theorem c24c_1_eq {R : Type} (O : Ora R) (fuel : Nat) (k : Ex → List IV → List (List IV) → GH → Option R) (HN : GA → Int → GH → Option R) (hN : ∀ (d2 d3 d4 d6 d7 d8 d9 d10 d11 d12 d13 d14 d15 d16 d17 d18 d19 d20 d21 d22 d23 d24 d25 d26 d27 d28 d29 d30 d31 d32 d33 d34 d35 d36 d37 d38 d39 d40 d41 d42 d43 d44 d45 d46 d47 d48 d49 : IV) (s0 : GA) (s5 : Int) (G : GH), k .normal [.ptr (some s0), .func 28 [], d2, d3, d4, .int .i64 s5, d6, d7, d8, d9, d10, d11, d12, d13, d14, d15, d16, d17, d18, d19, d20, d21, d22, d23, d24, d25, d26, d27, d28, d29, d30, d31, d32, d33, d34, d35, d36, d37, d38, d39, d40, d41, d42, d43, d44, d45, d46, d47, d48, d49] [] G = HN s0 s5 G) (H0 : GA → Int → GH → Option R) (h0 : ∀ (d1 d2 d3 d4 d6 d7 d8 d9 d10 d11 d12 d13 d14 d15 d16 d17 d18 d19 d20 d21 d22 d23 d24 d25 d26 d27 d28 d29 d30 d31 d32 d33 d34 d35 d36 d37 d38 d39 d40 d41 d42 d43 d44 d45 d46 d47 d48 d49 : IV) (s0 : GA) (s5 : Int) (G : GH), k (.exit 0) [.ptr (some s0), d1, d2, d3, d4, .int .i64 s5, d6, d7, d8, d9, d10, d11, d12, d13, d14, d15, d16, d17, d18, d19, d20, d21, d22, d23, d24, d25, d26, d27, d28, d29, d30, d31, d32, d33, d34, d35, d36, d37, d38, d39, d40, d41, d42, d43, d44, d45, d46, d47, d48, d49] [] G = H0 s0 s5 G) : ∀ (d2 d3 d4 d6 d7 d8 d9 d10 d11 d12 d13 d14 d15 d16 d17 d18 d19 d20 d21 d22 d23 d24 d25 d26 d27 d28 d29 d30 d31 d32 d33 d34 d35 d36 d37 d38 d39 d40 d41 d42 d43 d44 d45 d46 d47 d48 d49 : IV) (s0 : GA) (s5 : Int) (G : GH),
  codeC Try.prog O [] fuel (nav (Try.f24.body.getD .skip) [1, 1, 0, 0, 0, 0]) [.ptr (some s0), .func 28 [], d2, d3, d4, .int .i64 s5, d6, d7, d8, d9, d10, d11, d12, d13, d14, d15, d16, d17, d18, d19, d20, d21, d22, d23, d24, d25, d26, d27, d28, d29, d30, d31, d32, d33, d34, d35, d36, d37, d38, d39, d40, d41, d42, d43, d44, d45, d46, d47, d48, d49] [] G (contC Try.prog O [] fuel (nav (Try.f24.body.getD .skip) [1, 1, 0, 0, 0]) [0] k) =
  c24c_1 O (fun (s0 : GA) (s5 : Int) G => (ldInt G .i64 (GA.add s0 1)).bind fun x1 =>
(gst G (GA.add s0 1) [.int .i64 (IntKind.wrap .i64 (x1 + (1 : Int)))]).bind fun G2 =>
  HN s0 s5 G2) (fun (s0 : GA) (s5 : Int) G => H0 s0 s5 G)  s0 s5 G := by
    intros
    rw [c24c_1_body]
    simp only [c24c_1, c24c_1_afterN, c24c_1_after0, hN, h0]

def l24c_0 {R : Type} (O : Ora R) (K0 : GA → Int → GH → Option R) (fuel : Nat) : Nat → GA → Int → GH → Option R
  | 0, _, _, _ => none
  | n + 1, s0, s5, G =>
  stepN fuel (c24c_1 O (fun (s0 : GA) (s5 : Int) G => (ldInt G .i64 (GA.add s0 1)).bind fun x1 =>
  (gst G (GA.add s0 1) [.int .i64 (IntKind.wrap .i64 (x1 + (1 : Int)))]).bind fun G2 =>
  l24c_0 O K0 fuel n s0 s5 G2) (fun (s0 : GA) (s5 : Int) G => K0 s0 s5 G) s0 s5 G)

theorem l24c_0_body {R : Type} (O : Ora R) (fuel : Nat) (d2 d3 d4 d6 d7 d8 d9 d10 d11 d12 d13 d14 d15 d16 d17 d18 d19 d20 d21 d22 d23 d24 d25 d26 d27 d28 d29 d30 d31 d32 d33 d34 d35 d36 d37 d38 d39 d40 d41 d42 d43 d44 d45 d46 d47 d48 d49 : IV) (s0 : GA) (s5 : Int) (G : GH) (k : Ex → List IV → List (List IV) → GH → Option R) :
  codeC Try.prog O [] fuel (nav (Try.f24.body.getD .skip) [1, 1, 0, 0, 0]) [.ptr (some s0), .func 28 [], d2, d3, d4, .int .i64 s5, d6, d7, d8, d9, d10, d11, d12, d13, d14, d15, d16, d17, d18, d19, d20, d21, d22, d23, d24, d25, d26, d27, d28, d29, d30, d31, d32, d33, d34, d35, d36, d37, d38, d39, d40, d41, d42, d43, d44, d45, d46, d47, d48, d49] [] G k =
  stepN fuel (codeC Try.prog O [] fuel (nav (Try.f24.body.getD .skip) [1, 1, 0, 0, 0, 0]) [.ptr (some s0), .func 28 [], d2, d3, d4, .int .i64 s5, d6, d7, d8, d9, d10, d11, d12, d13, d14, d15, d16, d17, d18, d19, d20, d21, d22, d23, d24, d25, d26, d27, d28, d29, d30, d31, d32, d33, d34, d35, d36, d37, d38, d39, d40, d41, d42, d43, d44, d45, d46, d47, d48, d49] [] G (contC Try.prog O [] fuel (nav (Try.f24.body.getD .skip) [1, 1, 0, 0, 0]) [0] k)) := by kernel_rfl

theorem l24c_0_after0 {R : Type} (O : Ora R) (fuel : Nat) (d1 d2 d3 d4 d6 d7 d8 d9 d10 d11 d12 d13 d14 d15 d16 d17 d18 d19 d20 d21 d22 d23 d24 d25 d26 d27 d28 d29 d30 d31 d32 d33 d34 d35 d36 d37 d38 d39 d40 d41 d42 d43 d44 d45 d46 d47 d48 d49 : IV) (s0 : GA) (s5 : Int) (G : GH) (k : IV → GH → Option R) :
  contC Try.prog O [] fuel (Try.f24.body.getD .skip) [1, 1, 0, 0] (fun e env F G => match e with | .exit _ => none | _ => resC Try.prog Try.f24 env F G k) (.exit 0) [.ptr (some s0), d1, d2, d3, d4, .int .i64 s5, d6, d7, d8, d9, d10, d11, d12, d13, d14, d15, d16, d17, d18, d19, d20, d21, d22, d23, d24, d25, d26, d27, d28, d29, d30, d31, d32, d33, d34, d35, d36, d37, d38, d39, d40, d41, d42, d43, d44, d45, d46, d47, d48, d49] [] G =
  (ldStr G (GA.add s0 0)).bind fun x1 =>
  (ldInt G .i64 (GA.add s0 1)).bind fun x2 =>
  bif decide (0 ≤ s5 ∧ s5 ≤ x2 ∧ x2 ≤ (x1.length : Int)) then
  k (.str ((x1.drop (Int.toNat s5)).take (Int.toNat x2 - Int.toNat s5))) G
  else none := by kernel_rfl

theorem l24c_0_eq {R : Type} (O : Ora R) (fuel : Nat) (k : IV → GH → Option R) : ∀ (n : Nat) (d2 d3 d4 d6 d7 d8 d9 d10 d11 d12 d13 d14 d15 d16 d17 d18 d19 d20 d21 d22 d23 d24 d25 d26 d27 d28 d29 d30 d31 d32 d33 d34 d35 d36 d37 d38 d39 d40 d41 d42 d43 d44 d45 d46 d47 d48 d49 : IV) (s0 : GA) (s5 : Int) (G : GH),
  loopN (fun env F G k => codeC Try.prog O [] fuel (nav (Try.f24.body.getD .skip) [1, 1, 0, 0, 0]) env F G k) n [.ptr (some s0), .func 28 [], d2, d3, d4, .int .i64 s5, d6, d7, d8, d9, d10, d11, d12, d13, d14, d15, d16, d17, d18, d19, d20, d21, d22, d23, d24, d25, d26, d27, d28, d29, d30, d31, d32, d33, d34, d35, d36, d37, d38, d39, d40, d41, d42, d43, d44, d45, d46, d47, d48, d49] [] G (contC Try.prog O [] fuel (Try.f24.body.getD .skip) [1, 1, 0, 0] (fun e env F G => match e with | .exit _ => none | _ => resC Try.prog Try.f24 env F G k)) =
  l24c_0 O (fun (s0 : GA) (s5 : Int) G => (ldStr G (GA.add s0 0)).bind fun x1 =>
(ldInt G .i64 (GA.add s0 1)).bind fun x2 =>
  bif decide (0 ≤ s5 ∧ s5 ≤ x2 ∧ x2 ≤ (x1.length : Int)) then
  k (.str ((x1.drop (Int.toNat s5)).take (Int.toNat x2 - Int.toNat s5))) G
else none) fuel n s0 s5 G := by
  intro n
  induction n with
  | zero => intros; rfl
  | succ n ih =>
    intros
    have hin0 := c24c_1_eq (R := R) O fuel (loopK (fun env F G k => codeC Try.prog O [] fuel (nav (Try.f24.body.getD .skip) [1, 1, 0, 0, 0]) env F G k) n (contC Try.prog O [] fuel (Try.f24.body.getD .skip) [1, 1, 0, 0] (fun e env F G => match e with | .exit _ => none | _ => resC Try.prog Try.f24 env F G k))) (fun (s0 : GA) (s5 : Int) G => l24c_0 O (fun (s0 : GA) (s5 : Int) G => (ldStr G (GA.add s0 0)).bind fun x1 =>
(ldInt G .i64 (GA.add s0 1)).bind fun x2 =>
  bif decide (0 ≤ s5 ∧ s5 ≤ x2 ∧ x2 ≤ (x1.length : Int)) then
  k (.str ((x1.drop (Int.toNat s5)).take (Int.toNat x2 - Int.toNat s5))) G
else none) fuel n s0 s5 G) (by intros; simp only [loopK_normal, loopK_exit, loopK_ret, ih, l24c_0_after0]) (fun (s0 : GA) (s5 : Int) G => (ldStr G (GA.add s0 0)).bind fun x3 =>
(ldInt G .i64 (GA.add s0 1)).bind fun x4 =>
  bif decide (0 ≤ s5 ∧ s5 ≤ x4 ∧ x4 ≤ (x3.length : Int)) then
  k (.str ((x3.drop (Int.toNat s5)).take (Int.toNat x4 - Int.toNat s5))) G
else none) (by intros; simp only [loopK_normal, loopK_exit, loopK_ret, ih, l24c_0_after0])
    rw [loopN_succ, l24c_0_body]
    simp only [l24c_0, loopK_normal, loopK_exit, loopK_ret, ih, l24c_0_after0, hin0]

theorem e24c_raw {R : Type} (O : Ora R) (fuel : Nat) (p0 : GA) (G : GH) (k : IV → GH → Option R) :
  bodyC Try.prog O [] fuel Try.f24 [.ptr (some p0), .func 28 []] G k =
  (ldInt G .i64 (GA.add p0 1)).bind fun x1 =>
  loopN (fun env F G k => codeC Try.prog O [] fuel (nav (Try.f24.body.getD .skip) [1, 1, 0, 0, 0]) env F G k) fuel [.ptr (some p0), .func 28 [], .tuple [], .tuple [], .str ([] : List UInt8), .int .i64 x1, .ptr (some p0), .ptr (some p0), .ptr (some (GA.add p0 1)), .int .i64 x1, .tuple [], .tuple [], .tuple [], .tuple [], .tuple [], .tuple [], .tuple [], .tuple [], .tuple [], .tuple [], .tuple [], .tuple [], .tuple [], .tuple [], .tuple [], .tuple [], .tuple [], .tuple [], .tuple [], .tuple [], .tuple [], .tuple [], .tuple [], .tuple [], .tuple [], .tuple [], .tuple [], .tuple [], .tuple [], .tuple [], .tuple [], .tuple [], .tuple [], .tuple [], .tuple [], .tuple [], .tuple [], .tuple [], .tuple [], .tuple []] [] G (contC Try.prog O [] fuel (Try.f24.body.getD .skip) [1, 1, 0, 0] (fun e env F G => match e with | .exit _ => none | _ => resC Try.prog Try.f24 env F G k)) := by kernel_rfl

theorem e24c {R : Type} (O : Ora R) (fuel : Nat) (p0 : GA) (G : GH) (k : IV → GH → Option R) :
  bodyC Try.prog O [] fuel Try.f24 [.ptr (some p0), .func 28 []] G k =
  (ldInt G .i64 (GA.add p0 1)).bind fun x1 =>
  l24c_0 O (fun (s0 : GA) (s5 : Int) G => (ldStr G (GA.add s0 0)).bind fun x2 =>
  (ldInt G .i64 (GA.add s0 1)).bind fun x3 =>
  bif decide (0 ≤ s5 ∧ s5 ≤ x3 ∧ x3 ≤ (x2.length : Int)) then
  k (.str ((x2.drop (Int.toNat s5)).take (Int.toNat x3 - Int.toNat s5))) G
  else none) fuel fuel p0 x1 G := by
  rw [e24c_raw]; simp only [l24c_0_eq O fuel k]

theorem r24c {R : Type} (fuel n : Nat) (p0 : GA) (G : GH) (k : IV → GH → Option R) :
  runL Try.prog lexLib lo0 fuel (n + 1) 24 [.ptr (some p0), .func 28 []] G k = bodyC Try.prog (runL Try.prog lexLib lo0 fuel n) [] fuel Try.f24 [.ptr (some p0), .func 28 []] G k := runL_body Try.func24 rfl rfl rfl

/-! ### (*lantern/lex.Reader).Next -/
def c15_1 {R : Type} (O : Ora R) (KN : GA → List UInt8 → Bool → Int → List UInt8 → Nat → Int → GH → Option R) (s0 : GA) (s6 : List UInt8) (b0_0 : Int) (b0_1 : List UInt8) (b0_2 : Nat) (b0_3 : Int) (G : GH) : Option R :=
  (ldInt G .i64 (GA.add s0 1)).bind fun x1 =>
  (ldStr G (GA.add s0 0)).bind fun x2 =>
  bif (x1 == (x2.length : Int)) then
  KN s0 s6 true b0_0 b0_1 b0_2 b0_3 G
  else
  (ldStr G (GA.add s0 0)).bind fun x3 =>
  (ldInt G .i64 (GA.add s0 1)).bind fun x4 =>
  bif decide (0 ≤ x4 ∧ x4 < (x3.length : Int)) then
  KN s0 s6 (((x3.getD (Int.toNat x4) 0).toNat : Int) != (34 : Int)) b0_0 b0_1 b0_2 b0_3 G
  else none

theorem c15_1_body {R : Type} (O : Ora R) (fuel : Nat) (d1 d3 d4 d5 d7 d8 d9 d10 d11 d12 d13 d14 d15 d16 d17 d18 d19 d20 d21 d22 d23 d24 d25 d26 d27 d28 d29 d30 d31 d32 d33 d34 d35 d36 d37 d38 d39 d40 d41 d42 d43 d44 d45 d46 d47 d48 d49 d50 d51 d52 d53 d54 d55 d56 d57 d58 d59 d60 d61 d62 d63 d64 d65 d66 d67 d68 d69 d70 d71 d72 d73 d74 d75 d76 d77 d78 d79 d80 d81 d82 d83 d84 d85 d86 d87 d88 d89 d90 d91 d92 d93 d94 d95 d96 d97 d98 d99 d100 d101 d102 d103 d104 d105 d106 d107 d108 d109 d110 d111 d112 d113 d114 d115 d116 d117 d118 d119 d120 d121 d122 d123 d124 d125 d126 d127 d128 d129 d130 d131 d132 d133 d134 d135 d136 d137 d138 : IV) (s0 : GA) (s6 : List UInt8) (b0_0 : Int) (b0_1 : List UInt8) (b0_2 : Nat) (b0_3 : Int) (G : GH) (k : Ex → List IV → List (List IV) → GH → Option R) :
  codeC Try.prog O [2] fuel (nav (Try.f15.body.getD .skip) [1, 1, 1, 1, 1, 1, 1, 0, 0, 1, 1, 1, 1, 1, 0, 1, 1, 0, 0]) [.ptr (some s0), d1, .loc 0 0, d3, d4, d5, .str s6, d7, d8, d9, d10, d11, d12, d13, d14, d15, d16, d17, d18, d19, d20, d21, d22, d23, d24, d25, d26, d27, d28, d29, d30, d31, d32, d33, d34, d35, d36, d37, d38, d39, d40, d41, d42, d43, d44, d45, d46, d47, d48, d49, d50, d51, d52, d53, d54, d55, d56, d57, d58, d59, d60, d61, d62, d63, d64, d65, d66, d67, d68, d69, d70, d71, d72, d73, d74, d75, d76, d77, d78, d79, d80, d81, d82, d83, d84, d85, d86, d87, d88, d89, d90, d91, d92, d93, d94, d95, d96, d97, d98, d99, d100, d101, d102, d103, d104, d105, d106, d107, d108, d109, d110, d111, d112, d113, d114, d115, d116, d117, d118, d119, d120, d121, d122, d123, d124, d125, d126, d127, d128, d129, d130, d131, d132, d133, d134, d135, d136, d137, d138] [[.int .i64 b0_0, .str b0_1, .float .f64 b0_2, .int .i64 b0_3]] G k =
  (ldInt G .i64 (GA.add s0 1)).bind fun x1 =>
  (ldStr G (GA.add s0 0)).bind fun x2 =>
  bif (x1 == (x2.length : Int)) then
  k .normal [.ptr (some s0), d1, .loc 0 0, d3, d4, d5, .str s6, d7, d8, d9, d10, d11, d12, d13, d14, d15, d16, d17, d18, d19, d20, d21, d22, d23, d24, d25, d26, d27, d28, d29, d30, d31, d32, d33, d34, d35, d36, d37, d38, d39, d40, d41, d42, d43, d44, d45, d46, d47, d48, d49, d50, d51, d52, d53, d54, d55, d56, d57, d58, d59, d60, d61, d62, d63, d64, d65, d66, d67, d68, d69, d70, d71, d72, d73, d74, d75, d76, d77, d78, d79, d80, d81, d82, d83, d84, d85, d86, d87, d88, d89, d90, d91, d92, d93, d94, d95, .ptr (some s0), .ptr (some s0), .ptr (some (GA.add s0 1)), .int .i64 x1, .ptr (some s0), .ptr (some s0), .ptr (some (GA.add s0 0)), .str x2, .int .i64 (x2.length : Int), .bool (x1 == (x2.length : Int)), .bool true, .tuple [], .tuple [], .tuple [], .tuple [], .tuple [], .tuple [], .tuple [], .tuple [], .tuple [], .tuple [], .bool true, d118, d119, d120, d121, d122, d123, d124, d125, d126, d127, d128, d129, d130, d131, d132, d133, d134, d135, d136, d137, d138] [[.int .i64 b0_0, .str b0_1, .float .f64 b0_2, .int .i64 b0_3]] G
  else
  (ldStr G (GA.add s0 0)).bind fun x3 =>
  (ldInt G .i64 (GA.add s0 1)).bind fun x4 =>
  bif decide (0 ≤ x4 ∧ x4 < (x3.length : Int)) then
  k .normal [.ptr (some s0), d1, .loc 0 0, d3, d4, d5, .str s6, d7, d8, d9, d10, d11, d12, d13, d14, d15, d16, d17, d18, d19, d20, d21, d22, d23, d24, d25, d26, d27, d28, d29, d30, d31, d32, d33, d34, d35, d36, d37, d38, d39, d40, d41, d42, d43, d44, d45, d46, d47, d48, d49, d50, d51, d52, d53, d54, d55, d56, d57, d58, d59, d60, d61, d62, d63, d64, d65, d66, d67, d68, d69, d70, d71, d72, d73, d74, d75, d76, d77, d78, d79, d80, d81, d82, d83, d84, d85, d86, d87, d88, d89, d90, d91, d92, d93, d94, d95, .ptr (some s0), .ptr (some s0), .ptr (some (GA.add s0 1)), .int .i64 x1, .ptr (some s0), .ptr (some s0), .ptr (some (GA.add s0 0)), .str x2, .int .i64 (x2.length : Int), .bool (x1 == (x2.length : Int)), .bool false, .ptr (some s0), .ptr (some s0), .ptr (some (GA.add s0 0)), .str x3, .ptr (some s0), .ptr (some s0), .ptr (some (GA.add s0 1)), .int .i64 x4, .int .u8 ((x3.getD (Int.toNat x4) 0).toNat : Int), .bool (((x3.getD (Int.toNat x4) 0).toNat : Int) != (34 : Int)), .bool (((x3.getD (Int.toNat x4) 0).toNat : Int) != (34 : Int)), d118, d119, d120, d121, d122, d123, d124, d125, d126, d127, d128, d129, d130, d131, d132, d133, d134, d135, d136, d137, d138] [[.int .i64 b0_0, .str b0_1, .float .f64 b0_2, .int .i64 b0_3]] G
  else none := by kernel_rfl

theorem c15_1_afterN {R : Type} (O : Ora R) (fuel : Nat) (d1 d3 d4 d5 d7 d8 d9 d10 d11 d12 d13 d14 d15 d16 d17 d18 d19 d20 d21 d22 d23 d24 d25 d26 d27 d28 d29 d30 d31 d32 d33 d34 d35 d36 d37 d38 d39 d40 d41 d42 d43 d44 d45 d46 d47 d48 d49 d50 d51 d52 d53 d54 d55 d56 d57 d58 d59 d60 d61 d62 d63 d64 d65 d66 d67 d68 d69 d70 d71 d72 d73 d74 d75 d76 d77 d78 d79 d80 d81 d82 d83 d84 d85 d86 d87 d88 d89 d90 d91 d92 d93 d94 d95 d96 d97 d98 d99 d100 d101 d102 d103 d104 d105 d106 d107 d108 d109 d110 d111 d112 d113 d114 d115 d116 d118 d119 d120 d121 d122 d123 d124 d125 d126 d127 d128 d129 d130 d131 d132 d133 d134 d135 d136 d137 d138 : IV) (s0 : GA) (s6 : List UInt8) (s117 : Bool) (b0_0 : Int) (b0_1 : List UInt8) (b0_2 : Nat) (b0_3 : Int) (G : GH) (k : IV → GH → Option R) :
  contC Try.prog O [2] fuel (Try.f15.body.getD .skip) [1, 1, 1, 1, 1, 1, 1, 0, 0, 1, 1, 1, 1, 1, 0, 1, 1, 0, 0] (fun e env F G => match e with | .exit _ => none | _ => resC Try.prog Try.f15 env F G k) .normal [.ptr (some s0), d1, .loc 0 0, d3, d4, d5, .str s6, d7, d8, d9, d10, d11, d12, d13, d14, d15, d16, d17, d18, d19, d20, d21, d22, d23, d24, d25, d26, d27, d28, d29, d30, d31, d32, d33, d34, d35, d36, d37, d38, d39, d40, d41, d42, d43, d44, d45, d46, d47, d48, d49, d50, d51, d52, d53, d54, d55, d56, d57, d58, d59, d60, d61, d62, d63, d64, d65, d66, d67, d68, d69, d70, d71, d72, d73, d74, d75, d76, d77, d78, d79, d80, d81, d82, d83, d84, d85, d86, d87, d88, d89, d90, d91, d92, d93, d94, d95, d96, d97, d98, d99, d100, d101, d102, d103, d104, d105, d106, d107, d108, d109, d110, d111, d112, d113, d114, d115, d116, .bool s117, d118, d119, d120, d121, d122, d123, d124, d125, d126, d127, d128, d129, d130, d131, d132, d133, d134, d135, d136, d137, d138] [[.int .i64 b0_0, .str b0_1, .float .f64 b0_2, .int .i64 b0_3]] G =
  bif s117 then
  O 22 [.ptr (some s0), .int .i64 (161 : Int)] G fun v1 G2 =>
  (ivTup 2 v1).bind fun c3 =>
  (ivAgg 4 (c3.getD 0 undefI)).bind fun c4 =>
  (ivInt .i64 (c4.getD 0 undefI)).bind fun x5 =>
  (ivStr (c4.getD 1 undefI)).bind fun x6 =>
  (ivFloat .f64 (c4.getD 2 undefI)).bind fun x7 =>
  (ivInt .i64 (c4.getD 3 undefI)).bind fun x8 =>
  (ivInt .i64 (c3.getD 1 undefI)).bind fun x9 =>
  k (.tuple [.agg [.int .i64 x5, .str x6, .float .f64 x7, .int .i64 x8], .int .i64 x9]) G2
  else
  (ldInt G .i64 (GA.add s0 1)).bind fun x10 =>
  (gst G (GA.add s0 1) [.int .i64 (IntKind.wrap .i64 (x10 + (1 : Int)))]).bind fun G11 =>
  (ldInt G11 .i64 (GA.add s0 2)).bind fun x12 =>
  k (.tuple [.agg [.int .i64 (3 : Int), .str s6, .float .f64 (0 : Nat), .int .i64 x12], .int .i64 (0 : Int)]) G11 := by kernel_rfl

theorem c15_1_eq {R : Type} (O : Ora R) (fuel : Nat) (k : IV → GH → Option R) : ∀ (d1 d3 d4 d5 d7 d8 d9 d10 d11 d12 d13 d14 d15 d16 d17 d18 d19 d20 d21 d22 d23 d24 d25 d26 d27 d28 d29 d30 d31 d32 d33 d34 d35 d36 d37 d38 d39 d40 d41 d42 d43 d44 d45 d46 d47 d48 d49 d50 d51 d52 d53 d54 d55 d56 d57 d58 d59 d60 d61 d62 d63 d64 d65 d66 d67 d68 d69 d70 d71 d72 d73 d74 d75 d76 d77 d78 d79 d80 d81 d82 d83 d84 d85 d86 d87 d88 d89 d90 d91 d92 d93 d94 d95 d96 d97 d98 d99 d100 d101 d102 d103 d104 d105 d106 d107 d108 d109 d110 d111 d112 d113 d114 d115 d116 d117 d118 d119 d120 d121 d122 d123 d124 d125 d126 d127 d128 d129 d130 d131 d132 d133 d134 d135 d136 d137 d138 : IV) (s0 : GA) (s6 : List UInt8) (b0_0 : Int) (b0_1 : List UInt8) (b0_2 : Nat) (b0_3 : Int) (G : GH),
  codeC Try.prog O [2] fuel (nav (Try.f15.body.getD .skip) [1, 1, 1, 1, 1, 1, 1, 0, 0, 1, 1, 1, 1, 1, 0, 1, 1, 0, 0]) [.ptr (some s0), d1, .loc 0 0, d3, d4, d5, .str s6, d7, d8, d9, d10, d11, d12, d13, d14, d15, d16, d17, d18, d19, d20, d21, d22, d23, d24, d25, d26, d27, d28, d29, d30, d31, d32, d33, d34, d35, d36, d37, d38, d39, d40, d41, d42, d43, d44, d45, d46, d47, d48, d49, d50, d51, d52, d53, d54, d55, d56, d57, d58, d59, d60, d61, d62, d63, d64, d65, d66, d67, d68, d69, d70, d71, d72, d73, d74, d75, d76, d77, d78, d79, d80, d81, d82, d83, d84, d85, d86, d87, d88, d89, d90, d91, d92, d93, d94, d95, d96, d97, d98, d99, d100, d101, d102, d103, d104, d105, d106, d107, d108, d109, d110, d111, d112, d113, d114, d115, d116, d117, d118, d119, d120, d121, d122, d123, d124, d125, d126, d127, d128, d129, d130, d131, d132, d133, d134, d135, d136, d137, d138] [[.int .i64 b0_0, .str b0_1, .float .f64 b0_2, .int .i64 b0_3]] G (contC Try.prog O [2] fuel (Try.f15.body.getD .skip) [1, 1, 1, 1, 1, 1, 1, 0, 0, 1, 1, 1, 1, 1, 0, 1, 1, 0, 0] (fun e env F G => match e with | .exit _ => none | _ => resC Try.prog Try.f15 env F G k)) =
  c15_1 O (fun (s0 : GA) (s6 : List UInt8) (s117 : Bool) (b0_0 : Int) (b0_1 : List UInt8) (b0_2 : Nat) (b0_3 : Int) G => bif s117 then
  O 22 [.ptr (some s0), .int .i64 (161 : Int)] G fun v1 G2 =>
(ivTup 2 v1).bind fun c3 =>
(ivAgg 4 (c3.getD 0 undefI)).bind fun c4 =>
(ivInt .i64 (c4.getD 0 undefI)).bind fun x5 =>
(ivStr (c4.getD 1 undefI)).bind fun x6 =>
(ivFloat .f64 (c4.getD 2 undefI)).bind fun x7 =>
(ivInt .i64 (c4.getD 3 undefI)).bind fun x8 =>
(ivInt .i64 (c3.getD 1 undefI)).bind fun x9 =>
  k (.tuple [.agg [.int .i64 x5, .str x6, .float .f64 x7, .int .i64 x8], .int .i64 x9]) G2
else
(ldInt G .i64 (GA.add s0 1)).bind fun x10 =>
(gst G (GA.add s0 1) [.int .i64 (IntKind.wrap .i64 (x10 + (1 : Int)))]).bind fun G11 =>
(ldInt G11 .i64 (GA.add s0 2)).bind fun x12 =>
  k (.tuple [.agg [.int .i64 (3 : Int), .str s6, .float .f64 (0 : Nat), .int .i64 x12], .int .i64 (0 : Int)]) G11)  s0 s6 b0_0 b0_1 b0_2 b0_3 G := by
    intros
    rw [c15_1_body]
    simp only [c15_1, c15_1_afterN]

def c15_0 {R : Type} (O : Ora R) (KN : GA → Int → Bool → Int → List UInt8 → Nat → Int → GH → Option R) (s0 : GA) (s4 : Int) (b0_0 : Int) (b0_1 : List UInt8) (b0_2 : Nat) (b0_3 : Int) (G : GH) : Option R :=
  O 26 [.int .u8 s4] G fun v1 G2 =>
  (ivBool v1).bind fun x3 =>
  bif x3 then
  KN s0 s4 true b0_0 b0_1 b0_2 b0_3 G2
  else
  KN s0 s4 (s4 == (45 : Int)) b0_0 b0_1 b0_2 b0_3 G2

theorem c15_0_body {R : Type} (O : Ora R) (fuel : Nat) (d1 d3 d5 d6 d7 d8 d9 d10 d11 d12 d13 d14 d15 d16 d17 d18 d19 d20 d21 d22 d23 d24 d25 d26 d27 d28 d29 d30 d31 d32 d33 d34 d35 d36 d37 d38 d39 d40 d41 d42 d43 d44 d45 d46 d47 d48 d49 d50 d51 d52 d53 d54 d55 d56 d57 d58 d59 d60 d61 d62 d63 d64 d65 d66 d67 d68 d69 d70 d71 d72 d73 d74 d75 d76 d77 d78 d79 d80 d81 d82 d83 d84 d85 d86 d87 d88 d89 d90 d91 d92 d93 d94 d95 d96 d97 d98 d99 d100 d101 d102 d103 d104 d105 d106 d107 d108 d109 d110 d111 d112 d113 d114 d115 d116 d117 d118 d119 d120 d121 d122 d123 d124 d125 d126 d127 d128 d129 d130 d131 d132 d133 d134 d135 d136 d137 d138 : IV) (s0 : GA) (s4 : Int) (b0_0 : Int) (b0_1 : List UInt8) (b0_2 : Nat) (b0_3 : Int) (G : GH) (k : Ex → List IV → List (List IV) → GH → Option R) :
  codeC Try.prog O [2] fuel (nav (Try.f15.body.getD .skip) [1, 1, 1, 1, 1, 1, 1, 0, 0, 1, 1, 0]) [.ptr (some s0), d1, .loc 0 0, d3, .int .u8 s4, d5, d6, d7, d8, d9, d10, d11, d12, d13, d14, d15, d16, d17, d18, d19, d20, d21, d22, d23, d24, d25, d26, d27, d28, d29, d30, d31, d32, d33, d34, d35, d36, d37, d38, d39, d40, d41, d42, d43, d44, d45, d46, d47, d48, d49, d50, d51, d52, d53, d54, d55, d56, d57, d58, d59, d60, d61, d62, d63, d64, d65, d66, d67, d68, d69, d70, d71, d72, d73, d74, d75, d76, d77, d78, d79, d80, d81, d82, d83, d84, d85, d86, d87, d88, d89, d90, d91, d92, d93, d94, d95, d96, d97, d98, d99, d100, d101, d102, d103, d104, d105, d106, d107, d108, d109, d110, d111, d112, d113, d114, d115, d116, d117, d118, d119, d120, d121, d122, d123, d124, d125, d126, d127, d128, d129, d130, d131, d132, d133, d134, d135, d136, d137, d138] [[.int .i64 b0_0, .str b0_1, .float .f64 b0_2, .int .i64 b0_3]] G k =
  O 26 [.int .u8 s4] G fun v1 G2 =>
  (ivBool v1).bind fun x3 =>
  bif x3 then
  k .normal [.ptr (some s0), d1, .loc 0 0, d3, .int .u8 s4, d5, d6, d7, d8, d9, d10, d11, d12, d13, d14, d15, d16, d17, d18, d19, d20, d21, d22, d23, d24, d25, d26, d27, d28, d29, d30, d31, d32, d33, d34, d35, d36, d37, d38, d39, d40, d41, d42, d43, d44, d45, d46, d47, d48, d49, d50, d51, d52, d53, d54, d55, d56, d57, d58, d59, d60, d61, d62, d63, d64, d65, d66, d67, d68, d69, d70, d71, d72, .bool true, .int .u8 s4, .bool x3, .bool true, .tuple [], .tuple [], .bool true, d80, d81, d82, d83, d84, d85, d86, d87, d88, d89, d90, d91, d92, d93, d94, d95, d96, d97, d98, d99, d100, d101, d102, d103, d104, d105, d106, d107, d108, d109, d110, d111, d112, d113, d114, d115, d116, d117, d118, d119, d120, d121, d122, d123, d124, d125, d126, d127, d128, d129, d130, d131, d132, d133, d134, d135, d136, d137, d138] [[.int .i64 b0_0, .str b0_1, .float .f64 b0_2, .int .i64 b0_3]] G2
  else
  k .normal [.ptr (some s0), d1, .loc 0 0, d3, .int .u8 s4, d5, d6, d7, d8, d9, d10, d11, d12, d13, d14, d15, d16, d17, d18, d19, d20, d21, d22, d23, d24, d25, d26, d27, d28, d29, d30, d31, d32, d33, d34, d35, d36, d37, d38, d39, d40, d41, d42, d43, d44, d45, d46, d47, d48, d49, d50, d51, d52, d53, d54, d55, d56, d57, d58, d59, d60, d61, d62, d63, d64, d65, d66, d67, d68, d69, d70, d71, d72, .bool (s4 == (45 : Int)), .int .u8 s4, .bool x3, .bool false, .int .u8 s4, .bool (s4 == (45 : Int)), .bool (s4 == (45 : Int)), d80, d81, d82, d83, d84, d85, d86, d87, d88, d89, d90, d91, d92, d93, d94, d95, d96, d97, d98, d99, d100, d101, d102, d103, d104, d105, d106, d107, d108, d109, d110, d111, d112, d113, d114, d115, d116, d117, d118, d119, d120, d121, d122, d123, d124, d125, d126, d127, d128, d129, d130, d131, d132, d133, d134, d135, d136, d137, d138] [[.int .i64 b0_0, .str b0_1, .float .f64 b0_2, .int .i64 b0_3]] G2 := by kernel_rfl

theorem c15_0_afterN {R : Type} (O : Ora R) (fuel : Nat) (d1 d3 d5 d6 d7 d8 d9 d10 d11 d12 d13 d14 d15 d16 d17 d18 d19 d20 d21 d22 d23 d24 d25 d26 d27 d28 d29 d30 d31 d32 d33 d34 d35 d36 d37 d38 d39 d40 d41 d42 d43 d44 d45 d46 d47 d48 d49 d50 d51 d52 d53 d54 d55 d56 d57 d58 d59 d60 d61 d62 d63 d64 d65 d66 d67 d68 d69 d70 d71 d72 d74 d75 d76 d77 d78 d79 d80 d81 d82 d83 d84 d85 d86 d87 d88 d89 d90 d91 d92 d93 d94 d95 d96 d97 d98 d99 d100 d101 d102 d103 d104 d105 d106 d107 d108 d109 d110 d111 d112 d113 d114 d115 d116 d117 d118 d119 d120 d121 d122 d123 d124 d125 d126 d127 d128 d129 d130 d131 d132 d133 d134 d135 d136 d137 d138 : IV) (s0 : GA) (s4 : Int) (s73 : Bool) (b0_0 : Int) (b0_1 : List UInt8) (b0_2 : Nat) (b0_3 : Int) (G : GH) (k : IV → GH → Option R) :
  contC Try.prog O [2] fuel (Try.f15.body.getD .skip) [1, 1, 1, 1, 1, 1, 1, 0, 0, 1, 1, 0] (fun e env F G => match e with | .exit _ => none | _ => resC Try.prog Try.f15 env F G k) .normal [.ptr (some s0), d1, .loc 0 0, d3, .int .u8 s4, d5, d6, d7, d8, d9, d10, d11, d12, d13, d14, d15, d16, d17, d18, d19, d20, d21, d22, d23, d24, d25, d26, d27, d28, d29, d30, d31, d32, d33, d34, d35, d36, d37, d38, d39, d40, d41, d42, d43, d44, d45, d46, d47, d48, d49, d50, d51, d52, d53, d54, d55, d56, d57, d58, d59, d60, d61, d62, d63, d64, d65, d66, d67, d68, d69, d70, d71, d72, .bool s73, d74, d75, d76, d77, d78, d79, d80, d81, d82, d83, d84, d85, d86, d87, d88, d89, d90, d91, d92, d93, d94, d95, d96, d97, d98, d99, d100, d101, d102, d103, d104, d105, d106, d107, d108, d109, d110, d111, d112, d113, d114, d115, d116, d117, d118, d119, d120, d121, d122, d123, d124, d125, d126, d127, d128, d129, d130, d131, d132, d133, d134, d135, d136, d137, d138] [[.int .i64 b0_0, .str b0_1, .float .f64 b0_2, .int .i64 b0_3]] G =
  bif s73 then
  O 27 [.ptr (some s0)] G fun v1 G2 =>
  (ivTup 2 v1).bind fun c3 =>
  (ivAgg 4 (c3.getD 0 undefI)).bind fun c4 =>
  (ivInt .i64 (c4.getD 0 undefI)).bind fun x5 =>
  (ivStr (c4.getD 1 undefI)).bind fun x6 =>
  (ivFloat .f64 (c4.getD 2 undefI)).bind fun x7 =>
  (ivInt .i64 (c4.getD 3 undefI)).bind fun x8 =>
  (ivInt .i64 (c3.getD 1 undefI)).bind fun x9 =>
  k (.tuple [.agg [.int .i64 x5, .str x6, .float .f64 x7, .int .i64 x8], .int .i64 x9]) G2
  else
  bif (s4 == (34 : Int)) then
  (ldInt G .i64 (GA.add s0 1)).bind fun x10 =>
  (gst G (GA.add s0 1) [.int .i64 (IntKind.wrap .i64 (x10 + (1 : Int)))]).bind fun G11 =>
  O 24 [.ptr (some s0), .func 28 []] G11 fun v12 G13 =>
  (ivStr v12).bind fun x14 =>
  stepN fuel (codeC Try.prog O [2] fuel (nav (Try.f15.body.getD .skip) [1, 1, 1, 1, 1, 1, 1, 0, 0, 1, 1, 1, 1, 1, 0, 1, 1, 0, 0]) [.ptr (some s0), d1, .loc 0 0, d3, .int .u8 s4, d5, .str x14, d7, d8, d9, d10, d11, d12, d13, d14, d15, d16, d17, d18, d19, d20, d21, d22, d23, d24, d25, d26, d27, d28, d29, d30, d31, d32, d33, d34, d35, d36, d37, d38, d39, d40, d41, d42, d43, d44, d45, d46, d47, d48, d49, d50, d51, d52, d53, d54, d55, d56, d57, d58, d59, d60, d61, d62, d63, d64, d65, d66, d67, d68, d69, d70, d71, d72, .bool s73, d74, d75, d76, d77, d78, d79, d80, d81, d82, d83, .bool (s4 == (34 : Int)), .int .u8 s4, .bool (s4 == (34 : Int)), .ptr (some s0), .ptr (some s0), .ptr (some (GA.add s0 1)), .int .i64 x10, .int .i64 (IntKind.wrap .i64 (x10 + (1 : Int))), .ptr (some s0), .ptr (some (GA.add s0 1)), .ptr (some s0), .str x14, d96, d97, d98, d99, d100, d101, d102, d103, d104, d105, d106, d107, d108, d109, d110, d111, d112, d113, d114, d115, d116, d117, d118, d119, d120, d121, d122, d123, d124, d125, d126, d127, d128, d129, d130, d131, d132, d133, d134, d135, d136, d137, d138] [[.int .i64 b0_0, .str b0_1, .float .f64 b0_2, .int .i64 b0_3]] G13 (contC Try.prog O [2] fuel (Try.f15.body.getD .skip) [1, 1, 1, 1, 1, 1, 1, 0, 0, 1, 1, 1, 1, 1, 0, 1, 1, 0, 0] (fun e env F G => match e with | .exit _ => none | _ => resC Try.prog Try.f15 env F G k)))
  else
  O 22 [.ptr (some s0), .int .i64 (160 : Int)] G fun v15 G16 =>
  (ivTup 2 v15).bind fun c17 =>
  (ivAgg 4 (c17.getD 0 undefI)).bind fun c18 =>
  (ivInt .i64 (c18.getD 0 undefI)).bind fun x19 =>
  (ivStr (c18.getD 1 undefI)).bind fun x20 =>
  (ivFloat .f64 (c18.getD 2 undefI)).bind fun x21 =>
  (ivInt .i64 (c18.getD 3 undefI)).bind fun x22 =>
  (ivInt .i64 (c17.getD 1 undefI)).bind fun x23 =>
  k (.tuple [.agg [.int .i64 x19, .str x20, .float .f64 x21, .int .i64 x22], .int .i64 x23]) G16 := by kernel_rfl

theorem c15_0_eq {R : Type} (O : Ora R) (fuel : Nat) (k : IV → GH → Option R) : ∀ (d1 d3 d5 d6 d7 d8 d9 d10 d11 d12 d13 d14 d15 d16 d17 d18 d19 d20 d21 d22 d23 d24 d25 d26 d27 d28 d29 d30 d31 d32 d33 d34 d35 d36 d37 d38 d39 d40 d41 d42 d43 d44 d45 d46 d47 d48 d49 d50 d51 d52 d53 d54 d55 d56 d57 d58 d59 d60 d61 d62 d63 d64 d65 d66 d67 d68 d69 d70 d71 d72 d73 d74 d75 d76 d77 d78 d79 d80 d81 d82 d83 d84 d85 d86 d87 d88 d89 d90 d91 d92 d93 d94 d95 d96 d97 d98 d99 d100 d101 d102 d103 d104 d105 d106 d107 d108 d109 d110 d111 d112 d113 d114 d115 d116 d117 d118 d119 d120 d121 d122 d123 d124 d125 d126 d127 d128 d129 d130 d131 d132 d133 d134 d135 d136 d137 d138 : IV) (s0 : GA) (s4 : Int) (b0_0 : Int) (b0_1 : List UInt8) (b0_2 : Nat) (b0_3 : Int) (G : GH),
  codeC Try.prog O [2] fuel (nav (Try.f15.body.getD .skip) [1, 1, 1, 1, 1, 1, 1, 0, 0, 1, 1, 0]) [.ptr (some s0), d1, .loc 0 0, d3, .int .u8 s4, d5, d6, d7, d8, d9, d10, d11, d12, d13, d14, d15, d16, d17, d18, d19, d20, d21, d22, d23, d24, d25, d26, d27, d28, d29, d30, d31, d32, d33, d34, d35, d36, d37, d38, d39, d40, d41, d42, d43, d44, d45, d46, d47, d48, d49, d50, d51, d52, d53, d54, d55, d56, d57, d58, d59, d60, d61, d62, d63, d64, d65, d66, d67, d68, d69, d70, d71, d72, d73, d74, d75, d76, d77, d78, d79, d80, d81, d82, d83, d84, d85, d86, d87, d88, d89, d90, d91, d92, d93, d94, d95, d96, d97, d98, d99, d100, d101, d102, d103, d104, d105, d106, d107, d108, d109, d110, d111, d112, d113, d114, d115, d116, d117, d118, d119, d120, d121, d122, d123, d124, d125, d126, d127, d128, d129, d130, d131, d132, d133, d134, d135, d136, d137, d138] [[.int .i64 b0_0, .str b0_1, .float .f64 b0_2, .int .i64 b0_3]] G (contC Try.prog O [2] fuel (Try.f15.body.getD .skip) [1, 1, 1, 1, 1, 1, 1, 0, 0, 1, 1, 0] (fun e env F G => match e with | .exit _ => none | _ => resC Try.prog Try.f15 env F G k)) =
  c15_0 O (fun (s0 : GA) (s4 : Int) (s73 : Bool) (b0_0 : Int) (b0_1 : List UInt8) (b0_2 : Nat) (b0_3 : Int) G => bif s73 then
  O 27 [.ptr (some s0)] G fun v1 G2 =>
(ivTup 2 v1).bind fun c3 =>
(ivAgg 4 (c3.getD 0 undefI)).bind fun c4 =>
(ivInt .i64 (c4.getD 0 undefI)).bind fun x5 =>
(ivStr (c4.getD 1 undefI)).bind fun x6 =>
(ivFloat .f64 (c4.getD 2 undefI)).bind fun x7 =>
(ivInt .i64 (c4.getD 3 undefI)).bind fun x8 =>
(ivInt .i64 (c3.getD 1 undefI)).bind fun x9 =>
  k (.tuple [.agg [.int .i64 x5, .str x6, .float .f64 x7, .int .i64 x8], .int .i64 x9]) G2
else
  bif (s4 == (34 : Int)) then
(ldInt G .i64 (GA.add s0 1)).bind fun x10 =>
(gst G (GA.add s0 1) [.int .i64 (IntKind.wrap .i64 (x10 + (1 : Int)))]).bind fun G11 =>
  O 24 [.ptr (some s0), .func 28 []] G11 fun v12 G13 =>
(ivStr v12).bind fun x14 =>
  stepN fuel (c15_1 O (fun (s0 : GA) (s6 : List UInt8) (s117 : Bool) (b0_0 : Int) (b0_1 : List UInt8) (b0_2 : Nat) (b0_3 : Int) G => bif s117 then
  O 22 [.ptr (some s0), .int .i64 (161 : Int)] G fun v15 G16 =>
(ivTup 2 v15).bind fun c17 =>
(ivAgg 4 (c17.getD 0 undefI)).bind fun c18 =>
(ivInt .i64 (c18.getD 0 undefI)).bind fun x19 =>
(ivStr (c18.getD 1 undefI)).bind fun x20 =>
(ivFloat .f64 (c18.getD 2 undefI)).bind fun x21 =>
(ivInt .i64 (c18.getD 3 undefI)).bind fun x22 =>
(ivInt .i64 (c17.getD 1 undefI)).bind fun x23 =>
  k (.tuple [.agg [.int .i64 x19, .str x20, .float .f64 x21, .int .i64 x22], .int .i64 x23]) G16
else
(ldInt G .i64 (GA.add s0 1)).bind fun x24 =>
(gst G (GA.add s0 1) [.int .i64 (IntKind.wrap .i64 (x24 + (1 : Int)))]).bind fun G25 =>
(ldInt G25 .i64 (GA.add s0 2)).bind fun x26 =>
  k (.tuple [.agg [.int .i64 (3 : Int), .str s6, .float .f64 (0 : Nat), .int .i64 x26], .int .i64 (0 : Int)]) G25) s0 x14 b0_0 b0_1 b0_2 b0_3 G13)
else
  O 22 [.ptr (some s0), .int .i64 (160 : Int)] G fun v27 G28 =>
(ivTup 2 v27).bind fun c29 =>
(ivAgg 4 (c29.getD 0 undefI)).bind fun c30 =>
(ivInt .i64 (c30.getD 0 undefI)).bind fun x31 =>
(ivStr (c30.getD 1 undefI)).bind fun x32 =>
(ivFloat .f64 (c30.getD 2 undefI)).bind fun x33 =>
(ivInt .i64 (c30.getD 3 undefI)).bind fun x34 =>
(ivInt .i64 (c29.getD 1 undefI)).bind fun x35 =>
  k (.tuple [.agg [.int .i64 x31, .str x32, .float .f64 x33, .int .i64 x34], .int .i64 x35]) G28)  s0 s4 b0_0 b0_1 b0_2 b0_3 G := by
    intros
    rw [c15_0_body]
    simp only [c15_0, c15_0_afterN, c15_1_eq O fuel k]

theorem e15_raw {R : Type} (O : Ora R) (fuel : Nat) (p0 : GA) (G : GH) (k : IV → GH → Option R) :
  bodyC Try.prog O [2] fuel Try.f15 [.ptr (some p0)] G k =
  (ldInt G .i64 (GA.add p0 4)).bind fun x1 =>
  bif (x1 != (0 : Int)) then
  (ldInt G .i64 (GA.add p0 4)).bind fun x2 =>
  k (.tuple [.agg [.int .i64 (0 : Int), .str ([] : List UInt8), .float .f64 (0 : Nat), .int .i64 (0 : Int)], .int .i64 x2]) G
  else
  O 21 [.ptr (some p0)] G fun v3 G4 =>
  (ivTup 0 v3).bind fun c5 =>
  (ldInt G4 .i64 (GA.add p0 1)).bind fun x6 =>
  (ldStr G4 (GA.add p0 0)).bind fun x7 =>
  bif (x6 == (x7.length : Int)) then
  (ldInt G4 .i64 (GA.add p0 2)).bind fun x8 =>
  k (.tuple [.agg [.int .i64 (4 : Int), .str ([] : List UInt8), .float .f64 (0 : Nat), .int .i64 x8], .int .i64 (0 : Int)]) G4
  else
  (ldInt G4 .i64 (GA.add p0 3)).bind fun x9 =>
  (gst G4 (GA.add p0 3) [.int .i64 (IntKind.wrap .i64 (x9 + (1 : Int)))]).bind fun G10 =>
  (ldInt G10 .i64 (GA.add p0 3)).bind fun x11 =>
  bif (decide (x11 > (16384 : Int))) then
  O 22 [.ptr (some p0), .int .i64 (163 : Int)] G10 fun v12 G13 =>
  (ivTup 2 v12).bind fun c14 =>
  (ivAgg 4 (c14.getD 0 undefI)).bind fun c15 =>
  (ivInt .i64 (c15.getD 0 undefI)).bind fun x16 =>
  (ivStr (c15.getD 1 undefI)).bind fun x17 =>
  (ivFloat .f64 (c15.getD 2 undefI)).bind fun x18 =>
  (ivInt .i64 (c15.getD 3 undefI)).bind fun x19 =>
  (ivInt .i64 (c14.getD 1 undefI)).bind fun x20 =>
  k (.tuple [.agg [.int .i64 x16, .str x17, .float .f64 x18, .int .i64 x19], .int .i64 x20]) G13
  else
  (ldStr G10 (GA.add p0 0)).bind fun x21 =>
  (ldInt G10 .i64 (GA.add p0 1)).bind fun x22 =>
  bif decide (0 ≤ x22 ∧ x22 < (x21.length : Int)) then
  O 23 [.int .u8 ((x21.getD (Int.toNat x22) 0).toNat : Int)] G10 fun v23 G24 =>
  (ivBool v23).bind fun x25 =>
  bif x25 then
  O 24 [.ptr (some p0), .func 25 []] G24 fun v26 G27 =>
  (ivStr v26).bind fun x28 =>
  (ldInt G27 .i64 (GA.add p0 2)).bind fun x29 =>
  k (.tuple [.agg [.int .i64 (1 : Int), .str x28, .float .f64 (0 : Nat), .int .i64 x29], .int .i64 (0 : Int)]) G27
  else
  stepN fuel (codeC Try.prog O [2] fuel (nav (Try.f15.body.getD .skip) [1, 1, 1, 1, 1, 1, 1, 0, 0, 1, 1, 0]) [.ptr (some p0), .tuple [], .loc 0 0, .int .i64 (0 : Int), .int .u8 ((x21.getD (Int.toNat x22) 0).toNat : Int), .tuple [], .tuple [], .ptr (some p0), .bool false, .tuple [], .ptr (some p0), .ptr (some p0), .ptr (some (GA.add p0 4)), .int .i64 x1, .bool (x1 != (0 : Int)), .tuple [], .tuple [], .tuple [], .tuple [], .tuple [], .ptr (some p0), .tuple [], .ptr (some p0), .ptr (some p0), .ptr (some (GA.add p0 1)), .int .i64 x6, .ptr (some p0), .ptr (some p0), .ptr (some (GA.add p0 0)), .str x7, .int .i64 (x7.length : Int), .bool (x6 == (x7.length : Int)), .tuple [], .tuple [], .tuple [], .tuple [], .tuple [], .ptr (some p0), .ptr (some p0), .ptr (some (GA.add p0 3)), .int .i64 x9, .int .i64 (IntKind.wrap .i64 (x9 + (1 : Int))), .ptr (some p0), .ptr (some (GA.add p0 3)), .ptr (some p0), .ptr (some p0), .ptr (some (GA.add p0 3)), .int .i64 x11, .bool (decide (x11 > (16384 : Int))), .tuple [], .tuple [], .tuple [], .tuple [], .ptr (some p0), .ptr (some p0), .ptr (some (GA.add p0 0)), .str x21, .ptr (some p0), .ptr (some p0), .ptr (some (GA.add p0 1)), .int .i64 x22, .int .u8 ((x21.getD (Int.toNat x22) 0).toNat : Int), .bool x25, .int .u8 ((x21.getD (Int.toNat x22) 0).toNat : Int), .bool x25, .tuple [], .tuple [], .tuple [], .tuple [], .tuple [], .tuple [], .tuple [], .tuple [], .tuple [], .tuple [], .tuple [], .tuple [], .tuple [], .tuple [], .tuple [], .tuple [], .tuple [], .tuple [], .tuple [], .tuple [], .tuple [], .tuple [], .tuple [], .tuple [], .tuple [], .tuple [], .tuple [], .tuple [], .tuple [], .tuple [], .tuple [], .tuple [], .tuple [], .tuple [], .tuple [], .tuple [], .tuple [], .tuple [], .tuple [], .tuple [], .tuple [], .tuple [], .tuple [], .tuple [], .tuple [], .tuple [], .tuple [], .tuple [], .tuple [], .tuple [], .tuple [], .tuple [], .tuple [], .tuple [], .tuple [], .tuple [], .tuple [], .tuple [], .tuple [], .tuple [], .tuple [], .tuple [], .tuple [], .tuple [], .tuple [], .tuple [], .tuple [], .tuple [], .tuple [], .tuple [], .tuple [], .tuple [], .tuple [], .tuple []] [[.int .i64 (0 : Int), .str ([] : List UInt8), .float .f64 (0 : Nat), .int .i64 (0 : Int)]] G24 (contC Try.prog O [2] fuel (Try.f15.body.getD .skip) [1, 1, 1, 1, 1, 1, 1, 0, 0, 1, 1, 0] (fun e env F G => match e with | .exit _ => none | _ => resC Try.prog Try.f15 env F G k)))
  else none := by kernel_rfl

theorem e15 {R : Type} (O : Ora R) (fuel : Nat) (p0 : GA) (G : GH) (k : IV → GH → Option R) :
  bodyC Try.prog O [2] fuel Try.f15 [.ptr (some p0)] G k =
  (ldInt G .i64 (GA.add p0 4)).bind fun x1 =>
  bif (x1 != (0 : Int)) then
  (ldInt G .i64 (GA.add p0 4)).bind fun x2 =>
  k (.tuple [.agg [.int .i64 (0 : Int), .str ([] : List UInt8), .float .f64 (0 : Nat), .int .i64 (0 : Int)], .int .i64 x2]) G
  else
  O 21 [.ptr (some p0)] G fun v3 G4 =>
  (ivTup 0 v3).bind fun c5 =>
  (ldInt G4 .i64 (GA.add p0 1)).bind fun x6 =>
  (ldStr G4 (GA.add p0 0)).bind fun x7 =>
  bif (x6 == (x7.length : Int)) then
  (ldInt G4 .i64 (GA.add p0 2)).bind fun x8 =>
  k (.tuple [.agg [.int .i64 (4 : Int), .str ([] : List UInt8), .float .f64 (0 : Nat), .int .i64 x8], .int .i64 (0 : Int)]) G4
  else
  (ldInt G4 .i64 (GA.add p0 3)).bind fun x9 =>
  (gst G4 (GA.add p0 3) [.int .i64 (IntKind.wrap .i64 (x9 + (1 : Int)))]).bind fun G10 =>
  (ldInt G10 .i64 (GA.add p0 3)).bind fun x11 =>
  bif (decide (x11 > (16384 : Int))) then
  O 22 [.ptr (some p0), .int .i64 (163 : Int)] G10 fun v12 G13 =>
  (ivTup 2 v12).bind fun c14 =>
  (ivAgg 4 (c14.getD 0 undefI)).bind fun c15 =>
  (ivInt .i64 (c15.getD 0 undefI)).bind fun x16 =>
  (ivStr (c15.getD 1 undefI)).bind fun x17 =>
  (ivFloat .f64 (c15.getD 2 undefI)).bind fun x18 =>
  (ivInt .i64 (c15.getD 3 undefI)).bind fun x19 =>
  (ivInt .i64 (c14.getD 1 undefI)).bind fun x20 =>
  k (.tuple [.agg [.int .i64 x16, .str x17, .float .f64 x18, .int .i64 x19], .int .i64 x20]) G13
  else
  (ldStr G10 (GA.add p0 0)).bind fun x21 =>
  (ldInt G10 .i64 (GA.add p0 1)).bind fun x22 =>
  bif decide (0 ≤ x22 ∧ x22 < (x21.length : Int)) then
  O 23 [.int .u8 ((x21.getD (Int.toNat x22) 0).toNat : Int)] G10 fun v23 G24 =>
  (ivBool v23).bind fun x25 =>
  bif x25 then
  O 24 [.ptr (some p0), .func 25 []] G24 fun v26 G27 =>
  (ivStr v26).bind fun x28 =>
  (ldInt G27 .i64 (GA.add p0 2)).bind fun x29 =>
  k (.tuple [.agg [.int .i64 (1 : Int), .str x28, .float .f64 (0 : Nat), .int .i64 x29], .int .i64 (0 : Int)]) G27
  else
  stepN fuel (c15_0 O (fun (s0 : GA) (s4 : Int) (s73 : Bool) (b0_0 : Int) (b0_1 : List UInt8) (b0_2 : Nat) (b0_3 : Int) G => bif s73 then
  O 27 [.ptr (some s0)] G fun v30 G31 =>
  (ivTup 2 v30).bind fun c32 =>
  (ivAgg 4 (c32.getD 0 undefI)).bind fun c33 =>
  (ivInt .i64 (c33.getD 0 undefI)).bind fun x34 =>
  (ivStr (c33.getD 1 undefI)).bind fun x35 =>
  (ivFloat .f64 (c33.getD 2 undefI)).bind fun x36 =>
  (ivInt .i64 (c33.getD 3 undefI)).bind fun x37 =>
  (ivInt .i64 (c32.getD 1 undefI)).bind fun x38 =>
  k (.tuple [.agg [.int .i64 x34, .str x35, .float .f64 x36, .int .i64 x37], .int .i64 x38]) G31
  else
  bif (s4 == (34 : Int)) then
  (ldInt G .i64 (GA.add s0 1)).bind fun x39 =>
  (gst G (GA.add s0 1) [.int .i64 (IntKind.wrap .i64 (x39 + (1 : Int)))]).bind fun G40 =>
  O 24 [.ptr (some s0), .func 28 []] G40 fun v41 G42 =>
  (ivStr v41).bind fun x43 =>
  stepN fuel (c15_1 O (fun (s0 : GA) (s6 : List UInt8) (s117 : Bool) (b0_0 : Int) (b0_1 : List UInt8) (b0_2 : Nat) (b0_3 : Int) G => bif s117 then
  O 22 [.ptr (some s0), .int .i64 (161 : Int)] G fun v44 G45 =>
  (ivTup 2 v44).bind fun c46 =>
  (ivAgg 4 (c46.getD 0 undefI)).bind fun c47 =>
  (ivInt .i64 (c47.getD 0 undefI)).bind fun x48 =>
  (ivStr (c47.getD 1 undefI)).bind fun x49 =>
  (ivFloat .f64 (c47.getD 2 undefI)).bind fun x50 =>
  (ivInt .i64 (c47.getD 3 undefI)).bind fun x51 =>
  (ivInt .i64 (c46.getD 1 undefI)).bind fun x52 =>
  k (.tuple [.agg [.int .i64 x48, .str x49, .float .f64 x50, .int .i64 x51], .int .i64 x52]) G45
  else
  (ldInt G .i64 (GA.add s0 1)).bind fun x53 =>
  (gst G (GA.add s0 1) [.int .i64 (IntKind.wrap .i64 (x53 + (1 : Int)))]).bind fun G54 =>
  (ldInt G54 .i64 (GA.add s0 2)).bind fun x55 =>
  k (.tuple [.agg [.int .i64 (3 : Int), .str s6, .float .f64 (0 : Nat), .int .i64 x55], .int .i64 (0 : Int)]) G54) s0 x43 b0_0 b0_1 b0_2 b0_3 G42)
  else
  O 22 [.ptr (some s0), .int .i64 (160 : Int)] G fun v56 G57 =>
  (ivTup 2 v56).bind fun c58 =>
  (ivAgg 4 (c58.getD 0 undefI)).bind fun c59 =>
  (ivInt .i64 (c59.getD 0 undefI)).bind fun x60 =>
  (ivStr (c59.getD 1 undefI)).bind fun x61 =>
  (ivFloat .f64 (c59.getD 2 undefI)).bind fun x62 =>
  (ivInt .i64 (c59.getD 3 undefI)).bind fun x63 =>
  (ivInt .i64 (c58.getD 1 undefI)).bind fun x64 =>
  k (.tuple [.agg [.int .i64 x60, .str x61, .float .f64 x62, .int .i64 x63], .int .i64 x64]) G57) p0 ((x21.getD (Int.toNat x22) 0).toNat : Int) (0 : Int) ([] : List UInt8) (0 : Nat) (0 : Int) G24)
  else none := by
  rw [e15_raw]; simp only [c15_1_eq O fuel k, c15_0_eq O fuel k]

theorem r15 {R : Type} (fuel n : Nat) (p0 : GA) (G : GH) (k : IV → GH → Option R) :
  runL Try.prog lexLib lo0 fuel (n + 1) 15 [.ptr (some p0)] G k = bodyC Try.prog (runL Try.prog lexLib lo0 fuel n) [2] fuel Try.f15 [.ptr (some p0)] G k := runL_body Try.func15 rfl rfl rfl

/-! ### lantern/lex.All -/
def l10_0 {R : Type} (O : Ora R) (Kret : Option GA → Nat → Int → Int → GH → Option R) : Nat → Option GA → Option GA → Nat → GH → Option R
  | 0, _, _, _, _ => none
  | n + 1, s5, s6a, s6n, G =>
  O 15 [.ptr s5] G fun v1 G2 =>
  (ivTup 2 v1).bind fun c3 =>
  (ivAgg 4 (c3.getD 0 undefI)).bind fun c4 =>
  (ivInt .i64 (c4.getD 0 undefI)).bind fun x5 =>
  (ivStr (c4.getD 1 undefI)).bind fun x6 =>
  (ivFloat .f64 (c4.getD 2 undefI)).bind fun x7 =>
  (ivInt .i64 (c4.getD 3 undefI)).bind fun x8 =>
  (ivInt .i64 (c3.getD 1 undefI)).bind fun x9 =>
  (gst (gnew G2 [.int .i64 (0 : Int), .str ([] : List UInt8), .float .f64 (0 : Nat), .int .i64 (0 : Int)] 32) (gaddr G2) [.int .i64 x5, .str x6, .float .f64 x7, .int .i64 x8]).bind fun G10 =>
  bif (x9 != (0 : Int)) then
  (s5).bind fun a11 =>
  (ldInt G10 .i64 (GA.add a11 2)).bind fun x12 =>
  Kret s6a s6n x12 x9 G10
  else
  (ldInt G10 .i64 (GA.add (gaddr G2) 0)).bind fun x13 =>
  bif (x13 == (4 : Int)) then
  Kret s6a s6n (0 : Int) (0 : Int) G10
  else
  (ldInt G10 .i64 (GA.add (gaddr G2) 0)).bind fun x14 =>
  (ldStr G10 (GA.add (gaddr G2) 1)).bind fun x15 =>
  (ldFloat G10 .f64 (GA.add (gaddr G2) 2)).bind fun x16 =>
  (ldInt G10 .i64 (GA.add (gaddr G2) 3)).bind fun x17 =>
  (grd (gnew G10 [.int .i64 x14, .str x15, .float .f64 x16, .int .i64 x17] 32) (gaddr G10) (1 * 4)).bind fun x18 =>
  (gappend (gnew G10 [.int .i64 x14, .str x15, .float .f64 x16, .int .i64 x17] 32) 32 4 40 s6a s6n x18 1).bind fun r19 =>
  l10_0 O Kret n s5 r19.1 (s6n + 1) r19.2

theorem l10_0_body {R : Type} (O : Ora R) (fuel : Nat) (d0 d1 d2 d3 d4 d7 d8 d9 d10 d11 d12 d13 d14 d15 d16 d17 d18 d19 d20 d21 d22 d23 d24 d25 d26 d27 d28 d29 d30 d31 d32 d33 : IV) (s5 : Option GA) (s6a : Option GA) (s6n : Nat) (G : GH) (k : Ex → List IV → List (List IV) → GH → Option R) :
  codeC Try.prog O [] fuel (nav (Try.f10.body.getD .skip) [1, 1, 1, 0, 0]) [d0, d1, d2, d3, d4, .ptr s5, .slice s6a s6n, d7, d8, d9, d10, d11, d12, d13, d14, d15, d16, d17, d18, d19, d20, d21, d22, d23, d24, d25, d26, d27, d28, d29, d30, d31, d32, d33] [] G k =
  O 15 [.ptr s5] G fun v1 G2 =>
  (ivTup 2 v1).bind fun c3 =>
  (ivAgg 4 (c3.getD 0 undefI)).bind fun c4 =>
  (ivInt .i64 (c4.getD 0 undefI)).bind fun x5 =>
  (ivStr (c4.getD 1 undefI)).bind fun x6 =>
  (ivFloat .f64 (c4.getD 2 undefI)).bind fun x7 =>
  (ivInt .i64 (c4.getD 3 undefI)).bind fun x8 =>
  (ivInt .i64 (c3.getD 1 undefI)).bind fun x9 =>
  (gst (gnew G2 [.int .i64 (0 : Int), .str ([] : List UInt8), .float .f64 (0 : Nat), .int .i64 (0 : Int)] 32) (gaddr G2) [.int .i64 x5, .str x6, .float .f64 x7, .int .i64 x8]).bind fun G10 =>
  bif (x9 != (0 : Int)) then
  (s5).bind fun a11 =>
  (ldInt G10 .i64 (GA.add a11 2)).bind fun x12 =>
  k .ret [d0, d1, .slice s6a s6n, .int .i64 x12, .int .i64 x9, .ptr s5, .slice s6a s6n, .ptr (some (gaddr G2)), .int .i64 x9, d9, d10, .tuple [.agg [.int .i64 x5, .str x6, .float .f64 x7, .int .i64 x8], .int .i64 x9], .ptr s5, .tuple [.agg [.int .i64 x5, .str x6, .float .f64 x7, .int .i64 x8], .int .i64 x9], .agg [.int .i64 x5, .str x6, .float .f64 x7, .int .i64 x8], .int .i64 x9, .bool (x9 != (0 : Int)), .int .i64 x9, .bool (x9 != (0 : Int)), .slice s6a s6n, .ptr s5, .ptr (some a11), .ptr (some (GA.add a11 2)), .int .i64 x12, .int .i64 x9, d25, d26, d27, d28, d29, d30, d31, d32, d33] [] G10
  else
  (ldInt G10 .i64 (GA.add (gaddr G2) 0)).bind fun x13 =>
  bif (x13 == (4 : Int)) then
  k .ret [d0, d1, .slice s6a s6n, .int .i64 (0 : Int), .int .i64 (0 : Int), .ptr s5, .slice s6a s6n, .ptr (some (gaddr G2)), .int .i64 x9, d9, d10, .tuple [.agg [.int .i64 x5, .str x6, .float .f64 x7, .int .i64 x8], .int .i64 x9], .ptr s5, .tuple [.agg [.int .i64 x5, .str x6, .float .f64 x7, .int .i64 x8], .int .i64 x9], .agg [.int .i64 x5, .str x6, .float .f64 x7, .int .i64 x8], .int .i64 x9, .bool (x9 != (0 : Int)), .int .i64 x9, .bool (x9 != (0 : Int)), d19, d20, d21, d22, d23, d24, .bool (x13 == (4 : Int)), .ptr (some (GA.add (gaddr G2) 0)), .int .i64 x13, .bool (x13 == (4 : Int)), .slice s6a s6n, d30, d31, d32, d33] [] G10
  else
  (ldInt G10 .i64 (GA.add (gaddr G2) 0)).bind fun x14 =>
  (ldStr G10 (GA.add (gaddr G2) 1)).bind fun x15 =>
  (ldFloat G10 .f64 (GA.add (gaddr G2) 2)).bind fun x16 =>
  (ldInt G10 .i64 (GA.add (gaddr G2) 3)).bind fun x17 =>
  (grd (gnew G10 [.int .i64 x14, .str x15, .float .f64 x16, .int .i64 x17] 32) (gaddr G10) (1 * 4)).bind fun x18 =>
  (gappend (gnew G10 [.int .i64 x14, .str x15, .float .f64 x16, .int .i64 x17] 32) 32 4 40 s6a s6n x18 1).bind fun r19 =>
  k .normal [d0, d1, d2, d3, d4, .ptr s5, .slice r19.1 (s6n + 1), .ptr (some (gaddr G2)), .int .i64 x9, d9, d10, .tuple [.agg [.int .i64 x5, .str x6, .float .f64 x7, .int .i64 x8], .int .i64 x9], .ptr s5, .tuple [.agg [.int .i64 x5, .str x6, .float .f64 x7, .int .i64 x8], .int .i64 x9], .agg [.int .i64 x5, .str x6, .float .f64 x7, .int .i64 x8], .int .i64 x9, .bool (x9 != (0 : Int)), .int .i64 x9, .bool (x9 != (0 : Int)), d19, d20, d21, d22, d23, d24, .bool (x13 == (4 : Int)), .ptr (some (GA.add (gaddr G2) 0)), .int .i64 x13, .bool (x13 == (4 : Int)), d29, .slice s6a s6n, .agg [.int .i64 x14, .str x15, .float .f64 x16, .int .i64 x17], .slice (some (gaddr G10)) 1, .slice r19.1 (s6n + 1)] [] r19.2 := by kernel_rfl

theorem l10_0_afterret {R : Type} (O : Ora R) (fuel : Nat) (d0 d1 d5 d6 d7 d8 d9 d10 d11 d12 d13 d14 d15 d16 d17 d18 d19 d20 d21 d22 d23 d24 d25 d26 d27 d28 d29 d30 d31 d32 d33 : IV) (s2a : Option GA) (s2n : Nat) (s3 : Int) (s4 : Int) (G : GH) (k : IV → GH → Option R) :
  contC Try.prog O [] fuel (Try.f10.body.getD .skip) [1, 1, 1, 0] (fun e env F G => match e with | .exit _ => none | _ => resC Try.prog Try.f10 env F G k) .ret [d0, d1, .slice s2a s2n, .int .i64 s3, .int .i64 s4, d5, d6, d7, d8, d9, d10, d11, d12, d13, d14, d15, d16, d17, d18, d19, d20, d21, d22, d23, d24, d25, d26, d27, d28, d29, d30, d31, d32, d33] [] G =
  k (.tuple [.slice s2a s2n, .int .i64 s3, .int .i64 s4]) G := by kernel_rfl

theorem l10_0_eq {R : Type} (O : Ora R) (fuel : Nat) (k : IV → GH → Option R) : ∀ (n : Nat) (d0 d1 d2 d3 d4 d7 d8 d9 d10 d11 d12 d13 d14 d15 d16 d17 d18 d19 d20 d21 d22 d23 d24 d25 d26 d27 d28 d29 d30 d31 d32 d33 : IV) (s5 : Option GA) (s6a : Option GA) (s6n : Nat) (G : GH),
  loopN (fun env F G k => codeC Try.prog O [] fuel (nav (Try.f10.body.getD .skip) [1, 1, 1, 0, 0]) env F G k) n [d0, d1, d2, d3, d4, .ptr s5, .slice s6a s6n, d7, d8, d9, d10, d11, d12, d13, d14, d15, d16, d17, d18, d19, d20, d21, d22, d23, d24, d25, d26, d27, d28, d29, d30, d31, d32, d33] [] G (contC Try.prog O [] fuel (Try.f10.body.getD .skip) [1, 1, 1, 0] (fun e env F G => match e with | .exit _ => none | _ => resC Try.prog Try.f10 env F G k)) =
  l10_0 O (fun (s2a : Option GA) (s2n : Nat) (s3 : Int) (s4 : Int) G => k (.tuple [.slice s2a s2n, .int .i64 s3, .int .i64 s4]) G) n s5 s6a s6n G := by
  intro n
  induction n with
  | zero => intros; rfl
  | succ n ih =>
    intros
    rw [loopN_succ, l10_0_body]
    simp only [l10_0, loopK_normal, loopK_exit, loopK_ret, ih, l10_0_afterret]

theorem e10_raw {R : Type} (O : Ora R) (fuel : Nat) (p0 : List UInt8) (G : GH) (k : IV → GH → Option R) :
  bodyC Try.prog O [] fuel Try.f10 [.str p0] G k =
  O 12 [.str p0] G fun v1 G2 =>
  (ivPtr v1).bind fun x3 =>
  loopN (fun env F G k => codeC Try.prog O [] fuel (nav (Try.f10.body.getD .skip) [1, 1, 1, 0, 0]) env F G k) fuel [.str p0, .tuple [], .slice none 0, .int .i64 (0 : Int), .int .i64 (0 : Int), .ptr x3, .slice none 0, .tuple [], .tuple [], .str p0, .ptr x3, .tuple [], .tuple [], .tuple [], .tuple [], .tuple [], .tuple [], .tuple [], .tuple [], .tuple [], .tuple [], .tuple [], .tuple [], .tuple [], .tuple [], .tuple [], .tuple [], .tuple [], .tuple [], .tuple [], .tuple [], .tuple [], .tuple [], .tuple []] [] G2 (contC Try.prog O [] fuel (Try.f10.body.getD .skip) [1, 1, 1, 0] (fun e env F G => match e with | .exit _ => none | _ => resC Try.prog Try.f10 env F G k)) := by kernel_rfl

theorem e10 {R : Type} (O : Ora R) (fuel : Nat) (p0 : List UInt8) (G : GH) (k : IV → GH → Option R) :
  bodyC Try.prog O [] fuel Try.f10 [.str p0] G k =
  O 12 [.str p0] G fun v1 G2 =>
  (ivPtr v1).bind fun x3 =>
  l10_0 O (fun (s2a : Option GA) (s2n : Nat) (s3 : Int) (s4 : Int) G => k (.tuple [.slice s2a s2n, .int .i64 s3, .int .i64 s4]) G) fuel x3 none 0 G2 := by
  rw [e10_raw]; simp only [l10_0_eq O fuel k]

theorem r10 {R : Type} (fuel n : Nat) (p0 : List UInt8) (G : GH) (k : IV → GH → Option R) :
  runL Try.prog lexLib lo0 fuel (n + 1) 10 [.str p0] G k = bodyC Try.prog (runL Try.prog lexLib lo0 fuel n) [] fuel Try.f10 [.str p0] G k := runL_body Try.func10 rfl rfl rfl

end Go.LI.Lex

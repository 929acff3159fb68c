/- What the interpreter gives for LexNumbers (written by decomp.py). -/
import Derived.Test.YtckelpgijjbpaaaLexA
namespace Go.LI.Lex
open Go.Proofs.Ytckelpgijjbpaaa Go Go.Proofs Go.LI
set_option maxRecDepth 100000
set_option linter.unusedVariables false
set_option linter.unusedSimpArgs false
/-! ### lantern/lanternlaw15.LexNumbers -/
def c3_3 {R : Type} (O : Ora R) (KN : List UInt8 → Nat → GH → Option R) (s2 : Bool) (s7 : List UInt8) (s10 : Nat) (G : GH) : Option R :=
  bif s2 then
  bif decide (([45] : List UInt8).length + s7.length ≤ roomI) then
  ((FloatKind.format .f64).sub (0 : Nat) s10).bind fun r1 =>
  KN (([45] : List UInt8) ++ s7) r1 G
  else none
  else
  KN s7 s10 G

theorem c3_3_body {R : Type} (O : Ora R) (fuel : Nat) (d0 d1 d3 d4 d5 d6 d8 d9 d11 d12 d13 d14 d15 d16 d17 d18 d19 d20 d21 d22 d23 d24 d25 d26 d27 d28 d29 d30 d31 d32 d33 d34 d35 d36 d37 d38 d39 d40 d41 d42 d43 d44 d45 d46 d47 d48 d49 d50 d51 d52 d53 d54 d55 d56 d57 d58 d59 d60 d61 d62 d63 d64 d65 d66 d67 d68 d69 d70 d71 d72 d73 d74 d75 d76 d77 d78 d79 d80 d81 d82 d83 d84 d85 d86 d87 d88 d89 d90 : IV) (s2 : Bool) (s7 : List UInt8) (s10 : Nat) (G : GH) (k : Ex → List IV → List (List IV) → GH → Option R) :
  codeC Try.prog O [] fuel (nav (Try.f3.body.getD .skip) [1, 1, 1, 1, 1, 1, 1, 1, 1, 1, 0]) [d0, d1, .bool s2, d3, d4, d5, d6, .str s7, d8, d9, .float .f64 s10, d11, d12, d13, d14, d15, d16, d17, d18, d19, d20, d21, d22, d23, d24, d25, d26, d27, d28, d29, d30, d31, d32, d33, d34, d35, d36, d37, d38, d39, d40, d41, d42, d43, d44, d45, d46, d47, d48, d49, d50, d51, d52, d53, d54, d55, d56, d57, d58, d59, d60, d61, d62, d63, d64, d65, d66, d67, d68, d69, d70, d71, d72, d73, d74, d75, d76, d77, d78, d79, d80, d81, d82, d83, d84, d85, d86, d87, d88, d89, d90] [] G k =
  bif s2 then
  bif decide (([45] : List UInt8).length + s7.length ≤ roomI) then
  ((FloatKind.format .f64).sub (0 : Nat) s10).bind fun r1 =>
  k .normal [d0, d1, .bool s2, d3, d4, d5, d6, .str (([45] : List UInt8) ++ s7), d8, d9, .float .f64 r1, d11, d12, d13, d14, d15, d16, d17, d18, d19, d20, d21, d22, d23, d24, d25, d26, d27, d28, d29, d30, d31, d32, d33, d34, d35, d36, d37, d38, d39, d40, d41, d42, d43, d44, d45, d46, d47, d48, d49, d50, d51, d52, d53, d54, d55, d56, d57, d58, d59, d60, d61, d62, .bool s2, .str s7, .str (([45] : List UInt8) ++ s7), .float .f64 s10, .float .f64 r1, d68, d69, d70, d71, d72, d73, d74, d75, d76, d77, d78, d79, d80, d81, d82, d83, d84, d85, d86, d87, d88, d89, d90] [] G
  else none
  else
  k .normal [d0, d1, .bool s2, d3, d4, d5, d6, .str s7, d8, d9, .float .f64 s10, d11, d12, d13, d14, d15, d16, d17, d18, d19, d20, d21, d22, d23, d24, d25, d26, d27, d28, d29, d30, d31, d32, d33, d34, d35, d36, d37, d38, d39, d40, d41, d42, d43, d44, d45, d46, d47, d48, d49, d50, d51, d52, d53, d54, d55, d56, d57, d58, d59, d60, d61, d62, .bool s2, d64, d65, d66, d67, d68, d69, d70, d71, d72, d73, d74, d75, d76, d77, d78, d79, d80, d81, d82, d83, d84, d85, d86, d87, d88, d89, d90] [] G := by kernel_rfl

theorem c3_3_afterN {R : Type} (O : Ora R) (fuel : Nat) (d0 d1 d2 d3 d4 d5 d6 d8 d9 d11 d12 d13 d14 d15 d16 d17 d18 d19 d20 d21 d22 d23 d24 d25 d26 d27 d28 d29 d30 d31 d32 d33 d34 d35 d36 d37 d38 d39 d40 d41 d42 d43 d44 d45 d46 d47 d48 d49 d50 d51 d52 d53 d54 d55 d56 d57 d58 d59 d60 d61 d62 d63 d64 d65 d66 d67 d68 d69 d70 d71 d72 d73 d74 d75 d76 d77 d78 d79 d80 d81 d82 d83 d84 d85 d86 d87 d88 d89 d90 : IV) (s7 : List UInt8) (s10 : Nat) (G : GH) (k : IV → GH → Option R) :
  contC Try.prog O [] fuel (Try.f3.body.getD .skip) [1, 1, 1, 1, 1, 1, 1, 1, 1, 1, 0] (fun e env F G => match e with | .exit _ => none | _ => resC Try.prog Try.f3 env F G k) .normal [d0, d1, d2, d3, d4, d5, d6, .str s7, d8, d9, .float .f64 s10, d11, d12, d13, d14, d15, d16, d17, d18, d19, d20, d21, d22, d23, d24, d25, d26, d27, d28, d29, d30, d31, d32, d33, d34, d35, d36, d37, d38, d39, d40, d41, d42, d43, d44, d45, d46, d47, d48, d49, d50, d51, d52, d53, d54, d55, d56, d57, d58, d59, d60, d61, d62, d63, d64, d65, d66, d67, d68, d69, d70, d71, d72, d73, d74, d75, d76, d77, d78, d79, d80, d81, d82, d83, d84, d85, d86, d87, d88, d89, d90] [] G =
  bif decide (([32] : List UInt8).length + s7.length ≤ roomI) then
  bif decide ((([32] : List UInt8) ++ s7).length + ([10] : List UInt8).length ≤ roomI) then
  O 10 [.str ((([32] : List UInt8) ++ s7) ++ ([10] : List UInt8))] G fun v1 G2 =>
  (ivTup 3 v1).bind fun c3 =>
  (ivSlice (c3.getD 0 undefI)).bind fun x4 =>
  (ivInt .i64 (c3.getD 1 undefI)).bind fun x5 =>
  (ivInt .i64 (c3.getD 2 undefI)).bind fun x6 =>
  bif (x6 == (0 : Int)) then
  bif ((x4.2 : Int) == (1 : Int)) then
  (idx? x4.1 x4.2 (0 : Int) 4).bind fun a7 =>
  (ldInt G2 .i64 (GA.add a7 0)).bind fun x8 =>
  (ldStr G2 (GA.add a7 1)).bind fun x9 =>
  (ldFloat G2 .f64 (GA.add a7 2)).bind fun x10 =>
  (ldInt G2 .i64 (GA.add a7 3)).bind fun x11 =>
  k (.bool ((x8 == (2 : Int)) && ((x9 == ([] : List UInt8)) && ((feq .f64 x10 s10) && ((x11 == (1 : Int)) && true))))) G2
  else
  k (.bool false) G2
  else
  k (.bool false) G2
  else none
  else none := by kernel_rfl

theorem c3_3_eq {R : Type} (O : Ora R) (fuel : Nat) (k : IV → GH → Option R) : ∀ (d0 d1 d3 d4 d5 d6 d8 d9 d11 d12 d13 d14 d15 d16 d17 d18 d19 d20 d21 d22 d23 d24 d25 d26 d27 d28 d29 d30 d31 d32 d33 d34 d35 d36 d37 d38 d39 d40 d41 d42 d43 d44 d45 d46 d47 d48 d49 d50 d51 d52 d53 d54 d55 d56 d57 d58 d59 d60 d61 d62 d63 d64 d65 d66 d67 d68 d69 d70 d71 d72 d73 d74 d75 d76 d77 d78 d79 d80 d81 d82 d83 d84 d85 d86 d87 d88 d89 d90 : IV) (s2 : Bool) (s7 : List UInt8) (s10 : Nat) (G : GH),
  codeC Try.prog O [] fuel (nav (Try.f3.body.getD .skip) [1, 1, 1, 1, 1, 1, 1, 1, 1, 1, 0]) [d0, d1, .bool s2, d3, d4, d5, d6, .str s7, d8, d9, .float .f64 s10, d11, d12, d13, d14, d15, d16, d17, d18, d19, d20, d21, d22, d23, d24, d25, d26, d27, d28, d29, d30, d31, d32, d33, d34, d35, d36, d37, d38, d39, d40, d41, d42, d43, d44, d45, d46, d47, d48, d49, d50, d51, d52, d53, d54, d55, d56, d57, d58, d59, d60, d61, d62, d63, d64, d65, d66, d67, d68, d69, d70, d71, d72, d73, d74, d75, d76, d77, d78, d79, d80, d81, d82, d83, d84, d85, d86, d87, d88, d89, d90] [] G (contC Try.prog O [] fuel (Try.f3.body.getD .skip) [1, 1, 1, 1, 1, 1, 1, 1, 1, 1, 0] (fun e env F G => match e with | .exit _ => none | _ => resC Try.prog Try.f3 env F G k)) =
  c3_3 O (fun (s7 : List UInt8) (s10 : Nat) G => bif decide (([32] : List UInt8).length + s7.length ≤ roomI) then
  bif decide ((([32] : List UInt8) ++ s7).length + ([10] : List UInt8).length ≤ roomI) then
  O 10 [.str ((([32] : List UInt8) ++ s7) ++ ([10] : List UInt8))] G fun v1 G2 =>
(ivTup 3 v1).bind fun c3 =>
(ivSlice (c3.getD 0 undefI)).bind fun x4 =>
(ivInt .i64 (c3.getD 1 undefI)).bind fun x5 =>
(ivInt .i64 (c3.getD 2 undefI)).bind fun x6 =>
  bif (x6 == (0 : Int)) then
  bif ((x4.2 : Int) == (1 : Int)) then
(idx? x4.1 x4.2 (0 : Int) 4).bind fun a7 =>
(ldInt G2 .i64 (GA.add a7 0)).bind fun x8 =>
(ldStr G2 (GA.add a7 1)).bind fun x9 =>
(ldFloat G2 .f64 (GA.add a7 2)).bind fun x10 =>
(ldInt G2 .i64 (GA.add a7 3)).bind fun x11 =>
  k (.bool ((x8 == (2 : Int)) && ((x9 == ([] : List UInt8)) && ((feq .f64 x10 s10) && ((x11 == (1 : Int)) && true))))) G2
else
  k (.bool false) G2
else
  k (.bool false) G2
else none
else none)  s2 s7 s10 G := by
    intros
    rw [c3_3_body]
    simp only [c3_3, c3_3_afterN]

def c3_2 {R : Type} (O : Ora R) (KN : Bool → List UInt8 → Nat → GH → Option R) (s1 : Int) (s2 : Bool) (s7 : List UInt8) (s10 : Nat) (G : GH) : Option R :=
  bif (decide (s1 > (0 : Int))) then
  bif decide (0 ≤ (0 : Int) ∧ (0 : Int) ≤ (IntKind.wrap .i64 ((s7.length : Int) - s1)) ∧ (IntKind.wrap .i64 ((s7.length : Int) - s1)) ≤ (s7.length : Int)) then
  bif decide (((s7.drop (Int.toNat (0 : Int))).take (Int.toNat (IntKind.wrap .i64 ((s7.length : Int) - s1)) - Int.toNat (0 : Int))).length + ([46] : List UInt8).length ≤ roomI) then
  bif decide (0 ≤ (IntKind.wrap .i64 ((s7.length : Int) - s1)) ∧ (IntKind.wrap .i64 ((s7.length : Int) - s1)) ≤ (s7.length : Int) ∧ (s7.length : Int) ≤ (s7.length : Int)) then
  bif decide ((((s7.drop (Int.toNat (0 : Int))).take (Int.toNat (IntKind.wrap .i64 ((s7.length : Int) - s1)) - Int.toNat (0 : Int))) ++ ([46] : List UInt8)).length + ((s7.drop (Int.toNat (IntKind.wrap .i64 ((s7.length : Int) - s1)))).take (Int.toNat (s7.length : Int) - Int.toNat (IntKind.wrap .i64 ((s7.length : Int) - s1)))).length ≤ roomI) then
  KN s2 ((((s7.drop (Int.toNat (0 : Int))).take (Int.toNat (IntKind.wrap .i64 ((s7.length : Int) - s1)) - Int.toNat (0 : Int))) ++ ([46] : List UInt8)) ++ ((s7.drop (Int.toNat (IntKind.wrap .i64 ((s7.length : Int) - s1)))).take (Int.toNat (s7.length : Int) - Int.toNat (IntKind.wrap .i64 ((s7.length : Int) - s1))))) s10 G
  else none
  else none
  else none
  else none
  else
  KN s2 s7 s10 G

theorem c3_2_body {R : Type} (O : Ora R) (fuel : Nat) (d0 d3 d4 d5 d6 d8 d9 d11 d12 d13 d14 d15 d16 d17 d18 d19 d20 d21 d22 d23 d24 d25 d26 d27 d28 d29 d30 d31 d32 d33 d34 d35 d36 d37 d38 d39 d40 d41 d42 d43 d44 d45 d46 d47 d48 d49 d50 d51 d52 d53 d54 d55 d56 d57 d58 d59 d60 d61 d62 d63 d64 d65 d66 d67 d68 d69 d70 d71 d72 d73 d74 d75 d76 d77 d78 d79 d80 d81 d82 d83 d84 d85 d86 d87 d88 d89 d90 : IV) (s1 : Int) (s2 : Bool) (s7 : List UInt8) (s10 : Nat) (G : GH) (k : Ex → List IV → List (List IV) → GH → Option R) :
  codeC Try.prog O [] fuel (nav (Try.f3.body.getD .skip) [1, 1, 1, 1, 1, 1, 1, 1, 1, 0]) [d0, .int .i64 s1, .bool s2, d3, d4, d5, d6, .str s7, d8, d9, .float .f64 s10, d11, d12, d13, d14, d15, d16, d17, d18, d19, d20, d21, d22, d23, d24, d25, d26, d27, d28, d29, d30, d31, d32, d33, d34, d35, d36, d37, d38, d39, d40, d41, d42, d43, d44, d45, d46, d47, d48, d49, d50, d51, d52, d53, d54, d55, d56, d57, d58, d59, d60, d61, d62, d63, d64, d65, d66, d67, d68, d69, d70, d71, d72, d73, d74, d75, d76, d77, d78, d79, d80, d81, d82, d83, d84, d85, d86, d87, d88, d89, d90] [] G k =
  bif (decide (s1 > (0 : Int))) then
  bif decide (0 ≤ (0 : Int) ∧ (0 : Int) ≤ (IntKind.wrap .i64 ((s7.length : Int) - s1)) ∧ (IntKind.wrap .i64 ((s7.length : Int) - s1)) ≤ (s7.length : Int)) then
  bif decide (((s7.drop (Int.toNat (0 : Int))).take (Int.toNat (IntKind.wrap .i64 ((s7.length : Int) - s1)) - Int.toNat (0 : Int))).length + ([46] : List UInt8).length ≤ roomI) then
  bif decide (0 ≤ (IntKind.wrap .i64 ((s7.length : Int) - s1)) ∧ (IntKind.wrap .i64 ((s7.length : Int) - s1)) ≤ (s7.length : Int) ∧ (s7.length : Int) ≤ (s7.length : Int)) then
  bif decide ((((s7.drop (Int.toNat (0 : Int))).take (Int.toNat (IntKind.wrap .i64 ((s7.length : Int) - s1)) - Int.toNat (0 : Int))) ++ ([46] : List UInt8)).length + ((s7.drop (Int.toNat (IntKind.wrap .i64 ((s7.length : Int) - s1)))).take (Int.toNat (s7.length : Int) - Int.toNat (IntKind.wrap .i64 ((s7.length : Int) - s1)))).length ≤ roomI) then
  k .normal [d0, .int .i64 s1, .bool s2, d3, d4, d5, d6, .str ((((s7.drop (Int.toNat (0 : Int))).take (Int.toNat (IntKind.wrap .i64 ((s7.length : Int) - s1)) - Int.toNat (0 : Int))) ++ ([46] : List UInt8)) ++ ((s7.drop (Int.toNat (IntKind.wrap .i64 ((s7.length : Int) - s1)))).take (Int.toNat (s7.length : Int) - Int.toNat (IntKind.wrap .i64 ((s7.length : Int) - s1))))), d8, d9, .float .f64 s10, d11, d12, d13, d14, d15, d16, d17, d18, d19, d20, d21, d22, d23, d24, d25, d26, d27, d28, d29, d30, d31, d32, d33, d34, d35, d36, d37, d38, d39, d40, d41, d42, d43, d44, d45, d46, .int .i64 s1, .bool (decide (s1 > (0 : Int))), .str s7, .str s7, .int .i64 (s7.length : Int), .int .i64 s1, .int .i64 (IntKind.wrap .i64 ((s7.length : Int) - s1)), .str ((s7.drop (Int.toNat (0 : Int))).take (Int.toNat (IntKind.wrap .i64 ((s7.length : Int) - s1)) - Int.toNat (0 : Int))), .str (((s7.drop (Int.toNat (0 : Int))).take (Int.toNat (IntKind.wrap .i64 ((s7.length : Int) - s1)) - Int.toNat (0 : Int))) ++ ([46] : List UInt8)), .str s7, .str s7, .int .i64 (s7.length : Int), .int .i64 s1, .int .i64 (IntKind.wrap .i64 ((s7.length : Int) - s1)), .str ((s7.drop (Int.toNat (IntKind.wrap .i64 ((s7.length : Int) - s1)))).take (Int.toNat (s7.length : Int) - Int.toNat (IntKind.wrap .i64 ((s7.length : Int) - s1)))), .str ((((s7.drop (Int.toNat (0 : Int))).take (Int.toNat (IntKind.wrap .i64 ((s7.length : Int) - s1)) - Int.toNat (0 : Int))) ++ ([46] : List UInt8)) ++ ((s7.drop (Int.toNat (IntKind.wrap .i64 ((s7.length : Int) - s1)))).take (Int.toNat (s7.length : Int) - Int.toNat (IntKind.wrap .i64 ((s7.length : Int) - s1))))), d63, d64, d65, d66, d67, d68, d69, d70, d71, d72, d73, d74, d75, d76, d77, d78, d79, d80, d81, d82, d83, d84, d85, d86, d87, d88, d89, d90] [] G
  else none
  else none
  else none
  else none
  else
  k .normal [d0, .int .i64 s1, .bool s2, d3, d4, d5, d6, .str s7, d8, d9, .float .f64 s10, d11, d12, d13, d14, d15, d16, d17, d18, d19, d20, d21, d22, d23, d24, d25, d26, d27, d28, d29, d30, d31, d32, d33, d34, d35, d36, d37, d38, d39, d40, d41, d42, d43, d44, d45, d46, .int .i64 s1, .bool (decide (s1 > (0 : Int))), d49, d50, d51, d52, d53, d54, d55, d56, d57, d58, d59, d60, d61, d62, d63, d64, d65, d66, d67, d68, d69, d70, d71, d72, d73, d74, d75, d76, d77, d78, d79, d80, d81, d82, d83, d84, d85, d86, d87, d88, d89, d90] [] G := by kernel_rfl

theorem c3_2_afterN {R : Type} (O : Ora R) (fuel : Nat) (d0 d1 d3 d4 d5 d6 d8 d9 d11 d12 d13 d14 d15 d16 d17 d18 d19 d20 d21 d22 d23 d24 d25 d26 d27 d28 d29 d30 d31 d32 d33 d34 d35 d36 d37 d38 d39 d40 d41 d42 d43 d44 d45 d46 d47 d48 d49 d50 d51 d52 d53 d54 d55 d56 d57 d58 d59 d60 d61 d62 d63 d64 d65 d66 d67 d68 d69 d70 d71 d72 d73 d74 d75 d76 d77 d78 d79 d80 d81 d82 d83 d84 d85 d86 d87 d88 d89 d90 : IV) (s2 : Bool) (s7 : List UInt8) (s10 : Nat) (G : GH) (k : IV → GH → Option R) :
  contC Try.prog O [] fuel (Try.f3.body.getD .skip) [1, 1, 1, 1, 1, 1, 1, 1, 1, 0] (fun e env F G => match e with | .exit _ => none | _ => resC Try.prog Try.f3 env F G k) .normal [d0, d1, .bool s2, d3, d4, d5, d6, .str s7, d8, d9, .float .f64 s10, d11, d12, d13, d14, d15, d16, d17, d18, d19, d20, d21, d22, d23, d24, d25, d26, d27, d28, d29, d30, d31, d32, d33, d34, d35, d36, d37, d38, d39, d40, d41, d42, d43, d44, d45, d46, d47, d48, d49, d50, d51, d52, d53, d54, d55, d56, d57, d58, d59, d60, d61, d62, d63, d64, d65, d66, d67, d68, d69, d70, d71, d72, d73, d74, d75, d76, d77, d78, d79, d80, d81, d82, d83, d84, d85, d86, d87, d88, d89, d90] [] G =
  stepN fuel (codeC Try.prog O [] fuel (nav (Try.f3.body.getD .skip) [1, 1, 1, 1, 1, 1, 1, 1, 1, 1, 0]) [d0, d1, .bool s2, d3, d4, d5, d6, .str s7, d8, d9, .float .f64 s10, d11, d12, d13, d14, d15, d16, d17, d18, d19, d20, d21, d22, d23, d24, d25, d26, d27, d28, d29, d30, d31, d32, d33, d34, d35, d36, d37, d38, d39, d40, d41, d42, d43, d44, d45, d46, d47, d48, d49, d50, d51, d52, d53, d54, d55, d56, d57, d58, d59, d60, d61, d62, d63, d64, d65, d66, d67, d68, d69, d70, d71, d72, d73, d74, d75, d76, d77, d78, d79, d80, d81, d82, d83, d84, d85, d86, d87, d88, d89, d90] [] G (contC Try.prog O [] fuel (Try.f3.body.getD .skip) [1, 1, 1, 1, 1, 1, 1, 1, 1, 1, 0] (fun e env F G => match e with | .exit _ => none | _ => resC Try.prog Try.f3 env F G k))) := by kernel_rfl

theorem c3_2_eq {R : Type} (O : Ora R) (fuel : Nat) (k : IV → GH → Option R) : ∀ (d0 d3 d4 d5 d6 d8 d9 d11 d12 d13 d14 d15 d16 d17 d18 d19 d20 d21 d22 d23 d24 d25 d26 d27 d28 d29 d30 d31 d32 d33 d34 d35 d36 d37 d38 d39 d40 d41 d42 d43 d44 d45 d46 d47 d48 d49 d50 d51 d52 d53 d54 d55 d56 d57 d58 d59 d60 d61 d62 d63 d64 d65 d66 d67 d68 d69 d70 d71 d72 d73 d74 d75 d76 d77 d78 d79 d80 d81 d82 d83 d84 d85 d86 d87 d88 d89 d90 : IV) (s1 : Int) (s2 : Bool) (s7 : List UInt8) (s10 : Nat) (G : GH),
  codeC Try.prog O [] fuel (nav (Try.f3.body.getD .skip) [1, 1, 1, 1, 1, 1, 1, 1, 1, 0]) [d0, .int .i64 s1, .bool s2, d3, d4, d5, d6, .str s7, d8, d9, .float .f64 s10, d11, d12, d13, d14, d15, d16, d17, d18, d19, d20, d21, d22, d23, d24, d25, d26, d27, d28, d29, d30, d31, d32, d33, d34, d35, d36, d37, d38, d39, d40, d41, d42, d43, d44, d45, d46, d47, d48, d49, d50, d51, d52, d53, d54, d55, d56, d57, d58, d59, d60, d61, d62, d63, d64, d65, d66, d67, d68, d69, d70, d71, d72, d73, d74, d75, d76, d77, d78, d79, d80, d81, d82, d83, d84, d85, d86, d87, d88, d89, d90] [] G (contC Try.prog O [] fuel (Try.f3.body.getD .skip) [1, 1, 1, 1, 1, 1, 1, 1, 1, 0] (fun e env F G => match e with | .exit _ => none | _ => resC Try.prog Try.f3 env F G k)) =
  c3_2 O (fun (s2 : Bool) (s7 : List UInt8) (s10 : Nat) G => stepN fuel (c3_3 O (fun (s7 : List UInt8) (s10 : Nat) G => bif decide (([32] : List UInt8).length + s7.length ≤ roomI) then
  bif decide ((([32] : List UInt8) ++ s7).length + ([10] : List UInt8).length ≤ roomI) then
  O 10 [.str ((([32] : List UInt8) ++ s7) ++ ([10] : List UInt8))] G fun v1 G2 =>
(ivTup 3 v1).bind fun c3 =>
(ivSlice (c3.getD 0 undefI)).bind fun x4 =>
(ivInt .i64 (c3.getD 1 undefI)).bind fun x5 =>
(ivInt .i64 (c3.getD 2 undefI)).bind fun x6 =>
  bif (x6 == (0 : Int)) then
  bif ((x4.2 : Int) == (1 : Int)) then
(idx? x4.1 x4.2 (0 : Int) 4).bind fun a7 =>
(ldInt G2 .i64 (GA.add a7 0)).bind fun x8 =>
(ldStr G2 (GA.add a7 1)).bind fun x9 =>
(ldFloat G2 .f64 (GA.add a7 2)).bind fun x10 =>
(ldInt G2 .i64 (GA.add a7 3)).bind fun x11 =>
  k (.bool ((x8 == (2 : Int)) && ((x9 == ([] : List UInt8)) && ((feq .f64 x10 s10) && ((x11 == (1 : Int)) && true))))) G2
else
  k (.bool false) G2
else
  k (.bool false) G2
else none
else none) s2 s7 s10 G))  s1 s2 s7 s10 G := by
    intros
    rw [c3_2_body]
    simp only [c3_2, c3_2_afterN, c3_3_eq O fuel k]

def l3_1 {R : Type} (O : Ora R) (K2 : Int → Int → Bool → List UInt8 → Nat → GH → Option R) : Nat → Int → Int → Bool → List UInt8 → Nat → Int → GH → Option R
  | 0, _, _, _, _, _, _, _ => none
  | n + 1, s0, s1, s2, s7, s8, s9, G =>
  bif (decide (s9 < s1)) then
  ((FloatKind.format .f64).mul s8 (4621819117588971520 : Nat)).bind fun r1 =>
  l3_1 O K2 n s0 s1 s2 s7 r1 (IntKind.wrap .i64 (s9 + (1 : Int))) G
  else
  K2 s0 s1 s2 s7 s8 G

theorem l3_1_body {R : Type} (O : Ora R) (fuel : Nat) (d3 d4 d5 d6 d10 d11 d12 d13 d14 d15 d16 d17 d18 d19 d20 d21 d22 d23 d24 d25 d26 d27 d28 d29 d30 d31 d32 d33 d34 d35 d36 d37 d38 d39 d40 d41 d42 d43 d44 d45 d46 d47 d48 d49 d50 d51 d52 d53 d54 d55 d56 d57 d58 d59 d60 d61 d62 d63 d64 d65 d66 d67 d68 d69 d70 d71 d72 d73 d74 d75 d76 d77 d78 d79 d80 d81 d82 d83 d84 d85 d86 d87 d88 d89 d90 : IV) (s0 : Int) (s1 : Int) (s2 : Bool) (s7 : List UInt8) (s8 : Nat) (s9 : Int) (G : GH) (k : Ex → List IV → List (List IV) → GH → Option R) :
  codeC Try.prog O [] fuel (nav (Try.f3.body.getD .skip) [1, 1, 1, 1, 1, 1, 1, 0, 1, 0, 0]) [.int .i64 s0, .int .i64 s1, .bool s2, d3, d4, d5, d6, .str s7, .float .f64 s8, .int .i64 s9, d10, d11, d12, d13, d14, d15, d16, d17, d18, d19, d20, d21, d22, d23, d24, d25, d26, d27, d28, d29, d30, d31, d32, d33, d34, d35, d36, d37, d38, d39, d40, d41, d42, d43, d44, d45, d46, d47, d48, d49, d50, d51, d52, d53, d54, d55, d56, d57, d58, d59, d60, d61, d62, d63, d64, d65, d66, d67, d68, d69, d70, d71, d72, d73, d74, d75, d76, d77, d78, d79, d80, d81, d82, d83, d84, d85, d86, d87, d88, d89, d90] [] G k =
  bif (decide (s9 < s1)) then
  ((FloatKind.format .f64).mul s8 (4621819117588971520 : Nat)).bind fun r1 =>
  k .normal [.int .i64 s0, .int .i64 s1, .bool s2, d3, d4, d5, d6, .str s7, .float .f64 r1, .int .i64 (IntKind.wrap .i64 (s9 + (1 : Int))), d10, d11, d12, d13, d14, d15, d16, d17, d18, d19, d20, d21, d22, d23, d24, d25, d26, d27, d28, d29, d30, d31, d32, d33, d34, d35, .int .i64 s9, .int .i64 s1, .bool (decide (s9 < s1)), .int .i64 s9, .int .i64 (IntKind.wrap .i64 (s9 + (1 : Int))), .float .f64 s8, .float .f64 r1, d43, d44, d45, d46, d47, d48, d49, d50, d51, d52, d53, d54, d55, d56, d57, d58, d59, d60, d61, d62, d63, d64, d65, d66, d67, d68, d69, d70, d71, d72, d73, d74, d75, d76, d77, d78, d79, d80, d81, d82, d83, d84, d85, d86, d87, d88, d89, d90] [] G
  else
  k (.exit 2) [.int .i64 s0, .int .i64 s1, .bool s2, d3, d4, d5, d6, .str s7, .float .f64 s8, .int .i64 s9, d10, d11, d12, d13, d14, d15, d16, d17, d18, d19, d20, d21, d22, d23, d24, d25, d26, d27, d28, d29, d30, d31, d32, d33, d34, d35, .int .i64 s9, .int .i64 s1, .bool (decide (s9 < s1)), d39, d40, d41, d42, d43, d44, d45, d46, d47, d48, d49, d50, d51, d52, d53, d54, d55, d56, d57, d58, d59, d60, d61, d62, d63, d64, d65, d66, d67, d68, d69, d70, d71, d72, d73, d74, d75, d76, d77, d78, d79, d80, d81, d82, d83, d84, d85, d86, d87, d88, d89, d90] [] G := by kernel_rfl

theorem l3_1_after2 {R : Type} (O : Ora R) (fuel : Nat) (d3 d4 d5 d6 d9 d10 d11 d12 d13 d14 d15 d16 d17 d18 d19 d20 d21 d22 d23 d24 d25 d26 d27 d28 d29 d30 d31 d32 d33 d34 d35 d36 d37 d38 d39 d40 d41 d42 d43 d44 d45 d46 d47 d48 d49 d50 d51 d52 d53 d54 d55 d56 d57 d58 d59 d60 d61 d62 d63 d64 d65 d66 d67 d68 d69 d70 d71 d72 d73 d74 d75 d76 d77 d78 d79 d80 d81 d82 d83 d84 d85 d86 d87 d88 d89 d90 : IV) (s0 : Int) (s1 : Int) (s2 : Bool) (s7 : List UInt8) (s8 : Nat) (G : GH) (k : IV → GH → Option R) :
  contC Try.prog O [] fuel (Try.f3.body.getD .skip) [1, 1, 1, 1, 1, 1, 1, 0, 1, 0] (fun e env F G => match e with | .exit _ => none | _ => resC Try.prog Try.f3 env F G k) (.exit 2) [.int .i64 s0, .int .i64 s1, .bool s2, d3, d4, d5, d6, .str s7, .float .f64 s8, d9, d10, d11, d12, d13, d14, d15, d16, d17, d18, d19, d20, d21, d22, d23, d24, d25, d26, d27, d28, d29, d30, d31, d32, d33, d34, d35, d36, d37, d38, d39, d40, d41, d42, d43, d44, d45, d46, d47, d48, d49, d50, d51, d52, d53, d54, d55, d56, d57, d58, d59, d60, d61, d62, d63, d64, d65, d66, d67, d68, d69, d70, d71, d72, d73, d74, d75, d76, d77, d78, d79, d80, d81, d82, d83, d84, d85, d86, d87, d88, d89, d90] [] G =
  ((FloatKind.format .f64).div (FloatKind.nearest .f64 s0) s8).bind fun r1 =>
  stepN fuel (codeC Try.prog O [] fuel (nav (Try.f3.body.getD .skip) [1, 1, 1, 1, 1, 1, 1, 1, 1, 0]) [.int .i64 s0, .int .i64 s1, .bool s2, d3, d4, d5, d6, .str s7, .float .f64 s8, d9, .float .f64 r1, d11, d12, d13, d14, d15, d16, d17, d18, d19, d20, d21, d22, d23, d24, d25, d26, d27, d28, d29, d30, d31, d32, d33, d34, d35, d36, d37, d38, d39, d40, d41, d42, .int .i64 s0, .float .f64 (FloatKind.nearest .f64 s0), .float .f64 s8, .float .f64 r1, d47, d48, d49, d50, d51, d52, d53, d54, d55, d56, d57, d58, d59, d60, d61, d62, d63, d64, d65, d66, d67, d68, d69, d70, d71, d72, d73, d74, d75, d76, d77, d78, d79, d80, d81, d82, d83, d84, d85, d86, d87, d88, d89, d90] [] G (contC Try.prog O [] fuel (Try.f3.body.getD .skip) [1, 1, 1, 1, 1, 1, 1, 1, 1, 0] (fun e env F G => match e with | .exit _ => none | _ => resC Try.prog Try.f3 env F G k))) := by kernel_rfl

theorem l3_1_eq {R : Type} (O : Ora R) (fuel : Nat) (k : IV → GH → Option R) : ∀ (n : Nat) (d3 d4 d5 d6 d10 d11 d12 d13 d14 d15 d16 d17 d18 d19 d20 d21 d22 d23 d24 d25 d26 d27 d28 d29 d30 d31 d32 d33 d34 d35 d36 d37 d38 d39 d40 d41 d42 d43 d44 d45 d46 d47 d48 d49 d50 d51 d52 d53 d54 d55 d56 d57 d58 d59 d60 d61 d62 d63 d64 d65 d66 d67 d68 d69 d70 d71 d72 d73 d74 d75 d76 d77 d78 d79 d80 d81 d82 d83 d84 d85 d86 d87 d88 d89 d90 : IV) (s0 : Int) (s1 : Int) (s2 : Bool) (s7 : List UInt8) (s8 : Nat) (s9 : Int) (G : GH),
  loopN (fun env F G k => codeC Try.prog O [] fuel (nav (Try.f3.body.getD .skip) [1, 1, 1, 1, 1, 1, 1, 0, 1, 0, 0]) env F G k) n [.int .i64 s0, .int .i64 s1, .bool s2, d3, d4, d5, d6, .str s7, .float .f64 s8, .int .i64 s9, d10, d11, d12, d13, d14, d15, d16, d17, d18, d19, d20, d21, d22, d23, d24, d25, d26, d27, d28, d29, d30, d31, d32, d33, d34, d35, d36, d37, d38, d39, d40, d41, d42, d43, d44, d45, d46, d47, d48, d49, d50, d51, d52, d53, d54, d55, d56, d57, d58, d59, d60, d61, d62, d63, d64, d65, d66, d67, d68, d69, d70, d71, d72, d73, d74, d75, d76, d77, d78, d79, d80, d81, d82, d83, d84, d85, d86, d87, d88, d89, d90] [] G (contC Try.prog O [] fuel (Try.f3.body.getD .skip) [1, 1, 1, 1, 1, 1, 1, 0, 1, 0] (fun e env F G => match e with | .exit _ => none | _ => resC Try.prog Try.f3 env F G k)) =
  l3_1 O (fun (s0 : Int) (s1 : Int) (s2 : Bool) (s7 : List UInt8) (s8 : Nat) G => ((FloatKind.format .f64).div (FloatKind.nearest .f64 s0) s8).bind fun r1 =>
  stepN fuel (c3_2 O (fun (s2 : Bool) (s7 : List UInt8) (s10 : Nat) G => stepN fuel (c3_3 O (fun (s7 : List UInt8) (s10 : Nat) G => bif decide (([32] : List UInt8).length + s7.length ≤ roomI) then
  bif decide ((([32] : List UInt8) ++ s7).length + ([10] : List UInt8).length ≤ roomI) then
  O 10 [.str ((([32] : List UInt8) ++ s7) ++ ([10] : List UInt8))] G fun v2 G3 =>
(ivTup 3 v2).bind fun c4 =>
(ivSlice (c4.getD 0 undefI)).bind fun x5 =>
(ivInt .i64 (c4.getD 1 undefI)).bind fun x6 =>
(ivInt .i64 (c4.getD 2 undefI)).bind fun x7 =>
  bif (x7 == (0 : Int)) then
  bif ((x5.2 : Int) == (1 : Int)) then
(idx? x5.1 x5.2 (0 : Int) 4).bind fun a8 =>
(ldInt G3 .i64 (GA.add a8 0)).bind fun x9 =>
(ldStr G3 (GA.add a8 1)).bind fun x10 =>
(ldFloat G3 .f64 (GA.add a8 2)).bind fun x11 =>
(ldInt G3 .i64 (GA.add a8 3)).bind fun x12 =>
  k (.bool ((x9 == (2 : Int)) && ((x10 == ([] : List UInt8)) && ((feq .f64 x11 s10) && ((x12 == (1 : Int)) && true))))) G3
else
  k (.bool false) G3
else
  k (.bool false) G3
else none
else none) s2 s7 s10 G)) s1 s2 s7 r1 G)) n s0 s1 s2 s7 s8 s9 G := by
  intro n
  induction n with
  | zero => intros; rfl
  | succ n ih =>
    intros
    rw [loopN_succ, l3_1_body]
    simp only [l3_1, loopK_normal, loopK_exit, loopK_ret, ih, l3_1_after2, c3_3_eq O fuel k, c3_2_eq O fuel k]

def l3_0 {R : Type} (O : Ora R) (K0 : Int → Int → Bool → List UInt8 → GH → Option R) : Nat → Int → Int → Bool → List UInt8 → GH → Option R
  | 0, _, _, _, _, _ => none
  | n + 1, s0, s1, s2, s7, G =>
  bif (decide ((s7.length : Int) < (IntKind.wrap .i64 (s1 + (1 : Int))))) then
  bif decide (([48] : List UInt8).length + s7.length ≤ roomI) then
  l3_0 O K0 n s0 s1 s2 (([48] : List UInt8) ++ s7) G
  else none
  else
  K0 s0 s1 s2 s7 G

theorem l3_0_body {R : Type} (O : Ora R) (fuel : Nat) (d3 d4 d5 d6 d8 d9 d10 d11 d12 d13 d14 d15 d16 d17 d18 d19 d20 d21 d22 d23 d24 d25 d26 d27 d28 d29 d30 d31 d32 d33 d34 d35 d36 d37 d38 d39 d40 d41 d42 d43 d44 d45 d46 d47 d48 d49 d50 d51 d52 d53 d54 d55 d56 d57 d58 d59 d60 d61 d62 d63 d64 d65 d66 d67 d68 d69 d70 d71 d72 d73 d74 d75 d76 d77 d78 d79 d80 d81 d82 d83 d84 d85 d86 d87 d88 d89 d90 : IV) (s0 : Int) (s1 : Int) (s2 : Bool) (s7 : List UInt8) (G : GH) (k : Ex → List IV → List (List IV) → GH → Option R) :
  codeC Try.prog O [] fuel (nav (Try.f3.body.getD .skip) [1, 1, 1, 1, 0, 0, 0]) [.int .i64 s0, .int .i64 s1, .bool s2, d3, d4, d5, d6, .str s7, d8, d9, d10, d11, d12, d13, d14, d15, d16, d17, d18, d19, d20, d21, d22, d23, d24, d25, d26, d27, d28, d29, d30, d31, d32, d33, d34, d35, d36, d37, d38, d39, d40, d41, d42, d43, d44, d45, d46, d47, d48, d49, d50, d51, d52, d53, d54, d55, d56, d57, d58, d59, d60, d61, d62, d63, d64, d65, d66, d67, d68, d69, d70, d71, d72, d73, d74, d75, d76, d77, d78, d79, d80, d81, d82, d83, d84, d85, d86, d87, d88, d89, d90] [] G k =
  bif (decide ((s7.length : Int) < (IntKind.wrap .i64 (s1 + (1 : Int))))) then
  bif decide (([48] : List UInt8).length + s7.length ≤ roomI) then
  k .normal [.int .i64 s0, .int .i64 s1, .bool s2, d3, d4, d5, d6, .str (([48] : List UInt8) ++ s7), d8, d9, d10, d11, d12, d13, d14, d15, d16, d17, d18, d19, d20, d21, d22, d23, d24, d25, .str s7, .int .i64 (s7.length : Int), .int .i64 s1, .int .i64 (IntKind.wrap .i64 (s1 + (1 : Int))), .bool (decide ((s7.length : Int) < (IntKind.wrap .i64 (s1 + (1 : Int))))), .str s7, .str (([48] : List UInt8) ++ s7), d33, d34, d35, d36, d37, d38, d39, d40, d41, d42, d43, d44, d45, d46, d47, d48, d49, d50, d51, d52, d53, d54, d55, d56, d57, d58, d59, d60, d61, d62, d63, d64, d65, d66, d67, d68, d69, d70, d71, d72, d73, d74, d75, d76, d77, d78, d79, d80, d81, d82, d83, d84, d85, d86, d87, d88, d89, d90] [] G
  else none
  else
  k (.exit 0) [.int .i64 s0, .int .i64 s1, .bool s2, d3, d4, d5, d6, .str s7, d8, d9, d10, d11, d12, d13, d14, d15, d16, d17, d18, d19, d20, d21, d22, d23, d24, d25, .str s7, .int .i64 (s7.length : Int), .int .i64 s1, .int .i64 (IntKind.wrap .i64 (s1 + (1 : Int))), .bool (decide ((s7.length : Int) < (IntKind.wrap .i64 (s1 + (1 : Int))))), d31, d32, d33, d34, d35, d36, d37, d38, d39, d40, d41, d42, d43, d44, d45, d46, d47, d48, d49, d50, d51, d52, d53, d54, d55, d56, d57, d58, d59, d60, d61, d62, d63, d64, d65, d66, d67, d68, d69, d70, d71, d72, d73, d74, d75, d76, d77, d78, d79, d80, d81, d82, d83, d84, d85, d86, d87, d88, d89, d90] [] G := by kernel_rfl

theorem l3_0_after0 {R : Type} (O : Ora R) (fuel : Nat) (d3 d4 d5 d6 d8 d9 d10 d11 d12 d13 d14 d15 d16 d17 d18 d19 d20 d21 d22 d23 d24 d25 d26 d27 d28 d29 d30 d31 d32 d33 d34 d35 d36 d37 d38 d39 d40 d41 d42 d43 d44 d45 d46 d47 d48 d49 d50 d51 d52 d53 d54 d55 d56 d57 d58 d59 d60 d61 d62 d63 d64 d65 d66 d67 d68 d69 d70 d71 d72 d73 d74 d75 d76 d77 d78 d79 d80 d81 d82 d83 d84 d85 d86 d87 d88 d89 d90 : IV) (s0 : Int) (s1 : Int) (s2 : Bool) (s7 : List UInt8) (G : GH) (k : IV → GH → Option R) :
  contC Try.prog O [] fuel (Try.f3.body.getD .skip) [1, 1, 1, 1, 0, 0] (fun e env F G => match e with | .exit _ => none | _ => resC Try.prog Try.f3 env F G k) (.exit 0) [.int .i64 s0, .int .i64 s1, .bool s2, d3, d4, d5, d6, .str s7, d8, d9, d10, d11, d12, d13, d14, d15, d16, d17, d18, d19, d20, d21, d22, d23, d24, d25, d26, d27, d28, d29, d30, d31, d32, d33, d34, d35, d36, d37, d38, d39, d40, d41, d42, d43, d44, d45, d46, d47, d48, d49, d50, d51, d52, d53, d54, d55, d56, d57, d58, d59, d60, d61, d62, d63, d64, d65, d66, d67, d68, d69, d70, d71, d72, d73, d74, d75, d76, d77, d78, d79, d80, d81, d82, d83, d84, d85, d86, d87, d88, d89, d90] [] G =
  bif (decide ((s7.length : Int) > (15 : Int))) then
  k (.bool true) G
  else
  loopN (fun env F G k => codeC Try.prog O [] fuel (nav (Try.f3.body.getD .skip) [1, 1, 1, 1, 1, 1, 1, 0, 1, 0, 0]) env F G k) fuel [.int .i64 s0, .int .i64 s1, .bool s2, d3, d4, d5, d6, .str s7, .float .f64 (4607182418800017408 : Nat), .int .i64 (0 : Int), d10, d11, d12, d13, d14, d15, d16, d17, d18, d19, d20, d21, d22, d23, d24, d25, d26, d27, d28, d29, d30, d31, d32, .str s7, .int .i64 (s7.length : Int), .bool (decide ((s7.length : Int) > (15 : Int))), d36, d37, d38, d39, d40, d41, d42, d43, d44, d45, d46, d47, d48, d49, d50, d51, d52, d53, d54, d55, d56, d57, d58, d59, d60, d61, d62, d63, d64, d65, d66, d67, d68, d69, d70, d71, d72, d73, d74, d75, d76, d77, d78, d79, d80, d81, d82, d83, d84, d85, d86, d87, d88, d89, d90] [] G (contC Try.prog O [] fuel (Try.f3.body.getD .skip) [1, 1, 1, 1, 1, 1, 1, 0, 1, 0] (fun e env F G => match e with | .exit _ => none | _ => resC Try.prog Try.f3 env F G k)) := by kernel_rfl

theorem l3_0_eq {R : Type} (O : Ora R) (fuel : Nat) (k : IV → GH → Option R) : ∀ (n : Nat) (d3 d4 d5 d6 d8 d9 d10 d11 d12 d13 d14 d15 d16 d17 d18 d19 d20 d21 d22 d23 d24 d25 d26 d27 d28 d29 d30 d31 d32 d33 d34 d35 d36 d37 d38 d39 d40 d41 d42 d43 d44 d45 d46 d47 d48 d49 d50 d51 d52 d53 d54 d55 d56 d57 d58 d59 d60 d61 d62 d63 d64 d65 d66 d67 d68 d69 d70 d71 d72 d73 d74 d75 d76 d77 d78 d79 d80 d81 d82 d83 d84 d85 d86 d87 d88 d89 d90 : IV) (s0 : Int) (s1 : Int) (s2 : Bool) (s7 : List UInt8) (G : GH),
  loopN (fun env F G k => codeC Try.prog O [] fuel (nav (Try.f3.body.getD .skip) [1, 1, 1, 1, 0, 0, 0]) env F G k) n [.int .i64 s0, .int .i64 s1, .bool s2, d3, d4, d5, d6, .str s7, d8, d9, d10, d11, d12, d13, d14, d15, d16, d17, d18, d19, d20, d21, d22, d23, d24, d25, d26, d27, d28, d29, d30, d31, d32, d33, d34, d35, d36, d37, d38, d39, d40, d41, d42, d43, d44, d45, d46, d47, d48, d49, d50, d51, d52, d53, d54, d55, d56, d57, d58, d59, d60, d61, d62, d63, d64, d65, d66, d67, d68, d69, d70, d71, d72, d73, d74, d75, d76, d77, d78, d79, d80, d81, d82, d83, d84, d85, d86, d87, d88, d89, d90] [] G (contC Try.prog O [] fuel (Try.f3.body.getD .skip) [1, 1, 1, 1, 0, 0] (fun e env F G => match e with | .exit _ => none | _ => resC Try.prog Try.f3 env F G k)) =
  l3_0 O (fun (s0 : Int) (s1 : Int) (s2 : Bool) (s7 : List UInt8) G => bif (decide ((s7.length : Int) > (15 : Int))) then
  k (.bool true) G
else
  l3_1 O (fun (s0 : Int) (s1 : Int) (s2 : Bool) (s7 : List UInt8) (s8 : Nat) G => ((FloatKind.format .f64).div (FloatKind.nearest .f64 s0) s8).bind fun r1 =>
  stepN fuel (c3_2 O (fun (s2 : Bool) (s7 : List UInt8) (s10 : Nat) G => stepN fuel (c3_3 O (fun (s7 : List UInt8) (s10 : Nat) G => bif decide (([32] : List UInt8).length + s7.length ≤ roomI) then
  bif decide ((([32] : List UInt8) ++ s7).length + ([10] : List UInt8).length ≤ roomI) then
  O 10 [.str ((([32] : List UInt8) ++ s7) ++ ([10] : List UInt8))] G fun v2 G3 =>
(ivTup 3 v2).bind fun c4 =>
(ivSlice (c4.getD 0 undefI)).bind fun x5 =>
(ivInt .i64 (c4.getD 1 undefI)).bind fun x6 =>
(ivInt .i64 (c4.getD 2 undefI)).bind fun x7 =>
  bif (x7 == (0 : Int)) then
  bif ((x5.2 : Int) == (1 : Int)) then
(idx? x5.1 x5.2 (0 : Int) 4).bind fun a8 =>
(ldInt G3 .i64 (GA.add a8 0)).bind fun x9 =>
(ldStr G3 (GA.add a8 1)).bind fun x10 =>
(ldFloat G3 .f64 (GA.add a8 2)).bind fun x11 =>
(ldInt G3 .i64 (GA.add a8 3)).bind fun x12 =>
  k (.bool ((x9 == (2 : Int)) && ((x10 == ([] : List UInt8)) && ((feq .f64 x11 s10) && ((x12 == (1 : Int)) && true))))) G3
else
  k (.bool false) G3
else
  k (.bool false) G3
else none
else none) s2 s7 s10 G)) s1 s2 s7 r1 G)) fuel s0 s1 s2 s7 (4607182418800017408 : Nat) (0 : Int) G) n s0 s1 s2 s7 G := by
  intro n
  induction n with
  | zero => intros; rfl
  | succ n ih =>
    intros
    rw [loopN_succ, l3_0_body]
    simp only [l3_0, loopK_normal, loopK_exit, loopK_ret, ih, l3_0_after0, c3_3_eq O fuel k, c3_2_eq O fuel k, l3_1_eq O fuel k]

theorem e3_raw {R : Type} (O : Ora R) (fuel : Nat) (p0 : Int) (p1 : Int) (p2 : Bool) (G : GH) (k : IV → GH → Option R) :
  bodyC Try.prog O [] fuel Try.f3 [.int .i64 p0, .int .i64 p1, .bool p2] G k =
  O 8 [] G fun v1 G2 =>
  (ivBool v1).bind fun x3 =>
  bif (!x3) then
  k (.bool false) G2
  else
  O 9 [.int .i64 (IntKind.wrap .i64 (Int.tmod (IntKind.wrap .u64 p0) (1000000000000000 : Int)))] G2 fun v4 G5 =>
  (ivStr v4).bind fun x6 =>
  loopN (fun env F G k => codeC Try.prog O [] fuel (nav (Try.f3.body.getD .skip) [1, 1, 1, 1, 0, 0, 0]) env F G k) fuel [.int .i64 (IntKind.wrap .i64 (Int.tmod (IntKind.wrap .u64 p0) (1000000000000000 : Int))), .int .i64 (IntKind.wrap .i64 (Int.tmod (IntKind.wrap .u64 p1) (15 : Int))), .bool p2, .tuple [], .tuple [], .tuple [], .bool false, .str x6, .tuple [], .tuple [], .tuple [], .tuple [], .tuple [], .tuple [], .bool x3, .bool (!x3), .int .i64 p0, .int .u64 (IntKind.wrap .u64 p0), .int .u64 (Int.tmod (IntKind.wrap .u64 p0) (1000000000000000 : Int)), .int .i64 (IntKind.wrap .i64 (Int.tmod (IntKind.wrap .u64 p0) (1000000000000000 : Int))), .int .i64 p1, .int .u64 (IntKind.wrap .u64 p1), .int .u64 (Int.tmod (IntKind.wrap .u64 p1) (15 : Int)), .int .i64 (IntKind.wrap .i64 (Int.tmod (IntKind.wrap .u64 p1) (15 : Int))), .int .i64 (IntKind.wrap .i64 (Int.tmod (IntKind.wrap .u64 p0) (1000000000000000 : Int))), .str x6, .tuple [], .tuple [], .tuple [], .tuple [], .tuple [], .tuple [], .tuple [], .tuple [], .tuple [], .tuple [], .tuple [], .tuple [], .tuple [], .tuple [], .tuple [], .tuple [], .tuple [], .tuple [], .tuple [], .tuple [], .tuple [], .tuple [], .tuple [], .tuple [], .tuple [], .tuple [], .tuple [], .tuple [], .tuple [], .tuple [], .tuple [], .tuple [], .tuple [], .tuple [], .tuple [], .tuple [], .tuple [], .tuple [], .tuple [], .tuple [], .tuple [], .tuple [], .tuple [], .tuple [], .tuple [], .tuple [], .tuple [], .tuple [], .tuple [], .tuple [], .tuple [], .tuple [], .tuple [], .tuple [], .tuple [], .tuple [], .tuple [], .tuple [], .tuple [], .tuple [], .tuple [], .tuple [], .tuple [], .tuple [], .tuple []] [] G5 (contC Try.prog O [] fuel (Try.f3.body.getD .skip) [1, 1, 1, 1, 0, 0] (fun e env F G => match e with | .exit _ => none | _ => resC Try.prog Try.f3 env F G k)) := by kernel_rfl

theorem e3 {R : Type} (O : Ora R) (fuel : Nat) (p0 : Int) (p1 : Int) (p2 : Bool) (G : GH) (k : IV → GH → Option R) :
  bodyC Try.prog O [] fuel Try.f3 [.int .i64 p0, .int .i64 p1, .bool p2] G k =
  O 8 [] G fun v1 G2 =>
  (ivBool v1).bind fun x3 =>
  bif (!x3) then
  k (.bool false) G2
  else
  O 9 [.int .i64 (IntKind.wrap .i64 (Int.tmod (IntKind.wrap .u64 p0) (1000000000000000 : Int)))] G2 fun v4 G5 =>
  (ivStr v4).bind fun x6 =>
  l3_0 O (fun (s0 : Int) (s1 : Int) (s2 : Bool) (s7 : List UInt8) G => bif (decide ((s7.length : Int) > (15 : Int))) then
  k (.bool true) G
  else
  l3_1 O (fun (s0 : Int) (s1 : Int) (s2 : Bool) (s7 : List UInt8) (s8 : Nat) G => ((FloatKind.format .f64).div (FloatKind.nearest .f64 s0) s8).bind fun r7 =>
  stepN fuel (c3_2 O (fun (s2 : Bool) (s7 : List UInt8) (s10 : Nat) G => stepN fuel (c3_3 O (fun (s7 : List UInt8) (s10 : Nat) G => bif decide (([32] : List UInt8).length + s7.length ≤ roomI) then
  bif decide ((([32] : List UInt8) ++ s7).length + ([10] : List UInt8).length ≤ roomI) then
  O 10 [.str ((([32] : List UInt8) ++ s7) ++ ([10] : List UInt8))] G fun v8 G9 =>
  (ivTup 3 v8).bind fun c10 =>
  (ivSlice (c10.getD 0 undefI)).bind fun x11 =>
  (ivInt .i64 (c10.getD 1 undefI)).bind fun x12 =>
  (ivInt .i64 (c10.getD 2 undefI)).bind fun x13 =>
  bif (x13 == (0 : Int)) then
  bif ((x11.2 : Int) == (1 : Int)) then
  (idx? x11.1 x11.2 (0 : Int) 4).bind fun a14 =>
  (ldInt G9 .i64 (GA.add a14 0)).bind fun x15 =>
  (ldStr G9 (GA.add a14 1)).bind fun x16 =>
  (ldFloat G9 .f64 (GA.add a14 2)).bind fun x17 =>
  (ldInt G9 .i64 (GA.add a14 3)).bind fun x18 =>
  k (.bool ((x15 == (2 : Int)) && ((x16 == ([] : List UInt8)) && ((feq .f64 x17 s10) && ((x18 == (1 : Int)) && true))))) G9
  else
  k (.bool false) G9
  else
  k (.bool false) G9
  else none
  else none) s2 s7 s10 G)) s1 s2 s7 r7 G)) fuel s0 s1 s2 s7 (4607182418800017408 : Nat) (0 : Int) G) fuel (IntKind.wrap .i64 (Int.tmod (IntKind.wrap .u64 p0) (1000000000000000 : Int))) (IntKind.wrap .i64 (Int.tmod (IntKind.wrap .u64 p1) (15 : Int))) p2 x6 G5 := by
  rw [e3_raw]; simp only [c3_3_eq O fuel k, c3_2_eq O fuel k, l3_1_eq O fuel k, l3_0_eq O fuel k]

theorem r3 {R : Type} (fuel n : Nat) (p0 : Int) (p1 : Int) (p2 : Bool) (G : GH) (k : IV → GH → Option R) :
  runC Try.prog lo0 fuel (n + 1) 3 [.int .i64 p0, .int .i64 p1, .bool p2] G k = bodyC Try.prog (runC Try.prog lo0 fuel n) [] fuel Try.f3 [.int .i64 p0, .int .i64 p1, .bool p2] G k := run_body Try.func3 rfl rfl

end Go.LI.Lex

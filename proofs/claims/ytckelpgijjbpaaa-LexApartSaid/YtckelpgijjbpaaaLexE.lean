/- What the interpreter gives for the small functions of the reference (written by decomp.py). -/
import Derived.Test.YtckelpgijjbpaaaLexA
import Derived.Test.YtckelpgijjbpaaaLiAll2
namespace Go.LI.Lex
open Go.Proofs.Ytckelpgijjbpaaa Go Go.Proofs Go.LI
set_option maxRecDepth 100000
set_option linter.unusedVariables false
set_option linter.unusedSimpArgs false
/-! ### lantern/lanternref15.New -/
theorem e13 {R : Type} (O : Ora R) (fuel : Nat) (p0 : List UInt8) (G : GH) (k : IV → GH → Option R) :
  bodyC Try.prog O [] fuel Try.f13 [.str p0] G k =
  k (.ptr (some (gaddr G))) (gnew G [.str p0, .int .i64 (0 : Int), .int .i64 (1 : Int), .int .i64 (0 : Int), .int .i64 (0 : Int)] 47) := by kernel_rfl

theorem r13 {R : Type} (fuel n : Nat) (p0 : List UInt8) (G : GH) (k : IV → GH → Option R) :
  runL Try.prog lexLib lo0 fuel (n + 1) 13 [.str p0] G k = bodyC Try.prog (runL Try.prog lexLib lo0 fuel n) [] fuel Try.f13 [.str p0] G k := runL_body Try.func13 rfl rfl rfl

/-! ### lantern/lanternref15.Same -/
theorem e14 {R : Type} (O : Ora R) (fuel : Nat) (p0_0 : Int) (p0_1 : List UInt8) (p0_2 : Nat) (p0_3 : Int) (p1_0 : Int) (p1_1 : List UInt8) (p1_2 : Nat) (p1_3 : Int) (G : GH) (k : IV → GH → Option R) :
  bodyC Try.prog O [2, 3] fuel Try.f14 [.agg [.int .i64 p0_0, .str p0_1, .float .f64 p0_2, .int .i64 p0_3], .agg [.int .i64 p1_0, .str p1_1, .float .f64 p1_2, .int .i64 p1_3]] G k =
  bif (p0_0 == p1_0) then
  bif (p0_1 == p1_1) then
  bif (feq .f64 p0_2 p1_2) then
  k (.bool (p0_3 == p1_3)) G
  else
  k (.bool false) G
  else
  k (.bool false) G
  else
  k (.bool false) G := by kernel_rfl

theorem r14 {R : Type} (fuel n : Nat) (p0_0 : Int) (p0_1 : List UInt8) (p0_2 : Nat) (p0_3 : Int) (p1_0 : Int) (p1_1 : List UInt8) (p1_2 : Nat) (p1_3 : Int) (G : GH) (k : IV → GH → Option R) :
  runL Try.prog lexLib lo0 fuel (n + 1) 14 [.agg [.int .i64 p0_0, .str p0_1, .float .f64 p0_2, .int .i64 p0_3], .agg [.int .i64 p1_0, .str p1_1, .float .f64 p1_2, .int .i64 p1_3]] G k = bodyC Try.prog (runL Try.prog lexLib lo0 fuel n) [2, 3] fuel Try.f14 [.agg [.int .i64 p0_0, .str p0_1, .float .f64 p0_2, .int .i64 p0_3], .agg [.int .i64 p1_0, .str p1_1, .float .f64 p1_2, .int .i64 p1_3]] G k := runL_body Try.func14 rfl rfl rfl

/-! ### (*lantern/lanternref15.Reader).fail -/
theorem e30 {R : Type} (O : Ora R) (fuel : Nat) (p0 : GA) (p1 : Int) (G : GH) (k : IV → GH → Option R) :
  bodyC Try.prog O [4] fuel Try.f30 [.ptr (some p0), .int .i64 p1] G k =
  (gst G (GA.add p0 4) [.int .i64 p1]).bind fun G1 =>
  k (.tuple [.agg [.int .i64 (0 : Int), .str ([] : List UInt8), .float .f64 (0 : Nat), .int .i64 (0 : Int)], .int .i64 p1]) G1 := by kernel_rfl

theorem r30 {R : Type} (fuel n : Nat) (p0 : GA) (p1 : Int) (G : GH) (k : IV → GH → Option R) :
  runL Try.prog lexLib lo0 fuel (n + 1) 30 [.ptr (some p0), .int .i64 p1] G k = bodyC Try.prog (runL Try.prog lexLib lo0 fuel n) [4] fuel Try.f30 [.ptr (some p0), .int .i64 p1] G k := runL_body Try.func30 rfl rfl rfl

/-! ### (*lantern/lanternref15.Reader).here -/
theorem e31 {R : Type} (O : Ora R) (fuel : Nat) (p0 : GA) (G : GH) (k : IV → GH → Option R) :
  bodyC Try.prog O [] fuel Try.f31 [.ptr (some p0)] G k =
  (ldInt G .i64 (GA.add p0 1)).bind fun x1 =>
  (ldStr G (GA.add p0 0)).bind fun x2 =>
  bif (decide (x1 < (x2.length : Int))) then
  (ldStr G (GA.add p0 0)).bind fun x3 =>
  (ldInt G .i64 (GA.add p0 1)).bind fun x4 =>
  bif decide (0 ≤ x4 ∧ x4 < (x3.length : Int)) then
  k (.int .u8 ((x3.getD (Int.toNat x4) 0).toNat : Int)) G
  else none
  else
  k (.int .u8 (0 : Int)) G := by kernel_rfl

theorem r31 {R : Type} (fuel n : Nat) (p0 : GA) (G : GH) (k : IV → GH → Option R) :
  runL Try.prog lexLib lo0 fuel (n + 1) 31 [.ptr (some p0)] G k = bodyC Try.prog (runL Try.prog lexLib lo0 fuel n) [] fuel Try.f31 [.ptr (some p0)] G k := runL_body Try.func31 rfl rfl rfl

/-! ### lantern/lanternref15.Letter -/
theorem e32 {R : Type} (O : Ora R) (fuel : Nat) (p0 : Int) (G : GH) (k : IV → GH → Option R) :
  bodyC Try.prog O [999999] fuel Try.f32 [.int .u8 p0] G k =
  bif (decide (p0 ≥ (97 : Int))) then
  bif (decide (p0 ≤ (122 : Int))) then
  k (.bool true) G
  else
  bif (decide (p0 ≥ (65 : Int))) then
  k (.bool (decide (p0 ≤ (90 : Int)))) G
  else
  k (.bool false) G
  else
  bif (decide (p0 ≥ (65 : Int))) then
  k (.bool (decide (p0 ≤ (90 : Int)))) G
  else
  k (.bool false) G := by kernel_rfl

theorem r32 {R : Type} (fuel n : Nat) (p0 : Int) (G : GH) (k : IV → GH → Option R) :
  runL Try.prog lexLib lo0 fuel (n + 1) 32 [.int .u8 p0] G k = bodyC Try.prog (runL Try.prog lexLib lo0 fuel n) [999999] fuel Try.f32 [.int .u8 p0] [] (fun v _ => if isFlat v then k v G else none) := runL_pure Try.func32 rfl rfl rfl rfl

/-! ### lantern/lanternref15.Digit -/
theorem e33 {R : Type} (O : Ora R) (fuel : Nat) (p0 : Int) (G : GH) (k : IV → GH → Option R) :
  bodyC Try.prog O [999999] fuel Try.f33 [.int .u8 p0] G k =
  bif (decide (p0 ≥ (48 : Int))) then
  k (.bool (decide (p0 ≤ (57 : Int)))) G
  else
  k (.bool false) G := by kernel_rfl

theorem r33 {R : Type} (fuel n : Nat) (p0 : Int) (G : GH) (k : IV → GH → Option R) :
  runL Try.prog lexLib lo0 fuel (n + 1) 33 [.int .u8 p0] G k = bodyC Try.prog (runL Try.prog lexLib lo0 fuel n) [999999] fuel Try.f33 [.int .u8 p0] [] (fun v _ => if isFlat v then k v G else none) := runL_pure Try.func33 rfl rfl rfl rfl

/-! ### (*lantern/lanternref15.Reader).gap -/
def u29_1 {R : Type} (O : Ora R) (KN : GA → Bool → GH → Option R) (Kret : GH → Option R) (s0 : GA) (s2 : Bool) (s3 : Int) (G : GH) : Option R :=
  bif (s3 == (10 : Int)) then
  (ldInt G .i64 (GA.add s0 2)).bind fun x1 =>
  (gst G (GA.add s0 2) [.int .i64 (IntKind.wrap .i64 (x1 + (1 : Int)))]).bind fun G2 =>
  KN s0 false G2
  else
  bif (s3 == (35 : Int)) then
  KN s0 true G
  else
  bif (!s2) then
  bif (s3 != (32 : Int)) then
  bif (s3 != (9 : Int)) then
  bif (s3 != (13 : Int)) then
  Kret G
  else
  KN s0 s2 G
  else
  KN s0 s2 G
  else
  KN s0 s2 G
  else
  KN s0 s2 G

def l29_1 {R : Type} (O : Ora R) (KN : GA → Bool → GH → Option R) (Kret : GH → Option R) : GA → Bool → Int → GH → Option R := fun (s0 : GA) (s2 : Bool) (s3 : Int) G => u29_1 O KN Kret s0 s2 s3 G

theorem u29_1_raw {R : Type} (O : Ora R) (fuel : Nat) (s0 : GA) (s2 : Bool) (s3 : Int) (G : GH) (k : Ex → List IV → List (List IV) → GH → Option R) :
  loopD Try.prog O lo29 fuel (nav (Try.f29.body.getD .skip) [1, 0, 0, 1, 0, 1, 0]) 39 (mkE 50 [(0, .ptr (some s0)), (2, .bool s2), (3, .int .u8 s3)]) [] G k =
  u29_1 O (fun (s0 : GA) (s2 : Bool) (G : GH) => k .normal (mkE 50 [(0, .ptr (some s0)), (2, .bool s2)]) [] G) (fun (G : GH) => k .ret (mkE 50 []) [] G) s0 s2 s3 G := by kernel_rfl

theorem l29_1_eq {R : Type} (O : Ora R) (fuel : Nat) (k : Ex → List IV → List (List IV) → GH → Option R) : ∀ (s0 : GA) (s2 : Bool) (s3 : Int) (G : GH),
  loopD Try.prog O lo29 fuel (nav (Try.f29.body.getD .skip) [1, 0, 0, 1, 0, 1, 0]) 39 (mkE 50 [(0, .ptr (some s0)), (2, .bool s2), (3, .int .u8 s3)]) [] G k = l29_1 O (fun (s0 : GA) (s2 : Bool) (G : GH) => k .normal (mkE 50 [(0, .ptr (some s0)), (2, .bool s2)]) [] G) (fun (G : GH) => k .ret (mkE 50 []) [] G) s0 s2 s3 G := by
  intros
  rw [u29_1_raw]
  simp only [l29_1]

def u29_0 {R : Type} (O : Ora R) (KN : GA → Bool → GH → Option R) (Kret : GH → Option R) (K0 : GH → Option R) (L1 : GA → Bool → Int → GH → Option R) (s0 : GA) (s2 : Bool) (G : GH) : Option R :=
  (ldInt G .i64 (GA.add s0 1)).bind fun x1 =>
  (ldStr G (GA.add s0 0)).bind fun x2 =>
  bif (decide (x1 < (x2.length : Int))) then
  O 31 [.ptr (some s0)] G fun v3 G4 =>
  (ivInt .u8 v3).bind fun x5 =>
  L1 s0 s2 x5 G4
  else
  K0 G

def a29_1N {R : Type} (O : Ora R) (KN : GA → Bool → GH → Option R) (Kret : GH → Option R) (K0 : GH → Option R) (s0 : GA) (s2 : Bool) (G : GH) : Option R :=
  (ldInt G .i64 (GA.add s0 1)).bind fun x1 =>
  (gst G (GA.add s0 1) [.int .i64 (IntKind.wrap .i64 (x1 + (1 : Int)))]).bind fun G2 =>
  KN s0 s2 G2

def a29_1ret {R : Type} (O : Ora R) (KN : GA → Bool → GH → Option R) (Kret : GH → Option R) (K0 : GH → Option R)  (G : GH) : Option R :=
  Kret G

def L29_1 {R : Type} (O : Ora R) (fuel : Nat) (KN : GA → Bool → GH → Option R) (Kret : GH → Option R) (K0 : GH → Option R) : GA → Bool → Int → GH → Option R := fun (s0 : GA) (s2 : Bool) (s3 : Int) G =>
  stepN fuel (l29_1 O (a29_1N O KN Kret K0) (a29_1ret O KN Kret K0) s0 s2 s3 G)

theorem a29_1N_raw {R : Type} (O : Ora R) (fuel : Nat) (s0 : GA) (s2 : Bool) (G : GH) (k : Ex → List IV → List (List IV) → GH → Option R) :
  contC Try.prog O lo29 fuel (nav (Try.f29.body.getD .skip) [1, 0, 0]) [1, 0, 1, 0] (kpD lo29 4 0 k) .normal (mkE 50 [(0, .ptr (some s0)), (2, .bool s2)]) [] G =
  a29_1N O (fun (s0 : GA) (s2 : Bool) (G : GH) => k .normal (mkE 50 [(0, .ptr (some s0)), (2, .bool s2)]) [] G) (fun (G : GH) => k .ret (mkE 50 []) [] G) (fun (G : GH) => k (.exit 0) (mkE 50 []) [] G) s0 s2 G := by kernel_rfl

theorem a29_1ret_raw {R : Type} (O : Ora R) (fuel : Nat)  (G : GH) (k : Ex → List IV → List (List IV) → GH → Option R) :
  contC Try.prog O lo29 fuel (nav (Try.f29.body.getD .skip) [1, 0, 0]) [1, 0, 1, 0] (kpD lo29 4 0 k) .ret (mkE 50 []) [] G =
  a29_1ret O (fun (s0 : GA) (s2 : Bool) (G : GH) => k .normal (mkE 50 [(0, .ptr (some s0)), (2, .bool s2)]) [] G) (fun (G : GH) => k .ret (mkE 50 []) [] G) (fun (G : GH) => k (.exit 0) (mkE 50 []) [] G) G := by kernel_rfl

theorem L29_1_eq {R : Type} (O : Ora R) (fuel : Nat) (k : Ex → List IV → List (List IV) → GH → Option R) :
  (fun (s0 : GA) (s2 : Bool) (s3 : Int) (G : GH) => stepN fuel (loopD Try.prog O lo29 fuel (nav (Try.f29.body.getD .skip) [1, 0, 0, 1, 0, 1, 0]) 39 (mkE 50 [(0, .ptr (some s0)), (2, .bool s2), (3, .int .u8 s3)]) [] G (contC Try.prog O lo29 fuel (nav (Try.f29.body.getD .skip) [1, 0, 0]) [1, 0, 1, 0] (kpD lo29 4 0 k)))) = L29_1 O fuel (fun (s0 : GA) (s2 : Bool) (G : GH) => k .normal (mkE 50 [(0, .ptr (some s0)), (2, .bool s2)]) [] G) (fun (G : GH) => k .ret (mkE 50 []) [] G) (fun (G : GH) => k (.exit 0) (mkE 50 []) [] G) := by
  funext s0 s2 s3 G
  simp only [L29_1, l29_1_eq, a29_1N_raw, a29_1ret_raw]

def l29_0 {R : Type} (O : Ora R) (fuel : Nat) (Kret : GH → Option R) (K0 : GH → Option R) : Nat → GA → Bool → GH → Option R
  | 0, _, _, _ => none
  | n + 1, s0, s2, G => u29_0 O (l29_0 O fuel Kret K0 n) Kret K0 (L29_1 O fuel (l29_0 O fuel Kret K0 n) Kret K0) s0 s2 G

theorem u29_0_raw {R : Type} (O : Ora R) (fuel : Nat) (s0 : GA) (s2 : Bool) (G : GH) (k : Ex → List IV → List (List IV) → GH → Option R) :
  loopD Try.prog O lo29 fuel (nav (Try.f29.body.getD .skip) [1, 0, 0]) 4 (mkE 50 [(0, .ptr (some s0)), (2, .bool s2)]) [] G k =
  u29_0 O (fun (s0 : GA) (s2 : Bool) (G : GH) => k .normal (mkE 50 [(0, .ptr (some s0)), (2, .bool s2)]) [] G) (fun (G : GH) => k .ret (mkE 50 []) [] G) (fun (G : GH) => k (.exit 0) (mkE 50 []) [] G) (fun (s0 : GA) (s2 : Bool) (s3 : Int) (G : GH) => stepN fuel (loopD Try.prog O lo29 fuel (nav (Try.f29.body.getD .skip) [1, 0, 0, 1, 0, 1, 0]) 39 (mkE 50 [(0, .ptr (some s0)), (2, .bool s2), (3, .int .u8 s3)]) [] G (contC Try.prog O lo29 fuel (nav (Try.f29.body.getD .skip) [1, 0, 0]) [1, 0, 1, 0] (kpD lo29 4 0 k)))) s0 s2 G := by kernel_rfl

theorem l29_0_eq {R : Type} (O : Ora R) (fuel : Nat) (k : Ex → List IV → List (List IV) → GH → Option R) : ∀ (n : Nat) (s0 : GA) (s2 : Bool) (G : GH),
  loopN (loopD Try.prog O lo29 fuel (nav (Try.f29.body.getD .skip) [1, 0, 0]) 4) n (mkE 50 [(0, .ptr (some s0)), (2, .bool s2)]) [] G k = l29_0 O fuel (fun (G : GH) => k .ret (mkE 50 []) [] G) (fun (G : GH) => k (.exit 0) (mkE 50 []) [] G) n s0 s2 G := by
  intro n
  induction n with
  | zero => intros; rfl
  | succ n ih =>
    intros
    rw [loopN_succ, u29_0_raw]
    simp only [l29_0, loopK_normal, loopK_exit, loopK_ret, ih, L29_1_eq]

def u29 {R : Type} (O : Ora R) (k : IV → GH → Option R) (L0 : GA → Bool → GH → Option R) (p0 : GA) (G : GH) : Option R :=
  L0 p0 false G

def a29_0ret {R : Type} (O : Ora R) (k : IV → GH → Option R)  (G : GH) : Option R :=
  k (.tuple []) G

def a29_00 {R : Type} (O : Ora R) (k : IV → GH → Option R)  (G : GH) : Option R :=
  k (.tuple []) G

def L29_0 {R : Type} (O : Ora R) (fuel : Nat) (k : IV → GH → Option R) : GA → Bool → GH → Option R := fun (s0 : GA) (s2 : Bool) G =>
  l29_0 O fuel (a29_0ret O k) (a29_00 O k) fuel s0 s2 G

theorem a29_0ret_raw {R : Type} (O : Ora R) (fuel : Nat)  (G : GH) (k : IV → GH → Option R) :
  contC Try.prog O lo29 fuel (Try.f29.body.getD .skip) [1, 0] (fun e env F G => match e with | .exit _ => none | _ => resC Try.prog Try.f29 env F G k) .ret (mkE 50 []) [] G =
  a29_0ret O k G := by kernel_rfl

theorem a29_00_raw {R : Type} (O : Ora R) (fuel : Nat)  (G : GH) (k : IV → GH → Option R) :
  contC Try.prog O lo29 fuel (Try.f29.body.getD .skip) [1, 0] (fun e env F G => match e with | .exit _ => none | _ => resC Try.prog Try.f29 env F G k) (.exit 0) (mkE 50 []) [] G =
  a29_00 O k G := by kernel_rfl

theorem L29_0_eq {R : Type} (O : Ora R) (fuel : Nat) (k : IV → GH → Option R) :
  (fun (s0 : GA) (s2 : Bool) (G : GH) => loopN (loopD Try.prog O lo29 fuel (nav (Try.f29.body.getD .skip) [1, 0, 0]) 4) fuel (mkE 50 [(0, .ptr (some s0)), (2, .bool s2)]) [] G (contC Try.prog O lo29 fuel (Try.f29.body.getD .skip) [1, 0] (fun e env F G => match e with | .exit _ => none | _ => resC Try.prog Try.f29 env F G k))) = L29_0 O fuel k := by
  funext s0 s2 G
  simp only [L29_0, l29_0_eq, a29_0ret_raw, a29_00_raw]

theorem e29_raw {R : Type} (O : Ora R) (fuel : Nat) (p0 : GA) (G : GH) (k : IV → GH → Option R) :
  bodyC Try.prog O lo29 fuel Try.f29 [.ptr (some p0)] G k =
  u29 O k (fun (s0 : GA) (s2 : Bool) (G : GH) => loopN (loopD Try.prog O lo29 fuel (nav (Try.f29.body.getD .skip) [1, 0, 0]) 4) fuel (mkE 50 [(0, .ptr (some s0)), (2, .bool s2)]) [] G (contC Try.prog O lo29 fuel (Try.f29.body.getD .skip) [1, 0] (fun e env F G => match e with | .exit _ => none | _ => resC Try.prog Try.f29 env F G k))) p0 G := by kernel_rfl

theorem e29 {R : Type} (O : Ora R) (fuel : Nat) (p0 : GA) (G : GH) (k : IV → GH → Option R) :
  bodyC Try.prog O lo29 fuel Try.f29 [.ptr (some p0)] G k =
  u29 O k (L29_0 O fuel k) p0 G := by
  rw [e29_raw, L29_0_eq]

theorem r29 {R : Type} (fuel n : Nat) (p0 : GA) (G : GH) (k : IV → GH → Option R) :
  runL Try.prog lexLib lo0 fuel (n + 1) 29 [.ptr (some p0)] G k = bodyC Try.prog (runL Try.prog lexLib lo0 fuel n) lo29 fuel Try.f29 [.ptr (some p0)] G k := runL_body Try.func29 rfl rfl rfl

/-! ### (*lantern/lanternref15.Reader).digits -/
def u44_1 {R : Type} (O : Ora R) (KN : GA → Int → Int → GH → Option R) (s0 : GA) (s1 : Int) (s6 : Int) (G : GH) : Option R :=
  bif (decide (s6 < (20 : Int))) then
  O 31 [.ptr (some s0)] G fun v1 G2 =>
  (ivInt .u8 v1).bind fun x3 =>
  KN s0 (IntKind.wrap .i64 ((IntKind.wrap .i64 ((IntKind.wrap .i64 ((10 : Int) * s1)) + (IntKind.wrap .i64 x3))) - (48 : Int))) s6 G2
  else
  KN s0 s1 s6 G

def l44_1 {R : Type} (O : Ora R) (KN : GA → Int → Int → GH → Option R) : GA → Int → Int → GH → Option R := fun (s0 : GA) (s1 : Int) (s6 : Int) G => u44_1 O KN s0 s1 s6 G

theorem u44_1_raw {R : Type} (O : Ora R) (fuel : Nat) (s0 : GA) (s1 : Int) (s6 : Int) (G : GH) (k : Ex → List IV → List (List IV) → GH → Option R) :
  loopD Try.prog O lo44 fuel (nav (Try.f44.body.getD .skip) [1, 1, 0, 0, 0, 1, 0, 0]) 23 (mkE 33 [(0, .ptr (some s0)), (1, .int .i64 s1), (6, .int .i64 s6)]) [] G k =
  u44_1 O (fun (s0 : GA) (s1 : Int) (s6 : Int) (G : GH) => k .normal (mkE 33 [(0, .ptr (some s0)), (1, .int .i64 s1), (6, .int .i64 s6)]) [] G) s0 s1 s6 G := by kernel_rfl

theorem l44_1_eq {R : Type} (O : Ora R) (fuel : Nat) (k : Ex → List IV → List (List IV) → GH → Option R) : ∀ (s0 : GA) (s1 : Int) (s6 : Int) (G : GH),
  loopD Try.prog O lo44 fuel (nav (Try.f44.body.getD .skip) [1, 1, 0, 0, 0, 1, 0, 0]) 23 (mkE 33 [(0, .ptr (some s0)), (1, .int .i64 s1), (6, .int .i64 s6)]) [] G k = l44_1 O (fun (s0 : GA) (s1 : Int) (s6 : Int) (G : GH) => k .normal (mkE 33 [(0, .ptr (some s0)), (1, .int .i64 s1), (6, .int .i64 s6)]) [] G) s0 s1 s6 G := by
  intros
  rw [u44_1_raw]
  simp only [l44_1]

def u44_2 {R : Type} (O : Ora R) (KN : GA → Int → Int → GH → Option R) (s0 : GA) (s1 : Int) (s6 : Int) (G : GH) : Option R :=
  bif (decide (s1 > (72057594037927936 : Int))) then
  KN s0 (72057594037927936 : Int) s6 G
  else
  KN s0 s1 s6 G

def l44_2 {R : Type} (O : Ora R) (KN : GA → Int → Int → GH → Option R) : GA → Int → Int → GH → Option R := fun (s0 : GA) (s1 : Int) (s6 : Int) G => u44_2 O KN s0 s1 s6 G

theorem u44_2_raw {R : Type} (O : Ora R) (fuel : Nat) (s0 : GA) (s1 : Int) (s6 : Int) (G : GH) (k : Ex → List IV → List (List IV) → GH → Option R) :
  loopD Try.prog O lo44 fuel (nav (Try.f44.body.getD .skip) [1, 1, 0, 0, 0, 1, 0, 1, 0]) 31 (mkE 33 [(0, .ptr (some s0)), (1, .int .i64 s1), (6, .int .i64 s6)]) [] G k =
  u44_2 O (fun (s0 : GA) (s1 : Int) (s6 : Int) (G : GH) => k .normal (mkE 33 [(0, .ptr (some s0)), (1, .int .i64 s1), (6, .int .i64 s6)]) [] G) s0 s1 s6 G := by kernel_rfl

theorem l44_2_eq {R : Type} (O : Ora R) (fuel : Nat) (k : Ex → List IV → List (List IV) → GH → Option R) : ∀ (s0 : GA) (s1 : Int) (s6 : Int) (G : GH),
  loopD Try.prog O lo44 fuel (nav (Try.f44.body.getD .skip) [1, 1, 0, 0, 0, 1, 0, 1, 0]) 31 (mkE 33 [(0, .ptr (some s0)), (1, .int .i64 s1), (6, .int .i64 s6)]) [] G k = l44_2 O (fun (s0 : GA) (s1 : Int) (s6 : Int) (G : GH) => k .normal (mkE 33 [(0, .ptr (some s0)), (1, .int .i64 s1), (6, .int .i64 s6)]) [] G) s0 s1 s6 G := by
  intros
  rw [u44_2_raw]
  simp only [l44_2]

def u44_0 {R : Type} (O : Ora R) (KN : GA → Int → Int → GH → Option R) (K0 : Int → Int → GH → Option R) (L1 : GA → Int → Int → GH → Option R) (s0 : GA) (s1 : Int) (s6 : Int) (G : GH) : Option R :=
  O 31 [.ptr (some s0)] G fun v1 G2 =>
  (ivInt .u8 v1).bind fun x3 =>
  O 33 [.int .u8 x3] G2 fun v4 G5 =>
  (ivBool v4).bind fun x6 =>
  bif x6 then
  L1 s0 s1 s6 G5
  else
  K0 s1 s6 G5

def a44_1N {R : Type} (O : Ora R) (KN : GA → Int → Int → GH → Option R) (K0 : Int → Int → GH → Option R) (L2 : GA → Int → Int → GH → Option R) (s0 : GA) (s1 : Int) (s6 : Int) (G : GH) : Option R :=
  L2 s0 s1 s6 G

def a44_2N {R : Type} (O : Ora R) (KN : GA → Int → Int → GH → Option R) (K0 : Int → Int → GH → Option R) (s0 : GA) (s1 : Int) (s6 : Int) (G : GH) : Option R :=
  (ldInt G .i64 (GA.add s0 1)).bind fun x1 =>
  (gst G (GA.add s0 1) [.int .i64 (IntKind.wrap .i64 (x1 + (1 : Int)))]).bind fun G2 =>
  KN s0 s1 (IntKind.wrap .i64 (s6 + (1 : Int))) G2

def L44_2 {R : Type} (O : Ora R) (fuel : Nat) (KN : GA → Int → Int → GH → Option R) (K0 : Int → Int → GH → Option R) : GA → Int → Int → GH → Option R := fun (s0 : GA) (s1 : Int) (s6 : Int) G =>
  stepN fuel (l44_2 O (a44_2N O KN K0) s0 s1 s6 G)

theorem a44_2N_raw {R : Type} (O : Ora R) (fuel : Nat) (s0 : GA) (s1 : Int) (s6 : Int) (G : GH) (k : Ex → List IV → List (List IV) → GH → Option R) :
  contC Try.prog O lo44 fuel (nav (Try.f44.body.getD .skip) [1, 1, 0, 0, 0]) [1, 0, 1, 0] (kpD lo44 8 0 k) .normal (mkE 33 [(0, .ptr (some s0)), (1, .int .i64 s1), (6, .int .i64 s6)]) [] G =
  a44_2N O (fun (s0 : GA) (s1 : Int) (s6 : Int) (G : GH) => k .normal (mkE 33 [(0, .ptr (some s0)), (1, .int .i64 s1), (6, .int .i64 s6)]) [] G) (fun (s1 : Int) (s6 : Int) (G : GH) => k (.exit 0) (mkE 33 [(1, .int .i64 s1), (6, .int .i64 s6)]) [] G) s0 s1 s6 G := by kernel_rfl

theorem L44_2_eq {R : Type} (O : Ora R) (fuel : Nat) (k : Ex → List IV → List (List IV) → GH → Option R) :
  (fun (s0 : GA) (s1 : Int) (s6 : Int) (G : GH) => stepN fuel (loopD Try.prog O lo44 fuel (nav (Try.f44.body.getD .skip) [1, 1, 0, 0, 0, 1, 0, 1, 0]) 31 (mkE 33 [(0, .ptr (some s0)), (1, .int .i64 s1), (6, .int .i64 s6)]) [] G (contC Try.prog O lo44 fuel (nav (Try.f44.body.getD .skip) [1, 1, 0, 0, 0]) [1, 0, 1, 0] (kpD lo44 8 0 k)))) = L44_2 O fuel (fun (s0 : GA) (s1 : Int) (s6 : Int) (G : GH) => k .normal (mkE 33 [(0, .ptr (some s0)), (1, .int .i64 s1), (6, .int .i64 s6)]) [] G) (fun (s1 : Int) (s6 : Int) (G : GH) => k (.exit 0) (mkE 33 [(1, .int .i64 s1), (6, .int .i64 s6)]) [] G) := by
  funext s0 s1 s6 G
  simp only [L44_2, l44_2_eq, a44_2N_raw]

def L44_1 {R : Type} (O : Ora R) (fuel : Nat) (KN : GA → Int → Int → GH → Option R) (K0 : Int → Int → GH → Option R) : GA → Int → Int → GH → Option R := fun (s0 : GA) (s1 : Int) (s6 : Int) G =>
  stepN fuel (l44_1 O (a44_1N O KN K0 (L44_2 O fuel KN K0)) s0 s1 s6 G)

theorem a44_1N_raw {R : Type} (O : Ora R) (fuel : Nat) (s0 : GA) (s1 : Int) (s6 : Int) (G : GH) (k : Ex → List IV → List (List IV) → GH → Option R) :
  contC Try.prog O lo44 fuel (nav (Try.f44.body.getD .skip) [1, 1, 0, 0, 0]) [1, 0, 0] (kpD lo44 8 0 k) .normal (mkE 33 [(0, .ptr (some s0)), (1, .int .i64 s1), (6, .int .i64 s6)]) [] G =
  a44_1N O (fun (s0 : GA) (s1 : Int) (s6 : Int) (G : GH) => k .normal (mkE 33 [(0, .ptr (some s0)), (1, .int .i64 s1), (6, .int .i64 s6)]) [] G) (fun (s1 : Int) (s6 : Int) (G : GH) => k (.exit 0) (mkE 33 [(1, .int .i64 s1), (6, .int .i64 s6)]) [] G) (fun (s0 : GA) (s1 : Int) (s6 : Int) (G : GH) => stepN fuel (loopD Try.prog O lo44 fuel (nav (Try.f44.body.getD .skip) [1, 1, 0, 0, 0, 1, 0, 1, 0]) 31 (mkE 33 [(0, .ptr (some s0)), (1, .int .i64 s1), (6, .int .i64 s6)]) [] G (contC Try.prog O lo44 fuel (nav (Try.f44.body.getD .skip) [1, 1, 0, 0, 0]) [1, 0, 1, 0] (kpD lo44 8 0 k)))) s0 s1 s6 G := by kernel_rfl

theorem L44_1_eq {R : Type} (O : Ora R) (fuel : Nat) (k : Ex → List IV → List (List IV) → GH → Option R) :
  (fun (s0 : GA) (s1 : Int) (s6 : Int) (G : GH) => stepN fuel (loopD Try.prog O lo44 fuel (nav (Try.f44.body.getD .skip) [1, 1, 0, 0, 0, 1, 0, 0]) 23 (mkE 33 [(0, .ptr (some s0)), (1, .int .i64 s1), (6, .int .i64 s6)]) [] G (contC Try.prog O lo44 fuel (nav (Try.f44.body.getD .skip) [1, 1, 0, 0, 0]) [1, 0, 0] (kpD lo44 8 0 k)))) = L44_1 O fuel (fun (s0 : GA) (s1 : Int) (s6 : Int) (G : GH) => k .normal (mkE 33 [(0, .ptr (some s0)), (1, .int .i64 s1), (6, .int .i64 s6)]) [] G) (fun (s1 : Int) (s6 : Int) (G : GH) => k (.exit 0) (mkE 33 [(1, .int .i64 s1), (6, .int .i64 s6)]) [] G) := by
  funext s0 s1 s6 G
  simp only [L44_1, l44_1_eq, a44_1N_raw, L44_2_eq]

def l44_0 {R : Type} (O : Ora R) (fuel : Nat) (K0 : Int → Int → GH → Option R) : Nat → GA → Int → Int → GH → Option R
  | 0, _, _, _, _ => none
  | n + 1, s0, s1, s6, G => u44_0 O (l44_0 O fuel K0 n) K0 (L44_1 O fuel (l44_0 O fuel K0 n) K0) s0 s1 s6 G

theorem u44_0_raw {R : Type} (O : Ora R) (fuel : Nat) (s0 : GA) (s1 : Int) (s6 : Int) (G : GH) (k : Ex → List IV → List (List IV) → GH → Option R) :
  loopD Try.prog O lo44 fuel (nav (Try.f44.body.getD .skip) [1, 1, 0, 0, 0]) 8 (mkE 33 [(0, .ptr (some s0)), (1, .int .i64 s1), (6, .int .i64 s6)]) [] G k =
  u44_0 O (fun (s0 : GA) (s1 : Int) (s6 : Int) (G : GH) => k .normal (mkE 33 [(0, .ptr (some s0)), (1, .int .i64 s1), (6, .int .i64 s6)]) [] G) (fun (s1 : Int) (s6 : Int) (G : GH) => k (.exit 0) (mkE 33 [(1, .int .i64 s1), (6, .int .i64 s6)]) [] G) (fun (s0 : GA) (s1 : Int) (s6 : Int) (G : GH) => stepN fuel (loopD Try.prog O lo44 fuel (nav (Try.f44.body.getD .skip) [1, 1, 0, 0, 0, 1, 0, 0]) 23 (mkE 33 [(0, .ptr (some s0)), (1, .int .i64 s1), (6, .int .i64 s6)]) [] G (contC Try.prog O lo44 fuel (nav (Try.f44.body.getD .skip) [1, 1, 0, 0, 0]) [1, 0, 0] (kpD lo44 8 0 k)))) s0 s1 s6 G := by kernel_rfl

theorem l44_0_eq {R : Type} (O : Ora R) (fuel : Nat) (k : Ex → List IV → List (List IV) → GH → Option R) : ∀ (n : Nat) (s0 : GA) (s1 : Int) (s6 : Int) (G : GH),
  loopN (loopD Try.prog O lo44 fuel (nav (Try.f44.body.getD .skip) [1, 1, 0, 0, 0]) 8) n (mkE 33 [(0, .ptr (some s0)), (1, .int .i64 s1), (6, .int .i64 s6)]) [] G k = l44_0 O fuel (fun (s1 : Int) (s6 : Int) (G : GH) => k (.exit 0) (mkE 33 [(1, .int .i64 s1), (6, .int .i64 s6)]) [] G) n s0 s1 s6 G := by
  intro n
  induction n with
  | zero => intros; rfl
  | succ n ih =>
    intros
    rw [loopN_succ, u44_0_raw]
    simp only [l44_0, loopK_normal, loopK_exit, loopK_ret, ih, L44_1_eq]

def u44 {R : Type} (O : Ora R) (k : IV → GH → Option R) (L0 : GA → Int → Int → GH → Option R) (p0 : GA) (p1 : Int) (G : GH) : Option R :=
  L0 p0 p1 (0 : Int) G

def a44_00 {R : Type} (O : Ora R) (k : IV → GH → Option R) (s1 : Int) (s6 : Int) (G : GH) : Option R :=
  k (.tuple [.int .i64 s6, .int .i64 s1]) G

def L44_0 {R : Type} (O : Ora R) (fuel : Nat) (k : IV → GH → Option R) : GA → Int → Int → GH → Option R := fun (s0 : GA) (s1 : Int) (s6 : Int) G =>
  l44_0 O fuel (a44_00 O k) fuel s0 s1 s6 G

theorem a44_00_raw {R : Type} (O : Ora R) (fuel : Nat) (s1 : Int) (s6 : Int) (G : GH) (k : IV → GH → Option R) :
  contC Try.prog O lo44 fuel (Try.f44.body.getD .skip) [1, 1, 0, 0] (fun e env F G => match e with | .exit _ => none | _ => resC Try.prog Try.f44 env F G k) (.exit 0) (mkE 33 [(1, .int .i64 s1), (6, .int .i64 s6)]) [] G =
  a44_00 O k s1 s6 G := by kernel_rfl

theorem L44_0_eq {R : Type} (O : Ora R) (fuel : Nat) (k : IV → GH → Option R) :
  (fun (s0 : GA) (s1 : Int) (s6 : Int) (G : GH) => loopN (loopD Try.prog O lo44 fuel (nav (Try.f44.body.getD .skip) [1, 1, 0, 0, 0]) 8) fuel (mkE 33 [(0, .ptr (some s0)), (1, .int .i64 s1), (6, .int .i64 s6)]) [] G (contC Try.prog O lo44 fuel (Try.f44.body.getD .skip) [1, 1, 0, 0] (fun e env F G => match e with | .exit _ => none | _ => resC Try.prog Try.f44 env F G k))) = L44_0 O fuel k := by
  funext s0 s1 s6 G
  simp only [L44_0, l44_0_eq, a44_00_raw]

theorem e44_raw {R : Type} (O : Ora R) (fuel : Nat) (p0 : GA) (p1 : Int) (G : GH) (k : IV → GH → Option R) :
  bodyC Try.prog O lo44 fuel Try.f44 [.ptr (some p0), .int .i64 p1] G k =
  u44 O k (fun (s0 : GA) (s1 : Int) (s6 : Int) (G : GH) => loopN (loopD Try.prog O lo44 fuel (nav (Try.f44.body.getD .skip) [1, 1, 0, 0, 0]) 8) fuel (mkE 33 [(0, .ptr (some s0)), (1, .int .i64 s1), (6, .int .i64 s6)]) [] G (contC Try.prog O lo44 fuel (Try.f44.body.getD .skip) [1, 1, 0, 0] (fun e env F G => match e with | .exit _ => none | _ => resC Try.prog Try.f44 env F G k))) p0 p1 G := by kernel_rfl

theorem e44 {R : Type} (O : Ora R) (fuel : Nat) (p0 : GA) (p1 : Int) (G : GH) (k : IV → GH → Option R) :
  bodyC Try.prog O lo44 fuel Try.f44 [.ptr (some p0), .int .i64 p1] G k =
  u44 O k (L44_0 O fuel k) p0 p1 G := by
  rw [e44_raw, L44_0_eq]

theorem r44 {R : Type} (fuel n : Nat) (p0 : GA) (p1 : Int) (G : GH) (k : IV → GH → Option R) :
  runL Try.prog lexLib lo0 fuel (n + 1) 44 [.ptr (some p0), .int .i64 p1] G k = bodyC Try.prog (runL Try.prog lexLib lo0 fuel n) lo44 fuel Try.f44 [.ptr (some p0), .int .i64 p1] G k := runL_body Try.func44 rfl rfl rfl

end Go.LI.Lex

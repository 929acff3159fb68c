/- What the interpreter gives for the reference (written by decomp.py). -/
import Derived.Test.YtckelpgijjbpaaaLexE
namespace Go.LI.Lex
open Go.Proofs.Ytckelpgijjbpaaa Go Go.Proofs Go.LI
set_option maxRecDepth 100000
set_option linter.unusedVariables false
set_option linter.unusedSimpArgs false
/-! ### (*lantern/lanternref15.Reader).number -/
def u34_0 {R : Type} (O : Ora R) (KN : GA → Bool → Int → List UInt8 → Nat → Int → GH → Option R) (s0 : GA) (s4 : Bool) (b0_0 : Int) (b0_1 : List UInt8) (b0_2 : Nat) (b0_3 : Int) (G : GH) : Option R :=
  bif s4 then
  (ldInt G .i64 (GA.add s0 1)).bind fun x1 =>
  (gst G (GA.add s0 1) [.int .i64 (IntKind.wrap .i64 (x1 + (1 : Int)))]).bind fun G2 =>
  KN s0 s4 b0_0 b0_1 b0_2 b0_3 G2
  else
  KN s0 s4 b0_0 b0_1 b0_2 b0_3 G

def l34_0 {R : Type} (O : Ora R) (KN : GA → Bool → Int → List UInt8 → Nat → Int → GH → Option R) : GA → Bool → Int → List UInt8 → Nat → Int → GH → Option R := fun (s0 : GA) (s4 : Bool) (b0_0 : Int) (b0_1 : List UInt8) (b0_2 : Nat) (b0_3 : Int) G => u34_0 O KN s0 s4 b0_0 b0_1 b0_2 b0_3 G

theorem u34_0_raw {R : Type} (O : Ora R) (fuel : Nat) (s0 : GA) (s4 : Bool) (b0_0 : Int) (b0_1 : List UInt8) (b0_2 : Nat) (b0_3 : Int) (G : GH) (k : Ex → List IV → List (List IV) → GH → Option R) :
  loopB Try.prog O lo34 fuel (nav (Try.f34.body.getD .skip) [1, 1, 0]) 19 (mkE 103 [(0, .ptr (some s0)), (2, .loc 0 0), (4, .bool s4)]) [[.int .i64 b0_0, .str b0_1, .float .f64 b0_2, .int .i64 b0_3]] G k =
  u34_0 O (fun (s0 : GA) (s4 : Bool) (b0_0 : Int) (b0_1 : List UInt8) (b0_2 : Nat) (b0_3 : Int) (G : GH) => k .normal (mkE 103 [(0, .ptr (some s0)), (2, .loc 0 0), (4, .bool s4)]) [[.int .i64 b0_0, .str b0_1, .float .f64 b0_2, .int .i64 b0_3]] G) s0 s4 b0_0 b0_1 b0_2 b0_3 G := by kernel_rfl

theorem l34_0_eq {R : Type} (O : Ora R) (fuel : Nat) (k : Ex → List IV → List (List IV) → GH → Option R) : ∀ (s0 : GA) (s4 : Bool) (b0_0 : Int) (b0_1 : List UInt8) (b0_2 : Nat) (b0_3 : Int) (G : GH),
  loopB Try.prog O lo34 fuel (nav (Try.f34.body.getD .skip) [1, 1, 0]) 19 (mkE 103 [(0, .ptr (some s0)), (2, .loc 0 0), (4, .bool s4)]) [[.int .i64 b0_0, .str b0_1, .float .f64 b0_2, .int .i64 b0_3]] G k = l34_0 O (fun (s0 : GA) (s4 : Bool) (b0_0 : Int) (b0_1 : List UInt8) (b0_2 : Nat) (b0_3 : Int) (G : GH) => k .normal (mkE 103 [(0, .ptr (some s0)), (2, .loc 0 0), (4, .bool s4)]) [[.int .i64 b0_0, .str b0_1, .float .f64 b0_2, .int .i64 b0_3]] G) s0 s4 b0_0 b0_1 b0_2 b0_3 G := by
  intros
  rw [u34_0_raw]
  simp only [l34_0]

def u34_1 {R : Type} (O : Ora R) (Kret : Int → Int → List UInt8 → Nat → Int → GH → Option R) (KN : GA → Bool → Int → Int → Int → Int → List UInt8 → Nat → Int → GH → Option R) (s0 : GA) (s4 : Bool) (s5 : Int) (s6 : Int) (s7 : Int) (b0_0 : Int) (b0_1 : List UInt8) (b0_2 : Nat) (b0_3 : Int) (G : GH) : Option R :=
  O 31 [.ptr (some s0)] G fun v1 G2 =>
  (ivInt .u8 v1).bind fun x3 =>
  bif (x3 == (46 : Int)) then
  (ldInt G2 .i64 (GA.add s0 1)).bind fun x4 =>
  (gst G2 (GA.add s0 1) [.int .i64 (IntKind.wrap .i64 (x4 + (1 : Int)))]).bind fun G5 =>
  O 44 [.ptr (some s0), .int .i64 s6] G5 fun v6 G7 =>
  (ivTup 2 v6).bind fun c8 =>
  (ivInt .i64 (c8.getD 0 undefI)).bind fun x9 =>
  (ivInt .i64 (c8.getD 1 undefI)).bind fun x10 =>
  bif (x9 == (0 : Int)) then
  O 30 [.ptr (some s0), .int .i64 (162 : Int)] G7 fun v11 G12 =>
  (ivTup 2 v11).bind fun c13 =>
  (ivAgg 4 (c13.getD 0 undefI)).bind fun c14 =>
  (ivInt .i64 (c14.getD 0 undefI)).bind fun x15 =>
  (ivStr (c14.getD 1 undefI)).bind fun x16 =>
  (ivFloat .f64 (c14.getD 2 undefI)).bind fun x17 =>
  (ivInt .i64 (c14.getD 3 undefI)).bind fun x18 =>
  (ivInt .i64 (c13.getD 1 undefI)).bind fun x19 =>
  Kret x19 x15 x16 x17 x18 G12
  else
  KN s0 s4 s5 x10 x9 b0_0 b0_1 b0_2 b0_3 G7
  else
  KN s0 s4 s5 s6 s7 b0_0 b0_1 b0_2 b0_3 G2

def l34_1 {R : Type} (O : Ora R) (Kret : Int → Int → List UInt8 → Nat → Int → GH → Option R) (KN : GA → Bool → Int → Int → Int → Int → List UInt8 → Nat → Int → GH → Option R) : GA → Bool → Int → Int → Int → Int → List UInt8 → Nat → Int → GH → Option R := fun (s0 : GA) (s4 : Bool) (s5 : Int) (s6 : Int) (s7 : Int) (b0_0 : Int) (b0_1 : List UInt8) (b0_2 : Nat) (b0_3 : Int) G => u34_1 O Kret KN s0 s4 s5 s6 s7 b0_0 b0_1 b0_2 b0_3 G

theorem u34_1_raw {R : Type} (O : Ora R) (fuel : Nat) (s0 : GA) (s4 : Bool) (s5 : Int) (s6 : Int) (s7 : Int) (b0_0 : Int) (b0_1 : List UInt8) (b0_2 : Nat) (b0_3 : Int) (G : GH) (k : Ex → List IV → List (List IV) → GH → Option R) :
  loopB Try.prog O lo34 fuel (nav (Try.f34.body.getD .skip) [1, 1, 1, 1, 1, 0]) 47 (mkE 103 [(0, .ptr (some s0)), (2, .loc 0 0), (4, .bool s4), (5, .int .i64 s5), (6, .int .i64 s6), (7, .int .i64 s7)]) [[.int .i64 b0_0, .str b0_1, .float .f64 b0_2, .int .i64 b0_3]] G k =
  u34_1 O (fun (s3 : Int) (b0_0 : Int) (b0_1 : List UInt8) (b0_2 : Nat) (b0_3 : Int) (G : GH) => k .ret (mkE 103 [(2, .loc 0 0), (3, .int .i64 s3)]) [[.int .i64 b0_0, .str b0_1, .float .f64 b0_2, .int .i64 b0_3]] G) (fun (s0 : GA) (s4 : Bool) (s5 : Int) (s6 : Int) (s7 : Int) (b0_0 : Int) (b0_1 : List UInt8) (b0_2 : Nat) (b0_3 : Int) (G : GH) => k .normal (mkE 103 [(0, .ptr (some s0)), (2, .loc 0 0), (4, .bool s4), (5, .int .i64 s5), (6, .int .i64 s6), (7, .int .i64 s7)]) [[.int .i64 b0_0, .str b0_1, .float .f64 b0_2, .int .i64 b0_3]] G) s0 s4 s5 s6 s7 b0_0 b0_1 b0_2 b0_3 G := by kernel_rfl

theorem l34_1_eq {R : Type} (O : Ora R) (fuel : Nat) (k : Ex → List IV → List (List IV) → GH → Option R) : ∀ (s0 : GA) (s4 : Bool) (s5 : Int) (s6 : Int) (s7 : Int) (b0_0 : Int) (b0_1 : List UInt8) (b0_2 : Nat) (b0_3 : Int) (G : GH),
  loopB Try.prog O lo34 fuel (nav (Try.f34.body.getD .skip) [1, 1, 1, 1, 1, 0]) 47 (mkE 103 [(0, .ptr (some s0)), (2, .loc 0 0), (4, .bool s4), (5, .int .i64 s5), (6, .int .i64 s6), (7, .int .i64 s7)]) [[.int .i64 b0_0, .str b0_1, .float .f64 b0_2, .int .i64 b0_3]] G k = l34_1 O (fun (s3 : Int) (b0_0 : Int) (b0_1 : List UInt8) (b0_2 : Nat) (b0_3 : Int) (G : GH) => k .ret (mkE 103 [(2, .loc 0 0), (3, .int .i64 s3)]) [[.int .i64 b0_0, .str b0_1, .float .f64 b0_2, .int .i64 b0_3]] G) (fun (s0 : GA) (s4 : Bool) (s5 : Int) (s6 : Int) (s7 : Int) (b0_0 : Int) (b0_1 : List UInt8) (b0_2 : Nat) (b0_3 : Int) (G : GH) => k .normal (mkE 103 [(0, .ptr (some s0)), (2, .loc 0 0), (4, .bool s4), (5, .int .i64 s5), (6, .int .i64 s6), (7, .int .i64 s7)]) [[.int .i64 b0_0, .str b0_1, .float .f64 b0_2, .int .i64 b0_3]] G) s0 s4 s5 s6 s7 b0_0 b0_1 b0_2 b0_3 G := by
  intros
  rw [u34_1_raw]
  simp only [l34_1]

def u34_2 {R : Type} (O : Ora R) (KN : GA → Bool → Int → Int → Bool → Int → List UInt8 → Nat → Int → GH → Option R) (s0 : GA) (s4 : Bool) (s5 : Int) (s6 : Int) (s7 : Int) (s8 : Int) (b0_0 : Int) (b0_1 : List UInt8) (b0_2 : Nat) (b0_3 : Int) (G : GH) : Option R :=
  bif (s5 == (0 : Int)) then
  KN s0 s4 s6 s7 true b0_0 b0_1 b0_2 b0_3 G
  else
  bif (decide ((IntKind.wrap .i64 (s5 + s7)) > (15 : Int))) then
  KN s0 s4 s6 s7 true b0_0 b0_1 b0_2 b0_3 G
  else
  O 32 [.int .u8 s8] G fun v1 G2 =>
  (ivBool v1).bind fun x3 =>
  bif x3 then
  KN s0 s4 s6 s7 true b0_0 b0_1 b0_2 b0_3 G2
  else
  bif (s8 == (46 : Int)) then
  KN s0 s4 s6 s7 true b0_0 b0_1 b0_2 b0_3 G2
  else
  KN s0 s4 s6 s7 (s8 == (45 : Int)) b0_0 b0_1 b0_2 b0_3 G2

def l34_2 {R : Type} (O : Ora R) (KN : GA → Bool → Int → Int → Bool → Int → List UInt8 → Nat → Int → GH → Option R) : GA → Bool → Int → Int → Int → Int → Int → List UInt8 → Nat → Int → GH → Option R := fun (s0 : GA) (s4 : Bool) (s5 : Int) (s6 : Int) (s7 : Int) (s8 : Int) (b0_0 : Int) (b0_1 : List UInt8) (b0_2 : Nat) (b0_3 : Int) G => u34_2 O KN s0 s4 s5 s6 s7 s8 b0_0 b0_1 b0_2 b0_3 G

theorem u34_2_raw {R : Type} (O : Ora R) (fuel : Nat) (s0 : GA) (s4 : Bool) (s5 : Int) (s6 : Int) (s7 : Int) (s8 : Int) (b0_0 : Int) (b0_1 : List UInt8) (b0_2 : Nat) (b0_3 : Int) (G : GH) (k : Ex → List IV → List (List IV) → GH → Option R) :
  loopB Try.prog O lo34 fuel (nav (Try.f34.body.getD .skip) [1, 1, 1, 1, 1, 1, 1, 0, 0]) 55 (mkE 103 [(0, .ptr (some s0)), (2, .loc 0 0), (4, .bool s4), (5, .int .i64 s5), (6, .int .i64 s6), (7, .int .i64 s7), (8, .int .u8 s8)]) [[.int .i64 b0_0, .str b0_1, .float .f64 b0_2, .int .i64 b0_3]] G k =
  u34_2 O (fun (s0 : GA) (s4 : Bool) (s6 : Int) (s7 : Int) (s73 : Bool) (b0_0 : Int) (b0_1 : List UInt8) (b0_2 : Nat) (b0_3 : Int) (G : GH) => k .normal (mkE 103 [(0, .ptr (some s0)), (2, .loc 0 0), (4, .bool s4), (6, .int .i64 s6), (7, .int .i64 s7), (73, .bool s73)]) [[.int .i64 b0_0, .str b0_1, .float .f64 b0_2, .int .i64 b0_3]] G) s0 s4 s5 s6 s7 s8 b0_0 b0_1 b0_2 b0_3 G := by kernel_rfl

theorem l34_2_eq {R : Type} (O : Ora R) (fuel : Nat) (k : Ex → List IV → List (List IV) → GH → Option R) : ∀ (s0 : GA) (s4 : Bool) (s5 : Int) (s6 : Int) (s7 : Int) (s8 : Int) (b0_0 : Int) (b0_1 : List UInt8) (b0_2 : Nat) (b0_3 : Int) (G : GH),
  loopB Try.prog O lo34 fuel (nav (Try.f34.body.getD .skip) [1, 1, 1, 1, 1, 1, 1, 0, 0]) 55 (mkE 103 [(0, .ptr (some s0)), (2, .loc 0 0), (4, .bool s4), (5, .int .i64 s5), (6, .int .i64 s6), (7, .int .i64 s7), (8, .int .u8 s8)]) [[.int .i64 b0_0, .str b0_1, .float .f64 b0_2, .int .i64 b0_3]] G k = l34_2 O (fun (s0 : GA) (s4 : Bool) (s6 : Int) (s7 : Int) (s73 : Bool) (b0_0 : Int) (b0_1 : List UInt8) (b0_2 : Nat) (b0_3 : Int) (G : GH) => k .normal (mkE 103 [(0, .ptr (some s0)), (2, .loc 0 0), (4, .bool s4), (6, .int .i64 s6), (7, .int .i64 s7), (73, .bool s73)]) [[.int .i64 b0_0, .str b0_1, .float .f64 b0_2, .int .i64 b0_3]] G) s0 s4 s5 s6 s7 s8 b0_0 b0_1 b0_2 b0_3 G := by
  intros
  rw [u34_2_raw]
  simp only [l34_2]

def u34_3 {R : Type} (O : Ora R) (KN : GA → Bool → Int → Int → Int → Int → Int → List UInt8 → Nat → Int → GH → Option R) (K0 : GA → Bool → Int → Int → Int → List UInt8 → Nat → Int → GH → Option R) (s0 : GA) (s4 : Bool) (s6 : Int) (s7 : Int) (s9 : Int) (s10 : Int) (b0_0 : Int) (b0_1 : List UInt8) (b0_2 : Nat) (b0_3 : Int) (G : GH) : Option R :=
  bif (decide (s10 < s7)) then
  KN s0 s4 s6 s7 (IntKind.wrap .i64 (s9 * (10 : Int))) (IntKind.wrap .i64 (s10 + (1 : Int))) b0_0 b0_1 b0_2 b0_3 G
  else
  K0 s0 s4 s6 s9 b0_0 b0_1 b0_2 b0_3 G

def l34_3 {R : Type} (O : Ora R) (K0 : GA → Bool → Int → Int → Int → List UInt8 → Nat → Int → GH → Option R) : Nat → GA → Bool → Int → Int → Int → Int → Int → List UInt8 → Nat → Int → GH → Option R
  | 0, _, _, _, _, _, _, _, _, _, _, _ => none
  | n + 1, s0, s4, s6, s7, s9, s10, b0_0, b0_1, b0_2, b0_3, G => u34_3 O (l34_3 O K0 n) K0 s0 s4 s6 s7 s9 s10 b0_0 b0_1 b0_2 b0_3 G

theorem u34_3_raw {R : Type} (O : Ora R) (fuel : Nat) (s0 : GA) (s4 : Bool) (s6 : Int) (s7 : Int) (s9 : Int) (s10 : Int) (b0_0 : Int) (b0_1 : List UInt8) (b0_2 : Nat) (b0_3 : Int) (G : GH) (k : Ex → List IV → List (List IV) → GH → Option R) :
  loopB Try.prog O lo34 fuel (nav (Try.f34.body.getD .skip) [1, 1, 1, 1, 1, 1, 1, 1, 1, 0, 1, 0, 0]) 64 (mkE 103 [(0, .ptr (some s0)), (2, .loc 0 0), (4, .bool s4), (6, .int .i64 s6), (7, .int .i64 s7), (9, .int .i64 s9), (10, .int .i64 s10)]) [[.int .i64 b0_0, .str b0_1, .float .f64 b0_2, .int .i64 b0_3]] G k =
  u34_3 O (fun (s0 : GA) (s4 : Bool) (s6 : Int) (s7 : Int) (s9 : Int) (s10 : Int) (b0_0 : Int) (b0_1 : List UInt8) (b0_2 : Nat) (b0_3 : Int) (G : GH) => k .normal (mkE 103 [(0, .ptr (some s0)), (2, .loc 0 0), (4, .bool s4), (6, .int .i64 s6), (7, .int .i64 s7), (9, .int .i64 s9), (10, .int .i64 s10)]) [[.int .i64 b0_0, .str b0_1, .float .f64 b0_2, .int .i64 b0_3]] G) (fun (s0 : GA) (s4 : Bool) (s6 : Int) (s9 : Int) (b0_0 : Int) (b0_1 : List UInt8) (b0_2 : Nat) (b0_3 : Int) (G : GH) => k (.exit 0) (mkE 103 [(0, .ptr (some s0)), (2, .loc 0 0), (4, .bool s4), (6, .int .i64 s6), (9, .int .i64 s9)]) [[.int .i64 b0_0, .str b0_1, .float .f64 b0_2, .int .i64 b0_3]] G) s0 s4 s6 s7 s9 s10 b0_0 b0_1 b0_2 b0_3 G := by kernel_rfl

theorem l34_3_eq {R : Type} (O : Ora R) (fuel : Nat) (k : Ex → List IV → List (List IV) → GH → Option R) : ∀ (n : Nat) (s0 : GA) (s4 : Bool) (s6 : Int) (s7 : Int) (s9 : Int) (s10 : Int) (b0_0 : Int) (b0_1 : List UInt8) (b0_2 : Nat) (b0_3 : Int) (G : GH),
  loopN (loopB Try.prog O lo34 fuel (nav (Try.f34.body.getD .skip) [1, 1, 1, 1, 1, 1, 1, 1, 1, 0, 1, 0, 0]) 64) n (mkE 103 [(0, .ptr (some s0)), (2, .loc 0 0), (4, .bool s4), (6, .int .i64 s6), (7, .int .i64 s7), (9, .int .i64 s9), (10, .int .i64 s10)]) [[.int .i64 b0_0, .str b0_1, .float .f64 b0_2, .int .i64 b0_3]] G k = l34_3 O (fun (s0 : GA) (s4 : Bool) (s6 : Int) (s9 : Int) (b0_0 : Int) (b0_1 : List UInt8) (b0_2 : Nat) (b0_3 : Int) (G : GH) => k (.exit 0) (mkE 103 [(0, .ptr (some s0)), (2, .loc 0 0), (4, .bool s4), (6, .int .i64 s6), (9, .int .i64 s9)]) [[.int .i64 b0_0, .str b0_1, .float .f64 b0_2, .int .i64 b0_3]] G) n s0 s4 s6 s7 s9 s10 b0_0 b0_1 b0_2 b0_3 G := by
  intro n
  induction n with
  | zero => intros; rfl
  | succ n ih =>
    intros
    rw [loopN_succ, u34_3_raw]
    simp only [l34_3, loopK_normal, loopK_exit, loopK_ret, ih]

def u34_5 {R : Type} (O : Ora R) (KN : GA → Nat → Bool → Int → List UInt8 → Nat → Int → GH → Option R) (s0 : GA) (s4 : Bool) (s6 : Int) (s11 : Nat) (b0_0 : Int) (b0_1 : List UInt8) (b0_2 : Nat) (b0_3 : Int) (G : GH) : Option R :=
  bif s4 then
  KN s0 s11 (s6 != (0 : Int)) b0_0 b0_1 b0_2 b0_3 G
  else
  KN s0 s11 false b0_0 b0_1 b0_2 b0_3 G

def l34_5 {R : Type} (O : Ora R) (KN : GA → Nat → Bool → Int → List UInt8 → Nat → Int → GH → Option R) : GA → Bool → Int → Nat → Int → List UInt8 → Nat → Int → GH → Option R := fun (s0 : GA) (s4 : Bool) (s6 : Int) (s11 : Nat) (b0_0 : Int) (b0_1 : List UInt8) (b0_2 : Nat) (b0_3 : Int) G => u34_5 O KN s0 s4 s6 s11 b0_0 b0_1 b0_2 b0_3 G

theorem u34_5_raw {R : Type} (O : Ora R) (fuel : Nat) (s0 : GA) (s4 : Bool) (s6 : Int) (s11 : Nat) (b0_0 : Int) (b0_1 : List UInt8) (b0_2 : Nat) (b0_3 : Int) (G : GH) (k : Ex → List IV → List (List IV) → GH → Option R) :
  loopB Try.prog O lo34 fuel (nav (Try.f34.body.getD .skip) [1, 1, 1, 1, 1, 1, 1, 1, 1, 1, 1, 0, 0]) 87 (mkE 103 [(0, .ptr (some s0)), (2, .loc 0 0), (4, .bool s4), (6, .int .i64 s6), (11, .float .f64 s11)]) [[.int .i64 b0_0, .str b0_1, .float .f64 b0_2, .int .i64 b0_3]] G k =
  u34_5 O (fun (s0 : GA) (s11 : Nat) (s94 : Bool) (b0_0 : Int) (b0_1 : List UInt8) (b0_2 : Nat) (b0_3 : Int) (G : GH) => k .normal (mkE 103 [(0, .ptr (some s0)), (2, .loc 0 0), (11, .float .f64 s11), (94, .bool s94)]) [[.int .i64 b0_0, .str b0_1, .float .f64 b0_2, .int .i64 b0_3]] G) s0 s4 s6 s11 b0_0 b0_1 b0_2 b0_3 G := by kernel_rfl

theorem l34_5_eq {R : Type} (O : Ora R) (fuel : Nat) (k : Ex → List IV → List (List IV) → GH → Option R) : ∀ (s0 : GA) (s4 : Bool) (s6 : Int) (s11 : Nat) (b0_0 : Int) (b0_1 : List UInt8) (b0_2 : Nat) (b0_3 : Int) (G : GH),
  loopB Try.prog O lo34 fuel (nav (Try.f34.body.getD .skip) [1, 1, 1, 1, 1, 1, 1, 1, 1, 1, 1, 0, 0]) 87 (mkE 103 [(0, .ptr (some s0)), (2, .loc 0 0), (4, .bool s4), (6, .int .i64 s6), (11, .float .f64 s11)]) [[.int .i64 b0_0, .str b0_1, .float .f64 b0_2, .int .i64 b0_3]] G k = l34_5 O (fun (s0 : GA) (s11 : Nat) (s94 : Bool) (b0_0 : Int) (b0_1 : List UInt8) (b0_2 : Nat) (b0_3 : Int) (G : GH) => k .normal (mkE 103 [(0, .ptr (some s0)), (2, .loc 0 0), (11, .float .f64 s11), (94, .bool s94)]) [[.int .i64 b0_0, .str b0_1, .float .f64 b0_2, .int .i64 b0_3]] G) s0 s4 s6 s11 b0_0 b0_1 b0_2 b0_3 G := by
  intros
  rw [u34_5_raw]
  simp only [l34_5]

def u34_4 {R : Type} (O : Ora R) (KN : GA → Nat → Int → List UInt8 → Nat → Int → GH → Option R) (L5 : GA → Bool → Int → Nat → Int → List UInt8 → Nat → Int → GH → Option R) (s0 : GA) (s4 : Bool) (s6 : Int) (s11 : Nat) (b0_0 : Int) (b0_1 : List UInt8) (b0_2 : Nat) (b0_3 : Int) (G : GH) : Option R :=
  L5 s0 s4 s6 s11 b0_0 b0_1 b0_2 b0_3 G

def a34_5N {R : Type} (O : Ora R) (KN : GA → Nat → Int → List UInt8 → Nat → Int → GH → Option R) (s0 : GA) (s11 : Nat) (s94 : Bool) (b0_0 : Int) (b0_1 : List UInt8) (b0_2 : Nat) (b0_3 : Int) (G : GH) : Option R :=
  bif s94 then
  KN s0 (Op.negFloat .f64 s11) b0_0 b0_1 b0_2 b0_3 G
  else
  KN s0 s11 b0_0 b0_1 b0_2 b0_3 G

def L34_5 {R : Type} (O : Ora R) (fuel : Nat) (KN : GA → Nat → Int → List UInt8 → Nat → Int → GH → Option R) : GA → Bool → Int → Nat → Int → List UInt8 → Nat → Int → GH → Option R := fun (s0 : GA) (s4 : Bool) (s6 : Int) (s11 : Nat) (b0_0 : Int) (b0_1 : List UInt8) (b0_2 : Nat) (b0_3 : Int) G =>
  stepN fuel (l34_5 O (a34_5N O KN) s0 s4 s6 s11 b0_0 b0_1 b0_2 b0_3 G)

theorem a34_5N_raw {R : Type} (O : Ora R) (fuel : Nat) (s0 : GA) (s11 : Nat) (s94 : Bool) (b0_0 : Int) (b0_1 : List UInt8) (b0_2 : Nat) (b0_3 : Int) (G : GH) (k : Ex → List IV → List (List IV) → GH → Option R) :
  contC Try.prog O lo34 fuel (nav (Try.f34.body.getD .skip) [1, 1, 1, 1, 1, 1, 1, 1, 1, 1, 1, 0]) [0] (kpK lo34 91 k) .normal (mkE 103 [(0, .ptr (some s0)), (2, .loc 0 0), (11, .float .f64 s11), (94, .bool s94)]) [[.int .i64 b0_0, .str b0_1, .float .f64 b0_2, .int .i64 b0_3]] G =
  a34_5N O (fun (s0 : GA) (s11 : Nat) (b0_0 : Int) (b0_1 : List UInt8) (b0_2 : Nat) (b0_3 : Int) (G : GH) => k .normal (mkE 103 [(0, .ptr (some s0)), (2, .loc 0 0), (11, .float .f64 s11)]) [[.int .i64 b0_0, .str b0_1, .float .f64 b0_2, .int .i64 b0_3]] G) s0 s11 s94 b0_0 b0_1 b0_2 b0_3 G := by kernel_rfl

theorem L34_5_eq {R : Type} (O : Ora R) (fuel : Nat) (k : Ex → List IV → List (List IV) → GH → Option R) :
  (fun (s0 : GA) (s4 : Bool) (s6 : Int) (s11 : Nat) (b0_0 : Int) (b0_1 : List UInt8) (b0_2 : Nat) (b0_3 : Int) (G : GH) => stepN fuel (loopB Try.prog O lo34 fuel (nav (Try.f34.body.getD .skip) [1, 1, 1, 1, 1, 1, 1, 1, 1, 1, 1, 0, 0]) 87 (mkE 103 [(0, .ptr (some s0)), (2, .loc 0 0), (4, .bool s4), (6, .int .i64 s6), (11, .float .f64 s11)]) [[.int .i64 b0_0, .str b0_1, .float .f64 b0_2, .int .i64 b0_3]] G (contC Try.prog O lo34 fuel (nav (Try.f34.body.getD .skip) [1, 1, 1, 1, 1, 1, 1, 1, 1, 1, 1, 0]) [0] (kpK lo34 91 k)))) = L34_5 O fuel (fun (s0 : GA) (s11 : Nat) (b0_0 : Int) (b0_1 : List UInt8) (b0_2 : Nat) (b0_3 : Int) (G : GH) => k .normal (mkE 103 [(0, .ptr (some s0)), (2, .loc 0 0), (11, .float .f64 s11)]) [[.int .i64 b0_0, .str b0_1, .float .f64 b0_2, .int .i64 b0_3]] G) := by
  funext s0 s4 s6 s11 b0_0 b0_1 b0_2 b0_3 G
  simp only [L34_5, l34_5_eq, a34_5N_raw]

def l34_4 {R : Type} (O : Ora R) (fuel : Nat) (KN : GA → Nat → Int → List UInt8 → Nat → Int → GH → Option R) : GA → Bool → Int → Nat → Int → List UInt8 → Nat → Int → GH → Option R := fun (s0 : GA) (s4 : Bool) (s6 : Int) (s11 : Nat) (b0_0 : Int) (b0_1 : List UInt8) (b0_2 : Nat) (b0_3 : Int) G => u34_4 O KN (L34_5 O fuel KN) s0 s4 s6 s11 b0_0 b0_1 b0_2 b0_3 G

theorem u34_4_raw {R : Type} (O : Ora R) (fuel : Nat) (s0 : GA) (s4 : Bool) (s6 : Int) (s11 : Nat) (b0_0 : Int) (b0_1 : List UInt8) (b0_2 : Nat) (b0_3 : Int) (G : GH) (k : Ex → List IV → List (List IV) → GH → Option R) :
  loopB Try.prog O lo34 fuel (nav (Try.f34.body.getD .skip) [1, 1, 1, 1, 1, 1, 1, 1, 1, 1, 1, 0]) 91 (mkE 103 [(0, .ptr (some s0)), (2, .loc 0 0), (4, .bool s4), (6, .int .i64 s6), (11, .float .f64 s11)]) [[.int .i64 b0_0, .str b0_1, .float .f64 b0_2, .int .i64 b0_3]] G k =
  u34_4 O (fun (s0 : GA) (s11 : Nat) (b0_0 : Int) (b0_1 : List UInt8) (b0_2 : Nat) (b0_3 : Int) (G : GH) => k .normal (mkE 103 [(0, .ptr (some s0)), (2, .loc 0 0), (11, .float .f64 s11)]) [[.int .i64 b0_0, .str b0_1, .float .f64 b0_2, .int .i64 b0_3]] G) (fun (s0 : GA) (s4 : Bool) (s6 : Int) (s11 : Nat) (b0_0 : Int) (b0_1 : List UInt8) (b0_2 : Nat) (b0_3 : Int) (G : GH) => stepN fuel (loopB Try.prog O lo34 fuel (nav (Try.f34.body.getD .skip) [1, 1, 1, 1, 1, 1, 1, 1, 1, 1, 1, 0, 0]) 87 (mkE 103 [(0, .ptr (some s0)), (2, .loc 0 0), (4, .bool s4), (6, .int .i64 s6), (11, .float .f64 s11)]) [[.int .i64 b0_0, .str b0_1, .float .f64 b0_2, .int .i64 b0_3]] G (contC Try.prog O lo34 fuel (nav (Try.f34.body.getD .skip) [1, 1, 1, 1, 1, 1, 1, 1, 1, 1, 1, 0]) [0] (kpK lo34 91 k)))) s0 s4 s6 s11 b0_0 b0_1 b0_2 b0_3 G := by kernel_rfl

theorem l34_4_eq {R : Type} (O : Ora R) (fuel : Nat) (k : Ex → List IV → List (List IV) → GH → Option R) : ∀ (s0 : GA) (s4 : Bool) (s6 : Int) (s11 : Nat) (b0_0 : Int) (b0_1 : List UInt8) (b0_2 : Nat) (b0_3 : Int) (G : GH),
  loopB Try.prog O lo34 fuel (nav (Try.f34.body.getD .skip) [1, 1, 1, 1, 1, 1, 1, 1, 1, 1, 1, 0]) 91 (mkE 103 [(0, .ptr (some s0)), (2, .loc 0 0), (4, .bool s4), (6, .int .i64 s6), (11, .float .f64 s11)]) [[.int .i64 b0_0, .str b0_1, .float .f64 b0_2, .int .i64 b0_3]] G k = l34_4 O fuel (fun (s0 : GA) (s11 : Nat) (b0_0 : Int) (b0_1 : List UInt8) (b0_2 : Nat) (b0_3 : Int) (G : GH) => k .normal (mkE 103 [(0, .ptr (some s0)), (2, .loc 0 0), (11, .float .f64 s11)]) [[.int .i64 b0_0, .str b0_1, .float .f64 b0_2, .int .i64 b0_3]] G) s0 s4 s6 s11 b0_0 b0_1 b0_2 b0_3 G := by
  intros
  rw [u34_4_raw]
  simp only [l34_4, L34_5_eq]

def u34 {R : Type} (O : Ora R) (k : IV → GH → Option R) (L0 : GA → Bool → Int → List UInt8 → Nat → Int → GH → Option R) (p0 : GA) (G : GH) : Option R :=
  O 31 [.ptr (some p0)] G fun v1 G2 =>
  (ivInt .u8 v1).bind fun x3 =>
  L0 p0 (x3 == (45 : Int)) (0 : Int) ([] : List UInt8) (0 : Nat) (0 : Int) G2

def a34_0N {R : Type} (O : Ora R) (k : IV → GH → Option R) (L1 : GA → Bool → Int → Int → Int → Int → List UInt8 → Nat → Int → GH → Option R) (s0 : GA) (s4 : Bool) (b0_0 : Int) (b0_1 : List UInt8) (b0_2 : Nat) (b0_3 : Int) (G : GH) : Option R :=
  O 44 [.ptr (some s0), .int .i64 (0 : Int)] G fun v1 G2 =>
  (ivTup 2 v1).bind fun c3 =>
  (ivInt .i64 (c3.getD 0 undefI)).bind fun x4 =>
  (ivInt .i64 (c3.getD 1 undefI)).bind fun x5 =>
  L1 s0 s4 x4 x5 (0 : Int) b0_0 b0_1 b0_2 b0_3 G2

def a34_1ret {R : Type} (O : Ora R) (k : IV → GH → Option R) (s3 : Int) (b0_0 : Int) (b0_1 : List UInt8) (b0_2 : Nat) (b0_3 : Int) (G : GH) : Option R :=
  k (.tuple [.agg [.int .i64 b0_0, .str b0_1, .float .f64 b0_2, .int .i64 b0_3], .int .i64 s3]) G

def a34_1N {R : Type} (O : Ora R) (k : IV → GH → Option R) (L2 : GA → Bool → Int → Int → Int → Int → Int → List UInt8 → Nat → Int → GH → Option R) (s0 : GA) (s4 : Bool) (s5 : Int) (s6 : Int) (s7 : Int) (b0_0 : Int) (b0_1 : List UInt8) (b0_2 : Nat) (b0_3 : Int) (G : GH) : Option R :=
  O 31 [.ptr (some s0)] G fun v1 G2 =>
  (ivInt .u8 v1).bind fun x3 =>
  L2 s0 s4 s5 s6 s7 x3 b0_0 b0_1 b0_2 b0_3 G2

def a34_2N {R : Type} (O : Ora R) (k : IV → GH → Option R) (L3 : GA → Bool → Int → Int → Int → Int → Int → List UInt8 → Nat → Int → GH → Option R) (s0 : GA) (s4 : Bool) (s6 : Int) (s7 : Int) (s73 : Bool) (b0_0 : Int) (b0_1 : List UInt8) (b0_2 : Nat) (b0_3 : Int) (G : GH) : Option R :=
  bif s73 then
  O 30 [.ptr (some s0), .int .i64 (162 : Int)] G fun v1 G2 =>
  (ivTup 2 v1).bind fun c3 =>
  (ivAgg 4 (c3.getD 0 undefI)).bind fun c4 =>
  (ivInt .i64 (c4.getD 0 undefI)).bind fun x5 =>
  (ivStr (c4.getD 1 undefI)).bind fun x6 =>
  (ivFloat .f64 (c4.getD 2 undefI)).bind fun x7 =>
  (ivInt .i64 (c4.getD 3 undefI)).bind fun x8 =>
  (ivInt .i64 (c3.getD 1 undefI)).bind fun x9 =>
  k (.tuple [.agg [.int .i64 x5, .str x6, .float .f64 x7, .int .i64 x8], .int .i64 x9]) G2
  else
  L3 s0 s4 s6 s7 (1 : Int) (0 : Int) b0_0 b0_1 b0_2 b0_3 G

def a34_30 {R : Type} (O : Ora R) (k : IV → GH → Option R) (L4 : GA → Bool → Int → Nat → Int → List UInt8 → Nat → Int → GH → Option R) (s0 : GA) (s4 : Bool) (s6 : Int) (s9 : Int) (b0_0 : Int) (b0_1 : List UInt8) (b0_2 : Nat) (b0_3 : Int) (G : GH) : Option R :=
  ((FloatKind.format .f64).div (FloatKind.nearest .f64 s6) (FloatKind.nearest .f64 s9)).bind fun r1 =>
  L4 s0 s4 s6 r1 b0_0 b0_1 b0_2 b0_3 G

def a34_4N {R : Type} (O : Ora R) (k : IV → GH → Option R) (s0 : GA) (s11 : Nat) (b0_0 : Int) (b0_1 : List UInt8) (b0_2 : Nat) (b0_3 : Int) (G : GH) : Option R :=
  (ldInt G .i64 (GA.add s0 2)).bind fun x1 =>
  k (.tuple [.agg [.int .i64 (2 : Int), .str ([] : List UInt8), .float .f64 s11, .int .i64 x1], .int .i64 (0 : Int)]) G

def L34_4 {R : Type} (O : Ora R) (fuel : Nat) (k : IV → GH → Option R) : GA → Bool → Int → Nat → Int → List UInt8 → Nat → Int → GH → Option R := fun (s0 : GA) (s4 : Bool) (s6 : Int) (s11 : Nat) (b0_0 : Int) (b0_1 : List UInt8) (b0_2 : Nat) (b0_3 : Int) G =>
  stepN fuel (l34_4 O fuel (a34_4N O k) s0 s4 s6 s11 b0_0 b0_1 b0_2 b0_3 G)

theorem a34_4N_raw {R : Type} (O : Ora R) (fuel : Nat) (s0 : GA) (s11 : Nat) (b0_0 : Int) (b0_1 : List UInt8) (b0_2 : Nat) (b0_3 : Int) (G : GH) (k : IV → GH → Option R) :
  contC Try.prog O lo34 fuel (Try.f34.body.getD .skip) [1, 1, 1, 1, 1, 1, 1, 1, 1, 1, 1, 0] (fun e env F G => match e with | .exit _ => none | _ => resC Try.prog Try.f34 env F G k) .normal (mkE 103 [(0, .ptr (some s0)), (2, .loc 0 0), (11, .float .f64 s11)]) [[.int .i64 b0_0, .str b0_1, .float .f64 b0_2, .int .i64 b0_3]] G =
  a34_4N O k s0 s11 b0_0 b0_1 b0_2 b0_3 G := by kernel_rfl

theorem L34_4_eq {R : Type} (O : Ora R) (fuel : Nat) (k : IV → GH → Option R) :
  (fun (s0 : GA) (s4 : Bool) (s6 : Int) (s11 : Nat) (b0_0 : Int) (b0_1 : List UInt8) (b0_2 : Nat) (b0_3 : Int) (G : GH) => stepN fuel (loopB Try.prog O lo34 fuel (nav (Try.f34.body.getD .skip) [1, 1, 1, 1, 1, 1, 1, 1, 1, 1, 1, 0]) 91 (mkE 103 [(0, .ptr (some s0)), (2, .loc 0 0), (4, .bool s4), (6, .int .i64 s6), (11, .float .f64 s11)]) [[.int .i64 b0_0, .str b0_1, .float .f64 b0_2, .int .i64 b0_3]] G (contC Try.prog O lo34 fuel (Try.f34.body.getD .skip) [1, 1, 1, 1, 1, 1, 1, 1, 1, 1, 1, 0] (fun e env F G => match e with | .exit _ => none | _ => resC Try.prog Try.f34 env F G k)))) = L34_4 O fuel k := by
  funext s0 s4 s6 s11 b0_0 b0_1 b0_2 b0_3 G
  simp only [L34_4, l34_4_eq, a34_4N_raw]

def L34_3 {R : Type} (O : Ora R) (fuel : Nat) (k : IV → GH → Option R) : GA → Bool → Int → Int → Int → Int → Int → List UInt8 → Nat → Int → GH → Option R := fun (s0 : GA) (s4 : Bool) (s6 : Int) (s7 : Int) (s9 : Int) (s10 : Int) (b0_0 : Int) (b0_1 : List UInt8) (b0_2 : Nat) (b0_3 : Int) G =>
  l34_3 O (a34_30 O k (L34_4 O fuel k)) fuel s0 s4 s6 s7 s9 s10 b0_0 b0_1 b0_2 b0_3 G

theorem a34_30_raw {R : Type} (O : Ora R) (fuel : Nat) (s0 : GA) (s4 : Bool) (s6 : Int) (s9 : Int) (b0_0 : Int) (b0_1 : List UInt8) (b0_2 : Nat) (b0_3 : Int) (G : GH) (k : IV → GH → Option R) :
  contC Try.prog O lo34 fuel (Try.f34.body.getD .skip) [1, 1, 1, 1, 1, 1, 1, 1, 1, 0, 1, 0] (fun e env F G => match e with | .exit _ => none | _ => resC Try.prog Try.f34 env F G k) (.exit 0) (mkE 103 [(0, .ptr (some s0)), (2, .loc 0 0), (4, .bool s4), (6, .int .i64 s6), (9, .int .i64 s9)]) [[.int .i64 b0_0, .str b0_1, .float .f64 b0_2, .int .i64 b0_3]] G =
  a34_30 O k (fun (s0 : GA) (s4 : Bool) (s6 : Int) (s11 : Nat) (b0_0 : Int) (b0_1 : List UInt8) (b0_2 : Nat) (b0_3 : Int) (G : GH) => stepN fuel (loopB Try.prog O lo34 fuel (nav (Try.f34.body.getD .skip) [1, 1, 1, 1, 1, 1, 1, 1, 1, 1, 1, 0]) 91 (mkE 103 [(0, .ptr (some s0)), (2, .loc 0 0), (4, .bool s4), (6, .int .i64 s6), (11, .float .f64 s11)]) [[.int .i64 b0_0, .str b0_1, .float .f64 b0_2, .int .i64 b0_3]] G (contC Try.prog O lo34 fuel (Try.f34.body.getD .skip) [1, 1, 1, 1, 1, 1, 1, 1, 1, 1, 1, 0] (fun e env F G => match e with | .exit _ => none | _ => resC Try.prog Try.f34 env F G k)))) s0 s4 s6 s9 b0_0 b0_1 b0_2 b0_3 G := by kernel_rfl

theorem L34_3_eq {R : Type} (O : Ora R) (fuel : Nat) (k : IV → GH → Option R) :
  (fun (s0 : GA) (s4 : Bool) (s6 : Int) (s7 : Int) (s9 : Int) (s10 : Int) (b0_0 : Int) (b0_1 : List UInt8) (b0_2 : Nat) (b0_3 : Int) (G : GH) => loopN (loopB Try.prog O lo34 fuel (nav (Try.f34.body.getD .skip) [1, 1, 1, 1, 1, 1, 1, 1, 1, 0, 1, 0, 0]) 64) fuel (mkE 103 [(0, .ptr (some s0)), (2, .loc 0 0), (4, .bool s4), (6, .int .i64 s6), (7, .int .i64 s7), (9, .int .i64 s9), (10, .int .i64 s10)]) [[.int .i64 b0_0, .str b0_1, .float .f64 b0_2, .int .i64 b0_3]] G (contC Try.prog O lo34 fuel (Try.f34.body.getD .skip) [1, 1, 1, 1, 1, 1, 1, 1, 1, 0, 1, 0] (fun e env F G => match e with | .exit _ => none | _ => resC Try.prog Try.f34 env F G k))) = L34_3 O fuel k := by
  funext s0 s4 s6 s7 s9 s10 b0_0 b0_1 b0_2 b0_3 G
  simp only [L34_3, l34_3_eq, a34_30_raw, L34_4_eq]

def L34_2 {R : Type} (O : Ora R) (fuel : Nat) (k : IV → GH → Option R) : GA → Bool → Int → Int → Int → Int → Int → List UInt8 → Nat → Int → GH → Option R := fun (s0 : GA) (s4 : Bool) (s5 : Int) (s6 : Int) (s7 : Int) (s8 : Int) (b0_0 : Int) (b0_1 : List UInt8) (b0_2 : Nat) (b0_3 : Int) G =>
  stepN fuel (l34_2 O (a34_2N O k (L34_3 O fuel k)) s0 s4 s5 s6 s7 s8 b0_0 b0_1 b0_2 b0_3 G)

theorem a34_2N_raw {R : Type} (O : Ora R) (fuel : Nat) (s0 : GA) (s4 : Bool) (s6 : Int) (s7 : Int) (s73 : Bool) (b0_0 : Int) (b0_1 : List UInt8) (b0_2 : Nat) (b0_3 : Int) (G : GH) (k : IV → GH → Option R) :
  contC Try.prog O lo34 fuel (Try.f34.body.getD .skip) [1, 1, 1, 1, 1, 1, 1, 0, 0] (fun e env F G => match e with | .exit _ => none | _ => resC Try.prog Try.f34 env F G k) .normal (mkE 103 [(0, .ptr (some s0)), (2, .loc 0 0), (4, .bool s4), (6, .int .i64 s6), (7, .int .i64 s7), (73, .bool s73)]) [[.int .i64 b0_0, .str b0_1, .float .f64 b0_2, .int .i64 b0_3]] G =
  a34_2N O k (fun (s0 : GA) (s4 : Bool) (s6 : Int) (s7 : Int) (s9 : Int) (s10 : Int) (b0_0 : Int) (b0_1 : List UInt8) (b0_2 : Nat) (b0_3 : Int) (G : GH) => loopN (loopB Try.prog O lo34 fuel (nav (Try.f34.body.getD .skip) [1, 1, 1, 1, 1, 1, 1, 1, 1, 0, 1, 0, 0]) 64) fuel (mkE 103 [(0, .ptr (some s0)), (2, .loc 0 0), (4, .bool s4), (6, .int .i64 s6), (7, .int .i64 s7), (9, .int .i64 s9), (10, .int .i64 s10)]) [[.int .i64 b0_0, .str b0_1, .float .f64 b0_2, .int .i64 b0_3]] G (contC Try.prog O lo34 fuel (Try.f34.body.getD .skip) [1, 1, 1, 1, 1, 1, 1, 1, 1, 0, 1, 0] (fun e env F G => match e with | .exit _ => none | _ => resC Try.prog Try.f34 env F G k))) s0 s4 s6 s7 s73 b0_0 b0_1 b0_2 b0_3 G := by kernel_rfl

theorem L34_2_eq {R : Type} (O : Ora R) (fuel : Nat) (k : IV → GH → Option R) :
  (fun (s0 : GA) (s4 : Bool) (s5 : Int) (s6 : Int) (s7 : Int) (s8 : Int) (b0_0 : Int) (b0_1 : List UInt8) (b0_2 : Nat) (b0_3 : Int) (G : GH) => stepN fuel (loopB Try.prog O lo34 fuel (nav (Try.f34.body.getD .skip) [1, 1, 1, 1, 1, 1, 1, 0, 0]) 55 (mkE 103 [(0, .ptr (some s0)), (2, .loc 0 0), (4, .bool s4), (5, .int .i64 s5), (6, .int .i64 s6), (7, .int .i64 s7), (8, .int .u8 s8)]) [[.int .i64 b0_0, .str b0_1, .float .f64 b0_2, .int .i64 b0_3]] G (contC Try.prog O lo34 fuel (Try.f34.body.getD .skip) [1, 1, 1, 1, 1, 1, 1, 0, 0] (fun e env F G => match e with | .exit _ => none | _ => resC Try.prog Try.f34 env F G k)))) = L34_2 O fuel k := by
  funext s0 s4 s5 s6 s7 s8 b0_0 b0_1 b0_2 b0_3 G
  simp only [L34_2, l34_2_eq, a34_2N_raw, L34_3_eq]

def L34_1 {R : Type} (O : Ora R) (fuel : Nat) (k : IV → GH → Option R) : GA → Bool → Int → Int → Int → Int → List UInt8 → Nat → Int → GH → Option R := fun (s0 : GA) (s4 : Bool) (s5 : Int) (s6 : Int) (s7 : Int) (b0_0 : Int) (b0_1 : List UInt8) (b0_2 : Nat) (b0_3 : Int) G =>
  stepN fuel (l34_1 O (a34_1ret O k) (a34_1N O k (L34_2 O fuel k)) s0 s4 s5 s6 s7 b0_0 b0_1 b0_2 b0_3 G)

theorem a34_1ret_raw {R : Type} (O : Ora R) (fuel : Nat) (s3 : Int) (b0_0 : Int) (b0_1 : List UInt8) (b0_2 : Nat) (b0_3 : Int) (G : GH) (k : IV → GH → Option R) :
  contC Try.prog O lo34 fuel (Try.f34.body.getD .skip) [1, 1, 1, 1, 1, 0] (fun e env F G => match e with | .exit _ => none | _ => resC Try.prog Try.f34 env F G k) .ret (mkE 103 [(2, .loc 0 0), (3, .int .i64 s3)]) [[.int .i64 b0_0, .str b0_1, .float .f64 b0_2, .int .i64 b0_3]] G =
  a34_1ret O k s3 b0_0 b0_1 b0_2 b0_3 G := by kernel_rfl

theorem a34_1N_raw {R : Type} (O : Ora R) (fuel : Nat) (s0 : GA) (s4 : Bool) (s5 : Int) (s6 : Int) (s7 : Int) (b0_0 : Int) (b0_1 : List UInt8) (b0_2 : Nat) (b0_3 : Int) (G : GH) (k : IV → GH → Option R) :
  contC Try.prog O lo34 fuel (Try.f34.body.getD .skip) [1, 1, 1, 1, 1, 0] (fun e env F G => match e with | .exit _ => none | _ => resC Try.prog Try.f34 env F G k) .normal (mkE 103 [(0, .ptr (some s0)), (2, .loc 0 0), (4, .bool s4), (5, .int .i64 s5), (6, .int .i64 s6), (7, .int .i64 s7)]) [[.int .i64 b0_0, .str b0_1, .float .f64 b0_2, .int .i64 b0_3]] G =
  a34_1N O k (fun (s0 : GA) (s4 : Bool) (s5 : Int) (s6 : Int) (s7 : Int) (s8 : Int) (b0_0 : Int) (b0_1 : List UInt8) (b0_2 : Nat) (b0_3 : Int) (G : GH) => stepN fuel (loopB Try.prog O lo34 fuel (nav (Try.f34.body.getD .skip) [1, 1, 1, 1, 1, 1, 1, 0, 0]) 55 (mkE 103 [(0, .ptr (some s0)), (2, .loc 0 0), (4, .bool s4), (5, .int .i64 s5), (6, .int .i64 s6), (7, .int .i64 s7), (8, .int .u8 s8)]) [[.int .i64 b0_0, .str b0_1, .float .f64 b0_2, .int .i64 b0_3]] G (contC Try.prog O lo34 fuel (Try.f34.body.getD .skip) [1, 1, 1, 1, 1, 1, 1, 0, 0] (fun e env F G => match e with | .exit _ => none | _ => resC Try.prog Try.f34 env F G k)))) s0 s4 s5 s6 s7 b0_0 b0_1 b0_2 b0_3 G := by kernel_rfl

theorem L34_1_eq {R : Type} (O : Ora R) (fuel : Nat) (k : IV → GH → Option R) :
  (fun (s0 : GA) (s4 : Bool) (s5 : Int) (s6 : Int) (s7 : Int) (b0_0 : Int) (b0_1 : List UInt8) (b0_2 : Nat) (b0_3 : Int) (G : GH) => stepN fuel (loopB Try.prog O lo34 fuel (nav (Try.f34.body.getD .skip) [1, 1, 1, 1, 1, 0]) 47 (mkE 103 [(0, .ptr (some s0)), (2, .loc 0 0), (4, .bool s4), (5, .int .i64 s5), (6, .int .i64 s6), (7, .int .i64 s7)]) [[.int .i64 b0_0, .str b0_1, .float .f64 b0_2, .int .i64 b0_3]] G (contC Try.prog O lo34 fuel (Try.f34.body.getD .skip) [1, 1, 1, 1, 1, 0] (fun e env F G => match e with | .exit _ => none | _ => resC Try.prog Try.f34 env F G k)))) = L34_1 O fuel k := by
  funext s0 s4 s5 s6 s7 b0_0 b0_1 b0_2 b0_3 G
  simp only [L34_1, l34_1_eq, a34_1ret_raw, a34_1N_raw, L34_2_eq]

def L34_0 {R : Type} (O : Ora R) (fuel : Nat) (k : IV → GH → Option R) : GA → Bool → Int → List UInt8 → Nat → Int → GH → Option R := fun (s0 : GA) (s4 : Bool) (b0_0 : Int) (b0_1 : List UInt8) (b0_2 : Nat) (b0_3 : Int) G =>
  stepN fuel (l34_0 O (a34_0N O k (L34_1 O fuel k)) s0 s4 b0_0 b0_1 b0_2 b0_3 G)

theorem a34_0N_raw {R : Type} (O : Ora R) (fuel : Nat) (s0 : GA) (s4 : Bool) (b0_0 : Int) (b0_1 : List UInt8) (b0_2 : Nat) (b0_3 : Int) (G : GH) (k : IV → GH → Option R) :
  contC Try.prog O lo34 fuel (Try.f34.body.getD .skip) [1, 1, 0] (fun e env F G => match e with | .exit _ => none | _ => resC Try.prog Try.f34 env F G k) .normal (mkE 103 [(0, .ptr (some s0)), (2, .loc 0 0), (4, .bool s4)]) [[.int .i64 b0_0, .str b0_1, .float .f64 b0_2, .int .i64 b0_3]] G =
  a34_0N O k (fun (s0 : GA) (s4 : Bool) (s5 : Int) (s6 : Int) (s7 : Int) (b0_0 : Int) (b0_1 : List UInt8) (b0_2 : Nat) (b0_3 : Int) (G : GH) => stepN fuel (loopB Try.prog O lo34 fuel (nav (Try.f34.body.getD .skip) [1, 1, 1, 1, 1, 0]) 47 (mkE 103 [(0, .ptr (some s0)), (2, .loc 0 0), (4, .bool s4), (5, .int .i64 s5), (6, .int .i64 s6), (7, .int .i64 s7)]) [[.int .i64 b0_0, .str b0_1, .float .f64 b0_2, .int .i64 b0_3]] G (contC Try.prog O lo34 fuel (Try.f34.body.getD .skip) [1, 1, 1, 1, 1, 0] (fun e env F G => match e with | .exit _ => none | _ => resC Try.prog Try.f34 env F G k)))) s0 s4 b0_0 b0_1 b0_2 b0_3 G := by kernel_rfl

theorem L34_0_eq {R : Type} (O : Ora R) (fuel : Nat) (k : IV → GH → Option R) :
  (fun (s0 : GA) (s4 : Bool) (b0_0 : Int) (b0_1 : List UInt8) (b0_2 : Nat) (b0_3 : Int) (G : GH) => stepN fuel (loopB Try.prog O lo34 fuel (nav (Try.f34.body.getD .skip) [1, 1, 0]) 19 (mkE 103 [(0, .ptr (some s0)), (2, .loc 0 0), (4, .bool s4)]) [[.int .i64 b0_0, .str b0_1, .float .f64 b0_2, .int .i64 b0_3]] G (contC Try.prog O lo34 fuel (Try.f34.body.getD .skip) [1, 1, 0] (fun e env F G => match e with | .exit _ => none | _ => resC Try.prog Try.f34 env F G k)))) = L34_0 O fuel k := by
  funext s0 s4 b0_0 b0_1 b0_2 b0_3 G
  simp only [L34_0, l34_0_eq, a34_0N_raw, L34_1_eq]

theorem e34_raw {R : Type} (O : Ora R) (fuel : Nat) (p0 : GA) (G : GH) (k : IV → GH → Option R) :
  bodyC Try.prog O lo34 fuel Try.f34 [.ptr (some p0)] G k =
  u34 O k (fun (s0 : GA) (s4 : Bool) (b0_0 : Int) (b0_1 : List UInt8) (b0_2 : Nat) (b0_3 : Int) (G : GH) => stepN fuel (loopB Try.prog O lo34 fuel (nav (Try.f34.body.getD .skip) [1, 1, 0]) 19 (mkE 103 [(0, .ptr (some s0)), (2, .loc 0 0), (4, .bool s4)]) [[.int .i64 b0_0, .str b0_1, .float .f64 b0_2, .int .i64 b0_3]] G (contC Try.prog O lo34 fuel (Try.f34.body.getD .skip) [1, 1, 0] (fun e env F G => match e with | .exit _ => none | _ => resC Try.prog Try.f34 env F G k)))) p0 G := by kernel_rfl

theorem e34 {R : Type} (O : Ora R) (fuel : Nat) (p0 : GA) (G : GH) (k : IV → GH → Option R) :
  bodyC Try.prog O lo34 fuel Try.f34 [.ptr (some p0)] G k =
  u34 O k (L34_0 O fuel k) p0 G := by
  rw [e34_raw, L34_0_eq]

theorem r34 {R : Type} (fuel n : Nat) (p0 : GA) (G : GH) (k : IV → GH → Option R) :
  runC Try.prog lo0 fuel (n + 1) 34 [.ptr (some p0)] G k = bodyC Try.prog (runC Try.prog lo0 fuel n) lo34 fuel Try.f34 [.ptr (some p0)] G k := run_body Try.func34 rfl rfl

/-! ### (*lantern/lanternref15.Reader).Next -/
def u16_1 {R : Type} (O : Ora R) (KN : GA → Int → Int → List UInt8 → Nat → Int → GH → Option R) (K0 : GA → Int → Int → List UInt8 → Nat → Int → GH → Option R) (s0 : GA) (s4 : Int) (b0_0 : Int) (b0_1 : List UInt8) (b0_2 : Nat) (b0_3 : Int) (G : GH) : Option R :=
  (ldInt G .i64 (GA.add s0 1)).bind fun x1 =>
  (ldStr G (GA.add s0 0)).bind fun x2 =>
  bif (decide (x1 < (x2.length : Int))) then
  O 31 [.ptr (some s0)] (gfreeze G) fun v3 _ =>
  (ivInt .u8 v3).bind fun x4 =>
  O 32 [.int .u8 x4] (gfreeze G) fun v5 _ =>
  (ivBool v5).bind fun x6 =>
  bif x6 then
  KN s0 s4 b0_0 b0_1 b0_2 b0_3 G
  else
  O 31 [.ptr (some s0)] (gfreeze G) fun v7 _ =>
  (ivInt .u8 v7).bind fun x8 =>
  O 33 [.int .u8 x8] (gfreeze G) fun v9 _ =>
  (ivBool v9).bind fun x10 =>
  bif x10 then
  KN s0 s4 b0_0 b0_1 b0_2 b0_3 G
  else
  O 31 [.ptr (some s0)] (gfreeze G) fun v11 _ =>
  (ivInt .u8 v11).bind fun x12 =>
  bif (x12 == (45 : Int)) then
  KN s0 s4 b0_0 b0_1 b0_2 b0_3 G
  else
  K0 s0 s4 b0_0 b0_1 b0_2 b0_3 G
  else
  K0 s0 s4 b0_0 b0_1 b0_2 b0_3 G

def l16_1 {R : Type} (O : Ora R) (KN : GA → Int → Int → List UInt8 → Nat → Int → GH → Option R) (K0 : GA → Int → Int → List UInt8 → Nat → Int → GH → Option R) : GA → Int → Int → List UInt8 → Nat → Int → GH → Option R := fun (s0 : GA) (s4 : Int) (b0_0 : Int) (b0_1 : List UInt8) (b0_2 : Nat) (b0_3 : Int) G => u16_1 O KN K0 s0 s4 b0_0 b0_1 b0_2 b0_3 G

theorem u16_1_raw {R : Type} (O : Ora R) (fuel : Nat) (s0 : GA) (s4 : Int) (b0_0 : Int) (b0_1 : List UInt8) (b0_2 : Nat) (b0_3 : Int) (G : GH) (k : Ex → List IV → List (List IV) → GH → Option R) :
  loopB Try.prog O lo16 fuel (nav (Try.f16.body.getD .skip) [1, 1, 1, 1, 1, 1, 1, 1, 0, 1, 0, 0, 0, 0, 0]) 55 (mkE 190 [(0, .ptr (some s0)), (2, .loc 0 0), (4, .int .i64 s4)]) [[.int .i64 b0_0, .str b0_1, .float .f64 b0_2, .int .i64 b0_3]] G k =
  u16_1 O (fun (s0 : GA) (s4 : Int) (b0_0 : Int) (b0_1 : List UInt8) (b0_2 : Nat) (b0_3 : Int) (G : GH) => k .normal (mkE 190 [(0, .ptr (some s0)), (2, .loc 0 0), (4, .int .i64 s4)]) [[.int .i64 b0_0, .str b0_1, .float .f64 b0_2, .int .i64 b0_3]] G) (fun (s0 : GA) (s4 : Int) (b0_0 : Int) (b0_1 : List UInt8) (b0_2 : Nat) (b0_3 : Int) (G : GH) => k (.exit 0) (mkE 190 [(0, .ptr (some s0)), (2, .loc 0 0), (4, .int .i64 s4)]) [[.int .i64 b0_0, .str b0_1, .float .f64 b0_2, .int .i64 b0_3]] G) s0 s4 b0_0 b0_1 b0_2 b0_3 G := by kernel_rfl

theorem l16_1_eq {R : Type} (O : Ora R) (fuel : Nat) (k : Ex → List IV → List (List IV) → GH → Option R) : ∀ (s0 : GA) (s4 : Int) (b0_0 : Int) (b0_1 : List UInt8) (b0_2 : Nat) (b0_3 : Int) (G : GH),
  loopB Try.prog O lo16 fuel (nav (Try.f16.body.getD .skip) [1, 1, 1, 1, 1, 1, 1, 1, 0, 1, 0, 0, 0, 0, 0]) 55 (mkE 190 [(0, .ptr (some s0)), (2, .loc 0 0), (4, .int .i64 s4)]) [[.int .i64 b0_0, .str b0_1, .float .f64 b0_2, .int .i64 b0_3]] G k = l16_1 O (fun (s0 : GA) (s4 : Int) (b0_0 : Int) (b0_1 : List UInt8) (b0_2 : Nat) (b0_3 : Int) (G : GH) => k .normal (mkE 190 [(0, .ptr (some s0)), (2, .loc 0 0), (4, .int .i64 s4)]) [[.int .i64 b0_0, .str b0_1, .float .f64 b0_2, .int .i64 b0_3]] G) (fun (s0 : GA) (s4 : Int) (b0_0 : Int) (b0_1 : List UInt8) (b0_2 : Nat) (b0_3 : Int) (G : GH) => k (.exit 0) (mkE 190 [(0, .ptr (some s0)), (2, .loc 0 0), (4, .int .i64 s4)]) [[.int .i64 b0_0, .str b0_1, .float .f64 b0_2, .int .i64 b0_3]] G) s0 s4 b0_0 b0_1 b0_2 b0_3 G := by
  intros
  rw [u16_1_raw]
  simp only [l16_1]

def u16_0 {R : Type} (O : Ora R) (KN : GA → Int → Int → List UInt8 → Nat → Int → GH → Option R) (K0 : GA → Int → Int → List UInt8 → Nat → Int → GH → Option R) (L1 : GA → Int → Int → List UInt8 → Nat → Int → GH → Option R) (s0 : GA) (s4 : Int) (b0_0 : Int) (b0_1 : List UInt8) (b0_2 : Nat) (b0_3 : Int) (G : GH) : Option R :=
  L1 s0 s4 b0_0 b0_1 b0_2 b0_3 G

def a16_1N {R : Type} (O : Ora R) (KN : GA → Int → Int → List UInt8 → Nat → Int → GH → Option R) (K0 : GA → Int → Int → List UInt8 → Nat → Int → GH → Option R) (s0 : GA) (s4 : Int) (b0_0 : Int) (b0_1 : List UInt8) (b0_2 : Nat) (b0_3 : Int) (G : GH) : Option R :=
  (ldInt G .i64 (GA.add s0 1)).bind fun x1 =>
  (gst G (GA.add s0 1) [.int .i64 (IntKind.wrap .i64 (x1 + (1 : Int)))]).bind fun G2 =>
  KN s0 s4 b0_0 b0_1 b0_2 b0_3 G2

def a16_10 {R : Type} (O : Ora R) (KN : GA → Int → Int → List UInt8 → Nat → Int → GH → Option R) (K0 : GA → Int → Int → List UInt8 → Nat → Int → GH → Option R) (s0 : GA) (s4 : Int) (b0_0 : Int) (b0_1 : List UInt8) (b0_2 : Nat) (b0_3 : Int) (G : GH) : Option R :=
  K0 s0 s4 b0_0 b0_1 b0_2 b0_3 G

def L16_1 {R : Type} (O : Ora R) (fuel : Nat) (KN : GA → Int → Int → List UInt8 → Nat → Int → GH → Option R) (K0 : GA → Int → Int → List UInt8 → Nat → Int → GH → Option R) : GA → Int → Int → List UInt8 → Nat → Int → GH → Option R := fun (s0 : GA) (s4 : Int) (b0_0 : Int) (b0_1 : List UInt8) (b0_2 : Nat) (b0_3 : Int) G =>
  stepN fuel (l16_1 O (a16_1N O KN K0) (a16_10 O KN K0) s0 s4 b0_0 b0_1 b0_2 b0_3 G)

theorem a16_1N_raw {R : Type} (O : Ora R) (fuel : Nat) (s0 : GA) (s4 : Int) (b0_0 : Int) (b0_1 : List UInt8) (b0_2 : Nat) (b0_3 : Int) (G : GH) (k : Ex → List IV → List (List IV) → GH → Option R) :
  contC Try.prog O lo16 fuel (nav (Try.f16.body.getD .skip) [1, 1, 1, 1, 1, 1, 1, 1, 0, 1, 0, 0, 0, 0]) [0] (kpK lo16 48 k) .normal (mkE 190 [(0, .ptr (some s0)), (2, .loc 0 0), (4, .int .i64 s4)]) [[.int .i64 b0_0, .str b0_1, .float .f64 b0_2, .int .i64 b0_3]] G =
  a16_1N O (fun (s0 : GA) (s4 : Int) (b0_0 : Int) (b0_1 : List UInt8) (b0_2 : Nat) (b0_3 : Int) (G : GH) => k .normal (mkE 190 [(0, .ptr (some s0)), (2, .loc 0 0), (4, .int .i64 s4)]) [[.int .i64 b0_0, .str b0_1, .float .f64 b0_2, .int .i64 b0_3]] G) (fun (s0 : GA) (s4 : Int) (b0_0 : Int) (b0_1 : List UInt8) (b0_2 : Nat) (b0_3 : Int) (G : GH) => k (.exit 0) (mkE 190 [(0, .ptr (some s0)), (2, .loc 0 0), (4, .int .i64 s4)]) [[.int .i64 b0_0, .str b0_1, .float .f64 b0_2, .int .i64 b0_3]] G) s0 s4 b0_0 b0_1 b0_2 b0_3 G := by kernel_rfl

theorem a16_10_raw {R : Type} (O : Ora R) (fuel : Nat) (s0 : GA) (s4 : Int) (b0_0 : Int) (b0_1 : List UInt8) (b0_2 : Nat) (b0_3 : Int) (G : GH) (k : Ex → List IV → List (List IV) → GH → Option R) :
  contC Try.prog O lo16 fuel (nav (Try.f16.body.getD .skip) [1, 1, 1, 1, 1, 1, 1, 1, 0, 1, 0, 0, 0, 0]) [0] (kpK lo16 48 k) (.exit 0) (mkE 190 [(0, .ptr (some s0)), (2, .loc 0 0), (4, .int .i64 s4)]) [[.int .i64 b0_0, .str b0_1, .float .f64 b0_2, .int .i64 b0_3]] G =
  a16_10 O (fun (s0 : GA) (s4 : Int) (b0_0 : Int) (b0_1 : List UInt8) (b0_2 : Nat) (b0_3 : Int) (G : GH) => k .normal (mkE 190 [(0, .ptr (some s0)), (2, .loc 0 0), (4, .int .i64 s4)]) [[.int .i64 b0_0, .str b0_1, .float .f64 b0_2, .int .i64 b0_3]] G) (fun (s0 : GA) (s4 : Int) (b0_0 : Int) (b0_1 : List UInt8) (b0_2 : Nat) (b0_3 : Int) (G : GH) => k (.exit 0) (mkE 190 [(0, .ptr (some s0)), (2, .loc 0 0), (4, .int .i64 s4)]) [[.int .i64 b0_0, .str b0_1, .float .f64 b0_2, .int .i64 b0_3]] G) s0 s4 b0_0 b0_1 b0_2 b0_3 G := by kernel_rfl

theorem L16_1_eq {R : Type} (O : Ora R) (fuel : Nat) (k : Ex → List IV → List (List IV) → GH → Option R) :
  (fun (s0 : GA) (s4 : Int) (b0_0 : Int) (b0_1 : List UInt8) (b0_2 : Nat) (b0_3 : Int) (G : GH) => stepN fuel (loopB Try.prog O lo16 fuel (nav (Try.f16.body.getD .skip) [1, 1, 1, 1, 1, 1, 1, 1, 0, 1, 0, 0, 0, 0, 0]) 55 (mkE 190 [(0, .ptr (some s0)), (2, .loc 0 0), (4, .int .i64 s4)]) [[.int .i64 b0_0, .str b0_1, .float .f64 b0_2, .int .i64 b0_3]] G (contC Try.prog O lo16 fuel (nav (Try.f16.body.getD .skip) [1, 1, 1, 1, 1, 1, 1, 1, 0, 1, 0, 0, 0, 0]) [0] (kpK lo16 48 k)))) = L16_1 O fuel (fun (s0 : GA) (s4 : Int) (b0_0 : Int) (b0_1 : List UInt8) (b0_2 : Nat) (b0_3 : Int) (G : GH) => k .normal (mkE 190 [(0, .ptr (some s0)), (2, .loc 0 0), (4, .int .i64 s4)]) [[.int .i64 b0_0, .str b0_1, .float .f64 b0_2, .int .i64 b0_3]] G) (fun (s0 : GA) (s4 : Int) (b0_0 : Int) (b0_1 : List UInt8) (b0_2 : Nat) (b0_3 : Int) (G : GH) => k (.exit 0) (mkE 190 [(0, .ptr (some s0)), (2, .loc 0 0), (4, .int .i64 s4)]) [[.int .i64 b0_0, .str b0_1, .float .f64 b0_2, .int .i64 b0_3]] G) := by
  funext s0 s4 b0_0 b0_1 b0_2 b0_3 G
  simp only [L16_1, l16_1_eq, a16_1N_raw, a16_10_raw]

def l16_0 {R : Type} (O : Ora R) (fuel : Nat) (K0 : GA → Int → Int → List UInt8 → Nat → Int → GH → Option R) : Nat → GA → Int → Int → List UInt8 → Nat → Int → GH → Option R
  | 0, _, _, _, _, _, _, _ => none
  | n + 1, s0, s4, b0_0, b0_1, b0_2, b0_3, G => u16_0 O (l16_0 O fuel K0 n) K0 (L16_1 O fuel (l16_0 O fuel K0 n) K0) s0 s4 b0_0 b0_1 b0_2 b0_3 G

theorem u16_0_raw {R : Type} (O : Ora R) (fuel : Nat) (s0 : GA) (s4 : Int) (b0_0 : Int) (b0_1 : List UInt8) (b0_2 : Nat) (b0_3 : Int) (G : GH) (k : Ex → List IV → List (List IV) → GH → Option R) :
  loopB Try.prog O lo16 fuel (nav (Try.f16.body.getD .skip) [1, 1, 1, 1, 1, 1, 1, 1, 0, 1, 0, 0, 0, 0]) 48 (mkE 190 [(0, .ptr (some s0)), (2, .loc 0 0), (4, .int .i64 s4)]) [[.int .i64 b0_0, .str b0_1, .float .f64 b0_2, .int .i64 b0_3]] G k =
  u16_0 O (fun (s0 : GA) (s4 : Int) (b0_0 : Int) (b0_1 : List UInt8) (b0_2 : Nat) (b0_3 : Int) (G : GH) => k .normal (mkE 190 [(0, .ptr (some s0)), (2, .loc 0 0), (4, .int .i64 s4)]) [[.int .i64 b0_0, .str b0_1, .float .f64 b0_2, .int .i64 b0_3]] G) (fun (s0 : GA) (s4 : Int) (b0_0 : Int) (b0_1 : List UInt8) (b0_2 : Nat) (b0_3 : Int) (G : GH) => k (.exit 0) (mkE 190 [(0, .ptr (some s0)), (2, .loc 0 0), (4, .int .i64 s4)]) [[.int .i64 b0_0, .str b0_1, .float .f64 b0_2, .int .i64 b0_3]] G) (fun (s0 : GA) (s4 : Int) (b0_0 : Int) (b0_1 : List UInt8) (b0_2 : Nat) (b0_3 : Int) (G : GH) => stepN fuel (loopB Try.prog O lo16 fuel (nav (Try.f16.body.getD .skip) [1, 1, 1, 1, 1, 1, 1, 1, 0, 1, 0, 0, 0, 0, 0]) 55 (mkE 190 [(0, .ptr (some s0)), (2, .loc 0 0), (4, .int .i64 s4)]) [[.int .i64 b0_0, .str b0_1, .float .f64 b0_2, .int .i64 b0_3]] G (contC Try.prog O lo16 fuel (nav (Try.f16.body.getD .skip) [1, 1, 1, 1, 1, 1, 1, 1, 0, 1, 0, 0, 0, 0]) [0] (kpK lo16 48 k)))) s0 s4 b0_0 b0_1 b0_2 b0_3 G := by kernel_rfl

theorem l16_0_eq {R : Type} (O : Ora R) (fuel : Nat) (k : Ex → List IV → List (List IV) → GH → Option R) : ∀ (n : Nat) (s0 : GA) (s4 : Int) (b0_0 : Int) (b0_1 : List UInt8) (b0_2 : Nat) (b0_3 : Int) (G : GH),
  loopN (loopB Try.prog O lo16 fuel (nav (Try.f16.body.getD .skip) [1, 1, 1, 1, 1, 1, 1, 1, 0, 1, 0, 0, 0, 0]) 48) n (mkE 190 [(0, .ptr (some s0)), (2, .loc 0 0), (4, .int .i64 s4)]) [[.int .i64 b0_0, .str b0_1, .float .f64 b0_2, .int .i64 b0_3]] G k = l16_0 O fuel (fun (s0 : GA) (s4 : Int) (b0_0 : Int) (b0_1 : List UInt8) (b0_2 : Nat) (b0_3 : Int) (G : GH) => k (.exit 0) (mkE 190 [(0, .ptr (some s0)), (2, .loc 0 0), (4, .int .i64 s4)]) [[.int .i64 b0_0, .str b0_1, .float .f64 b0_2, .int .i64 b0_3]] G) n s0 s4 b0_0 b0_1 b0_2 b0_3 G := by
  intro n
  induction n with
  | zero => intros; rfl
  | succ n ih =>
    intros
    rw [loopN_succ, u16_0_raw]
    simp only [l16_0, loopK_normal, loopK_exit, loopK_ret, ih, L16_1_eq]

def u16_3 {R : Type} (O : Ora R) (KN : GA → Int → Int → List UInt8 → Nat → Int → GH → Option R) (K2 : GA → Int → Int → List UInt8 → Nat → Int → GH → Option R) (s0 : GA) (s4 : Int) (b0_0 : Int) (b0_1 : List UInt8) (b0_2 : Nat) (b0_3 : Int) (G : GH) : Option R :=
  (ldInt G .i64 (GA.add s0 1)).bind fun x1 =>
  (ldStr G (GA.add s0 0)).bind fun x2 =>
  bif (decide (x1 < (x2.length : Int))) then
  O 31 [.ptr (some s0)] (gfreeze G) fun v3 _ =>
  (ivInt .u8 v3).bind fun x4 =>
  bif (x4 != (34 : Int)) then
  O 31 [.ptr (some s0)] (gfreeze G) fun v5 _ =>
  (ivInt .u8 v5).bind fun x6 =>
  bif (x6 != (10 : Int)) then
  KN s0 s4 b0_0 b0_1 b0_2 b0_3 G
  else
  K2 s0 s4 b0_0 b0_1 b0_2 b0_3 G
  else
  K2 s0 s4 b0_0 b0_1 b0_2 b0_3 G
  else
  K2 s0 s4 b0_0 b0_1 b0_2 b0_3 G

def l16_3 {R : Type} (O : Ora R) (KN : GA → Int → Int → List UInt8 → Nat → Int → GH → Option R) (K2 : GA → Int → Int → List UInt8 → Nat → Int → GH → Option R) : GA → Int → Int → List UInt8 → Nat → Int → GH → Option R := fun (s0 : GA) (s4 : Int) (b0_0 : Int) (b0_1 : List UInt8) (b0_2 : Nat) (b0_3 : Int) G => u16_3 O KN K2 s0 s4 b0_0 b0_1 b0_2 b0_3 G

theorem u16_3_raw {R : Type} (O : Ora R) (fuel : Nat) (s0 : GA) (s4 : Int) (b0_0 : Int) (b0_1 : List UInt8) (b0_2 : Nat) (b0_3 : Int) (G : GH) (k : Ex → List IV → List (List IV) → GH → Option R) :
  loopB Try.prog O lo16 fuel (nav (Try.f16.body.getD .skip) [1, 1, 1, 1, 1, 1, 1, 1, 1, 0, 1, 0, 1, 0, 0, 0, 0]) 75 (mkE 190 [(0, .ptr (some s0)), (2, .loc 0 0), (4, .int .i64 s4)]) [[.int .i64 b0_0, .str b0_1, .float .f64 b0_2, .int .i64 b0_3]] G k =
  u16_3 O (fun (s0 : GA) (s4 : Int) (b0_0 : Int) (b0_1 : List UInt8) (b0_2 : Nat) (b0_3 : Int) (G : GH) => k .normal (mkE 190 [(0, .ptr (some s0)), (2, .loc 0 0), (4, .int .i64 s4)]) [[.int .i64 b0_0, .str b0_1, .float .f64 b0_2, .int .i64 b0_3]] G) (fun (s0 : GA) (s4 : Int) (b0_0 : Int) (b0_1 : List UInt8) (b0_2 : Nat) (b0_3 : Int) (G : GH) => k (.exit 2) (mkE 190 [(0, .ptr (some s0)), (2, .loc 0 0), (4, .int .i64 s4)]) [[.int .i64 b0_0, .str b0_1, .float .f64 b0_2, .int .i64 b0_3]] G) s0 s4 b0_0 b0_1 b0_2 b0_3 G := by kernel_rfl

theorem l16_3_eq {R : Type} (O : Ora R) (fuel : Nat) (k : Ex → List IV → List (List IV) → GH → Option R) : ∀ (s0 : GA) (s4 : Int) (b0_0 : Int) (b0_1 : List UInt8) (b0_2 : Nat) (b0_3 : Int) (G : GH),
  loopB Try.prog O lo16 fuel (nav (Try.f16.body.getD .skip) [1, 1, 1, 1, 1, 1, 1, 1, 1, 0, 1, 0, 1, 0, 0, 0, 0]) 75 (mkE 190 [(0, .ptr (some s0)), (2, .loc 0 0), (4, .int .i64 s4)]) [[.int .i64 b0_0, .str b0_1, .float .f64 b0_2, .int .i64 b0_3]] G k = l16_3 O (fun (s0 : GA) (s4 : Int) (b0_0 : Int) (b0_1 : List UInt8) (b0_2 : Nat) (b0_3 : Int) (G : GH) => k .normal (mkE 190 [(0, .ptr (some s0)), (2, .loc 0 0), (4, .int .i64 s4)]) [[.int .i64 b0_0, .str b0_1, .float .f64 b0_2, .int .i64 b0_3]] G) (fun (s0 : GA) (s4 : Int) (b0_0 : Int) (b0_1 : List UInt8) (b0_2 : Nat) (b0_3 : Int) (G : GH) => k (.exit 2) (mkE 190 [(0, .ptr (some s0)), (2, .loc 0 0), (4, .int .i64 s4)]) [[.int .i64 b0_0, .str b0_1, .float .f64 b0_2, .int .i64 b0_3]] G) s0 s4 b0_0 b0_1 b0_2 b0_3 G := by
  intros
  rw [u16_3_raw]
  simp only [l16_3]

def u16_2 {R : Type} (O : Ora R) (KN : GA → Int → Int → List UInt8 → Nat → Int → GH → Option R) (K2 : GA → Int → Int → List UInt8 → Nat → Int → GH → Option R) (L3 : GA → Int → Int → List UInt8 → Nat → Int → GH → Option R) (s0 : GA) (s4 : Int) (b0_0 : Int) (b0_1 : List UInt8) (b0_2 : Nat) (b0_3 : Int) (G : GH) : Option R :=
  L3 s0 s4 b0_0 b0_1 b0_2 b0_3 G

def a16_3N {R : Type} (O : Ora R) (KN : GA → Int → Int → List UInt8 → Nat → Int → GH → Option R) (K2 : GA → Int → Int → List UInt8 → Nat → Int → GH → Option R) (s0 : GA) (s4 : Int) (b0_0 : Int) (b0_1 : List UInt8) (b0_2 : Nat) (b0_3 : Int) (G : GH) : Option R :=
  (ldInt G .i64 (GA.add s0 1)).bind fun x1 =>
  (gst G (GA.add s0 1) [.int .i64 (IntKind.wrap .i64 (x1 + (1 : Int)))]).bind fun G2 =>
  KN s0 s4 b0_0 b0_1 b0_2 b0_3 G2

def a16_32 {R : Type} (O : Ora R) (KN : GA → Int → Int → List UInt8 → Nat → Int → GH → Option R) (K2 : GA → Int → Int → List UInt8 → Nat → Int → GH → Option R) (s0 : GA) (s4 : Int) (b0_0 : Int) (b0_1 : List UInt8) (b0_2 : Nat) (b0_3 : Int) (G : GH) : Option R :=
  K2 s0 s4 b0_0 b0_1 b0_2 b0_3 G

def L16_3 {R : Type} (O : Ora R) (fuel : Nat) (KN : GA → Int → Int → List UInt8 → Nat → Int → GH → Option R) (K2 : GA → Int → Int → List UInt8 → Nat → Int → GH → Option R) : GA → Int → Int → List UInt8 → Nat → Int → GH → Option R := fun (s0 : GA) (s4 : Int) (b0_0 : Int) (b0_1 : List UInt8) (b0_2 : Nat) (b0_3 : Int) G =>
  stepN fuel (l16_3 O (a16_3N O KN K2) (a16_32 O KN K2) s0 s4 b0_0 b0_1 b0_2 b0_3 G)

theorem a16_3N_raw {R : Type} (O : Ora R) (fuel : Nat) (s0 : GA) (s4 : Int) (b0_0 : Int) (b0_1 : List UInt8) (b0_2 : Nat) (b0_3 : Int) (G : GH) (k : Ex → List IV → List (List IV) → GH → Option R) :
  contC Try.prog O lo16 fuel (nav (Try.f16.body.getD .skip) [1, 1, 1, 1, 1, 1, 1, 1, 1, 0, 1, 0, 1, 0, 0, 0]) [0] (kpK lo16 68 k) .normal (mkE 190 [(0, .ptr (some s0)), (2, .loc 0 0), (4, .int .i64 s4)]) [[.int .i64 b0_0, .str b0_1, .float .f64 b0_2, .int .i64 b0_3]] G =
  a16_3N O (fun (s0 : GA) (s4 : Int) (b0_0 : Int) (b0_1 : List UInt8) (b0_2 : Nat) (b0_3 : Int) (G : GH) => k .normal (mkE 190 [(0, .ptr (some s0)), (2, .loc 0 0), (4, .int .i64 s4)]) [[.int .i64 b0_0, .str b0_1, .float .f64 b0_2, .int .i64 b0_3]] G) (fun (s0 : GA) (s4 : Int) (b0_0 : Int) (b0_1 : List UInt8) (b0_2 : Nat) (b0_3 : Int) (G : GH) => k (.exit 2) (mkE 190 [(0, .ptr (some s0)), (2, .loc 0 0), (4, .int .i64 s4)]) [[.int .i64 b0_0, .str b0_1, .float .f64 b0_2, .int .i64 b0_3]] G) s0 s4 b0_0 b0_1 b0_2 b0_3 G := by kernel_rfl

theorem a16_32_raw {R : Type} (O : Ora R) (fuel : Nat) (s0 : GA) (s4 : Int) (b0_0 : Int) (b0_1 : List UInt8) (b0_2 : Nat) (b0_3 : Int) (G : GH) (k : Ex → List IV → List (List IV) → GH → Option R) :
  contC Try.prog O lo16 fuel (nav (Try.f16.body.getD .skip) [1, 1, 1, 1, 1, 1, 1, 1, 1, 0, 1, 0, 1, 0, 0, 0]) [0] (kpK lo16 68 k) (.exit 2) (mkE 190 [(0, .ptr (some s0)), (2, .loc 0 0), (4, .int .i64 s4)]) [[.int .i64 b0_0, .str b0_1, .float .f64 b0_2, .int .i64 b0_3]] G =
  a16_32 O (fun (s0 : GA) (s4 : Int) (b0_0 : Int) (b0_1 : List UInt8) (b0_2 : Nat) (b0_3 : Int) (G : GH) => k .normal (mkE 190 [(0, .ptr (some s0)), (2, .loc 0 0), (4, .int .i64 s4)]) [[.int .i64 b0_0, .str b0_1, .float .f64 b0_2, .int .i64 b0_3]] G) (fun (s0 : GA) (s4 : Int) (b0_0 : Int) (b0_1 : List UInt8) (b0_2 : Nat) (b0_3 : Int) (G : GH) => k (.exit 2) (mkE 190 [(0, .ptr (some s0)), (2, .loc 0 0), (4, .int .i64 s4)]) [[.int .i64 b0_0, .str b0_1, .float .f64 b0_2, .int .i64 b0_3]] G) s0 s4 b0_0 b0_1 b0_2 b0_3 G := by kernel_rfl

theorem L16_3_eq {R : Type} (O : Ora R) (fuel : Nat) (k : Ex → List IV → List (List IV) → GH → Option R) :
  (fun (s0 : GA) (s4 : Int) (b0_0 : Int) (b0_1 : List UInt8) (b0_2 : Nat) (b0_3 : Int) (G : GH) => stepN fuel (loopB Try.prog O lo16 fuel (nav (Try.f16.body.getD .skip) [1, 1, 1, 1, 1, 1, 1, 1, 1, 0, 1, 0, 1, 0, 0, 0, 0]) 75 (mkE 190 [(0, .ptr (some s0)), (2, .loc 0 0), (4, .int .i64 s4)]) [[.int .i64 b0_0, .str b0_1, .float .f64 b0_2, .int .i64 b0_3]] G (contC Try.prog O lo16 fuel (nav (Try.f16.body.getD .skip) [1, 1, 1, 1, 1, 1, 1, 1, 1, 0, 1, 0, 1, 0, 0, 0]) [0] (kpK lo16 68 k)))) = L16_3 O fuel (fun (s0 : GA) (s4 : Int) (b0_0 : Int) (b0_1 : List UInt8) (b0_2 : Nat) (b0_3 : Int) (G : GH) => k .normal (mkE 190 [(0, .ptr (some s0)), (2, .loc 0 0), (4, .int .i64 s4)]) [[.int .i64 b0_0, .str b0_1, .float .f64 b0_2, .int .i64 b0_3]] G) (fun (s0 : GA) (s4 : Int) (b0_0 : Int) (b0_1 : List UInt8) (b0_2 : Nat) (b0_3 : Int) (G : GH) => k (.exit 2) (mkE 190 [(0, .ptr (some s0)), (2, .loc 0 0), (4, .int .i64 s4)]) [[.int .i64 b0_0, .str b0_1, .float .f64 b0_2, .int .i64 b0_3]] G) := by
  funext s0 s4 b0_0 b0_1 b0_2 b0_3 G
  simp only [L16_3, l16_3_eq, a16_3N_raw, a16_32_raw]

def l16_2 {R : Type} (O : Ora R) (fuel : Nat) (K2 : GA → Int → Int → List UInt8 → Nat → Int → GH → Option R) : Nat → GA → Int → Int → List UInt8 → Nat → Int → GH → Option R
  | 0, _, _, _, _, _, _, _ => none
  | n + 1, s0, s4, b0_0, b0_1, b0_2, b0_3, G => u16_2 O (l16_2 O fuel K2 n) K2 (L16_3 O fuel (l16_2 O fuel K2 n) K2) s0 s4 b0_0 b0_1 b0_2 b0_3 G

theorem u16_2_raw {R : Type} (O : Ora R) (fuel : Nat) (s0 : GA) (s4 : Int) (b0_0 : Int) (b0_1 : List UInt8) (b0_2 : Nat) (b0_3 : Int) (G : GH) (k : Ex → List IV → List (List IV) → GH → Option R) :
  loopB Try.prog O lo16 fuel (nav (Try.f16.body.getD .skip) [1, 1, 1, 1, 1, 1, 1, 1, 1, 0, 1, 0, 1, 0, 0, 0]) 68 (mkE 190 [(0, .ptr (some s0)), (2, .loc 0 0), (4, .int .i64 s4)]) [[.int .i64 b0_0, .str b0_1, .float .f64 b0_2, .int .i64 b0_3]] G k =
  u16_2 O (fun (s0 : GA) (s4 : Int) (b0_0 : Int) (b0_1 : List UInt8) (b0_2 : Nat) (b0_3 : Int) (G : GH) => k .normal (mkE 190 [(0, .ptr (some s0)), (2, .loc 0 0), (4, .int .i64 s4)]) [[.int .i64 b0_0, .str b0_1, .float .f64 b0_2, .int .i64 b0_3]] G) (fun (s0 : GA) (s4 : Int) (b0_0 : Int) (b0_1 : List UInt8) (b0_2 : Nat) (b0_3 : Int) (G : GH) => k (.exit 2) (mkE 190 [(0, .ptr (some s0)), (2, .loc 0 0), (4, .int .i64 s4)]) [[.int .i64 b0_0, .str b0_1, .float .f64 b0_2, .int .i64 b0_3]] G) (fun (s0 : GA) (s4 : Int) (b0_0 : Int) (b0_1 : List UInt8) (b0_2 : Nat) (b0_3 : Int) (G : GH) => stepN fuel (loopB Try.prog O lo16 fuel (nav (Try.f16.body.getD .skip) [1, 1, 1, 1, 1, 1, 1, 1, 1, 0, 1, 0, 1, 0, 0, 0, 0]) 75 (mkE 190 [(0, .ptr (some s0)), (2, .loc 0 0), (4, .int .i64 s4)]) [[.int .i64 b0_0, .str b0_1, .float .f64 b0_2, .int .i64 b0_3]] G (contC Try.prog O lo16 fuel (nav (Try.f16.body.getD .skip) [1, 1, 1, 1, 1, 1, 1, 1, 1, 0, 1, 0, 1, 0, 0, 0]) [0] (kpK lo16 68 k)))) s0 s4 b0_0 b0_1 b0_2 b0_3 G := by kernel_rfl

theorem l16_2_eq {R : Type} (O : Ora R) (fuel : Nat) (k : Ex → List IV → List (List IV) → GH → Option R) : ∀ (n : Nat) (s0 : GA) (s4 : Int) (b0_0 : Int) (b0_1 : List UInt8) (b0_2 : Nat) (b0_3 : Int) (G : GH),
  loopN (loopB Try.prog O lo16 fuel (nav (Try.f16.body.getD .skip) [1, 1, 1, 1, 1, 1, 1, 1, 1, 0, 1, 0, 1, 0, 0, 0]) 68) n (mkE 190 [(0, .ptr (some s0)), (2, .loc 0 0), (4, .int .i64 s4)]) [[.int .i64 b0_0, .str b0_1, .float .f64 b0_2, .int .i64 b0_3]] G k = l16_2 O fuel (fun (s0 : GA) (s4 : Int) (b0_0 : Int) (b0_1 : List UInt8) (b0_2 : Nat) (b0_3 : Int) (G : GH) => k (.exit 2) (mkE 190 [(0, .ptr (some s0)), (2, .loc 0 0), (4, .int .i64 s4)]) [[.int .i64 b0_0, .str b0_1, .float .f64 b0_2, .int .i64 b0_3]] G) n s0 s4 b0_0 b0_1 b0_2 b0_3 G := by
  intro n
  induction n with
  | zero => intros; rfl
  | succ n ih =>
    intros
    rw [loopN_succ, u16_2_raw]
    simp only [l16_2, loopK_normal, loopK_exit, loopK_ret, ih, L16_3_eq]

def u16_4 {R : Type} (O : Ora R) (KN : GA → Bool → Int → List UInt8 → Nat → Int → GH → Option R) (s0 : GA) (s5 : Int) (b0_0 : Int) (b0_1 : List UInt8) (b0_2 : Nat) (b0_3 : Int) (G : GH) : Option R :=
  O 33 [.int .u8 s5] G fun v1 G2 =>
  (ivBool v1).bind fun x3 =>
  bif x3 then
  KN s0 true b0_0 b0_1 b0_2 b0_3 G2
  else
  KN s0 (s5 == (45 : Int)) b0_0 b0_1 b0_2 b0_3 G2

def l16_4 {R : Type} (O : Ora R) (KN : GA → Bool → Int → List UInt8 → Nat → Int → GH → Option R) : GA → Int → Int → List UInt8 → Nat → Int → GH → Option R := fun (s0 : GA) (s5 : Int) (b0_0 : Int) (b0_1 : List UInt8) (b0_2 : Nat) (b0_3 : Int) G => u16_4 O KN s0 s5 b0_0 b0_1 b0_2 b0_3 G

theorem u16_4_raw {R : Type} (O : Ora R) (fuel : Nat) (s0 : GA) (s5 : Int) (b0_0 : Int) (b0_1 : List UInt8) (b0_2 : Nat) (b0_3 : Int) (G : GH) (k : Ex → List IV → List (List IV) → GH → Option R) :
  loopB Try.prog O lo16 fuel (nav (Try.f16.body.getD .skip) [1, 1, 1, 1, 1, 1, 1, 1, 1, 1, 0, 0]) 99 (mkE 190 [(0, .ptr (some s0)), (2, .loc 0 0), (5, .int .u8 s5)]) [[.int .i64 b0_0, .str b0_1, .float .f64 b0_2, .int .i64 b0_3]] G k =
  u16_4 O (fun (s0 : GA) (s181 : Bool) (b0_0 : Int) (b0_1 : List UInt8) (b0_2 : Nat) (b0_3 : Int) (G : GH) => k .normal (mkE 190 [(0, .ptr (some s0)), (2, .loc 0 0), (181, .bool s181)]) [[.int .i64 b0_0, .str b0_1, .float .f64 b0_2, .int .i64 b0_3]] G) s0 s5 b0_0 b0_1 b0_2 b0_3 G := by kernel_rfl

theorem l16_4_eq {R : Type} (O : Ora R) (fuel : Nat) (k : Ex → List IV → List (List IV) → GH → Option R) : ∀ (s0 : GA) (s5 : Int) (b0_0 : Int) (b0_1 : List UInt8) (b0_2 : Nat) (b0_3 : Int) (G : GH),
  loopB Try.prog O lo16 fuel (nav (Try.f16.body.getD .skip) [1, 1, 1, 1, 1, 1, 1, 1, 1, 1, 0, 0]) 99 (mkE 190 [(0, .ptr (some s0)), (2, .loc 0 0), (5, .int .u8 s5)]) [[.int .i64 b0_0, .str b0_1, .float .f64 b0_2, .int .i64 b0_3]] G k = l16_4 O (fun (s0 : GA) (s181 : Bool) (b0_0 : Int) (b0_1 : List UInt8) (b0_2 : Nat) (b0_3 : Int) (G : GH) => k .normal (mkE 190 [(0, .ptr (some s0)), (2, .loc 0 0), (181, .bool s181)]) [[.int .i64 b0_0, .str b0_1, .float .f64 b0_2, .int .i64 b0_3]] G) s0 s5 b0_0 b0_1 b0_2 b0_3 G := by
  intros
  rw [u16_4_raw]
  simp only [l16_4]

def u16 {R : Type} (O : Ora R) (k : IV → GH → Option R) (L0 : GA → Int → Int → List UInt8 → Nat → Int → GH → Option R) (L2 : GA → Int → Int → List UInt8 → Nat → Int → GH → Option R) (L4 : GA → Int → Int → List UInt8 → Nat → Int → GH → Option R) (p0 : GA) (G : GH) : Option R :=
  (ldInt G .i64 (GA.add p0 4)).bind fun x1 =>
  bif (x1 != (0 : Int)) then
  (ldInt G .i64 (GA.add p0 4)).bind fun x2 =>
  k (.tuple [.agg [.int .i64 (0 : Int), .str ([] : List UInt8), .float .f64 (0 : Nat), .int .i64 (0 : Int)], .int .i64 x2]) G
  else
  O 29 [.ptr (some p0)] G fun v3 G4 =>
  (ivTup 0 v3).bind fun c5 =>
  (ldInt G4 .i64 (GA.add p0 1)).bind fun x6 =>
  (ldStr G4 (GA.add p0 0)).bind fun x7 =>
  bif (decide (x6 ≥ (x7.length : Int))) then
  (ldInt G4 .i64 (GA.add p0 2)).bind fun x8 =>
  k (.tuple [.agg [.int .i64 (4 : Int), .str ([] : List UInt8), .float .f64 (0 : Nat), .int .i64 x8], .int .i64 (0 : Int)]) G4
  else
  (ldInt G4 .i64 (GA.add p0 3)).bind fun x9 =>
  bif (decide (x9 ≥ (16384 : Int))) then
  O 30 [.ptr (some p0), .int .i64 (163 : Int)] G4 fun v10 G11 =>
  (ivTup 2 v10).bind fun c12 =>
  (ivAgg 4 (c12.getD 0 undefI)).bind fun c13 =>
  (ivInt .i64 (c13.getD 0 undefI)).bind fun x14 =>
  (ivStr (c13.getD 1 undefI)).bind fun x15 =>
  (ivFloat .f64 (c13.getD 2 undefI)).bind fun x16 =>
  (ivInt .i64 (c13.getD 3 undefI)).bind fun x17 =>
  (ivInt .i64 (c12.getD 1 undefI)).bind fun x18 =>
  k (.tuple [.agg [.int .i64 x14, .str x15, .float .f64 x16, .int .i64 x17], .int .i64 x18]) G11
  else
  (ldInt G4 .i64 (GA.add p0 3)).bind fun x19 =>
  (gst G4 (GA.add p0 3) [.int .i64 (IntKind.wrap .i64 (x19 + (1 : Int)))]).bind fun G20 =>
  (ldInt G20 .i64 (GA.add p0 1)).bind fun x21 =>
  O 31 [.ptr (some p0)] G20 fun v22 G23 =>
  (ivInt .u8 v22).bind fun x24 =>
  O 32 [.int .u8 x24] G23 fun v25 G26 =>
  (ivBool v25).bind fun x27 =>
  bif x27 then
  L0 p0 x21 (0 : Int) ([] : List UInt8) (0 : Nat) (0 : Int) G26
  else
  bif (x24 == (34 : Int)) then
  (ldInt G26 .i64 (GA.add p0 1)).bind fun x28 =>
  (gst G26 (GA.add p0 1) [.int .i64 (IntKind.wrap .i64 (x28 + (1 : Int)))]).bind fun G29 =>
  L2 p0 x21 (0 : Int) ([] : List UInt8) (0 : Nat) (0 : Int) G29
  else
  L4 p0 x24 (0 : Int) ([] : List UInt8) (0 : Nat) (0 : Int) G26

def a16_00 {R : Type} (O : Ora R) (k : IV → GH → Option R) (s0 : GA) (s4 : Int) (b0_0 : Int) (b0_1 : List UInt8) (b0_2 : Nat) (b0_3 : Int) (G : GH) : Option R :=
  (ldStr G (GA.add s0 0)).bind fun x1 =>
  (ldInt G .i64 (GA.add s0 1)).bind fun x2 =>
  bif decide (0 ≤ s4 ∧ s4 ≤ x2 ∧ x2 ≤ (x1.length : Int)) then
  (ldInt G .i64 (GA.add s0 2)).bind fun x3 =>
  k (.tuple [.agg [.int .i64 (1 : Int), .str ((x1.drop (Int.toNat s4)).take (Int.toNat x2 - Int.toNat s4)), .float .f64 (0 : Nat), .int .i64 x3], .int .i64 (0 : Int)]) G
  else none

def a16_22 {R : Type} (O : Ora R) (k : IV → GH → Option R) (s0 : GA) (s4 : Int) (b0_0 : Int) (b0_1 : List UInt8) (b0_2 : Nat) (b0_3 : Int) (G : GH) : Option R :=
  O 31 [.ptr (some s0)] G fun v1 G2 =>
  (ivInt .u8 v1).bind fun x3 =>
  bif (x3 != (34 : Int)) then
  O 30 [.ptr (some s0), .int .i64 (161 : Int)] G2 fun v4 G5 =>
  (ivTup 2 v4).bind fun c6 =>
  (ivAgg 4 (c6.getD 0 undefI)).bind fun c7 =>
  (ivInt .i64 (c7.getD 0 undefI)).bind fun x8 =>
  (ivStr (c7.getD 1 undefI)).bind fun x9 =>
  (ivFloat .f64 (c7.getD 2 undefI)).bind fun x10 =>
  (ivInt .i64 (c7.getD 3 undefI)).bind fun x11 =>
  (ivInt .i64 (c6.getD 1 undefI)).bind fun x12 =>
  k (.tuple [.agg [.int .i64 x8, .str x9, .float .f64 x10, .int .i64 x11], .int .i64 x12]) G5
  else
  (ldInt G2 .i64 (GA.add s0 1)).bind fun x13 =>
  (gst G2 (GA.add s0 1) [.int .i64 (IntKind.wrap .i64 (x13 + (1 : Int)))]).bind fun G14 =>
  (ldStr G14 (GA.add s0 0)).bind fun x15 =>
  (ldInt G14 .i64 (GA.add s0 1)).bind fun x16 =>
  bif decide (0 ≤ (IntKind.wrap .i64 (s4 + (1 : Int))) ∧ (IntKind.wrap .i64 (s4 + (1 : Int))) ≤ (IntKind.wrap .i64 (x16 - (1 : Int))) ∧ (IntKind.wrap .i64 (x16 - (1 : Int))) ≤ (x15.length : Int)) then
  (ldInt G14 .i64 (GA.add s0 2)).bind fun x17 =>
  k (.tuple [.agg [.int .i64 (3 : Int), .str ((x15.drop (Int.toNat (IntKind.wrap .i64 (s4 + (1 : Int))))).take (Int.toNat (IntKind.wrap .i64 (x16 - (1 : Int))) - Int.toNat (IntKind.wrap .i64 (s4 + (1 : Int))))), .float .f64 (0 : Nat), .int .i64 x17], .int .i64 (0 : Int)]) G14
  else none

def a16_4N {R : Type} (O : Ora R) (k : IV → GH → Option R) (s0 : GA) (s181 : Bool) (b0_0 : Int) (b0_1 : List UInt8) (b0_2 : Nat) (b0_3 : Int) (G : GH) : Option R :=
  bif s181 then
  O 34 [.ptr (some s0)] G fun v1 G2 =>
  (ivTup 2 v1).bind fun c3 =>
  (ivAgg 4 (c3.getD 0 undefI)).bind fun c4 =>
  (ivInt .i64 (c4.getD 0 undefI)).bind fun x5 =>
  (ivStr (c4.getD 1 undefI)).bind fun x6 =>
  (ivFloat .f64 (c4.getD 2 undefI)).bind fun x7 =>
  (ivInt .i64 (c4.getD 3 undefI)).bind fun x8 =>
  (ivInt .i64 (c3.getD 1 undefI)).bind fun x9 =>
  k (.tuple [.agg [.int .i64 x5, .str x6, .float .f64 x7, .int .i64 x8], .int .i64 x9]) G2
  else
  O 30 [.ptr (some s0), .int .i64 (160 : Int)] G fun v10 G11 =>
  (ivTup 2 v10).bind fun c12 =>
  (ivAgg 4 (c12.getD 0 undefI)).bind fun c13 =>
  (ivInt .i64 (c13.getD 0 undefI)).bind fun x14 =>
  (ivStr (c13.getD 1 undefI)).bind fun x15 =>
  (ivFloat .f64 (c13.getD 2 undefI)).bind fun x16 =>
  (ivInt .i64 (c13.getD 3 undefI)).bind fun x17 =>
  (ivInt .i64 (c12.getD 1 undefI)).bind fun x18 =>
  k (.tuple [.agg [.int .i64 x14, .str x15, .float .f64 x16, .int .i64 x17], .int .i64 x18]) G11

def L16_4 {R : Type} (O : Ora R) (fuel : Nat) (k : IV → GH → Option R) : GA → Int → Int → List UInt8 → Nat → Int → GH → Option R := fun (s0 : GA) (s5 : Int) (b0_0 : Int) (b0_1 : List UInt8) (b0_2 : Nat) (b0_3 : Int) G =>
  stepN fuel (l16_4 O (a16_4N O k) s0 s5 b0_0 b0_1 b0_2 b0_3 G)

theorem a16_4N_raw {R : Type} (O : Ora R) (fuel : Nat) (s0 : GA) (s181 : Bool) (b0_0 : Int) (b0_1 : List UInt8) (b0_2 : Nat) (b0_3 : Int) (G : GH) (k : IV → GH → Option R) :
  contC Try.prog O lo16 fuel (Try.f16.body.getD .skip) [1, 1, 1, 1, 1, 1, 1, 1, 1, 1, 0, 0] (fun e env F G => match e with | .exit _ => none | _ => resC Try.prog Try.f16 env F G k) .normal (mkE 190 [(0, .ptr (some s0)), (2, .loc 0 0), (181, .bool s181)]) [[.int .i64 b0_0, .str b0_1, .float .f64 b0_2, .int .i64 b0_3]] G =
  a16_4N O k s0 s181 b0_0 b0_1 b0_2 b0_3 G := by kernel_rfl

theorem L16_4_eq {R : Type} (O : Ora R) (fuel : Nat) (k : IV → GH → Option R) :
  (fun (s0 : GA) (s5 : Int) (b0_0 : Int) (b0_1 : List UInt8) (b0_2 : Nat) (b0_3 : Int) (G : GH) => stepN fuel (loopB Try.prog O lo16 fuel (nav (Try.f16.body.getD .skip) [1, 1, 1, 1, 1, 1, 1, 1, 1, 1, 0, 0]) 99 (mkE 190 [(0, .ptr (some s0)), (2, .loc 0 0), (5, .int .u8 s5)]) [[.int .i64 b0_0, .str b0_1, .float .f64 b0_2, .int .i64 b0_3]] G (contC Try.prog O lo16 fuel (Try.f16.body.getD .skip) [1, 1, 1, 1, 1, 1, 1, 1, 1, 1, 0, 0] (fun e env F G => match e with | .exit _ => none | _ => resC Try.prog Try.f16 env F G k)))) = L16_4 O fuel k := by
  funext s0 s5 b0_0 b0_1 b0_2 b0_3 G
  simp only [L16_4, l16_4_eq, a16_4N_raw]

def L16_2 {R : Type} (O : Ora R) (fuel : Nat) (k : IV → GH → Option R) : GA → Int → Int → List UInt8 → Nat → Int → GH → Option R := fun (s0 : GA) (s4 : Int) (b0_0 : Int) (b0_1 : List UInt8) (b0_2 : Nat) (b0_3 : Int) G =>
  l16_2 O fuel (a16_22 O k) fuel s0 s4 b0_0 b0_1 b0_2 b0_3 G

theorem a16_22_raw {R : Type} (O : Ora R) (fuel : Nat) (s0 : GA) (s4 : Int) (b0_0 : Int) (b0_1 : List UInt8) (b0_2 : Nat) (b0_3 : Int) (G : GH) (k : IV → GH → Option R) :
  contC Try.prog O lo16 fuel (Try.f16.body.getD .skip) [1, 1, 1, 1, 1, 1, 1, 1, 1, 0, 1, 0, 1, 0, 0] (fun e env F G => match e with | .exit _ => none | _ => resC Try.prog Try.f16 env F G k) (.exit 2) (mkE 190 [(0, .ptr (some s0)), (2, .loc 0 0), (4, .int .i64 s4)]) [[.int .i64 b0_0, .str b0_1, .float .f64 b0_2, .int .i64 b0_3]] G =
  a16_22 O k s0 s4 b0_0 b0_1 b0_2 b0_3 G := by kernel_rfl

theorem L16_2_eq {R : Type} (O : Ora R) (fuel : Nat) (k : IV → GH → Option R) :
  (fun (s0 : GA) (s4 : Int) (b0_0 : Int) (b0_1 : List UInt8) (b0_2 : Nat) (b0_3 : Int) (G : GH) => loopN (loopB Try.prog O lo16 fuel (nav (Try.f16.body.getD .skip) [1, 1, 1, 1, 1, 1, 1, 1, 1, 0, 1, 0, 1, 0, 0, 0]) 68) fuel (mkE 190 [(0, .ptr (some s0)), (2, .loc 0 0), (4, .int .i64 s4)]) [[.int .i64 b0_0, .str b0_1, .float .f64 b0_2, .int .i64 b0_3]] G (contC Try.prog O lo16 fuel (Try.f16.body.getD .skip) [1, 1, 1, 1, 1, 1, 1, 1, 1, 0, 1, 0, 1, 0, 0] (fun e env F G => match e with | .exit _ => none | _ => resC Try.prog Try.f16 env F G k))) = L16_2 O fuel k := by
  funext s0 s4 b0_0 b0_1 b0_2 b0_3 G
  simp only [L16_2, l16_2_eq, a16_22_raw]

def L16_0 {R : Type} (O : Ora R) (fuel : Nat) (k : IV → GH → Option R) : GA → Int → Int → List UInt8 → Nat → Int → GH → Option R := fun (s0 : GA) (s4 : Int) (b0_0 : Int) (b0_1 : List UInt8) (b0_2 : Nat) (b0_3 : Int) G =>
  l16_0 O fuel (a16_00 O k) fuel s0 s4 b0_0 b0_1 b0_2 b0_3 G

theorem a16_00_raw {R : Type} (O : Ora R) (fuel : Nat) (s0 : GA) (s4 : Int) (b0_0 : Int) (b0_1 : List UInt8) (b0_2 : Nat) (b0_3 : Int) (G : GH) (k : IV → GH → Option R) :
  contC Try.prog O lo16 fuel (Try.f16.body.getD .skip) [1, 1, 1, 1, 1, 1, 1, 1, 0, 1, 0, 0, 0] (fun e env F G => match e with | .exit _ => none | _ => resC Try.prog Try.f16 env F G k) (.exit 0) (mkE 190 [(0, .ptr (some s0)), (2, .loc 0 0), (4, .int .i64 s4)]) [[.int .i64 b0_0, .str b0_1, .float .f64 b0_2, .int .i64 b0_3]] G =
  a16_00 O k s0 s4 b0_0 b0_1 b0_2 b0_3 G := by kernel_rfl

theorem L16_0_eq {R : Type} (O : Ora R) (fuel : Nat) (k : IV → GH → Option R) :
  (fun (s0 : GA) (s4 : Int) (b0_0 : Int) (b0_1 : List UInt8) (b0_2 : Nat) (b0_3 : Int) (G : GH) => loopN (loopB Try.prog O lo16 fuel (nav (Try.f16.body.getD .skip) [1, 1, 1, 1, 1, 1, 1, 1, 0, 1, 0, 0, 0, 0]) 48) fuel (mkE 190 [(0, .ptr (some s0)), (2, .loc 0 0), (4, .int .i64 s4)]) [[.int .i64 b0_0, .str b0_1, .float .f64 b0_2, .int .i64 b0_3]] G (contC Try.prog O lo16 fuel (Try.f16.body.getD .skip) [1, 1, 1, 1, 1, 1, 1, 1, 0, 1, 0, 0, 0] (fun e env F G => match e with | .exit _ => none | _ => resC Try.prog Try.f16 env F G k))) = L16_0 O fuel k := by
  funext s0 s4 b0_0 b0_1 b0_2 b0_3 G
  simp only [L16_0, l16_0_eq, a16_00_raw]

theorem e16_raw {R : Type} (O : Ora R) (fuel : Nat) (p0 : GA) (G : GH) (k : IV → GH → Option R) :
  bodyC Try.prog O lo16 fuel Try.f16 [.ptr (some p0)] G k =
  u16 O k (fun (s0 : GA) (s4 : Int) (b0_0 : Int) (b0_1 : List UInt8) (b0_2 : Nat) (b0_3 : Int) (G : GH) => loopN (loopB Try.prog O lo16 fuel (nav (Try.f16.body.getD .skip) [1, 1, 1, 1, 1, 1, 1, 1, 0, 1, 0, 0, 0, 0]) 48) fuel (mkE 190 [(0, .ptr (some s0)), (2, .loc 0 0), (4, .int .i64 s4)]) [[.int .i64 b0_0, .str b0_1, .float .f64 b0_2, .int .i64 b0_3]] G (contC Try.prog O lo16 fuel (Try.f16.body.getD .skip) [1, 1, 1, 1, 1, 1, 1, 1, 0, 1, 0, 0, 0] (fun e env F G => match e with | .exit _ => none | _ => resC Try.prog Try.f16 env F G k))) (fun (s0 : GA) (s4 : Int) (b0_0 : Int) (b0_1 : List UInt8) (b0_2 : Nat) (b0_3 : Int) (G : GH) => loopN (loopB Try.prog O lo16 fuel (nav (Try.f16.body.getD .skip) [1, 1, 1, 1, 1, 1, 1, 1, 1, 0, 1, 0, 1, 0, 0, 0]) 68) fuel (mkE 190 [(0, .ptr (some s0)), (2, .loc 0 0), (4, .int .i64 s4)]) [[.int .i64 b0_0, .str b0_1, .float .f64 b0_2, .int .i64 b0_3]] G (contC Try.prog O lo16 fuel (Try.f16.body.getD .skip) [1, 1, 1, 1, 1, 1, 1, 1, 1, 0, 1, 0, 1, 0, 0] (fun e env F G => match e with | .exit _ => none | _ => resC Try.prog Try.f16 env F G k))) (fun (s0 : GA) (s5 : Int) (b0_0 : Int) (b0_1 : List UInt8) (b0_2 : Nat) (b0_3 : Int) (G : GH) => stepN fuel (loopB Try.prog O lo16 fuel (nav (Try.f16.body.getD .skip) [1, 1, 1, 1, 1, 1, 1, 1, 1, 1, 0, 0]) 99 (mkE 190 [(0, .ptr (some s0)), (2, .loc 0 0), (5, .int .u8 s5)]) [[.int .i64 b0_0, .str b0_1, .float .f64 b0_2, .int .i64 b0_3]] G (contC Try.prog O lo16 fuel (Try.f16.body.getD .skip) [1, 1, 1, 1, 1, 1, 1, 1, 1, 1, 0, 0] (fun e env F G => match e with | .exit _ => none | _ => resC Try.prog Try.f16 env F G k)))) p0 G := by kernel_rfl

theorem e16 {R : Type} (O : Ora R) (fuel : Nat) (p0 : GA) (G : GH) (k : IV → GH → Option R) :
  bodyC Try.prog O lo16 fuel Try.f16 [.ptr (some p0)] G k =
  u16 O k (L16_0 O fuel k) (L16_2 O fuel k) (L16_4 O fuel k) p0 G := by
  rw [e16_raw, L16_0_eq, L16_2_eq, L16_4_eq]

theorem r16 {R : Type} (fuel n : Nat) (p0 : GA) (G : GH) (k : IV → GH → Option R) :
  runC Try.prog lo0 fuel (n + 1) 16 [.ptr (some p0)] G k = bodyC Try.prog (runC Try.prog lo0 fuel n) lo16 fuel Try.f16 [.ptr (some p0)] G k := run_body Try.func16 rfl rfl

/-! ### lantern/lanternref15.All -/
def u11_0 {R : Type} (O : Ora R) (Kret : Option GA → Nat → Int → Int → GH → Option R) (KN : Option GA → Option GA → Nat → GH → Option R) (s5 : Option GA) (s6a : Option GA) (s6n : Nat) (G : GH) : Option R :=
  O 16 [.ptr s5] G fun v1 G2 =>
  (ivTup 2 v1).bind fun c3 =>
  (ivAgg 4 (c3.getD 0 undefI)).bind fun c4 =>
  (ivInt .i64 (c4.getD 0 undefI)).bind fun x5 =>
  (ivStr (c4.getD 1 undefI)).bind fun x6 =>
  (ivFloat .f64 (c4.getD 2 undefI)).bind fun x7 =>
  (ivInt .i64 (c4.getD 3 undefI)).bind fun x8 =>
  (ivInt .i64 (c3.getD 1 undefI)).bind fun x9 =>
  (gst (gnew G2 [.int .i64 (0 : Int), .str ([] : List UInt8), .float .f64 (0 : Nat), .int .i64 (0 : Int)] 32) (gaddr G2) [.int .i64 x5, .str x6, .float .f64 x7, .int .i64 x8]).bind fun G10 =>
  bif (x9 != (0 : Int)) then
  (s5).bind fun a11 =>
  (ldInt G10 .i64 (GA.add a11 2)).bind fun x12 =>
  Kret s6a s6n x12 x9 G10
  else
  (ldInt G10 .i64 (GA.add (gaddr G2) 0)).bind fun x13 =>
  bif (x13 == (4 : Int)) then
  Kret s6a s6n (0 : Int) (0 : Int) G10
  else
  (ldInt G10 .i64 (GA.add (gaddr G2) 0)).bind fun x14 =>
  (ldStr G10 (GA.add (gaddr G2) 1)).bind fun x15 =>
  (ldFloat G10 .f64 (GA.add (gaddr G2) 2)).bind fun x16 =>
  (ldInt G10 .i64 (GA.add (gaddr G2) 3)).bind fun x17 =>
  (grd (gnew G10 [.int .i64 x14, .str x15, .float .f64 x16, .int .i64 x17] 32) (gaddr G10) (1 * 4)).bind fun x18 =>
  (gappend (gnew G10 [.int .i64 x14, .str x15, .float .f64 x16, .int .i64 x17] 32) 32 4 40 s6a s6n x18 1).bind fun r19 =>
  KN s5 r19.1 (s6n + 1) r19.2

def l11_0 {R : Type} (O : Ora R) (Kret : Option GA → Nat → Int → Int → GH → Option R) : Nat → Option GA → Option GA → Nat → GH → Option R
  | 0, _, _, _, _ => none
  | n + 1, s5, s6a, s6n, G => u11_0 O Kret (l11_0 O Kret n) s5 s6a s6n G

theorem u11_0_raw {R : Type} (O : Ora R) (fuel : Nat) (s5 : Option GA) (s6a : Option GA) (s6n : Nat) (G : GH) (k : Ex → List IV → List (List IV) → GH → Option R) :
  loopB Try.prog O lo11 fuel (nav (Try.f11.body.getD .skip) [1, 1, 1, 0, 0]) 12 (mkE 32 [(5, .ptr s5), (6, .slice s6a s6n)]) [] G k =
  u11_0 O (fun (s2a : Option GA) (s2n : Nat) (s3 : Int) (s4 : Int) (G : GH) => k .ret (mkE 32 [(2, .slice s2a s2n), (3, .int .i64 s3), (4, .int .i64 s4)]) [] G) (fun (s5 : Option GA) (s6a : Option GA) (s6n : Nat) (G : GH) => k .normal (mkE 32 [(5, .ptr s5), (6, .slice s6a s6n)]) [] G) s5 s6a s6n G := by kernel_rfl

theorem l11_0_eq {R : Type} (O : Ora R) (fuel : Nat) (k : Ex → List IV → List (List IV) → GH → Option R) : ∀ (n : Nat) (s5 : Option GA) (s6a : Option GA) (s6n : Nat) (G : GH),
  loopN (loopB Try.prog O lo11 fuel (nav (Try.f11.body.getD .skip) [1, 1, 1, 0, 0]) 12) n (mkE 32 [(5, .ptr s5), (6, .slice s6a s6n)]) [] G k = l11_0 O (fun (s2a : Option GA) (s2n : Nat) (s3 : Int) (s4 : Int) (G : GH) => k .ret (mkE 32 [(2, .slice s2a s2n), (3, .int .i64 s3), (4, .int .i64 s4)]) [] G) n s5 s6a s6n G := by
  intro n
  induction n with
  | zero => intros; rfl
  | succ n ih =>
    intros
    rw [loopN_succ, u11_0_raw]
    simp only [l11_0, loopK_normal, loopK_exit, loopK_ret, ih]

def u11 {R : Type} (O : Ora R) (k : IV → GH → Option R) (L0 : Option GA → Option GA → Nat → GH → Option R) (p0 : List UInt8) (G : GH) : Option R :=
  O 13 [.str p0] G fun v1 G2 =>
  (ivPtr v1).bind fun x3 =>
  L0 x3 none 0 G2

def a11_0ret {R : Type} (O : Ora R) (k : IV → GH → Option R) (s2a : Option GA) (s2n : Nat) (s3 : Int) (s4 : Int) (G : GH) : Option R :=
  k (.tuple [.slice s2a s2n, .int .i64 s3, .int .i64 s4]) G

def L11_0 {R : Type} (O : Ora R) (fuel : Nat) (k : IV → GH → Option R) : Option GA → Option GA → Nat → GH → Option R := fun (s5 : Option GA) (s6a : Option GA) (s6n : Nat) G =>
  l11_0 O (a11_0ret O k) fuel s5 s6a s6n G

theorem a11_0ret_raw {R : Type} (O : Ora R) (fuel : Nat) (s2a : Option GA) (s2n : Nat) (s3 : Int) (s4 : Int) (G : GH) (k : IV → GH → Option R) :
  contC Try.prog O lo11 fuel (Try.f11.body.getD .skip) [1, 1, 1, 0] (fun e env F G => match e with | .exit _ => none | _ => resC Try.prog Try.f11 env F G k) .ret (mkE 32 [(2, .slice s2a s2n), (3, .int .i64 s3), (4, .int .i64 s4)]) [] G =
  a11_0ret O k s2a s2n s3 s4 G := by kernel_rfl

theorem L11_0_eq {R : Type} (O : Ora R) (fuel : Nat) (k : IV → GH → Option R) :
  (fun (s5 : Option GA) (s6a : Option GA) (s6n : Nat) (G : GH) => loopN (loopB Try.prog O lo11 fuel (nav (Try.f11.body.getD .skip) [1, 1, 1, 0, 0]) 12) fuel (mkE 32 [(5, .ptr s5), (6, .slice s6a s6n)]) [] G (contC Try.prog O lo11 fuel (Try.f11.body.getD .skip) [1, 1, 1, 0] (fun e env F G => match e with | .exit _ => none | _ => resC Try.prog Try.f11 env F G k))) = L11_0 O fuel k := by
  funext s5 s6a s6n G
  simp only [L11_0, l11_0_eq, a11_0ret_raw]

theorem e11_raw {R : Type} (O : Ora R) (fuel : Nat) (p0 : List UInt8) (G : GH) (k : IV → GH → Option R) :
  bodyC Try.prog O lo11 fuel Try.f11 [.str p0] G k =
  u11 O k (fun (s5 : Option GA) (s6a : Option GA) (s6n : Nat) (G : GH) => loopN (loopB Try.prog O lo11 fuel (nav (Try.f11.body.getD .skip) [1, 1, 1, 0, 0]) 12) fuel (mkE 32 [(5, .ptr s5), (6, .slice s6a s6n)]) [] G (contC Try.prog O lo11 fuel (Try.f11.body.getD .skip) [1, 1, 1, 0] (fun e env F G => match e with | .exit _ => none | _ => resC Try.prog Try.f11 env F G k))) p0 G := by kernel_rfl

theorem e11 {R : Type} (O : Ora R) (fuel : Nat) (p0 : List UInt8) (G : GH) (k : IV → GH → Option R) :
  bodyC Try.prog O lo11 fuel Try.f11 [.str p0] G k =
  u11 O k (L11_0 O fuel k) p0 G := by
  rw [e11_raw, L11_0_eq]

theorem r11 {R : Type} (fuel n : Nat) (p0 : List UInt8) (G : GH) (k : IV → GH → Option R) :
  runC Try.prog lo0 fuel (n + 1) 11 [.str p0] G k = bodyC Try.prog (runC Try.prog lo0 fuel n) lo11 fuel Try.f11 [.str p0] G k := run_body Try.func11 rfl rfl

end Go.LI.Lex

/- What the interpreter gives for LexReads and LexNil (written by decomp.py). -/
import Derived.Test.YtckelpgijjbpaaaLexE
namespace Go.LI.Lex
open Go.Proofs.Ytckelpgijjbpaaa Go Go.Proofs Go.LI
set_option maxRecDepth 100000
set_option linter.unusedVariables false
set_option linter.unusedSimpArgs false
/-! ### lantern/lanternlaw15.LexReads -/
def u4_0 {R : Type} (O : Ora R) (Kret : Bool → GH → Option R) (KN : List UInt8 → Option GA → Nat → Option GA → Nat → GH → Option R) (s0 : List UInt8) (s3a : Option GA) (s3n : Nat) (s4 : Int) (s5 : Int) (s6a : Option GA) (s6n : Nat) (s7 : Int) (s8 : Int) (G : GH) : Option R :=
  bif (s4 != s7) then
  Kret false G
  else
  bif (s5 != s8) then
  Kret false G
  else
  bif ((s3n : Int) != (s6n : Int)) then
  Kret false G
  else
  KN s0 s3a s3n s6a s6n G

def l4_0 {R : Type} (O : Ora R) (Kret : Bool → GH → Option R) (KN : List UInt8 → Option GA → Nat → Option GA → Nat → GH → Option R) : List UInt8 → Option GA → Nat → Int → Int → Option GA → Nat → Int → Int → GH → Option R := fun (s0 : List UInt8) (s3a : Option GA) (s3n : Nat) (s4 : Int) (s5 : Int) (s6a : Option GA) (s6n : Nat) (s7 : Int) (s8 : Int) G => u4_0 O Kret KN s0 s3a s3n s4 s5 s6a s6n s7 s8 G

theorem u4_0_raw {R : Type} (O : Ora R) (fuel : Nat) (s0 : List UInt8) (s3a : Option GA) (s3n : Nat) (s4 : Int) (s5 : Int) (s6a : Option GA) (s6n : Nat) (s7 : Int) (s8 : Int) (G : GH) (k : Ex → List IV → List (List IV) → GH → Option R) :
  loopD Try.prog O lo4 fuel (nav (Try.f4.body.getD .skip) [1, 1, 1, 1, 1, 0]) 39 (mkE 103 [(0, .str s0), (3, .slice s3a s3n), (4, .int .i64 s4), (5, .int .i64 s5), (6, .slice s6a s6n), (7, .int .i64 s7), (8, .int .i64 s8)]) [] G k =
  u4_0 O (fun (s2 : Bool) (G : GH) => k .ret (mkE 103 [(2, .bool s2)]) [] G) (fun (s0 : List UInt8) (s3a : Option GA) (s3n : Nat) (s6a : Option GA) (s6n : Nat) (G : GH) => k .normal (mkE 103 [(0, .str s0), (3, .slice s3a s3n), (6, .slice s6a s6n)]) [] G) s0 s3a s3n s4 s5 s6a s6n s7 s8 G := by kernel_rfl

theorem l4_0_eq {R : Type} (O : Ora R) (fuel : Nat) (k : Ex → List IV → List (List IV) → GH → Option R) : ∀ (s0 : List UInt8) (s3a : Option GA) (s3n : Nat) (s4 : Int) (s5 : Int) (s6a : Option GA) (s6n : Nat) (s7 : Int) (s8 : Int) (G : GH),
  loopD Try.prog O lo4 fuel (nav (Try.f4.body.getD .skip) [1, 1, 1, 1, 1, 0]) 39 (mkE 103 [(0, .str s0), (3, .slice s3a s3n), (4, .int .i64 s4), (5, .int .i64 s5), (6, .slice s6a s6n), (7, .int .i64 s7), (8, .int .i64 s8)]) [] G k = l4_0 O (fun (s2 : Bool) (G : GH) => k .ret (mkE 103 [(2, .bool s2)]) [] G) (fun (s0 : List UInt8) (s3a : Option GA) (s3n : Nat) (s6a : Option GA) (s6n : Nat) (G : GH) => k .normal (mkE 103 [(0, .str s0), (3, .slice s3a s3n), (6, .slice s6a s6n)]) [] G) s0 s3a s3n s4 s5 s6a s6n s7 s8 G := by
  intros
  rw [u4_0_raw]
  simp only [l4_0]

def u4_3 {R : Type} (O : Ora R) (Kret : Bool → GH → Option R) (KN : Option GA → Nat → Option GA → Nat → Option GA → Option GA → Int → GH → Option R) (s3a : Option GA) (s3n : Nat) (s6a : Option GA) (s6n : Nat) (s9 : Option GA) (s10 : Option GA) (s11 : Int) (G : GH) : Option R :=
  bif (decide (s11 < (s6n : Int))) then
  (idx? s3a s3n s11 4).bind fun a1 =>
  (ldInt G .i64 (GA.add a1 0)).bind fun x2 =>
  (ldStr G (GA.add a1 1)).bind fun x3 =>
  (ldFloat G .f64 (GA.add a1 2)).bind fun x4 =>
  (ldInt G .i64 (GA.add a1 3)).bind fun x5 =>
  (idx? s6a s6n s11 4).bind fun a6 =>
  (ldInt G .i64 (GA.add a6 0)).bind fun x7 =>
  (ldStr G (GA.add a6 1)).bind fun x8 =>
  (ldFloat G .f64 (GA.add a6 2)).bind fun x9 =>
  (ldInt G .i64 (GA.add a6 3)).bind fun x10 =>
  O 14 [.agg [.int .i64 x2, .str x3, .float .f64 x4, .int .i64 x5], .agg [.int .i64 x7, .str x8, .float .f64 x9, .int .i64 x10]] (gfreeze G) fun v11 _ =>
  (ivBool v11).bind fun x12 =>
  bif (!x12) then
  Kret false G
  else
  KN s3a s3n s6a s6n s9 s10 s11 G
  else
  KN s3a s3n s6a s6n s9 s10 s11 G

def l4_3 {R : Type} (O : Ora R) (Kret : Bool → GH → Option R) (KN : Option GA → Nat → Option GA → Nat → Option GA → Option GA → Int → GH → Option R) : Option GA → Nat → Option GA → Nat → Option GA → Option GA → Int → GH → Option R := fun (s3a : Option GA) (s3n : Nat) (s6a : Option GA) (s6n : Nat) (s9 : Option GA) (s10 : Option GA) (s11 : Int) G => u4_3 O Kret KN s3a s3n s6a s6n s9 s10 s11 G

theorem u4_3_raw {R : Type} (O : Ora R) (fuel : Nat) (s3a : Option GA) (s3n : Nat) (s6a : Option GA) (s6n : Nat) (s9 : Option GA) (s10 : Option GA) (s11 : Int) (G : GH) (k : Ex → List IV → List (List IV) → GH → Option R) :
  loopD Try.prog O lo4 fuel (nav (Try.f4.body.getD .skip) [1, 1, 1, 1, 1, 1, 1, 0, 1, 0, 0, 1, 0, 0, 0]) 63 (mkE 103 [(3, .slice s3a s3n), (6, .slice s6a s6n), (9, .ptr s9), (10, .ptr s10), (11, .int .i64 s11)]) [] G k =
  u4_3 O (fun (s2 : Bool) (G : GH) => k .ret (mkE 103 [(2, .bool s2)]) [] G) (fun (s3a : Option GA) (s3n : Nat) (s6a : Option GA) (s6n : Nat) (s9 : Option GA) (s10 : Option GA) (s11 : Int) (G : GH) => k .normal (mkE 103 [(3, .slice s3a s3n), (6, .slice s6a s6n), (9, .ptr s9), (10, .ptr s10), (11, .int .i64 s11)]) [] G) s3a s3n s6a s6n s9 s10 s11 G := by kernel_rfl

theorem l4_3_eq {R : Type} (O : Ora R) (fuel : Nat) (k : Ex → List IV → List (List IV) → GH → Option R) : ∀ (s3a : Option GA) (s3n : Nat) (s6a : Option GA) (s6n : Nat) (s9 : Option GA) (s10 : Option GA) (s11 : Int) (G : GH),
  loopD Try.prog O lo4 fuel (nav (Try.f4.body.getD .skip) [1, 1, 1, 1, 1, 1, 1, 0, 1, 0, 0, 1, 0, 0, 0]) 63 (mkE 103 [(3, .slice s3a s3n), (6, .slice s6a s6n), (9, .ptr s9), (10, .ptr s10), (11, .int .i64 s11)]) [] G k = l4_3 O (fun (s2 : Bool) (G : GH) => k .ret (mkE 103 [(2, .bool s2)]) [] G) (fun (s3a : Option GA) (s3n : Nat) (s6a : Option GA) (s6n : Nat) (s9 : Option GA) (s10 : Option GA) (s11 : Int) (G : GH) => k .normal (mkE 103 [(3, .slice s3a s3n), (6, .slice s6a s6n), (9, .ptr s9), (10, .ptr s10), (11, .int .i64 s11)]) [] G) s3a s3n s6a s6n s9 s10 s11 G := by
  intros
  rw [u4_3_raw]
  simp only [l4_3]

def u4_2 {R : Type} (O : Ora R) (Kret : Bool → GH → Option R) (KN : Option GA → Nat → Option GA → Nat → Option GA → Option GA → Int → GH → Option R) (L3 : Option GA → Nat → Option GA → Nat → Option GA → Option GA → Int → GH → Option R) (s3a : Option GA) (s3n : Nat) (s6a : Option GA) (s6n : Nat) (s9 : Option GA) (s10 : Option GA) (s11 : Int) (G : GH) : Option R :=
  L3 s3a s3n s6a s6n s9 s10 s11 G

def a4_3ret {R : Type} (O : Ora R) (Kret : Bool → GH → Option R) (KN : Option GA → Nat → Option GA → Nat → Option GA → Option GA → Int → GH → Option R) (s2 : Bool) (G : GH) : Option R :=
  Kret s2 G

def a4_3N {R : Type} (O : Ora R) (Kret : Bool → GH → Option R) (KN : Option GA → Nat → Option GA → Nat → Option GA → Option GA → Int → GH → Option R) (s3a : Option GA) (s3n : Nat) (s6a : Option GA) (s6n : Nat) (s9 : Option GA) (s10 : Option GA) (s11 : Int) (G : GH) : Option R :=
  O 15 [.ptr s9] G fun v1 G2 =>
  (ivTup 2 v1).bind fun c3 =>
  (ivAgg 4 (c3.getD 0 undefI)).bind fun c4 =>
  (ivInt .i64 (c4.getD 0 undefI)).bind fun x5 =>
  (ivStr (c4.getD 1 undefI)).bind fun x6 =>
  (ivFloat .f64 (c4.getD 2 undefI)).bind fun x7 =>
  (ivInt .i64 (c4.getD 3 undefI)).bind fun x8 =>
  (ivInt .i64 (c3.getD 1 undefI)).bind fun x9 =>
  (gst (gnew G2 [.int .i64 (0 : Int), .str ([] : List UInt8), .float .f64 (0 : Nat), .int .i64 (0 : Int)] 32) (gaddr G2) [.int .i64 x5, .str x6, .float .f64 x7, .int .i64 x8]).bind fun G10 =>
  O 16 [.ptr s10] G10 fun v11 G12 =>
  (ivTup 2 v11).bind fun c13 =>
  (ivAgg 4 (c13.getD 0 undefI)).bind fun c14 =>
  (ivInt .i64 (c14.getD 0 undefI)).bind fun x15 =>
  (ivStr (c14.getD 1 undefI)).bind fun x16 =>
  (ivFloat .f64 (c14.getD 2 undefI)).bind fun x17 =>
  (ivInt .i64 (c14.getD 3 undefI)).bind fun x18 =>
  (ivInt .i64 (c13.getD 1 undefI)).bind fun x19 =>
  (gst (gnew G12 [.int .i64 (0 : Int), .str ([] : List UInt8), .float .f64 (0 : Nat), .int .i64 (0 : Int)] 32) (gaddr G12) [.int .i64 x15, .str x16, .float .f64 x17, .int .i64 x18]).bind fun G20 =>
  (ldInt G20 .i64 (GA.add (gaddr G2) 0)).bind fun x21 =>
  (ldStr G20 (GA.add (gaddr G2) 1)).bind fun x22 =>
  (ldFloat G20 .f64 (GA.add (gaddr G2) 2)).bind fun x23 =>
  (ldInt G20 .i64 (GA.add (gaddr G2) 3)).bind fun x24 =>
  (ldInt G20 .i64 (GA.add (gaddr G12) 0)).bind fun x25 =>
  (ldStr G20 (GA.add (gaddr G12) 1)).bind fun x26 =>
  (ldFloat G20 .f64 (GA.add (gaddr G12) 2)).bind fun x27 =>
  (ldInt G20 .i64 (GA.add (gaddr G12) 3)).bind fun x28 =>
  O 14 [.agg [.int .i64 x21, .str x22, .float .f64 x23, .int .i64 x24], .agg [.int .i64 x25, .str x26, .float .f64 x27, .int .i64 x28]] (gfreeze G20) fun v29 _ =>
  (ivBool v29).bind fun x30 =>
  bif (!x30) then
  Kret false G20
  else
  bif (x9 != x19) then
  Kret false G20
  else
  O 17 [.ptr s9] (gfreeze G20) fun v31 _ =>
  (ivInt .i64 v31).bind fun x32 =>
  (s10).bind fun a33 =>
  (ldInt G20 .i64 (GA.add a33 2)).bind fun x34 =>
  bif (x32 != x34) then
  Kret false G20
  else
  KN s3a s3n s6a s6n s9 s10 s11 G20

def L4_3 {R : Type} (O : Ora R) (fuel : Nat) (Kret : Bool → GH → Option R) (KN : Option GA → Nat → Option GA → Nat → Option GA → Option GA → Int → GH → Option R) : Option GA → Nat → Option GA → Nat → Option GA → Option GA → Int → GH → Option R := fun (s3a : Option GA) (s3n : Nat) (s6a : Option GA) (s6n : Nat) (s9 : Option GA) (s10 : Option GA) (s11 : Int) G =>
  stepN fuel (l4_3 O (a4_3ret O Kret KN) (a4_3N O Kret KN) s3a s3n s6a s6n s9 s10 s11 G)

theorem a4_3ret_raw {R : Type} (O : Ora R) (fuel : Nat) (s2 : Bool) (G : GH) (k : Ex → List IV → List (List IV) → GH → Option R) :
  contC Try.prog O lo4 fuel (nav (Try.f4.body.getD .skip) [1, 1, 1, 1, 1, 1, 1, 0, 1, 0, 0, 1, 0]) [0, 0] (kpD lo4 51 0 k) .ret (mkE 103 [(2, .bool s2)]) [] G =
  a4_3ret O (fun (s2 : Bool) (G : GH) => k .ret (mkE 103 [(2, .bool s2)]) [] G) (fun (s3a : Option GA) (s3n : Nat) (s6a : Option GA) (s6n : Nat) (s9 : Option GA) (s10 : Option GA) (s11 : Int) (G : GH) => k .normal (mkE 103 [(3, .slice s3a s3n), (6, .slice s6a s6n), (9, .ptr s9), (10, .ptr s10), (11, .int .i64 s11)]) [] G) s2 G := by kernel_rfl

theorem a4_3N_raw {R : Type} (O : Ora R) (fuel : Nat) (s3a : Option GA) (s3n : Nat) (s6a : Option GA) (s6n : Nat) (s9 : Option GA) (s10 : Option GA) (s11 : Int) (G : GH) (k : Ex → List IV → List (List IV) → GH → Option R) :
  contC Try.prog O lo4 fuel (nav (Try.f4.body.getD .skip) [1, 1, 1, 1, 1, 1, 1, 0, 1, 0, 0, 1, 0]) [0, 0] (kpD lo4 51 0 k) .normal (mkE 103 [(3, .slice s3a s3n), (6, .slice s6a s6n), (9, .ptr s9), (10, .ptr s10), (11, .int .i64 s11)]) [] G =
  a4_3N O (fun (s2 : Bool) (G : GH) => k .ret (mkE 103 [(2, .bool s2)]) [] G) (fun (s3a : Option GA) (s3n : Nat) (s6a : Option GA) (s6n : Nat) (s9 : Option GA) (s10 : Option GA) (s11 : Int) (G : GH) => k .normal (mkE 103 [(3, .slice s3a s3n), (6, .slice s6a s6n), (9, .ptr s9), (10, .ptr s10), (11, .int .i64 s11)]) [] G) s3a s3n s6a s6n s9 s10 s11 G := by kernel_rfl

theorem L4_3_eq {R : Type} (O : Ora R) (fuel : Nat) (k : Ex → List IV → List (List IV) → GH → Option R) :
  (fun (s3a : Option GA) (s3n : Nat) (s6a : Option GA) (s6n : Nat) (s9 : Option GA) (s10 : Option GA) (s11 : Int) (G : GH) => stepN fuel (loopD Try.prog O lo4 fuel (nav (Try.f4.body.getD .skip) [1, 1, 1, 1, 1, 1, 1, 0, 1, 0, 0, 1, 0, 0, 0]) 63 (mkE 103 [(3, .slice s3a s3n), (6, .slice s6a s6n), (9, .ptr s9), (10, .ptr s10), (11, .int .i64 s11)]) [] G (contC Try.prog O lo4 fuel (nav (Try.f4.body.getD .skip) [1, 1, 1, 1, 1, 1, 1, 0, 1, 0, 0, 1, 0]) [0, 0] (kpD lo4 51 0 k)))) = L4_3 O fuel (fun (s2 : Bool) (G : GH) => k .ret (mkE 103 [(2, .bool s2)]) [] G) (fun (s3a : Option GA) (s3n : Nat) (s6a : Option GA) (s6n : Nat) (s9 : Option GA) (s10 : Option GA) (s11 : Int) (G : GH) => k .normal (mkE 103 [(3, .slice s3a s3n), (6, .slice s6a s6n), (9, .ptr s9), (10, .ptr s10), (11, .int .i64 s11)]) [] G) := by
  funext s3a s3n s6a s6n s9 s10 s11 G
  simp only [L4_3, l4_3_eq, a4_3ret_raw, a4_3N_raw]

def l4_2 {R : Type} (O : Ora R) (fuel : Nat) (Kret : Bool → GH → Option R) (KN : Option GA → Nat → Option GA → Nat → Option GA → Option GA → Int → GH → Option R) : Option GA → Nat → Option GA → Nat → Option GA → Option GA → Int → GH → Option R := fun (s3a : Option GA) (s3n : Nat) (s6a : Option GA) (s6n : Nat) (s9 : Option GA) (s10 : Option GA) (s11 : Int) G => u4_2 O Kret KN (L4_3 O fuel Kret KN) s3a s3n s6a s6n s9 s10 s11 G

theorem u4_2_raw {R : Type} (O : Ora R) (fuel : Nat) (s3a : Option GA) (s3n : Nat) (s6a : Option GA) (s6n : Nat) (s9 : Option GA) (s10 : Option GA) (s11 : Int) (G : GH) (k : Ex → List IV → List (List IV) → GH → Option R) :
  loopD Try.prog O lo4 fuel (nav (Try.f4.body.getD .skip) [1, 1, 1, 1, 1, 1, 1, 0, 1, 0, 0, 1, 0]) 51 (mkE 103 [(3, .slice s3a s3n), (6, .slice s6a s6n), (9, .ptr s9), (10, .ptr s10), (11, .int .i64 s11)]) [] G k =
  u4_2 O (fun (s2 : Bool) (G : GH) => k .ret (mkE 103 [(2, .bool s2)]) [] G) (fun (s3a : Option GA) (s3n : Nat) (s6a : Option GA) (s6n : Nat) (s9 : Option GA) (s10 : Option GA) (s11 : Int) (G : GH) => k .normal (mkE 103 [(3, .slice s3a s3n), (6, .slice s6a s6n), (9, .ptr s9), (10, .ptr s10), (11, .int .i64 s11)]) [] G) (fun (s3a : Option GA) (s3n : Nat) (s6a : Option GA) (s6n : Nat) (s9 : Option GA) (s10 : Option GA) (s11 : Int) (G : GH) => stepN fuel (loopD Try.prog O lo4 fuel (nav (Try.f4.body.getD .skip) [1, 1, 1, 1, 1, 1, 1, 0, 1, 0, 0, 1, 0, 0, 0]) 63 (mkE 103 [(3, .slice s3a s3n), (6, .slice s6a s6n), (9, .ptr s9), (10, .ptr s10), (11, .int .i64 s11)]) [] G (contC Try.prog O lo4 fuel (nav (Try.f4.body.getD .skip) [1, 1, 1, 1, 1, 1, 1, 0, 1, 0, 0, 1, 0]) [0, 0] (kpD lo4 51 0 k)))) s3a s3n s6a s6n s9 s10 s11 G := by kernel_rfl

theorem l4_2_eq {R : Type} (O : Ora R) (fuel : Nat) (k : Ex → List IV → List (List IV) → GH → Option R) : ∀ (s3a : Option GA) (s3n : Nat) (s6a : Option GA) (s6n : Nat) (s9 : Option GA) (s10 : Option GA) (s11 : Int) (G : GH),
  loopD Try.prog O lo4 fuel (nav (Try.f4.body.getD .skip) [1, 1, 1, 1, 1, 1, 1, 0, 1, 0, 0, 1, 0]) 51 (mkE 103 [(3, .slice s3a s3n), (6, .slice s6a s6n), (9, .ptr s9), (10, .ptr s10), (11, .int .i64 s11)]) [] G k = l4_2 O fuel (fun (s2 : Bool) (G : GH) => k .ret (mkE 103 [(2, .bool s2)]) [] G) (fun (s3a : Option GA) (s3n : Nat) (s6a : Option GA) (s6n : Nat) (s9 : Option GA) (s10 : Option GA) (s11 : Int) (G : GH) => k .normal (mkE 103 [(3, .slice s3a s3n), (6, .slice s6a s6n), (9, .ptr s9), (10, .ptr s10), (11, .int .i64 s11)]) [] G) s3a s3n s6a s6n s9 s10 s11 G := by
  intros
  rw [u4_2_raw]
  simp only [l4_2, L4_3_eq]

def u4_1 {R : Type} (O : Ora R) (Kret : Bool → GH → Option R) (KN : Option GA → Nat → Option GA → Nat → Option GA → Option GA → Int → GH → Option R) (K0 : GH → Option R) (L2 : Option GA → Nat → Option GA → Nat → Option GA → Option GA → Int → GH → Option R) (s3a : Option GA) (s3n : Nat) (s6a : Option GA) (s6n : Nat) (s9 : Option GA) (s10 : Option GA) (s11 : Int) (G : GH) : Option R :=
  bif (decide (s11 < (IntKind.wrap .i64 ((s6n : Int) + (3 : Int))))) then
  L2 s3a s3n s6a s6n s9 s10 s11 G
  else
  K0 G

def a4_2ret {R : Type} (O : Ora R) (Kret : Bool → GH → Option R) (KN : Option GA → Nat → Option GA → Nat → Option GA → Option GA → Int → GH → Option R) (K0 : GH → Option R) (s2 : Bool) (G : GH) : Option R :=
  Kret s2 G

def a4_2N {R : Type} (O : Ora R) (Kret : Bool → GH → Option R) (KN : Option GA → Nat → Option GA → Nat → Option GA → Option GA → Int → GH → Option R) (K0 : GH → Option R) (s3a : Option GA) (s3n : Nat) (s6a : Option GA) (s6n : Nat) (s9 : Option GA) (s10 : Option GA) (s11 : Int) (G : GH) : Option R :=
  KN s3a s3n s6a s6n s9 s10 (IntKind.wrap .i64 (s11 + (1 : Int))) G

def L4_2 {R : Type} (O : Ora R) (fuel : Nat) (Kret : Bool → GH → Option R) (KN : Option GA → Nat → Option GA → Nat → Option GA → Option GA → Int → GH → Option R) (K0 : GH → Option R) : Option GA → Nat → Option GA → Nat → Option GA → Option GA → Int → GH → Option R := fun (s3a : Option GA) (s3n : Nat) (s6a : Option GA) (s6n : Nat) (s9 : Option GA) (s10 : Option GA) (s11 : Int) G =>
  stepN fuel (l4_2 O fuel (a4_2ret O Kret KN K0) (a4_2N O Kret KN K0) s3a s3n s6a s6n s9 s10 s11 G)

theorem a4_2ret_raw {R : Type} (O : Ora R) (fuel : Nat) (s2 : Bool) (G : GH) (k : Ex → List IV → List (List IV) → GH → Option R) :
  contC Try.prog O lo4 fuel (nav (Try.f4.body.getD .skip) [1, 1, 1, 1, 1, 1, 1, 0, 1, 0, 0]) [1, 0] (kpD lo4 44 0 k) .ret (mkE 103 [(2, .bool s2)]) [] G =
  a4_2ret O (fun (s2 : Bool) (G : GH) => k .ret (mkE 103 [(2, .bool s2)]) [] G) (fun (s3a : Option GA) (s3n : Nat) (s6a : Option GA) (s6n : Nat) (s9 : Option GA) (s10 : Option GA) (s11 : Int) (G : GH) => k .normal (mkE 103 [(3, .slice s3a s3n), (6, .slice s6a s6n), (9, .ptr s9), (10, .ptr s10), (11, .int .i64 s11)]) [] G) (fun (G : GH) => k (.exit 0) (mkE 103 []) [] G) s2 G := by kernel_rfl

theorem a4_2N_raw {R : Type} (O : Ora R) (fuel : Nat) (s3a : Option GA) (s3n : Nat) (s6a : Option GA) (s6n : Nat) (s9 : Option GA) (s10 : Option GA) (s11 : Int) (G : GH) (k : Ex → List IV → List (List IV) → GH → Option R) :
  contC Try.prog O lo4 fuel (nav (Try.f4.body.getD .skip) [1, 1, 1, 1, 1, 1, 1, 0, 1, 0, 0]) [1, 0] (kpD lo4 44 0 k) .normal (mkE 103 [(3, .slice s3a s3n), (6, .slice s6a s6n), (9, .ptr s9), (10, .ptr s10), (11, .int .i64 s11)]) [] G =
  a4_2N O (fun (s2 : Bool) (G : GH) => k .ret (mkE 103 [(2, .bool s2)]) [] G) (fun (s3a : Option GA) (s3n : Nat) (s6a : Option GA) (s6n : Nat) (s9 : Option GA) (s10 : Option GA) (s11 : Int) (G : GH) => k .normal (mkE 103 [(3, .slice s3a s3n), (6, .slice s6a s6n), (9, .ptr s9), (10, .ptr s10), (11, .int .i64 s11)]) [] G) (fun (G : GH) => k (.exit 0) (mkE 103 []) [] G) s3a s3n s6a s6n s9 s10 s11 G := by kernel_rfl

theorem L4_2_eq {R : Type} (O : Ora R) (fuel : Nat) (k : Ex → List IV → List (List IV) → GH → Option R) :
  (fun (s3a : Option GA) (s3n : Nat) (s6a : Option GA) (s6n : Nat) (s9 : Option GA) (s10 : Option GA) (s11 : Int) (G : GH) => stepN fuel (loopD Try.prog O lo4 fuel (nav (Try.f4.body.getD .skip) [1, 1, 1, 1, 1, 1, 1, 0, 1, 0, 0, 1, 0]) 51 (mkE 103 [(3, .slice s3a s3n), (6, .slice s6a s6n), (9, .ptr s9), (10, .ptr s10), (11, .int .i64 s11)]) [] G (contC Try.prog O lo4 fuel (nav (Try.f4.body.getD .skip) [1, 1, 1, 1, 1, 1, 1, 0, 1, 0, 0]) [1, 0] (kpD lo4 44 0 k)))) = L4_2 O fuel (fun (s2 : Bool) (G : GH) => k .ret (mkE 103 [(2, .bool s2)]) [] G) (fun (s3a : Option GA) (s3n : Nat) (s6a : Option GA) (s6n : Nat) (s9 : Option GA) (s10 : Option GA) (s11 : Int) (G : GH) => k .normal (mkE 103 [(3, .slice s3a s3n), (6, .slice s6a s6n), (9, .ptr s9), (10, .ptr s10), (11, .int .i64 s11)]) [] G) (fun (G : GH) => k (.exit 0) (mkE 103 []) [] G) := by
  funext s3a s3n s6a s6n s9 s10 s11 G
  simp only [L4_2, l4_2_eq, a4_2ret_raw, a4_2N_raw]

def l4_1 {R : Type} (O : Ora R) (fuel : Nat) (Kret : Bool → GH → Option R) (K0 : GH → Option R) : Nat → Option GA → Nat → Option GA → Nat → Option GA → Option GA → Int → GH → Option R
  | 0, _, _, _, _, _, _, _, _ => none
  | n + 1, s3a, s3n, s6a, s6n, s9, s10, s11, G => u4_1 O Kret (l4_1 O fuel Kret K0 n) K0 (L4_2 O fuel Kret (l4_1 O fuel Kret K0 n) K0) s3a s3n s6a s6n s9 s10 s11 G

theorem u4_1_raw {R : Type} (O : Ora R) (fuel : Nat) (s3a : Option GA) (s3n : Nat) (s6a : Option GA) (s6n : Nat) (s9 : Option GA) (s10 : Option GA) (s11 : Int) (G : GH) (k : Ex → List IV → List (List IV) → GH → Option R) :
  loopD Try.prog O lo4 fuel (nav (Try.f4.body.getD .skip) [1, 1, 1, 1, 1, 1, 1, 0, 1, 0, 0]) 44 (mkE 103 [(3, .slice s3a s3n), (6, .slice s6a s6n), (9, .ptr s9), (10, .ptr s10), (11, .int .i64 s11)]) [] G k =
  u4_1 O (fun (s2 : Bool) (G : GH) => k .ret (mkE 103 [(2, .bool s2)]) [] G) (fun (s3a : Option GA) (s3n : Nat) (s6a : Option GA) (s6n : Nat) (s9 : Option GA) (s10 : Option GA) (s11 : Int) (G : GH) => k .normal (mkE 103 [(3, .slice s3a s3n), (6, .slice s6a s6n), (9, .ptr s9), (10, .ptr s10), (11, .int .i64 s11)]) [] G) (fun (G : GH) => k (.exit 0) (mkE 103 []) [] G) (fun (s3a : Option GA) (s3n : Nat) (s6a : Option GA) (s6n : Nat) (s9 : Option GA) (s10 : Option GA) (s11 : Int) (G : GH) => stepN fuel (loopD Try.prog O lo4 fuel (nav (Try.f4.body.getD .skip) [1, 1, 1, 1, 1, 1, 1, 0, 1, 0, 0, 1, 0]) 51 (mkE 103 [(3, .slice s3a s3n), (6, .slice s6a s6n), (9, .ptr s9), (10, .ptr s10), (11, .int .i64 s11)]) [] G (contC Try.prog O lo4 fuel (nav (Try.f4.body.getD .skip) [1, 1, 1, 1, 1, 1, 1, 0, 1, 0, 0]) [1, 0] (kpD lo4 44 0 k)))) s3a s3n s6a s6n s9 s10 s11 G := by kernel_rfl

theorem l4_1_eq {R : Type} (O : Ora R) (fuel : Nat) (k : Ex → List IV → List (List IV) → GH → Option R) : ∀ (n : Nat) (s3a : Option GA) (s3n : Nat) (s6a : Option GA) (s6n : Nat) (s9 : Option GA) (s10 : Option GA) (s11 : Int) (G : GH),
  loopN (loopD Try.prog O lo4 fuel (nav (Try.f4.body.getD .skip) [1, 1, 1, 1, 1, 1, 1, 0, 1, 0, 0]) 44) n (mkE 103 [(3, .slice s3a s3n), (6, .slice s6a s6n), (9, .ptr s9), (10, .ptr s10), (11, .int .i64 s11)]) [] G k = l4_1 O fuel (fun (s2 : Bool) (G : GH) => k .ret (mkE 103 [(2, .bool s2)]) [] G) (fun (G : GH) => k (.exit 0) (mkE 103 []) [] G) n s3a s3n s6a s6n s9 s10 s11 G := by
  intro n
  induction n with
  | zero => intros; rfl
  | succ n ih =>
    intros
    rw [loopN_succ, u4_1_raw]
    simp only [l4_1, loopK_normal, loopK_exit, loopK_ret, ih, L4_2_eq]

def u4 {R : Type} (O : Ora R) (k : IV → GH → Option R) (L0 : List UInt8 → Option GA → Nat → Int → Int → Option GA → Nat → Int → Int → GH → Option R) (p0 : List UInt8) (G : GH) : Option R :=
  O 8 [] G fun v1 G2 =>
  (ivBool v1).bind fun x3 =>
  bif (!x3) then
  k (.bool false) G2
  else
  bif (decide ((p0.length : Int) > (65536 : Int))) then
  k (.bool true) G2
  else
  O 10 [.str p0] G2 fun v4 G5 =>
  (ivTup 3 v4).bind fun c6 =>
  (ivSlice (c6.getD 0 undefI)).bind fun x7 =>
  (ivInt .i64 (c6.getD 1 undefI)).bind fun x8 =>
  (ivInt .i64 (c6.getD 2 undefI)).bind fun x9 =>
  O 11 [.str p0] G5 fun v10 G11 =>
  (ivTup 3 v10).bind fun c12 =>
  (ivSlice (c12.getD 0 undefI)).bind fun x13 =>
  (ivInt .i64 (c12.getD 1 undefI)).bind fun x14 =>
  (ivInt .i64 (c12.getD 2 undefI)).bind fun x15 =>
  L0 p0 x7.1 x7.2 x8 x9 x13.1 x13.2 x14 x15 G11

def a4_0ret {R : Type} (O : Ora R) (k : IV → GH → Option R) (s2 : Bool) (G : GH) : Option R :=
  k (.bool s2) G

def a4_0N {R : Type} (O : Ora R) (k : IV → GH → Option R) (L1 : Option GA → Nat → Option GA → Nat → Option GA → Option GA → Int → GH → Option R) (s0 : List UInt8) (s3a : Option GA) (s3n : Nat) (s6a : Option GA) (s6n : Nat) (G : GH) : Option R :=
  O 12 [.str s0] G fun v1 G2 =>
  (ivPtr v1).bind fun x3 =>
  O 13 [.str s0] G2 fun v4 G5 =>
  (ivPtr v4).bind fun x6 =>
  L1 s3a s3n s6a s6n x3 x6 (0 : Int) G5

def a4_1ret {R : Type} (O : Ora R) (k : IV → GH → Option R) (s2 : Bool) (G : GH) : Option R :=
  k (.bool s2) G

def a4_10 {R : Type} (O : Ora R) (k : IV → GH → Option R)  (G : GH) : Option R :=
  k (.bool true) G

def L4_1 {R : Type} (O : Ora R) (fuel : Nat) (k : IV → GH → Option R) : Option GA → Nat → Option GA → Nat → Option GA → Option GA → Int → GH → Option R := fun (s3a : Option GA) (s3n : Nat) (s6a : Option GA) (s6n : Nat) (s9 : Option GA) (s10 : Option GA) (s11 : Int) G =>
  l4_1 O fuel (a4_1ret O k) (a4_10 O k) fuel s3a s3n s6a s6n s9 s10 s11 G

theorem a4_1ret_raw {R : Type} (O : Ora R) (fuel : Nat) (s2 : Bool) (G : GH) (k : IV → GH → Option R) :
  contC Try.prog O lo4 fuel (Try.f4.body.getD .skip) [1, 1, 1, 1, 1, 1, 1, 0, 1, 0] (fun e env F G => match e with | .exit _ => none | _ => resC Try.prog Try.f4 env F G k) .ret (mkE 103 [(2, .bool s2)]) [] G =
  a4_1ret O k s2 G := by kernel_rfl

theorem a4_10_raw {R : Type} (O : Ora R) (fuel : Nat)  (G : GH) (k : IV → GH → Option R) :
  contC Try.prog O lo4 fuel (Try.f4.body.getD .skip) [1, 1, 1, 1, 1, 1, 1, 0, 1, 0] (fun e env F G => match e with | .exit _ => none | _ => resC Try.prog Try.f4 env F G k) (.exit 0) (mkE 103 []) [] G =
  a4_10 O k G := by kernel_rfl

theorem L4_1_eq {R : Type} (O : Ora R) (fuel : Nat) (k : IV → GH → Option R) :
  (fun (s3a : Option GA) (s3n : Nat) (s6a : Option GA) (s6n : Nat) (s9 : Option GA) (s10 : Option GA) (s11 : Int) (G : GH) => loopN (loopD Try.prog O lo4 fuel (nav (Try.f4.body.getD .skip) [1, 1, 1, 1, 1, 1, 1, 0, 1, 0, 0]) 44) fuel (mkE 103 [(3, .slice s3a s3n), (6, .slice s6a s6n), (9, .ptr s9), (10, .ptr s10), (11, .int .i64 s11)]) [] G (contC Try.prog O lo4 fuel (Try.f4.body.getD .skip) [1, 1, 1, 1, 1, 1, 1, 0, 1, 0] (fun e env F G => match e with | .exit _ => none | _ => resC Try.prog Try.f4 env F G k))) = L4_1 O fuel k := by
  funext s3a s3n s6a s6n s9 s10 s11 G
  simp only [L4_1, l4_1_eq, a4_1ret_raw, a4_10_raw]

def L4_0 {R : Type} (O : Ora R) (fuel : Nat) (k : IV → GH → Option R) : List UInt8 → Option GA → Nat → Int → Int → Option GA → Nat → Int → Int → GH → Option R := fun (s0 : List UInt8) (s3a : Option GA) (s3n : Nat) (s4 : Int) (s5 : Int) (s6a : Option GA) (s6n : Nat) (s7 : Int) (s8 : Int) G =>
  stepN fuel (l4_0 O (a4_0ret O k) (a4_0N O k (L4_1 O fuel k)) s0 s3a s3n s4 s5 s6a s6n s7 s8 G)

theorem a4_0ret_raw {R : Type} (O : Ora R) (fuel : Nat) (s2 : Bool) (G : GH) (k : IV → GH → Option R) :
  contC Try.prog O lo4 fuel (Try.f4.body.getD .skip) [1, 1, 1, 1, 1, 0] (fun e env F G => match e with | .exit _ => none | _ => resC Try.prog Try.f4 env F G k) .ret (mkE 103 [(2, .bool s2)]) [] G =
  a4_0ret O k s2 G := by kernel_rfl

theorem a4_0N_raw {R : Type} (O : Ora R) (fuel : Nat) (s0 : List UInt8) (s3a : Option GA) (s3n : Nat) (s6a : Option GA) (s6n : Nat) (G : GH) (k : IV → GH → Option R) :
  contC Try.prog O lo4 fuel (Try.f4.body.getD .skip) [1, 1, 1, 1, 1, 0] (fun e env F G => match e with | .exit _ => none | _ => resC Try.prog Try.f4 env F G k) .normal (mkE 103 [(0, .str s0), (3, .slice s3a s3n), (6, .slice s6a s6n)]) [] G =
  a4_0N O k (fun (s3a : Option GA) (s3n : Nat) (s6a : Option GA) (s6n : Nat) (s9 : Option GA) (s10 : Option GA) (s11 : Int) (G : GH) => loopN (loopD Try.prog O lo4 fuel (nav (Try.f4.body.getD .skip) [1, 1, 1, 1, 1, 1, 1, 0, 1, 0, 0]) 44) fuel (mkE 103 [(3, .slice s3a s3n), (6, .slice s6a s6n), (9, .ptr s9), (10, .ptr s10), (11, .int .i64 s11)]) [] G (contC Try.prog O lo4 fuel (Try.f4.body.getD .skip) [1, 1, 1, 1, 1, 1, 1, 0, 1, 0] (fun e env F G => match e with | .exit _ => none | _ => resC Try.prog Try.f4 env F G k))) s0 s3a s3n s6a s6n G := by kernel_rfl

theorem L4_0_eq {R : Type} (O : Ora R) (fuel : Nat) (k : IV → GH → Option R) :
  (fun (s0 : List UInt8) (s3a : Option GA) (s3n : Nat) (s4 : Int) (s5 : Int) (s6a : Option GA) (s6n : Nat) (s7 : Int) (s8 : Int) (G : GH) => stepN fuel (loopD Try.prog O lo4 fuel (nav (Try.f4.body.getD .skip) [1, 1, 1, 1, 1, 0]) 39 (mkE 103 [(0, .str s0), (3, .slice s3a s3n), (4, .int .i64 s4), (5, .int .i64 s5), (6, .slice s6a s6n), (7, .int .i64 s7), (8, .int .i64 s8)]) [] G (contC Try.prog O lo4 fuel (Try.f4.body.getD .skip) [1, 1, 1, 1, 1, 0] (fun e env F G => match e with | .exit _ => none | _ => resC Try.prog Try.f4 env F G k)))) = L4_0 O fuel k := by
  funext s0 s3a s3n s4 s5 s6a s6n s7 s8 G
  simp only [L4_0, l4_0_eq, a4_0ret_raw, a4_0N_raw, L4_1_eq]

theorem e4_raw {R : Type} (O : Ora R) (fuel : Nat) (p0 : List UInt8) (G : GH) (k : IV → GH → Option R) :
  bodyC Try.prog O lo4 fuel Try.f4 [.str p0] G k =
  u4 O k (fun (s0 : List UInt8) (s3a : Option GA) (s3n : Nat) (s4 : Int) (s5 : Int) (s6a : Option GA) (s6n : Nat) (s7 : Int) (s8 : Int) (G : GH) => stepN fuel (loopD Try.prog O lo4 fuel (nav (Try.f4.body.getD .skip) [1, 1, 1, 1, 1, 0]) 39 (mkE 103 [(0, .str s0), (3, .slice s3a s3n), (4, .int .i64 s4), (5, .int .i64 s5), (6, .slice s6a s6n), (7, .int .i64 s7), (8, .int .i64 s8)]) [] G (contC Try.prog O lo4 fuel (Try.f4.body.getD .skip) [1, 1, 1, 1, 1, 0] (fun e env F G => match e with | .exit _ => none | _ => resC Try.prog Try.f4 env F G k)))) p0 G := by kernel_rfl

theorem e4 {R : Type} (O : Ora R) (fuel : Nat) (p0 : List UInt8) (G : GH) (k : IV → GH → Option R) :
  bodyC Try.prog O lo4 fuel Try.f4 [.str p0] G k =
  u4 O k (L4_0 O fuel k) p0 G := by
  rw [e4_raw, L4_0_eq]

theorem r4 {R : Type} (fuel n : Nat) (p0 : List UInt8) (G : GH) (k : IV → GH → Option R) :
  runL Try.prog lexLib lo0 fuel (n + 1) 4 [.str p0] G k = bodyC Try.prog (runL Try.prog lexLib lo0 fuel n) lo4 fuel Try.f4 [.str p0] G k := runL_body Try.func4 rfl rfl rfl

/-! ### lantern/lanternlaw15.LexNil -/
def u5_0 {R : Type} (O : Ora R) (Kret : Bool → Int → List UInt8 → Nat → Int → GH → Option R) (KN : List UInt8 → Int → List UInt8 → Nat → Int → GH → Option R) (s0 : List UInt8) (s3 : Option GA) (s5 : Int) (b0_0 : Int) (b0_1 : List UInt8) (b0_2 : Nat) (b0_3 : Int) (G : GH) : Option R :=
  bif (!((b0_0 == (0 : Int)) && ((b0_1 == ([] : List UInt8)) && ((feq .f64 b0_2 (0 : Nat)) && ((b0_3 == (0 : Int)) && true))))) then
  Kret false b0_0 b0_1 b0_2 b0_3 G
  else
  bif (s5 != (1 : Int)) then
  Kret false b0_0 b0_1 b0_2 b0_3 G
  else
  O 17 [.ptr s3] G fun v1 G2 =>
  (ivInt .i64 v1).bind fun x3 =>
  bif (x3 != (0 : Int)) then
  Kret false b0_0 b0_1 b0_2 b0_3 G2
  else
  KN s0 b0_0 b0_1 b0_2 b0_3 G2

def l5_0 {R : Type} (O : Ora R) (Kret : Bool → Int → List UInt8 → Nat → Int → GH → Option R) (KN : List UInt8 → Int → List UInt8 → Nat → Int → GH → Option R) : List UInt8 → Option GA → Int → Int → List UInt8 → Nat → Int → GH → Option R := fun (s0 : List UInt8) (s3 : Option GA) (s5 : Int) (b0_0 : Int) (b0_1 : List UInt8) (b0_2 : Nat) (b0_3 : Int) G => u5_0 O Kret KN s0 s3 s5 b0_0 b0_1 b0_2 b0_3 G

theorem u5_0_raw {R : Type} (O : Ora R) (fuel : Nat) (s0 : List UInt8) (s3 : Option GA) (s5 : Int) (b0_0 : Int) (b0_1 : List UInt8) (b0_2 : Nat) (b0_3 : Int) (G : GH) (k : Ex → List IV → List (List IV) → GH → Option R) :
  loopD Try.prog O lo5 fuel (nav (Try.f5.body.getD .skip) [1, 1, 1, 1, 0]) 31 (mkE 71 [(0, .str s0), (3, .ptr s3), (4, .loc 0 0), (5, .int .i64 s5)]) [[.int .i64 b0_0, .str b0_1, .float .f64 b0_2, .int .i64 b0_3]] G k =
  u5_0 O (fun (s2 : Bool) (b0_0 : Int) (b0_1 : List UInt8) (b0_2 : Nat) (b0_3 : Int) (G : GH) => k .ret (mkE 71 [(2, .bool s2)]) [[.int .i64 b0_0, .str b0_1, .float .f64 b0_2, .int .i64 b0_3]] G) (fun (s0 : List UInt8) (b0_0 : Int) (b0_1 : List UInt8) (b0_2 : Nat) (b0_3 : Int) (G : GH) => k .normal (mkE 71 [(0, .str s0), (4, .loc 0 0)]) [[.int .i64 b0_0, .str b0_1, .float .f64 b0_2, .int .i64 b0_3]] G) s0 s3 s5 b0_0 b0_1 b0_2 b0_3 G := by kernel_rfl

theorem l5_0_eq {R : Type} (O : Ora R) (fuel : Nat) (k : Ex → List IV → List (List IV) → GH → Option R) : ∀ (s0 : List UInt8) (s3 : Option GA) (s5 : Int) (b0_0 : Int) (b0_1 : List UInt8) (b0_2 : Nat) (b0_3 : Int) (G : GH),
  loopD Try.prog O lo5 fuel (nav (Try.f5.body.getD .skip) [1, 1, 1, 1, 0]) 31 (mkE 71 [(0, .str s0), (3, .ptr s3), (4, .loc 0 0), (5, .int .i64 s5)]) [[.int .i64 b0_0, .str b0_1, .float .f64 b0_2, .int .i64 b0_3]] G k = l5_0 O (fun (s2 : Bool) (b0_0 : Int) (b0_1 : List UInt8) (b0_2 : Nat) (b0_3 : Int) (G : GH) => k .ret (mkE 71 [(2, .bool s2)]) [[.int .i64 b0_0, .str b0_1, .float .f64 b0_2, .int .i64 b0_3]] G) (fun (s0 : List UInt8) (b0_0 : Int) (b0_1 : List UInt8) (b0_2 : Nat) (b0_3 : Int) (G : GH) => k .normal (mkE 71 [(0, .str s0), (4, .loc 0 0)]) [[.int .i64 b0_0, .str b0_1, .float .f64 b0_2, .int .i64 b0_3]] G) s0 s3 s5 b0_0 b0_1 b0_2 b0_3 G := by
  intros
  rw [u5_0_raw]
  simp only [l5_0]

def u5_2 {R : Type} (O : Ora R) (KN : List UInt8 → Option GA → Int → Int → List UInt8 → Nat → Int → GH → Option R) (K0 : Int → Option GA → Int → Int → List UInt8 → Nat → Int → GH → Option R) (s0 : List UInt8) (s5 : Int) (s6 : Option GA) (s7 : Int) (b0_0 : Int) (b0_1 : List UInt8) (b0_2 : Nat) (b0_3 : Int) (G : GH) : Option R :=
  bif (s5 == (0 : Int)) then
  bif (decide (s7 < (20000 : Int))) then
  KN s0 s6 s7 b0_0 b0_1 b0_2 b0_3 G
  else
  K0 s5 s6 s7 b0_0 b0_1 b0_2 b0_3 G
  else
  K0 s5 s6 s7 b0_0 b0_1 b0_2 b0_3 G

def l5_2 {R : Type} (O : Ora R) (KN : List UInt8 → Option GA → Int → Int → List UInt8 → Nat → Int → GH → Option R) (K0 : Int → Option GA → Int → Int → List UInt8 → Nat → Int → GH → Option R) : List UInt8 → Int → Option GA → Int → Int → List UInt8 → Nat → Int → GH → Option R := fun (s0 : List UInt8) (s5 : Int) (s6 : Option GA) (s7 : Int) (b0_0 : Int) (b0_1 : List UInt8) (b0_2 : Nat) (b0_3 : Int) G => u5_2 O KN K0 s0 s5 s6 s7 b0_0 b0_1 b0_2 b0_3 G

theorem u5_2_raw {R : Type} (O : Ora R) (fuel : Nat) (s0 : List UInt8) (s5 : Int) (s6 : Option GA) (s7 : Int) (b0_0 : Int) (b0_1 : List UInt8) (b0_2 : Nat) (b0_3 : Int) (G : GH) (k : Ex → List IV → List (List IV) → GH → Option R) :
  loopD Try.prog O lo5 fuel (nav (Try.f5.body.getD .skip) [1, 1, 1, 1, 1, 1, 1, 0, 1, 0, 0, 0]) 51 (mkE 71 [(0, .str s0), (4, .loc 0 0), (5, .int .i64 s5), (6, .ptr s6), (7, .int .i64 s7)]) [[.int .i64 b0_0, .str b0_1, .float .f64 b0_2, .int .i64 b0_3]] G k =
  u5_2 O (fun (s0 : List UInt8) (s6 : Option GA) (s7 : Int) (b0_0 : Int) (b0_1 : List UInt8) (b0_2 : Nat) (b0_3 : Int) (G : GH) => k .normal (mkE 71 [(0, .str s0), (4, .loc 0 0), (6, .ptr s6), (7, .int .i64 s7)]) [[.int .i64 b0_0, .str b0_1, .float .f64 b0_2, .int .i64 b0_3]] G) (fun (s5 : Int) (s6 : Option GA) (s7 : Int) (b0_0 : Int) (b0_1 : List UInt8) (b0_2 : Nat) (b0_3 : Int) (G : GH) => k (.exit 0) (mkE 71 [(5, .int .i64 s5), (6, .ptr s6), (7, .int .i64 s7)]) [[.int .i64 b0_0, .str b0_1, .float .f64 b0_2, .int .i64 b0_3]] G) s0 s5 s6 s7 b0_0 b0_1 b0_2 b0_3 G := by kernel_rfl

theorem l5_2_eq {R : Type} (O : Ora R) (fuel : Nat) (k : Ex → List IV → List (List IV) → GH → Option R) : ∀ (s0 : List UInt8) (s5 : Int) (s6 : Option GA) (s7 : Int) (b0_0 : Int) (b0_1 : List UInt8) (b0_2 : Nat) (b0_3 : Int) (G : GH),
  loopD Try.prog O lo5 fuel (nav (Try.f5.body.getD .skip) [1, 1, 1, 1, 1, 1, 1, 0, 1, 0, 0, 0]) 51 (mkE 71 [(0, .str s0), (4, .loc 0 0), (5, .int .i64 s5), (6, .ptr s6), (7, .int .i64 s7)]) [[.int .i64 b0_0, .str b0_1, .float .f64 b0_2, .int .i64 b0_3]] G k = l5_2 O (fun (s0 : List UInt8) (s6 : Option GA) (s7 : Int) (b0_0 : Int) (b0_1 : List UInt8) (b0_2 : Nat) (b0_3 : Int) (G : GH) => k .normal (mkE 71 [(0, .str s0), (4, .loc 0 0), (6, .ptr s6), (7, .int .i64 s7)]) [[.int .i64 b0_0, .str b0_1, .float .f64 b0_2, .int .i64 b0_3]] G) (fun (s5 : Int) (s6 : Option GA) (s7 : Int) (b0_0 : Int) (b0_1 : List UInt8) (b0_2 : Nat) (b0_3 : Int) (G : GH) => k (.exit 0) (mkE 71 [(5, .int .i64 s5), (6, .ptr s6), (7, .int .i64 s7)]) [[.int .i64 b0_0, .str b0_1, .float .f64 b0_2, .int .i64 b0_3]] G) s0 s5 s6 s7 b0_0 b0_1 b0_2 b0_3 G := by
  intros
  rw [u5_2_raw]
  simp only [l5_2]

def u5_3 {R : Type} (O : Ora R) (KN : List UInt8 → Int → Option GA → Int → Bool → Int → List UInt8 → Nat → Int → GH → Option R) (s0 : List UInt8) (s5 : Int) (s6 : Option GA) (s7 : Int) (b0_0 : Int) (b0_1 : List UInt8) (b0_2 : Nat) (b0_3 : Int) (G : GH) : Option R :=
  bif (s5 == (0 : Int)) then
  KN s0 s5 s6 s7 (b0_0 == (4 : Int)) b0_0 b0_1 b0_2 b0_3 G
  else
  KN s0 s5 s6 s7 false b0_0 b0_1 b0_2 b0_3 G

def l5_3 {R : Type} (O : Ora R) (KN : List UInt8 → Int → Option GA → Int → Bool → Int → List UInt8 → Nat → Int → GH → Option R) : List UInt8 → Int → Option GA → Int → Int → List UInt8 → Nat → Int → GH → Option R := fun (s0 : List UInt8) (s5 : Int) (s6 : Option GA) (s7 : Int) (b0_0 : Int) (b0_1 : List UInt8) (b0_2 : Nat) (b0_3 : Int) G => u5_3 O KN s0 s5 s6 s7 b0_0 b0_1 b0_2 b0_3 G

theorem u5_3_raw {R : Type} (O : Ora R) (fuel : Nat) (s0 : List UInt8) (s5 : Int) (s6 : Option GA) (s7 : Int) (b0_0 : Int) (b0_1 : List UInt8) (b0_2 : Nat) (b0_3 : Int) (G : GH) (k : Ex → List IV → List (List IV) → GH → Option R) :
  loopD Try.prog O lo5 fuel (nav (Try.f5.body.getD .skip) [1, 1, 1, 1, 1, 1, 1, 0, 1, 0, 0, 1, 0, 0, 1, 0]) 59 (mkE 71 [(0, .str s0), (4, .loc 0 0), (5, .int .i64 s5), (6, .ptr s6), (7, .int .i64 s7)]) [[.int .i64 b0_0, .str b0_1, .float .f64 b0_2, .int .i64 b0_3]] G k =
  u5_3 O (fun (s0 : List UInt8) (s5 : Int) (s6 : Option GA) (s7 : Int) (s51 : Bool) (b0_0 : Int) (b0_1 : List UInt8) (b0_2 : Nat) (b0_3 : Int) (G : GH) => k .normal (mkE 71 [(0, .str s0), (4, .loc 0 0), (5, .int .i64 s5), (6, .ptr s6), (7, .int .i64 s7), (51, .bool s51)]) [[.int .i64 b0_0, .str b0_1, .float .f64 b0_2, .int .i64 b0_3]] G) s0 s5 s6 s7 b0_0 b0_1 b0_2 b0_3 G := by kernel_rfl

theorem l5_3_eq {R : Type} (O : Ora R) (fuel : Nat) (k : Ex → List IV → List (List IV) → GH → Option R) : ∀ (s0 : List UInt8) (s5 : Int) (s6 : Option GA) (s7 : Int) (b0_0 : Int) (b0_1 : List UInt8) (b0_2 : Nat) (b0_3 : Int) (G : GH),
  loopD Try.prog O lo5 fuel (nav (Try.f5.body.getD .skip) [1, 1, 1, 1, 1, 1, 1, 0, 1, 0, 0, 1, 0, 0, 1, 0]) 59 (mkE 71 [(0, .str s0), (4, .loc 0 0), (5, .int .i64 s5), (6, .ptr s6), (7, .int .i64 s7)]) [[.int .i64 b0_0, .str b0_1, .float .f64 b0_2, .int .i64 b0_3]] G k = l5_3 O (fun (s0 : List UInt8) (s5 : Int) (s6 : Option GA) (s7 : Int) (s51 : Bool) (b0_0 : Int) (b0_1 : List UInt8) (b0_2 : Nat) (b0_3 : Int) (G : GH) => k .normal (mkE 71 [(0, .str s0), (4, .loc 0 0), (5, .int .i64 s5), (6, .ptr s6), (7, .int .i64 s7), (51, .bool s51)]) [[.int .i64 b0_0, .str b0_1, .float .f64 b0_2, .int .i64 b0_3]] G) s0 s5 s6 s7 b0_0 b0_1 b0_2 b0_3 G := by
  intros
  rw [u5_3_raw]
  simp only [l5_3]

def u5_1 {R : Type} (O : Ora R) (Kret : Bool → Int → List UInt8 → Nat → Int → GH → Option R) (KN : List UInt8 → Int → Option GA → Int → Int → List UInt8 → Nat → Int → GH → Option R) (K0 : Int → Option GA → Int → Int → List UInt8 → Nat → Int → GH → Option R) (L2 : List UInt8 → Int → Option GA → Int → Int → List UInt8 → Nat → Int → GH → Option R) (s0 : List UInt8) (s5 : Int) (s6 : Option GA) (s7 : Int) (b0_0 : Int) (b0_1 : List UInt8) (b0_2 : Nat) (b0_3 : Int) (G : GH) : Option R :=
  L2 s0 s5 s6 s7 b0_0 b0_1 b0_2 b0_3 G

def a5_2N {R : Type} (O : Ora R) (Kret : Bool → Int → List UInt8 → Nat → Int → GH → Option R) (KN : List UInt8 → Int → Option GA → Int → Int → List UInt8 → Nat → Int → GH → Option R) (K0 : Int → Option GA → Int → Int → List UInt8 → Nat → Int → GH → Option R) (L3 : List UInt8 → Int → Option GA → Int → Int → List UInt8 → Nat → Int → GH → Option R) (s0 : List UInt8) (s6 : Option GA) (s7 : Int) (b0_0 : Int) (b0_1 : List UInt8) (b0_2 : Nat) (b0_3 : Int) (G : GH) : Option R :=
  O 15 [.ptr s6] G fun v1 G2 =>
  (ivTup 2 v1).bind fun c3 =>
  (ivAgg 4 (c3.getD 0 undefI)).bind fun c4 =>
  (ivInt .i64 (c4.getD 0 undefI)).bind fun x5 =>
  (ivStr (c4.getD 1 undefI)).bind fun x6 =>
  (ivFloat .f64 (c4.getD 2 undefI)).bind fun x7 =>
  (ivInt .i64 (c4.getD 3 undefI)).bind fun x8 =>
  (ivInt .i64 (c3.getD 1 undefI)).bind fun x9 =>
  L3 s0 x9 s6 s7 x5 x6 x7 x8 G2

def a5_20 {R : Type} (O : Ora R) (Kret : Bool → Int → List UInt8 → Nat → Int → GH → Option R) (KN : List UInt8 → Int → Option GA → Int → Int → List UInt8 → Nat → Int → GH → Option R) (K0 : Int → Option GA → Int → Int → List UInt8 → Nat → Int → GH → Option R) (s5 : Int) (s6 : Option GA) (s7 : Int) (b0_0 : Int) (b0_1 : List UInt8) (b0_2 : Nat) (b0_3 : Int) (G : GH) : Option R :=
  K0 s5 s6 s7 b0_0 b0_1 b0_2 b0_3 G

def a5_3N {R : Type} (O : Ora R) (Kret : Bool → Int → List UInt8 → Nat → Int → GH → Option R) (KN : List UInt8 → Int → Option GA → Int → Int → List UInt8 → Nat → Int → GH → Option R) (K0 : Int → Option GA → Int → Int → List UInt8 → Nat → Int → GH → Option R) (s0 : List UInt8) (s5 : Int) (s6 : Option GA) (s7 : Int) (s51 : Bool) (b0_0 : Int) (b0_1 : List UInt8) (b0_2 : Nat) (b0_3 : Int) (G : GH) : Option R :=
  bif s51 then
  O 18 [.str s0, .str ([35] : List UInt8)] G fun v1 G2 =>
  (ivBool v1).bind fun x3 =>
  Kret x3 b0_0 b0_1 b0_2 b0_3 G2
  else
  KN s0 s5 s6 (IntKind.wrap .i64 (s7 + (1 : Int))) b0_0 b0_1 b0_2 b0_3 G

def L5_3 {R : Type} (O : Ora R) (fuel : Nat) (Kret : Bool → Int → List UInt8 → Nat → Int → GH → Option R) (KN : List UInt8 → Int → Option GA → Int → Int → List UInt8 → Nat → Int → GH → Option R) (K0 : Int → Option GA → Int → Int → List UInt8 → Nat → Int → GH → Option R) : List UInt8 → Int → Option GA → Int → Int → List UInt8 → Nat → Int → GH → Option R := fun (s0 : List UInt8) (s5 : Int) (s6 : Option GA) (s7 : Int) (b0_0 : Int) (b0_1 : List UInt8) (b0_2 : Nat) (b0_3 : Int) G =>
  stepN fuel (l5_3 O (a5_3N O Kret KN K0) s0 s5 s6 s7 b0_0 b0_1 b0_2 b0_3 G)

theorem a5_3N_raw {R : Type} (O : Ora R) (fuel : Nat) (s0 : List UInt8) (s5 : Int) (s6 : Option GA) (s7 : Int) (s51 : Bool) (b0_0 : Int) (b0_1 : List UInt8) (b0_2 : Nat) (b0_3 : Int) (G : GH) (k : Ex → List IV → List (List IV) → GH → Option R) :
  contC Try.prog O lo5 fuel (nav (Try.f5.body.getD .skip) [1, 1, 1, 1, 1, 1, 1, 0, 1, 0, 0]) [1, 0, 0, 1, 0] (kpD lo5 40 1 k) .normal (mkE 71 [(0, .str s0), (4, .loc 0 0), (5, .int .i64 s5), (6, .ptr s6), (7, .int .i64 s7), (51, .bool s51)]) [[.int .i64 b0_0, .str b0_1, .float .f64 b0_2, .int .i64 b0_3]] G =
  a5_3N O (fun (s2 : Bool) (b0_0 : Int) (b0_1 : List UInt8) (b0_2 : Nat) (b0_3 : Int) (G : GH) => k .ret (mkE 71 [(2, .bool s2)]) [[.int .i64 b0_0, .str b0_1, .float .f64 b0_2, .int .i64 b0_3]] G) (fun (s0 : List UInt8) (s5 : Int) (s6 : Option GA) (s7 : Int) (b0_0 : Int) (b0_1 : List UInt8) (b0_2 : Nat) (b0_3 : Int) (G : GH) => k .normal (mkE 71 [(0, .str s0), (4, .loc 0 0), (5, .int .i64 s5), (6, .ptr s6), (7, .int .i64 s7)]) [[.int .i64 b0_0, .str b0_1, .float .f64 b0_2, .int .i64 b0_3]] G) (fun (s5 : Int) (s6 : Option GA) (s7 : Int) (b0_0 : Int) (b0_1 : List UInt8) (b0_2 : Nat) (b0_3 : Int) (G : GH) => k (.exit 0) (mkE 71 [(5, .int .i64 s5), (6, .ptr s6), (7, .int .i64 s7)]) [[.int .i64 b0_0, .str b0_1, .float .f64 b0_2, .int .i64 b0_3]] G) s0 s5 s6 s7 s51 b0_0 b0_1 b0_2 b0_3 G := by kernel_rfl

theorem L5_3_eq {R : Type} (O : Ora R) (fuel : Nat) (k : Ex → List IV → List (List IV) → GH → Option R) :
  (fun (s0 : List UInt8) (s5 : Int) (s6 : Option GA) (s7 : Int) (b0_0 : Int) (b0_1 : List UInt8) (b0_2 : Nat) (b0_3 : Int) (G : GH) => stepN fuel (loopD Try.prog O lo5 fuel (nav (Try.f5.body.getD .skip) [1, 1, 1, 1, 1, 1, 1, 0, 1, 0, 0, 1, 0, 0, 1, 0]) 59 (mkE 71 [(0, .str s0), (4, .loc 0 0), (5, .int .i64 s5), (6, .ptr s6), (7, .int .i64 s7)]) [[.int .i64 b0_0, .str b0_1, .float .f64 b0_2, .int .i64 b0_3]] G (contC Try.prog O lo5 fuel (nav (Try.f5.body.getD .skip) [1, 1, 1, 1, 1, 1, 1, 0, 1, 0, 0]) [1, 0, 0, 1, 0] (kpD lo5 40 1 k)))) = L5_3 O fuel (fun (s2 : Bool) (b0_0 : Int) (b0_1 : List UInt8) (b0_2 : Nat) (b0_3 : Int) (G : GH) => k .ret (mkE 71 [(2, .bool s2)]) [[.int .i64 b0_0, .str b0_1, .float .f64 b0_2, .int .i64 b0_3]] G) (fun (s0 : List UInt8) (s5 : Int) (s6 : Option GA) (s7 : Int) (b0_0 : Int) (b0_1 : List UInt8) (b0_2 : Nat) (b0_3 : Int) (G : GH) => k .normal (mkE 71 [(0, .str s0), (4, .loc 0 0), (5, .int .i64 s5), (6, .ptr s6), (7, .int .i64 s7)]) [[.int .i64 b0_0, .str b0_1, .float .f64 b0_2, .int .i64 b0_3]] G) (fun (s5 : Int) (s6 : Option GA) (s7 : Int) (b0_0 : Int) (b0_1 : List UInt8) (b0_2 : Nat) (b0_3 : Int) (G : GH) => k (.exit 0) (mkE 71 [(5, .int .i64 s5), (6, .ptr s6), (7, .int .i64 s7)]) [[.int .i64 b0_0, .str b0_1, .float .f64 b0_2, .int .i64 b0_3]] G) := by
  funext s0 s5 s6 s7 b0_0 b0_1 b0_2 b0_3 G
  simp only [L5_3, l5_3_eq, a5_3N_raw]

def L5_2 {R : Type} (O : Ora R) (fuel : Nat) (Kret : Bool → Int → List UInt8 → Nat → Int → GH → Option R) (KN : List UInt8 → Int → Option GA → Int → Int → List UInt8 → Nat → Int → GH → Option R) (K0 : Int → Option GA → Int → Int → List UInt8 → Nat → Int → GH → Option R) : List UInt8 → Int → Option GA → Int → Int → List UInt8 → Nat → Int → GH → Option R := fun (s0 : List UInt8) (s5 : Int) (s6 : Option GA) (s7 : Int) (b0_0 : Int) (b0_1 : List UInt8) (b0_2 : Nat) (b0_3 : Int) G =>
  stepN fuel (l5_2 O (a5_2N O Kret KN K0 (L5_3 O fuel Kret KN K0)) (a5_20 O Kret KN K0) s0 s5 s6 s7 b0_0 b0_1 b0_2 b0_3 G)

theorem a5_2N_raw {R : Type} (O : Ora R) (fuel : Nat) (s0 : List UInt8) (s6 : Option GA) (s7 : Int) (b0_0 : Int) (b0_1 : List UInt8) (b0_2 : Nat) (b0_3 : Int) (G : GH) (k : Ex → List IV → List (List IV) → GH → Option R) :
  contC Try.prog O lo5 fuel (nav (Try.f5.body.getD .skip) [1, 1, 1, 1, 1, 1, 1, 0, 1, 0, 0]) [0] (kpD lo5 40 1 k) .normal (mkE 71 [(0, .str s0), (4, .loc 0 0), (6, .ptr s6), (7, .int .i64 s7)]) [[.int .i64 b0_0, .str b0_1, .float .f64 b0_2, .int .i64 b0_3]] G =
  a5_2N O (fun (s2 : Bool) (b0_0 : Int) (b0_1 : List UInt8) (b0_2 : Nat) (b0_3 : Int) (G : GH) => k .ret (mkE 71 [(2, .bool s2)]) [[.int .i64 b0_0, .str b0_1, .float .f64 b0_2, .int .i64 b0_3]] G) (fun (s0 : List UInt8) (s5 : Int) (s6 : Option GA) (s7 : Int) (b0_0 : Int) (b0_1 : List UInt8) (b0_2 : Nat) (b0_3 : Int) (G : GH) => k .normal (mkE 71 [(0, .str s0), (4, .loc 0 0), (5, .int .i64 s5), (6, .ptr s6), (7, .int .i64 s7)]) [[.int .i64 b0_0, .str b0_1, .float .f64 b0_2, .int .i64 b0_3]] G) (fun (s5 : Int) (s6 : Option GA) (s7 : Int) (b0_0 : Int) (b0_1 : List UInt8) (b0_2 : Nat) (b0_3 : Int) (G : GH) => k (.exit 0) (mkE 71 [(5, .int .i64 s5), (6, .ptr s6), (7, .int .i64 s7)]) [[.int .i64 b0_0, .str b0_1, .float .f64 b0_2, .int .i64 b0_3]] G) (fun (s0 : List UInt8) (s5 : Int) (s6 : Option GA) (s7 : Int) (b0_0 : Int) (b0_1 : List UInt8) (b0_2 : Nat) (b0_3 : Int) (G : GH) => stepN fuel (loopD Try.prog O lo5 fuel (nav (Try.f5.body.getD .skip) [1, 1, 1, 1, 1, 1, 1, 0, 1, 0, 0, 1, 0, 0, 1, 0]) 59 (mkE 71 [(0, .str s0), (4, .loc 0 0), (5, .int .i64 s5), (6, .ptr s6), (7, .int .i64 s7)]) [[.int .i64 b0_0, .str b0_1, .float .f64 b0_2, .int .i64 b0_3]] G (contC Try.prog O lo5 fuel (nav (Try.f5.body.getD .skip) [1, 1, 1, 1, 1, 1, 1, 0, 1, 0, 0]) [1, 0, 0, 1, 0] (kpD lo5 40 1 k)))) s0 s6 s7 b0_0 b0_1 b0_2 b0_3 G := by kernel_rfl

theorem a5_20_raw {R : Type} (O : Ora R) (fuel : Nat) (s5 : Int) (s6 : Option GA) (s7 : Int) (b0_0 : Int) (b0_1 : List UInt8) (b0_2 : Nat) (b0_3 : Int) (G : GH) (k : Ex → List IV → List (List IV) → GH → Option R) :
  contC Try.prog O lo5 fuel (nav (Try.f5.body.getD .skip) [1, 1, 1, 1, 1, 1, 1, 0, 1, 0, 0]) [0] (kpD lo5 40 1 k) (.exit 0) (mkE 71 [(5, .int .i64 s5), (6, .ptr s6), (7, .int .i64 s7)]) [[.int .i64 b0_0, .str b0_1, .float .f64 b0_2, .int .i64 b0_3]] G =
  a5_20 O (fun (s2 : Bool) (b0_0 : Int) (b0_1 : List UInt8) (b0_2 : Nat) (b0_3 : Int) (G : GH) => k .ret (mkE 71 [(2, .bool s2)]) [[.int .i64 b0_0, .str b0_1, .float .f64 b0_2, .int .i64 b0_3]] G) (fun (s0 : List UInt8) (s5 : Int) (s6 : Option GA) (s7 : Int) (b0_0 : Int) (b0_1 : List UInt8) (b0_2 : Nat) (b0_3 : Int) (G : GH) => k .normal (mkE 71 [(0, .str s0), (4, .loc 0 0), (5, .int .i64 s5), (6, .ptr s6), (7, .int .i64 s7)]) [[.int .i64 b0_0, .str b0_1, .float .f64 b0_2, .int .i64 b0_3]] G) (fun (s5 : Int) (s6 : Option GA) (s7 : Int) (b0_0 : Int) (b0_1 : List UInt8) (b0_2 : Nat) (b0_3 : Int) (G : GH) => k (.exit 0) (mkE 71 [(5, .int .i64 s5), (6, .ptr s6), (7, .int .i64 s7)]) [[.int .i64 b0_0, .str b0_1, .float .f64 b0_2, .int .i64 b0_3]] G) s5 s6 s7 b0_0 b0_1 b0_2 b0_3 G := by kernel_rfl

theorem L5_2_eq {R : Type} (O : Ora R) (fuel : Nat) (k : Ex → List IV → List (List IV) → GH → Option R) :
  (fun (s0 : List UInt8) (s5 : Int) (s6 : Option GA) (s7 : Int) (b0_0 : Int) (b0_1 : List UInt8) (b0_2 : Nat) (b0_3 : Int) (G : GH) => stepN fuel (loopD Try.prog O lo5 fuel (nav (Try.f5.body.getD .skip) [1, 1, 1, 1, 1, 1, 1, 0, 1, 0, 0, 0]) 51 (mkE 71 [(0, .str s0), (4, .loc 0 0), (5, .int .i64 s5), (6, .ptr s6), (7, .int .i64 s7)]) [[.int .i64 b0_0, .str b0_1, .float .f64 b0_2, .int .i64 b0_3]] G (contC Try.prog O lo5 fuel (nav (Try.f5.body.getD .skip) [1, 1, 1, 1, 1, 1, 1, 0, 1, 0, 0]) [0] (kpD lo5 40 1 k)))) = L5_2 O fuel (fun (s2 : Bool) (b0_0 : Int) (b0_1 : List UInt8) (b0_2 : Nat) (b0_3 : Int) (G : GH) => k .ret (mkE 71 [(2, .bool s2)]) [[.int .i64 b0_0, .str b0_1, .float .f64 b0_2, .int .i64 b0_3]] G) (fun (s0 : List UInt8) (s5 : Int) (s6 : Option GA) (s7 : Int) (b0_0 : Int) (b0_1 : List UInt8) (b0_2 : Nat) (b0_3 : Int) (G : GH) => k .normal (mkE 71 [(0, .str s0), (4, .loc 0 0), (5, .int .i64 s5), (6, .ptr s6), (7, .int .i64 s7)]) [[.int .i64 b0_0, .str b0_1, .float .f64 b0_2, .int .i64 b0_3]] G) (fun (s5 : Int) (s6 : Option GA) (s7 : Int) (b0_0 : Int) (b0_1 : List UInt8) (b0_2 : Nat) (b0_3 : Int) (G : GH) => k (.exit 0) (mkE 71 [(5, .int .i64 s5), (6, .ptr s6), (7, .int .i64 s7)]) [[.int .i64 b0_0, .str b0_1, .float .f64 b0_2, .int .i64 b0_3]] G) := by
  funext s0 s5 s6 s7 b0_0 b0_1 b0_2 b0_3 G
  simp only [L5_2, l5_2_eq]
  refine congrArg (stepN fuel) ?_
  refine congrFun (congrFun (congrFun (congrFun (congrFun (congrFun (congrFun (congrFun (congrFun ?_ _) _) _) _) _) _) _) _) _
  refine congr (congrArg (l5_2 O) ?_) ?_
  · funext s0 s6 s7 b0_0 b0_1 b0_2 b0_3 G
    rw [← L5_3_eq]
    exact (a5_2N_raw O fuel s0 s6 s7 b0_0 b0_1 b0_2 b0_3 G k)
  · funext s5 s6 s7 b0_0 b0_1 b0_2 b0_3 G
    exact (a5_20_raw O fuel s5 s6 s7 b0_0 b0_1 b0_2 b0_3 G k)

def l5_1 {R : Type} (O : Ora R) (fuel : Nat) (Kret : Bool → Int → List UInt8 → Nat → Int → GH → Option R) (K0 : Int → Option GA → Int → Int → List UInt8 → Nat → Int → GH → Option R) : Nat → List UInt8 → Int → Option GA → Int → Int → List UInt8 → Nat → Int → GH → Option R
  | 0, _, _, _, _, _, _, _, _, _ => none
  | n + 1, s0, s5, s6, s7, b0_0, b0_1, b0_2, b0_3, G => u5_1 O Kret (l5_1 O fuel Kret K0 n) K0 (L5_2 O fuel Kret (l5_1 O fuel Kret K0 n) K0) s0 s5 s6 s7 b0_0 b0_1 b0_2 b0_3 G

theorem u5_1_raw {R : Type} (O : Ora R) (fuel : Nat) (s0 : List UInt8) (s5 : Int) (s6 : Option GA) (s7 : Int) (b0_0 : Int) (b0_1 : List UInt8) (b0_2 : Nat) (b0_3 : Int) (G : GH) (k : Ex → List IV → List (List IV) → GH → Option R) :
  loopD Try.prog O lo5 fuel (nav (Try.f5.body.getD .skip) [1, 1, 1, 1, 1, 1, 1, 0, 1, 0, 0]) 40 (mkE 71 [(0, .str s0), (4, .loc 0 0), (5, .int .i64 s5), (6, .ptr s6), (7, .int .i64 s7)]) [[.int .i64 b0_0, .str b0_1, .float .f64 b0_2, .int .i64 b0_3]] G k =
  u5_1 O (fun (s2 : Bool) (b0_0 : Int) (b0_1 : List UInt8) (b0_2 : Nat) (b0_3 : Int) (G : GH) => k .ret (mkE 71 [(2, .bool s2)]) [[.int .i64 b0_0, .str b0_1, .float .f64 b0_2, .int .i64 b0_3]] G) (fun (s0 : List UInt8) (s5 : Int) (s6 : Option GA) (s7 : Int) (b0_0 : Int) (b0_1 : List UInt8) (b0_2 : Nat) (b0_3 : Int) (G : GH) => k .normal (mkE 71 [(0, .str s0), (4, .loc 0 0), (5, .int .i64 s5), (6, .ptr s6), (7, .int .i64 s7)]) [[.int .i64 b0_0, .str b0_1, .float .f64 b0_2, .int .i64 b0_3]] G) (fun (s5 : Int) (s6 : Option GA) (s7 : Int) (b0_0 : Int) (b0_1 : List UInt8) (b0_2 : Nat) (b0_3 : Int) (G : GH) => k (.exit 0) (mkE 71 [(5, .int .i64 s5), (6, .ptr s6), (7, .int .i64 s7)]) [[.int .i64 b0_0, .str b0_1, .float .f64 b0_2, .int .i64 b0_3]] G) (fun (s0 : List UInt8) (s5 : Int) (s6 : Option GA) (s7 : Int) (b0_0 : Int) (b0_1 : List UInt8) (b0_2 : Nat) (b0_3 : Int) (G : GH) => stepN fuel (loopD Try.prog O lo5 fuel (nav (Try.f5.body.getD .skip) [1, 1, 1, 1, 1, 1, 1, 0, 1, 0, 0, 0]) 51 (mkE 71 [(0, .str s0), (4, .loc 0 0), (5, .int .i64 s5), (6, .ptr s6), (7, .int .i64 s7)]) [[.int .i64 b0_0, .str b0_1, .float .f64 b0_2, .int .i64 b0_3]] G (contC Try.prog O lo5 fuel (nav (Try.f5.body.getD .skip) [1, 1, 1, 1, 1, 1, 1, 0, 1, 0, 0]) [0] (kpD lo5 40 1 k)))) s0 s5 s6 s7 b0_0 b0_1 b0_2 b0_3 G := by kernel_rfl

theorem l5_1_eq {R : Type} (O : Ora R) (fuel : Nat) (k : Ex → List IV → List (List IV) → GH → Option R) : ∀ (n : Nat) (s0 : List UInt8) (s5 : Int) (s6 : Option GA) (s7 : Int) (b0_0 : Int) (b0_1 : List UInt8) (b0_2 : Nat) (b0_3 : Int) (G : GH),
  loopN (loopD Try.prog O lo5 fuel (nav (Try.f5.body.getD .skip) [1, 1, 1, 1, 1, 1, 1, 0, 1, 0, 0]) 40) n (mkE 71 [(0, .str s0), (4, .loc 0 0), (5, .int .i64 s5), (6, .ptr s6), (7, .int .i64 s7)]) [[.int .i64 b0_0, .str b0_1, .float .f64 b0_2, .int .i64 b0_3]] G k = l5_1 O fuel (fun (s2 : Bool) (b0_0 : Int) (b0_1 : List UInt8) (b0_2 : Nat) (b0_3 : Int) (G : GH) => k .ret (mkE 71 [(2, .bool s2)]) [[.int .i64 b0_0, .str b0_1, .float .f64 b0_2, .int .i64 b0_3]] G) (fun (s5 : Int) (s6 : Option GA) (s7 : Int) (b0_0 : Int) (b0_1 : List UInt8) (b0_2 : Nat) (b0_3 : Int) (G : GH) => k (.exit 0) (mkE 71 [(5, .int .i64 s5), (6, .ptr s6), (7, .int .i64 s7)]) [[.int .i64 b0_0, .str b0_1, .float .f64 b0_2, .int .i64 b0_3]] G) n s0 s5 s6 s7 b0_0 b0_1 b0_2 b0_3 G := by
  intro n
  induction n with
  | zero => intros; rfl
  | succ n ih =>
    intros
    rw [loopN_succ, u5_1_raw]
    simp only [l5_1, loopK_normal, loopK_exit, loopK_ret, ih, L5_2_eq]

def u5 {R : Type} (O : Ora R) (k : IV → GH → Option R) (L0 : List UInt8 → Option GA → Int → Int → List UInt8 → Nat → Int → GH → Option R) (p0 : List UInt8) (G : GH) : Option R :=
  O 8 [] G fun v1 G2 =>
  (ivBool v1).bind fun x3 =>
  bif (!x3) then
  k (.bool false) G2
  else
  O 15 [.ptr none] G2 fun v4 G5 =>
  (ivTup 2 v4).bind fun c6 =>
  (ivAgg 4 (c6.getD 0 undefI)).bind fun c7 =>
  (ivInt .i64 (c7.getD 0 undefI)).bind fun x8 =>
  (ivStr (c7.getD 1 undefI)).bind fun x9 =>
  (ivFloat .f64 (c7.getD 2 undefI)).bind fun x10 =>
  (ivInt .i64 (c7.getD 3 undefI)).bind fun x11 =>
  (ivInt .i64 (c6.getD 1 undefI)).bind fun x12 =>
  L0 p0 none x12 x8 x9 x10 x11 G5

def a5_0ret {R : Type} (O : Ora R) (k : IV → GH → Option R) (s2 : Bool) (b0_0 : Int) (b0_1 : List UInt8) (b0_2 : Nat) (b0_3 : Int) (G : GH) : Option R :=
  k (.bool s2) G

def a5_0N {R : Type} (O : Ora R) (k : IV → GH → Option R) (L1 : List UInt8 → Int → Option GA → Int → Int → List UInt8 → Nat → Int → GH → Option R) (s0 : List UInt8) (b0_0 : Int) (b0_1 : List UInt8) (b0_2 : Nat) (b0_3 : Int) (G : GH) : Option R :=
  bif decide (s0.length + ([32, 59] : List UInt8).length ≤ roomS) then
  O 12 [.str (s0 ++ ([32, 59] : List UInt8))] G fun v1 G2 =>
  (ivPtr v1).bind fun x3 =>
  L1 s0 (0 : Int) x3 (0 : Int) b0_0 b0_1 b0_2 b0_3 G2
  else none

def a5_1ret {R : Type} (O : Ora R) (k : IV → GH → Option R) (s2 : Bool) (b0_0 : Int) (b0_1 : List UInt8) (b0_2 : Nat) (b0_3 : Int) (G : GH) : Option R :=
  k (.bool s2) G

def a5_10 {R : Type} (O : Ora R) (k : IV → GH → Option R) (s5 : Int) (s6 : Option GA) (s7 : Int) (b0_0 : Int) (b0_1 : List UInt8) (b0_2 : Nat) (b0_3 : Int) (G : GH) : Option R :=
  O 15 [.ptr s6] G fun v1 G2 =>
  (ivTup 2 v1).bind fun c3 =>
  (ivAgg 4 (c3.getD 0 undefI)).bind fun c4 =>
  (ivInt .i64 (c4.getD 0 undefI)).bind fun x5 =>
  (ivStr (c4.getD 1 undefI)).bind fun x6 =>
  (ivFloat .f64 (c4.getD 2 undefI)).bind fun x7 =>
  (ivInt .i64 (c4.getD 3 undefI)).bind fun x8 =>
  (ivInt .i64 (c3.getD 1 undefI)).bind fun x9 =>
  bif (decide (s7 < (20000 : Int))) then
  bif ((x5 == (0 : Int)) && ((x6 == ([] : List UInt8)) && ((feq .f64 x7 (0 : Nat)) && ((x8 == (0 : Int)) && true)))) then
  k (.bool (x9 == s5)) G2
  else
  k (.bool false) G2
  else
  k (.bool false) G2

def L5_1 {R : Type} (O : Ora R) (fuel : Nat) (k : IV → GH → Option R) : List UInt8 → Int → Option GA → Int → Int → List UInt8 → Nat → Int → GH → Option R := fun (s0 : List UInt8) (s5 : Int) (s6 : Option GA) (s7 : Int) (b0_0 : Int) (b0_1 : List UInt8) (b0_2 : Nat) (b0_3 : Int) G =>
  l5_1 O fuel (a5_1ret O k) (a5_10 O k) fuel s0 s5 s6 s7 b0_0 b0_1 b0_2 b0_3 G

theorem a5_1ret_raw {R : Type} (O : Ora R) (fuel : Nat) (s2 : Bool) (b0_0 : Int) (b0_1 : List UInt8) (b0_2 : Nat) (b0_3 : Int) (G : GH) (k : IV → GH → Option R) :
  contC Try.prog O lo5 fuel (Try.f5.body.getD .skip) [1, 1, 1, 1, 1, 1, 1, 0, 1, 0] (fun e env F G => match e with | .exit _ => none | _ => resC Try.prog Try.f5 env F G k) .ret (mkE 71 [(2, .bool s2)]) [[.int .i64 b0_0, .str b0_1, .float .f64 b0_2, .int .i64 b0_3]] G =
  a5_1ret O k s2 b0_0 b0_1 b0_2 b0_3 G := by kernel_rfl

theorem a5_10_raw {R : Type} (O : Ora R) (fuel : Nat) (s5 : Int) (s6 : Option GA) (s7 : Int) (b0_0 : Int) (b0_1 : List UInt8) (b0_2 : Nat) (b0_3 : Int) (G : GH) (k : IV → GH → Option R) :
  contC Try.prog O lo5 fuel (Try.f5.body.getD .skip) [1, 1, 1, 1, 1, 1, 1, 0, 1, 0] (fun e env F G => match e with | .exit _ => none | _ => resC Try.prog Try.f5 env F G k) (.exit 0) (mkE 71 [(5, .int .i64 s5), (6, .ptr s6), (7, .int .i64 s7)]) [[.int .i64 b0_0, .str b0_1, .float .f64 b0_2, .int .i64 b0_3]] G =
  a5_10 O k s5 s6 s7 b0_0 b0_1 b0_2 b0_3 G := by kernel_rfl

theorem L5_1_eq {R : Type} (O : Ora R) (fuel : Nat) (k : IV → GH → Option R) :
  (fun (s0 : List UInt8) (s5 : Int) (s6 : Option GA) (s7 : Int) (b0_0 : Int) (b0_1 : List UInt8) (b0_2 : Nat) (b0_3 : Int) (G : GH) => loopN (loopD Try.prog O lo5 fuel (nav (Try.f5.body.getD .skip) [1, 1, 1, 1, 1, 1, 1, 0, 1, 0, 0]) 40) fuel (mkE 71 [(0, .str s0), (4, .loc 0 0), (5, .int .i64 s5), (6, .ptr s6), (7, .int .i64 s7)]) [[.int .i64 b0_0, .str b0_1, .float .f64 b0_2, .int .i64 b0_3]] G (contC Try.prog O lo5 fuel (Try.f5.body.getD .skip) [1, 1, 1, 1, 1, 1, 1, 0, 1, 0] (fun e env F G => match e with | .exit _ => none | _ => resC Try.prog Try.f5 env F G k))) = L5_1 O fuel k := by
  funext s0 s5 s6 s7 b0_0 b0_1 b0_2 b0_3 G
  simp only [L5_1, l5_1_eq, a5_1ret_raw, a5_10_raw]

def L5_0 {R : Type} (O : Ora R) (fuel : Nat) (k : IV → GH → Option R) : List UInt8 → Option GA → Int → Int → List UInt8 → Nat → Int → GH → Option R := fun (s0 : List UInt8) (s3 : Option GA) (s5 : Int) (b0_0 : Int) (b0_1 : List UInt8) (b0_2 : Nat) (b0_3 : Int) G =>
  stepN fuel (l5_0 O (a5_0ret O k) (a5_0N O k (L5_1 O fuel k)) s0 s3 s5 b0_0 b0_1 b0_2 b0_3 G)

theorem a5_0ret_raw {R : Type} (O : Ora R) (fuel : Nat) (s2 : Bool) (b0_0 : Int) (b0_1 : List UInt8) (b0_2 : Nat) (b0_3 : Int) (G : GH) (k : IV → GH → Option R) :
  contC Try.prog O lo5 fuel (Try.f5.body.getD .skip) [1, 1, 1, 1, 0] (fun e env F G => match e with | .exit _ => none | _ => resC Try.prog Try.f5 env F G k) .ret (mkE 71 [(2, .bool s2)]) [[.int .i64 b0_0, .str b0_1, .float .f64 b0_2, .int .i64 b0_3]] G =
  a5_0ret O k s2 b0_0 b0_1 b0_2 b0_3 G := by kernel_rfl

theorem a5_0N_raw {R : Type} (O : Ora R) (fuel : Nat) (s0 : List UInt8) (b0_0 : Int) (b0_1 : List UInt8) (b0_2 : Nat) (b0_3 : Int) (G : GH) (k : IV → GH → Option R) :
  contC Try.prog O lo5 fuel (Try.f5.body.getD .skip) [1, 1, 1, 1, 0] (fun e env F G => match e with | .exit _ => none | _ => resC Try.prog Try.f5 env F G k) .normal (mkE 71 [(0, .str s0), (4, .loc 0 0)]) [[.int .i64 b0_0, .str b0_1, .float .f64 b0_2, .int .i64 b0_3]] G =
  a5_0N O k (fun (s0 : List UInt8) (s5 : Int) (s6 : Option GA) (s7 : Int) (b0_0 : Int) (b0_1 : List UInt8) (b0_2 : Nat) (b0_3 : Int) (G : GH) => loopN (loopD Try.prog O lo5 fuel (nav (Try.f5.body.getD .skip) [1, 1, 1, 1, 1, 1, 1, 0, 1, 0, 0]) 40) fuel (mkE 71 [(0, .str s0), (4, .loc 0 0), (5, .int .i64 s5), (6, .ptr s6), (7, .int .i64 s7)]) [[.int .i64 b0_0, .str b0_1, .float .f64 b0_2, .int .i64 b0_3]] G (contC Try.prog O lo5 fuel (Try.f5.body.getD .skip) [1, 1, 1, 1, 1, 1, 1, 0, 1, 0] (fun e env F G => match e with | .exit _ => none | _ => resC Try.prog Try.f5 env F G k))) s0 b0_0 b0_1 b0_2 b0_3 G := by kernel_rfl

theorem L5_0_eq {R : Type} (O : Ora R) (fuel : Nat) (k : IV → GH → Option R) :
  (fun (s0 : List UInt8) (s3 : Option GA) (s5 : Int) (b0_0 : Int) (b0_1 : List UInt8) (b0_2 : Nat) (b0_3 : Int) (G : GH) => stepN fuel (loopD Try.prog O lo5 fuel (nav (Try.f5.body.getD .skip) [1, 1, 1, 1, 0]) 31 (mkE 71 [(0, .str s0), (3, .ptr s3), (4, .loc 0 0), (5, .int .i64 s5)]) [[.int .i64 b0_0, .str b0_1, .float .f64 b0_2, .int .i64 b0_3]] G (contC Try.prog O lo5 fuel (Try.f5.body.getD .skip) [1, 1, 1, 1, 0] (fun e env F G => match e with | .exit _ => none | _ => resC Try.prog Try.f5 env F G k)))) = L5_0 O fuel k := by
  funext s0 s3 s5 b0_0 b0_1 b0_2 b0_3 G
  simp only [L5_0, l5_0_eq, a5_0ret_raw, a5_0N_raw, L5_1_eq]

theorem e5_raw {R : Type} (O : Ora R) (fuel : Nat) (p0 : List UInt8) (G : GH) (k : IV → GH → Option R) :
  bodyC Try.prog O lo5 fuel Try.f5 [.str p0] G k =
  u5 O k (fun (s0 : List UInt8) (s3 : Option GA) (s5 : Int) (b0_0 : Int) (b0_1 : List UInt8) (b0_2 : Nat) (b0_3 : Int) (G : GH) => stepN fuel (loopD Try.prog O lo5 fuel (nav (Try.f5.body.getD .skip) [1, 1, 1, 1, 0]) 31 (mkE 71 [(0, .str s0), (3, .ptr s3), (4, .loc 0 0), (5, .int .i64 s5)]) [[.int .i64 b0_0, .str b0_1, .float .f64 b0_2, .int .i64 b0_3]] G (contC Try.prog O lo5 fuel (Try.f5.body.getD .skip) [1, 1, 1, 1, 0] (fun e env F G => match e with | .exit _ => none | _ => resC Try.prog Try.f5 env F G k)))) p0 G := by kernel_rfl

theorem e5 {R : Type} (O : Ora R) (fuel : Nat) (p0 : List UInt8) (G : GH) (k : IV → GH → Option R) :
  bodyC Try.prog O lo5 fuel Try.f5 [.str p0] G k =
  u5 O k (L5_0 O fuel k) p0 G := by
  rw [e5_raw, L5_0_eq]

theorem r5 {R : Type} (fuel n : Nat) (p0 : List UInt8) (G : GH) (k : IV → GH → Option R) :
  runL Try.prog lexLib lo0 fuel (n + 1) 5 [.str p0] G k = bodyC Try.prog (runL Try.prog lexLib lo0 fuel n) lo5 fuel Try.f5 [.str p0] G k := runL_body Try.func5 rfl rfl rfl

end Go.LI.Lex

/- What the interpreter gives for ReadPPM and what it calls (written by door.py). -/
import Derived.Test.YtmhoddmenfondaaDoorDoorA
namespace Go.LI.Door
open Go.Proofs.YtmhoddmenfondaaDoor Go Go.Proofs Go.LI
set_option maxRecDepth 100000
set_option linter.unusedVariables false
set_option linter.unusedSimpArgs false
/-! ### internal/stringslite.IndexByte -/
theorem e_internal_stringslite_IndexByte {R : Type} (O : Ora R) (fuel : Nat) (p0 : List UInt8) (p1 : Int) (G : GH) (k : IV → GH → Option R) :
  bodyC Tryd.prog O [777777] fuel Tryd.f65 [.str p0, .int .u8 p1] G k =
  O fn_internal_bytealg_IndexByteString [.str p0, .int .u8 p1] G fun v1 G2 =>
  (ivInt .i64 v1).bind fun x3 =>
  k (.int .i64 x3) G2 := by kernel_rfl

theorem r_internal_stringslite_IndexByte {R : Type} (fuel n : Nat) (p0 : List UInt8) (p1 : Int) (G : GH) (k : IV → GH → Option R) :
  runC Tryd.prog lo0 fuel (n + 1) 65 [.str p0, .int .u8 p1] G k = bodyC Tryd.prog (runC Tryd.prog lo0 fuel n) [777777] fuel Tryd.f65 [.str p0, .int .u8 p1] G k := run_body Tryd.func65 rfl rfl

/-! ### internal/stringslite.Index -/
def u_internal_stringslite_Index_0 {R : Type} (O : Ora R) (KN : List UInt8 → List UInt8 → Int → Bool → GH → Option R) (s0 s1 : List UInt8) (s5 : Int) (G : GH) : Option R :=
  bif (s5 == (0 : Int)) then
  KN s0 s1 s5 true G
  else
  KN s0 s1 s5 (s1 == s0) G

def l_internal_stringslite_Index_0 {R : Type} (O : Ora R) (KN : List UInt8 → List UInt8 → Int → Bool → GH → Option R) : List UInt8 → List UInt8 → Int → GH → Option R := fun s0 s1 s5 G => u_internal_stringslite_Index_0 O KN s0 s1 s5 G

theorem u_internal_stringslite_Index_0_raw {R : Type} (O : Ora R) (fuel : Nat) (s0 s1 : List UInt8) (s5 : Int) (G : GH) (k : Ex → List IV → List (List IV) → GH → Option R) :
  loopD Tryd.prog O lo55 fuel (nav (Tryd.f55.body.getD .skip) [1, 1, 0, 0, 0]) 15 (mkE 143 [(0, .str s0), (1, .str s1), (5, .int .i64 s5)]) [] G k =
  u_internal_stringslite_Index_0 O (fun s0 s1 s5 s16 G => k .normal (mkE 143 [(0, .str s0), (1, .str s1), (5, .int .i64 s5), (16, .bool s16)]) [] G) s0 s1 s5 G := by kernel_rfl

theorem l_internal_stringslite_Index_0_eq {R : Type} (O : Ora R) (fuel : Nat) (k : Ex → List IV → List (List IV) → GH → Option R) : ∀ (s0 s1 : List UInt8) (s5 : Int) (G : GH),
  loopD Tryd.prog O lo55 fuel (nav (Tryd.f55.body.getD .skip) [1, 1, 0, 0, 0]) 15 (mkE 143 [(0, .str s0), (1, .str s1), (5, .int .i64 s5)]) [] G k = l_internal_stringslite_Index_0 O (fun s0 s1 s5 s16 G => k .normal (mkE 143 [(0, .str s0), (1, .str s1), (5, .int .i64 s5), (16, .bool s16)]) [] G) s0 s1 s5 G := by
  intros
  rw [u_internal_stringslite_Index_0_raw]
  simp only [l_internal_stringslite_Index_0]

def u_internal_stringslite_Index_1 {R : Type} (O : Ora R)  (s0 s1 : List UInt8) (s5 : Int) (G : GH) : Option R :=
  none

def l_internal_stringslite_Index_1 {R : Type} (O : Ora R)  : List UInt8 → List UInt8 → Int → GH → Option R := fun s0 s1 s5 G => u_internal_stringslite_Index_1 O  s0 s1 s5 G

theorem u_internal_stringslite_Index_1_raw {R : Type} (O : Ora R) (fuel : Nat) (s0 s1 : List UInt8) (s5 : Int) (G : GH) (k : Ex → List IV → List (List IV) → GH → Option R) :
  loopD Tryd.prog O lo55 fuel (nav (Tryd.f55.body.getD .skip) [1, 1, 0, 0, 1, 1, 1, 1, 1, 1, 0]) 39 (mkE 143 [(0, .str s0), (1, .str s1), (5, .int .i64 s5)]) [] G k =
  u_internal_stringslite_Index_1 O  s0 s1 s5 G := by kernel_rfl

theorem l_internal_stringslite_Index_1_eq {R : Type} (O : Ora R) (fuel : Nat) (k : Ex → List IV → List (List IV) → GH → Option R) : ∀ (s0 s1 : List UInt8) (s5 : Int) (G : GH),
  loopD Tryd.prog O lo55 fuel (nav (Tryd.f55.body.getD .skip) [1, 1, 0, 0, 1, 1, 1, 1, 1, 1, 0]) 39 (mkE 143 [(0, .str s0), (1, .str s1), (5, .int .i64 s5)]) [] G k = l_internal_stringslite_Index_1 O  s0 s1 s5 G := by
  intros
  rw [u_internal_stringslite_Index_1_raw]
  simp only [l_internal_stringslite_Index_1]

def u_internal_stringslite_Index {R : Type} (O : Ora R) (k : IV → GH → Option R) (L0 : List UInt8 → List UInt8 → Int → GH → Option R) (p0 p1 : List UInt8) (G : GH) : Option R :=
  L0 p0 p1 (p1.length : Int) G

def a_internal_stringslite_Index_0N {R : Type} (O : Ora R) (k : IV → GH → Option R) (L1 : List UInt8 → List UInt8 → Int → GH → Option R) (s0 s1 : List UInt8) (s5 : Int) (s16 : Bool) (G : GH) : Option R :=
  bif s16 then
  k (.int .i64 (0 : Int)) G
  else
  bif (s5 == (1 : Int)) then
  bif decide (0 ≤ (0 : Int) ∧ (0 : Int) < (s1.length : Int)) then
  O fn_internal_stringslite_IndexByte [.str s0, .int .u8 ((s1.getD (Int.toNat (0 : Int)) 0).toNat : Int)] G fun v1 G2 =>
  (ivInt .i64 v1).bind fun x3 =>
  k (.int .i64 x3) G2
  else none
  else
  bif (decide (s5 ≥ (s0.length : Int))) then
  k (.int .i64 ((-1 : Int))) G
  else
  L1 s0 s1 s5 G

def L_internal_stringslite_Index_1 {R : Type} (O : Ora R) (fuel : Nat) (k : IV → GH → Option R) : List UInt8 → List UInt8 → Int → GH → Option R := fun s0 s1 s5 G =>
  stepN fuel (l_internal_stringslite_Index_1 O  s0 s1 s5 G)

theorem L_internal_stringslite_Index_1_eq {R : Type} (O : Ora R) (fuel : Nat) (k : IV → GH → Option R) :
  (fun (s0 s1 : List UInt8) (s5 : Int) (G : GH) => stepN fuel (loopD Tryd.prog O lo55 fuel (nav (Tryd.f55.body.getD .skip) [1, 1, 0, 0, 1, 1, 1, 1, 1, 1, 0]) 39 (mkE 143 [(0, .str s0), (1, .str s1), (5, .int .i64 s5)]) [] G (contC Tryd.prog O lo55 fuel (Tryd.f55.body.getD .skip) [1, 1, 0, 0, 1, 1, 1, 1, 1, 1, 0] (fun e env F G => match e with | .exit _ => none | _ => resC Tryd.prog Tryd.f55 env F G k)))) = L_internal_stringslite_Index_1 O fuel k := by
  funext s0 s1 s5 G
  simp only [L_internal_stringslite_Index_1, l_internal_stringslite_Index_1_eq]

def L_internal_stringslite_Index_0 {R : Type} (O : Ora R) (fuel : Nat) (k : IV → GH → Option R) : List UInt8 → List UInt8 → Int → GH → Option R := fun s0 s1 s5 G =>
  stepN fuel (l_internal_stringslite_Index_0 O (a_internal_stringslite_Index_0N O k (L_internal_stringslite_Index_1 O fuel k)) s0 s1 s5 G)

theorem a_internal_stringslite_Index_0N_raw {R : Type} (O : Ora R) (fuel : Nat) (s0 s1 : List UInt8) (s5 : Int) (s16 : Bool) (G : GH) (k : IV → GH → Option R) :
  contC Tryd.prog O lo55 fuel (Tryd.f55.body.getD .skip) [1, 1, 0, 0, 0] (fun e env F G => match e with | .exit _ => none | _ => resC Tryd.prog Tryd.f55 env F G k) .normal (mkE 143 [(0, .str s0), (1, .str s1), (5, .int .i64 s5), (16, .bool s16)]) [] G =
  a_internal_stringslite_Index_0N O k (fun s0 s1 s5 G => stepN fuel (loopD Tryd.prog O lo55 fuel (nav (Tryd.f55.body.getD .skip) [1, 1, 0, 0, 1, 1, 1, 1, 1, 1, 0]) 39 (mkE 143 [(0, .str s0), (1, .str s1), (5, .int .i64 s5)]) [] G (contC Tryd.prog O lo55 fuel (Tryd.f55.body.getD .skip) [1, 1, 0, 0, 1, 1, 1, 1, 1, 1, 0] (fun e env F G => match e with | .exit _ => none | _ => resC Tryd.prog Tryd.f55 env F G k)))) s0 s1 s5 s16 G := by kernel_rfl

theorem L_internal_stringslite_Index_0_eq {R : Type} (O : Ora R) (fuel : Nat) (k : IV → GH → Option R) :
  (fun (s0 s1 : List UInt8) (s5 : Int) (G : GH) => stepN fuel (loopD Tryd.prog O lo55 fuel (nav (Tryd.f55.body.getD .skip) [1, 1, 0, 0, 0]) 15 (mkE 143 [(0, .str s0), (1, .str s1), (5, .int .i64 s5)]) [] G (contC Tryd.prog O lo55 fuel (Tryd.f55.body.getD .skip) [1, 1, 0, 0, 0] (fun e env F G => match e with | .exit _ => none | _ => resC Tryd.prog Tryd.f55 env F G k)))) = L_internal_stringslite_Index_0 O fuel k := by
  funext s0 s1 s5 G
  simp only [L_internal_stringslite_Index_0, l_internal_stringslite_Index_0_eq, a_internal_stringslite_Index_0N_raw, L_internal_stringslite_Index_1_eq]

theorem e_internal_stringslite_Index_raw {R : Type} (O : Ora R) (fuel : Nat) (p0 p1 : List UInt8) (G : GH) (k : IV → GH → Option R) :
  bodyC Tryd.prog O lo55 fuel Tryd.f55 [.str p0, .str p1] G k =
  u_internal_stringslite_Index O k (fun s0 s1 s5 G => stepN fuel (loopD Tryd.prog O lo55 fuel (nav (Tryd.f55.body.getD .skip) [1, 1, 0, 0, 0]) 15 (mkE 143 [(0, .str s0), (1, .str s1), (5, .int .i64 s5)]) [] G (contC Tryd.prog O lo55 fuel (Tryd.f55.body.getD .skip) [1, 1, 0, 0, 0] (fun e env F G => match e with | .exit _ => none | _ => resC Tryd.prog Tryd.f55 env F G k)))) p0 p1 G := by kernel_rfl

theorem e_internal_stringslite_Index {R : Type} (O : Ora R) (fuel : Nat) (p0 p1 : List UInt8) (G : GH) (k : IV → GH → Option R) :
  bodyC Tryd.prog O lo55 fuel Tryd.f55 [.str p0, .str p1] G k =
  u_internal_stringslite_Index O k (L_internal_stringslite_Index_0 O fuel k) p0 p1 G := by
  rw [e_internal_stringslite_Index_raw, L_internal_stringslite_Index_0_eq]

theorem r_internal_stringslite_Index {R : Type} (fuel n : Nat) (p0 p1 : List UInt8) (G : GH) (k : IV → GH → Option R) :
  runC Tryd.prog lo0 fuel (n + 1) 55 [.str p0, .str p1] G k = bodyC Tryd.prog (runC Tryd.prog lo0 fuel n) lo55 fuel Tryd.f55 [.str p0, .str p1] G k := run_body Tryd.func55 rfl rfl

/-! ### internal/stringslite.Cut -/
theorem e_internal_stringslite_Cut {R : Type} (O : Ora R) (fuel : Nat) (p0 p1 : List UInt8) (G : GH) (k : IV → GH → Option R) :
  bodyC Tryd.prog O [777777] fuel Tryd.f51 [.str p0, .str p1] G k =
  O fn_internal_stringslite_Index [.str p0, .str p1] G fun v1 G2 =>
  (ivInt .i64 v1).bind fun x3 =>
  bif (decide (x3 ≥ (0 : Int))) then
  bif decide (0 ≤ (0 : Int) ∧ (0 : Int) ≤ x3 ∧ x3 ≤ (p0.length : Int)) then
  bif decide (0 ≤ (IntKind.wrap .i64 (x3 + (p1.length : Int))) ∧ (IntKind.wrap .i64 (x3 + (p1.length : Int))) ≤ (p0.length : Int) ∧ (p0.length : Int) ≤ (p0.length : Int)) then
  k (.tuple [.str ((p0.drop (Int.toNat (0 : Int))).take (Int.toNat x3 - Int.toNat (0 : Int))), .str ((p0.drop (Int.toNat (IntKind.wrap .i64 (x3 + (p1.length : Int))))).take (Int.toNat (p0.length : Int) - Int.toNat (IntKind.wrap .i64 (x3 + (p1.length : Int))))), .bool true]) G2
  else none
  else none
  else
  k (.tuple [.str p0, .str ([] : List UInt8), .bool false]) G2 := by kernel_rfl

theorem r_internal_stringslite_Cut {R : Type} (fuel n : Nat) (p0 p1 : List UInt8) (G : GH) (k : IV → GH → Option R) :
  runC Tryd.prog lo0 fuel (n + 1) 51 [.str p0, .str p1] G k = bodyC Tryd.prog (runC Tryd.prog lo0 fuel n) [777777] fuel Tryd.f51 [.str p0, .str p1] G k := run_body Tryd.func51 rfl rfl

/-! ### strings.Cut -/
theorem e_strings_Cut {R : Type} (O : Ora R) (fuel : Nat) (p0 p1 : List UInt8) (G : GH) (k : IV → GH → Option R) :
  bodyC Tryd.prog O [777777] fuel Tryd.f44 [.str p0, .str p1] G k =
  O fn_internal_stringslite_Cut [.str p0, .str p1] G fun v1 G2 =>
  (ivTup 3 v1).bind fun c3 =>
  (ivStr (c3.getD 0 undefI)).bind fun x4 =>
  (ivStr (c3.getD 1 undefI)).bind fun x5 =>
  (ivBool (c3.getD 2 undefI)).bind fun x6 =>
  k (.tuple [.str x4, .str x5, .bool x6]) G2 := by kernel_rfl

theorem r_strings_Cut {R : Type} (fuel n : Nat) (p0 p1 : List UInt8) (G : GH) (k : IV → GH → Option R) :
  runC Tryd.prog lo0 fuel (n + 1) 44 [.str p0, .str p1] G k = bodyC Tryd.prog (runC Tryd.prog lo0 fuel n) [777777] fuel Tryd.f44 [.str p0, .str p1] G k := run_body Tryd.func44 rfl rfl

/-! ### bytes.IndexByte -/
theorem e_bytes_IndexByte {R : Type} (O : Ora R) (fuel : Nat) (p0a : Option GA) (p0n : Nat) (p1 : Int) (G : GH) (k : IV → GH → Option R) :
  bodyC Tryd.prog O [777777] fuel Tryd.f60 [.slice p0a p0n, .int .u8 p1] G k =
  O fn_internal_bytealg_IndexByte [.slice p0a p0n, .int .u8 p1] G fun v1 G2 =>
  (ivInt .i64 v1).bind fun x3 =>
  k (.int .i64 x3) G2 := by kernel_rfl

theorem r_bytes_IndexByte {R : Type} (fuel n : Nat) (p0a : Option GA) (p0n : Nat) (p1 : Int) (G : GH) (k : IV → GH → Option R) :
  runC Tryd.prog lo0 fuel (n + 1) 60 [.slice p0a p0n, .int .u8 p1] G k = bodyC Tryd.prog (runC Tryd.prog lo0 fuel n) [777777] fuel Tryd.f60 [.slice p0a p0n, .int .u8 p1] G k := run_body Tryd.func60 rfl rfl

/-! ### bytes.Index -/
theorem e_bytes_Index {R : Type} (O : Ora R) (fuel : Nat) (p0a : Option GA) (p0n : Nat) (p1a : Option GA) (p1n : Nat) (G : GH) (k : IV → GH → Option R) :
  bodyC Tryd.prog O [777777] fuel Tryd.f54 [.slice p0a p0n, .slice p1a p1n] G k =
  bif ((p1n : Int) == (0 : Int)) then
  k (.int .i64 (0 : Int)) G
  else
  bif ((p1n : Int) == (1 : Int)) then
  (idx? p1a p1n (0 : Int) 1).bind fun a1 =>
  (ldInt G .u8 a1).bind fun x2 =>
  O fn_bytes_IndexByte [.slice p0a p0n, .int .u8 x2] G fun v3 G4 =>
  (ivInt .i64 v3).bind fun x5 =>
  k (.int .i64 x5) G4
  else
  bif ((p1n : Int) == (p0n : Int)) then
  O fn_bytes_Equal [.slice p1a p1n, .slice p0a p0n] G fun v6 G7 =>
  (ivBool v6).bind fun x8 =>
  bif x8 then
  k (.int .i64 (0 : Int)) G7
  else
  k (.int .i64 ((-1 : Int))) G7
  else
  bif (decide ((p1n : Int) > (p0n : Int))) then
  k (.int .i64 ((-1 : Int))) G
  else
  none := by kernel_rfl

theorem r_bytes_Index {R : Type} (fuel n : Nat) (p0a : Option GA) (p0n : Nat) (p1a : Option GA) (p1n : Nat) (G : GH) (k : IV → GH → Option R) :
  runC Tryd.prog lo0 fuel (n + 1) 54 [.slice p0a p0n, .slice p1a p1n] G k = bodyC Tryd.prog (runC Tryd.prog lo0 fuel n) [777777] fuel Tryd.f54 [.slice p0a p0n, .slice p1a p1n] G k := run_body Tryd.func54 rfl rfl

/-! ### bytes.Cut -/
theorem e_bytes_Cut {R : Type} (O : Ora R) (fuel : Nat) (p0a : Option GA) (p0n : Nat) (p1a : Option GA) (p1n : Nat) (G : GH) (k : IV → GH → Option R) :
  bodyC Tryd.prog O [777777] fuel Tryd.f50 [.slice p0a p0n, .slice p1a p1n] G k =
  O fn_bytes_Index [.slice p0a p0n, .slice p1a p1n] G fun v1 G2 =>
  (ivInt .i64 v1).bind fun x3 =>
  bif (decide (x3 ≥ (0 : Int))) then
  bif decide (0 ≤ (0 : Int) ∧ (0 : Int) ≤ x3 ∧ x3 ≤ (p0n : Int)) && gcut G2 p0a 5 then
  bif decide (0 ≤ (IntKind.wrap .i64 (x3 + (p1n : Int))) ∧ (IntKind.wrap .i64 (x3 + (p1n : Int))) ≤ (p0n : Int) ∧ (p0n : Int) ≤ (p0n : Int)) && gcut G2 p0a 5 then
  k (.tuple [.slice (cutA p0a (Int.toNat (0 : Int) * 1)) (Int.toNat x3 - Int.toNat (0 : Int)), .slice (cutA p0a (Int.toNat (IntKind.wrap .i64 (x3 + (p1n : Int))) * 1)) (Int.toNat (p0n : Int) - Int.toNat (IntKind.wrap .i64 (x3 + (p1n : Int)))), .bool true]) G2
  else none
  else none
  else
  k (.tuple [.slice p0a p0n, .slice none 0, .bool false]) G2 := by kernel_rfl

theorem r_bytes_Cut {R : Type} (fuel n : Nat) (p0a : Option GA) (p0n : Nat) (p1a : Option GA) (p1n : Nat) (G : GH) (k : IV → GH → Option R) :
  runC Tryd.prog lo0 fuel (n + 1) 50 [.slice p0a p0n, .slice p1a p1n] G k = bodyC Tryd.prog (runC Tryd.prog lo0 fuel n) [777777] fuel Tryd.f50 [.slice p0a p0n, .slice p1a p1n] G k := run_body Tryd.func50 rfl rfl

/-! ### lantern/pfm.line -/
theorem e_pfm_line {R : Type} (O : Ora R) (fuel : Nat) (p0a : Option GA) (p0n : Nat) (G : GH) (k : IV → GH → Option R) :
  bodyC Tryd.prog O [777777] fuel Tryd.f43 [.slice p0a p0n] G k =
  if 1 = 0 then none else
  bif gmark (gnew G [.int .u8 (10 : Int)] 5) ((gaddr G)).b then
  O fn_bytes_Cut [.slice p0a p0n, .slice (some (gaddr G)) 1] (gnew G [.int .u8 (10 : Int)] 5) fun v1 G2 =>
  (ivTup 3 v1).bind fun c3 =>
  (ivSlice (c3.getD 0 undefI)).bind fun x4 =>
  (ivSlice (c3.getD 1 undefI)).bind fun x5 =>
  (ivBool (c3.getD 2 undefI)).bind fun x6 =>
  strOf G2 x4.1 x4.2 fun x7 =>
  k (.tuple [.str x7, .slice x5.1 x5.2, .bool x6]) G2
  else none := by kernel_rfl

theorem r_pfm_line {R : Type} (fuel n : Nat) (p0a : Option GA) (p0n : Nat) (G : GH) (k : IV → GH → Option R) :
  runC Tryd.prog lo0 fuel (n + 1) 43 [.slice p0a p0n] G k = bodyC Tryd.prog (runC Tryd.prog lo0 fuel n) [777777] fuel Tryd.f43 [.slice p0a p0n] G k := run_body Tryd.func43 rfl rfl

/-! ### lantern/pfm.number -/
def u_pfm_number_0 {R : Type} (O : Ora R) (KN : List UInt8 → Bool → GH → Option R) (s0 : List UInt8) (G : GH) : Option R :=
  bif (s0 == ([] : List UInt8)) then
  KN s0 true G
  else
  bif decide (0 ≤ (0 : Int) ∧ (0 : Int) < (s0.length : Int)) then
  KN s0 (((s0.getD (Int.toNat (0 : Int)) 0).toNat : Int) == (48 : Int)) G
  else none

def l_pfm_number_0 {R : Type} (O : Ora R) (KN : List UInt8 → Bool → GH → Option R) : List UInt8 → GH → Option R := fun s0 G => u_pfm_number_0 O KN s0 G

theorem u_pfm_number_0_raw {R : Type} (O : Ora R) (fuel : Nat) (s0 : List UInt8) (G : GH) (k : Ex → List IV → List (List IV) → GH → Option R) :
  loopD Tryd.prog O lo45 fuel (nav (Tryd.f45.body.getD .skip) [1, 0, 0]) 11 (mkE 36 [(0, .str s0)]) [] G k =
  u_pfm_number_0 O (fun s0 s13 G => k .normal (mkE 36 [(0, .str s0), (13, .bool s13)]) [] G) s0 G := by kernel_rfl

theorem l_pfm_number_0_eq {R : Type} (O : Ora R) (fuel : Nat) (k : Ex → List IV → List (List IV) → GH → Option R) : ∀ (s0 : List UInt8) (G : GH),
  loopD Tryd.prog O lo45 fuel (nav (Tryd.f45.body.getD .skip) [1, 0, 0]) 11 (mkE 36 [(0, .str s0)]) [] G k = l_pfm_number_0 O (fun s0 s13 G => k .normal (mkE 36 [(0, .str s0), (13, .bool s13)]) [] G) s0 G := by
  intros
  rw [u_pfm_number_0_raw]
  simp only [l_pfm_number_0]

def u_pfm_number_2 {R : Type} (O : Ora R) (KN : Int → Int → Option GA → Nat → Int → Int → Bool → GH → Option R) (s4 s6 : Int) (s15a : Option GA) (s15n : Nat) (s16 s17 : Int) (G : GH) : Option R :=
  bif (decide (s6 < (48 : Int))) then
  KN s4 s6 s15a s15n s16 s17 true G
  else
  KN s4 s6 s15a s15n s16 s17 (decide (s6 > (57 : Int))) G

def l_pfm_number_2 {R : Type} (O : Ora R) (KN : Int → Int → Option GA → Nat → Int → Int → Bool → GH → Option R) : Int → Int → Option GA → Nat → Int → Int → GH → Option R := fun s4 s6 s15a s15n s16 s17 G => u_pfm_number_2 O KN s4 s6 s15a s15n s16 s17 G

theorem u_pfm_number_2_raw {R : Type} (O : Ora R) (fuel : Nat) (s4 s6 : Int) (s15a : Option GA) (s15n : Nat) (s16 s17 : Int) (G : GH) (k : Ex → List IV → List (List IV) → GH → Option R) :
  loopD Tryd.prog O lo45 fuel (nav (Tryd.f45.body.getD .skip) [1, 1, 1, 0, 1, 0, 0, 1, 1, 0, 0, 1, 0, 0]) 35 (mkE 36 [(4, .int .i64 s4), (6, .int .u8 s6), (15, .slice s15a s15n), (16, .int .i64 s16), (17, .int .i64 s17)]) [] G k =
  u_pfm_number_2 O (fun s4 s6 s15a s15n s16 s17 s26 G => k .normal (mkE 36 [(4, .int .i64 s4), (6, .int .u8 s6), (15, .slice s15a s15n), (16, .int .i64 s16), (17, .int .i64 s17), (26, .bool s26)]) [] G) s4 s6 s15a s15n s16 s17 G := by kernel_rfl

theorem l_pfm_number_2_eq {R : Type} (O : Ora R) (fuel : Nat) (k : Ex → List IV → List (List IV) → GH → Option R) : ∀ (s4 s6 : Int) (s15a : Option GA) (s15n : Nat) (s16 s17 : Int) (G : GH),
  loopD Tryd.prog O lo45 fuel (nav (Tryd.f45.body.getD .skip) [1, 1, 1, 0, 1, 0, 0, 1, 1, 0, 0, 1, 0, 0]) 35 (mkE 36 [(4, .int .i64 s4), (6, .int .u8 s6), (15, .slice s15a s15n), (16, .int .i64 s16), (17, .int .i64 s17)]) [] G k = l_pfm_number_2 O (fun s4 s6 s15a s15n s16 s17 s26 G => k .normal (mkE 36 [(4, .int .i64 s4), (6, .int .u8 s6), (15, .slice s15a s15n), (16, .int .i64 s16), (17, .int .i64 s17), (26, .bool s26)]) [] G) s4 s6 s15a s15n s16 s17 G := by
  intros
  rw [u_pfm_number_2_raw]
  simp only [l_pfm_number_2]

def u_pfm_number_1 {R : Type} (O : Ora R) (Kret : Int → Bool → GH → Option R) (KN : Int → Option GA → Nat → Int → Int → GH → Option R) (K0 : Int → GH → Option R) (L2 : Int → Int → Option GA → Nat → Int → Int → GH → Option R) (s4 : Int) (s15a : Option GA) (s15n : Nat) (s16 s17 : Int) (G : GH) : Option R :=
  bif (decide (s17 < s16)) then
  (idx? s15a s15n s17 1).bind fun a1 =>
  (ldInt G .u8 a1).bind fun x2 =>
  L2 s4 x2 s15a s15n s16 s17 G
  else
  K0 s4 G

def a_pfm_number_2N {R : Type} (O : Ora R) (Kret : Int → Bool → GH → Option R) (KN : Int → Option GA → Nat → Int → Int → GH → Option R) (K0 : Int → GH → Option R) (s4 s6 : Int) (s15a : Option GA) (s15n : Nat) (s16 s17 : Int) (s26 : Bool) (G : GH) : Option R :=
  bif s26 then
  Kret (0 : Int) false G
  else
  KN (if (1025 : Int) < (IntKind.wrap .i64 ((IntKind.wrap .i64 ((10 : Int) * s4)) + (IntKind.wrap .i64 (IntKind.wrap .u8 (s6 - (48 : Int)))))) then (1025 : Int) else (IntKind.wrap .i64 ((IntKind.wrap .i64 ((10 : Int) * s4)) + (IntKind.wrap .i64 (IntKind.wrap .u8 (s6 - (48 : Int))))))) s15a s15n s16 (IntKind.wrap .i64 (s17 + (1 : Int))) G

def L_pfm_number_2 {R : Type} (O : Ora R) (fuel : Nat) (Kret : Int → Bool → GH → Option R) (KN : Int → Option GA → Nat → Int → Int → GH → Option R) (K0 : Int → GH → Option R) : Int → Int → Option GA → Nat → Int → Int → GH → Option R := fun s4 s6 s15a s15n s16 s17 G =>
  stepN fuel (l_pfm_number_2 O (a_pfm_number_2N O Kret KN K0) s4 s6 s15a s15n s16 s17 G)

theorem a_pfm_number_2N_raw {R : Type} (O : Ora R) (fuel : Nat) (s4 s6 : Int) (s15a : Option GA) (s15n : Nat) (s16 s17 : Int) (s26 : Bool) (G : GH) (k : Ex → List IV → List (List IV) → GH → Option R) :
  contC Tryd.prog O lo45 fuel (nav (Tryd.f45.body.getD .skip) [1, 1, 1, 0, 1, 0, 0]) [1, 1, 0, 0, 1, 0, 0] (kpD lo45 20 0 k) .normal (mkE 36 [(4, .int .i64 s4), (6, .int .u8 s6), (15, .slice s15a s15n), (16, .int .i64 s16), (17, .int .i64 s17), (26, .bool s26)]) [] G =
  a_pfm_number_2N O (fun s2 s3 G => k .ret (mkE 36 [(2, .int .i64 s2), (3, .bool s3)]) [] G) (fun s4 s15a s15n s16 s17 G => k .normal (mkE 36 [(4, .int .i64 s4), (15, .slice s15a s15n), (16, .int .i64 s16), (17, .int .i64 s17)]) [] G) (fun s4 G => k (.exit 0) (mkE 36 [(4, .int .i64 s4)]) [] G) s4 s6 s15a s15n s16 s17 s26 G := by kernel_rfl

theorem L_pfm_number_2_eq {R : Type} (O : Ora R) (fuel : Nat) (k : Ex → List IV → List (List IV) → GH → Option R) :
  (fun (s4 s6 : Int) (s15a : Option GA) (s15n : Nat) (s16 s17 : Int) (G : GH) => stepN fuel (loopD Tryd.prog O lo45 fuel (nav (Tryd.f45.body.getD .skip) [1, 1, 1, 0, 1, 0, 0, 1, 1, 0, 0, 1, 0, 0]) 35 (mkE 36 [(4, .int .i64 s4), (6, .int .u8 s6), (15, .slice s15a s15n), (16, .int .i64 s16), (17, .int .i64 s17)]) [] G (contC Tryd.prog O lo45 fuel (nav (Tryd.f45.body.getD .skip) [1, 1, 1, 0, 1, 0, 0]) [1, 1, 0, 0, 1, 0, 0] (kpD lo45 20 0 k)))) = L_pfm_number_2 O fuel (fun (s2 : Int) (s3 : Bool) (G : GH) => k .ret (mkE 36 [(2, .int .i64 s2), (3, .bool s3)]) [] G) (fun (s4 : Int) (s15a : Option GA) (s15n : Nat) (s16 s17 : Int) (G : GH) => k .normal (mkE 36 [(4, .int .i64 s4), (15, .slice s15a s15n), (16, .int .i64 s16), (17, .int .i64 s17)]) [] G) (fun (s4 : Int) (G : GH) => k (.exit 0) (mkE 36 [(4, .int .i64 s4)]) [] G) := by
  funext s4 s6 s15a s15n s16 s17 G
  simp only [L_pfm_number_2, l_pfm_number_2_eq, a_pfm_number_2N_raw]

def l_pfm_number_1 {R : Type} (O : Ora R) (fuel : Nat) (Kret : Int → Bool → GH → Option R) (K0 : Int → GH → Option R) : Nat → Int → Option GA → Nat → Int → Int → GH → Option R
  | 0, _, _, _, _, _, _ => none
  | n + 1, s4, s15a, s15n, s16, s17, G => u_pfm_number_1 O Kret (l_pfm_number_1 O fuel Kret K0 n) K0 (L_pfm_number_2 O fuel Kret (l_pfm_number_1 O fuel Kret K0 n) K0) s4 s15a s15n s16 s17 G

theorem u_pfm_number_1_raw {R : Type} (O : Ora R) (fuel : Nat) (s4 : Int) (s15a : Option GA) (s15n : Nat) (s16 s17 : Int) (G : GH) (k : Ex → List IV → List (List IV) → GH → Option R) :
  loopD Tryd.prog O lo45 fuel (nav (Tryd.f45.body.getD .skip) [1, 1, 1, 0, 1, 0, 0]) 20 (mkE 36 [(4, .int .i64 s4), (15, .slice s15a s15n), (16, .int .i64 s16), (17, .int .i64 s17)]) [] G k =
  u_pfm_number_1 O (fun s2 s3 G => k .ret (mkE 36 [(2, .int .i64 s2), (3, .bool s3)]) [] G) (fun s4 s15a s15n s16 s17 G => k .normal (mkE 36 [(4, .int .i64 s4), (15, .slice s15a s15n), (16, .int .i64 s16), (17, .int .i64 s17)]) [] G) (fun s4 G => k (.exit 0) (mkE 36 [(4, .int .i64 s4)]) [] G) (fun s4 s6 s15a s15n s16 s17 G => stepN fuel (loopD Tryd.prog O lo45 fuel (nav (Tryd.f45.body.getD .skip) [1, 1, 1, 0, 1, 0, 0, 1, 1, 0, 0, 1, 0, 0]) 35 (mkE 36 [(4, .int .i64 s4), (6, .int .u8 s6), (15, .slice s15a s15n), (16, .int .i64 s16), (17, .int .i64 s17)]) [] G (contC Tryd.prog O lo45 fuel (nav (Tryd.f45.body.getD .skip) [1, 1, 1, 0, 1, 0, 0]) [1, 1, 0, 0, 1, 0, 0] (kpD lo45 20 0 k)))) s4 s15a s15n s16 s17 G := by kernel_rfl

theorem l_pfm_number_1_eq {R : Type} (O : Ora R) (fuel : Nat) (k : Ex → List IV → List (List IV) → GH → Option R) : ∀ (n : Nat) (s4 : Int) (s15a : Option GA) (s15n : Nat) (s16 s17 : Int) (G : GH),
  loopN (loopD Tryd.prog O lo45 fuel (nav (Tryd.f45.body.getD .skip) [1, 1, 1, 0, 1, 0, 0]) 20) n (mkE 36 [(4, .int .i64 s4), (15, .slice s15a s15n), (16, .int .i64 s16), (17, .int .i64 s17)]) [] G k = l_pfm_number_1 O fuel (fun s2 s3 G => k .ret (mkE 36 [(2, .int .i64 s2), (3, .bool s3)]) [] G) (fun s4 G => k (.exit 0) (mkE 36 [(4, .int .i64 s4)]) [] G) n s4 s15a s15n s16 s17 G := by
  intro n
  induction n with
  | zero => intros; rfl
  | succ n ih =>
    intros
    rw [loopN_succ, u_pfm_number_1_raw]
    simp only [l_pfm_number_1, loopK_normal, loopK_exit, loopK_ret, ih, L_pfm_number_2_eq]

def u_pfm_number {R : Type} (O : Ora R) (k : IV → GH → Option R) (L0 : List UInt8 → GH → Option R) (p0 : List UInt8) (G : GH) : Option R :=
  L0 p0 G

def a_pfm_number_0N {R : Type} (O : Ora R) (k : IV → GH → Option R) (L1 : Int → Option GA → Nat → Int → Int → GH → Option R) (s0 : List UInt8) (s13 : Bool) (G : GH) : Option R :=
  bif s13 then
  k (.tuple [.int .i64 (0 : Int), .bool false]) G
  else
  L1 (0 : Int) (some (gaddr G)) s0.length (s0.length : Int) (0 : Int) (gnew G (bytesI s0) 5)

def a_pfm_number_1ret {R : Type} (O : Ora R) (k : IV → GH → Option R) (s2 : Int) (s3 : Bool) (G : GH) : Option R :=
  k (.tuple [.int .i64 s2, .bool s3]) G

def a_pfm_number_10 {R : Type} (O : Ora R) (k : IV → GH → Option R) (s4 : Int) (G : GH) : Option R :=
  k (.tuple [.int .i64 s4, .bool true]) G

def L_pfm_number_1 {R : Type} (O : Ora R) (fuel : Nat) (k : IV → GH → Option R) : Int → Option GA → Nat → Int → Int → GH → Option R := fun s4 s15a s15n s16 s17 G =>
  l_pfm_number_1 O fuel (a_pfm_number_1ret O k) (a_pfm_number_10 O k) fuel s4 s15a s15n s16 s17 G

theorem a_pfm_number_1ret_raw {R : Type} (O : Ora R) (fuel : Nat) (s2 : Int) (s3 : Bool) (G : GH) (k : IV → GH → Option R) :
  contC Tryd.prog O lo45 fuel (Tryd.f45.body.getD .skip) [1, 1, 1, 0, 1, 0] (fun e env F G => match e with | .exit _ => none | _ => resC Tryd.prog Tryd.f45 env F G k) .ret (mkE 36 [(2, .int .i64 s2), (3, .bool s3)]) [] G =
  a_pfm_number_1ret O k s2 s3 G := by kernel_rfl

theorem a_pfm_number_10_raw {R : Type} (O : Ora R) (fuel : Nat) (s4 : Int) (G : GH) (k : IV → GH → Option R) :
  contC Tryd.prog O lo45 fuel (Tryd.f45.body.getD .skip) [1, 1, 1, 0, 1, 0] (fun e env F G => match e with | .exit _ => none | _ => resC Tryd.prog Tryd.f45 env F G k) (.exit 0) (mkE 36 [(4, .int .i64 s4)]) [] G =
  a_pfm_number_10 O k s4 G := by kernel_rfl

theorem L_pfm_number_1_eq {R : Type} (O : Ora R) (fuel : Nat) (k : IV → GH → Option R) :
  (fun (s4 : Int) (s15a : Option GA) (s15n : Nat) (s16 s17 : Int) (G : GH) => loopN (loopD Tryd.prog O lo45 fuel (nav (Tryd.f45.body.getD .skip) [1, 1, 1, 0, 1, 0, 0]) 20) fuel (mkE 36 [(4, .int .i64 s4), (15, .slice s15a s15n), (16, .int .i64 s16), (17, .int .i64 s17)]) [] G (contC Tryd.prog O lo45 fuel (Tryd.f45.body.getD .skip) [1, 1, 1, 0, 1, 0] (fun e env F G => match e with | .exit _ => none | _ => resC Tryd.prog Tryd.f45 env F G k))) = L_pfm_number_1 O fuel k := by
  funext s4 s15a s15n s16 s17 G
  simp only [L_pfm_number_1, l_pfm_number_1_eq, a_pfm_number_1ret_raw, a_pfm_number_10_raw]

def L_pfm_number_0 {R : Type} (O : Ora R) (fuel : Nat) (k : IV → GH → Option R) : List UInt8 → GH → Option R := fun s0 G =>
  stepN fuel (l_pfm_number_0 O (a_pfm_number_0N O k (L_pfm_number_1 O fuel k)) s0 G)

theorem a_pfm_number_0N_raw {R : Type} (O : Ora R) (fuel : Nat) (s0 : List UInt8) (s13 : Bool) (G : GH) (k : IV → GH → Option R) :
  contC Tryd.prog O lo45 fuel (Tryd.f45.body.getD .skip) [1, 0, 0] (fun e env F G => match e with | .exit _ => none | _ => resC Tryd.prog Tryd.f45 env F G k) .normal (mkE 36 [(0, .str s0), (13, .bool s13)]) [] G =
  a_pfm_number_0N O k (fun s4 s15a s15n s16 s17 G => loopN (loopD Tryd.prog O lo45 fuel (nav (Tryd.f45.body.getD .skip) [1, 1, 1, 0, 1, 0, 0]) 20) fuel (mkE 36 [(4, .int .i64 s4), (15, .slice s15a s15n), (16, .int .i64 s16), (17, .int .i64 s17)]) [] G (contC Tryd.prog O lo45 fuel (Tryd.f45.body.getD .skip) [1, 1, 1, 0, 1, 0] (fun e env F G => match e with | .exit _ => none | _ => resC Tryd.prog Tryd.f45 env F G k))) s0 s13 G := by kernel_rfl

theorem L_pfm_number_0_eq {R : Type} (O : Ora R) (fuel : Nat) (k : IV → GH → Option R) :
  (fun (s0 : List UInt8) (G : GH) => stepN fuel (loopD Tryd.prog O lo45 fuel (nav (Tryd.f45.body.getD .skip) [1, 0, 0]) 11 (mkE 36 [(0, .str s0)]) [] G (contC Tryd.prog O lo45 fuel (Tryd.f45.body.getD .skip) [1, 0, 0] (fun e env F G => match e with | .exit _ => none | _ => resC Tryd.prog Tryd.f45 env F G k)))) = L_pfm_number_0 O fuel k := by
  funext s0 G
  simp only [L_pfm_number_0, l_pfm_number_0_eq, a_pfm_number_0N_raw, L_pfm_number_1_eq]

theorem e_pfm_number_raw {R : Type} (O : Ora R) (fuel : Nat) (p0 : List UInt8) (G : GH) (k : IV → GH → Option R) :
  bodyC Tryd.prog O lo45 fuel Tryd.f45 [.str p0] G k =
  u_pfm_number O k (fun s0 G => stepN fuel (loopD Tryd.prog O lo45 fuel (nav (Tryd.f45.body.getD .skip) [1, 0, 0]) 11 (mkE 36 [(0, .str s0)]) [] G (contC Tryd.prog O lo45 fuel (Tryd.f45.body.getD .skip) [1, 0, 0] (fun e env F G => match e with | .exit _ => none | _ => resC Tryd.prog Tryd.f45 env F G k)))) p0 G := by kernel_rfl

theorem e_pfm_number {R : Type} (O : Ora R) (fuel : Nat) (p0 : List UInt8) (G : GH) (k : IV → GH → Option R) :
  bodyC Tryd.prog O lo45 fuel Tryd.f45 [.str p0] G k =
  u_pfm_number O k (L_pfm_number_0 O fuel k) p0 G := by
  rw [e_pfm_number_raw, L_pfm_number_0_eq]

theorem r_pfm_number {R : Type} (fuel n : Nat) (p0 : List UInt8) (G : GH) (k : IV → GH → Option R) :
  runC Tryd.prog lo0 fuel (n + 1) 45 [.str p0] G k = bodyC Tryd.prog (runC Tryd.prog lo0 fuel n) lo45 fuel Tryd.f45 [.str p0] [] (fun v _ => if isFlat v then k v G else none) := run_pure Tryd.func45 rfl rfl rfl

/-! ### lantern/pfm.begin -/
def u_pfm_begin_0 {R : Type} (O : Ora R) (KN : Option GA → Nat → List UInt8 → Int → Int → Bool → GH → Option R) (s0a : Option GA) (s0n : Nat) (s1 s9 : List UInt8) (s10 s12 : Bool) (s13 : List UInt8) (s14 s17 : Bool) (s18 : Int) (s19 : Bool) (s20 : Int) (s21 : Bool) (G : GH) : Option R :=
  bif (!s10) then
  KN s0a s0n s13 s18 s20 true G
  else
  bif (!s12) then
  KN s0a s0n s13 s18 s20 true G
  else
  bif (!s14) then
  KN s0a s0n s13 s18 s20 true G
  else
  bif (!s17) then
  KN s0a s0n s13 s18 s20 true G
  else
  bif (!s19) then
  KN s0a s0n s13 s18 s20 true G
  else
  bif (!s21) then
  KN s0a s0n s13 s18 s20 true G
  else
  KN s0a s0n s13 s18 s20 (!(s9 == s1)) G

def l_pfm_begin_0 {R : Type} (O : Ora R) (KN : Option GA → Nat → List UInt8 → Int → Int → Bool → GH → Option R) : Option GA → Nat → List UInt8 → List UInt8 → Bool → Bool → List UInt8 → Bool → Bool → Int → Bool → Int → Bool → GH → Option R := fun s0a s0n s1 s9 s10 s12 s13 s14 s17 s18 s19 s20 s21 G => u_pfm_begin_0 O KN s0a s0n s1 s9 s10 s12 s13 s14 s17 s18 s19 s20 s21 G

theorem u_pfm_begin_0_raw {R : Type} (O : Ora R) (fuel : Nat) (s0a : Option GA) (s0n : Nat) (s1 s9 : List UInt8) (s10 s12 : Bool) (s13 : List UInt8) (s14 s17 : Bool) (s18 : Int) (s19 : Bool) (s20 : Int) (s21 : Bool) (G : GH) (k : Ex → List IV → List (List IV) → GH → Option R) :
  loopD Tryd.prog O lo32 fuel (nav (Tryd.f32.body.getD .skip) [1, 1, 1, 1, 1, 1, 1, 0, 0, 0]) 35 (mkE 93 [(0, .slice s0a s0n), (1, .str s1), (9, .str s9), (10, .bool s10), (12, .bool s12), (13, .str s13), (14, .bool s14), (17, .bool s17), (18, .int .i64 s18), (19, .bool s19), (20, .int .i64 s20), (21, .bool s21)]) [] G k =
  u_pfm_begin_0 O (fun s0a s0n s13 s18 s20 s56 G => k .normal (mkE 93 [(0, .slice s0a s0n), (13, .str s13), (18, .int .i64 s18), (20, .int .i64 s20), (56, .bool s56)]) [] G) s0a s0n s1 s9 s10 s12 s13 s14 s17 s18 s19 s20 s21 G := by kernel_rfl

theorem l_pfm_begin_0_eq {R : Type} (O : Ora R) (fuel : Nat) (k : Ex → List IV → List (List IV) → GH → Option R) : ∀ (s0a : Option GA) (s0n : Nat) (s1 s9 : List UInt8) (s10 s12 : Bool) (s13 : List UInt8) (s14 s17 : Bool) (s18 : Int) (s19 : Bool) (s20 : Int) (s21 : Bool) (G : GH),
  loopD Tryd.prog O lo32 fuel (nav (Tryd.f32.body.getD .skip) [1, 1, 1, 1, 1, 1, 1, 0, 0, 0]) 35 (mkE 93 [(0, .slice s0a s0n), (1, .str s1), (9, .str s9), (10, .bool s10), (12, .bool s12), (13, .str s13), (14, .bool s14), (17, .bool s17), (18, .int .i64 s18), (19, .bool s19), (20, .int .i64 s20), (21, .bool s21)]) [] G k = l_pfm_begin_0 O (fun s0a s0n s13 s18 s20 s56 G => k .normal (mkE 93 [(0, .slice s0a s0n), (13, .str s13), (18, .int .i64 s18), (20, .int .i64 s20), (56, .bool s56)]) [] G) s0a s0n s1 s9 s10 s12 s13 s14 s17 s18 s19 s20 s21 G := by
  intros
  rw [u_pfm_begin_0_raw]
  simp only [l_pfm_begin_0]

def u_pfm_begin {R : Type} (O : Ora R) (k : IV → GH → Option R) (L0 : Option GA → Nat → List UInt8 → List UInt8 → Bool → Bool → List UInt8 → Bool → Bool → Int → Bool → Int → Bool → GH → Option R) (p0a : Option GA) (p0n : Nat) (p1 : List UInt8) (G : GH) : Option R :=
  O fn_pfm_line [.slice p0a p0n] G fun v1 G2 =>
  (ivTup 3 v1).bind fun c3 =>
  (ivStr (c3.getD 0 undefI)).bind fun x4 =>
  (ivSlice (c3.getD 1 undefI)).bind fun x5 =>
  (ivBool (c3.getD 2 undefI)).bind fun x6 =>
  O fn_pfm_line [.slice x5.1 x5.2] G2 fun v7 G8 =>
  (ivTup 3 v7).bind fun c9 =>
  (ivStr (c9.getD 0 undefI)).bind fun x10 =>
  (ivSlice (c9.getD 1 undefI)).bind fun x11 =>
  (ivBool (c9.getD 2 undefI)).bind fun x12 =>
  O fn_pfm_line [.slice x11.1 x11.2] G8 fun v13 G14 =>
  (ivTup 3 v13).bind fun c15 =>
  (ivStr (c15.getD 0 undefI)).bind fun x16 =>
  (ivSlice (c15.getD 1 undefI)).bind fun x17 =>
  (ivBool (c15.getD 2 undefI)).bind fun x18 =>
  O fn_strings_Cut [.str x10, .str ([32] : List UInt8)] G14 fun v19 G20 =>
  (ivTup 3 v19).bind fun c21 =>
  (ivStr (c21.getD 0 undefI)).bind fun x22 =>
  (ivStr (c21.getD 1 undefI)).bind fun x23 =>
  (ivBool (c21.getD 2 undefI)).bind fun x24 =>
  O fn_pfm_number [.str x22] G20 fun v25 G26 =>
  (ivTup 2 v25).bind fun c27 =>
  (ivInt .i64 (c27.getD 0 undefI)).bind fun x28 =>
  (ivBool (c27.getD 1 undefI)).bind fun x29 =>
  O fn_pfm_number [.str x23] G26 fun v30 G31 =>
  (ivTup 2 v30).bind fun c32 =>
  (ivInt .i64 (c32.getD 0 undefI)).bind fun x33 =>
  (ivBool (c32.getD 1 undefI)).bind fun x34 =>
  L0 x17.1 x17.2 p1 x4 x6 x12 x16 x18 x24 x28 x29 x33 x34 G31

def a_pfm_begin_0N {R : Type} (O : Ora R) (k : IV → GH → Option R) (s0a : Option GA) (s0n : Nat) (s13 : List UInt8) (s18 s20 : Int) (s56 : Bool) (G : GH) : Option R :=
  bif s56 then
  k (.tuple [.int .i64 (0 : Int), .int .i64 (0 : Int), .str ([] : List UInt8), .slice none 0, .int .i64 (80 : Int)]) G
  else
  O fn_pfm_fits [.int .i64 s18, .int .i64 s20] G fun v1 G2 =>
  (ivBool v1).bind fun x3 =>
  bif (!x3) then
  k (.tuple [.int .i64 (0 : Int), .int .i64 (0 : Int), .str ([] : List UInt8), .slice none 0, .int .i64 (70 : Int)]) G2
  else
  k (.tuple [.int .i64 s18, .int .i64 s20, .str s13, .slice s0a s0n, .int .i64 (0 : Int)]) G2

def L_pfm_begin_0 {R : Type} (O : Ora R) (fuel : Nat) (k : IV → GH → Option R) : Option GA → Nat → List UInt8 → List UInt8 → Bool → Bool → List UInt8 → Bool → Bool → Int → Bool → Int → Bool → GH → Option R := fun s0a s0n s1 s9 s10 s12 s13 s14 s17 s18 s19 s20 s21 G =>
  stepN fuel (l_pfm_begin_0 O (a_pfm_begin_0N O k) s0a s0n s1 s9 s10 s12 s13 s14 s17 s18 s19 s20 s21 G)

theorem a_pfm_begin_0N_raw {R : Type} (O : Ora R) (fuel : Nat) (s0a : Option GA) (s0n : Nat) (s13 : List UInt8) (s18 s20 : Int) (s56 : Bool) (G : GH) (k : IV → GH → Option R) :
  contC Tryd.prog O lo32 fuel (Tryd.f32.body.getD .skip) [1, 1, 1, 1, 1, 1, 1, 0, 0, 0] (fun e env F G => match e with | .exit _ => none | _ => resC Tryd.prog Tryd.f32 env F G k) .normal (mkE 93 [(0, .slice s0a s0n), (13, .str s13), (18, .int .i64 s18), (20, .int .i64 s20), (56, .bool s56)]) [] G =
  a_pfm_begin_0N O k s0a s0n s13 s18 s20 s56 G := by kernel_rfl

theorem L_pfm_begin_0_eq {R : Type} (O : Ora R) (fuel : Nat) (k : IV → GH → Option R) :
  (fun (s0a : Option GA) (s0n : Nat) (s1 s9 : List UInt8) (s10 s12 : Bool) (s13 : List UInt8) (s14 s17 : Bool) (s18 : Int) (s19 : Bool) (s20 : Int) (s21 : Bool) (G : GH) => stepN fuel (loopD Tryd.prog O lo32 fuel (nav (Tryd.f32.body.getD .skip) [1, 1, 1, 1, 1, 1, 1, 0, 0, 0]) 35 (mkE 93 [(0, .slice s0a s0n), (1, .str s1), (9, .str s9), (10, .bool s10), (12, .bool s12), (13, .str s13), (14, .bool s14), (17, .bool s17), (18, .int .i64 s18), (19, .bool s19), (20, .int .i64 s20), (21, .bool s21)]) [] G (contC Tryd.prog O lo32 fuel (Tryd.f32.body.getD .skip) [1, 1, 1, 1, 1, 1, 1, 0, 0, 0] (fun e env F G => match e with | .exit _ => none | _ => resC Tryd.prog Tryd.f32 env F G k)))) = L_pfm_begin_0 O fuel k := by
  funext s0a s0n s1 s9 s10 s12 s13 s14 s17 s18 s19 s20 s21 G
  simp only [L_pfm_begin_0, l_pfm_begin_0_eq, a_pfm_begin_0N_raw]

theorem e_pfm_begin_raw {R : Type} (O : Ora R) (fuel : Nat) (p0a : Option GA) (p0n : Nat) (p1 : List UInt8) (G : GH) (k : IV → GH → Option R) :
  bodyC Tryd.prog O lo32 fuel Tryd.f32 [.slice p0a p0n, .str p1] G k =
  u_pfm_begin O k (fun s0a s0n s1 s9 s10 s12 s13 s14 s17 s18 s19 s20 s21 G => stepN fuel (loopD Tryd.prog O lo32 fuel (nav (Tryd.f32.body.getD .skip) [1, 1, 1, 1, 1, 1, 1, 0, 0, 0]) 35 (mkE 93 [(0, .slice s0a s0n), (1, .str s1), (9, .str s9), (10, .bool s10), (12, .bool s12), (13, .str s13), (14, .bool s14), (17, .bool s17), (18, .int .i64 s18), (19, .bool s19), (20, .int .i64 s20), (21, .bool s21)]) [] G (contC Tryd.prog O lo32 fuel (Tryd.f32.body.getD .skip) [1, 1, 1, 1, 1, 1, 1, 0, 0, 0] (fun e env F G => match e with | .exit _ => none | _ => resC Tryd.prog Tryd.f32 env F G k)))) p0a p0n p1 G := by kernel_rfl

theorem e_pfm_begin {R : Type} (O : Ora R) (fuel : Nat) (p0a : Option GA) (p0n : Nat) (p1 : List UInt8) (G : GH) (k : IV → GH → Option R) :
  bodyC Tryd.prog O lo32 fuel Tryd.f32 [.slice p0a p0n, .str p1] G k =
  u_pfm_begin O k (L_pfm_begin_0 O fuel k) p0a p0n p1 G := by
  rw [e_pfm_begin_raw, L_pfm_begin_0_eq]

theorem r_pfm_begin {R : Type} (fuel n : Nat) (p0a : Option GA) (p0n : Nat) (p1 : List UInt8) (G : GH) (k : IV → GH → Option R) :
  runC Tryd.prog lo0 fuel (n + 1) 32 [.slice p0a p0n, .str p1] G k = bodyC Tryd.prog (runC Tryd.prog lo0 fuel n) lo32 fuel Tryd.f32 [.slice p0a p0n, .str p1] G k := run_body Tryd.func32 rfl rfl

/-! ### lantern/pfm.ReadPPM -/
def u_pfm_ReadPPM_0 {R : Type} (O : Ora R) (KN : Option GA → Nat → Int → Int → Int → Int → Option GA → Nat → Int → Int → Option GA → Nat → GH → Option R) (K1 : Int → Int → Option GA → Nat → Int → Int → Option GA → Nat → GH → Option R) (s0a : Option GA) (s0n : Nat) (s41 s42 : Int) (b0_0 b0_1 : Int) (b0_2a : Option GA) (b0_2n : Nat) (b1_0 b1_1 : Int) (b1_2a : Option GA) (b1_2n : Nat) (G : GH) : Option R :=
  bif (decide (s42 < s41)) then
  (idx? s0a s0n (IntKind.wrap .i64 ((3 : Int) * s42)) 1).bind fun a1 =>
  (ldInt G .u8 a1).bind fun x2 =>
  ((FloatKind.format .f64).div (FloatKind.nearest .f64 x2) (4643176031446892544 : Nat)).bind fun r3 =>
  (idx? s0a s0n (IntKind.wrap .i64 ((IntKind.wrap .i64 ((3 : Int) * s42)) + (1 : Int))) 1).bind fun a4 =>
  (ldInt G .u8 a4).bind fun x5 =>
  ((FloatKind.format .f64).div (FloatKind.nearest .f64 x5) (4643176031446892544 : Nat)).bind fun r6 =>
  (idx? s0a s0n (IntKind.wrap .i64 ((IntKind.wrap .i64 ((3 : Int) * s42)) + (2 : Int))) 1).bind fun a7 =>
  (ldInt G .u8 a7).bind fun x8 =>
  ((FloatKind.format .f64).div (FloatKind.nearest .f64 x8) (4643176031446892544 : Nat)).bind fun r9 =>
  (grd (gnew G [.float .f64 r3, .float .f64 r6, .float .f64 r9] 39) (gaddr G) (1 * 3)).bind fun x10 =>
  (gappend (gnew G [.float .f64 r3, .float .f64 r6, .float .f64 r9] 39) 39 3 24 b1_2a b1_2n x10 1).bind fun r11 =>
  KN s0a s0n s41 (IntKind.wrap .i64 (s42 + (1 : Int))) b0_0 b0_1 b0_2a b0_2n b1_0 b1_1 r11.1 (b1_2n + 1) r11.2
  else
  K1 b0_0 b0_1 b0_2a b0_2n b1_0 b1_1 b1_2a b1_2n G

def l_pfm_ReadPPM_0 {R : Type} (O : Ora R) (K1 : Int → Int → Option GA → Nat → Int → Int → Option GA → Nat → GH → Option R) : Nat → Option GA → Nat → Int → Int → Int → Int → Option GA → Nat → Int → Int → Option GA → Nat → GH → Option R
  | 0, _, _, _, _, _, _, _, _, _, _, _, _, _ => none
  | n + 1, s0a, s0n, s41, s42, b0_0, b0_1, b0_2a, b0_2n, b1_0, b1_1, b1_2a, b1_2n, G => u_pfm_ReadPPM_0 O (l_pfm_ReadPPM_0 O K1 n) K1 s0a s0n s41 s42 b0_0 b0_1 b0_2a b0_2n b1_0 b1_1 b1_2a b1_2n G

theorem u_pfm_ReadPPM_0_raw {R : Type} (O : Ora R) (fuel : Nat) (s0a : Option GA) (s0n : Nat) (s41 s42 : Int) (b0_0 b0_1 : Int) (b0_2a : Option GA) (b0_2n : Nat) (b1_0 b1_1 : Int) (b1_2a : Option GA) (b1_2n : Nat) (G : GH) (k : Ex → List IV → List (List IV) → GH → Option R) :
  loopD Tryd.prog O lo16 fuel (nav (Tryd.f16.body.getD .skip) [1, 1, 1, 1, 0, 1, 0, 0]) 40 (mkE 76 [(0, .slice s0a s0n), (2, .loc 0 0), (8, .loc 1 0), (41, .int .i64 s41), (42, .int .i64 s42)]) [[.int .i64 b0_0, .int .i64 b0_1, .slice b0_2a b0_2n], [.int .i64 b1_0, .int .i64 b1_1, .slice b1_2a b1_2n]] G k =
  u_pfm_ReadPPM_0 O (fun s0a s0n s41 s42 b0_0 b0_1 b0_2a b0_2n b1_0 b1_1 b1_2a b1_2n G => k .normal (mkE 76 [(0, .slice s0a s0n), (2, .loc 0 0), (8, .loc 1 0), (41, .int .i64 s41), (42, .int .i64 s42)]) [[.int .i64 b0_0, .int .i64 b0_1, .slice b0_2a b0_2n], [.int .i64 b1_0, .int .i64 b1_1, .slice b1_2a b1_2n]] G) (fun b0_0 b0_1 b0_2a b0_2n b1_0 b1_1 b1_2a b1_2n G => k (.exit 1) (mkE 76 [(2, .loc 0 0), (8, .loc 1 0)]) [[.int .i64 b0_0, .int .i64 b0_1, .slice b0_2a b0_2n], [.int .i64 b1_0, .int .i64 b1_1, .slice b1_2a b1_2n]] G) s0a s0n s41 s42 b0_0 b0_1 b0_2a b0_2n b1_0 b1_1 b1_2a b1_2n G := by kernel_rfl

theorem l_pfm_ReadPPM_0_eq {R : Type} (O : Ora R) (fuel : Nat) (k : Ex → List IV → List (List IV) → GH → Option R) : ∀ (n : Nat) (s0a : Option GA) (s0n : Nat) (s41 s42 : Int) (b0_0 b0_1 : Int) (b0_2a : Option GA) (b0_2n : Nat) (b1_0 b1_1 : Int) (b1_2a : Option GA) (b1_2n : Nat) (G : GH),
  loopN (loopD Tryd.prog O lo16 fuel (nav (Tryd.f16.body.getD .skip) [1, 1, 1, 1, 0, 1, 0, 0]) 40) n (mkE 76 [(0, .slice s0a s0n), (2, .loc 0 0), (8, .loc 1 0), (41, .int .i64 s41), (42, .int .i64 s42)]) [[.int .i64 b0_0, .int .i64 b0_1, .slice b0_2a b0_2n], [.int .i64 b1_0, .int .i64 b1_1, .slice b1_2a b1_2n]] G k = l_pfm_ReadPPM_0 O (fun b0_0 b0_1 b0_2a b0_2n b1_0 b1_1 b1_2a b1_2n G => k (.exit 1) (mkE 76 [(2, .loc 0 0), (8, .loc 1 0)]) [[.int .i64 b0_0, .int .i64 b0_1, .slice b0_2a b0_2n], [.int .i64 b1_0, .int .i64 b1_1, .slice b1_2a b1_2n]] G) n s0a s0n s41 s42 b0_0 b0_1 b0_2a b0_2n b1_0 b1_1 b1_2a b1_2n G := by
  intro n
  induction n with
  | zero => intros; rfl
  | succ n ih =>
    intros
    rw [loopN_succ, u_pfm_ReadPPM_0_raw]
    simp only [l_pfm_ReadPPM_0, loopK_normal, loopK_exit, loopK_ret, ih]

def u_pfm_ReadPPM {R : Type} (O : Ora R) (k : IV → GH → Option R) (L0 : Option GA → Nat → Int → Int → Int → Int → Option GA → Nat → Int → Int → Option GA → Nat → GH → Option R) (p0a : Option GA) (p0n : Nat) (G : GH) : Option R :=
  O fn_pfm_begin [.slice p0a p0n, .str ([80, 54] : List UInt8)] G fun v1 G2 =>
  (ivTup 5 v1).bind fun c3 =>
  (ivInt .i64 (c3.getD 0 undefI)).bind fun x4 =>
  (ivInt .i64 (c3.getD 1 undefI)).bind fun x5 =>
  (ivStr (c3.getD 2 undefI)).bind fun x6 =>
  (ivSlice (c3.getD 3 undefI)).bind fun x7 =>
  (ivInt .i64 (c3.getD 4 undefI)).bind fun x8 =>
  bif (x8 != (0 : Int)) then
  k (.tuple [.agg [.int .i64 (0 : Int), .int .i64 (0 : Int), .slice none 0], .int .i64 x8]) G2
  else
  bif (!(x6 == ([50, 53, 53] : List UInt8))) then
  k (.tuple [.agg [.int .i64 (0 : Int), .int .i64 (0 : Int), .slice none 0], .int .i64 (80 : Int)]) G2
  else
  bif ((x7.2 : Int) != (IntKind.wrap .i64 ((IntKind.wrap .i64 ((3 : Int) * x4)) * x5))) then
  k (.tuple [.agg [.int .i64 (0 : Int), .int .i64 (0 : Int), .slice none 0], .int .i64 (81 : Int)]) G2
  else
  L0 x7.1 x7.2 (IntKind.wrap .i64 (x4 * x5)) (0 : Int) (0 : Int) (0 : Int) none 0 x4 x5 none 0 G2

def a_pfm_ReadPPM_01 {R : Type} (O : Ora R) (k : IV → GH → Option R) (b0_0 b0_1 : Int) (b0_2a : Option GA) (b0_2n : Nat) (b1_0 b1_1 : Int) (b1_2a : Option GA) (b1_2n : Nat) (G : GH) : Option R :=
  k (.tuple [.agg [.int .i64 b1_0, .int .i64 b1_1, .slice b1_2a b1_2n], .int .i64 (0 : Int)]) G

def L_pfm_ReadPPM_0 {R : Type} (O : Ora R) (fuel : Nat) (k : IV → GH → Option R) : Option GA → Nat → Int → Int → Int → Int → Option GA → Nat → Int → Int → Option GA → Nat → GH → Option R := fun s0a s0n s41 s42 b0_0 b0_1 b0_2a b0_2n b1_0 b1_1 b1_2a b1_2n G =>
  l_pfm_ReadPPM_0 O (a_pfm_ReadPPM_01 O k) fuel s0a s0n s41 s42 b0_0 b0_1 b0_2a b0_2n b1_0 b1_1 b1_2a b1_2n G

theorem a_pfm_ReadPPM_01_raw {R : Type} (O : Ora R) (fuel : Nat) (b0_0 b0_1 : Int) (b0_2a : Option GA) (b0_2n : Nat) (b1_0 b1_1 : Int) (b1_2a : Option GA) (b1_2n : Nat) (G : GH) (k : IV → GH → Option R) :
  contC Tryd.prog O lo16 fuel (Tryd.f16.body.getD .skip) [1, 1, 1, 1, 0, 1, 0] (fun e env F G => match e with | .exit _ => none | _ => resC Tryd.prog Tryd.f16 env F G k) (.exit 1) (mkE 76 [(2, .loc 0 0), (8, .loc 1 0)]) [[.int .i64 b0_0, .int .i64 b0_1, .slice b0_2a b0_2n], [.int .i64 b1_0, .int .i64 b1_1, .slice b1_2a b1_2n]] G =
  a_pfm_ReadPPM_01 O k b0_0 b0_1 b0_2a b0_2n b1_0 b1_1 b1_2a b1_2n G := by kernel_rfl

theorem L_pfm_ReadPPM_0_eq {R : Type} (O : Ora R) (fuel : Nat) (k : IV → GH → Option R) :
  (fun (s0a : Option GA) (s0n : Nat) (s41 s42 : Int) (b0_0 b0_1 : Int) (b0_2a : Option GA) (b0_2n : Nat) (b1_0 b1_1 : Int) (b1_2a : Option GA) (b1_2n : Nat) (G : GH) => loopN (loopD Tryd.prog O lo16 fuel (nav (Tryd.f16.body.getD .skip) [1, 1, 1, 1, 0, 1, 0, 0]) 40) fuel (mkE 76 [(0, .slice s0a s0n), (2, .loc 0 0), (8, .loc 1 0), (41, .int .i64 s41), (42, .int .i64 s42)]) [[.int .i64 b0_0, .int .i64 b0_1, .slice b0_2a b0_2n], [.int .i64 b1_0, .int .i64 b1_1, .slice b1_2a b1_2n]] G (contC Tryd.prog O lo16 fuel (Tryd.f16.body.getD .skip) [1, 1, 1, 1, 0, 1, 0] (fun e env F G => match e with | .exit _ => none | _ => resC Tryd.prog Tryd.f16 env F G k))) = L_pfm_ReadPPM_0 O fuel k := by
  funext s0a s0n s41 s42 b0_0 b0_1 b0_2a b0_2n b1_0 b1_1 b1_2a b1_2n G
  simp only [L_pfm_ReadPPM_0, l_pfm_ReadPPM_0_eq, a_pfm_ReadPPM_01_raw]

theorem e_pfm_ReadPPM_raw {R : Type} (O : Ora R) (fuel : Nat) (p0a : Option GA) (p0n : Nat) (G : GH) (k : IV → GH → Option R) :
  bodyC Tryd.prog O lo16 fuel Tryd.f16 [.slice p0a p0n] G k =
  u_pfm_ReadPPM O k (fun s0a s0n s41 s42 b0_0 b0_1 b0_2a b0_2n b1_0 b1_1 b1_2a b1_2n G => loopN (loopD Tryd.prog O lo16 fuel (nav (Tryd.f16.body.getD .skip) [1, 1, 1, 1, 0, 1, 0, 0]) 40) fuel (mkE 76 [(0, .slice s0a s0n), (2, .loc 0 0), (8, .loc 1 0), (41, .int .i64 s41), (42, .int .i64 s42)]) [[.int .i64 b0_0, .int .i64 b0_1, .slice b0_2a b0_2n], [.int .i64 b1_0, .int .i64 b1_1, .slice b1_2a b1_2n]] G (contC Tryd.prog O lo16 fuel (Tryd.f16.body.getD .skip) [1, 1, 1, 1, 0, 1, 0] (fun e env F G => match e with | .exit _ => none | _ => resC Tryd.prog Tryd.f16 env F G k))) p0a p0n G := by kernel_rfl

theorem e_pfm_ReadPPM {R : Type} (O : Ora R) (fuel : Nat) (p0a : Option GA) (p0n : Nat) (G : GH) (k : IV → GH → Option R) :
  bodyC Tryd.prog O lo16 fuel Tryd.f16 [.slice p0a p0n] G k =
  u_pfm_ReadPPM O k (L_pfm_ReadPPM_0 O fuel k) p0a p0n G := by
  rw [e_pfm_ReadPPM_raw, L_pfm_ReadPPM_0_eq]

theorem r_pfm_ReadPPM {R : Type} (fuel n : Nat) (p0a : Option GA) (p0n : Nat) (G : GH) (k : IV → GH → Option R) :
  runC Tryd.prog lo0 fuel (n + 1) 16 [.slice p0a p0n] G k = bodyC Tryd.prog (runC Tryd.prog lo0 fuel n) lo16 fuel Tryd.f16 [.slice p0a p0n] G k := run_body Tryd.func16 rfl rfl

/-! ### lantern/lanternref08.Same -/
def u_ref08_Same_0 {R : Type} (O : Ora R) (Kret : Bool → Int → Int → Option GA → Nat → Int → Int → Option GA → Nat → GH → Option R) (KN : Int → Int → Option GA → Nat → Int → Int → Option GA → Nat → GH → Option R) (b0_0 b0_1 : Int) (b0_2a : Option GA) (b0_2n : Nat) (b1_0 b1_1 : Int) (b1_2a : Option GA) (b1_2n : Nat) (G : GH) : Option R :=
  bif (b0_0 != b1_0) then
  Kret false b0_0 b0_1 b0_2a b0_2n b1_0 b1_1 b1_2a b1_2n G
  else
  bif (b0_1 != b1_1) then
  Kret false b0_0 b0_1 b0_2a b0_2n b1_0 b1_1 b1_2a b1_2n G
  else
  bif ((b0_2n : Int) != (b1_2n : Int)) then
  Kret false b0_0 b0_1 b0_2a b0_2n b1_0 b1_1 b1_2a b1_2n G
  else
  KN b0_0 b0_1 b0_2a b0_2n b1_0 b1_1 b1_2a b1_2n G

def l_ref08_Same_0 {R : Type} (O : Ora R) (Kret : Bool → Int → Int → Option GA → Nat → Int → Int → Option GA → Nat → GH → Option R) (KN : Int → Int → Option GA → Nat → Int → Int → Option GA → Nat → GH → Option R) : Int → Int → Option GA → Nat → Int → Int → Option GA → Nat → GH → Option R := fun b0_0 b0_1 b0_2a b0_2n b1_0 b1_1 b1_2a b1_2n G => u_ref08_Same_0 O Kret KN b0_0 b0_1 b0_2a b0_2n b1_0 b1_1 b1_2a b1_2n G

theorem u_ref08_Same_0_raw {R : Type} (O : Ora R) (fuel : Nat) (b0_0 b0_1 : Int) (b0_2a : Option GA) (b0_2n : Nat) (b1_0 b1_1 : Int) (b1_2a : Option GA) (b1_2n : Nat) (G : GH) (k : Ex → List IV → List (List IV) → GH → Option R) :
  loopD Tryd.prog O lo17 fuel (nav (Tryd.f17.body.getD .skip) [1, 0]) 15 (mkE 56 [(2, .loc 0 0), (3, .loc 1 0)]) [[.int .i64 b0_0, .int .i64 b0_1, .slice b0_2a b0_2n], [.int .i64 b1_0, .int .i64 b1_1, .slice b1_2a b1_2n]] G k =
  u_ref08_Same_0 O (fun s4 b0_0 b0_1 b0_2a b0_2n b1_0 b1_1 b1_2a b1_2n G => k .ret (mkE 56 [(4, .bool s4)]) [[.int .i64 b0_0, .int .i64 b0_1, .slice b0_2a b0_2n], [.int .i64 b1_0, .int .i64 b1_1, .slice b1_2a b1_2n]] G) (fun b0_0 b0_1 b0_2a b0_2n b1_0 b1_1 b1_2a b1_2n G => k .normal (mkE 56 [(2, .loc 0 0), (3, .loc 1 0)]) [[.int .i64 b0_0, .int .i64 b0_1, .slice b0_2a b0_2n], [.int .i64 b1_0, .int .i64 b1_1, .slice b1_2a b1_2n]] G) b0_0 b0_1 b0_2a b0_2n b1_0 b1_1 b1_2a b1_2n G := by kernel_rfl

theorem l_ref08_Same_0_eq {R : Type} (O : Ora R) (fuel : Nat) (k : Ex → List IV → List (List IV) → GH → Option R) : ∀ (b0_0 b0_1 : Int) (b0_2a : Option GA) (b0_2n : Nat) (b1_0 b1_1 : Int) (b1_2a : Option GA) (b1_2n : Nat) (G : GH),
  loopD Tryd.prog O lo17 fuel (nav (Tryd.f17.body.getD .skip) [1, 0]) 15 (mkE 56 [(2, .loc 0 0), (3, .loc 1 0)]) [[.int .i64 b0_0, .int .i64 b0_1, .slice b0_2a b0_2n], [.int .i64 b1_0, .int .i64 b1_1, .slice b1_2a b1_2n]] G k = l_ref08_Same_0 O (fun s4 b0_0 b0_1 b0_2a b0_2n b1_0 b1_1 b1_2a b1_2n G => k .ret (mkE 56 [(4, .bool s4)]) [[.int .i64 b0_0, .int .i64 b0_1, .slice b0_2a b0_2n], [.int .i64 b1_0, .int .i64 b1_1, .slice b1_2a b1_2n]] G) (fun b0_0 b0_1 b0_2a b0_2n b1_0 b1_1 b1_2a b1_2n G => k .normal (mkE 56 [(2, .loc 0 0), (3, .loc 1 0)]) [[.int .i64 b0_0, .int .i64 b0_1, .slice b0_2a b0_2n], [.int .i64 b1_0, .int .i64 b1_1, .slice b1_2a b1_2n]] G) b0_0 b0_1 b0_2a b0_2n b1_0 b1_1 b1_2a b1_2n G := by
  intros
  rw [u_ref08_Same_0_raw]
  simp only [l_ref08_Same_0]

def u_ref08_Same_2 {R : Type} (O : Ora R) (Kret : Bool → Int → Int → Option GA → Nat → Int → Int → Option GA → Nat → GH → Option R) (KN : Int → Int → Int → Int → Option GA → Nat → Int → Int → Option GA → Nat → GH → Option R) (K2 : Int → Int → Int → Option GA → Nat → Int → Int → Option GA → Nat → GH → Option R) (s5 s6 : Int) (b0_0 b0_1 : Int) (b0_2a : Option GA) (b0_2n : Nat) (b1_0 b1_1 : Int) (b1_2a : Option GA) (b1_2n : Nat) (G : GH) : Option R :=
  bif (decide (s6 < (3 : Int))) then
  (idx? b0_2a b0_2n s5 3).bind fun a1 =>
  if 0 ≤ s6 ∧ s6 < (3 : Int) then
  (ldFloat G .f64 (GA.add a1 (Int.toNat s6 * 1))).bind fun x2 =>
  O fn_math_Float64bits [.float .f64 x2] (gfreeze G) fun v3 _ =>
  (ivInt .u64 v3).bind fun x4 =>
  (idx? b1_2a b1_2n s5 3).bind fun a5 =>
  if 0 ≤ s6 ∧ s6 < (3 : Int) then
  (ldFloat G .f64 (GA.add a5 (Int.toNat s6 * 1))).bind fun x6 =>
  O fn_math_Float64bits [.float .f64 x6] (gfreeze G) fun v7 _ =>
  (ivInt .u64 v7).bind fun x8 =>
  bif (x4 != x8) then
  Kret false b0_0 b0_1 b0_2a b0_2n b1_0 b1_1 b1_2a b1_2n G
  else
  KN s5 (IntKind.wrap .i64 (s6 + (1 : Int))) b0_0 b0_1 b0_2a b0_2n b1_0 b1_1 b1_2a b1_2n G
  else none
  else none
  else
  K2 s5 b0_0 b0_1 b0_2a b0_2n b1_0 b1_1 b1_2a b1_2n G

def l_ref08_Same_2 {R : Type} (O : Ora R) (Kret : Bool → Int → Int → Option GA → Nat → Int → Int → Option GA → Nat → GH → Option R) (K2 : Int → Int → Int → Option GA → Nat → Int → Int → Option GA → Nat → GH → Option R) : Nat → Int → Int → Int → Int → Option GA → Nat → Int → Int → Option GA → Nat → GH → Option R
  | 0, _, _, _, _, _, _, _, _, _, _, _ => none
  | n + 1, s5, s6, b0_0, b0_1, b0_2a, b0_2n, b1_0, b1_1, b1_2a, b1_2n, G => u_ref08_Same_2 O Kret (l_ref08_Same_2 O Kret K2 n) K2 s5 s6 b0_0 b0_1 b0_2a b0_2n b1_0 b1_1 b1_2a b1_2n G

theorem u_ref08_Same_2_raw {R : Type} (O : Ora R) (fuel : Nat) (s5 s6 : Int) (b0_0 b0_1 : Int) (b0_2a : Option GA) (b0_2n : Nat) (b1_0 b1_1 : Int) (b1_2a : Option GA) (b1_2n : Nat) (G : GH) (k : Ex → List IV → List (List IV) → GH → Option R) :
  loopD Tryd.prog O lo17 fuel (nav (Tryd.f17.body.getD .skip) [1, 1, 0, 1, 0, 0, 1, 0, 0, 1, 0, 0]) 28 (mkE 56 [(2, .loc 0 0), (3, .loc 1 0), (5, .int .i64 s5), (6, .int .i64 s6)]) [[.int .i64 b0_0, .int .i64 b0_1, .slice b0_2a b0_2n], [.int .i64 b1_0, .int .i64 b1_1, .slice b1_2a b1_2n]] G k =
  u_ref08_Same_2 O (fun s4 b0_0 b0_1 b0_2a b0_2n b1_0 b1_1 b1_2a b1_2n G => k .ret (mkE 56 [(4, .bool s4)]) [[.int .i64 b0_0, .int .i64 b0_1, .slice b0_2a b0_2n], [.int .i64 b1_0, .int .i64 b1_1, .slice b1_2a b1_2n]] G) (fun s5 s6 b0_0 b0_1 b0_2a b0_2n b1_0 b1_1 b1_2a b1_2n G => k .normal (mkE 56 [(2, .loc 0 0), (3, .loc 1 0), (5, .int .i64 s5), (6, .int .i64 s6)]) [[.int .i64 b0_0, .int .i64 b0_1, .slice b0_2a b0_2n], [.int .i64 b1_0, .int .i64 b1_1, .slice b1_2a b1_2n]] G) (fun s5 b0_0 b0_1 b0_2a b0_2n b1_0 b1_1 b1_2a b1_2n G => k (.exit 2) (mkE 56 [(2, .loc 0 0), (3, .loc 1 0), (5, .int .i64 s5)]) [[.int .i64 b0_0, .int .i64 b0_1, .slice b0_2a b0_2n], [.int .i64 b1_0, .int .i64 b1_1, .slice b1_2a b1_2n]] G) s5 s6 b0_0 b0_1 b0_2a b0_2n b1_0 b1_1 b1_2a b1_2n G := by kernel_rfl

theorem l_ref08_Same_2_eq {R : Type} (O : Ora R) (fuel : Nat) (k : Ex → List IV → List (List IV) → GH → Option R) : ∀ (n : Nat) (s5 s6 : Int) (b0_0 b0_1 : Int) (b0_2a : Option GA) (b0_2n : Nat) (b1_0 b1_1 : Int) (b1_2a : Option GA) (b1_2n : Nat) (G : GH),
  loopN (loopD Tryd.prog O lo17 fuel (nav (Tryd.f17.body.getD .skip) [1, 1, 0, 1, 0, 0, 1, 0, 0, 1, 0, 0]) 28) n (mkE 56 [(2, .loc 0 0), (3, .loc 1 0), (5, .int .i64 s5), (6, .int .i64 s6)]) [[.int .i64 b0_0, .int .i64 b0_1, .slice b0_2a b0_2n], [.int .i64 b1_0, .int .i64 b1_1, .slice b1_2a b1_2n]] G k = l_ref08_Same_2 O (fun s4 b0_0 b0_1 b0_2a b0_2n b1_0 b1_1 b1_2a b1_2n G => k .ret (mkE 56 [(4, .bool s4)]) [[.int .i64 b0_0, .int .i64 b0_1, .slice b0_2a b0_2n], [.int .i64 b1_0, .int .i64 b1_1, .slice b1_2a b1_2n]] G) (fun s5 b0_0 b0_1 b0_2a b0_2n b1_0 b1_1 b1_2a b1_2n G => k (.exit 2) (mkE 56 [(2, .loc 0 0), (3, .loc 1 0), (5, .int .i64 s5)]) [[.int .i64 b0_0, .int .i64 b0_1, .slice b0_2a b0_2n], [.int .i64 b1_0, .int .i64 b1_1, .slice b1_2a b1_2n]] G) n s5 s6 b0_0 b0_1 b0_2a b0_2n b1_0 b1_1 b1_2a b1_2n G := by
  intro n
  induction n with
  | zero => intros; rfl
  | succ n ih =>
    intros
    rw [loopN_succ, u_ref08_Same_2_raw]
    simp only [l_ref08_Same_2, loopK_normal, loopK_exit, loopK_ret, ih]

def u_ref08_Same_1 {R : Type} (O : Ora R) (Kret : Bool → Int → Int → Option GA → Nat → Int → Int → Option GA → Nat → GH → Option R) (KN : Int → Int → Int → Option GA → Nat → Int → Int → Option GA → Nat → GH → Option R) (K0 : Int → Int → Option GA → Nat → Int → Int → Option GA → Nat → GH → Option R) (L2 : Int → Int → Int → Int → Option GA → Nat → Int → Int → Option GA → Nat → GH → Option R) (s5 b0_0 b0_1 : Int) (b0_2a : Option GA) (b0_2n : Nat) (b1_0 b1_1 : Int) (b1_2a : Option GA) (b1_2n : Nat) (G : GH) : Option R :=
  bif (decide (s5 < (b0_2n : Int))) then
  L2 s5 (0 : Int) b0_0 b0_1 b0_2a b0_2n b1_0 b1_1 b1_2a b1_2n G
  else
  K0 b0_0 b0_1 b0_2a b0_2n b1_0 b1_1 b1_2a b1_2n G

def a_ref08_Same_2ret {R : Type} (O : Ora R) (Kret : Bool → Int → Int → Option GA → Nat → Int → Int → Option GA → Nat → GH → Option R) (KN : Int → Int → Int → Option GA → Nat → Int → Int → Option GA → Nat → GH → Option R) (K0 : Int → Int → Option GA → Nat → Int → Int → Option GA → Nat → GH → Option R) (s4 : Bool) (b0_0 b0_1 : Int) (b0_2a : Option GA) (b0_2n : Nat) (b1_0 b1_1 : Int) (b1_2a : Option GA) (b1_2n : Nat) (G : GH) : Option R :=
  Kret s4 b0_0 b0_1 b0_2a b0_2n b1_0 b1_1 b1_2a b1_2n G

def a_ref08_Same_22 {R : Type} (O : Ora R) (Kret : Bool → Int → Int → Option GA → Nat → Int → Int → Option GA → Nat → GH → Option R) (KN : Int → Int → Int → Option GA → Nat → Int → Int → Option GA → Nat → GH → Option R) (K0 : Int → Int → Option GA → Nat → Int → Int → Option GA → Nat → GH → Option R) (s5 b0_0 b0_1 : Int) (b0_2a : Option GA) (b0_2n : Nat) (b1_0 b1_1 : Int) (b1_2a : Option GA) (b1_2n : Nat) (G : GH) : Option R :=
  KN (IntKind.wrap .i64 (s5 + (1 : Int))) b0_0 b0_1 b0_2a b0_2n b1_0 b1_1 b1_2a b1_2n G

def L_ref08_Same_2 {R : Type} (O : Ora R) (fuel : Nat) (Kret : Bool → Int → Int → Option GA → Nat → Int → Int → Option GA → Nat → GH → Option R) (KN : Int → Int → Int → Option GA → Nat → Int → Int → Option GA → Nat → GH → Option R) (K0 : Int → Int → Option GA → Nat → Int → Int → Option GA → Nat → GH → Option R) : Int → Int → Int → Int → Option GA → Nat → Int → Int → Option GA → Nat → GH → Option R := fun s5 s6 b0_0 b0_1 b0_2a b0_2n b1_0 b1_1 b1_2a b1_2n G =>
  l_ref08_Same_2 O (a_ref08_Same_2ret O Kret KN K0) (a_ref08_Same_22 O Kret KN K0) fuel s5 s6 b0_0 b0_1 b0_2a b0_2n b1_0 b1_1 b1_2a b1_2n G

theorem a_ref08_Same_2ret_raw {R : Type} (O : Ora R) (fuel : Nat) (s4 : Bool) (b0_0 b0_1 : Int) (b0_2a : Option GA) (b0_2n : Nat) (b1_0 b1_1 : Int) (b1_2a : Option GA) (b1_2n : Nat) (G : GH) (k : Ex → List IV → List (List IV) → GH → Option R) :
  contC Tryd.prog O lo17 fuel (nav (Tryd.f17.body.getD .skip) [1, 1, 0, 1, 0, 0]) [1, 0, 0, 1, 0] (kpD lo17 16 2 k) .ret (mkE 56 [(4, .bool s4)]) [[.int .i64 b0_0, .int .i64 b0_1, .slice b0_2a b0_2n], [.int .i64 b1_0, .int .i64 b1_1, .slice b1_2a b1_2n]] G =
  a_ref08_Same_2ret O (fun s4 b0_0 b0_1 b0_2a b0_2n b1_0 b1_1 b1_2a b1_2n G => k .ret (mkE 56 [(4, .bool s4)]) [[.int .i64 b0_0, .int .i64 b0_1, .slice b0_2a b0_2n], [.int .i64 b1_0, .int .i64 b1_1, .slice b1_2a b1_2n]] G) (fun s5 b0_0 b0_1 b0_2a b0_2n b1_0 b1_1 b1_2a b1_2n G => k .normal (mkE 56 [(2, .loc 0 0), (3, .loc 1 0), (5, .int .i64 s5)]) [[.int .i64 b0_0, .int .i64 b0_1, .slice b0_2a b0_2n], [.int .i64 b1_0, .int .i64 b1_1, .slice b1_2a b1_2n]] G) (fun b0_0 b0_1 b0_2a b0_2n b1_0 b1_1 b1_2a b1_2n G => k (.exit 0) (mkE 56 []) [[.int .i64 b0_0, .int .i64 b0_1, .slice b0_2a b0_2n], [.int .i64 b1_0, .int .i64 b1_1, .slice b1_2a b1_2n]] G) s4 b0_0 b0_1 b0_2a b0_2n b1_0 b1_1 b1_2a b1_2n G := by kernel_rfl

theorem a_ref08_Same_22_raw {R : Type} (O : Ora R) (fuel : Nat) (s5 b0_0 b0_1 : Int) (b0_2a : Option GA) (b0_2n : Nat) (b1_0 b1_1 : Int) (b1_2a : Option GA) (b1_2n : Nat) (G : GH) (k : Ex → List IV → List (List IV) → GH → Option R) :
  contC Tryd.prog O lo17 fuel (nav (Tryd.f17.body.getD .skip) [1, 1, 0, 1, 0, 0]) [1, 0, 0, 1, 0] (kpD lo17 16 2 k) (.exit 2) (mkE 56 [(2, .loc 0 0), (3, .loc 1 0), (5, .int .i64 s5)]) [[.int .i64 b0_0, .int .i64 b0_1, .slice b0_2a b0_2n], [.int .i64 b1_0, .int .i64 b1_1, .slice b1_2a b1_2n]] G =
  a_ref08_Same_22 O (fun s4 b0_0 b0_1 b0_2a b0_2n b1_0 b1_1 b1_2a b1_2n G => k .ret (mkE 56 [(4, .bool s4)]) [[.int .i64 b0_0, .int .i64 b0_1, .slice b0_2a b0_2n], [.int .i64 b1_0, .int .i64 b1_1, .slice b1_2a b1_2n]] G) (fun s5 b0_0 b0_1 b0_2a b0_2n b1_0 b1_1 b1_2a b1_2n G => k .normal (mkE 56 [(2, .loc 0 0), (3, .loc 1 0), (5, .int .i64 s5)]) [[.int .i64 b0_0, .int .i64 b0_1, .slice b0_2a b0_2n], [.int .i64 b1_0, .int .i64 b1_1, .slice b1_2a b1_2n]] G) (fun b0_0 b0_1 b0_2a b0_2n b1_0 b1_1 b1_2a b1_2n G => k (.exit 0) (mkE 56 []) [[.int .i64 b0_0, .int .i64 b0_1, .slice b0_2a b0_2n], [.int .i64 b1_0, .int .i64 b1_1, .slice b1_2a b1_2n]] G) s5 b0_0 b0_1 b0_2a b0_2n b1_0 b1_1 b1_2a b1_2n G := by kernel_rfl

theorem L_ref08_Same_2_eq {R : Type} (O : Ora R) (fuel : Nat) (k : Ex → List IV → List (List IV) → GH → Option R) :
  (fun (s5 s6 : Int) (b0_0 b0_1 : Int) (b0_2a : Option GA) (b0_2n : Nat) (b1_0 b1_1 : Int) (b1_2a : Option GA) (b1_2n : Nat) (G : GH) => loopN (loopD Tryd.prog O lo17 fuel (nav (Tryd.f17.body.getD .skip) [1, 1, 0, 1, 0, 0, 1, 0, 0, 1, 0, 0]) 28) fuel (mkE 56 [(2, .loc 0 0), (3, .loc 1 0), (5, .int .i64 s5), (6, .int .i64 s6)]) [[.int .i64 b0_0, .int .i64 b0_1, .slice b0_2a b0_2n], [.int .i64 b1_0, .int .i64 b1_1, .slice b1_2a b1_2n]] G (contC Tryd.prog O lo17 fuel (nav (Tryd.f17.body.getD .skip) [1, 1, 0, 1, 0, 0]) [1, 0, 0, 1, 0] (kpD lo17 16 2 k))) = L_ref08_Same_2 O fuel (fun (s4 : Bool) (b0_0 b0_1 : Int) (b0_2a : Option GA) (b0_2n : Nat) (b1_0 b1_1 : Int) (b1_2a : Option GA) (b1_2n : Nat) (G : GH) => k .ret (mkE 56 [(4, .bool s4)]) [[.int .i64 b0_0, .int .i64 b0_1, .slice b0_2a b0_2n], [.int .i64 b1_0, .int .i64 b1_1, .slice b1_2a b1_2n]] G) (fun (s5 b0_0 b0_1 : Int) (b0_2a : Option GA) (b0_2n : Nat) (b1_0 b1_1 : Int) (b1_2a : Option GA) (b1_2n : Nat) (G : GH) => k .normal (mkE 56 [(2, .loc 0 0), (3, .loc 1 0), (5, .int .i64 s5)]) [[.int .i64 b0_0, .int .i64 b0_1, .slice b0_2a b0_2n], [.int .i64 b1_0, .int .i64 b1_1, .slice b1_2a b1_2n]] G) (fun (b0_0 b0_1 : Int) (b0_2a : Option GA) (b0_2n : Nat) (b1_0 b1_1 : Int) (b1_2a : Option GA) (b1_2n : Nat) (G : GH) => k (.exit 0) (mkE 56 []) [[.int .i64 b0_0, .int .i64 b0_1, .slice b0_2a b0_2n], [.int .i64 b1_0, .int .i64 b1_1, .slice b1_2a b1_2n]] G) := by
  funext s5 s6 b0_0 b0_1 b0_2a b0_2n b1_0 b1_1 b1_2a b1_2n G
  simp only [L_ref08_Same_2, l_ref08_Same_2_eq, a_ref08_Same_2ret_raw, a_ref08_Same_22_raw]

def l_ref08_Same_1 {R : Type} (O : Ora R) (fuel : Nat) (Kret : Bool → Int → Int → Option GA → Nat → Int → Int → Option GA → Nat → GH → Option R) (K0 : Int → Int → Option GA → Nat → Int → Int → Option GA → Nat → GH → Option R) : Nat → Int → Int → Int → Option GA → Nat → Int → Int → Option GA → Nat → GH → Option R
  | 0, _, _, _, _, _, _, _, _, _, _ => none
  | n + 1, s5, b0_0, b0_1, b0_2a, b0_2n, b1_0, b1_1, b1_2a, b1_2n, G => u_ref08_Same_1 O Kret (l_ref08_Same_1 O fuel Kret K0 n) K0 (L_ref08_Same_2 O fuel Kret (l_ref08_Same_1 O fuel Kret K0 n) K0) s5 b0_0 b0_1 b0_2a b0_2n b1_0 b1_1 b1_2a b1_2n G

theorem u_ref08_Same_1_raw {R : Type} (O : Ora R) (fuel : Nat) (s5 b0_0 b0_1 : Int) (b0_2a : Option GA) (b0_2n : Nat) (b1_0 b1_1 : Int) (b1_2a : Option GA) (b1_2n : Nat) (G : GH) (k : Ex → List IV → List (List IV) → GH → Option R) :
  loopD Tryd.prog O lo17 fuel (nav (Tryd.f17.body.getD .skip) [1, 1, 0, 1, 0, 0]) 16 (mkE 56 [(2, .loc 0 0), (3, .loc 1 0), (5, .int .i64 s5)]) [[.int .i64 b0_0, .int .i64 b0_1, .slice b0_2a b0_2n], [.int .i64 b1_0, .int .i64 b1_1, .slice b1_2a b1_2n]] G k =
  u_ref08_Same_1 O (fun s4 b0_0 b0_1 b0_2a b0_2n b1_0 b1_1 b1_2a b1_2n G => k .ret (mkE 56 [(4, .bool s4)]) [[.int .i64 b0_0, .int .i64 b0_1, .slice b0_2a b0_2n], [.int .i64 b1_0, .int .i64 b1_1, .slice b1_2a b1_2n]] G) (fun s5 b0_0 b0_1 b0_2a b0_2n b1_0 b1_1 b1_2a b1_2n G => k .normal (mkE 56 [(2, .loc 0 0), (3, .loc 1 0), (5, .int .i64 s5)]) [[.int .i64 b0_0, .int .i64 b0_1, .slice b0_2a b0_2n], [.int .i64 b1_0, .int .i64 b1_1, .slice b1_2a b1_2n]] G) (fun b0_0 b0_1 b0_2a b0_2n b1_0 b1_1 b1_2a b1_2n G => k (.exit 0) (mkE 56 []) [[.int .i64 b0_0, .int .i64 b0_1, .slice b0_2a b0_2n], [.int .i64 b1_0, .int .i64 b1_1, .slice b1_2a b1_2n]] G) (fun s5 s6 b0_0 b0_1 b0_2a b0_2n b1_0 b1_1 b1_2a b1_2n G => loopN (loopD Tryd.prog O lo17 fuel (nav (Tryd.f17.body.getD .skip) [1, 1, 0, 1, 0, 0, 1, 0, 0, 1, 0, 0]) 28) fuel (mkE 56 [(2, .loc 0 0), (3, .loc 1 0), (5, .int .i64 s5), (6, .int .i64 s6)]) [[.int .i64 b0_0, .int .i64 b0_1, .slice b0_2a b0_2n], [.int .i64 b1_0, .int .i64 b1_1, .slice b1_2a b1_2n]] G (contC Tryd.prog O lo17 fuel (nav (Tryd.f17.body.getD .skip) [1, 1, 0, 1, 0, 0]) [1, 0, 0, 1, 0] (kpD lo17 16 2 k))) s5 b0_0 b0_1 b0_2a b0_2n b1_0 b1_1 b1_2a b1_2n G := by kernel_rfl

theorem l_ref08_Same_1_eq {R : Type} (O : Ora R) (fuel : Nat) (k : Ex → List IV → List (List IV) → GH → Option R) : ∀ (n : Nat) (s5 b0_0 b0_1 : Int) (b0_2a : Option GA) (b0_2n : Nat) (b1_0 b1_1 : Int) (b1_2a : Option GA) (b1_2n : Nat) (G : GH),
  loopN (loopD Tryd.prog O lo17 fuel (nav (Tryd.f17.body.getD .skip) [1, 1, 0, 1, 0, 0]) 16) n (mkE 56 [(2, .loc 0 0), (3, .loc 1 0), (5, .int .i64 s5)]) [[.int .i64 b0_0, .int .i64 b0_1, .slice b0_2a b0_2n], [.int .i64 b1_0, .int .i64 b1_1, .slice b1_2a b1_2n]] G k = l_ref08_Same_1 O fuel (fun s4 b0_0 b0_1 b0_2a b0_2n b1_0 b1_1 b1_2a b1_2n G => k .ret (mkE 56 [(4, .bool s4)]) [[.int .i64 b0_0, .int .i64 b0_1, .slice b0_2a b0_2n], [.int .i64 b1_0, .int .i64 b1_1, .slice b1_2a b1_2n]] G) (fun b0_0 b0_1 b0_2a b0_2n b1_0 b1_1 b1_2a b1_2n G => k (.exit 0) (mkE 56 []) [[.int .i64 b0_0, .int .i64 b0_1, .slice b0_2a b0_2n], [.int .i64 b1_0, .int .i64 b1_1, .slice b1_2a b1_2n]] G) n s5 b0_0 b0_1 b0_2a b0_2n b1_0 b1_1 b1_2a b1_2n G := by
  intro n
  induction n with
  | zero => intros; rfl
  | succ n ih =>
    intros
    rw [loopN_succ, u_ref08_Same_1_raw]
    simp only [l_ref08_Same_1, loopK_normal, loopK_exit, loopK_ret, ih, L_ref08_Same_2_eq]

def u_ref08_Same {R : Type} (O : Ora R) (k : IV → GH → Option R) (L0 : Int → Int → Option GA → Nat → Int → Int → Option GA → Nat → GH → Option R) (p0_0 p0_1 : Int) (p0_2a : Option GA) (p0_2n : Nat) (p1_0 p1_1 : Int) (p1_2a : Option GA) (p1_2n : Nat) (G : GH) : Option R :=
  L0 p0_0 p0_1 p0_2a p0_2n p1_0 p1_1 p1_2a p1_2n G

def a_ref08_Same_0ret {R : Type} (O : Ora R) (k : IV → GH → Option R) (s4 : Bool) (b0_0 b0_1 : Int) (b0_2a : Option GA) (b0_2n : Nat) (b1_0 b1_1 : Int) (b1_2a : Option GA) (b1_2n : Nat) (G : GH) : Option R :=
  k (.bool s4) G

def a_ref08_Same_0N {R : Type} (O : Ora R) (k : IV → GH → Option R) (L1 : Int → Int → Int → Option GA → Nat → Int → Int → Option GA → Nat → GH → Option R) (b0_0 b0_1 : Int) (b0_2a : Option GA) (b0_2n : Nat) (b1_0 b1_1 : Int) (b1_2a : Option GA) (b1_2n : Nat) (G : GH) : Option R :=
  L1 (0 : Int) b0_0 b0_1 b0_2a b0_2n b1_0 b1_1 b1_2a b1_2n G

def a_ref08_Same_1ret {R : Type} (O : Ora R) (k : IV → GH → Option R) (s4 : Bool) (b0_0 b0_1 : Int) (b0_2a : Option GA) (b0_2n : Nat) (b1_0 b1_1 : Int) (b1_2a : Option GA) (b1_2n : Nat) (G : GH) : Option R :=
  k (.bool s4) G

def a_ref08_Same_10 {R : Type} (O : Ora R) (k : IV → GH → Option R) (b0_0 b0_1 : Int) (b0_2a : Option GA) (b0_2n : Nat) (b1_0 b1_1 : Int) (b1_2a : Option GA) (b1_2n : Nat) (G : GH) : Option R :=
  k (.bool true) G

def L_ref08_Same_1 {R : Type} (O : Ora R) (fuel : Nat) (k : IV → GH → Option R) : Int → Int → Int → Option GA → Nat → Int → Int → Option GA → Nat → GH → Option R := fun s5 b0_0 b0_1 b0_2a b0_2n b1_0 b1_1 b1_2a b1_2n G =>
  l_ref08_Same_1 O fuel (a_ref08_Same_1ret O k) (a_ref08_Same_10 O k) fuel s5 b0_0 b0_1 b0_2a b0_2n b1_0 b1_1 b1_2a b1_2n G

theorem a_ref08_Same_1ret_raw {R : Type} (O : Ora R) (fuel : Nat) (s4 : Bool) (b0_0 b0_1 : Int) (b0_2a : Option GA) (b0_2n : Nat) (b1_0 b1_1 : Int) (b1_2a : Option GA) (b1_2n : Nat) (G : GH) (k : IV → GH → Option R) :
  contC Tryd.prog O lo17 fuel (Tryd.f17.body.getD .skip) [1, 1, 0, 1, 0] (fun e env F G => match e with | .exit _ => none | _ => resC Tryd.prog Tryd.f17 env F G k) .ret (mkE 56 [(4, .bool s4)]) [[.int .i64 b0_0, .int .i64 b0_1, .slice b0_2a b0_2n], [.int .i64 b1_0, .int .i64 b1_1, .slice b1_2a b1_2n]] G =
  a_ref08_Same_1ret O k s4 b0_0 b0_1 b0_2a b0_2n b1_0 b1_1 b1_2a b1_2n G := by kernel_rfl

theorem a_ref08_Same_10_raw {R : Type} (O : Ora R) (fuel : Nat) (b0_0 b0_1 : Int) (b0_2a : Option GA) (b0_2n : Nat) (b1_0 b1_1 : Int) (b1_2a : Option GA) (b1_2n : Nat) (G : GH) (k : IV → GH → Option R) :
  contC Tryd.prog O lo17 fuel (Tryd.f17.body.getD .skip) [1, 1, 0, 1, 0] (fun e env F G => match e with | .exit _ => none | _ => resC Tryd.prog Tryd.f17 env F G k) (.exit 0) (mkE 56 []) [[.int .i64 b0_0, .int .i64 b0_1, .slice b0_2a b0_2n], [.int .i64 b1_0, .int .i64 b1_1, .slice b1_2a b1_2n]] G =
  a_ref08_Same_10 O k b0_0 b0_1 b0_2a b0_2n b1_0 b1_1 b1_2a b1_2n G := by kernel_rfl

theorem L_ref08_Same_1_eq {R : Type} (O : Ora R) (fuel : Nat) (k : IV → GH → Option R) :
  (fun (s5 b0_0 b0_1 : Int) (b0_2a : Option GA) (b0_2n : Nat) (b1_0 b1_1 : Int) (b1_2a : Option GA) (b1_2n : Nat) (G : GH) => loopN (loopD Tryd.prog O lo17 fuel (nav (Tryd.f17.body.getD .skip) [1, 1, 0, 1, 0, 0]) 16) fuel (mkE 56 [(2, .loc 0 0), (3, .loc 1 0), (5, .int .i64 s5)]) [[.int .i64 b0_0, .int .i64 b0_1, .slice b0_2a b0_2n], [.int .i64 b1_0, .int .i64 b1_1, .slice b1_2a b1_2n]] G (contC Tryd.prog O lo17 fuel (Tryd.f17.body.getD .skip) [1, 1, 0, 1, 0] (fun e env F G => match e with | .exit _ => none | _ => resC Tryd.prog Tryd.f17 env F G k))) = L_ref08_Same_1 O fuel k := by
  funext s5 b0_0 b0_1 b0_2a b0_2n b1_0 b1_1 b1_2a b1_2n G
  simp only [L_ref08_Same_1, l_ref08_Same_1_eq, a_ref08_Same_1ret_raw, a_ref08_Same_10_raw]

def L_ref08_Same_0 {R : Type} (O : Ora R) (fuel : Nat) (k : IV → GH → Option R) : Int → Int → Option GA → Nat → Int → Int → Option GA → Nat → GH → Option R := fun b0_0 b0_1 b0_2a b0_2n b1_0 b1_1 b1_2a b1_2n G =>
  stepN fuel (l_ref08_Same_0 O (a_ref08_Same_0ret O k) (a_ref08_Same_0N O k (L_ref08_Same_1 O fuel k)) b0_0 b0_1 b0_2a b0_2n b1_0 b1_1 b1_2a b1_2n G)

theorem a_ref08_Same_0ret_raw {R : Type} (O : Ora R) (fuel : Nat) (s4 : Bool) (b0_0 b0_1 : Int) (b0_2a : Option GA) (b0_2n : Nat) (b1_0 b1_1 : Int) (b1_2a : Option GA) (b1_2n : Nat) (G : GH) (k : IV → GH → Option R) :
  contC Tryd.prog O lo17 fuel (Tryd.f17.body.getD .skip) [1, 0] (fun e env F G => match e with | .exit _ => none | _ => resC Tryd.prog Tryd.f17 env F G k) .ret (mkE 56 [(4, .bool s4)]) [[.int .i64 b0_0, .int .i64 b0_1, .slice b0_2a b0_2n], [.int .i64 b1_0, .int .i64 b1_1, .slice b1_2a b1_2n]] G =
  a_ref08_Same_0ret O k s4 b0_0 b0_1 b0_2a b0_2n b1_0 b1_1 b1_2a b1_2n G := by kernel_rfl

theorem a_ref08_Same_0N_raw {R : Type} (O : Ora R) (fuel : Nat) (b0_0 b0_1 : Int) (b0_2a : Option GA) (b0_2n : Nat) (b1_0 b1_1 : Int) (b1_2a : Option GA) (b1_2n : Nat) (G : GH) (k : IV → GH → Option R) :
  contC Tryd.prog O lo17 fuel (Tryd.f17.body.getD .skip) [1, 0] (fun e env F G => match e with | .exit _ => none | _ => resC Tryd.prog Tryd.f17 env F G k) .normal (mkE 56 [(2, .loc 0 0), (3, .loc 1 0)]) [[.int .i64 b0_0, .int .i64 b0_1, .slice b0_2a b0_2n], [.int .i64 b1_0, .int .i64 b1_1, .slice b1_2a b1_2n]] G =
  a_ref08_Same_0N O k (fun s5 b0_0 b0_1 b0_2a b0_2n b1_0 b1_1 b1_2a b1_2n G => loopN (loopD Tryd.prog O lo17 fuel (nav (Tryd.f17.body.getD .skip) [1, 1, 0, 1, 0, 0]) 16) fuel (mkE 56 [(2, .loc 0 0), (3, .loc 1 0), (5, .int .i64 s5)]) [[.int .i64 b0_0, .int .i64 b0_1, .slice b0_2a b0_2n], [.int .i64 b1_0, .int .i64 b1_1, .slice b1_2a b1_2n]] G (contC Tryd.prog O lo17 fuel (Tryd.f17.body.getD .skip) [1, 1, 0, 1, 0] (fun e env F G => match e with | .exit _ => none | _ => resC Tryd.prog Tryd.f17 env F G k))) b0_0 b0_1 b0_2a b0_2n b1_0 b1_1 b1_2a b1_2n G := by kernel_rfl

theorem L_ref08_Same_0_eq {R : Type} (O : Ora R) (fuel : Nat) (k : IV → GH → Option R) :
  (fun (b0_0 b0_1 : Int) (b0_2a : Option GA) (b0_2n : Nat) (b1_0 b1_1 : Int) (b1_2a : Option GA) (b1_2n : Nat) (G : GH) => stepN fuel (loopD Tryd.prog O lo17 fuel (nav (Tryd.f17.body.getD .skip) [1, 0]) 15 (mkE 56 [(2, .loc 0 0), (3, .loc 1 0)]) [[.int .i64 b0_0, .int .i64 b0_1, .slice b0_2a b0_2n], [.int .i64 b1_0, .int .i64 b1_1, .slice b1_2a b1_2n]] G (contC Tryd.prog O lo17 fuel (Tryd.f17.body.getD .skip) [1, 0] (fun e env F G => match e with | .exit _ => none | _ => resC Tryd.prog Tryd.f17 env F G k)))) = L_ref08_Same_0 O fuel k := by
  funext b0_0 b0_1 b0_2a b0_2n b1_0 b1_1 b1_2a b1_2n G
  simp only [L_ref08_Same_0, l_ref08_Same_0_eq, a_ref08_Same_0ret_raw, a_ref08_Same_0N_raw, L_ref08_Same_1_eq]

theorem e_ref08_Same_raw {R : Type} (O : Ora R) (fuel : Nat) (p0_0 p0_1 : Int) (p0_2a : Option GA) (p0_2n : Nat) (p1_0 p1_1 : Int) (p1_2a : Option GA) (p1_2n : Nat) (G : GH) (k : IV → GH → Option R) :
  bodyC Tryd.prog O lo17 fuel Tryd.f17 [.agg [.int .i64 p0_0, .int .i64 p0_1, .slice p0_2a p0_2n], .agg [.int .i64 p1_0, .int .i64 p1_1, .slice p1_2a p1_2n]] G k =
  u_ref08_Same O k (fun b0_0 b0_1 b0_2a b0_2n b1_0 b1_1 b1_2a b1_2n G => stepN fuel (loopD Tryd.prog O lo17 fuel (nav (Tryd.f17.body.getD .skip) [1, 0]) 15 (mkE 56 [(2, .loc 0 0), (3, .loc 1 0)]) [[.int .i64 b0_0, .int .i64 b0_1, .slice b0_2a b0_2n], [.int .i64 b1_0, .int .i64 b1_1, .slice b1_2a b1_2n]] G (contC Tryd.prog O lo17 fuel (Tryd.f17.body.getD .skip) [1, 0] (fun e env F G => match e with | .exit _ => none | _ => resC Tryd.prog Tryd.f17 env F G k)))) p0_0 p0_1 p0_2a p0_2n p1_0 p1_1 p1_2a p1_2n G := by kernel_rfl

theorem e_ref08_Same {R : Type} (O : Ora R) (fuel : Nat) (p0_0 p0_1 : Int) (p0_2a : Option GA) (p0_2n : Nat) (p1_0 p1_1 : Int) (p1_2a : Option GA) (p1_2n : Nat) (G : GH) (k : IV → GH → Option R) :
  bodyC Tryd.prog O lo17 fuel Tryd.f17 [.agg [.int .i64 p0_0, .int .i64 p0_1, .slice p0_2a p0_2n], .agg [.int .i64 p1_0, .int .i64 p1_1, .slice p1_2a p1_2n]] G k =
  u_ref08_Same O k (L_ref08_Same_0 O fuel k) p0_0 p0_1 p0_2a p0_2n p1_0 p1_1 p1_2a p1_2n G := by
  rw [e_ref08_Same_raw, L_ref08_Same_0_eq]

theorem r_ref08_Same {R : Type} (fuel n : Nat) (p0_0 p0_1 : Int) (p0_2a : Option GA) (p0_2n : Nat) (p1_0 p1_1 : Int) (p1_2a : Option GA) (p1_2n : Nat) (G : GH) (k : IV → GH → Option R) :
  runC Tryd.prog lo0 fuel (n + 1) 17 [.agg [.int .i64 p0_0, .int .i64 p0_1, .slice p0_2a p0_2n], .agg [.int .i64 p1_0, .int .i64 p1_1, .slice p1_2a p1_2n]] G k = bodyC Tryd.prog (runC Tryd.prog lo0 fuel n) lo17 fuel Tryd.f17 [.agg [.int .i64 p0_0, .int .i64 p0_1, .slice p0_2a p0_2n], .agg [.int .i64 p1_0, .int .i64 p1_1, .slice p1_2a p1_2n]] G k := run_body Tryd.func17 rfl rfl

/-! ### lantern/lanternlaw08.PfmBytes -/
def u_law08_PfmBytes_0 {R : Type} (O : Ora R) (Kret : Bool → GH → Option R) (KN : Int → Int → Option GA → Nat → Nat → Nat → Int → GH → Option R) (K0 : Int → Int → Option GA → Nat → Nat → Nat → GH → Option R) (s0 s1 : Int) (s2a : Option GA) (s2n s3 s4 : Nat) (s11 : Int) (G : GH) : Option R :=
  bif (decide (s11 < (256 : Int))) then
  ((FloatKind.format .f64).div (FloatKind.nearest .f64 s11) (4643176031446892544 : Nat)).bind fun r1 =>
  O fn_pfm_Byte [.float .f64 r1] G fun v2 G3 =>
  (ivInt .u8 v2).bind fun x4 =>
  bif (x4 != (IntKind.wrap .u8 s11)) then
  Kret false G3
  else
  KN s0 s1 s2a s2n s3 s4 (IntKind.wrap .i64 (s11 + (1 : Int))) G3
  else
  K0 s0 s1 s2a s2n s3 s4 G

def l_law08_PfmBytes_0 {R : Type} (O : Ora R) (Kret : Bool → GH → Option R) (K0 : Int → Int → Option GA → Nat → Nat → Nat → GH → Option R) : Nat → Int → Int → Option GA → Nat → Nat → Nat → Int → GH → Option R
  | 0, _, _, _, _, _, _, _, _ => none
  | n + 1, s0, s1, s2a, s2n, s3, s4, s11, G => u_law08_PfmBytes_0 O Kret (l_law08_PfmBytes_0 O Kret K0 n) K0 s0 s1 s2a s2n s3 s4 s11 G

theorem u_law08_PfmBytes_0_raw {R : Type} (O : Ora R) (fuel : Nat) (s0 s1 : Int) (s2a : Option GA) (s2n s3 s4 : Nat) (s11 : Int) (G : GH) (k : Ex → List IV → List (List IV) → GH → Option R) :
  loopD Tryd.prog O lo5 fuel (nav (Tryd.f5.body.getD .skip) [1, 1, 0, 1, 0, 0]) 16 (mkE 135 [(0, .int .i64 s0), (1, .int .i64 s1), (2, .slice s2a s2n), (3, .float .f64 s3), (4, .float .f64 s4), (11, .int .i64 s11)]) [] G k =
  u_law08_PfmBytes_0 O (fun s10 G => k .ret (mkE 135 [(10, .bool s10)]) [] G) (fun s0 s1 s2a s2n s3 s4 s11 G => k .normal (mkE 135 [(0, .int .i64 s0), (1, .int .i64 s1), (2, .slice s2a s2n), (3, .float .f64 s3), (4, .float .f64 s4), (11, .int .i64 s11)]) [] G) (fun s0 s1 s2a s2n s3 s4 G => k (.exit 0) (mkE 135 [(0, .int .i64 s0), (1, .int .i64 s1), (2, .slice s2a s2n), (3, .float .f64 s3), (4, .float .f64 s4)]) [] G) s0 s1 s2a s2n s3 s4 s11 G := by kernel_rfl

theorem l_law08_PfmBytes_0_eq {R : Type} (O : Ora R) (fuel : Nat) (k : Ex → List IV → List (List IV) → GH → Option R) : ∀ (n : Nat) (s0 s1 : Int) (s2a : Option GA) (s2n s3 s4 : Nat) (s11 : Int) (G : GH),
  loopN (loopD Tryd.prog O lo5 fuel (nav (Tryd.f5.body.getD .skip) [1, 1, 0, 1, 0, 0]) 16) n (mkE 135 [(0, .int .i64 s0), (1, .int .i64 s1), (2, .slice s2a s2n), (3, .float .f64 s3), (4, .float .f64 s4), (11, .int .i64 s11)]) [] G k = l_law08_PfmBytes_0 O (fun s10 G => k .ret (mkE 135 [(10, .bool s10)]) [] G) (fun s0 s1 s2a s2n s3 s4 G => k (.exit 0) (mkE 135 [(0, .int .i64 s0), (1, .int .i64 s1), (2, .slice s2a s2n), (3, .float .f64 s3), (4, .float .f64 s4)]) [] G) n s0 s1 s2a s2n s3 s4 s11 G := by
  intro n
  induction n with
  | zero => intros; rfl
  | succ n ih =>
    intros
    rw [loopN_succ, u_law08_PfmBytes_0_raw]
    simp only [l_law08_PfmBytes_0, loopK_normal, loopK_exit, loopK_ret, ih]

def u_law08_PfmBytes_1 {R : Type} (O : Ora R) (Kret : Bool → GH → Option R) (KN : Int → Int → Option GA → Nat → GH → Option R) (s0 s1 : Int) (s2a : Option GA) (s2n s3 s4 : Nat) (G : GH) : Option R :=
  bif (fle .f64 s3 s4) then
  O fn_pfm_Byte [.float .f64 s3] G fun v1 G2 =>
  (ivInt .u8 v1).bind fun x3 =>
  O fn_pfm_Byte [.float .f64 s4] G2 fun v4 G5 =>
  (ivInt .u8 v4).bind fun x6 =>
  bif (decide (x3 > x6)) then
  Kret false G5
  else
  KN s0 s1 s2a s2n G5
  else
  KN s0 s1 s2a s2n G

def l_law08_PfmBytes_1 {R : Type} (O : Ora R) (Kret : Bool → GH → Option R) (KN : Int → Int → Option GA → Nat → GH → Option R) : Int → Int → Option GA → Nat → Nat → Nat → GH → Option R := fun s0 s1 s2a s2n s3 s4 G => u_law08_PfmBytes_1 O Kret KN s0 s1 s2a s2n s3 s4 G

theorem u_law08_PfmBytes_1_raw {R : Type} (O : Ora R) (fuel : Nat) (s0 s1 : Int) (s2a : Option GA) (s2n s3 s4 : Nat) (G : GH) (k : Ex → List IV → List (List IV) → GH → Option R) :
  loopD Tryd.prog O lo5 fuel (nav (Tryd.f5.body.getD .skip) [1, 1, 1, 0]) 43 (mkE 135 [(0, .int .i64 s0), (1, .int .i64 s1), (2, .slice s2a s2n), (3, .float .f64 s3), (4, .float .f64 s4)]) [] G k =
  u_law08_PfmBytes_1 O (fun s10 G => k .ret (mkE 135 [(10, .bool s10)]) [] G) (fun s0 s1 s2a s2n G => k .normal (mkE 135 [(0, .int .i64 s0), (1, .int .i64 s1), (2, .slice s2a s2n)]) [] G) s0 s1 s2a s2n s3 s4 G := by kernel_rfl

theorem l_law08_PfmBytes_1_eq {R : Type} (O : Ora R) (fuel : Nat) (k : Ex → List IV → List (List IV) → GH → Option R) : ∀ (s0 s1 : Int) (s2a : Option GA) (s2n s3 s4 : Nat) (G : GH),
  loopD Tryd.prog O lo5 fuel (nav (Tryd.f5.body.getD .skip) [1, 1, 1, 0]) 43 (mkE 135 [(0, .int .i64 s0), (1, .int .i64 s1), (2, .slice s2a s2n), (3, .float .f64 s3), (4, .float .f64 s4)]) [] G k = l_law08_PfmBytes_1 O (fun s10 G => k .ret (mkE 135 [(10, .bool s10)]) [] G) (fun s0 s1 s2a s2n G => k .normal (mkE 135 [(0, .int .i64 s0), (1, .int .i64 s1), (2, .slice s2a s2n)]) [] G) s0 s1 s2a s2n s3 s4 G := by
  intros
  rw [u_law08_PfmBytes_1_raw]
  simp only [l_law08_PfmBytes_1]

def u_law08_PfmBytes_2 {R : Type} (O : Ora R) (KN : Int → Int → Option GA → Nat → Int → Int → Int → Option GA → Nat → GH → Option R) (K2 : Int → Int → Option GA → Nat → Int → Int → Option GA → Nat → GH → Option R) (s0 s1 : Int) (s2a : Option GA) (s2n : Nat) (s13 b0_0 b0_1 : Int) (b0_2a : Option GA) (b0_2n : Nat) (G : GH) : Option R :=
  bif (decide (s13 < (IntKind.wrap .i64 (s0 * s1)))) then
  (idx? s2a s2n (IntKind.wrap .i64 ((3 : Int) * s13)) 1).bind fun a1 =>
  (ldInt G .u8 a1).bind fun x2 =>
  ((FloatKind.format .f64).div (FloatKind.nearest .f64 x2) (4643176031446892544 : Nat)).bind fun r3 =>
  (idx? s2a s2n (IntKind.wrap .i64 ((IntKind.wrap .i64 ((3 : Int) * s13)) + (1 : Int))) 1).bind fun a4 =>
  (ldInt G .u8 a4).bind fun x5 =>
  ((FloatKind.format .f64).div (FloatKind.nearest .f64 x5) (4643176031446892544 : Nat)).bind fun r6 =>
  (idx? s2a s2n (IntKind.wrap .i64 ((IntKind.wrap .i64 ((3 : Int) * s13)) + (2 : Int))) 1).bind fun a7 =>
  (ldInt G .u8 a7).bind fun x8 =>
  ((FloatKind.format .f64).div (FloatKind.nearest .f64 x8) (4643176031446892544 : Nat)).bind fun r9 =>
  (grd (gnew G [.float .f64 r3, .float .f64 r6, .float .f64 r9] 39) (gaddr G) (1 * 3)).bind fun x10 =>
  (gappend (gnew G [.float .f64 r3, .float .f64 r6, .float .f64 r9] 39) 39 3 24 b0_2a b0_2n x10 1).bind fun r11 =>
  KN s0 s1 s2a s2n (IntKind.wrap .i64 (s13 + (1 : Int))) b0_0 b0_1 r11.1 (b0_2n + 1) r11.2
  else
  K2 s0 s1 s2a s2n b0_0 b0_1 b0_2a b0_2n G

def l_law08_PfmBytes_2 {R : Type} (O : Ora R) (K2 : Int → Int → Option GA → Nat → Int → Int → Option GA → Nat → GH → Option R) : Nat → Int → Int → Option GA → Nat → Int → Int → Int → Option GA → Nat → GH → Option R
  | 0, _, _, _, _, _, _, _, _, _, _ => none
  | n + 1, s0, s1, s2a, s2n, s13, b0_0, b0_1, b0_2a, b0_2n, G => u_law08_PfmBytes_2 O (l_law08_PfmBytes_2 O K2 n) K2 s0 s1 s2a s2n s13 b0_0 b0_1 b0_2a b0_2n G

theorem u_law08_PfmBytes_2_raw {R : Type} (O : Ora R) (fuel : Nat) (s0 s1 : Int) (s2a : Option GA) (s2n : Nat) (s13 b0_0 b0_1 : Int) (b0_2a : Option GA) (b0_2n : Nat) (G : GH) (k : Ex → List IV → List (List IV) → GH → Option R) :
  loopD Tryd.prog O lo5 fuel (nav (Tryd.f5.body.getD .skip) [1, 1, 1, 1, 1, 1, 1, 0, 1, 0, 0]) 60 (mkE 135 [(0, .int .i64 s0), (1, .int .i64 s1), (2, .slice s2a s2n), (12, .loc 0 0), (13, .int .i64 s13)]) [[.int .i64 b0_0, .int .i64 b0_1, .slice b0_2a b0_2n]] G k =
  u_law08_PfmBytes_2 O (fun s0 s1 s2a s2n s13 b0_0 b0_1 b0_2a b0_2n G => k .normal (mkE 135 [(0, .int .i64 s0), (1, .int .i64 s1), (2, .slice s2a s2n), (12, .loc 0 0), (13, .int .i64 s13)]) [[.int .i64 b0_0, .int .i64 b0_1, .slice b0_2a b0_2n]] G) (fun s0 s1 s2a s2n b0_0 b0_1 b0_2a b0_2n G => k (.exit 2) (mkE 135 [(0, .int .i64 s0), (1, .int .i64 s1), (2, .slice s2a s2n), (12, .loc 0 0)]) [[.int .i64 b0_0, .int .i64 b0_1, .slice b0_2a b0_2n]] G) s0 s1 s2a s2n s13 b0_0 b0_1 b0_2a b0_2n G := by kernel_rfl

theorem l_law08_PfmBytes_2_eq {R : Type} (O : Ora R) (fuel : Nat) (k : Ex → List IV → List (List IV) → GH → Option R) : ∀ (n : Nat) (s0 s1 : Int) (s2a : Option GA) (s2n : Nat) (s13 b0_0 b0_1 : Int) (b0_2a : Option GA) (b0_2n : Nat) (G : GH),
  loopN (loopD Tryd.prog O lo5 fuel (nav (Tryd.f5.body.getD .skip) [1, 1, 1, 1, 1, 1, 1, 0, 1, 0, 0]) 60) n (mkE 135 [(0, .int .i64 s0), (1, .int .i64 s1), (2, .slice s2a s2n), (12, .loc 0 0), (13, .int .i64 s13)]) [[.int .i64 b0_0, .int .i64 b0_1, .slice b0_2a b0_2n]] G k = l_law08_PfmBytes_2 O (fun s0 s1 s2a s2n b0_0 b0_1 b0_2a b0_2n G => k (.exit 2) (mkE 135 [(0, .int .i64 s0), (1, .int .i64 s1), (2, .slice s2a s2n), (12, .loc 0 0)]) [[.int .i64 b0_0, .int .i64 b0_1, .slice b0_2a b0_2n]] G) n s0 s1 s2a s2n s13 b0_0 b0_1 b0_2a b0_2n G := by
  intro n
  induction n with
  | zero => intros; rfl
  | succ n ih =>
    intros
    rw [loopN_succ, u_law08_PfmBytes_2_raw]
    simp only [l_law08_PfmBytes_2, loopK_normal, loopK_exit, loopK_ret, ih]

def u_law08_PfmBytes_3 {R : Type} (O : Ora R) (Kret : Bool → Int → Int → Option GA → Nat → GH → Option R) (KN : Option GA → Nat → Int → Int → Option GA → Nat → GH → Option R) (s0 s1 : Int) (s2a : Option GA) (s2n : Nat) (s14a : Option GA) (s14n : Nat) (s15 b0_0 b0_1 : Int) (b0_2a : Option GA) (b0_2n : Nat) (G : GH) : Option R :=
  bif (s15 != (0 : Int)) then
  Kret false b0_0 b0_1 b0_2a b0_2n G
  else
  bif decide (0 ≤ (IntKind.wrap .i64 ((s14n : Int) - (IntKind.wrap .i64 ((IntKind.wrap .i64 ((3 : Int) * s0)) * s1)))) ∧ (IntKind.wrap .i64 ((s14n : Int) - (IntKind.wrap .i64 ((IntKind.wrap .i64 ((3 : Int) * s0)) * s1)))) ≤ (s14n : Int) ∧ (s14n : Int) ≤ (s14n : Int)) && gcut G s14a 5 then
  strOf G (cutA s14a (Int.toNat (IntKind.wrap .i64 ((s14n : Int) - (IntKind.wrap .i64 ((IntKind.wrap .i64 ((3 : Int) * s0)) * s1)))) * 1)) (Int.toNat (s14n : Int) - Int.toNat (IntKind.wrap .i64 ((s14n : Int) - (IntKind.wrap .i64 ((IntKind.wrap .i64 ((3 : Int) * s0)) * s1))))) fun x1 =>
  bif decide (0 ≤ (0 : Int) ∧ (0 : Int) ≤ (IntKind.wrap .i64 ((IntKind.wrap .i64 ((3 : Int) * s0)) * s1)) ∧ (IntKind.wrap .i64 ((IntKind.wrap .i64 ((3 : Int) * s0)) * s1)) ≤ (s2n : Int)) && gcut G s2a 5 then
  strOf G (cutA s2a (Int.toNat (0 : Int) * 1)) (Int.toNat (IntKind.wrap .i64 ((IntKind.wrap .i64 ((3 : Int) * s0)) * s1)) - Int.toNat (0 : Int)) fun x2 =>
  bif (!(x1 == x2)) then
  Kret false b0_0 b0_1 b0_2a b0_2n G
  else
  KN s14a s14n b0_0 b0_1 b0_2a b0_2n G
  else none
  else none

def l_law08_PfmBytes_3 {R : Type} (O : Ora R) (Kret : Bool → Int → Int → Option GA → Nat → GH → Option R) (KN : Option GA → Nat → Int → Int → Option GA → Nat → GH → Option R) : Int → Int → Option GA → Nat → Option GA → Nat → Int → Int → Int → Option GA → Nat → GH → Option R := fun s0 s1 s2a s2n s14a s14n s15 b0_0 b0_1 b0_2a b0_2n G => u_law08_PfmBytes_3 O Kret KN s0 s1 s2a s2n s14a s14n s15 b0_0 b0_1 b0_2a b0_2n G

theorem u_law08_PfmBytes_3_raw {R : Type} (O : Ora R) (fuel : Nat) (s0 s1 : Int) (s2a : Option GA) (s2n : Nat) (s14a : Option GA) (s14n : Nat) (s15 b0_0 b0_1 : Int) (b0_2a : Option GA) (b0_2n : Nat) (G : GH) (k : Ex → List IV → List (List IV) → GH → Option R) :
  loopD Tryd.prog O lo5 fuel (nav (Tryd.f5.body.getD .skip) [1, 1, 1, 1, 1, 1, 1, 1, 1, 0]) 87 (mkE 135 [(0, .int .i64 s0), (1, .int .i64 s1), (2, .slice s2a s2n), (12, .loc 0 0), (14, .slice s14a s14n), (15, .int .i64 s15)]) [[.int .i64 b0_0, .int .i64 b0_1, .slice b0_2a b0_2n]] G k =
  u_law08_PfmBytes_3 O (fun s10 b0_0 b0_1 b0_2a b0_2n G => k .ret (mkE 135 [(10, .bool s10)]) [[.int .i64 b0_0, .int .i64 b0_1, .slice b0_2a b0_2n]] G) (fun s14a s14n b0_0 b0_1 b0_2a b0_2n G => k .normal (mkE 135 [(12, .loc 0 0), (14, .slice s14a s14n)]) [[.int .i64 b0_0, .int .i64 b0_1, .slice b0_2a b0_2n]] G) s0 s1 s2a s2n s14a s14n s15 b0_0 b0_1 b0_2a b0_2n G := by kernel_rfl

theorem l_law08_PfmBytes_3_eq {R : Type} (O : Ora R) (fuel : Nat) (k : Ex → List IV → List (List IV) → GH → Option R) : ∀ (s0 s1 : Int) (s2a : Option GA) (s2n : Nat) (s14a : Option GA) (s14n : Nat) (s15 b0_0 b0_1 : Int) (b0_2a : Option GA) (b0_2n : Nat) (G : GH),
  loopD Tryd.prog O lo5 fuel (nav (Tryd.f5.body.getD .skip) [1, 1, 1, 1, 1, 1, 1, 1, 1, 0]) 87 (mkE 135 [(0, .int .i64 s0), (1, .int .i64 s1), (2, .slice s2a s2n), (12, .loc 0 0), (14, .slice s14a s14n), (15, .int .i64 s15)]) [[.int .i64 b0_0, .int .i64 b0_1, .slice b0_2a b0_2n]] G k = l_law08_PfmBytes_3 O (fun s10 b0_0 b0_1 b0_2a b0_2n G => k .ret (mkE 135 [(10, .bool s10)]) [[.int .i64 b0_0, .int .i64 b0_1, .slice b0_2a b0_2n]] G) (fun s14a s14n b0_0 b0_1 b0_2a b0_2n G => k .normal (mkE 135 [(12, .loc 0 0), (14, .slice s14a s14n)]) [[.int .i64 b0_0, .int .i64 b0_1, .slice b0_2a b0_2n]] G) s0 s1 s2a s2n s14a s14n s15 b0_0 b0_1 b0_2a b0_2n G := by
  intros
  rw [u_law08_PfmBytes_3_raw]
  simp only [l_law08_PfmBytes_3]

def u_law08_PfmBytes {R : Type} (O : Ora R) (k : IV → GH → Option R) (L0 : Int → Int → Option GA → Nat → Nat → Nat → Int → GH → Option R) (p0 p1 : Int) (p2a : Option GA) (p2n p3 p4 : Nat) (G : GH) : Option R :=
  O fn_law08_Awake [] G fun v1 G2 =>
  (ivBool v1).bind fun x3 =>
  bif (!x3) then
  k (.bool false) G2
  else
  L0 p0 p1 p2a p2n p3 p4 (0 : Int) G2

def a_law08_PfmBytes_0ret {R : Type} (O : Ora R) (k : IV → GH → Option R) (s10 : Bool) (G : GH) : Option R :=
  k (.bool s10) G

def a_law08_PfmBytes_00 {R : Type} (O : Ora R) (k : IV → GH → Option R) (L1 : Int → Int → Option GA → Nat → Nat → Nat → GH → Option R) (s0 s1 : Int) (s2a : Option GA) (s2n s3 s4 : Nat) (G : GH) : Option R :=
  L1 s0 s1 s2a s2n s3 s4 G

def a_law08_PfmBytes_1ret {R : Type} (O : Ora R) (k : IV → GH → Option R) (s10 : Bool) (G : GH) : Option R :=
  k (.bool s10) G

def a_law08_PfmBytes_1N {R : Type} (O : Ora R) (k : IV → GH → Option R) (L2 : Int → Int → Option GA → Nat → Int → Int → Int → Option GA → Nat → GH → Option R) (s0 s1 : Int) (s2a : Option GA) (s2n : Nat) (G : GH) : Option R :=
  bif (decide ((s2n : Int) < (IntKind.wrap .i64 ((IntKind.wrap .i64 ((3 : Int) * (IntKind.wrap .i64 ((1 : Int) + (IntKind.wrap .i64 (Int.tmod (IntKind.wrap .u64 s0) (6 : Int))))))) * (IntKind.wrap .i64 ((1 : Int) + (IntKind.wrap .i64 (Int.tmod (IntKind.wrap .u64 s1) (6 : Int))))))))) then
  k (.bool true) G
  else
  L2 (IntKind.wrap .i64 ((1 : Int) + (IntKind.wrap .i64 (Int.tmod (IntKind.wrap .u64 s0) (6 : Int))))) (IntKind.wrap .i64 ((1 : Int) + (IntKind.wrap .i64 (Int.tmod (IntKind.wrap .u64 s1) (6 : Int))))) s2a s2n (0 : Int) (IntKind.wrap .i64 ((1 : Int) + (IntKind.wrap .i64 (Int.tmod (IntKind.wrap .u64 s0) (6 : Int))))) (IntKind.wrap .i64 ((1 : Int) + (IntKind.wrap .i64 (Int.tmod (IntKind.wrap .u64 s1) (6 : Int))))) none 0 G

def a_law08_PfmBytes_22 {R : Type} (O : Ora R) (k : IV → GH → Option R) (L3 : Int → Int → Option GA → Nat → Option GA → Nat → Int → Int → Int → Option GA → Nat → GH → Option R) (s0 s1 : Int) (s2a : Option GA) (s2n : Nat) (b0_0 b0_1 : Int) (b0_2a : Option GA) (b0_2n : Nat) (G : GH) : Option R :=
  O fn_pfm_WritePPM [.agg [.int .i64 b0_0, .int .i64 b0_1, .slice b0_2a b0_2n]] G fun v1 G2 =>
  (ivTup 2 v1).bind fun c3 =>
  (ivSlice (c3.getD 0 undefI)).bind fun x4 =>
  (ivInt .i64 (c3.getD 1 undefI)).bind fun x5 =>
  L3 s0 s1 s2a s2n x4.1 x4.2 x5 b0_0 b0_1 b0_2a b0_2n G2

def a_law08_PfmBytes_3ret {R : Type} (O : Ora R) (k : IV → GH → Option R) (s10 : Bool) (b0_0 b0_1 : Int) (b0_2a : Option GA) (b0_2n : Nat) (G : GH) : Option R :=
  k (.bool s10) G

def a_law08_PfmBytes_3N {R : Type} (O : Ora R) (k : IV → GH → Option R) (s14a : Option GA) (s14n : Nat) (b0_0 b0_1 : Int) (b0_2a : Option GA) (b0_2n : Nat) (G : GH) : Option R :=
  O fn_pfm_ReadPPM [.slice s14a s14n] G fun v1 G2 =>
  (ivTup 2 v1).bind fun c3 =>
  (ivAgg 3 (c3.getD 0 undefI)).bind fun c4 =>
  (ivInt .i64 (c4.getD 0 undefI)).bind fun x5 =>
  (ivInt .i64 (c4.getD 1 undefI)).bind fun x6 =>
  (ivSlice (c4.getD 2 undefI)).bind fun x7 =>
  (ivInt .i64 (c3.getD 1 undefI)).bind fun x8 =>
  bif (x8 == (0 : Int)) then
  O fn_ref08_Same [.agg [.int .i64 b0_0, .int .i64 b0_1, .slice b0_2a b0_2n], .agg [.int .i64 x5, .int .i64 x6, .slice x7.1 x7.2]] G2 fun v9 G10 =>
  (ivBool v9).bind fun x11 =>
  k (.bool x11) G10
  else
  k (.bool false) G2

def L_law08_PfmBytes_3 {R : Type} (O : Ora R) (fuel : Nat) (k : IV → GH → Option R) : Int → Int → Option GA → Nat → Option GA → Nat → Int → Int → Int → Option GA → Nat → GH → Option R := fun s0 s1 s2a s2n s14a s14n s15 b0_0 b0_1 b0_2a b0_2n G =>
  stepN fuel (l_law08_PfmBytes_3 O (a_law08_PfmBytes_3ret O k) (a_law08_PfmBytes_3N O k) s0 s1 s2a s2n s14a s14n s15 b0_0 b0_1 b0_2a b0_2n G)

theorem a_law08_PfmBytes_3ret_raw {R : Type} (O : Ora R) (fuel : Nat) (s10 : Bool) (b0_0 b0_1 : Int) (b0_2a : Option GA) (b0_2n : Nat) (G : GH) (k : IV → GH → Option R) :
  contC Tryd.prog O lo5 fuel (Tryd.f5.body.getD .skip) [1, 1, 1, 1, 1, 1, 1, 1, 1, 0] (fun e env F G => match e with | .exit _ => none | _ => resC Tryd.prog Tryd.f5 env F G k) .ret (mkE 135 [(10, .bool s10)]) [[.int .i64 b0_0, .int .i64 b0_1, .slice b0_2a b0_2n]] G =
  a_law08_PfmBytes_3ret O k s10 b0_0 b0_1 b0_2a b0_2n G := by kernel_rfl

theorem a_law08_PfmBytes_3N_raw {R : Type} (O : Ora R) (fuel : Nat) (s14a : Option GA) (s14n : Nat) (b0_0 b0_1 : Int) (b0_2a : Option GA) (b0_2n : Nat) (G : GH) (k : IV → GH → Option R) :
  contC Tryd.prog O lo5 fuel (Tryd.f5.body.getD .skip) [1, 1, 1, 1, 1, 1, 1, 1, 1, 0] (fun e env F G => match e with | .exit _ => none | _ => resC Tryd.prog Tryd.f5 env F G k) .normal (mkE 135 [(12, .loc 0 0), (14, .slice s14a s14n)]) [[.int .i64 b0_0, .int .i64 b0_1, .slice b0_2a b0_2n]] G =
  a_law08_PfmBytes_3N O k s14a s14n b0_0 b0_1 b0_2a b0_2n G := by kernel_rfl

theorem L_law08_PfmBytes_3_eq {R : Type} (O : Ora R) (fuel : Nat) (k : IV → GH → Option R) :
  (fun (s0 s1 : Int) (s2a : Option GA) (s2n : Nat) (s14a : Option GA) (s14n : Nat) (s15 b0_0 b0_1 : Int) (b0_2a : Option GA) (b0_2n : Nat) (G : GH) => stepN fuel (loopD Tryd.prog O lo5 fuel (nav (Tryd.f5.body.getD .skip) [1, 1, 1, 1, 1, 1, 1, 1, 1, 0]) 87 (mkE 135 [(0, .int .i64 s0), (1, .int .i64 s1), (2, .slice s2a s2n), (12, .loc 0 0), (14, .slice s14a s14n), (15, .int .i64 s15)]) [[.int .i64 b0_0, .int .i64 b0_1, .slice b0_2a b0_2n]] G (contC Tryd.prog O lo5 fuel (Tryd.f5.body.getD .skip) [1, 1, 1, 1, 1, 1, 1, 1, 1, 0] (fun e env F G => match e with | .exit _ => none | _ => resC Tryd.prog Tryd.f5 env F G k)))) = L_law08_PfmBytes_3 O fuel k := by
  funext s0 s1 s2a s2n s14a s14n s15 b0_0 b0_1 b0_2a b0_2n G
  simp only [L_law08_PfmBytes_3, l_law08_PfmBytes_3_eq, a_law08_PfmBytes_3ret_raw, a_law08_PfmBytes_3N_raw]

def L_law08_PfmBytes_2 {R : Type} (O : Ora R) (fuel : Nat) (k : IV → GH → Option R) : Int → Int → Option GA → Nat → Int → Int → Int → Option GA → Nat → GH → Option R := fun s0 s1 s2a s2n s13 b0_0 b0_1 b0_2a b0_2n G =>
  l_law08_PfmBytes_2 O (a_law08_PfmBytes_22 O k (L_law08_PfmBytes_3 O fuel k)) fuel s0 s1 s2a s2n s13 b0_0 b0_1 b0_2a b0_2n G

theorem a_law08_PfmBytes_22_raw {R : Type} (O : Ora R) (fuel : Nat) (s0 s1 : Int) (s2a : Option GA) (s2n : Nat) (b0_0 b0_1 : Int) (b0_2a : Option GA) (b0_2n : Nat) (G : GH) (k : IV → GH → Option R) :
  contC Tryd.prog O lo5 fuel (Tryd.f5.body.getD .skip) [1, 1, 1, 1, 1, 1, 1, 0, 1, 0] (fun e env F G => match e with | .exit _ => none | _ => resC Tryd.prog Tryd.f5 env F G k) (.exit 2) (mkE 135 [(0, .int .i64 s0), (1, .int .i64 s1), (2, .slice s2a s2n), (12, .loc 0 0)]) [[.int .i64 b0_0, .int .i64 b0_1, .slice b0_2a b0_2n]] G =
  a_law08_PfmBytes_22 O k (fun s0 s1 s2a s2n s14a s14n s15 b0_0 b0_1 b0_2a b0_2n G => stepN fuel (loopD Tryd.prog O lo5 fuel (nav (Tryd.f5.body.getD .skip) [1, 1, 1, 1, 1, 1, 1, 1, 1, 0]) 87 (mkE 135 [(0, .int .i64 s0), (1, .int .i64 s1), (2, .slice s2a s2n), (12, .loc 0 0), (14, .slice s14a s14n), (15, .int .i64 s15)]) [[.int .i64 b0_0, .int .i64 b0_1, .slice b0_2a b0_2n]] G (contC Tryd.prog O lo5 fuel (Tryd.f5.body.getD .skip) [1, 1, 1, 1, 1, 1, 1, 1, 1, 0] (fun e env F G => match e with | .exit _ => none | _ => resC Tryd.prog Tryd.f5 env F G k)))) s0 s1 s2a s2n b0_0 b0_1 b0_2a b0_2n G := by kernel_rfl

theorem L_law08_PfmBytes_2_eq {R : Type} (O : Ora R) (fuel : Nat) (k : IV → GH → Option R) :
  (fun (s0 s1 : Int) (s2a : Option GA) (s2n : Nat) (s13 b0_0 b0_1 : Int) (b0_2a : Option GA) (b0_2n : Nat) (G : GH) => loopN (loopD Tryd.prog O lo5 fuel (nav (Tryd.f5.body.getD .skip) [1, 1, 1, 1, 1, 1, 1, 0, 1, 0, 0]) 60) fuel (mkE 135 [(0, .int .i64 s0), (1, .int .i64 s1), (2, .slice s2a s2n), (12, .loc 0 0), (13, .int .i64 s13)]) [[.int .i64 b0_0, .int .i64 b0_1, .slice b0_2a b0_2n]] G (contC Tryd.prog O lo5 fuel (Tryd.f5.body.getD .skip) [1, 1, 1, 1, 1, 1, 1, 0, 1, 0] (fun e env F G => match e with | .exit _ => none | _ => resC Tryd.prog Tryd.f5 env F G k))) = L_law08_PfmBytes_2 O fuel k := by
  funext s0 s1 s2a s2n s13 b0_0 b0_1 b0_2a b0_2n G
  simp only [L_law08_PfmBytes_2, l_law08_PfmBytes_2_eq, a_law08_PfmBytes_22_raw, L_law08_PfmBytes_3_eq]

def L_law08_PfmBytes_1 {R : Type} (O : Ora R) (fuel : Nat) (k : IV → GH → Option R) : Int → Int → Option GA → Nat → Nat → Nat → GH → Option R := fun s0 s1 s2a s2n s3 s4 G =>
  stepN fuel (l_law08_PfmBytes_1 O (a_law08_PfmBytes_1ret O k) (a_law08_PfmBytes_1N O k (L_law08_PfmBytes_2 O fuel k)) s0 s1 s2a s2n s3 s4 G)

theorem a_law08_PfmBytes_1ret_raw {R : Type} (O : Ora R) (fuel : Nat) (s10 : Bool) (G : GH) (k : IV → GH → Option R) :
  contC Tryd.prog O lo5 fuel (Tryd.f5.body.getD .skip) [1, 1, 1, 0] (fun e env F G => match e with | .exit _ => none | _ => resC Tryd.prog Tryd.f5 env F G k) .ret (mkE 135 [(10, .bool s10)]) [] G =
  a_law08_PfmBytes_1ret O k s10 G := by kernel_rfl

theorem a_law08_PfmBytes_1N_raw {R : Type} (O : Ora R) (fuel : Nat) (s0 s1 : Int) (s2a : Option GA) (s2n : Nat) (G : GH) (k : IV → GH → Option R) :
  contC Tryd.prog O lo5 fuel (Tryd.f5.body.getD .skip) [1, 1, 1, 0] (fun e env F G => match e with | .exit _ => none | _ => resC Tryd.prog Tryd.f5 env F G k) .normal (mkE 135 [(0, .int .i64 s0), (1, .int .i64 s1), (2, .slice s2a s2n)]) [] G =
  a_law08_PfmBytes_1N O k (fun s0 s1 s2a s2n s13 b0_0 b0_1 b0_2a b0_2n G => loopN (loopD Tryd.prog O lo5 fuel (nav (Tryd.f5.body.getD .skip) [1, 1, 1, 1, 1, 1, 1, 0, 1, 0, 0]) 60) fuel (mkE 135 [(0, .int .i64 s0), (1, .int .i64 s1), (2, .slice s2a s2n), (12, .loc 0 0), (13, .int .i64 s13)]) [[.int .i64 b0_0, .int .i64 b0_1, .slice b0_2a b0_2n]] G (contC Tryd.prog O lo5 fuel (Tryd.f5.body.getD .skip) [1, 1, 1, 1, 1, 1, 1, 0, 1, 0] (fun e env F G => match e with | .exit _ => none | _ => resC Tryd.prog Tryd.f5 env F G k))) s0 s1 s2a s2n G := by kernel_rfl

theorem L_law08_PfmBytes_1_eq {R : Type} (O : Ora R) (fuel : Nat) (k : IV → GH → Option R) :
  (fun (s0 s1 : Int) (s2a : Option GA) (s2n s3 s4 : Nat) (G : GH) => stepN fuel (loopD Tryd.prog O lo5 fuel (nav (Tryd.f5.body.getD .skip) [1, 1, 1, 0]) 43 (mkE 135 [(0, .int .i64 s0), (1, .int .i64 s1), (2, .slice s2a s2n), (3, .float .f64 s3), (4, .float .f64 s4)]) [] G (contC Tryd.prog O lo5 fuel (Tryd.f5.body.getD .skip) [1, 1, 1, 0] (fun e env F G => match e with | .exit _ => none | _ => resC Tryd.prog Tryd.f5 env F G k)))) = L_law08_PfmBytes_1 O fuel k := by
  funext s0 s1 s2a s2n s3 s4 G
  simp only [L_law08_PfmBytes_1, l_law08_PfmBytes_1_eq, a_law08_PfmBytes_1ret_raw, a_law08_PfmBytes_1N_raw, L_law08_PfmBytes_2_eq]

def L_law08_PfmBytes_0 {R : Type} (O : Ora R) (fuel : Nat) (k : IV → GH → Option R) : Int → Int → Option GA → Nat → Nat → Nat → Int → GH → Option R := fun s0 s1 s2a s2n s3 s4 s11 G =>
  l_law08_PfmBytes_0 O (a_law08_PfmBytes_0ret O k) (a_law08_PfmBytes_00 O k (L_law08_PfmBytes_1 O fuel k)) fuel s0 s1 s2a s2n s3 s4 s11 G

theorem a_law08_PfmBytes_0ret_raw {R : Type} (O : Ora R) (fuel : Nat) (s10 : Bool) (G : GH) (k : IV → GH → Option R) :
  contC Tryd.prog O lo5 fuel (Tryd.f5.body.getD .skip) [1, 1, 0, 1, 0] (fun e env F G => match e with | .exit _ => none | _ => resC Tryd.prog Tryd.f5 env F G k) .ret (mkE 135 [(10, .bool s10)]) [] G =
  a_law08_PfmBytes_0ret O k s10 G := by kernel_rfl

theorem a_law08_PfmBytes_00_raw {R : Type} (O : Ora R) (fuel : Nat) (s0 s1 : Int) (s2a : Option GA) (s2n s3 s4 : Nat) (G : GH) (k : IV → GH → Option R) :
  contC Tryd.prog O lo5 fuel (Tryd.f5.body.getD .skip) [1, 1, 0, 1, 0] (fun e env F G => match e with | .exit _ => none | _ => resC Tryd.prog Tryd.f5 env F G k) (.exit 0) (mkE 135 [(0, .int .i64 s0), (1, .int .i64 s1), (2, .slice s2a s2n), (3, .float .f64 s3), (4, .float .f64 s4)]) [] G =
  a_law08_PfmBytes_00 O k (fun s0 s1 s2a s2n s3 s4 G => stepN fuel (loopD Tryd.prog O lo5 fuel (nav (Tryd.f5.body.getD .skip) [1, 1, 1, 0]) 43 (mkE 135 [(0, .int .i64 s0), (1, .int .i64 s1), (2, .slice s2a s2n), (3, .float .f64 s3), (4, .float .f64 s4)]) [] G (contC Tryd.prog O lo5 fuel (Tryd.f5.body.getD .skip) [1, 1, 1, 0] (fun e env F G => match e with | .exit _ => none | _ => resC Tryd.prog Tryd.f5 env F G k)))) s0 s1 s2a s2n s3 s4 G := by kernel_rfl

theorem L_law08_PfmBytes_0_eq {R : Type} (O : Ora R) (fuel : Nat) (k : IV → GH → Option R) :
  (fun (s0 s1 : Int) (s2a : Option GA) (s2n s3 s4 : Nat) (s11 : Int) (G : GH) => loopN (loopD Tryd.prog O lo5 fuel (nav (Tryd.f5.body.getD .skip) [1, 1, 0, 1, 0, 0]) 16) fuel (mkE 135 [(0, .int .i64 s0), (1, .int .i64 s1), (2, .slice s2a s2n), (3, .float .f64 s3), (4, .float .f64 s4), (11, .int .i64 s11)]) [] G (contC Tryd.prog O lo5 fuel (Tryd.f5.body.getD .skip) [1, 1, 0, 1, 0] (fun e env F G => match e with | .exit _ => none | _ => resC Tryd.prog Tryd.f5 env F G k))) = L_law08_PfmBytes_0 O fuel k := by
  funext s0 s1 s2a s2n s3 s4 s11 G
  simp only [L_law08_PfmBytes_0, l_law08_PfmBytes_0_eq, a_law08_PfmBytes_0ret_raw, a_law08_PfmBytes_00_raw, L_law08_PfmBytes_1_eq]

theorem e_law08_PfmBytes_raw {R : Type} (O : Ora R) (fuel : Nat) (p0 p1 : Int) (p2a : Option GA) (p2n p3 p4 : Nat) (G : GH) (k : IV → GH → Option R) :
  bodyC Tryd.prog O lo5 fuel Tryd.f5 [.int .i64 p0, .int .i64 p1, .slice p2a p2n, .float .f64 p3, .float .f64 p4] G k =
  u_law08_PfmBytes O k (fun s0 s1 s2a s2n s3 s4 s11 G => loopN (loopD Tryd.prog O lo5 fuel (nav (Tryd.f5.body.getD .skip) [1, 1, 0, 1, 0, 0]) 16) fuel (mkE 135 [(0, .int .i64 s0), (1, .int .i64 s1), (2, .slice s2a s2n), (3, .float .f64 s3), (4, .float .f64 s4), (11, .int .i64 s11)]) [] G (contC Tryd.prog O lo5 fuel (Tryd.f5.body.getD .skip) [1, 1, 0, 1, 0] (fun e env F G => match e with | .exit _ => none | _ => resC Tryd.prog Tryd.f5 env F G k))) p0 p1 p2a p2n p3 p4 G := by kernel_rfl

theorem e_law08_PfmBytes {R : Type} (O : Ora R) (fuel : Nat) (p0 p1 : Int) (p2a : Option GA) (p2n p3 p4 : Nat) (G : GH) (k : IV → GH → Option R) :
  bodyC Tryd.prog O lo5 fuel Tryd.f5 [.int .i64 p0, .int .i64 p1, .slice p2a p2n, .float .f64 p3, .float .f64 p4] G k =
  u_law08_PfmBytes O k (L_law08_PfmBytes_0 O fuel k) p0 p1 p2a p2n p3 p4 G := by
  rw [e_law08_PfmBytes_raw, L_law08_PfmBytes_0_eq]

theorem r_law08_PfmBytes {R : Type} (fuel n : Nat) (p0 p1 : Int) (p2a : Option GA) (p2n p3 p4 : Nat) (G : GH) (k : IV → GH → Option R) :
  runC Tryd.prog lo0 fuel (n + 1) 5 [.int .i64 p0, .int .i64 p1, .slice p2a p2n, .float .f64 p3, .float .f64 p4] G k = bodyC Tryd.prog (runC Tryd.prog lo0 fuel n) lo5 fuel Tryd.f5 [.int .i64 p0, .int .i64 p1, .slice p2a p2n, .float .f64 p3, .float .f64 p4] G k := run_body Tryd.func5 rfl rfl

end Go.LI.Door

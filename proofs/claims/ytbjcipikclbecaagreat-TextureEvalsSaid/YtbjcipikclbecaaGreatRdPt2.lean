/- What the interpreter gives for textures: Eval (written by texz.py). -/
import Derived.Test.YtbjcipikclbecaaGreatSeatA
set_option maxRecDepth 100000
set_option linter.unusedVariables false
set_option linter.unusedSimpArgs false
namespace Go.LI.Film
open Go.Proofs.YtbjcipikclbecaaGreat Go Go.Proofs Go.LI
section
variable {R : Type} (O : Ora R)
theorem zrw (fuel av : Nat) (aw bf : Nat) (G : GH) (k : KV R) :
  zf Tryz.prog O [1, 777777] fuel Tryz.f55 [.agg [fL av, fL aw, fL bf]] G k =
  O zaa [fL av] G fun v1 G2 =>
  (zl v1).bind fun x3 =>
  bif x3 then
  O zaa [fL aw] G2 fun v4 G5 =>
  (zl v4).bind fun x6 =>
  bif x6 then
  O zaa [fL bf] G5 fun v7 G8 =>
  (zl v7).bind fun x9 =>
  k (.bool x9) G8
  else
  k (.bool false) G5
  else
  k (.bool false) G2 := by kernel_rfl
theorem zqX {R : Type} (fuel n av : Nat) (aw bf : Nat) (G : GH) (k : KV R) :
  runC Tryz.prog lo0 fuel (n + 1) 55 [.agg [fL av, fL aw, fL bf]] G k = zf Tryz.prog (runC Tryz.prog lo0 fuel n) [1, 777777] fuel Tryz.f55 [.agg [fL av, fL aw, fL bf]] G k := zh Tryz.func55 rfl rfl
theorem zrQ (fuel : Nat) (p0 : Int) (p1 : GA) (G : GH) (k : KV R) :
  zf Tryz.prog O [777777] fuel Tryz.f54 [iL p0, .ptr (some p1)] G k =
  bif (decide (p0 ≥ (0 : Int))) then
  (z0 G .i64 p1).bind fun x1 =>
  k (.bool (decide (p0 < x1))) G
  else
  k (.bool false) G := by kernel_rfl
theorem zrb {R : Type} (fuel n : Nat) (p0 : Int) (p1 : GA) (G : GH) (k : KV R) :
  runC Tryz.prog lo0 fuel (n + 1) 54 [iL p0, .ptr (some p1)] G k = zf Tryz.prog (runC Tryz.prog lo0 fuel n) [777777] fuel Tryz.f54 [iL p0, .ptr (some p1)] G k := zh Tryz.func54 rfl rfl
def zeR {R : Type} (O : Ora R) (KN : Int → GA → Bool → Int → Nat → Nat → Nat → Int → Int → Nat → Int → GH → Option R) (s2 : Int) (bq : GA) (aa : Int) (ac af ag : Nat) (aj ar : Int) (aq : Nat) (au : Int) (G : GH) : Option R :=
  bif (decide (aa < (1 : Int))) then
  KN s2 bq true aa ac af ag aj ar aq au G
  else
  KN s2 bq (decide (aa > (5 : Int))) aa ac af ag aj ar aq au G
def zcy {R : Type} (O : Ora R) (KN : Int → GA → Bool → Int → Nat → Nat → Nat → Int → Int → Nat → Int → GH → Option R) : Int → GA → Int → Nat → Nat → Nat → Int → Int → Nat → Int → GH → Option R := fun s2 bq aa ac af ag aj ar aq au G => zeR O KN s2 bq aa ac af ag aj ar aq au G
theorem zlG (fuel : Nat) (s2 : Int) (bq : GA) (aa : Int) (ac af ag : Nat) (aj ar : Int) (aq : Nat) (au : Int) (G : GH) (k : KE R) :
  zd Tryz.prog O zgr fuel (nav bd33 [1, 1, 0, 0, 0]) 15 (mkE 110 [(2, iL s2), (3, .loc 0 0), (7, .func 54 [.ptr (some bq)])]) [[iL aa, fL ac, fL af, fL ag, iL aj, iL ar, fL aq, iL au]] G k =
  zeR O (fun s2 bq s9 aa ac af ag aj ar aq au G => k .normal (mkE 110 [(2, iL s2), (3, .loc 0 0), (7, .func 54 [.ptr (some bq)]), (9, .bool s9)]) [[iL aa, fL ac, fL af, fL ag, iL aj, iL ar, fL aq, iL au]] G) s2 bq aa ac af ag aj ar aq au G := by kernel_rfl
theorem zmT (fuel : Nat) (k : KE R) : ∀ (s2 : Int) (bq : GA) (aa : Int) (ac af ag : Nat) (aj ar : Int) (aq : Nat) (au : Int) (G : GH),
  zd Tryz.prog O zgr fuel (nav bd33 [1, 1, 0, 0, 0]) 15 (mkE 110 [(2, iL s2), (3, .loc 0 0), (7, .func 54 [.ptr (some bq)])]) [[iL aa, fL ac, fL af, fL ag, iL aj, iL ar, fL aq, iL au]] G k = zcy O (fun s2 bq s9 aa ac af ag aj ar aq au G => k .normal (mkE 110 [(2, iL s2), (3, .loc 0 0), (7, .func 54 [.ptr (some bq)]), (9, .bool s9)]) [[iL aa, fL ac, fL af, fL ag, iL aj, iL ar, fL aq, iL au]] G) s2 bq aa ac af ag aj ar aq au G := by
  intros
  rw [zlG]
  simp only [zcy]
def zfa {R : Type} (O : Ora R) (KN : Int → GA → Bool → Int → Nat → Nat → Nat → Int → Int → Nat → Int → GH → Option R) (s2 : Int) (bq : GA) (aa : Int) (ac af ag : Nat) (aj ar : Int) (aq : Nat) (au : Int) (G : GH) : Option R :=
  bif (aa == (1 : Int)) then
  O zb4 [.agg [fL ac, fL af, fL ag]] G fun v1 G2 =>
  (zl v1).bind fun x3 =>
  KN s2 bq (!x3) aa ac af ag aj ar aq au G2
  else
  bif (aa == (5 : Int)) then
  O zb4 [.agg [fL ac, fL af, fL ag]] G fun v4 G5 =>
  (zl v4).bind fun x6 =>
  KN s2 bq (!x6) aa ac af ag aj ar aq au G5
  else
  KN s2 bq false aa ac af ag aj ar aq au G
def zcC {R : Type} (O : Ora R) (KN : Int → GA → Bool → Int → Nat → Nat → Nat → Int → Int → Nat → Int → GH → Option R) : Int → GA → Int → Nat → Nat → Nat → Int → Int → Nat → Int → GH → Option R := fun s2 bq aa ac af ag aj ar aq au G => zfa O KN s2 bq aa ac af ag aj ar aq au G
theorem zlo (fuel : Nat) (s2 : Int) (bq : GA) (aa : Int) (ac af ag : Nat) (aj ar : Int) (aq : Nat) (au : Int) (G : GH) (k : KE R) :
  zd Tryz.prog O zgr fuel (nav bd33 [1, 1, 0, 0, 1, 1, 0]) 23 (mkE 110 [(2, iL s2), (3, .loc 0 0), (7, .func 54 [.ptr (some bq)])]) [[iL aa, fL ac, fL af, fL ag, iL aj, iL ar, fL aq, iL au]] G k =
  zfa O (fun s2 bq ic aa ac af ag aj ar aq au G => k .normal (mkE 110 [(2, iL s2), (3, .loc 0 0), (7, .func 54 [.ptr (some bq)]), (18, .bool ic)]) [[iL aa, fL ac, fL af, fL ag, iL aj, iL ar, fL aq, iL au]] G) s2 bq aa ac af ag aj ar aq au G := by kernel_rfl
theorem zmO (fuel : Nat) (k : KE R) : ∀ (s2 : Int) (bq : GA) (aa : Int) (ac af ag : Nat) (aj ar : Int) (aq : Nat) (au : Int) (G : GH),
  zd Tryz.prog O zgr fuel (nav bd33 [1, 1, 0, 0, 1, 1, 0]) 23 (mkE 110 [(2, iL s2), (3, .loc 0 0), (7, .func 54 [.ptr (some bq)])]) [[iL aa, fL ac, fL af, fL ag, iL aj, iL ar, fL aq, iL au]] G k = zcC O (fun s2 bq ic aa ac af ag aj ar aq au G => k .normal (mkE 110 [(2, iL s2), (3, .loc 0 0), (7, .func 54 [.ptr (some bq)]), (18, .bool ic)]) [[iL aa, fL ac, fL af, fL ag, iL aj, iL ar, fL aq, iL au]] G) s2 bq aa ac af ag aj ar aq au G := by
  intros
  rw [zlo]
  simp only [zcC]
def zfb {R : Type} (O : Ora R) (KN : Int → GA → Bool → Int → Nat → Nat → Nat → Int → Int → Nat → Int → GH → Option R) (s2 : Int) (bq : GA) (aa : Int) (ac af ag : Nat) (aj ar : Int) (aq : Nat) (au : Int) (G : GH) : Option R :=
  bif (decide (aa ≥ (2 : Int))) then
  bif (decide (aa ≤ (4 : Int))) then
  O zaa [fL aq] G fun v1 G2 =>
  (zl v1).bind fun x3 =>
  KN s2 bq (!x3) aa ac af ag aj ar aq au G2
  else
  KN s2 bq false aa ac af ag aj ar aq au G
  else
  KN s2 bq false aa ac af ag aj ar aq au G
def zcA {R : Type} (O : Ora R) (KN : Int → GA → Bool → Int → Nat → Nat → Nat → Int → Int → Nat → Int → GH → Option R) : Int → GA → Int → Nat → Nat → Nat → Int → Int → Nat → Int → GH → Option R := fun s2 bq aa ac af ag aj ar aq au G => zfb O KN s2 bq aa ac af ag aj ar aq au G
theorem zl1 (fuel : Nat) (s2 : Int) (bq : GA) (aa : Int) (ac af ag : Nat) (aj ar : Int) (aq : Nat) (au : Int) (G : GH) (k : KE R) :
  zd Tryz.prog O zgr fuel (nav bd33 [1, 1, 0, 0, 1, 1, 1, 1, 0]) 31 (mkE 110 [(2, iL s2), (3, .loc 0 0), (7, .func 54 [.ptr (some bq)])]) [[iL aa, fL ac, fL af, fL ag, iL aj, iL ar, fL aq, iL au]] G k =
  zfb O (fun s2 bq ie aa ac af ag aj ar aq au G => k .normal (mkE 110 [(2, iL s2), (3, .loc 0 0), (7, .func 54 [.ptr (some bq)]), (33, .bool ie)]) [[iL aa, fL ac, fL af, fL ag, iL aj, iL ar, fL aq, iL au]] G) s2 bq aa ac af ag aj ar aq au G := by kernel_rfl
theorem zmP (fuel : Nat) (k : KE R) : ∀ (s2 : Int) (bq : GA) (aa : Int) (ac af ag : Nat) (aj ar : Int) (aq : Nat) (au : Int) (G : GH),
  zd Tryz.prog O zgr fuel (nav bd33 [1, 1, 0, 0, 1, 1, 1, 1, 0]) 31 (mkE 110 [(2, iL s2), (3, .loc 0 0), (7, .func 54 [.ptr (some bq)])]) [[iL aa, fL ac, fL af, fL ag, iL aj, iL ar, fL aq, iL au]] G k = zcA O (fun s2 bq ie aa ac af ag aj ar aq au G => k .normal (mkE 110 [(2, iL s2), (3, .loc 0 0), (7, .func 54 [.ptr (some bq)]), (33, .bool ie)]) [[iL aa, fL ac, fL af, fL ag, iL aj, iL ar, fL aq, iL au]] G) s2 bq aa ac af ag aj ar aq au G := by
  intros
  rw [zl1]
  simp only [zcA]
def ze1 {R : Type} (O : Ora R) (KN : Int → GA → Bool → Int → Nat → Nat → Nat → Int → Int → Nat → Int → GH → Option R) (s2 : Int) (bq : GA) (aa : Int) (ac af ag : Nat) (aj ar : Int) (aq : Nat) (au : Int) (G : GH) : Option R :=
  bif (aa == (3 : Int)) then
  bif (flt .f64 aq (0 : Nat)) then
  KN s2 bq true aa ac af ag aj ar aq au G
  else
  KN s2 bq (fgt .f64 aq (4607182418800017408 : Nat)) aa ac af ag aj ar aq au G
  else
  KN s2 bq false aa ac af ag aj ar aq au G
def zcT {R : Type} (O : Ora R) (KN : Int → GA → Bool → Int → Nat → Nat → Nat → Int → Int → Nat → Int → GH → Option R) : Int → GA → Int → Nat → Nat → Nat → Int → Int → Nat → Int → GH → Option R := fun s2 bq aa ac af ag aj ar aq au G => ze1 O KN s2 bq aa ac af ag aj ar aq au G
theorem zlF (fuel : Nat) (s2 : Int) (bq : GA) (aa : Int) (ac af ag : Nat) (aj ar : Int) (aq : Nat) (au : Int) (G : GH) (k : KE R) :
  zd Tryz.prog O zgr fuel (nav bd33 [1, 1, 0, 0, 1, 1, 1, 1, 1, 1, 0]) 39 (mkE 110 [(2, iL s2), (3, .loc 0 0), (7, .func 54 [.ptr (some bq)])]) [[iL aa, fL ac, fL af, fL ag, iL aj, iL ar, fL aq, iL au]] G k =
  ze1 O (fun s2 bq ig aa ac af ag aj ar aq au G => k .normal (mkE 110 [(2, iL s2), (3, .loc 0 0), (7, .func 54 [.ptr (some bq)]), (48, .bool ig)]) [[iL aa, fL ac, fL af, fL ag, iL aj, iL ar, fL aq, iL au]] G) s2 bq aa ac af ag aj ar aq au G := by kernel_rfl
theorem zmW (fuel : Nat) (k : KE R) : ∀ (s2 : Int) (bq : GA) (aa : Int) (ac af ag : Nat) (aj ar : Int) (aq : Nat) (au : Int) (G : GH),
  zd Tryz.prog O zgr fuel (nav bd33 [1, 1, 0, 0, 1, 1, 1, 1, 1, 1, 0]) 39 (mkE 110 [(2, iL s2), (3, .loc 0 0), (7, .func 54 [.ptr (some bq)])]) [[iL aa, fL ac, fL af, fL ag, iL aj, iL ar, fL aq, iL au]] G k = zcT O (fun s2 bq ig aa ac af ag aj ar aq au G => k .normal (mkE 110 [(2, iL s2), (3, .loc 0 0), (7, .func 54 [.ptr (some bq)]), (48, .bool ig)]) [[iL aa, fL ac, fL af, fL ag, iL aj, iL ar, fL aq, iL au]] G) s2 bq aa ac af ag aj ar aq au G := by
  intros
  rw [zlF]
  simp only [zcT]
def ze7 {R : Type} (O : Ora R) (KN : Int → GA → Bool → Int → Nat → Nat → Nat → Int → Int → Nat → Int → GH → Option R) (s2 : Int) (bq : GA) (aa : Int) (ac af ag : Nat) (aj ar : Int) (aq : Nat) (au : Int) (G : GH) : Option R :=
  bif (aa == (2 : Int)) then
  O z7 [iL aj, .ptr (some bq)] G fun v1 G2 =>
  (zl v1).bind fun x3 =>
  bif (!x3) then
  KN s2 bq true aa ac af ag aj ar aq au G2
  else
  O z7 [iL ar, .ptr (some bq)] G2 fun v4 G5 =>
  (zl v4).bind fun x6 =>
  KN s2 bq (!x6) aa ac af ag aj ar aq au G5
  else
  bif (aa == (3 : Int)) then
  O z7 [iL aj, .ptr (some bq)] G fun v7 G8 =>
  (zl v7).bind fun x9 =>
  bif (!x9) then
  KN s2 bq true aa ac af ag aj ar aq au G8
  else
  O z7 [iL ar, .ptr (some bq)] G8 fun v10 G11 =>
  (zl v10).bind fun x12 =>
  KN s2 bq (!x12) aa ac af ag aj ar aq au G11
  else
  KN s2 bq false aa ac af ag aj ar aq au G
def zcN {R : Type} (O : Ora R) (KN : Int → GA → Bool → Int → Nat → Nat → Nat → Int → Int → Nat → Int → GH → Option R) : Int → GA → Int → Nat → Nat → Nat → Int → Int → Nat → Int → GH → Option R := fun s2 bq aa ac af ag aj ar aq au G => ze7 O KN s2 bq aa ac af ag aj ar aq au G
theorem zme (fuel : Nat) (s2 : Int) (bq : GA) (aa : Int) (ac af ag : Nat) (aj ar : Int) (aq : Nat) (au : Int) (G : GH) (k : KE R) :
  zd Tryz.prog O zgr fuel (nav bd33 [1, 1, 0, 0, 1, 1, 1, 1, 1, 1, 1, 1, 0, 0]) 3 (mkE 110 [(2, iL s2), (3, .loc 0 0), (7, .func 54 [.ptr (some bq)])]) [[iL aa, fL ac, fL af, fL ag, iL aj, iL ar, fL aq, iL au]] G k =
  ze7 O (fun s2 bq fq aa ac af ag aj ar aq au G => k .normal (mkE 110 [(2, iL s2), (3, .loc 0 0), (7, .func 54 [.ptr (some bq)]), (62, .bool fq)]) [[iL aa, fL ac, fL af, fL ag, iL aj, iL ar, fL aq, iL au]] G) s2 bq aa ac af ag aj ar aq au G := by kernel_rfl
theorem zmK (fuel : Nat) (k : KE R) : ∀ (s2 : Int) (bq : GA) (aa : Int) (ac af ag : Nat) (aj ar : Int) (aq : Nat) (au : Int) (G : GH),
  zd Tryz.prog O zgr fuel (nav bd33 [1, 1, 0, 0, 1, 1, 1, 1, 1, 1, 1, 1, 0, 0]) 3 (mkE 110 [(2, iL s2), (3, .loc 0 0), (7, .func 54 [.ptr (some bq)])]) [[iL aa, fL ac, fL af, fL ag, iL aj, iL ar, fL aq, iL au]] G k = zcN O (fun s2 bq fq aa ac af ag aj ar aq au G => k .normal (mkE 110 [(2, iL s2), (3, .loc 0 0), (7, .func 54 [.ptr (some bq)]), (62, .bool fq)]) [[iL aa, fL ac, fL af, fL ag, iL aj, iL ar, fL aq, iL au]] G) s2 bq aa ac af ag aj ar aq au G := by
  intros
  rw [zme]
  simp only [zcN]
def ze8 {R : Type} (O : Ora R) (KN : zGJ R) (L5 : Int → GA → Int → Nat → Nat → Nat → Int → Int → Nat → Int → GH → Option R) (s2 : Int) (bq : GA) (aa : Int) (ac af ag : Nat) (aj ar : Int) (aq : Nat) (au : Int) (G : GH) : Option R :=
  L5 s2 bq aa ac af ag aj ar aq au G
def zeI {R : Type} (O : Ora R) (KN : zGJ R) (s2 : Int) (bq : GA) (fq : Bool) (aa : Int) (ac af ag : Nat) (aj ar : Int) (aq : Nat) (au : Int) (G : GH) : Option R :=
  bif fq then
  KN s2 fq aa ac af ag aj ar aq au G
  else
  bif (aa == (5 : Int)) then
  O z7 [iL aj, .ptr (some bq)] G fun v1 G2 =>
  (zl v1).bind fun x3 =>
  KN s2 (!x3) aa ac af ag aj ar aq au G2
  else
  KN s2 false aa ac af ag aj ar aq au G
def zcO {R : Type} (O : Ora R) (fuel : Nat) (KN : zGJ R) : Int → GA → Int → Nat → Nat → Nat → Int → Int → Nat → Int → GH → Option R := fun s2 bq aa ac af ag aj ar aq au G =>
  zi fuel (zcN O (zeI O KN) s2 bq aa ac af ag aj ar aq au G)
theorem zkR (fuel : Nat) (s2 : Int) (bq : GA) (fq : Bool) (aa : Int) (ac af ag : Nat) (aj ar : Int) (aq : Nat) (au : Int) (G : GH) (k : KE R) :
  ze Tryz.prog O zgr fuel (nav bd33 [1, 1, 0, 0, 1, 1, 1, 1, 1, 1, 1, 1, 0]) [0] (kpD zgr 51 1 k) .normal (mkE 110 [(2, iL s2), (3, .loc 0 0), (7, .func 54 [.ptr (some bq)]), (62, .bool fq)]) [[iL aa, fL ac, fL af, fL ag, iL aj, iL ar, fL aq, iL au]] G =
  zeI O (fun s2 fq aa ac af ag aj ar aq au G => k .normal (mkE 110 [(2, iL s2), (3, .loc 0 0), (62, .bool fq)]) [[iL aa, fL ac, fL af, fL ag, iL aj, iL ar, fL aq, iL au]] G) s2 bq fq aa ac af ag aj ar aq au G := by kernel_rfl
theorem zmN (fuel : Nat) (k : KE R) :
  (fun (s2 : Int) (bq : GA) (aa : Int) (ac af ag : Nat) (aj ar : Int) (aq : Nat) (au : Int) (G : GH) => zi fuel (zd Tryz.prog O zgr fuel (nav bd33 [1, 1, 0, 0, 1, 1, 1, 1, 1, 1, 1, 1, 0, 0]) 3 (mkE 110 [(2, iL s2), (3, .loc 0 0), (7, .func 54 [.ptr (some bq)])]) [[iL aa, fL ac, fL af, fL ag, iL aj, iL ar, fL aq, iL au]] G (ze Tryz.prog O zgr fuel (nav bd33 [1, 1, 0, 0, 1, 1, 1, 1, 1, 1, 1, 1, 0]) [0] (kpD zgr 51 1 k)))) = zcO O fuel (fun (s2 : Int) (fq : Bool) (aa : Int) (ac af ag : Nat) (aj ar : Int) (aq : Nat) (au : Int) (G : GH) => k .normal (mkE 110 [(2, iL s2), (3, .loc 0 0), (62, .bool fq)]) [[iL aa, fL ac, fL af, fL ag, iL aj, iL ar, fL aq, iL au]] G) := by
  funext s2 bq aa ac af ag aj ar aq au G
  simp only [zcO, zmK, zkR]
def zcJ {R : Type} (O : Ora R) (fuel : Nat) (KN : zGJ R) : Int → GA → Int → Nat → Nat → Nat → Int → Int → Nat → Int → GH → Option R := fun s2 bq aa ac af ag aj ar aq au G => ze8 O KN (zcO O fuel KN) s2 bq aa ac af ag aj ar aq au G
theorem zlz (fuel : Nat) (s2 : Int) (bq : GA) (aa : Int) (ac af ag : Nat) (aj ar : Int) (aq : Nat) (au : Int) (G : GH) (k : KE R) :
  zd Tryz.prog O zgr fuel (nav bd33 [1, 1, 0, 0, 1, 1, 1, 1, 1, 1, 1, 1, 0]) 51 (mkE 110 [(2, iL s2), (3, .loc 0 0), (7, .func 54 [.ptr (some bq)])]) [[iL aa, fL ac, fL af, fL ag, iL aj, iL ar, fL aq, iL au]] G k =
  ze8 O (fun s2 fq aa ac af ag aj ar aq au G => k .normal (mkE 110 [(2, iL s2), (3, .loc 0 0), (62, .bool fq)]) [[iL aa, fL ac, fL af, fL ag, iL aj, iL ar, fL aq, iL au]] G) (fun s2 bq aa ac af ag aj ar aq au G => zi fuel (zd Tryz.prog O zgr fuel (nav bd33 [1, 1, 0, 0, 1, 1, 1, 1, 1, 1, 1, 1, 0, 0]) 3 (mkE 110 [(2, iL s2), (3, .loc 0 0), (7, .func 54 [.ptr (some bq)])]) [[iL aa, fL ac, fL af, fL ag, iL aj, iL ar, fL aq, iL au]] G (ze Tryz.prog O zgr fuel (nav bd33 [1, 1, 0, 0, 1, 1, 1, 1, 1, 1, 1, 1, 0]) [0] (kpD zgr 51 1 k)))) s2 bq aa ac af ag aj ar aq au G := by kernel_rfl
theorem zmG (fuel : Nat) (k : KE R) : ∀ (s2 : Int) (bq : GA) (aa : Int) (ac af ag : Nat) (aj ar : Int) (aq : Nat) (au : Int) (G : GH),
  zd Tryz.prog O zgr fuel (nav bd33 [1, 1, 0, 0, 1, 1, 1, 1, 1, 1, 1, 1, 0]) 51 (mkE 110 [(2, iL s2), (3, .loc 0 0), (7, .func 54 [.ptr (some bq)])]) [[iL aa, fL ac, fL af, fL ag, iL aj, iL ar, fL aq, iL au]] G k = zcJ O fuel (fun s2 fq aa ac af ag aj ar aq au G => k .normal (mkE 110 [(2, iL s2), (3, .loc 0 0), (62, .bool fq)]) [[iL aa, fL ac, fL af, fL ag, iL aj, iL ar, fL aq, iL au]] G) s2 bq aa ac af ag aj ar aq au G := by
  intros
  rw [zlz]
  simp only [zcJ, zmN]
def zhs {R : Type} (O : Ora R) (k : KV R) (L0 : Int → GA → Int → Nat → Nat → Nat → Int → Int → Nat → Int → GH → Option R) (av : Int) (aw bf bh : Nat) (bx cd : Int) (dn : Nat) (ec p1 p2 : Int) (G : GH) : Option R :=
  L0 p2 (zaA G) av aw bf bh bx cd dn ec (zac G [iL p1] 3)
def zei {R : Type} (O : Ora R) (k : KV R) (L1 : Int → GA → Int → Nat → Nat → Nat → Int → Int → Nat → Int → GH → Option R) (s2 : Int) (bq : GA) (s9 : Bool) (aa : Int) (ac af ag : Nat) (aj ar : Int) (aq : Nat) (au : Int) (G : GH) : Option R :=
  bif s9 then
  k (iL (2 : Int)) G
  else
  L1 s2 bq aa ac af ag aj ar aq au G
def zeC {R : Type} (O : Ora R) (k : KV R) (L2 : Int → GA → Int → Nat → Nat → Nat → Int → Int → Nat → Int → GH → Option R) (s2 : Int) (bq : GA) (ic : Bool) (aa : Int) (ac af ag : Nat) (aj ar : Int) (aq : Nat) (au : Int) (G : GH) : Option R :=
  bif ic then
  k (iL (10 : Int)) G
  else
  L2 s2 bq aa ac af ag aj ar aq au G
def zdR {R : Type} (O : Ora R) (k : KV R) (L3 : Int → GA → Int → Nat → Nat → Nat → Int → Int → Nat → Int → GH → Option R) (s2 : Int) (bq : GA) (ie : Bool) (aa : Int) (ac af ag : Nat) (aj ar : Int) (aq : Nat) (au : Int) (G : GH) : Option R :=
  bif ie then
  k (iL (10 : Int)) G
  else
  L3 s2 bq aa ac af ag aj ar aq au G
def zeB {R : Type} (O : Ora R) (k : KV R) (L4 : Int → GA → Int → Nat → Nat → Nat → Int → Int → Nat → Int → GH → Option R) (s2 : Int) (bq : GA) (ig : Bool) (aa : Int) (ac af ag : Nat) (aj ar : Int) (aq : Nat) (au : Int) (G : GH) : Option R :=
  bif ig then
  k (iL (2 : Int)) G
  else
  L4 s2 bq aa ac af ag aj ar aq au G
def zeA {R : Type} (O : Ora R) (k : KV R) (s2 : Int) (fq : Bool) (aa : Int) (ac af ag : Nat) (aj ar : Int) (aq : Nat) (au : Int) (G : GH) : Option R :=
  bif fq then
  k (iL (110 : Int)) G
  else
  bif (aa == (4 : Int)) then
  bif (decide (au < (0 : Int))) then
  k (iL (110 : Int)) G
  else
  bif (decide (au ≥ s2)) then
  k (iL (110 : Int)) G
  else
  k (iL (0 : Int)) G
  else
  k (iL (0 : Int)) G
def zcM {R : Type} (O : Ora R) (fuel : Nat) (k : KV R) : Int → GA → Int → Nat → Nat → Nat → Int → Int → Nat → Int → GH → Option R := fun s2 bq aa ac af ag aj ar aq au G =>
  zi fuel (zcJ O fuel (zeA O k) s2 bq aa ac af ag aj ar aq au G)
theorem zkU (fuel : Nat) (s2 : Int) (fq : Bool) (aa : Int) (ac af ag : Nat) (aj ar : Int) (aq : Nat) (au : Int) (G : GH) (k : KV R) :
  ze Tryz.prog O zgr fuel bd33 [1, 1, 0, 0, 1, 1, 1, 1, 1, 1, 1, 1, 0] (rcK Tryz.f33 k) .normal (mkE 110 [(2, iL s2), (3, .loc 0 0), (62, .bool fq)]) [[iL aa, fL ac, fL af, fL ag, iL aj, iL ar, fL aq, iL au]] G =
  zeA O k s2 fq aa ac af ag aj ar aq au G := by kernel_rfl
theorem zmJ (fuel : Nat) (k : KV R) :
  (fun (s2 : Int) (bq : GA) (aa : Int) (ac af ag : Nat) (aj ar : Int) (aq : Nat) (au : Int) (G : GH) => zi fuel (zd Tryz.prog O zgr fuel (nav bd33 [1, 1, 0, 0, 1, 1, 1, 1, 1, 1, 1, 1, 0]) 51 (mkE 110 [(2, iL s2), (3, .loc 0 0), (7, .func 54 [.ptr (some bq)])]) [[iL aa, fL ac, fL af, fL ag, iL aj, iL ar, fL aq, iL au]] G (ze Tryz.prog O zgr fuel bd33 [1, 1, 0, 0, 1, 1, 1, 1, 1, 1, 1, 1, 0] (rcK Tryz.f33 k)))) = zcM O fuel k := by
  funext s2 bq aa ac af ag aj ar aq au G
  simp only [zcM, zmG, zkU]
def zcP {R : Type} (O : Ora R) (fuel : Nat) (k : KV R) : Int → GA → Int → Nat → Nat → Nat → Int → Int → Nat → Int → GH → Option R := fun s2 bq aa ac af ag aj ar aq au G =>
  zi fuel (zcT O (zeB O k (zcM O fuel k)) s2 bq aa ac af ag aj ar aq au G)
theorem zkZ (fuel : Nat) (s2 : Int) (bq : GA) (ig : Bool) (aa : Int) (ac af ag : Nat) (aj ar : Int) (aq : Nat) (au : Int) (G : GH) (k : KV R) :
  ze Tryz.prog O zgr fuel bd33 [1, 1, 0, 0, 1, 1, 1, 1, 1, 1, 0] (rcK Tryz.f33 k) .normal (mkE 110 [(2, iL s2), (3, .loc 0 0), (7, .func 54 [.ptr (some bq)]), (48, .bool ig)]) [[iL aa, fL ac, fL af, fL ag, iL aj, iL ar, fL aq, iL au]] G =
  zeB O k (fun s2 bq aa ac af ag aj ar aq au G => zi fuel (zd Tryz.prog O zgr fuel (nav bd33 [1, 1, 0, 0, 1, 1, 1, 1, 1, 1, 1, 1, 0]) 51 (mkE 110 [(2, iL s2), (3, .loc 0 0), (7, .func 54 [.ptr (some bq)])]) [[iL aa, fL ac, fL af, fL ag, iL aj, iL ar, fL aq, iL au]] G (ze Tryz.prog O zgr fuel bd33 [1, 1, 0, 0, 1, 1, 1, 1, 1, 1, 1, 1, 0] (rcK Tryz.f33 k)))) s2 bq ig aa ac af ag aj ar aq au G := by kernel_rfl
theorem zmV (fuel : Nat) (k : KV R) :
  (fun (s2 : Int) (bq : GA) (aa : Int) (ac af ag : Nat) (aj ar : Int) (aq : Nat) (au : Int) (G : GH) => zi fuel (zd Tryz.prog O zgr fuel (nav bd33 [1, 1, 0, 0, 1, 1, 1, 1, 1, 1, 0]) 39 (mkE 110 [(2, iL s2), (3, .loc 0 0), (7, .func 54 [.ptr (some bq)])]) [[iL aa, fL ac, fL af, fL ag, iL aj, iL ar, fL aq, iL au]] G (ze Tryz.prog O zgr fuel bd33 [1, 1, 0, 0, 1, 1, 1, 1, 1, 1, 0] (rcK Tryz.f33 k)))) = zcP O fuel k := by
  funext s2 bq aa ac af ag aj ar aq au G
  simp only [zcP, zmW, zkZ, zmJ]
def zcz {R : Type} (O : Ora R) (fuel : Nat) (k : KV R) : Int → GA → Int → Nat → Nat → Nat → Int → Int → Nat → Int → GH → Option R := fun s2 bq aa ac af ag aj ar aq au G =>
  zi fuel (zcA O (zdR O k (zcP O fuel k)) s2 bq aa ac af ag aj ar aq au G)
theorem zkW (fuel : Nat) (s2 : Int) (bq : GA) (ie : Bool) (aa : Int) (ac af ag : Nat) (aj ar : Int) (aq : Nat) (au : Int) (G : GH) (k : KV R) :
  ze Tryz.prog O zgr fuel bd33 [1, 1, 0, 0, 1, 1, 1, 1, 0] (rcK Tryz.f33 k) .normal (mkE 110 [(2, iL s2), (3, .loc 0 0), (7, .func 54 [.ptr (some bq)]), (33, .bool ie)]) [[iL aa, fL ac, fL af, fL ag, iL aj, iL ar, fL aq, iL au]] G =
  zdR O k (fun s2 bq aa ac af ag aj ar aq au G => zi fuel (zd Tryz.prog O zgr fuel (nav bd33 [1, 1, 0, 0, 1, 1, 1, 1, 1, 1, 0]) 39 (mkE 110 [(2, iL s2), (3, .loc 0 0), (7, .func 54 [.ptr (some bq)])]) [[iL aa, fL ac, fL af, fL ag, iL aj, iL ar, fL aq, iL au]] G (ze Tryz.prog O zgr fuel bd33 [1, 1, 0, 0, 1, 1, 1, 1, 1, 1, 0] (rcK Tryz.f33 k)))) s2 bq ie aa ac af ag aj ar aq au G := by kernel_rfl
theorem zm5 (fuel : Nat) (k : KV R) :
  (fun (s2 : Int) (bq : GA) (aa : Int) (ac af ag : Nat) (aj ar : Int) (aq : Nat) (au : Int) (G : GH) => zi fuel (zd Tryz.prog O zgr fuel (nav bd33 [1, 1, 0, 0, 1, 1, 1, 1, 0]) 31 (mkE 110 [(2, iL s2), (3, .loc 0 0), (7, .func 54 [.ptr (some bq)])]) [[iL aa, fL ac, fL af, fL ag, iL aj, iL ar, fL aq, iL au]] G (ze Tryz.prog O zgr fuel bd33 [1, 1, 0, 0, 1, 1, 1, 1, 0] (rcK Tryz.f33 k)))) = zcz O fuel k := by
  funext s2 bq aa ac af ag aj ar aq au G
  simp only [zcz, zmP, zkW, zmV]
def zcQ {R : Type} (O : Ora R) (fuel : Nat) (k : KV R) : Int → GA → Int → Nat → Nat → Nat → Int → Int → Nat → Int → GH → Option R := fun s2 bq aa ac af ag aj ar aq au G =>
  zi fuel (zcC O (zeC O k (zcz O fuel k)) s2 bq aa ac af ag aj ar aq au G)
theorem zkP (fuel : Nat) (s2 : Int) (bq : GA) (ic : Bool) (aa : Int) (ac af ag : Nat) (aj ar : Int) (aq : Nat) (au : Int) (G : GH) (k : KV R) :
  ze Tryz.prog O zgr fuel bd33 [1, 1, 0, 0, 1, 1, 0] (rcK Tryz.f33 k) .normal (mkE 110 [(2, iL s2), (3, .loc 0 0), (7, .func 54 [.ptr (some bq)]), (18, .bool ic)]) [[iL aa, fL ac, fL af, fL ag, iL aj, iL ar, fL aq, iL au]] G =
  zeC O k (fun s2 bq aa ac af ag aj ar aq au G => zi fuel (zd Tryz.prog O zgr fuel (nav bd33 [1, 1, 0, 0, 1, 1, 1, 1, 0]) 31 (mkE 110 [(2, iL s2), (3, .loc 0 0), (7, .func 54 [.ptr (some bq)])]) [[iL aa, fL ac, fL af, fL ag, iL aj, iL ar, fL aq, iL au]] G (ze Tryz.prog O zgr fuel bd33 [1, 1, 0, 0, 1, 1, 1, 1, 0] (rcK Tryz.f33 k)))) s2 bq ic aa ac af ag aj ar aq au G := by kernel_rfl
theorem zmQ (fuel : Nat) (k : KV R) :
  (fun (s2 : Int) (bq : GA) (aa : Int) (ac af ag : Nat) (aj ar : Int) (aq : Nat) (au : Int) (G : GH) => zi fuel (zd Tryz.prog O zgr fuel (nav bd33 [1, 1, 0, 0, 1, 1, 0]) 23 (mkE 110 [(2, iL s2), (3, .loc 0 0), (7, .func 54 [.ptr (some bq)])]) [[iL aa, fL ac, fL af, fL ag, iL aj, iL ar, fL aq, iL au]] G (ze Tryz.prog O zgr fuel bd33 [1, 1, 0, 0, 1, 1, 0] (rcK Tryz.f33 k)))) = zcQ O fuel k := by
  funext s2 bq aa ac af ag aj ar aq au G
  simp only [zcQ, zmO, zkP, zm5]
def zcW {R : Type} (O : Ora R) (fuel : Nat) (k : KV R) : Int → GA → Int → Nat → Nat → Nat → Int → Int → Nat → Int → GH → Option R := fun s2 bq aa ac af ag aj ar aq au G =>
  zi fuel (zcy O (zei O k (zcQ O fuel k)) s2 bq aa ac af ag aj ar aq au G)
theorem zk0 (fuel : Nat) (s2 : Int) (bq : GA) (s9 : Bool) (aa : Int) (ac af ag : Nat) (aj ar : Int) (aq : Nat) (au : Int) (G : GH) (k : KV R) :
  ze Tryz.prog O zgr fuel bd33 [1, 1, 0, 0, 0] (rcK Tryz.f33 k) .normal (mkE 110 [(2, iL s2), (3, .loc 0 0), (7, .func 54 [.ptr (some bq)]), (9, .bool s9)]) [[iL aa, fL ac, fL af, fL ag, iL aj, iL ar, fL aq, iL au]] G =
  zei O k (fun s2 bq aa ac af ag aj ar aq au G => zi fuel (zd Tryz.prog O zgr fuel (nav bd33 [1, 1, 0, 0, 1, 1, 0]) 23 (mkE 110 [(2, iL s2), (3, .loc 0 0), (7, .func 54 [.ptr (some bq)])]) [[iL aa, fL ac, fL af, fL ag, iL aj, iL ar, fL aq, iL au]] G (ze Tryz.prog O zgr fuel bd33 [1, 1, 0, 0, 1, 1, 0] (rcK Tryz.f33 k)))) s2 bq s9 aa ac af ag aj ar aq au G := by kernel_rfl
theorem zmE (fuel : Nat) (k : KV R) :
  (fun (s2 : Int) (bq : GA) (aa : Int) (ac af ag : Nat) (aj ar : Int) (aq : Nat) (au : Int) (G : GH) => zi fuel (zd Tryz.prog O zgr fuel (nav bd33 [1, 1, 0, 0, 0]) 15 (mkE 110 [(2, iL s2), (3, .loc 0 0), (7, .func 54 [.ptr (some bq)])]) [[iL aa, fL ac, fL af, fL ag, iL aj, iL ar, fL aq, iL au]] G (ze Tryz.prog O zgr fuel bd33 [1, 1, 0, 0, 0] (rcK Tryz.f33 k)))) = zcW O fuel k := by
  funext s2 bq aa ac af ag aj ar aq au G
  simp only [zcW, zmT, zk0, zmQ]
theorem zn8 (fuel : Nat) (av : Int) (aw bf bh : Nat) (bx cd : Int) (dn : Nat) (ec p1 p2 : Int) (G : GH) (k : KV R) :
  zf Tryz.prog O zgr fuel Tryz.f33 [.agg [iL av, fL aw, fL bf, fL bh, iL bx, iL cd, fL dn, iL ec], iL p1, iL p2] G k =
  zhs O k (fun s2 bq aa ac af ag aj ar aq au G => zi fuel (zd Tryz.prog O zgr fuel (nav bd33 [1, 1, 0, 0, 0]) 15 (mkE 110 [(2, iL s2), (3, .loc 0 0), (7, .func 54 [.ptr (some bq)])]) [[iL aa, fL ac, fL af, fL ag, iL aj, iL ar, fL aq, iL au]] G (ze Tryz.prog O zgr fuel bd33 [1, 1, 0, 0, 0] (rcK Tryz.f33 k)))) av aw bf bh bx cd dn ec p1 p2 G := by kernel_rfl
theorem zub (fuel : Nat) (av : Int) (aw bf bh : Nat) (bx cd : Int) (dn : Nat) (ec p1 p2 : Int) (G : GH) (k : KV R) :
  zf Tryz.prog O zgr fuel Tryz.f33 [.agg [iL av, fL aw, fL bf, fL bh, iL bx, iL cd, fL dn, iL ec], iL p1, iL p2] G k =
  zhs O k (zcW O fuel k) av aw bf bh bx cd dn ec p1 p2 G := by
  rw [zn8, zmE]
theorem zus {R : Type} (fuel n : Nat) (av : Int) (aw bf bh : Nat) (bx cd : Int) (dn : Nat) (ec p1 p2 : Int) (G : GH) (k : KV R) :
  runC Tryz.prog lo0 fuel (n + 1) 33 [.agg [iL av, fL aw, fL bf, fL bh, iL bx, iL cd, fL dn, iL ec], iL p1, iL p2] G k = zf Tryz.prog (runC Tryz.prog lo0 fuel n) zgr fuel Tryz.f33 [.agg [iL av, fL aw, fL bf, fL bh, iL bx, iL cd, fL dn, iL ec], iL p1, iL p2] G k := zh Tryz.func33 rfl rfl
def zcR {R : Type} (O : Ora R) (Kret : Int → Int → GH → Option R) (KN : zGg R) (K0 : GH → Option R) (bm : OG) (bj : Nat) (gc : OG) (gd : Nat) (el cj : Int) (G : GH) : Option R :=
  bif (decide (cj < el)) then
  (zbj gc gd cj 8).bind fun a1 =>
  (z0 G .i64 (GA.add a1 0)).bind fun x2 =>
  (zg G .f64 (GA.add a1 1)).bind fun x3 =>
  (zg G .f64 (GA.add a1 2)).bind fun x4 =>
  (zg G .f64 (GA.add a1 3)).bind fun x5 =>
  (z0 G .i64 (GA.add a1 4)).bind fun x6 =>
  (z0 G .i64 (GA.add a1 5)).bind fun x7 =>
  (zg G .f64 (GA.add a1 6)).bind fun x8 =>
  (z0 G .i64 (GA.add a1 7)).bind fun x9 =>
  O zgf [.agg [iL x2, fL x3, fL x4, fL x5, iL x6, iL x7, fL x8, iL x9], iL cj, iL (bj : Int)] G fun v10 G11 =>
  (zk .i64 v10).bind fun x12 =>
  bif (x12 != (0 : Int)) then
  Kret cj x12 G11
  else
  KN bm bj gc gd el (IntKind.wrap .i64 (cj + (1 : Int))) G11
  else
  K0 G
def zI {R : Type} (O : Ora R) (Kret : Int → Int → GH → Option R) (K0 : GH → Option R) : Nat → OG → Nat → OG → Nat → Int → Int → GH → Option R
  | 0, _, _, _, _, _, _, _ => none
  | n + 1, bm, bj, gc, gd, el, cj, G => zcR O Kret (zI O Kret K0 n) K0 bm bj gc gd el cj G
theorem zlh (fuel : Nat) (bm : OG) (bj : Nat) (gc : OG) (gd : Nat) (el cj : Int) (G : GH) (k : KE R) :
  zd Tryz.prog O zA2 fuel (nav bd15 [1, 0, 1, 0, 0]) 8 (mkE 26 [(1, .slice bm bj), (9, .slice gc gd), (10, iL el), (11, iL cj)]) [] G k =
  zcR O (fun s4 s5 G => k .ret (mkE 26 [(4, iL s4), (5, iL s5)]) [] G) (fun bm bj gc gd el cj G => k .normal (mkE 26 [(1, .slice bm bj), (9, .slice gc gd), (10, iL el), (11, iL cj)]) [] G) (fun G => k (.exit 0) (mkE 26 []) [] G) bm bj gc gd el cj G := by kernel_rfl
theorem zmU (fuel : Nat) (k : KE R) : ∀ (n : Nat) (bm : OG) (bj : Nat) (gc : OG) (gd : Nat) (el cj : Int) (G : GH),
  zJ (zd Tryz.prog O zA2 fuel (nav bd15 [1, 0, 1, 0, 0]) 8) n (mkE 26 [(1, .slice bm bj), (9, .slice gc gd), (10, iL el), (11, iL cj)]) [] G k = zI O (fun s4 s5 G => k .ret (mkE 26 [(4, iL s4), (5, iL s5)]) [] G) (fun G => k (.exit 0) (mkE 26 []) [] G) n bm bj gc gd el cj G := by
  intro n
  induction n with
  | zero => intros; first | rfl | simp only [zJ, zI]
  | succ n ih =>
    intros
    rw [zaU, zlh]
    simp only [zI, zah, zaS, zbI, ih]
def zhv {R : Type} (O : Ora R) (k : KV R) (L0 : zGg R) (dc : OG) (db : Nat) (dq : OG) (dr : Nat) (G : GH) : Option R :=
  L0 dq dr dc db (db : Int) (0 : Int) G
def zaB {R : Type} (O : Ora R) (k : KV R) (s4 s5 : Int) (G : GH) : Option R :=
  k (.tuple [iL s4, iL s5]) G
def za4 {R : Type} (O : Ora R) (k : KV R)  (G : GH) : Option R :=
  k (.tuple [iL (0 : Int), iL (0 : Int)]) G
def zcS {R : Type} (O : Ora R) (fuel : Nat) (k : KV R) : OG → Nat → OG → Nat → Int → Int → GH → Option R := fun bm bj gc gd el cj G =>
  zI O (zaB O k) (za4 O k) fuel bm bj gc gd el cj G
theorem zi5 (fuel : Nat) (s4 s5 : Int) (G : GH) (k : KV R) :
  ze Tryz.prog O zA2 fuel bd15 [1, 0, 1, 0] (rcK Tryz.f15 k) .ret (mkE 26 [(4, iL s4), (5, iL s5)]) [] G =
  zaB O k s4 s5 G := by kernel_rfl
theorem zkV (fuel : Nat)  (G : GH) (k : KV R) :
  ze Tryz.prog O zA2 fuel bd15 [1, 0, 1, 0] (rcK Tryz.f15 k) (.exit 0) (mkE 26 []) [] G =
  za4 O k G := by kernel_rfl
theorem zmM (fuel : Nat) (k : KV R) :
  (fun (bm : OG) (bj : Nat) (gc : OG) (gd : Nat) (el cj : Int) (G : GH) => zJ (zd Tryz.prog O zA2 fuel (nav bd15 [1, 0, 1, 0, 0]) 8) fuel (mkE 26 [(1, .slice bm bj), (9, .slice gc gd), (10, iL el), (11, iL cj)]) [] G (ze Tryz.prog O zA2 fuel bd15 [1, 0, 1, 0] (rcK Tryz.f15 k))) = zcS O fuel k := by
  funext bm bj gc gd el cj G
  simp only [zcS, zmU, zi5, zkV]
theorem znK (fuel : Nat) (dc : OG) (db : Nat) (dq : OG) (dr : Nat) (G : GH) (k : KV R) :
  zf Tryz.prog O zA2 fuel Tryz.f15 [.slice dc db, .slice dq dr] G k =
  zhv O k (fun bm bj gc gd el cj G => zJ (zd Tryz.prog O zA2 fuel (nav bd15 [1, 0, 1, 0, 0]) 8) fuel (mkE 26 [(1, .slice bm bj), (9, .slice gc gd), (10, iL el), (11, iL cj)]) [] G (ze Tryz.prog O zA2 fuel bd15 [1, 0, 1, 0] (rcK Tryz.f15 k))) dc db dq dr G := by kernel_rfl
theorem ztF (fuel : Nat) (dc : OG) (db : Nat) (dq : OG) (dr : Nat) (G : GH) (k : KV R) :
  zf Tryz.prog O zA2 fuel Tryz.f15 [.slice dc db, .slice dq dr] G k =
  zhv O k (zcS O fuel k) dc db dq dr G := by
  rw [znK, zmM]
theorem zt9 {R : Type} (fuel n : Nat) (dc : OG) (db : Nat) (dq : OG) (dr : Nat) (G : GH) (k : KV R) :
  runC Tryz.prog lo0 fuel (n + 1) 15 [.slice dc db, .slice dq dr] G k = zf Tryz.prog (runC Tryz.prog lo0 fuel n) zA2 fuel Tryz.f15 [.slice dc db, .slice dq dr] G k := zh Tryz.func15 rfl rfl
def za8 {R : Type} (O : Ora R) (K3 : zs3 R) (KN : zGg R) (ba : OG) (az : Nat) (bo : OG) (bp : Nat) (s6 dm : Int) (G : GH) : Option R :=
  bif (dm == (2 : Int)) then
  bif (dm == (2 : Int)) then
  K3 ba az bo bp s6 G
  else
  KN ba az bo bp s6 dm G
  else
  bif (dm == (3 : Int)) then
  K3 ba az bo bp s6 G
  else
  KN ba az bo bp s6 dm G
def zay {R : Type} (O : Ora R) (K3 : zs3 R) (KN : zGg R) : OG → Nat → OG → Nat → Int → Int → GH → Option R := fun ba az bo bp s6 dm G => za8 O K3 KN ba az bo bp s6 dm G
theorem zk9 (fuel : Nat) (ba : OG) (az : Nat) (bo : OG) (bp : Nat) (s6 dm : Int) (G : GH) (k : KE R) :
  zd Tryz.prog O zeK fuel (nav bd16 [1, 1, 1, 0, 1, 0, 0, 1, 0, 0, 1, 1, 0, 0, 0, 0, 0, 0, 0]) 43 (mkE 48 [(0, .slice ba az), (5, .slice bo bp), (6, iL s6), (27, iL dm)]) [] G k =
  za8 O (fun ba az bo bp s6 G => k (.exit 3) (mkE 48 [(0, .slice ba az), (5, .slice bo bp), (6, iL s6)]) [] G) (fun ba az bo bp s6 dm G => k .normal (mkE 48 [(0, .slice ba az), (5, .slice bo bp), (6, iL s6), (27, iL dm)]) [] G) ba az bo bp s6 dm G := by kernel_rfl
theorem zl3 (fuel : Nat) (k : KE R) : ∀ (ba : OG) (az : Nat) (bo : OG) (bp : Nat) (s6 dm : Int) (G : GH),
  zd Tryz.prog O zeK fuel (nav bd16 [1, 1, 1, 0, 1, 0, 0, 1, 0, 0, 1, 1, 0, 0, 0, 0, 0, 0, 0]) 43 (mkE 48 [(0, .slice ba az), (5, .slice bo bp), (6, iL s6), (27, iL dm)]) [] G k = zay O (fun ba az bo bp s6 G => k (.exit 3) (mkE 48 [(0, .slice ba az), (5, .slice bo bp), (6, iL s6)]) [] G) (fun ba az bo bp s6 dm G => k .normal (mkE 48 [(0, .slice ba az), (5, .slice bo bp), (6, iL s6), (27, iL dm)]) [] G) ba az bo bp s6 dm G := by
  intros
  rw [zk9]
  simp only [zay]
def za9 {R : Type} (O : Ora R) (KN K4 K2 : zs3 R) (L4 : zGg R) (ba : OG) (az : Nat) (bo : OG) (bp : Nat) (s6 dm : Int) (G : GH) : Option R :=
  L4 ba az bo bp s6 dm G
def zbz {R : Type} (O : Ora R) (KN K4 K2 : zs3 R) (ba : OG) (az : Nat) (bo : OG) (bp : Nat) (s6 : Int) (G : GH) : Option R :=
  KN ba az bo bp s6 G
def zbr {R : Type} (O : Ora R) (KN K4 K2 : zs3 R) (ba : OG) (az : Nat) (bo : OG) (bp : Nat) (s6 dm : Int) (G : GH) : Option R :=
  bif (dm == (5 : Int)) then
  K4 ba az bo bp s6 G
  else
  K2 ba az bo bp s6 G
def zaw {R : Type} (O : Ora R) (fuel : Nat) (KN K4 K2 : zs3 R) : OG → Nat → OG → Nat → Int → Int → GH → Option R := fun ba az bo bp s6 dm G =>
  zi fuel (zay O (zbz O KN K4 K2) (zbr O KN K4 K2) ba az bo bp s6 dm G)
theorem zj1 (fuel : Nat) (ba : OG) (az : Nat) (bo : OG) (bp : Nat) (s6 : Int) (G : GH) (k : KE R) :
  ze Tryz.prog O zeK fuel (nav bd16 [1, 1, 1, 0, 1, 0, 0, 1, 0, 0, 1, 1, 0, 0, 0, 0]) [0, 0, 0] (kpD zeK 47 0 k) (.exit 3) (mkE 48 [(0, .slice ba az), (5, .slice bo bp), (6, iL s6)]) [] G =
  zbz O (fun ba az bo bp s6 G => k .normal (mkE 48 [(0, .slice ba az), (5, .slice bo bp), (6, iL s6)]) [] G) (fun ba az bo bp s6 G => k (.exit 4) (mkE 48 [(0, .slice ba az), (5, .slice bo bp), (6, iL s6)]) [] G) (fun ba az bo bp s6 G => k (.exit 2) (mkE 48 [(0, .slice ba az), (5, .slice bo bp), (6, iL s6)]) [] G) ba az bo bp s6 G := by kernel_rfl
theorem zkh (fuel : Nat) (ba : OG) (az : Nat) (bo : OG) (bp : Nat) (s6 dm : Int) (G : GH) (k : KE R) :
  ze Tryz.prog O zeK fuel (nav bd16 [1, 1, 1, 0, 1, 0, 0, 1, 0, 0, 1, 1, 0, 0, 0, 0]) [0, 0, 0] (kpD zeK 47 0 k) .normal (mkE 48 [(0, .slice ba az), (5, .slice bo bp), (6, iL s6), (27, iL dm)]) [] G =
  zbr O (fun ba az bo bp s6 G => k .normal (mkE 48 [(0, .slice ba az), (5, .slice bo bp), (6, iL s6)]) [] G) (fun ba az bo bp s6 G => k (.exit 4) (mkE 48 [(0, .slice ba az), (5, .slice bo bp), (6, iL s6)]) [] G) (fun ba az bo bp s6 G => k (.exit 2) (mkE 48 [(0, .slice ba az), (5, .slice bo bp), (6, iL s6)]) [] G) ba az bo bp s6 dm G := by kernel_rfl
theorem zl0 (fuel : Nat) (k : KE R) :
  (fun (ba : OG) (az : Nat) (bo : OG) (bp : Nat) (s6 dm : Int) (G : GH) => zi fuel (zd Tryz.prog O zeK fuel (nav bd16 [1, 1, 1, 0, 1, 0, 0, 1, 0, 0, 1, 1, 0, 0, 0, 0, 0, 0, 0]) 43 (mkE 48 [(0, .slice ba az), (5, .slice bo bp), (6, iL s6), (27, iL dm)]) [] G (ze Tryz.prog O zeK fuel (nav bd16 [1, 1, 1, 0, 1, 0, 0, 1, 0, 0, 1, 1, 0, 0, 0, 0]) [0, 0, 0] (kpD zeK 47 0 k)))) = zaw O fuel (fun (ba : OG) (az : Nat) (bo : OG) (bp : Nat) (s6 : Int) (G : GH) => k .normal (mkE 48 [(0, .slice ba az), (5, .slice bo bp), (6, iL s6)]) [] G) (fun (ba : OG) (az : Nat) (bo : OG) (bp : Nat) (s6 : Int) (G : GH) => k (.exit 4) (mkE 48 [(0, .slice ba az), (5, .slice bo bp), (6, iL s6)]) [] G) (fun (ba : OG) (az : Nat) (bo : OG) (bp : Nat) (s6 : Int) (G : GH) => k (.exit 2) (mkE 48 [(0, .slice ba az), (5, .slice bo bp), (6, iL s6)]) [] G) := by
  funext ba az bo bp s6 dm G
  simp only [zaw, zl3, zj1, zkh]
def zav {R : Type} (O : Ora R) (fuel : Nat) (KN K4 K2 : zs3 R) : OG → Nat → OG → Nat → Int → Int → GH → Option R := fun ba az bo bp s6 dm G => za9 O KN K4 K2 (zaw O fuel KN K4 K2) ba az bo bp s6 dm G
theorem zk6 (fuel : Nat) (ba : OG) (az : Nat) (bo : OG) (bp : Nat) (s6 dm : Int) (G : GH) (k : KE R) :
  zd Tryz.prog O zeK fuel (nav bd16 [1, 1, 1, 0, 1, 0, 0, 1, 0, 0, 1, 1, 0, 0, 0, 0]) 47 (mkE 48 [(0, .slice ba az), (5, .slice bo bp), (6, iL s6), (27, iL dm)]) [] G k =
  za9 O (fun ba az bo bp s6 G => k .normal (mkE 48 [(0, .slice ba az), (5, .slice bo bp), (6, iL s6)]) [] G) (fun ba az bo bp s6 G => k (.exit 4) (mkE 48 [(0, .slice ba az), (5, .slice bo bp), (6, iL s6)]) [] G) (fun ba az bo bp s6 G => k (.exit 2) (mkE 48 [(0, .slice ba az), (5, .slice bo bp), (6, iL s6)]) [] G) (fun ba az bo bp s6 dm G => zi fuel (zd Tryz.prog O zeK fuel (nav bd16 [1, 1, 1, 0, 1, 0, 0, 1, 0, 0, 1, 1, 0, 0, 0, 0, 0, 0, 0]) 43 (mkE 48 [(0, .slice ba az), (5, .slice bo bp), (6, iL s6), (27, iL dm)]) [] G (ze Tryz.prog O zeK fuel (nav bd16 [1, 1, 1, 0, 1, 0, 0, 1, 0, 0, 1, 1, 0, 0, 0, 0]) [0, 0, 0] (kpD zeK 47 0 k)))) ba az bo bp s6 dm G := by kernel_rfl
theorem zlr (fuel : Nat) (k : KE R) : ∀ (ba : OG) (az : Nat) (bo : OG) (bp : Nat) (s6 dm : Int) (G : GH),
  zd Tryz.prog O zeK fuel (nav bd16 [1, 1, 1, 0, 1, 0, 0, 1, 0, 0, 1, 1, 0, 0, 0, 0]) 47 (mkE 48 [(0, .slice ba az), (5, .slice bo bp), (6, iL s6), (27, iL dm)]) [] G k = zav O fuel (fun ba az bo bp s6 G => k .normal (mkE 48 [(0, .slice ba az), (5, .slice bo bp), (6, iL s6)]) [] G) (fun ba az bo bp s6 G => k (.exit 4) (mkE 48 [(0, .slice ba az), (5, .slice bo bp), (6, iL s6)]) [] G) (fun ba az bo bp s6 G => k (.exit 2) (mkE 48 [(0, .slice ba az), (5, .slice bo bp), (6, iL s6)]) [] G) ba az bo bp s6 dm G := by
  intros
  rw [zk6]
  simp only [zav, zl0]
def za7 {R : Type} (O : Ora R) (KN K2 : zs3 R) (L3 : zGg R) (ba : OG) (az : Nat) (bo : OG) (bp : Nat) (s6 dm : Int) (G : GH) : Option R :=
  L3 ba az bo bp s6 dm G
def zby {R : Type} (O : Ora R) (KN K2 : zs3 R) (ba : OG) (az : Nat) (bo : OG) (bp : Nat) (s6 : Int) (G : GH) : Option R :=
  (zbj ba az s6 8).bind fun a1 =>
  (z0 G .i64 (GA.add a1 5)).bind fun x2 =>
  (zbj bo bp x2 1).bind fun a3 =>
  (gst G a3 [.bool true]).bind fun G4 =>
  KN ba az bo bp s6 G4
def zdG {R : Type} (O : Ora R) (KN K2 : zs3 R) (ba : OG) (az : Nat) (bo : OG) (bp : Nat) (s6 : Int) (G : GH) : Option R :=
  KN ba az bo bp s6 G
def zdA {R : Type} (O : Ora R) (KN K2 : zs3 R) (ba : OG) (az : Nat) (bo : OG) (bp : Nat) (s6 : Int) (G : GH) : Option R :=
  K2 ba az bo bp s6 G
def zat {R : Type} (O : Ora R) (fuel : Nat) (KN K2 : zs3 R) : OG → Nat → OG → Nat → Int → Int → GH → Option R := fun ba az bo bp s6 dm G =>
  zi fuel (zav O fuel (zby O KN K2) (zdG O KN K2) (zdA O KN K2) ba az bo bp s6 dm G)
theorem zj0 (fuel : Nat) (ba : OG) (az : Nat) (bo : OG) (bp : Nat) (s6 : Int) (G : GH) (k : KE R) :
  ze Tryz.prog O zeK fuel (nav bd16 [1, 1, 1, 0, 1, 0, 0, 1, 0, 0, 1, 1, 0, 0]) [0, 0] (kpD zeK 51 0 k) .normal (mkE 48 [(0, .slice ba az), (5, .slice bo bp), (6, iL s6)]) [] G =
  zby O (fun ba az bo bp s6 G => k .normal (mkE 48 [(0, .slice ba az), (5, .slice bo bp), (6, iL s6)]) [] G) (fun ba az bo bp s6 G => k (.exit 2) (mkE 48 [(0, .slice ba az), (5, .slice bo bp), (6, iL s6)]) [] G) ba az bo bp s6 G := by kernel_rfl
theorem zjL (fuel : Nat) (ba : OG) (az : Nat) (bo : OG) (bp : Nat) (s6 : Int) (G : GH) (k : KE R) :
  ze Tryz.prog O zeK fuel (nav bd16 [1, 1, 1, 0, 1, 0, 0, 1, 0, 0, 1, 1, 0, 0]) [0, 0] (kpD zeK 51 0 k) (.exit 4) (mkE 48 [(0, .slice ba az), (5, .slice bo bp), (6, iL s6)]) [] G =
  zdG O (fun ba az bo bp s6 G => k .normal (mkE 48 [(0, .slice ba az), (5, .slice bo bp), (6, iL s6)]) [] G) (fun ba az bo bp s6 G => k (.exit 2) (mkE 48 [(0, .slice ba az), (5, .slice bo bp), (6, iL s6)]) [] G) ba az bo bp s6 G := by kernel_rfl
theorem zkv (fuel : Nat) (ba : OG) (az : Nat) (bo : OG) (bp : Nat) (s6 : Int) (G : GH) (k : KE R) :
  ze Tryz.prog O zeK fuel (nav bd16 [1, 1, 1, 0, 1, 0, 0, 1, 0, 0, 1, 1, 0, 0]) [0, 0] (kpD zeK 51 0 k) (.exit 2) (mkE 48 [(0, .slice ba az), (5, .slice bo bp), (6, iL s6)]) [] G =
  zdA O (fun ba az bo bp s6 G => k .normal (mkE 48 [(0, .slice ba az), (5, .slice bo bp), (6, iL s6)]) [] G) (fun ba az bo bp s6 G => k (.exit 2) (mkE 48 [(0, .slice ba az), (5, .slice bo bp), (6, iL s6)]) [] G) ba az bo bp s6 G := by kernel_rfl
theorem zlX (fuel : Nat) (k : KE R) :
  (fun (ba : OG) (az : Nat) (bo : OG) (bp : Nat) (s6 dm : Int) (G : GH) => zi fuel (zd Tryz.prog O zeK fuel (nav bd16 [1, 1, 1, 0, 1, 0, 0, 1, 0, 0, 1, 1, 0, 0, 0, 0]) 47 (mkE 48 [(0, .slice ba az), (5, .slice bo bp), (6, iL s6), (27, iL dm)]) [] G (ze Tryz.prog O zeK fuel (nav bd16 [1, 1, 1, 0, 1, 0, 0, 1, 0, 0, 1, 1, 0, 0]) [0, 0] (kpD zeK 51 0 k)))) = zat O fuel (fun (ba : OG) (az : Nat) (bo : OG) (bp : Nat) (s6 : Int) (G : GH) => k .normal (mkE 48 [(0, .slice ba az), (5, .slice bo bp), (6, iL s6)]) [] G) (fun (ba : OG) (az : Nat) (bo : OG) (bp : Nat) (s6 : Int) (G : GH) => k (.exit 2) (mkE 48 [(0, .slice ba az), (5, .slice bo bp), (6, iL s6)]) [] G) := by
  funext ba az bo bp s6 dm G
  simp only [zat, zlr, zj0, zjL, zkv]
def zau {R : Type} (O : Ora R) (fuel : Nat) (KN K2 : zs3 R) : OG → Nat → OG → Nat → Int → Int → GH → Option R := fun ba az bo bp s6 dm G => za7 O KN K2 (zat O fuel KN K2) ba az bo bp s6 dm G
theorem zk1 (fuel : Nat) (ba : OG) (az : Nat) (bo : OG) (bp : Nat) (s6 dm : Int) (G : GH) (k : KE R) :
  zd Tryz.prog O zeK fuel (nav bd16 [1, 1, 1, 0, 1, 0, 0, 1, 0, 0, 1, 1, 0, 0]) 51 (mkE 48 [(0, .slice ba az), (5, .slice bo bp), (6, iL s6), (27, iL dm)]) [] G k =
  za7 O (fun ba az bo bp s6 G => k .normal (mkE 48 [(0, .slice ba az), (5, .slice bo bp), (6, iL s6)]) [] G) (fun ba az bo bp s6 G => k (.exit 2) (mkE 48 [(0, .slice ba az), (5, .slice bo bp), (6, iL s6)]) [] G) (fun ba az bo bp s6 dm G => zi fuel (zd Tryz.prog O zeK fuel (nav bd16 [1, 1, 1, 0, 1, 0, 0, 1, 0, 0, 1, 1, 0, 0, 0, 0]) 47 (mkE 48 [(0, .slice ba az), (5, .slice bo bp), (6, iL s6), (27, iL dm)]) [] G (ze Tryz.prog O zeK fuel (nav bd16 [1, 1, 1, 0, 1, 0, 0, 1, 0, 0, 1, 1, 0, 0]) [0, 0] (kpD zeK 51 0 k)))) ba az bo bp s6 dm G := by kernel_rfl
theorem zlA (fuel : Nat) (k : KE R) : ∀ (ba : OG) (az : Nat) (bo : OG) (bp : Nat) (s6 dm : Int) (G : GH),
  zd Tryz.prog O zeK fuel (nav bd16 [1, 1, 1, 0, 1, 0, 0, 1, 0, 0, 1, 1, 0, 0]) 51 (mkE 48 [(0, .slice ba az), (5, .slice bo bp), (6, iL s6), (27, iL dm)]) [] G k = zau O fuel (fun ba az bo bp s6 G => k .normal (mkE 48 [(0, .slice ba az), (5, .slice bo bp), (6, iL s6)]) [] G) (fun ba az bo bp s6 G => k (.exit 2) (mkE 48 [(0, .slice ba az), (5, .slice bo bp), (6, iL s6)]) [] G) ba az bo bp s6 dm G := by
  intros
  rw [zk1]
  simp only [zau, zlX]
def zez {R : Type} (O : Ora R) (KN : zs3 R) (L2 : zGg R) (ba : OG) (az : Nat) (bo : OG) (bp : Nat) (s6 : Int) (G : GH) : Option R :=
  (zbj bo bp s6 1).bind fun a1 =>
  (zfZ G a1).bind fun x2 =>
  bif (!x2) then
  KN ba az bo bp s6 G
  else
  (zbj ba az s6 8).bind fun a3 =>
  (z0 G .i64 (GA.add a3 0)).bind fun x4 =>
  L2 ba az bo bp s6 x4 G
def zaL {R : Type} (O : Ora R) (KN : zs3 R) (ba : OG) (az : Nat) (bo : OG) (bp : Nat) (s6 : Int) (G : GH) : Option R :=
  (zbj ba az s6 8).bind fun a1 =>
  (z0 G .i64 (GA.add a1 4)).bind fun x2 =>
  (zbj bo bp x2 1).bind fun a3 =>
  (gst G a3 [.bool true]).bind fun G4 =>
  KN ba az bo bp s6 G4
def zbt {R : Type} (O : Ora R) (KN : zs3 R) (ba : OG) (az : Nat) (bo : OG) (bp : Nat) (s6 : Int) (G : GH) : Option R :=
  KN ba az bo bp s6 G
def z8 {R : Type} (O : Ora R) (fuel : Nat) (KN : zs3 R) : OG → Nat → OG → Nat → Int → Int → GH → Option R := fun ba az bo bp s6 dm G =>
  zi fuel (zau O fuel (zaL O KN) (zbt O KN) ba az bo bp s6 dm G)
theorem zki (fuel : Nat) (ba : OG) (az : Nat) (bo : OG) (bp : Nat) (s6 : Int) (G : GH) (k : KE R) :
  ze Tryz.prog O zeK fuel (nav bd16 [1, 1, 1, 0, 1, 0, 0, 1, 0]) [0, 1, 1, 0, 0] (kpD zeK 23 0 k) .normal (mkE 48 [(0, .slice ba az), (5, .slice bo bp), (6, iL s6)]) [] G =
  zaL O (fun ba az bo bp s6 G => k .normal (mkE 48 [(0, .slice ba az), (5, .slice bo bp), (6, iL s6)]) [] G) ba az bo bp s6 G := by kernel_rfl
theorem zkC (fuel : Nat) (ba : OG) (az : Nat) (bo : OG) (bp : Nat) (s6 : Int) (G : GH) (k : KE R) :
  ze Tryz.prog O zeK fuel (nav bd16 [1, 1, 1, 0, 1, 0, 0, 1, 0]) [0, 1, 1, 0, 0] (kpD zeK 23 0 k) (.exit 2) (mkE 48 [(0, .slice ba az), (5, .slice bo bp), (6, iL s6)]) [] G =
  zbt O (fun ba az bo bp s6 G => k .normal (mkE 48 [(0, .slice ba az), (5, .slice bo bp), (6, iL s6)]) [] G) ba az bo bp s6 G := by kernel_rfl
theorem zmg (fuel : Nat) (k : KE R) :
  (fun (ba : OG) (az : Nat) (bo : OG) (bp : Nat) (s6 dm : Int) (G : GH) => zi fuel (zd Tryz.prog O zeK fuel (nav bd16 [1, 1, 1, 0, 1, 0, 0, 1, 0, 0, 1, 1, 0, 0]) 51 (mkE 48 [(0, .slice ba az), (5, .slice bo bp), (6, iL s6), (27, iL dm)]) [] G (ze Tryz.prog O zeK fuel (nav bd16 [1, 1, 1, 0, 1, 0, 0, 1, 0]) [0, 1, 1, 0, 0] (kpD zeK 23 0 k)))) = z8 O fuel (fun (ba : OG) (az : Nat) (bo : OG) (bp : Nat) (s6 : Int) (G : GH) => k .normal (mkE 48 [(0, .slice ba az), (5, .slice bo bp), (6, iL s6)]) [] G) := by
  funext ba az bo bp s6 dm G
  simp only [z8, zlA, zki, zkC]
def zb5 {R : Type} (O : Ora R) (fuel : Nat) (KN : zs3 R) : OG → Nat → OG → Nat → Int → GH → Option R := fun ba az bo bp s6 G => zez O KN (z8 O fuel KN) ba az bo bp s6 G
theorem zkT (fuel : Nat) (ba : OG) (az : Nat) (bo : OG) (bp : Nat) (s6 : Int) (G : GH) (k : KE R) :
  zd Tryz.prog O zeK fuel (nav bd16 [1, 1, 1, 0, 1, 0, 0, 1, 0]) 23 (mkE 48 [(0, .slice ba az), (5, .slice bo bp), (6, iL s6)]) [] G k =
  zez O (fun ba az bo bp s6 G => k .normal (mkE 48 [(0, .slice ba az), (5, .slice bo bp), (6, iL s6)]) [] G) (fun ba az bo bp s6 dm G => zi fuel (zd Tryz.prog O zeK fuel (nav bd16 [1, 1, 1, 0, 1, 0, 0, 1, 0, 0, 1, 1, 0, 0]) 51 (mkE 48 [(0, .slice ba az), (5, .slice bo bp), (6, iL s6), (27, iL dm)]) [] G (ze Tryz.prog O zeK fuel (nav bd16 [1, 1, 1, 0, 1, 0, 0, 1, 0]) [0, 1, 1, 0, 0] (kpD zeK 23 0 k)))) ba az bo bp s6 G := by kernel_rfl
theorem zln (fuel : Nat) (k : KE R) : ∀ (ba : OG) (az : Nat) (bo : OG) (bp : Nat) (s6 : Int) (G : GH),
  zd Tryz.prog O zeK fuel (nav bd16 [1, 1, 1, 0, 1, 0, 0, 1, 0]) 23 (mkE 48 [(0, .slice ba az), (5, .slice bo bp), (6, iL s6)]) [] G k = zb5 O fuel (fun ba az bo bp s6 G => k .normal (mkE 48 [(0, .slice ba az), (5, .slice bo bp), (6, iL s6)]) [] G) ba az bo bp s6 G := by
  intros
  rw [zkT]
  simp only [zb5, zmg]
def zb8 {R : Type} (O : Ora R) (KN : zs3 R) (K0 : OG → Nat → GH → Option R) (L1 : zs3 R) (ba : OG) (az : Nat) (bo : OG) (bp : Nat) (s6 : Int) (G : GH) : Option R :=
  bif (decide (s6 ≥ (0 : Int))) then
  L1 ba az bo bp s6 G
  else
  K0 bo bp G
def zH {R : Type} (O : Ora R) (KN : zs3 R) (K0 : OG → Nat → GH → Option R) (ba : OG) (az : Nat) (bo : OG) (bp : Nat) (s6 : Int) (G : GH) : Option R :=
  KN ba az bo bp (IntKind.wrap .i64 (s6 - (1 : Int))) G
def zb9 {R : Type} (O : Ora R) (fuel : Nat) (KN : zs3 R) (K0 : OG → Nat → GH → Option R) : OG → Nat → OG → Nat → Int → GH → Option R := fun ba az bo bp s6 G =>
  zi fuel (zb5 O fuel (zH O KN K0) ba az bo bp s6 G)
theorem zko (fuel : Nat) (ba : OG) (az : Nat) (bo : OG) (bp : Nat) (s6 : Int) (G : GH) (k : KE R) :
  ze Tryz.prog O zeK fuel (nav bd16 [1, 1, 1, 0, 1, 0, 0]) [1, 0] (kpD zeK 16 0 k) .normal (mkE 48 [(0, .slice ba az), (5, .slice bo bp), (6, iL s6)]) [] G =
  zH O (fun ba az bo bp s6 G => k .normal (mkE 48 [(0, .slice ba az), (5, .slice bo bp), (6, iL s6)]) [] G) (fun bo bp G => k (.exit 0) (mkE 48 [(5, .slice bo bp)]) [] G) ba az bo bp s6 G := by kernel_rfl
theorem zlC (fuel : Nat) (k : KE R) :
  (fun (ba : OG) (az : Nat) (bo : OG) (bp : Nat) (s6 : Int) (G : GH) => zi fuel (zd Tryz.prog O zeK fuel (nav bd16 [1, 1, 1, 0, 1, 0, 0, 1, 0]) 23 (mkE 48 [(0, .slice ba az), (5, .slice bo bp), (6, iL s6)]) [] G (ze Tryz.prog O zeK fuel (nav bd16 [1, 1, 1, 0, 1, 0, 0]) [1, 0] (kpD zeK 16 0 k)))) = zb9 O fuel (fun (ba : OG) (az : Nat) (bo : OG) (bp : Nat) (s6 : Int) (G : GH) => k .normal (mkE 48 [(0, .slice ba az), (5, .slice bo bp), (6, iL s6)]) [] G) (fun (bo : OG) (bp : Nat) (G : GH) => k (.exit 0) (mkE 48 [(5, .slice bo bp)]) [] G) := by
  funext ba az bo bp s6 G
  simp only [zb9, zln, zko]
def zm {R : Type} (O : Ora R) (fuel : Nat) (K0 : OG → Nat → GH → Option R) : Nat → OG → Nat → OG → Nat → Int → GH → Option R
  | 0, _, _, _, _, _, _ => none
  | n + 1, ba, az, bo, bp, s6, G => zb8 O (zm O fuel K0 n) K0 (zb9 O fuel (zm O fuel K0 n) K0) ba az bo bp s6 G
theorem zk5 (fuel : Nat) (ba : OG) (az : Nat) (bo : OG) (bp : Nat) (s6 : Int) (G : GH) (k : KE R) :
  zd Tryz.prog O zeK fuel (nav bd16 [1, 1, 1, 0, 1, 0, 0]) 16 (mkE 48 [(0, .slice ba az), (5, .slice bo bp), (6, iL s6)]) [] G k =
  zb8 O (fun ba az bo bp s6 G => k .normal (mkE 48 [(0, .slice ba az), (5, .slice bo bp), (6, iL s6)]) [] G) (fun bo bp G => k (.exit 0) (mkE 48 [(5, .slice bo bp)]) [] G) (fun ba az bo bp s6 G => zi fuel (zd Tryz.prog O zeK fuel (nav bd16 [1, 1, 1, 0, 1, 0, 0, 1, 0]) 23 (mkE 48 [(0, .slice ba az), (5, .slice bo bp), (6, iL s6)]) [] G (ze Tryz.prog O zeK fuel (nav bd16 [1, 1, 1, 0, 1, 0, 0]) [1, 0] (kpD zeK 16 0 k)))) ba az bo bp s6 G := by kernel_rfl
theorem zl8 (fuel : Nat) (k : KE R) : ∀ (n : Nat) (ba : OG) (az : Nat) (bo : OG) (bp : Nat) (s6 : Int) (G : GH),
  zJ (zd Tryz.prog O zeK fuel (nav bd16 [1, 1, 1, 0, 1, 0, 0]) 16) n (mkE 48 [(0, .slice ba az), (5, .slice bo bp), (6, iL s6)]) [] G k = zm O fuel (fun bo bp G => k (.exit 0) (mkE 48 [(5, .slice bo bp)]) [] G) n ba az bo bp s6 G := by
  intro n
  induction n with
  | zero => intros; first | rfl | simp only [zJ, zm]
  | succ n ih =>
    intros
    rw [zaU, zk5]
    simp only [zm, zah, zaS, zbI, ih, zlC]
def zgj {R : Type} (O : Ora R) (k : KV R) (L0 : zs3 R) (dc : OG) (db : Nat) (p1 : Int) (G : GH) : Option R :=
  bif (decide (0 ≤ (IntKind.wrap .i64 (p1 + (1 : Int))) ∧ (IntKind.wrap .i64 (p1 + (1 : Int))) ≤ (IntKind.wrap .i64 (p1 + (1 : Int))) ∧ (IntKind.wrap .i64 (p1 + (1 : Int))) * 1 ≤ zbo ∧ (IntKind.wrap .i64 (p1 + (1 : Int))) ≤ zbo) && true && true) then
  (zbj (some (zaA G)) (Int.toNat (IntKind.wrap .i64 (p1 + (1 : Int)))) p1 1).bind fun a1 =>
  (gst (zac G (List.replicate (Int.toNat (IntKind.wrap .i64 (p1 + (1 : Int)))) [.bool false]).flatten 4) a1 [.bool true]).bind fun G2 =>
  L0 dc db (some (zaA G)) (Int.toNat (IntKind.wrap .i64 (p1 + (1 : Int)))) p1 G2
  else none
def zhB {R : Type} (O : Ora R) (k : KV R) (bo : OG) (bp : Nat) (G : GH) : Option R :=
  k (.slice bo bp) G
def zb0 {R : Type} (O : Ora R) (fuel : Nat) (k : KV R) : OG → Nat → OG → Nat → Int → GH → Option R := fun ba az bo bp s6 G =>
  zm O fuel (zhB O k) fuel ba az bo bp s6 G
theorem zjK (fuel : Nat) (bo : OG) (bp : Nat) (G : GH) (k : KV R) :
  ze Tryz.prog O zeK fuel bd16 [1, 1, 1, 0, 1, 0] (rcK Tryz.f16 k) (.exit 0) (mkE 48 [(5, .slice bo bp)]) [] G =
  zhB O k bo bp G := by kernel_rfl
theorem zl6 (fuel : Nat) (k : KV R) :
  (fun (ba : OG) (az : Nat) (bo : OG) (bp : Nat) (s6 : Int) (G : GH) => zJ (zd Tryz.prog O zeK fuel (nav bd16 [1, 1, 1, 0, 1, 0, 0]) 16) fuel (mkE 48 [(0, .slice ba az), (5, .slice bo bp), (6, iL s6)]) [] G (ze Tryz.prog O zeK fuel bd16 [1, 1, 1, 0, 1, 0] (rcK Tryz.f16 k))) = zb0 O fuel k := by
  funext ba az bo bp s6 G
  simp only [zb0, zl8, zjK]
theorem zmD (fuel : Nat) (dc : OG) (db : Nat) (p1 : Int) (G : GH) (k : KV R) :
  zf Tryz.prog O zeK fuel Tryz.f16 [.slice dc db, iL p1] G k =
  zgj O k (fun ba az bo bp s6 G => zJ (zd Tryz.prog O zeK fuel (nav bd16 [1, 1, 1, 0, 1, 0, 0]) 16) fuel (mkE 48 [(0, .slice ba az), (5, .slice bo bp), (6, iL s6)]) [] G (ze Tryz.prog O zeK fuel bd16 [1, 1, 1, 0, 1, 0] (rcK Tryz.f16 k))) dc db p1 G := by kernel_rfl
theorem zst (fuel : Nat) (dc : OG) (db : Nat) (p1 : Int) (G : GH) (k : KV R) :
  zf Tryz.prog O zeK fuel Tryz.f16 [.slice dc db, iL p1] G k =
  zgj O k (zb0 O fuel k) dc db p1 G := by
  rw [zmD, zl6]
theorem ztc {R : Type} (fuel n : Nat) (dc : OG) (db : Nat) (p1 : Int) (G : GH) (k : KV R) :
  runC Tryz.prog lo0 fuel (n + 1) 16 [.slice dc db, iL p1] G k = zf Tryz.prog (runC Tryz.prog lo0 fuel n) zeK fuel Tryz.f16 [.slice dc db, iL p1] G k := zh Tryz.func16 rfl rfl
theorem zuM (fuel : Nat) (p0 p1 : Int) (G : GH) (k : KV R) :
  zf Tryz.prog O [777777] fuel Tryz.f37 [iL p0, iL p1] G k =
  bif (p0 == (1 : Int)) then
  bif (p1 == (1 : Int)) then
  k (iL (1 : Int)) G
  else
  k (iL (2 : Int)) G
  else
  k (iL (2 : Int)) G := by kernel_rfl
theorem zuP {R : Type} (fuel n : Nat) (p0 p1 : Int) (G : GH) (k : KV R) :
  runC Tryz.prog lo0 fuel (n + 1) 37 [iL p0, iL p1] G k = zf Tryz.prog (runC Tryz.prog lo0 fuel n) [777777] fuel Tryz.f37 [iL p0, iL p1] G k := zh Tryz.func37 rfl rfl
def zW {R : Type} (O : Ora R) (KN : zI4 R) (s0 s1 : Int) (G : GH) : Option R :=
  bif (decide (s0 < (1 : Int))) then
  KN s0 s1 true G
  else
  bif (decide (s1 < (1 : Int))) then
  KN s0 s1 true G
  else
  bif (decide (s0 > (1024 : Int))) then
  KN s0 s1 true G
  else
  bif (decide (s1 > (1024 : Int))) then
  KN s0 s1 true G
  else
  KN s0 s1 (decide ((IntKind.wrap .i64 (s0 * s1)) > (65536 : Int))) G
def zas {R : Type} (O : Ora R) (KN : zI4 R) : Int → Int → GH → Option R := fun s0 s1 G => zW O KN s0 s1 G
theorem zgA (fuel : Nat) (s0 s1 : Int) (G : GH) (k : KE R) :
  zd Tryz.prog O zCq fuel (nav bd84 [1, 0, 0]) 11 (mkE 34 [(0, iL s0), (1, iL s1)]) [] G k =
  zW O (fun s0 s1 gk G => k .normal (mkE 34 [(0, iL s0), (1, iL s1), (25, .bool gk)]) [] G) s0 s1 G := by kernel_rfl
theorem zhG (fuel : Nat) (k : KE R) : ∀ (s0 s1 : Int) (G : GH),
  zd Tryz.prog O zCq fuel (nav bd84 [1, 0, 0]) 11 (mkE 34 [(0, iL s0), (1, iL s1)]) [] G k = zas O (fun s0 s1 gk G => k .normal (mkE 34 [(0, iL s0), (1, iL s1), (25, .bool gk)]) [] G) s0 s1 G := by
  intros
  rw [zgA]
  simp only [zas]
def zbS {R : Type} (O : Ora R) (k : KV R) (L0 : Int → Int → GH → Option R) (p0 p1 : Int) (G : GH) : Option R :=
  L0 p0 p1 G
def zR {R : Type} (O : Ora R) (k : KV R) (s0 s1 : Int) (gk : Bool) (G : GH) : Option R :=
  bif gk then
  k (.tuple [.ptr none, iL (70 : Int)]) G
  else
  bif (decide (0 ≤ (IntKind.wrap .i64 (s0 * s1)) ∧ (IntKind.wrap .i64 (s0 * s1)) ≤ (IntKind.wrap .i64 (s0 * s1)) ∧ (IntKind.wrap .i64 (s0 * s1)) * 24 ≤ zbo ∧ (IntKind.wrap .i64 (s0 * s1)) ≤ zbo) && true && true) then
  k (.tuple [.ptr (some (zaA (zac G (List.replicate (Int.toNat (IntKind.wrap .i64 (s0 * s1))) [fL (0 : Nat), fL (0 : Nat), fL (0 : Nat)]).flatten 45))), iL (0 : Int)]) (zac (zac G (List.replicate (Int.toNat (IntKind.wrap .i64 (s0 * s1))) [fL (0 : Nat), fL (0 : Nat), fL (0 : Nat)]).flatten 45) [iL s0, iL s1, .slice (some (zaA G)) (Int.toNat (IntKind.wrap .i64 (s0 * s1)))] 121)
  else none
def zaz {R : Type} (O : Ora R) (fuel : Nat) (k : KV R) : Int → Int → GH → Option R := fun s0 s1 G =>
  zi fuel (zas O (zR O k) s0 s1 G)
theorem zgc (fuel : Nat) (s0 s1 : Int) (gk : Bool) (G : GH) (k : KV R) :
  ze Tryz.prog O zCq fuel bd84 [1, 0, 0] (rcK Tryz.f84 k) .normal (mkE 34 [(0, iL s0), (1, iL s1), (25, .bool gk)]) [] G =
  zR O k s0 s1 gk G := by kernel_rfl
theorem zhh (fuel : Nat) (k : KV R) :
  (fun (s0 s1 : Int) (G : GH) => zi fuel (zd Tryz.prog O zCq fuel (nav bd84 [1, 0, 0]) 11 (mkE 34 [(0, iL s0), (1, iL s1)]) [] G (ze Tryz.prog O zCq fuel bd84 [1, 0, 0] (rcK Tryz.f84 k)))) = zaz O fuel k := by
  funext s0 s1 G
  simp only [zaz, zhG, zgc]
theorem zhP (fuel : Nat) (p0 p1 : Int) (G : GH) (k : KV R) :
  zf Tryz.prog O zCq fuel Tryz.f84 [iL p0, iL p1] G k =
  zbS O k (fun s0 s1 G => zi fuel (zd Tryz.prog O zCq fuel (nav bd84 [1, 0, 0]) 11 (mkE 34 [(0, iL s0), (1, iL s1)]) [] G (ze Tryz.prog O zCq fuel bd84 [1, 0, 0] (rcK Tryz.f84 k)))) p0 p1 G := by kernel_rfl
theorem zlb (fuel : Nat) (p0 p1 : Int) (G : GH) (k : KV R) :
  zf Tryz.prog O zCq fuel Tryz.f84 [iL p0, iL p1] G k =
  zbS O k (zaz O fuel k) p0 p1 G := by
  rw [zhP, zhh]
theorem zkY {R : Type} (fuel n : Nat) (p0 p1 : Int) (G : GH) (k : KV R) :
  runC Tryz.prog lo0 fuel (n + 1) 84 [iL p0, iL p1] G k = zf Tryz.prog (runC Tryz.prog lo0 fuel n) zCq fuel Tryz.f84 [iL p0, iL p1] G k := zh Tryz.func84 rfl rfl
theorem zcn (fuel : Nat) (p0 p1 : Int) (fu : OG) (ft : Nat) (G : GH) (k : KV R) :
  zf Tryz.prog O [777777] fuel Tryz.f65 [iL p0, iL p1, .slice fu ft] G k =
  O zaD [iL p0, iL p1] G fun v1 G2 =>
  (zY 2 v1).bind fun c3 =>
  (zEt (c3.getD 0 za)).bind fun x4 =>
  (zk .i64 (c3.getD 1 za)).bind fun x5 =>
  bif (x5 != (0 : Int)) then
  k (.tuple [.ptr none, iL x5]) G2
  else
  bif ((ft : Int) != (IntKind.wrap .i64 (p0 * p1))) then
  k (.tuple [.ptr none, iL (70 : Int)]) G2
  else
  (x4).bind fun a6 =>
  (zci G2 (GA.add a6 2)).bind fun x7 =>
  zGR G2 3 x7.1 x7.2 fu ft fun x8 G9 =>
  k (.tuple [.ptr x4, iL (0 : Int)]) G9 := by kernel_rfl
theorem zcv {R : Type} (fuel n : Nat) (p0 p1 : Int) (fu : OG) (ft : Nat) (G : GH) (k : KV R) :
  runC Tryz.prog lo0 fuel (n + 1) 65 [iL p0, iL p1, .slice fu ft] G k = zf Tryz.prog (runC Tryz.prog lo0 fuel n) [777777] fuel Tryz.f65 [iL p0, iL p1, .slice fu ft] G k := zh Tryz.func65 rfl rfl
theorem zyd (fuel : Nat) (p0 p1 : Int) (G : GH) (k : KV R) :
  zf Tryz.prog O [777777] fuel Tryz.f85 [iL p0, iL p1] G k =
  bif p1 == 0 then none else
  bif (decide ((Int.tmod p0 p1) < (0 : Int))) then
  k (iL (IntKind.wrap .i64 ((Int.tmod p0 p1) + p1))) G
  else
  k (iL (Int.tmod p0 p1)) G := by kernel_rfl
theorem zwX {R : Type} (fuel n : Nat) (p0 p1 : Int) (G : GH) (k : KV R) :
  runC Tryz.prog lo0 fuel (n + 1) 85 [iL p0, iL p1] G k = zf Tryz.prog (runC Tryz.prog lo0 fuel n) [777777] fuel Tryz.f85 [iL p0, iL p1] G k := zh Tryz.func85 rfl rfl
theorem zeM (fuel : Nat) (p0 : GA) (p1 p2 : Int) (G : GH) (k : KV R) :
  zf Tryz.prog O [6, 7, 777777] fuel Tryz.f66 [.ptr (some p0), iL p1, iL p2] G k =
  (zci G (GA.add p0 2)).bind fun x1 =>
  (z0 G .i64 (GA.add p0 1)).bind fun x2 =>
  O zjS [iL p2, iL x2] (zj G) fun v3 _ =>
  (zk .i64 v3).bind fun x4 =>
  (z0 G .i64 (GA.add p0 0)).bind fun x5 =>
  (z0 G .i64 (GA.add p0 0)).bind fun x6 =>
  O zjS [iL p1, iL x6] (zj G) fun v7 _ =>
  (zk .i64 v7).bind fun x8 =>
  (zbj x1.1 x1.2 (IntKind.wrap .i64 ((IntKind.wrap .i64 (x4 * x5)) + x8)) 3).bind fun a9 =>
  (zg G .f64 (GA.add a9 0)).bind fun x10 =>
  (zg G .f64 (GA.add a9 1)).bind fun x11 =>
  (zg G .f64 (GA.add a9 2)).bind fun x12 =>
  k (.agg [fL x10, fL x11, fL x12]) G := by kernel_rfl
theorem zeL {R : Type} (fuel n : Nat) (p0 : GA) (p1 p2 : Int) (G : GH) (k : KV R) :
  runC Tryz.prog lo0 fuel (n + 1) 66 [.ptr (some p0), iL p1, iL p2] G k = zf Tryz.prog (runC Tryz.prog lo0 fuel n) [6, 7, 777777] fuel Tryz.f66 [.ptr (some p0), iL p1, iL p2] G k := zh Tryz.func66 rfl rfl
theorem zkI (fuel : Nat) (av aw : Int) (ei : OG) (ef bu : Nat) (bw gr gu : Nat) (G : GH) (k : KV R) :
  zf Tryz.prog O [3, 4, 5, 6, 777777] fuel Tryz.f41 [.agg [iL av, iL aw, .slice ei ef], .agg [fL bu, fL bw], .agg [fL gr, fL gu]] G k =
  O zbV [iL av, iL aw, .slice ei ef] G fun v1 G2 =>
  (zY 2 v1).bind fun c3 =>
  (zEt (c3.getD 0 za)).bind fun x4 =>
  (zk .i64 (c3.getD 1 za)).bind fun x5 =>
  bif (x5 != (0 : Int)) then
  k (.agg [fL (0 : Nat), fL (0 : Nat), fL (0 : Nat), fL (0 : Nat), fL (0 : Nat), fL (0 : Nat), iL (2 : Int)]) G2
  else
  O zdJ [fL (FloatKind.nearest .f64 av)] (zj G2) fun v6 _ =>
  (zr 2 v6).bind fun c7 =>
  (zc .f64 (c7.getD 0 za)).bind fun x8 =>
  (zc .f64 (c7.getD 1 za)).bind fun x9 =>
  O zbg [.agg [fL bu, fL bw], .agg [fL x8, fL x9]] (zj G2) fun v10 _ =>
  (zr 2 v10).bind fun c11 =>
  (zc .f64 (c11.getD 0 za)).bind fun x12 =>
  (zc .f64 (c11.getD 1 za)).bind fun x13 =>
  O zdS [.agg [fL x12, fL x13]] (zj G2) fun v14 _ =>
  (zY 2 v14).bind fun c15 =>
  (zk .i64 (c15.getD 0 za)).bind fun x16 =>
  (zk .i64 (c15.getD 1 za)).bind fun x17 =>
  O zdJ [fL (FloatKind.nearest .f64 aw)] (zj G2) fun v18 _ =>
  (zr 2 v18).bind fun c19 =>
  (zc .f64 (c19.getD 0 za)).bind fun x20 =>
  (zc .f64 (c19.getD 1 za)).bind fun x21 =>
  O zbg [.agg [fL gr, fL gu], .agg [fL x20, fL x21]] (zj G2) fun v22 _ =>
  (zr 2 v22).bind fun c23 =>
  (zc .f64 (c23.getD 0 za)).bind fun x24 =>
  (zc .f64 (c23.getD 1 za)).bind fun x25 =>
  O zdS [.agg [fL x24, fL x25]] (zj G2) fun v26 _ =>
  (zY 2 v26).bind fun c27 =>
  (zk .i64 (c27.getD 0 za)).bind fun x28 =>
  (zk .i64 (c27.getD 1 za)).bind fun x29 =>
  O za3 [.ptr x4, iL x16, iL x28] G2 fun v30 G31 =>
  (zr 3 v30).bind fun c32 =>
  (zc .f64 (c32.getD 0 za)).bind fun x33 =>
  (zc .f64 (c32.getD 1 za)).bind fun x34 =>
  (zc .f64 (c32.getD 2 za)).bind fun x35 =>
  O zpn [.agg [fL x33, fL x34, fL x35]] G31 fun v36 G37 =>
  (zr 6 v36).bind fun c38 =>
  (zc .f64 (c38.getD 0 za)).bind fun x39 =>
  (zc .f64 (c38.getD 1 za)).bind fun x40 =>
  (zc .f64 (c38.getD 2 za)).bind fun x41 =>
  (zc .f64 (c38.getD 3 za)).bind fun x42 =>
  (zc .f64 (c38.getD 4 za)).bind fun x43 =>
  (zc .f64 (c38.getD 5 za)).bind fun x44 =>
  O zcg [iL x17, iL x29] G37 fun v45 G46 =>
  (zk .i64 v45).bind fun x47 =>
  k (.agg [fL x39, fL x40, fL x41, fL x42, fL x43, fL x44, iL x47]) G46 := by kernel_rfl
theorem zkM {R : Type} (fuel n : Nat) (av aw : Int) (ei : OG) (ef bu : Nat) (bw gr gu : Nat) (G : GH) (k : KV R) :
  runC Tryz.prog lo0 fuel (n + 1) 41 [.agg [iL av, iL aw, .slice ei ef], .agg [fL bu, fL bw], .agg [fL gr, fL gu]] G k = zf Tryz.prog (runC Tryz.prog lo0 fuel n) [3, 4, 5, 6, 777777] fuel Tryz.f41 [.agg [iL av, iL aw, .slice ei ef], .agg [fL bu, fL bw], .agg [fL gr, fL gu]] G k := zh Tryz.func41 rfl rfl
def zhm {R : Type} (O : Ora R) (KN : zIX R) (gn : OG) (gp : Nat) (dp eo : Int) (gq fm aa : Int) (ac af ag : Nat) (aj ar : Int) (aq : Nat) (au : Int) (ai ah : Nat) (ak al : Nat) (cr cq : Nat) (ct cu : Nat) (df de : Nat) (dg : Int) (dh di : Nat) (ep er : Nat) (et eu : Nat) (ew ez : Nat) (fa : Int) (G : GH) : Option R :=
  bif ((Int.tmod (IntKind.wrap .i64 (dp + gq)) (2 : Int)) != (0 : Int)) then
  (zbj gn gp ar 7).bind fun a1 =>
  (zg G .f64 (GA.add a1 0)).bind fun x2 =>
  (zg G .f64 (GA.add a1 1)).bind fun x3 =>
  (zg G .f64 (GA.add a1 2)).bind fun x4 =>
  (zg G .f64 (GA.add a1 3)).bind fun x5 =>
  (zg G .f64 (GA.add a1 4)).bind fun x6 =>
  (zg G .f64 (GA.add a1 5)).bind fun x7 =>
  (z0 G .i64 (GA.add a1 6)).bind fun x8 =>
  KN eo fm aa ac af ag aj ar aq au ai ah ak al cr cq ct cu df de dg dh di x2 x3 x4 x5 x6 x7 x8 G
  else
  KN eo fm aa ac af ag aj ar aq au ai ah ak al cr cq ct cu df de dg dh di ep er et eu ew ez fa G
def zee {R : Type} (O : Ora R) (KN : zIX R) : OG → Nat → Int → Int → Int → Int → Int → Nat → Nat → Nat → Int → Int → Nat → Int → Nat → Nat → Nat → Nat → Nat → Nat → Nat → Nat → Nat → Nat → Int → Nat → Nat → Nat → Nat → Nat → Nat → Nat → Nat → Int → GH → Option R := fun gn gp dp eo gq fm aa ac af ag aj ar aq au ai ah ak al cr cq ct cu df de dg dh di ep er et eu ew ez fa G => zhm O KN gn gp dp eo gq fm aa ac af ag aj ar aq au ai ah ak al cr cq ct cu df de dg dh di ep er et eu ew ez fa G
theorem zom (fuel : Nat) (gn : OG) (gp : Nat) (dp eo : Int) (gq fm aa : Int) (ac af ag : Nat) (aj ar : Int) (aq : Nat) (au : Int) (ai ah : Nat) (ak al : Nat) (cr cq : Nat) (ct cu : Nat) (df de : Nat) (dg : Int) (dh di : Nat) (ep er : Nat) (et eu : Nat) (ew ez : Nat) (fa : Int) (G : GH) (k : KE R) :
  zd Tryz.prog O zCX fuel (nav bd17 [1, 1, 0, 1, 0, 1, 0, 1, 1, 1, 0]) 39 (mkE 132 [(2, .slice gn gp), (5, .loc 0 0), (10, .loc 3 0), (12, iL dp), (13, iL eo), (14, iL gq), (15, iL fm), (16, .loc 5 0)]) [[iL aa, fL ac, fL af, fL ag, iL aj, iL ar, fL aq, iL au], [fL ai, fL ah], [fL ak, fL al], [fL cr, fL cq, fL ct, fL cu, fL df, fL de, iL dg], [fL dh, fL di], [fL ep, fL er, fL et, fL eu, fL ew, fL ez, iL fa]] G k =
  zhm O (fun eo fm aa ac af ag aj ar aq au ai ah ak al cr cq ct cu df de dg dh di ep er et eu ew ez fa G => k .normal (mkE 132 [(10, .loc 3 0), (13, iL eo), (15, iL fm), (16, .loc 5 0)]) [[iL aa, fL ac, fL af, fL ag, iL aj, iL ar, fL aq, iL au], [fL ai, fL ah], [fL ak, fL al], [fL cr, fL cq, fL ct, fL cu, fL df, fL de, iL dg], [fL dh, fL di], [fL ep, fL er, fL et, fL eu, fL ew, fL ez, iL fa]] G) gn gp dp eo gq fm aa ac af ag aj ar aq au ai ah ak al cr cq ct cu df de dg dh di ep er et eu ew ez fa G := by kernel_rfl
theorem zoL (fuel : Nat) (k : KE R) : ∀ (gn : OG) (gp : Nat) (dp eo : Int) (gq fm aa : Int) (ac af ag : Nat) (aj ar : Int) (aq : Nat) (au : Int) (ai ah : Nat) (ak al : Nat) (cr cq : Nat) (ct cu : Nat) (df de : Nat) (dg : Int) (dh di : Nat) (ep er : Nat) (et eu : Nat) (ew ez : Nat) (fa : Int) (G : GH),
  zd Tryz.prog O zCX fuel (nav bd17 [1, 1, 0, 1, 0, 1, 0, 1, 1, 1, 0]) 39 (mkE 132 [(2, .slice gn gp), (5, .loc 0 0), (10, .loc 3 0), (12, iL dp), (13, iL eo), (14, iL gq), (15, iL fm), (16, .loc 5 0)]) [[iL aa, fL ac, fL af, fL ag, iL aj, iL ar, fL aq, iL au], [fL ai, fL ah], [fL ak, fL al], [fL cr, fL cq, fL ct, fL cu, fL df, fL de, iL dg], [fL dh, fL di], [fL ep, fL er, fL et, fL eu, fL ew, fL ez, iL fa]] G k = zee O (fun eo fm aa ac af ag aj ar aq au ai ah ak al cr cq ct cu df de dg dh di ep er et eu ew ez fa G => k .normal (mkE 132 [(10, .loc 3 0), (13, iL eo), (15, iL fm), (16, .loc 5 0)]) [[iL aa, fL ac, fL af, fL ag, iL aj, iL ar, fL aq, iL au], [fL ai, fL ah], [fL ak, fL al], [fL cr, fL cq, fL ct, fL cu, fL df, fL de, iL dg], [fL dh, fL di], [fL ep, fL er, fL et, fL eu, fL ew, fL ez, iL fa]] G) gn gp dp eo gq fm aa ac af ag aj ar aq au ai ah ak al cr cq ct cu df de dg dh di ep er et eu ew ez fa G := by
  intros
  rw [zom]
  simp only [zee]
def zkA {R : Type} (O : Ora R) (k : KV R) (L0 : zJq R) (av : Int) (aw bf bh : Nat) (bx cd : Int) (dn : Nat) (ec : Int) (dq : OG) (dr : Nat) (fu : OG) (ft du : Nat) (dv dw dz : Nat) (G : GH) : Option R :=
  O zdJ [fL dn] G fun v1 G2 =>
  (zr 2 v1).bind fun c3 =>
  (zc .f64 (c3.getD 0 za)).bind fun x4 =>
  (zc .f64 (c3.getD 1 za)).bind fun x5 =>
  bif (av == (2 : Int)) then
  O zbg [.agg [fL du, fL dv], .agg [fL x4, fL x5]] G2 fun v6 G7 =>
  (zr 2 v6).bind fun c8 =>
  (zc .f64 (c8.getD 0 za)).bind fun x9 =>
  (zc .f64 (c8.getD 1 za)).bind fun x10 =>
  O zdS [.agg [fL x9, fL x10]] G7 fun v11 G12 =>
  (zY 2 v11).bind fun c13 =>
  (zk .i64 (c13.getD 0 za)).bind fun x14 =>
  (zk .i64 (c13.getD 1 za)).bind fun x15 =>
  O zbg [.agg [fL dw, fL dz], .agg [fL x4, fL x5]] G12 fun v16 G17 =>
  (zr 2 v16).bind fun c18 =>
  (zc .f64 (c18.getD 0 za)).bind fun x19 =>
  (zc .f64 (c18.getD 1 za)).bind fun x20 =>
  O zdS [.agg [fL x19, fL x20]] G17 fun v21 G22 =>
  (zY 2 v21).bind fun c23 =>
  (zk .i64 (c23.getD 0 za)).bind fun x24 =>
  (zk .i64 (c23.getD 1 za)).bind fun x25 =>
  (zbj fu ft bx 7).bind fun a26 =>
  (zg G22 .f64 (GA.add a26 0)).bind fun x27 =>
  (zg G22 .f64 (GA.add a26 1)).bind fun x28 =>
  (zg G22 .f64 (GA.add a26 2)).bind fun x29 =>
  (zg G22 .f64 (GA.add a26 3)).bind fun x30 =>
  (zg G22 .f64 (GA.add a26 4)).bind fun x31 =>
  (zg G22 .f64 (GA.add a26 5)).bind fun x32 =>
  (z0 G22 .i64 (GA.add a26 6)).bind fun x33 =>
  L0 fu ft x14 x15 x24 x25 av aw bf bh bx cd dn ec du dv dw dz (0 : Nat) (0 : Nat) (0 : Nat) (0 : Nat) (0 : Nat) (0 : Nat) (0 : Int) x4 x5 x27 x28 x29 x30 x31 x32 x33 G22
  else
  bif (av == (3 : Int)) then
  (zbj fu ft bx 7).bind fun a34 =>
  if Nat.blt (a34).b G2.length = true then
  (zg G2 .f64 (GA.add a34 0)).bind fun x35 =>
  (zg G2 .f64 (GA.add a34 1)).bind fun x36 =>
  (zg G2 .f64 (GA.add a34 2)).bind fun x37 =>
  (zg G2 .f64 (GA.add a34 3)).bind fun x38 =>
  (zg G2 .f64 (GA.add a34 4)).bind fun x39 =>
  (zg G2 .f64 (GA.add a34 5)).bind fun x40 =>
  (z0 G2 .i64 (GA.add a34 6)).bind fun x41 =>
  (zbj fu ft cd 7).bind fun a42 =>
  if Nat.blt (a42).b G2.length = true then
  (zg G2 .f64 (GA.add a42 0)).bind fun x43 =>
  (zg G2 .f64 (GA.add a42 1)).bind fun x44 =>
  (zg G2 .f64 (GA.add a42 2)).bind fun x45 =>
  (zg G2 .f64 (GA.add a42 3)).bind fun x46 =>
  (zg G2 .f64 (GA.add a42 4)).bind fun x47 =>
  (zg G2 .f64 (GA.add a42 5)).bind fun x48 =>
  (z0 G2 .i64 (GA.add a42 6)).bind fun x49 =>
  O zdJ [fL (4607182418800017408 : Nat)] G2 fun v50 G51 =>
  (zr 2 v50).bind fun c52 =>
  (zc .f64 (c52.getD 0 za)).bind fun x53 =>
  (zc .f64 (c52.getD 1 za)).bind fun x54 =>
  O ztC [.agg [fL x53, fL x54], .agg [fL x4, fL x5]] G51 fun v55 G56 =>
  (zr 2 v55).bind fun c57 =>
  (zc .f64 (c57.getD 0 za)).bind fun x58 =>
  (zc .f64 (c57.getD 1 za)).bind fun x59 =>
  O zlu [.agg [fL x35, fL x36, fL x37, fL x38, fL x39, fL x40], .agg [fL x58, fL x59]] (zj G56) fun v60 _ =>
  (zr 6 v60).bind fun c61 =>
  (zc .f64 (c61.getD 0 za)).bind fun x62 =>
  (zc .f64 (c61.getD 1 za)).bind fun x63 =>
  (zc .f64 (c61.getD 2 za)).bind fun x64 =>
  (zc .f64 (c61.getD 3 za)).bind fun x65 =>
  (zc .f64 (c61.getD 4 za)).bind fun x66 =>
  (zc .f64 (c61.getD 5 za)).bind fun x67 =>
  O zlu [.agg [fL x43, fL x44, fL x45, fL x46, fL x47, fL x48], .agg [fL x4, fL x5]] (zj G56) fun v68 _ =>
  (zr 6 v68).bind fun c69 =>
  (zc .f64 (c69.getD 0 za)).bind fun x70 =>
  (zc .f64 (c69.getD 1 za)).bind fun x71 =>
  (zc .f64 (c69.getD 2 za)).bind fun x72 =>
  (zc .f64 (c69.getD 3 za)).bind fun x73 =>
  (zc .f64 (c69.getD 4 za)).bind fun x74 =>
  (zc .f64 (c69.getD 5 za)).bind fun x75 =>
  O zro [.agg [fL x62, fL x63, fL x64, fL x65, fL x66, fL x67], .agg [fL x70, fL x71, fL x72, fL x73, fL x74, fL x75]] (zj G56) fun v76 _ =>
  (zr 6 v76).bind fun c77 =>
  (zc .f64 (c77.getD 0 za)).bind fun x78 =>
  (zc .f64 (c77.getD 1 za)).bind fun x79 =>
  (zc .f64 (c77.getD 2 za)).bind fun x80 =>
  (zc .f64 (c77.getD 3 za)).bind fun x81 =>
  (zc .f64 (c77.getD 4 za)).bind fun x82 =>
  (zc .f64 (c77.getD 5 za)).bind fun x83 =>
  O zcg [iL x41, iL x49] (zj G56) fun v84 _ =>
  (zk .i64 v84).bind fun x85 =>
  k (.agg [fL x78, fL x79, fL x80, fL x81, fL x82, fL x83, iL x85]) G56
  else none
  else none
  else
  bif (av == (4 : Int)) then
  (zbj dq dr ec 3).bind fun a86 =>
  (z0 G2 .i64 (GA.add a86 0)).bind fun x87 =>
  (z0 G2 .i64 (GA.add a86 1)).bind fun x88 =>
  (zci G2 (GA.add a86 2)).bind fun x89 =>
  O zbg [.agg [fL du, fL dv], .agg [fL x4, fL x5]] (zj G2) fun v90 _ =>
  (zr 2 v90).bind fun c91 =>
  (zc .f64 (c91.getD 0 za)).bind fun x92 =>
  (zc .f64 (c91.getD 1 za)).bind fun x93 =>
  O zbg [.agg [fL dw, fL dz], .agg [fL x4, fL x5]] (zj G2) fun v94 _ =>
  (zr 2 v94).bind fun c95 =>
  (zc .f64 (c95.getD 0 za)).bind fun x96 =>
  (zc .f64 (c95.getD 1 za)).bind fun x97 =>
  O zji [.agg [iL x87, iL x88, .slice x89.1 x89.2], .agg [fL x92, fL x93], .agg [fL x96, fL x97]] (zj G2) fun v98 _ =>
  (zr 7 v98).bind fun c99 =>
  (zc .f64 (c99.getD 0 za)).bind fun x100 =>
  (zc .f64 (c99.getD 1 za)).bind fun x101 =>
  (zc .f64 (c99.getD 2 za)).bind fun x102 =>
  (zc .f64 (c99.getD 3 za)).bind fun x103 =>
  (zc .f64 (c99.getD 4 za)).bind fun x104 =>
  (zc .f64 (c99.getD 5 za)).bind fun x105 =>
  (zk .i64 (c99.getD 6 za)).bind fun x106 =>
  k (.agg [fL x100, fL x101, fL x102, fL x103, fL x104, fL x105, iL x106]) G2
  else
  bif (av == (5 : Int)) then
  (zbj fu ft bx 7).bind fun a107 =>
  (zg G2 .f64 (GA.add (GA.add a107 0) 0)).bind fun x108 =>
  (zg G2 .f64 (GA.add (GA.add a107 0) 1)).bind fun x109 =>
  (zg G2 .f64 (GA.add (GA.add a107 0) 2)).bind fun x110 =>
  (zg G2 .f64 (GA.add (GA.add a107 0) 3)).bind fun x111 =>
  (zg G2 .f64 (GA.add (GA.add a107 0) 4)).bind fun x112 =>
  (zg G2 .f64 (GA.add (GA.add a107 0) 5)).bind fun x113 =>
  O zpn [.agg [fL aw, fL bf, fL bh]] (zj G2) fun v114 _ =>
  (zr 6 v114).bind fun c115 =>
  (zc .f64 (c115.getD 0 za)).bind fun x116 =>
  (zc .f64 (c115.getD 1 za)).bind fun x117 =>
  (zc .f64 (c115.getD 2 za)).bind fun x118 =>
  (zc .f64 (c115.getD 3 za)).bind fun x119 =>
  (zc .f64 (c115.getD 4 za)).bind fun x120 =>
  (zc .f64 (c115.getD 5 za)).bind fun x121 =>
  O zlq [.agg [fL x108, fL x109, fL x110, fL x111, fL x112, fL x113], .agg [fL x116, fL x117, fL x118, fL x119, fL x120, fL x121]] (zj G2) fun v122 _ =>
  (zr 6 v122).bind fun c123 =>
  (zc .f64 (c123.getD 0 za)).bind fun x124 =>
  (zc .f64 (c123.getD 1 za)).bind fun x125 =>
  (zc .f64 (c123.getD 2 za)).bind fun x126 =>
  (zc .f64 (c123.getD 3 za)).bind fun x127 =>
  (zc .f64 (c123.getD 4 za)).bind fun x128 =>
  (zc .f64 (c123.getD 5 za)).bind fun x129 =>
  (zbj fu ft bx 7).bind fun a130 =>
  (z0 G2 .i64 (GA.add a130 6)).bind fun x131 =>
  k (.agg [fL x124, fL x125, fL x126, fL x127, fL x128, fL x129, iL x131]) G2
  else
  O zpn [.agg [fL aw, fL bf, fL bh]] G2 fun v132 G133 =>
  (zr 6 v132).bind fun c134 =>
  (zc .f64 (c134.getD 0 za)).bind fun x135 =>
  (zc .f64 (c134.getD 1 za)).bind fun x136 =>
  (zc .f64 (c134.getD 2 za)).bind fun x137 =>
  (zc .f64 (c134.getD 3 za)).bind fun x138 =>
  (zc .f64 (c134.getD 4 za)).bind fun x139 =>
  (zc .f64 (c134.getD 5 za)).bind fun x140 =>
  k (.agg [fL x135, fL x136, fL x137, fL x138, fL x139, fL x140, iL (1 : Int)]) G133
def zdn {R : Type} (O : Ora R) (k : KV R) (eo fm aa : Int) (ac af ag : Nat) (aj ar : Int) (aq : Nat) (au : Int) (ai ah : Nat) (ak al : Nat) (cr cq : Nat) (ct cu : Nat) (df de : Nat) (dg : Int) (dh di : Nat) (ep er : Nat) (et eu : Nat) (ew ez : Nat) (fa : Int) (G : GH) : Option R :=
  O zcg [iL eo, iL fm] (zj G) fun v1 _ =>
  (zk .i64 v1).bind fun x2 =>
  O zcg [iL x2, iL fa] (zj G) fun v3 _ =>
  (zk .i64 v3).bind fun x4 =>
  k (.agg [fL ep, fL er, fL et, fL eu, fL ew, fL ez, iL x4]) G
def zeE {R : Type} (O : Ora R) (fuel : Nat) (k : KV R) : OG → Nat → Int → Int → Int → Int → Int → Nat → Nat → Nat → Int → Int → Nat → Int → Nat → Nat → Nat → Nat → Nat → Nat → Nat → Nat → Nat → Nat → Int → Nat → Nat → Nat → Nat → Nat → Nat → Nat → Nat → Int → GH → Option R := fun gn gp dp eo gq fm aa ac af ag aj ar aq au ai ah ak al cr cq ct cu df de dg dh di ep er et eu ew ez fa G =>
  zi fuel (zee O (zdn O k) gn gp dp eo gq fm aa ac af ag aj ar aq au ai ah ak al cr cq ct cu df de dg dh di ep er et eu ew ez fa G)
theorem zmY (fuel : Nat) (eo fm aa : Int) (ac af ag : Nat) (aj ar : Int) (aq : Nat) (au : Int) (ai ah : Nat) (ak al : Nat) (cr cq : Nat) (ct cu : Nat) (df de : Nat) (dg : Int) (dh di : Nat) (ep er : Nat) (et eu : Nat) (ew ez : Nat) (fa : Int) (G : GH) (k : KV R) :
  ze Tryz.prog O zCX fuel bd17 [1, 1, 0, 1, 0, 1, 0, 1, 1, 1, 0] (rcK Tryz.f17 k) .normal (mkE 132 [(10, .loc 3 0), (13, iL eo), (15, iL fm), (16, .loc 5 0)]) [[iL aa, fL ac, fL af, fL ag, iL aj, iL ar, fL aq, iL au], [fL ai, fL ah], [fL ak, fL al], [fL cr, fL cq, fL ct, fL cu, fL df, fL de, iL dg], [fL dh, fL di], [fL ep, fL er, fL et, fL eu, fL ew, fL ez, iL fa]] G =
  zdn O k eo fm aa ac af ag aj ar aq au ai ah ak al cr cq ct cu df de dg dh di ep er et eu ew ez fa G := by kernel_rfl
theorem zpC (fuel : Nat) (k : KV R) :
  (fun (gn : OG) (gp : Nat) (dp eo : Int) (gq fm aa : Int) (ac af ag : Nat) (aj ar : Int) (aq : Nat) (au : Int) (ai ah : Nat) (ak al : Nat) (cr cq : Nat) (ct cu : Nat) (df de : Nat) (dg : Int) (dh di : Nat) (ep er : Nat) (et eu : Nat) (ew ez : Nat) (fa : Int) (G : GH) => zi fuel (zd Tryz.prog O zCX fuel (nav bd17 [1, 1, 0, 1, 0, 1, 0, 1, 1, 1, 0]) 39 (mkE 132 [(2, .slice gn gp), (5, .loc 0 0), (10, .loc 3 0), (12, iL dp), (13, iL eo), (14, iL gq), (15, iL fm), (16, .loc 5 0)]) [[iL aa, fL ac, fL af, fL ag, iL aj, iL ar, fL aq, iL au], [fL ai, fL ah], [fL ak, fL al], [fL cr, fL cq, fL ct, fL cu, fL df, fL de, iL dg], [fL dh, fL di], [fL ep, fL er, fL et, fL eu, fL ew, fL ez, iL fa]] G (ze Tryz.prog O zCX fuel bd17 [1, 1, 0, 1, 0, 1, 0, 1, 1, 1, 0] (rcK Tryz.f17 k)))) = zeE O fuel k := by
  funext gn gp dp eo gq fm aa ac af ag aj ar aq au ai ah ak al cr cq ct cu df de dg dh di ep er et eu ew ez fa G
  simp only [zeE, zoL, zmY]
theorem zqq (fuel : Nat) (av : Int) (aw bf bh : Nat) (bx cd : Int) (dn : Nat) (ec : Int) (dq : OG) (dr : Nat) (fu : OG) (ft du : Nat) (dv dw dz : Nat) (G : GH) (k : KV R) :
  zf Tryz.prog O zCX fuel Tryz.f17 [.agg [iL av, fL aw, fL bf, fL bh, iL bx, iL cd, fL dn, iL ec], .slice dq dr, .slice fu ft, .agg [fL du, fL dv], .agg [fL dw, fL dz]] G k =
  zkA O k (fun gn gp dp eo gq fm aa ac af ag aj ar aq au ai ah ak al cr cq ct cu df de dg dh di ep er et eu ew ez fa G => zi fuel (zd Tryz.prog O zCX fuel (nav bd17 [1, 1, 0, 1, 0, 1, 0, 1, 1, 1, 0]) 39 (mkE 132 [(2, .slice gn gp), (5, .loc 0 0), (10, .loc 3 0), (12, iL dp), (13, iL eo), (14, iL gq), (15, iL fm), (16, .loc 5 0)]) [[iL aa, fL ac, fL af, fL ag, iL aj, iL ar, fL aq, iL au], [fL ai, fL ah], [fL ak, fL al], [fL cr, fL cq, fL ct, fL cu, fL df, fL de, iL dg], [fL dh, fL di], [fL ep, fL er, fL et, fL eu, fL ew, fL ez, iL fa]] G (ze Tryz.prog O zCX fuel bd17 [1, 1, 0, 1, 0, 1, 0, 1, 1, 1, 0] (rcK Tryz.f17 k)))) av aw bf bh bx cd dn ec dq dr fu ft du dv dw dz G := by kernel_rfl
theorem zwc (fuel : Nat) (av : Int) (aw bf bh : Nat) (bx cd : Int) (dn : Nat) (ec : Int) (dq : OG) (dr : Nat) (fu : OG) (ft du : Nat) (dv dw dz : Nat) (G : GH) (k : KV R) :
  zf Tryz.prog O zCX fuel Tryz.f17 [.agg [iL av, fL aw, fL bf, fL bh, iL bx, iL cd, fL dn, iL ec], .slice dq dr, .slice fu ft, .agg [fL du, fL dv], .agg [fL dw, fL dz]] G k =
  zkA O k (zeE O fuel k) av aw bf bh bx cd dn ec dq dr fu ft du dv dw dz G := by
  rw [zqq, zpC]
theorem zwn {R : Type} (fuel n : Nat) (av : Int) (aw bf bh : Nat) (bx cd : Int) (dn : Nat) (ec : Int) (dq : OG) (dr : Nat) (fu : OG) (ft du : Nat) (dv dw dz : Nat) (G : GH) (k : KV R) :
  runC Tryz.prog lo0 fuel (n + 1) 17 [.agg [iL av, fL aw, fL bf, fL bh, iL bx, iL cd, fL dn, iL ec], .slice dq dr, .slice fu ft, .agg [fL du, fL dv], .agg [fL dw, fL dz]] G k = zf Tryz.prog (runC Tryz.prog lo0 fuel n) zCX fuel Tryz.f17 [.agg [iL av, fL aw, fL bf, fL bh, iL bx, iL cd, fL dn, iL ec], .slice dq dr, .slice fu ft, .agg [fL du, fL dv], .agg [fL dw, fL dz]] G k := zh Tryz.func17 rfl rfl
def zf9 {R : Type} (O : Ora R) (KN : zHH R) (ba : OG) (az : Nat) (bm : OG) (bj : Nat) (s2 : Int) (aa ac : Nat) (ai ah : Nat) (ak al : Nat) (ax ay : Nat) (bd bi : Nat) (G : GH) : Option R :=
  bif (decide (s2 < (0 : Int))) then
  KN ba az bm bj s2 true aa ac ai ah ak al ax ay bd bi G
  else
  KN ba az bm bj s2 (decide (s2 ≥ (az : Int))) aa ac ai ah ak al ax ay bd bi G
def zdt {R : Type} (O : Ora R) (KN : zHH R) : OG → Nat → OG → Nat → Int → Nat → Nat → Nat → Nat → Nat → Nat → Nat → Nat → Nat → Nat → GH → Option R := fun ba az bm bj s2 aa ac ai ah ak al ax ay bd bi G => zf9 O KN ba az bm bj s2 aa ac ai ah ak al ax ay bd bi G
theorem zm8 (fuel : Nat) (ba : OG) (az : Nat) (bm : OG) (bj : Nat) (s2 : Int) (aa ac : Nat) (ai ah : Nat) (ak al : Nat) (ax ay : Nat) (bd bi : Nat) (G : GH) (k : KE R) :
  zd Tryz.prog O lo7 fuel (nav bd7 [1, 0, 0]) 11 (mkE 76 [(0, .slice ba az), (1, .slice bm bj), (2, iL s2), (8, .loc 0 0), (9, .loc 1 0), (10, .loc 2 0)]) [[fL aa, fL ac], [fL ai, fL ah], [fL ak, fL al, fL ax, fL ay, fL bd, fL bi]] G k =
  zf9 O (fun ba az bm bj s2 gk aa ac ai ah ak al ax ay bd bi G => k .normal (mkE 76 [(0, .slice ba az), (1, .slice bm bj), (2, iL s2), (8, .loc 0 0), (9, .loc 1 0), (10, .loc 2 0), (25, .bool gk)]) [[fL aa, fL ac], [fL ai, fL ah], [fL ak, fL al, fL ax, fL ay, fL bd, fL bi]] G) ba az bm bj s2 aa ac ai ah ak al ax ay bd bi G := by kernel_rfl
theorem zou (fuel : Nat) (k : KE R) : ∀ (ba : OG) (az : Nat) (bm : OG) (bj : Nat) (s2 : Int) (aa ac : Nat) (ai ah : Nat) (ak al : Nat) (ax ay : Nat) (bd bi : Nat) (G : GH),
  zd Tryz.prog O lo7 fuel (nav bd7 [1, 0, 0]) 11 (mkE 76 [(0, .slice ba az), (1, .slice bm bj), (2, iL s2), (8, .loc 0 0), (9, .loc 1 0), (10, .loc 2 0)]) [[fL aa, fL ac], [fL ai, fL ah], [fL ak, fL al, fL ax, fL ay, fL bd, fL bi]] G k = zdt O (fun ba az bm bj s2 gk aa ac ai ah ak al ax ay bd bi G => k .normal (mkE 76 [(0, .slice ba az), (1, .slice bm bj), (2, iL s2), (8, .loc 0 0), (9, .loc 1 0), (10, .loc 2 0), (25, .bool gk)]) [[fL aa, fL ac], [fL ai, fL ah], [fL ak, fL al, fL ax, fL ay, fL bd, fL bi]] G) ba az bm bj s2 aa ac ai ah ak al ax ay bd bi G := by
  intros
  rw [zm8]
  simp only [zdt]
def zbD {R : Type} (O : Ora R) (KN : zJa R) (K0 : zIw R) (ba : OG) (az : Nat) (bm : OG) (bj : Nat) (s2 : Int) (br : OG) (bt : Nat) (fj : OG) (fk : Nat) (fw fp : Int) (aa ac : Nat) (ai ah : Nat) (ak al : Nat) (ax ay : Nat) (bd bi : Nat) (G : GH) : Option R :=
  bif (decide (fp < fw)) then
  (zbj fj fk fp 1).bind fun a1 =>
  (zfZ G a1).bind fun x2 =>
  bif x2 then
  (zbj ba az fp 8).bind fun a3 =>
  (z0 G .i64 (GA.add a3 0)).bind fun x4 =>
  (zg G .f64 (GA.add a3 1)).bind fun x5 =>
  (zg G .f64 (GA.add a3 2)).bind fun x6 =>
  (zg G .f64 (GA.add a3 3)).bind fun x7 =>
  (z0 G .i64 (GA.add a3 4)).bind fun x8 =>
  (z0 G .i64 (GA.add a3 5)).bind fun x9 =>
  (zg G .f64 (GA.add a3 6)).bind fun x10 =>
  (z0 G .i64 (GA.add a3 7)).bind fun x11 =>
  O znf [.agg [iL x4, fL x5, fL x6, fL x7, iL x8, iL x9, fL x10, iL x11], .slice bm bj, .slice br bt, .agg [fL aa, fL ac], .agg [fL ai, fL ah]] G fun v12 G13 =>
  (zr 7 v12).bind fun c14 =>
  (zc .f64 (c14.getD 0 za)).bind fun x15 =>
  (zc .f64 (c14.getD 1 za)).bind fun x16 =>
  (zc .f64 (c14.getD 2 za)).bind fun x17 =>
  (zc .f64 (c14.getD 3 za)).bind fun x18 =>
  (zc .f64 (c14.getD 4 za)).bind fun x19 =>
  (zc .f64 (c14.getD 5 za)).bind fun x20 =>
  (zk .i64 (c14.getD 6 za)).bind fun x21 =>
  (zbj br bt fp 7).bind fun a22 =>
  (gst G13 a22 [fL x15, fL x16, fL x17, fL x18, fL x19, fL x20, iL x21]).bind fun G23 =>
  KN ba az bm bj s2 br bt fj fk fw (IntKind.wrap .i64 (fp + (1 : Int))) aa ac ai ah ak al ax ay bd bi G23
  else
  KN ba az bm bj s2 br bt fj fk fw (IntKind.wrap .i64 (fp + (1 : Int))) aa ac ai ah ak al ax ay bd bi G
  else
  K0 s2 br bt aa ac ai ah ak al ax ay bd bi G
def zT {R : Type} (O : Ora R) (K0 : zIw R) : Nat → OG → Nat → OG → Nat → Int → OG → Nat → OG → Nat → Int → Int → Nat → Nat → Nat → Nat → Nat → Nat → Nat → Nat → Nat → Nat → GH → Option R
  | 0, _, _, _, _, _, _, _, _, _, _, _, _, _, _, _, _, _, _, _, _, _, _ => none
  | n + 1, ba, az, bm, bj, s2, br, bt, fj, fk, fw, fp, aa, ac, ai, ah, ak, al, ax, ay, bd, bi, G => zbD O (zT O K0 n) K0 ba az bm bj s2 br bt fj fk fw fp aa ac ai ah ak al ax ay bd bi G
theorem zm1 (fuel : Nat) (ba : OG) (az : Nat) (bm : OG) (bj : Nat) (s2 : Int) (br : OG) (bt : Nat) (fj : OG) (fk : Nat) (fw fp : Int) (aa ac : Nat) (ai ah : Nat) (ak al : Nat) (ax ay : Nat) (bd bi : Nat) (G : GH) (k : KE R) :
  zd Tryz.prog O lo7 fuel (nav bd7 [1, 1, 1, 1, 0, 1, 0, 0]) 32 (mkE 76 [(0, .slice ba az), (1, .slice bm bj), (2, iL s2), (8, .loc 0 0), (9, .loc 1 0), (10, .loc 2 0), (15, .slice br bt), (45, .slice fj fk), (46, iL fw), (47, iL fp)]) [[fL aa, fL ac], [fL ai, fL ah], [fL ak, fL al, fL ax, fL ay, fL bd, fL bi]] G k =
  zbD O (fun ba az bm bj s2 br bt fj fk fw fp aa ac ai ah ak al ax ay bd bi G => k .normal (mkE 76 [(0, .slice ba az), (1, .slice bm bj), (2, iL s2), (8, .loc 0 0), (9, .loc 1 0), (10, .loc 2 0), (15, .slice br bt), (45, .slice fj fk), (46, iL fw), (47, iL fp)]) [[fL aa, fL ac], [fL ai, fL ah], [fL ak, fL al, fL ax, fL ay, fL bd, fL bi]] G) (fun s2 br bt aa ac ai ah ak al ax ay bd bi G => k (.exit 0) (mkE 76 [(2, iL s2), (10, .loc 2 0), (15, .slice br bt)]) [[fL aa, fL ac], [fL ai, fL ah], [fL ak, fL al, fL ax, fL ay, fL bd, fL bi]] G) ba az bm bj s2 br bt fj fk fw fp aa ac ai ah ak al ax ay bd bi G := by kernel_rfl
theorem zoi (fuel : Nat) (k : KE R) : ∀ (n : Nat) (ba : OG) (az : Nat) (bm : OG) (bj : Nat) (s2 : Int) (br : OG) (bt : Nat) (fj : OG) (fk : Nat) (fw fp : Int) (aa ac : Nat) (ai ah : Nat) (ak al : Nat) (ax ay : Nat) (bd bi : Nat) (G : GH),
  zJ (zd Tryz.prog O lo7 fuel (nav bd7 [1, 1, 1, 1, 0, 1, 0, 0]) 32) n (mkE 76 [(0, .slice ba az), (1, .slice bm bj), (2, iL s2), (8, .loc 0 0), (9, .loc 1 0), (10, .loc 2 0), (15, .slice br bt), (45, .slice fj fk), (46, iL fw), (47, iL fp)]) [[fL aa, fL ac], [fL ai, fL ah], [fL ak, fL al, fL ax, fL ay, fL bd, fL bi]] G k = zT O (fun s2 br bt aa ac ai ah ak al ax ay bd bi G => k (.exit 0) (mkE 76 [(2, iL s2), (10, .loc 2 0), (15, .slice br bt)]) [[fL aa, fL ac], [fL ai, fL ah], [fL ak, fL al, fL ax, fL ay, fL bd, fL bi]] G) n ba az bm bj s2 br bt fj fk fw fp aa ac ai ah ak al ax ay bd bi G := by
  intro n
  induction n with
  | zero => intros; first | rfl | simp only [zJ, zT]
  | succ n ih =>
    intros
    rw [zaU, zm1]
    simp only [zT, zah, zaS, zbI, ih]
def ziS {R : Type} (O : Ora R) (k : KV R) (L0 : zIL R) (dc : OG) (db : Nat) (dq : OG) (dr : Nat) (p2 : Int) (du dv : Nat) (dw dz : Nat) (G : GH) : Option R :=
  L0 dc db dq dr p2 du dv dw dz (0 : Nat) (0 : Nat) (0 : Nat) (0 : Nat) (0 : Nat) (0 : Nat) G
def zcB {R : Type} (O : Ora R) (k : KV R) (L1 : zJa R) (ba : OG) (az : Nat) (bm : OG) (bj : Nat) (s2 : Int) (gk : Bool) (aa ac : Nat) (ai ah : Nat) (ak al : Nat) (ax ay : Nat) (bd bi : Nat) (G : GH) : Option R :=
  bif gk then
  k (.tuple [.agg [fL (0 : Nat), fL (0 : Nat), fL (0 : Nat), fL (0 : Nat), fL (0 : Nat), fL (0 : Nat)], iL (0 : Int), iL (110 : Int)]) G
  else
  bif decide (0 ≤ (0 : Int) ∧ (0 : Int) ≤ (IntKind.wrap .i64 (s2 + (1 : Int))) ∧ (IntKind.wrap .i64 (s2 + (1 : Int))) ≤ (az : Int)) && ztU G ba 47 then
  O zgl [.slice (zFd ba (Int.toNat (0 : Int) * 8)) (Int.toNat (IntKind.wrap .i64 (s2 + (1 : Int))) - Int.toNat (0 : Int)), .slice bm bj] G fun v1 G2 =>
  (zY 2 v1).bind fun c3 =>
  (zk .i64 (c3.getD 0 za)).bind fun x4 =>
  (zk .i64 (c3.getD 1 za)).bind fun x5 =>
  bif (x5 != (0 : Int)) then
  k (.tuple [.agg [fL (0 : Nat), fL (0 : Nat), fL (0 : Nat), fL (0 : Nat), fL (0 : Nat), fL (0 : Nat)], iL (0 : Int), iL x5]) G2
  else
  bif (decide (0 ≤ (IntKind.wrap .i64 (s2 + (1 : Int))) ∧ (IntKind.wrap .i64 (s2 + (1 : Int))) ≤ (IntKind.wrap .i64 (s2 + (1 : Int))) ∧ (IntKind.wrap .i64 (s2 + (1 : Int))) * 56 ≤ zbo ∧ (IntKind.wrap .i64 (s2 + (1 : Int))) ≤ zbo) && true && true) then
  O ze9 [.slice ba az, iL s2] (zac G2 (List.replicate (Int.toNat (IntKind.wrap .i64 (s2 + (1 : Int)))) [fL (0 : Nat), fL (0 : Nat), fL (0 : Nat), fL (0 : Nat), fL (0 : Nat), fL (0 : Nat), iL (0 : Int)]).flatten 61) fun v6 G7 =>
  (zn1 v6).bind fun x8 =>
  L1 ba az bm bj s2 (some (zaA G2)) (Int.toNat (IntKind.wrap .i64 (s2 + (1 : Int)))) x8.1 x8.2 (x8.2 : Int) (0 : Int) aa ac ai ah ak al ax ay bd bi G7
  else none
  else none
def zeY {R : Type} (O : Ora R) (k : KV R) (s2 : Int) (br : OG) (bt aa : Nat) (ac ai : Nat) (ah ak : Nat) (al ax : Nat) (ay bd bi : Nat) (G : GH) : Option R :=
  (zbj br bt s2 7).bind fun a1 =>
  (zg G .f64 (GA.add (GA.add a1 0) 0)).bind fun x2 =>
  (zg G .f64 (GA.add (GA.add a1 0) 1)).bind fun x3 =>
  (zg G .f64 (GA.add (GA.add a1 0) 2)).bind fun x4 =>
  (zg G .f64 (GA.add (GA.add a1 0) 3)).bind fun x5 =>
  (zg G .f64 (GA.add (GA.add a1 0) 4)).bind fun x6 =>
  (zg G .f64 (GA.add (GA.add a1 0) 5)).bind fun x7 =>
  (zbj br bt s2 7).bind fun a8 =>
  (z0 G .i64 (GA.add a8 6)).bind fun x9 =>
  k (.tuple [.agg [fL x2, fL x3, fL x4, fL x5, fL x6, fL x7], iL x9, iL (0 : Int)]) G
def zaT {R : Type} (O : Ora R) (fuel : Nat) (k : KV R) : OG → Nat → OG → Nat → Int → OG → Nat → OG → Nat → Int → Int → Nat → Nat → Nat → Nat → Nat → Nat → Nat → Nat → Nat → Nat → GH → Option R := fun ba az bm bj s2 br bt fj fk fw fp aa ac ai ah ak al ax ay bd bi G =>
  zT O (zeY O k) fuel ba az bm bj s2 br bt fj fk fw fp aa ac ai ah ak al ax ay bd bi G
theorem zll (fuel : Nat) (s2 : Int) (br : OG) (bt aa : Nat) (ac ai : Nat) (ah ak : Nat) (al ax : Nat) (ay bd bi : Nat) (G : GH) (k : KV R) :
  ze Tryz.prog O lo7 fuel bd7 [1, 1, 1, 1, 0, 1, 0] (rcK Tryz.f7 k) (.exit 0) (mkE 76 [(2, iL s2), (10, .loc 2 0), (15, .slice br bt)]) [[fL aa, fL ac], [fL ai, fL ah], [fL ak, fL al, fL ax, fL ay, fL bd, fL bi]] G =
  zeY O k s2 br bt aa ac ai ah ak al ax ay bd bi G := by kernel_rfl
theorem zot (fuel : Nat) (k : KV R) :
  (fun (ba : OG) (az : Nat) (bm : OG) (bj : Nat) (s2 : Int) (br : OG) (bt : Nat) (fj : OG) (fk : Nat) (fw fp : Int) (aa ac : Nat) (ai ah : Nat) (ak al : Nat) (ax ay : Nat) (bd bi : Nat) (G : GH) => zJ (zd Tryz.prog O lo7 fuel (nav bd7 [1, 1, 1, 1, 0, 1, 0, 0]) 32) fuel (mkE 76 [(0, .slice ba az), (1, .slice bm bj), (2, iL s2), (8, .loc 0 0), (9, .loc 1 0), (10, .loc 2 0), (15, .slice br bt), (45, .slice fj fk), (46, iL fw), (47, iL fp)]) [[fL aa, fL ac], [fL ai, fL ah], [fL ak, fL al, fL ax, fL ay, fL bd, fL bi]] G (ze Tryz.prog O lo7 fuel bd7 [1, 1, 1, 1, 0, 1, 0] (rcK Tryz.f7 k))) = zaT O fuel k := by
  funext ba az bm bj s2 br bt fj fk fw fp aa ac ai ah ak al ax ay bd bi G
  simp only [zaT, zoi, zll]
def zdp {R : Type} (O : Ora R) (fuel : Nat) (k : KV R) : OG → Nat → OG → Nat → Int → Nat → Nat → Nat → Nat → Nat → Nat → Nat → Nat → Nat → Nat → GH → Option R := fun ba az bm bj s2 aa ac ai ah ak al ax ay bd bi G =>
  zi fuel (zdt O (zcB O k (zaT O fuel k)) ba az bm bj s2 aa ac ai ah ak al ax ay bd bi G)
theorem zlK (fuel : Nat) (ba : OG) (az : Nat) (bm : OG) (bj : Nat) (s2 : Int) (gk : Bool) (aa ac : Nat) (ai ah : Nat) (ak al : Nat) (ax ay : Nat) (bd bi : Nat) (G : GH) (k : KV R) :
  ze Tryz.prog O lo7 fuel bd7 [1, 0, 0] (rcK Tryz.f7 k) .normal (mkE 76 [(0, .slice ba az), (1, .slice bm bj), (2, iL s2), (8, .loc 0 0), (9, .loc 1 0), (10, .loc 2 0), (25, .bool gk)]) [[fL aa, fL ac], [fL ai, fL ah], [fL ak, fL al, fL ax, fL ay, fL bd, fL bi]] G =
  zcB O k (fun ba az bm bj s2 br bt fj fk fw fp aa ac ai ah ak al ax ay bd bi G => zJ (zd Tryz.prog O lo7 fuel (nav bd7 [1, 1, 1, 1, 0, 1, 0, 0]) 32) fuel (mkE 76 [(0, .slice ba az), (1, .slice bm bj), (2, iL s2), (8, .loc 0 0), (9, .loc 1 0), (10, .loc 2 0), (15, .slice br bt), (45, .slice fj fk), (46, iL fw), (47, iL fp)]) [[fL aa, fL ac], [fL ai, fL ah], [fL ak, fL al, fL ax, fL ay, fL bd, fL bi]] G (ze Tryz.prog O lo7 fuel bd7 [1, 1, 1, 1, 0, 1, 0] (rcK Tryz.f7 k))) ba az bm bj s2 gk aa ac ai ah ak al ax ay bd bi G := by kernel_rfl
theorem zol (fuel : Nat) (k : KV R) :
  (fun (ba : OG) (az : Nat) (bm : OG) (bj : Nat) (s2 : Int) (aa ac : Nat) (ai ah : Nat) (ak al : Nat) (ax ay : Nat) (bd bi : Nat) (G : GH) => zi fuel (zd Tryz.prog O lo7 fuel (nav bd7 [1, 0, 0]) 11 (mkE 76 [(0, .slice ba az), (1, .slice bm bj), (2, iL s2), (8, .loc 0 0), (9, .loc 1 0), (10, .loc 2 0)]) [[fL aa, fL ac], [fL ai, fL ah], [fL ak, fL al, fL ax, fL ay, fL bd, fL bi]] G (ze Tryz.prog O lo7 fuel bd7 [1, 0, 0] (rcK Tryz.f7 k)))) = zdp O fuel k := by
  funext ba az bm bj s2 aa ac ai ah ak al ax ay bd bi G
  simp only [zdp, zou, zlK, zot]
theorem zpT (fuel : Nat) (dc : OG) (db : Nat) (dq : OG) (dr : Nat) (p2 : Int) (du dv : Nat) (dw dz : Nat) (G : GH) (k : KV R) :
  zf Tryz.prog O lo7 fuel Tryz.f7 [.slice dc db, .slice dq dr, iL p2, .agg [fL du, fL dv], .agg [fL dw, fL dz]] G k =
  ziS O k (fun ba az bm bj s2 aa ac ai ah ak al ax ay bd bi G => zi fuel (zd Tryz.prog O lo7 fuel (nav bd7 [1, 0, 0]) 11 (mkE 76 [(0, .slice ba az), (1, .slice bm bj), (2, iL s2), (8, .loc 0 0), (9, .loc 1 0), (10, .loc 2 0)]) [[fL aa, fL ac], [fL ai, fL ah], [fL ak, fL al, fL ax, fL ay, fL bd, fL bi]] G (ze Tryz.prog O lo7 fuel bd7 [1, 0, 0] (rcK Tryz.f7 k)))) dc db dq dr p2 du dv dw dz G := by kernel_rfl
theorem zuF (fuel : Nat) (dc : OG) (db : Nat) (dq : OG) (dr : Nat) (p2 : Int) (du dv : Nat) (dw dz : Nat) (G : GH) (k : KV R) :
  zf Tryz.prog O lo7 fuel Tryz.f7 [.slice dc db, .slice dq dr, iL p2, .agg [fL du, fL dv], .agg [fL dw, fL dz]] G k =
  ziS O k (zdp O fuel k) dc db dq dr p2 du dv dw dz G := by
  rw [zpT, zol]
theorem zuX {R : Type} (fuel n : Nat) (dc : OG) (db : Nat) (dq : OG) (dr : Nat) (p2 : Int) (du dv : Nat) (dw dz : Nat) (G : GH) (k : KV R) :
  runC Tryz.prog lo0 fuel (n + 1) 7 [.slice dc db, .slice dq dr, iL p2, .agg [fL du, fL dv], .agg [fL dw, fL dz]] G k = zf Tryz.prog (runC Tryz.prog lo0 fuel n) lo7 fuel Tryz.f7 [.slice dc db, .slice dq dr, iL p2, .agg [fL du, fL dv], .agg [fL dw, fL dz]] G k := zh Tryz.func7 rfl rfl
end
end Go.LI.Film

/- What the interpreter gives for the small functions of the reader (written by decomp.py). -/
import Derived.Test.YtckelpgijjbpaaaLexLib
namespace Go.LI.Lex
open Go.Proofs.Ytckelpgijjbpaaa Go Go.Proofs Go.LI
set_option maxRecDepth 100000
set_option linter.unusedVariables false
set_option linter.unusedSimpArgs false
def lo4 : List Nat := [11150372599265311570767859136879434125017126, 11150372599265311570767859136404445101817895, 11150372599265311570767859140343995264139308, 11150372599265311570767859140343995264139314, 11150372599265311570767859140343995264139315, 11150372599265311570767859140343995264139326, 11150372599265311570767859140343995264139327, 11150372599265311570767859136328578800549927, 11150372599265311570767859136328578800549932, 11150372599265311570767859136328578800549939, 11150372599265311570767859136328578800549951, 11150372599265311570767859136324180755087404]
def lo5 : List Nat := [4, 8, 2596148429267413814327920327393310, 2596148429267413814283939862282271, 2596148429267413814530230466904104, 2596148429267413814530230466904114, 2596148429267413814495046094815283, 2596148429267413814530230466904122, 2596150905147492385290780265152571, 2596148429267413814269646212169759, 2596148429267413814269646212169768, 2596148429267413814511538771329064, 2596148429267413814511538771329075]
def lo6 : List Nat := [12259964326927110866866776217202473598077651458040266792, 12259964326927110866866776217202473598086095707341586488, 12259964326927110866866776217202473598086095707341586494, 12259964326927110866866776217202473598086095707341586495, 12259964326927110866866776217202473598086095707341586502, 12259964326927110866866776217279844850541431974522781767, 12259964326927110866866776217202473598090599306968957014, 12259964326927110866866776217202473598090036357015535703, 12259964326927110866866776217202473598081029157760794718, 12259964326927111037007959677671705329767206973738057823, 12259964326927110866866776217202473469076295242011902078, 12259964326927110866866776217202473468968208850955010175, 12262209193442051133749137077105525679686400363341021312, 12259964326927110866866776217202473468949930569655910527, 12259964326927110866866776217202473468949930569655910528, 12259964326927110866866776217202473468950264821191802920, 12259964326927110866866776217202473598081592107718410296, 12259964326927110866866776217202473468949912977475108992]
def lo7 : List Nat := [10633823966279326983232675296707608618, 10633823966279326983230775340614811691, 10633827769231127667918979830724427820, 10633823966279326983230474074429849643, 10633823966279326983230474074429849644, 10633823966279326983230456482244853804]
def lo11 : List Nat := [4722366588422761480204, 4722366513655971840012]
def lo16 : List Nat := [2, 1725436586697640946858688965569256363112777243042596638813720800133168, 1725436586697640946858688965569256363112777243042596638813720800133174, 1725436586697640946858688965569256363112777243042596638813720800133175, 1725436586697640946858688965569256363112777243042596638813720800133188, 1725436586697640946858688965569256363112777243042596638813720800133194, 1725436586697640946858688965569256363112777243042596638813720800133195, 1725436586697640946858688965569256363112777243042596638831312986177634, 1728806580031034776833022342455133816946981886095414210356266565369955, 1725436586697640946858688965569256363112777243042596638813720802230320, 1725436586697640946858688965569256363112777243042596638813720802230327, 1725436586697640946858688965569256363112777243042596638813720804327492, 1725436586697640946858688965569256363112777243042596638813720804327499]
def lo29 : List Nat := [1237940039285385772457263108, 1237940039285394568550285350, 1237940039285385772457263143, 1237940039285380274900172804, 1237940039285380274900172839, 1237940039285380274901221380]
def lo34 : List Nat := [2, 11150372599265311570767859136347270497173522, 11150372599265311570767859136347270497173523, 11150372599265311570767859136593561101795374, 11150372599265311570767859136593561101795375, 11150372599265311570767859136875036078506038, 11150372609649905287837514393619369388146743, 11150372599265311570767859138247226589970496, 11150372599265311570767859138669439055036502, 11172150670748251632429515113457111290347607, 11150372599265311570767859138669439055036506, 11150372599265311570767859138581478124814427, 11150372599265311570767859136337374893572143, 11150372599265311570767859136980589196869696]
def lo44 : List Nat := [9444733039406569488392, 9444733039406569488406, 9444733039406569488407, 9444733039406569488414, 9444733039406569488415, 9444733038307059957768]
/-- The variables that never leave their call; the functions that are run in an empty heap. -/
def lo0 (f : Nat) : List Nat :=
  match f with
  | 4 => lo4
  | 5 => lo5
  | 6 => lo6
  | 7 => lo7
  | 8 => [999999]
  | 9 => [999999]
  | 11 => lo11
  | 14 => [2, 3]
  | 15 => [2]
  | 16 => lo16
  | 22 => [4]
  | 23 => [999999]
  | 25 => [999999]
  | 26 => [999999]
  | 27 => [2]
  | 28 => [999999]
  | 29 => lo29
  | 30 => [4]
  | 32 => [999999]
  | 33 => [999999]
  | 34 => lo34
  | 44 => lo44
  | _ => []

theorem hm : Try.prog.follows .mixedOrders = true := by kernel_rfl
theorem hn : noCount Try.prog = true := by kernel_rfl
theorem awake {R : Type} (G : GH) (k : IV → GH → Option R) : (runL Try.prog lexLib lo0 1152921504606846976 50 8 [] G k) = k (.bool true) G := by kernel_rfl
/-! ### lantern/lex.letter -/
theorem e23 {R : Type} (O : Ora R) (fuel : Nat) (p0 : Int) (G : GH) (k : IV → GH → Option R) :
  bodyC Try.prog O [999999] fuel Try.f23 [.int .u8 p0] G k =
  bif (decide (p0 ≥ (97 : Int))) then
  bif (decide (p0 ≤ (122 : Int))) then
  k (.bool true) G
  else
  bif (decide (p0 ≥ (65 : Int))) then
  k (.bool (decide (p0 ≤ (90 : Int)))) G
  else
  k (.bool false) G
  else
  bif (decide (p0 ≥ (65 : Int))) then
  k (.bool (decide (p0 ≤ (90 : Int)))) G
  else
  k (.bool false) G := by kernel_rfl

theorem r23 {R : Type} (fuel n : Nat) (p0 : Int) (G : GH) (k : IV → GH → Option R) :
  runL Try.prog lexLib lo0 fuel (n + 1) 23 [.int .u8 p0] G k = bodyC Try.prog (runL Try.prog lexLib lo0 fuel n) [999999] fuel Try.f23 [.int .u8 p0] [] (fun v _ => if isFlat v then k v G else none) := runL_pure Try.func23 rfl rfl rfl rfl

/-! ### lantern/lex.digit -/
theorem e26 {R : Type} (O : Ora R) (fuel : Nat) (p0 : Int) (G : GH) (k : IV → GH → Option R) :
  bodyC Try.prog O [999999] fuel Try.f26 [.int .u8 p0] G k =
  bif (decide (p0 ≥ (48 : Int))) then
  k (.bool (decide (p0 ≤ (57 : Int)))) G
  else
  k (.bool false) G := by kernel_rfl

theorem r26 {R : Type} (fuel n : Nat) (p0 : Int) (G : GH) (k : IV → GH → Option R) :
  runL Try.prog lexLib lo0 fuel (n + 1) 26 [.int .u8 p0] G k = bodyC Try.prog (runL Try.prog lexLib lo0 fuel n) [999999] fuel Try.f26 [.int .u8 p0] [] (fun v _ => if isFlat v then k v G else none) := runL_pure Try.func26 rfl rfl rfl rfl

/-! ### (*lantern/lex.Reader).Next$1 -/
theorem e25 {R : Type} (O : Ora R) (fuel : Nat) (p0 : Int) (G : GH) (k : IV → GH → Option R) :
  bodyC Try.prog O [999999] fuel Try.f25 [.int .u8 p0] G k =
  O 23 [.int .u8 p0] G fun v1 G2 =>
  (ivBool v1).bind fun x3 =>
  bif x3 then
  k (.bool true) G2
  else
  O 26 [.int .u8 p0] G2 fun v4 G5 =>
  (ivBool v4).bind fun x6 =>
  bif x6 then
  k (.bool true) G5
  else
  k (.bool (p0 == (45 : Int))) G5 := by kernel_rfl

theorem r25 {R : Type} (fuel n : Nat) (p0 : Int) (G : GH) (k : IV → GH → Option R) :
  runL Try.prog lexLib lo0 fuel (n + 1) 25 [.int .u8 p0] G k = bodyC Try.prog (runL Try.prog lexLib lo0 fuel n) [999999] fuel Try.f25 [.int .u8 p0] [] (fun v _ => if isFlat v then k v G else none) := runL_pure Try.func25 rfl rfl rfl rfl

/-! ### (*lantern/lex.Reader).Next$2 -/
theorem e28 {R : Type} (O : Ora R) (fuel : Nat) (p0 : Int) (G : GH) (k : IV → GH → Option R) :
  bodyC Try.prog O [999999] fuel Try.f28 [.int .u8 p0] G k =
  bif (p0 != (34 : Int)) then
  k (.bool (p0 != (10 : Int))) G
  else
  k (.bool false) G := by kernel_rfl

theorem r28 {R : Type} (fuel n : Nat) (p0 : Int) (G : GH) (k : IV → GH → Option R) :
  runL Try.prog lexLib lo0 fuel (n + 1) 28 [.int .u8 p0] G k = bodyC Try.prog (runL Try.prog lexLib lo0 fuel n) [999999] fuel Try.f28 [.int .u8 p0] [] (fun v _ => if isFlat v then k v G else none) := runL_pure Try.func28 rfl rfl rfl rfl

/-! ### lantern/lex.New -/
theorem e12 {R : Type} (O : Ora R) (fuel : Nat) (p0 : List UInt8) (G : GH) (k : IV → GH → Option R) :
  bodyC Try.prog O [] fuel Try.f12 [.str p0] G k =
  k (.ptr (some (gaddr G))) (gnew G [.str p0, .int .i64 (0 : Int), .int .i64 (1 : Int), .int .i64 (0 : Int), .int .i64 (0 : Int)] 58) := by kernel_rfl

theorem r12 {R : Type} (fuel n : Nat) (p0 : List UInt8) (G : GH) (k : IV → GH → Option R) :
  runL Try.prog lexLib lo0 fuel (n + 1) 12 [.str p0] G k = bodyC Try.prog (runL Try.prog lexLib lo0 fuel n) [] fuel Try.f12 [.str p0] G k := runL_body Try.func12 rfl rfl rfl

/-! ### (*lantern/lex.Reader).Line -/
theorem e17 {R : Type} (O : Ora R) (fuel : Nat) (p0 : GA) (G : GH) (k : IV → GH → Option R) :
  bodyC Try.prog O [] fuel Try.f17 [.ptr (some p0)] G k =
  (ldInt G .i64 (GA.add p0 2)).bind fun x1 =>
  k (.int .i64 x1) G := by kernel_rfl

theorem r17 {R : Type} (fuel n : Nat) (p0 : GA) (G : GH) (k : IV → GH → Option R) :
  runL Try.prog lexLib lo0 fuel (n + 1) 17 [.ptr (some p0)] G k = bodyC Try.prog (runL Try.prog lexLib lo0 fuel n) [] fuel Try.f17 [.ptr (some p0)] G k := runL_body Try.func17 rfl rfl rfl

/-! ### (*lantern/lex.Reader).fail -/
theorem e22 {R : Type} (O : Ora R) (fuel : Nat) (p0 : GA) (p1 : Int) (G : GH) (k : IV → GH → Option R) :
  bodyC Try.prog O [4] fuel Try.f22 [.ptr (some p0), .int .i64 p1] G k =
  (gst G (GA.add p0 4) [.int .i64 p1]).bind fun G1 =>
  k (.tuple [.agg [.int .i64 (0 : Int), .str ([] : List UInt8), .float .f64 (0 : Nat), .int .i64 (0 : Int)], .int .i64 p1]) G1 := by kernel_rfl

theorem r22 {R : Type} (fuel n : Nat) (p0 : GA) (p1 : Int) (G : GH) (k : IV → GH → Option R) :
  runL Try.prog lexLib lo0 fuel (n + 1) 22 [.ptr (some p0), .int .i64 p1] G k = bodyC Try.prog (runL Try.prog lexLib lo0 fuel n) [4] fuel Try.f22 [.ptr (some p0), .int .i64 p1] G k := runL_body Try.func22 rfl rfl rfl

/-! ### lantern/lanternlaw15.decimal -/
def l9_0 {R : Type} (O : Ora R) (Kret : List UInt8 → GH → Option R) : Nat → Int → List UInt8 → GH → Option R
  | 0, _, _, _ => none
  | n + 1, s0, s3, G =>
  (grd (gnew G [.int .u8 (IntKind.wrap .u8 (IntKind.wrap .i64 ((48 : Int) + (Int.tmod s0 (10 : Int)))))] 5) (gaddr G) 1).bind fun x1 =>
  (asBytes x1).bind fun x2 =>
  bif decide (x2.length + s3.length ≤ roomS) then
  bif ((IntKind.wrap .i64 (Int.tdiv s0 (10 : Int))) == (0 : Int)) then
  Kret (x2 ++ s3) (gnew G [.int .u8 (IntKind.wrap .u8 (IntKind.wrap .i64 ((48 : Int) + (Int.tmod s0 (10 : Int)))))] 5)
  else
  l9_0 O Kret n (IntKind.wrap .i64 (Int.tdiv s0 (10 : Int))) (x2 ++ s3) (gnew G [.int .u8 (IntKind.wrap .u8 (IntKind.wrap .i64 ((48 : Int) + (Int.tmod s0 (10 : Int)))))] 5)
  else none

theorem l9_0_body {R : Type} (O : Ora R) (fuel : Nat) (d1 d2 d4 d5 d6 d7 d8 d9 d10 d11 d12 d13 d14 d15 d16 : IV) (s0 : Int) (s3 : List UInt8) (G : GH) (k : Ex → List IV → List (List IV) → GH → Option R) :
  codeC Try.prog O [999999] fuel (nav (Try.f9.body.getD .skip) [1, 1, 0, 0]) [.int .i64 s0, d1, d2, .str s3, d4, d5, d6, d7, d8, d9, d10, d11, d12, d13, d14, d15, d16] [] G k =
  (grd (gnew G [.int .u8 (IntKind.wrap .u8 (IntKind.wrap .i64 ((48 : Int) + (Int.tmod s0 (10 : Int)))))] 5) (gaddr G) 1).bind fun x1 =>
  (asBytes x1).bind fun x2 =>
  bif decide (x2.length + s3.length ≤ roomS) then
  bif ((IntKind.wrap .i64 (Int.tdiv s0 (10 : Int))) == (0 : Int)) then
  k .ret [.int .i64 (IntKind.wrap .i64 (Int.tdiv s0 (10 : Int))), d1, .str (x2 ++ s3), .str (x2 ++ s3), .int .i64 s0, .int .i64 (Int.tmod s0 (10 : Int)), .int .i64 (IntKind.wrap .i64 ((48 : Int) + (Int.tmod s0 (10 : Int)))), .int .u8 (IntKind.wrap .u8 (IntKind.wrap .i64 ((48 : Int) + (Int.tmod s0 (10 : Int))))), .slice (some (gaddr G)) 1, .str x2, .str s3, .str (x2 ++ s3), .int .i64 s0, .int .i64 (IntKind.wrap .i64 (Int.tdiv s0 (10 : Int))), .int .i64 (IntKind.wrap .i64 (Int.tdiv s0 (10 : Int))), .bool ((IntKind.wrap .i64 (Int.tdiv s0 (10 : Int))) == (0 : Int)), .str (x2 ++ s3)] [] (gnew G [.int .u8 (IntKind.wrap .u8 (IntKind.wrap .i64 ((48 : Int) + (Int.tmod s0 (10 : Int)))))] 5)
  else
  k .normal [.int .i64 (IntKind.wrap .i64 (Int.tdiv s0 (10 : Int))), d1, d2, .str (x2 ++ s3), .int .i64 s0, .int .i64 (Int.tmod s0 (10 : Int)), .int .i64 (IntKind.wrap .i64 ((48 : Int) + (Int.tmod s0 (10 : Int)))), .int .u8 (IntKind.wrap .u8 (IntKind.wrap .i64 ((48 : Int) + (Int.tmod s0 (10 : Int))))), .slice (some (gaddr G)) 1, .str x2, .str s3, .str (x2 ++ s3), .int .i64 s0, .int .i64 (IntKind.wrap .i64 (Int.tdiv s0 (10 : Int))), .int .i64 (IntKind.wrap .i64 (Int.tdiv s0 (10 : Int))), .bool ((IntKind.wrap .i64 (Int.tdiv s0 (10 : Int))) == (0 : Int)), d16] [] (gnew G [.int .u8 (IntKind.wrap .u8 (IntKind.wrap .i64 ((48 : Int) + (Int.tmod s0 (10 : Int)))))] 5)
  else none := by kernel_rfl

theorem l9_0_afterret {R : Type} (O : Ora R) (fuel : Nat) (d0 d1 d3 d4 d5 d6 d7 d8 d9 d10 d11 d12 d13 d14 d15 d16 : IV) (s2 : List UInt8) (G : GH) (k : IV → GH → Option R) :
  contC Try.prog O [999999] fuel (Try.f9.body.getD .skip) [1, 1, 0] (fun e env F G => match e with | .exit _ => none | _ => resC Try.prog Try.f9 env F G k) .ret [d0, d1, .str s2, d3, d4, d5, d6, d7, d8, d9, d10, d11, d12, d13, d14, d15, d16] [] G =
  k (.str s2) G := by kernel_rfl

theorem l9_0_eq {R : Type} (O : Ora R) (fuel : Nat) (k : IV → GH → Option R) : ∀ (n : Nat) (d1 d2 d4 d5 d6 d7 d8 d9 d10 d11 d12 d13 d14 d15 d16 : IV) (s0 : Int) (s3 : List UInt8) (G : GH),
  loopN (fun env F G k => codeC Try.prog O [999999] fuel (nav (Try.f9.body.getD .skip) [1, 1, 0, 0]) env F G k) n [.int .i64 s0, d1, d2, .str s3, d4, d5, d6, d7, d8, d9, d10, d11, d12, d13, d14, d15, d16] [] G (contC Try.prog O [999999] fuel (Try.f9.body.getD .skip) [1, 1, 0] (fun e env F G => match e with | .exit _ => none | _ => resC Try.prog Try.f9 env F G k)) =
  l9_0 O (fun (s2 : List UInt8) G => k (.str s2) G) n s0 s3 G := by
  intro n
  induction n with
  | zero => intros; rfl
  | succ n ih =>
    intros
    rw [loopN_succ, l9_0_body]
    simp only [l9_0, loopK_normal, loopK_exit, loopK_ret, ih, l9_0_afterret]

theorem e9_raw {R : Type} (O : Ora R) (fuel : Nat) (p0 : Int) (G : GH) (k : IV → GH → Option R) :
  bodyC Try.prog O [999999] fuel Try.f9 [.int .i64 p0] G k =
  loopN (fun env F G k => codeC Try.prog O [999999] fuel (nav (Try.f9.body.getD .skip) [1, 1, 0, 0]) env F G k) fuel [.int .i64 p0, .tuple [], .str ([] : List UInt8), .str ([] : List UInt8), .tuple [], .tuple [], .tuple [], .tuple [], .tuple [], .tuple [], .tuple [], .tuple [], .tuple [], .tuple [], .tuple [], .tuple [], .tuple []] [] G (contC Try.prog O [999999] fuel (Try.f9.body.getD .skip) [1, 1, 0] (fun e env F G => match e with | .exit _ => none | _ => resC Try.prog Try.f9 env F G k)) := by kernel_rfl

theorem e9 {R : Type} (O : Ora R) (fuel : Nat) (p0 : Int) (G : GH) (k : IV → GH → Option R) :
  bodyC Try.prog O [999999] fuel Try.f9 [.int .i64 p0] G k =
  l9_0 O (fun (s2 : List UInt8) G => k (.str s2) G) fuel p0 ([] : List UInt8) G := by
  rw [e9_raw]; simp only [l9_0_eq O fuel k]

theorem r9 {R : Type} (fuel n : Nat) (p0 : Int) (G : GH) (k : IV → GH → Option R) :
  runL Try.prog lexLib lo0 fuel (n + 1) 9 [.int .i64 p0] G k = bodyC Try.prog (runL Try.prog lexLib lo0 fuel n) [999999] fuel Try.f9 [.int .i64 p0] [] (fun v _ => if isFlat v then k v G else none) := runL_pure Try.func9 rfl rfl rfl rfl

/-! ### (*lantern/lex.Reader).skip -/
def c21_4 {R : Type} (O : Ora R) (KN : GA → GH → Option R) (K3 : GA → GH → Option R) (s0 : GA) (G : GH) : Option R :=
  (ldInt G .i64 (GA.add s0 1)).bind fun x1 =>
  (ldStr G (GA.add s0 0)).bind fun x2 =>
  bif (decide (x1 < (x2.length : Int))) then
  (ldStr G (GA.add s0 0)).bind fun x3 =>
  (ldInt G .i64 (GA.add s0 1)).bind fun x4 =>
  bif decide (0 ≤ x4 ∧ x4 < (x3.length : Int)) then
  bif (((x3.getD (Int.toNat x4) 0).toNat : Int) != (10 : Int)) then
  KN s0 G
  else
  K3 s0 G
  else none
  else
  K3 s0 G

theorem c21_4_body {R : Type} (O : Ora R) (fuel : Nat) (d1 d2 d3 d4 d5 d6 d7 d8 d9 d10 d11 d12 d13 d14 d15 d16 d17 d18 d19 d20 d21 d22 d23 d24 d25 d26 d27 d28 d29 d30 d31 d32 d33 d34 d35 d36 d37 d38 d39 d40 d41 d42 d43 d44 d45 d46 d47 d48 d49 d50 d51 d52 d53 d54 d55 d56 d57 d58 d59 d60 d61 d62 d63 d64 d65 d66 d67 d68 d69 d70 d71 : IV) (s0 : GA) (G : GH) (k : Ex → List IV → List (List IV) → GH → Option R) :
  codeC Try.prog O [] fuel (nav (Try.f21.body.getD .skip) [0, 0, 1, 0, 0, 1, 0, 1, 1, 1, 1, 1, 0, 0, 0, 0, 0]) [.ptr (some s0), d1, d2, d3, d4, d5, d6, d7, d8, d9, d10, d11, d12, d13, d14, d15, d16, d17, d18, d19, d20, d21, d22, d23, d24, d25, d26, d27, d28, d29, d30, d31, d32, d33, d34, d35, d36, d37, d38, d39, d40, d41, d42, d43, d44, d45, d46, d47, d48, d49, d50, d51, d52, d53, d54, d55, d56, d57, d58, d59, d60, d61, d62, d63, d64, d65, d66, d67, d68, d69, d70, d71] [] G k =
  (ldInt G .i64 (GA.add s0 1)).bind fun x1 =>
  (ldStr G (GA.add s0 0)).bind fun x2 =>
  bif (decide (x1 < (x2.length : Int))) then
  (ldStr G (GA.add s0 0)).bind fun x3 =>
  (ldInt G .i64 (GA.add s0 1)).bind fun x4 =>
  bif decide (0 ≤ x4 ∧ x4 < (x3.length : Int)) then
  bif (((x3.getD (Int.toNat x4) 0).toNat : Int) != (10 : Int)) then
  k .normal [.ptr (some s0), d1, d2, d3, d4, d5, d6, d7, d8, d9, d10, d11, d12, d13, d14, d15, d16, d17, d18, d19, d20, d21, d22, d23, d24, d25, d26, d27, d28, d29, d30, d31, d32, d33, d34, d35, .ptr (some s0), .ptr (some s0), .ptr (some (GA.add s0 1)), .int .i64 x1, .ptr (some s0), .ptr (some s0), .ptr (some (GA.add s0 0)), .str x2, .int .i64 (x2.length : Int), .bool (decide (x1 < (x2.length : Int))), .bool true, .ptr (some s0), .ptr (some s0), .ptr (some (GA.add s0 0)), .str x3, .ptr (some s0), .ptr (some s0), .ptr (some (GA.add s0 1)), .int .i64 x4, .int .u8 ((x3.getD (Int.toNat x4) 0).toNat : Int), .bool (((x3.getD (Int.toNat x4) 0).toNat : Int) != (10 : Int)), .bool (((x3.getD (Int.toNat x4) 0).toNat : Int) != (10 : Int)), d58, d59, d60, d61, d62, d63, d64, d65, d66, d67, d68, d69, d70, d71] [] G
  else
  k (.exit 3) [.ptr (some s0), d1, d2, d3, d4, d5, d6, d7, d8, d9, d10, d11, d12, d13, d14, d15, d16, d17, d18, d19, d20, d21, d22, d23, d24, d25, d26, d27, d28, d29, d30, d31, d32, d33, d34, d35, .ptr (some s0), .ptr (some s0), .ptr (some (GA.add s0 1)), .int .i64 x1, .ptr (some s0), .ptr (some s0), .ptr (some (GA.add s0 0)), .str x2, .int .i64 (x2.length : Int), .bool (decide (x1 < (x2.length : Int))), .bool true, .ptr (some s0), .ptr (some s0), .ptr (some (GA.add s0 0)), .str x3, .ptr (some s0), .ptr (some s0), .ptr (some (GA.add s0 1)), .int .i64 x4, .int .u8 ((x3.getD (Int.toNat x4) 0).toNat : Int), .bool (((x3.getD (Int.toNat x4) 0).toNat : Int) != (10 : Int)), .bool (((x3.getD (Int.toNat x4) 0).toNat : Int) != (10 : Int)), d58, d59, d60, d61, d62, d63, d64, d65, d66, d67, d68, d69, d70, d71] [] G
  else none
  else
  k (.exit 3) [.ptr (some s0), d1, d2, d3, d4, d5, d6, d7, d8, d9, d10, d11, d12, d13, d14, d15, d16, d17, d18, d19, d20, d21, d22, d23, d24, d25, d26, d27, d28, d29, d30, d31, d32, d33, d34, d35, .ptr (some s0), .ptr (some s0), .ptr (some (GA.add s0 1)), .int .i64 x1, .ptr (some s0), .ptr (some s0), .ptr (some (GA.add s0 0)), .str x2, .int .i64 (x2.length : Int), .bool (decide (x1 < (x2.length : Int))), .bool false, .tuple [], .tuple [], .tuple [], .tuple [], .tuple [], .tuple [], .tuple [], .tuple [], .tuple [], .tuple [], .bool false, d58, d59, d60, d61, d62, d63, d64, d65, d66, d67, d68, d69, d70, d71] [] G := by kernel_rfl

theorem c21_4_afterN {R : Type} (O : Ora R) (fuel : Nat) (d1 d2 d3 d4 d5 d6 d7 d8 d9 d10 d11 d12 d13 d14 d15 d16 d17 d18 d19 d20 d21 d22 d23 d24 d25 d26 d27 d28 d29 d30 d31 d32 d33 d34 d35 d36 d37 d38 d39 d40 d41 d42 d43 d44 d45 d46 d47 d48 d49 d50 d51 d52 d53 d54 d55 d56 d57 d58 d59 d60 d61 d62 d63 d64 d65 d66 d67 d68 d69 d70 d71 : IV) (s0 : GA) (G : GH) (k : Ex → List IV → List (List IV) → GH → Option R) :
  contC Try.prog O [] fuel (nav (Try.f21.body.getD .skip) [0, 0, 1, 0, 0, 1, 0, 1, 1, 1, 1, 1, 0, 0, 0, 0]) [0] k .normal [.ptr (some s0), d1, d2, d3, d4, d5, d6, d7, d8, d9, d10, d11, d12, d13, d14, d15, d16, d17, d18, d19, d20, d21, d22, d23, d24, d25, d26, d27, d28, d29, d30, d31, d32, d33, d34, d35, d36, d37, d38, d39, d40, d41, d42, d43, d44, d45, d46, d47, d48, d49, d50, d51, d52, d53, d54, d55, d56, d57, d58, d59, d60, d61, d62, d63, d64, d65, d66, d67, d68, d69, d70, d71] [] G =
  (ldInt G .i64 (GA.add s0 1)).bind fun x1 =>
  (gst G (GA.add s0 1) [.int .i64 (IntKind.wrap .i64 (x1 + (1 : Int)))]).bind fun G2 =>
  k .normal [.ptr (some s0), d1, d2, d3, d4, d5, d6, d7, d8, d9, d10, d11, d12, d13, d14, d15, d16, d17, d18, d19, d20, d21, d22, d23, d24, d25, d26, d27, d28, d29, d30, d31, d32, d33, d34, d35, d36, d37, d38, d39, d40, d41, d42, d43, d44, d45, d46, d47, d48, d49, d50, d51, d52, d53, d54, d55, d56, d57, .ptr (some s0), .ptr (some s0), .ptr (some (GA.add s0 1)), .int .i64 x1, .int .i64 (IntKind.wrap .i64 (x1 + (1 : Int))), .ptr (some s0), .ptr (some (GA.add s0 1)), d65, d66, d67, d68, d69, d70, d71] [] G2 := by kernel_rfl

theorem c21_4_after3 {R : Type} (O : Ora R) (fuel : Nat) (d1 d2 d3 d4 d5 d6 d7 d8 d9 d10 d11 d12 d13 d14 d15 d16 d17 d18 d19 d20 d21 d22 d23 d24 d25 d26 d27 d28 d29 d30 d31 d32 d33 d34 d35 d36 d37 d38 d39 d40 d41 d42 d43 d44 d45 d46 d47 d48 d49 d50 d51 d52 d53 d54 d55 d56 d57 d58 d59 d60 d61 d62 d63 d64 d65 d66 d67 d68 d69 d70 d71 : IV) (s0 : GA) (G : GH) (k : Ex → List IV → List (List IV) → GH → Option R) :
  contC Try.prog O [] fuel (nav (Try.f21.body.getD .skip) [0, 0, 1, 0, 0, 1, 0, 1, 1, 1, 1, 1, 0, 0, 0, 0]) [0] k (.exit 3) [.ptr (some s0), d1, d2, d3, d4, d5, d6, d7, d8, d9, d10, d11, d12, d13, d14, d15, d16, d17, d18, d19, d20, d21, d22, d23, d24, d25, d26, d27, d28, d29, d30, d31, d32, d33, d34, d35, d36, d37, d38, d39, d40, d41, d42, d43, d44, d45, d46, d47, d48, d49, d50, d51, d52, d53, d54, d55, d56, d57, d58, d59, d60, d61, d62, d63, d64, d65, d66, d67, d68, d69, d70, d71] [] G =
  k (.exit 3) [.ptr (some s0), d1, d2, d3, d4, d5, d6, d7, d8, d9, d10, d11, d12, d13, d14, d15, d16, d17, d18, d19, d20, d21, d22, d23, d24, d25, d26, d27, d28, d29, d30, d31, d32, d33, d34, d35, d36, d37, d38, d39, d40, d41, d42, d43, d44, d45, d46, d47, d48, d49, d50, d51, d52, d53, d54, d55, d56, d57, d58, d59, d60, d61, d62, d63, d64, d65, d66, d67, d68, d69, d70, d71] [] G := by kernel_rfl

theorem c21_4_eq {R : Type} (O : Ora R) (fuel : Nat) (k : Ex → List IV → List (List IV) → GH → Option R) (HN : GA → GH → Option R) (hN : ∀ (d1 d2 d3 d4 d5 d6 d7 d8 d9 d10 d11 d12 d13 d14 d15 d16 d17 d18 d19 d20 d21 d22 d23 d24 d25 d26 d27 d28 d29 d30 d31 d32 d33 d34 d35 d36 d37 d38 d39 d40 d41 d42 d43 d44 d45 d46 d47 d48 d49 d50 d51 d52 d53 d54 d55 d56 d57 d58 d59 d60 d61 d62 d63 d64 d65 d66 d67 d68 d69 d70 d71 : IV) (s0 : GA) (G : GH), k .normal [.ptr (some s0), d1, d2, d3, d4, d5, d6, d7, d8, d9, d10, d11, d12, d13, d14, d15, d16, d17, d18, d19, d20, d21, d22, d23, d24, d25, d26, d27, d28, d29, d30, d31, d32, d33, d34, d35, d36, d37, d38, d39, d40, d41, d42, d43, d44, d45, d46, d47, d48, d49, d50, d51, d52, d53, d54, d55, d56, d57, d58, d59, d60, d61, d62, d63, d64, d65, d66, d67, d68, d69, d70, d71] [] G = HN s0 G) (H3 : GA → GH → Option R) (h3 : ∀ (d1 d2 d3 d4 d5 d6 d7 d8 d9 d10 d11 d12 d13 d14 d15 d16 d17 d18 d19 d20 d21 d22 d23 d24 d25 d26 d27 d28 d29 d30 d31 d32 d33 d34 d35 d36 d37 d38 d39 d40 d41 d42 d43 d44 d45 d46 d47 d48 d49 d50 d51 d52 d53 d54 d55 d56 d57 d58 d59 d60 d61 d62 d63 d64 d65 d66 d67 d68 d69 d70 d71 : IV) (s0 : GA) (G : GH), k (.exit 3) [.ptr (some s0), d1, d2, d3, d4, d5, d6, d7, d8, d9, d10, d11, d12, d13, d14, d15, d16, d17, d18, d19, d20, d21, d22, d23, d24, d25, d26, d27, d28, d29, d30, d31, d32, d33, d34, d35, d36, d37, d38, d39, d40, d41, d42, d43, d44, d45, d46, d47, d48, d49, d50, d51, d52, d53, d54, d55, d56, d57, d58, d59, d60, d61, d62, d63, d64, d65, d66, d67, d68, d69, d70, d71] [] G = H3 s0 G) : ∀ (d1 d2 d3 d4 d5 d6 d7 d8 d9 d10 d11 d12 d13 d14 d15 d16 d17 d18 d19 d20 d21 d22 d23 d24 d25 d26 d27 d28 d29 d30 d31 d32 d33 d34 d35 d36 d37 d38 d39 d40 d41 d42 d43 d44 d45 d46 d47 d48 d49 d50 d51 d52 d53 d54 d55 d56 d57 d58 d59 d60 d61 d62 d63 d64 d65 d66 d67 d68 d69 d70 d71 : IV) (s0 : GA) (G : GH),
  codeC Try.prog O [] fuel (nav (Try.f21.body.getD .skip) [0, 0, 1, 0, 0, 1, 0, 1, 1, 1, 1, 1, 0, 0, 0, 0, 0]) [.ptr (some s0), d1, d2, d3, d4, d5, d6, d7, d8, d9, d10, d11, d12, d13, d14, d15, d16, d17, d18, d19, d20, d21, d22, d23, d24, d25, d26, d27, d28, d29, d30, d31, d32, d33, d34, d35, d36, d37, d38, d39, d40, d41, d42, d43, d44, d45, d46, d47, d48, d49, d50, d51, d52, d53, d54, d55, d56, d57, d58, d59, d60, d61, d62, d63, d64, d65, d66, d67, d68, d69, d70, d71] [] G (contC Try.prog O [] fuel (nav (Try.f21.body.getD .skip) [0, 0, 1, 0, 0, 1, 0, 1, 1, 1, 1, 1, 0, 0, 0, 0]) [0] k) =
  c21_4 O (fun (s0 : GA) G => (ldInt G .i64 (GA.add s0 1)).bind fun x1 =>
(gst G (GA.add s0 1) [.int .i64 (IntKind.wrap .i64 (x1 + (1 : Int)))]).bind fun G2 =>
  HN s0 G2) (fun (s0 : GA) G => H3 s0 G)  s0 G := by
    intros
    rw [c21_4_body]
    simp only [c21_4, c21_4_afterN, c21_4_after3, hN, h3]

def l21_3 {R : Type} (O : Ora R) (K3 : GA → GH → Option R) (fuel : Nat) : Nat → GA → GH → Option R
  | 0, _, _ => none
  | n + 1, s0, G =>
  stepN fuel (c21_4 O (fun (s0 : GA) G => (ldInt G .i64 (GA.add s0 1)).bind fun x1 =>
  (gst G (GA.add s0 1) [.int .i64 (IntKind.wrap .i64 (x1 + (1 : Int)))]).bind fun G2 =>
  l21_3 O K3 fuel n s0 G2) (fun (s0 : GA) G => K3 s0 G) s0 G)

theorem l21_3_body {R : Type} (O : Ora R) (fuel : Nat) (d1 d2 d3 d4 d5 d6 d7 d8 d9 d10 d11 d12 d13 d14 d15 d16 d17 d18 d19 d20 d21 d22 d23 d24 d25 d26 d27 d28 d29 d30 d31 d32 d33 d34 d35 d36 d37 d38 d39 d40 d41 d42 d43 d44 d45 d46 d47 d48 d49 d50 d51 d52 d53 d54 d55 d56 d57 d58 d59 d60 d61 d62 d63 d64 d65 d66 d67 d68 d69 d70 d71 : IV) (s0 : GA) (G : GH) (k : Ex → List IV → List (List IV) → GH → Option R) :
  codeC Try.prog O [] fuel (nav (Try.f21.body.getD .skip) [0, 0, 1, 0, 0, 1, 0, 1, 1, 1, 1, 1, 0, 0, 0, 0]) [.ptr (some s0), d1, d2, d3, d4, d5, d6, d7, d8, d9, d10, d11, d12, d13, d14, d15, d16, d17, d18, d19, d20, d21, d22, d23, d24, d25, d26, d27, d28, d29, d30, d31, d32, d33, d34, d35, d36, d37, d38, d39, d40, d41, d42, d43, d44, d45, d46, d47, d48, d49, d50, d51, d52, d53, d54, d55, d56, d57, d58, d59, d60, d61, d62, d63, d64, d65, d66, d67, d68, d69, d70, d71] [] G k =
  stepN fuel (codeC Try.prog O [] fuel (nav (Try.f21.body.getD .skip) [0, 0, 1, 0, 0, 1, 0, 1, 1, 1, 1, 1, 0, 0, 0, 0, 0]) [.ptr (some s0), d1, d2, d3, d4, d5, d6, d7, d8, d9, d10, d11, d12, d13, d14, d15, d16, d17, d18, d19, d20, d21, d22, d23, d24, d25, d26, d27, d28, d29, d30, d31, d32, d33, d34, d35, d36, d37, d38, d39, d40, d41, d42, d43, d44, d45, d46, d47, d48, d49, d50, d51, d52, d53, d54, d55, d56, d57, d58, d59, d60, d61, d62, d63, d64, d65, d66, d67, d68, d69, d70, d71] [] G (contC Try.prog O [] fuel (nav (Try.f21.body.getD .skip) [0, 0, 1, 0, 0, 1, 0, 1, 1, 1, 1, 1, 0, 0, 0, 0]) [0] k)) := by kernel_rfl

theorem l21_3_after3 {R : Type} (O : Ora R) (fuel : Nat) (d1 d2 d3 d4 d5 d6 d7 d8 d9 d10 d11 d12 d13 d14 d15 d16 d17 d18 d19 d20 d21 d22 d23 d24 d25 d26 d27 d28 d29 d30 d31 d32 d33 d34 d35 d36 d37 d38 d39 d40 d41 d42 d43 d44 d45 d46 d47 d48 d49 d50 d51 d52 d53 d54 d55 d56 d57 d58 d59 d60 d61 d62 d63 d64 d65 d66 d67 d68 d69 d70 d71 : IV) (s0 : GA) (G : GH) (k : Ex → List IV → List (List IV) → GH → Option R) :
  contC Try.prog O [] fuel (nav (Try.f21.body.getD .skip) [0, 0, 1, 0, 0]) [1, 0, 1, 1, 1, 1, 1, 0, 0, 0] k (.exit 3) [.ptr (some s0), d1, d2, d3, d4, d5, d6, d7, d8, d9, d10, d11, d12, d13, d14, d15, d16, d17, d18, d19, d20, d21, d22, d23, d24, d25, d26, d27, d28, d29, d30, d31, d32, d33, d34, d35, d36, d37, d38, d39, d40, d41, d42, d43, d44, d45, d46, d47, d48, d49, d50, d51, d52, d53, d54, d55, d56, d57, d58, d59, d60, d61, d62, d63, d64, d65, d66, d67, d68, d69, d70, d71] [] G =
  k (.exit 1) [.ptr (some s0), d1, d2, d3, d4, d5, d6, d7, d8, d9, d10, d11, d12, d13, d14, d15, d16, d17, d18, d19, d20, d21, d22, d23, d24, d25, d26, d27, d28, d29, d30, d31, d32, d33, d34, d35, d36, d37, d38, d39, d40, d41, d42, d43, d44, d45, d46, d47, d48, d49, d50, d51, d52, d53, d54, d55, d56, d57, d58, d59, d60, d61, d62, d63, d64, d65, d66, d67, d68, d69, d70, d71] [] G := by kernel_rfl

theorem l21_3_eq {R : Type} (O : Ora R) (fuel : Nat) (k : Ex → List IV → List (List IV) → GH → Option R) (HN : GA → GH → Option R) (hN : ∀ (d1 d2 d3 d4 d5 d6 d7 d8 d9 d10 d11 d12 d13 d14 d15 d16 d17 d18 d19 d20 d21 d22 d23 d24 d25 d26 d27 d28 d29 d30 d31 d32 d33 d34 d35 d36 d37 d38 d39 d40 d41 d42 d43 d44 d45 d46 d47 d48 d49 d50 d51 d52 d53 d54 d55 d56 d57 d58 d59 d60 d61 d62 d63 d64 d65 d66 d67 d68 d69 d70 d71 : IV) (s0 : GA) (G : GH), k .normal [.ptr (some s0), d1, d2, d3, d4, d5, d6, d7, d8, d9, d10, d11, d12, d13, d14, d15, d16, d17, d18, d19, d20, d21, d22, d23, d24, d25, d26, d27, d28, d29, d30, d31, d32, d33, d34, d35, d36, d37, d38, d39, d40, d41, d42, d43, d44, d45, d46, d47, d48, d49, d50, d51, d52, d53, d54, d55, d56, d57, d58, d59, d60, d61, d62, d63, d64, d65, d66, d67, d68, d69, d70, d71] [] G = HN s0 G) (H1 : GA → GH → Option R) (h1 : ∀ (d1 d2 d3 d4 d5 d6 d7 d8 d9 d10 d11 d12 d13 d14 d15 d16 d17 d18 d19 d20 d21 d22 d23 d24 d25 d26 d27 d28 d29 d30 d31 d32 d33 d34 d35 d36 d37 d38 d39 d40 d41 d42 d43 d44 d45 d46 d47 d48 d49 d50 d51 d52 d53 d54 d55 d56 d57 d58 d59 d60 d61 d62 d63 d64 d65 d66 d67 d68 d69 d70 d71 : IV) (s0 : GA) (G : GH), k (.exit 1) [.ptr (some s0), d1, d2, d3, d4, d5, d6, d7, d8, d9, d10, d11, d12, d13, d14, d15, d16, d17, d18, d19, d20, d21, d22, d23, d24, d25, d26, d27, d28, d29, d30, d31, d32, d33, d34, d35, d36, d37, d38, d39, d40, d41, d42, d43, d44, d45, d46, d47, d48, d49, d50, d51, d52, d53, d54, d55, d56, d57, d58, d59, d60, d61, d62, d63, d64, d65, d66, d67, d68, d69, d70, d71] [] G = H1 s0 G) (Hret : GH → Option R) (hret : ∀ (d0 d1 d2 d3 d4 d5 d6 d7 d8 d9 d10 d11 d12 d13 d14 d15 d16 d17 d18 d19 d20 d21 d22 d23 d24 d25 d26 d27 d28 d29 d30 d31 d32 d33 d34 d35 d36 d37 d38 d39 d40 d41 d42 d43 d44 d45 d46 d47 d48 d49 d50 d51 d52 d53 d54 d55 d56 d57 d58 d59 d60 d61 d62 d63 d64 d65 d66 d67 d68 d69 d70 d71 : IV)  (G : GH), k .ret [d0, d1, d2, d3, d4, d5, d6, d7, d8, d9, d10, d11, d12, d13, d14, d15, d16, d17, d18, d19, d20, d21, d22, d23, d24, d25, d26, d27, d28, d29, d30, d31, d32, d33, d34, d35, d36, d37, d38, d39, d40, d41, d42, d43, d44, d45, d46, d47, d48, d49, d50, d51, d52, d53, d54, d55, d56, d57, d58, d59, d60, d61, d62, d63, d64, d65, d66, d67, d68, d69, d70, d71] [] G = Hret G) : ∀ (n : Nat) (d1 d2 d3 d4 d5 d6 d7 d8 d9 d10 d11 d12 d13 d14 d15 d16 d17 d18 d19 d20 d21 d22 d23 d24 d25 d26 d27 d28 d29 d30 d31 d32 d33 d34 d35 d36 d37 d38 d39 d40 d41 d42 d43 d44 d45 d46 d47 d48 d49 d50 d51 d52 d53 d54 d55 d56 d57 d58 d59 d60 d61 d62 d63 d64 d65 d66 d67 d68 d69 d70 d71 : IV) (s0 : GA) (G : GH),
  loopN (fun env F G k => codeC Try.prog O [] fuel (nav (Try.f21.body.getD .skip) [0, 0, 1, 0, 0, 1, 0, 1, 1, 1, 1, 1, 0, 0, 0, 0]) env F G k) n [.ptr (some s0), d1, d2, d3, d4, d5, d6, d7, d8, d9, d10, d11, d12, d13, d14, d15, d16, d17, d18, d19, d20, d21, d22, d23, d24, d25, d26, d27, d28, d29, d30, d31, d32, d33, d34, d35, d36, d37, d38, d39, d40, d41, d42, d43, d44, d45, d46, d47, d48, d49, d50, d51, d52, d53, d54, d55, d56, d57, d58, d59, d60, d61, d62, d63, d64, d65, d66, d67, d68, d69, d70, d71] [] G (contC Try.prog O [] fuel (nav (Try.f21.body.getD .skip) [0, 0, 1, 0, 0]) [1, 0, 1, 1, 1, 1, 1, 0, 0, 0] k) =
  l21_3 O (fun (s0 : GA) G => H1 s0 G) fuel n s0 G := by
  intro n
  induction n with
  | zero => intros; rfl
  | succ n ih =>
    intros
    have hin0 := c21_4_eq (R := R) O fuel (loopK (fun env F G k => codeC Try.prog O [] fuel (nav (Try.f21.body.getD .skip) [0, 0, 1, 0, 0, 1, 0, 1, 1, 1, 1, 1, 0, 0, 0, 0]) env F G k) n (contC Try.prog O [] fuel (nav (Try.f21.body.getD .skip) [0, 0, 1, 0, 0]) [1, 0, 1, 1, 1, 1, 1, 0, 0, 0] k)) (fun (s0 : GA) G => l21_3 O (fun (s0 : GA) G => H1 s0 G) fuel n s0 G) (by intros; simp only [loopK_normal, loopK_exit, loopK_ret, ih, l21_3_after3, hN, h1, hret]) (fun (s0 : GA) G => H1 s0 G) (by intros; simp only [loopK_normal, loopK_exit, loopK_ret, ih, l21_3_after3, hN, h1, hret])
    rw [loopN_succ, l21_3_body]
    simp only [l21_3, loopK_normal, loopK_exit, loopK_ret, ih, l21_3_after3, hN, h1, hret, hin0]

def c21_2 {R : Type} (O : Ora R) (KN : GA → Int → Bool → GH → Option R) (s0 : GA) (s20 : Int) (G : GH) : Option R :=
  bif (s20 == (32 : Int)) then
  KN s0 s20 (s20 == (32 : Int)) G
  else
  bif (s20 == (9 : Int)) then
  KN s0 s20 (s20 == (9 : Int)) G
  else
  KN s0 s20 (s20 == (13 : Int)) G

theorem c21_2_body {R : Type} (O : Ora R) (fuel : Nat) (d1 d2 d3 d4 d5 d6 d7 d8 d9 d10 d11 d12 d13 d14 d15 d16 d17 d18 d19 d21 d22 d23 d24 d25 d26 d27 d28 d29 d30 d31 d32 d33 d34 d35 d36 d37 d38 d39 d40 d41 d42 d43 d44 d45 d46 d47 d48 d49 d50 d51 d52 d53 d54 d55 d56 d57 d58 d59 d60 d61 d62 d63 d64 d65 d66 d67 d68 d69 d70 d71 : IV) (s0 : GA) (s20 : Int) (G : GH) (k : Ex → List IV → List (List IV) → GH → Option R) :
  codeC Try.prog O [] fuel (nav (Try.f21.body.getD .skip) [0, 0, 1, 0, 0, 1, 0, 1, 1, 0]) [.ptr (some s0), d1, d2, d3, d4, d5, d6, d7, d8, d9, d10, d11, d12, d13, d14, d15, d16, d17, d18, d19, .int .u8 s20, d21, d22, d23, d24, d25, d26, d27, d28, d29, d30, d31, d32, d33, d34, d35, d36, d37, d38, d39, d40, d41, d42, d43, d44, d45, d46, d47, d48, d49, d50, d51, d52, d53, d54, d55, d56, d57, d58, d59, d60, d61, d62, d63, d64, d65, d66, d67, d68, d69, d70, d71] [] G k =
  bif (s20 == (32 : Int)) then
  k .normal [.ptr (some s0), d1, d2, d3, d4, d5, d6, d7, d8, d9, d10, d11, d12, d13, d14, d15, d16, d17, d18, d19, .int .u8 s20, d21, d22, d23, d24, d25, d26, d27, d28, d29, .bool (s20 == (32 : Int)), .bool (s20 == (32 : Int)), d32, d33, d34, d35, d36, d37, d38, d39, d40, d41, d42, d43, d44, d45, d46, d47, d48, d49, d50, d51, d52, d53, d54, d55, d56, d57, d58, d59, d60, d61, d62, d63, d64, d65, d66, d67, d68, d69, d70, d71] [] G
  else
  bif (s20 == (9 : Int)) then
  k .normal [.ptr (some s0), d1, d2, d3, d4, d5, d6, d7, d8, d9, d10, d11, d12, d13, d14, d15, d16, d17, d18, d19, .int .u8 s20, d21, d22, d23, d24, d25, d26, d27, d28, d29, .bool (s20 == (9 : Int)), .bool (s20 == (32 : Int)), .bool (s20 == (9 : Int)), d33, d34, d35, d36, d37, d38, d39, d40, d41, d42, d43, d44, d45, d46, d47, d48, d49, d50, d51, d52, d53, d54, d55, d56, d57, d58, d59, d60, d61, d62, d63, d64, d65, d66, d67, d68, d69, d70, d71] [] G
  else
  k .normal [.ptr (some s0), d1, d2, d3, d4, d5, d6, d7, d8, d9, d10, d11, d12, d13, d14, d15, d16, d17, d18, d19, .int .u8 s20, d21, d22, d23, d24, d25, d26, d27, d28, d29, .bool (s20 == (13 : Int)), .bool (s20 == (32 : Int)), .bool (s20 == (9 : Int)), .bool (s20 == (13 : Int)), d34, d35, d36, d37, d38, d39, d40, d41, d42, d43, d44, d45, d46, d47, d48, d49, d50, d51, d52, d53, d54, d55, d56, d57, d58, d59, d60, d61, d62, d63, d64, d65, d66, d67, d68, d69, d70, d71] [] G := by kernel_rfl

theorem c21_2_afterN {R : Type} (O : Ora R) (fuel : Nat) (d1 d2 d3 d4 d5 d6 d7 d8 d9 d10 d11 d12 d13 d14 d15 d16 d17 d18 d19 d21 d22 d23 d24 d25 d26 d27 d28 d29 d31 d32 d33 d34 d35 d36 d37 d38 d39 d40 d41 d42 d43 d44 d45 d46 d47 d48 d49 d50 d51 d52 d53 d54 d55 d56 d57 d58 d59 d60 d61 d62 d63 d64 d65 d66 d67 d68 d69 d70 d71 : IV) (s0 : GA) (s20 : Int) (s30 : Bool) (G : GH) (k : Ex → List IV → List (List IV) → GH → Option R) :
  contC Try.prog O [] fuel (nav (Try.f21.body.getD .skip) [0, 0, 1, 0, 0]) [1, 0, 1, 1, 0] k .normal [.ptr (some s0), d1, d2, d3, d4, d5, d6, d7, d8, d9, d10, d11, d12, d13, d14, d15, d16, d17, d18, d19, .int .u8 s20, d21, d22, d23, d24, d25, d26, d27, d28, d29, .bool s30, d31, d32, d33, d34, d35, d36, d37, d38, d39, d40, d41, d42, d43, d44, d45, d46, d47, d48, d49, d50, d51, d52, d53, d54, d55, d56, d57, d58, d59, d60, d61, d62, d63, d64, d65, d66, d67, d68, d69, d70, d71] [] G =
  bif s30 then
  k .normal [.ptr (some s0), d1, d2, d3, d4, d5, d6, d7, d8, d9, d10, d11, d12, d13, d14, d15, d16, d17, d18, d19, .int .u8 s20, d21, d22, d23, d24, d25, d26, d27, d28, d29, .bool s30, d31, d32, d33, d34, d35, d36, d37, d38, d39, d40, d41, d42, d43, d44, d45, d46, d47, d48, d49, d50, d51, d52, d53, d54, d55, d56, d57, d58, d59, d60, d61, d62, d63, d64, d65, d66, d67, d68, d69, d70, d71] [] G
  else
  bif (s20 == (35 : Int)) then
  loopN (fun env F G k => codeC Try.prog O [] fuel (nav (Try.f21.body.getD .skip) [0, 0, 1, 0, 0, 1, 0, 1, 1, 1, 1, 1, 0, 0, 0, 0]) env F G k) fuel [.ptr (some s0), d1, d2, d3, d4, d5, d6, d7, d8, d9, d10, d11, d12, d13, d14, d15, d16, d17, d18, d19, .int .u8 s20, d21, d22, d23, d24, d25, d26, d27, d28, d29, .bool s30, d31, d32, d33, .bool (s20 == (35 : Int)), .bool (s20 == (35 : Int)), d36, d37, d38, d39, d40, d41, d42, d43, d44, d45, d46, d47, d48, d49, d50, d51, d52, d53, d54, d55, d56, d57, d58, d59, d60, d61, d62, d63, d64, d65, d66, d67, d68, d69, d70, d71] [] G (contC Try.prog O [] fuel (nav (Try.f21.body.getD .skip) [0, 0, 1, 0, 0]) [1, 0, 1, 1, 1, 1, 1, 0, 0, 0] k)
  else
  k .ret [.ptr (some s0), d1, d2, d3, d4, d5, d6, d7, d8, d9, d10, d11, d12, d13, d14, d15, d16, d17, d18, d19, .int .u8 s20, d21, d22, d23, d24, d25, d26, d27, d28, d29, .bool s30, d31, d32, d33, .bool (s20 == (35 : Int)), .bool (s20 == (35 : Int)), d36, d37, d38, d39, d40, d41, d42, d43, d44, d45, d46, d47, d48, d49, d50, d51, d52, d53, d54, d55, d56, d57, d58, d59, d60, d61, d62, d63, d64, d65, d66, d67, d68, d69, d70, d71] [] G := by kernel_rfl

theorem c21_2_eq {R : Type} (O : Ora R) (fuel : Nat) (k : Ex → List IV → List (List IV) → GH → Option R) (HN : GA → GH → Option R) (hN : ∀ (d1 d2 d3 d4 d5 d6 d7 d8 d9 d10 d11 d12 d13 d14 d15 d16 d17 d18 d19 d20 d21 d22 d23 d24 d25 d26 d27 d28 d29 d30 d31 d32 d33 d34 d35 d36 d37 d38 d39 d40 d41 d42 d43 d44 d45 d46 d47 d48 d49 d50 d51 d52 d53 d54 d55 d56 d57 d58 d59 d60 d61 d62 d63 d64 d65 d66 d67 d68 d69 d70 d71 : IV) (s0 : GA) (G : GH), k .normal [.ptr (some s0), d1, d2, d3, d4, d5, d6, d7, d8, d9, d10, d11, d12, d13, d14, d15, d16, d17, d18, d19, d20, d21, d22, d23, d24, d25, d26, d27, d28, d29, d30, d31, d32, d33, d34, d35, d36, d37, d38, d39, d40, d41, d42, d43, d44, d45, d46, d47, d48, d49, d50, d51, d52, d53, d54, d55, d56, d57, d58, d59, d60, d61, d62, d63, d64, d65, d66, d67, d68, d69, d70, d71] [] G = HN s0 G) (H1 : GA → GH → Option R) (h1 : ∀ (d1 d2 d3 d4 d5 d6 d7 d8 d9 d10 d11 d12 d13 d14 d15 d16 d17 d18 d19 d20 d21 d22 d23 d24 d25 d26 d27 d28 d29 d30 d31 d32 d33 d34 d35 d36 d37 d38 d39 d40 d41 d42 d43 d44 d45 d46 d47 d48 d49 d50 d51 d52 d53 d54 d55 d56 d57 d58 d59 d60 d61 d62 d63 d64 d65 d66 d67 d68 d69 d70 d71 : IV) (s0 : GA) (G : GH), k (.exit 1) [.ptr (some s0), d1, d2, d3, d4, d5, d6, d7, d8, d9, d10, d11, d12, d13, d14, d15, d16, d17, d18, d19, d20, d21, d22, d23, d24, d25, d26, d27, d28, d29, d30, d31, d32, d33, d34, d35, d36, d37, d38, d39, d40, d41, d42, d43, d44, d45, d46, d47, d48, d49, d50, d51, d52, d53, d54, d55, d56, d57, d58, d59, d60, d61, d62, d63, d64, d65, d66, d67, d68, d69, d70, d71] [] G = H1 s0 G) (Hret : GH → Option R) (hret : ∀ (d0 d1 d2 d3 d4 d5 d6 d7 d8 d9 d10 d11 d12 d13 d14 d15 d16 d17 d18 d19 d20 d21 d22 d23 d24 d25 d26 d27 d28 d29 d30 d31 d32 d33 d34 d35 d36 d37 d38 d39 d40 d41 d42 d43 d44 d45 d46 d47 d48 d49 d50 d51 d52 d53 d54 d55 d56 d57 d58 d59 d60 d61 d62 d63 d64 d65 d66 d67 d68 d69 d70 d71 : IV)  (G : GH), k .ret [d0, d1, d2, d3, d4, d5, d6, d7, d8, d9, d10, d11, d12, d13, d14, d15, d16, d17, d18, d19, d20, d21, d22, d23, d24, d25, d26, d27, d28, d29, d30, d31, d32, d33, d34, d35, d36, d37, d38, d39, d40, d41, d42, d43, d44, d45, d46, d47, d48, d49, d50, d51, d52, d53, d54, d55, d56, d57, d58, d59, d60, d61, d62, d63, d64, d65, d66, d67, d68, d69, d70, d71] [] G = Hret G) : ∀ (d1 d2 d3 d4 d5 d6 d7 d8 d9 d10 d11 d12 d13 d14 d15 d16 d17 d18 d19 d21 d22 d23 d24 d25 d26 d27 d28 d29 d30 d31 d32 d33 d34 d35 d36 d37 d38 d39 d40 d41 d42 d43 d44 d45 d46 d47 d48 d49 d50 d51 d52 d53 d54 d55 d56 d57 d58 d59 d60 d61 d62 d63 d64 d65 d66 d67 d68 d69 d70 d71 : IV) (s0 : GA) (s20 : Int) (G : GH),
  codeC Try.prog O [] fuel (nav (Try.f21.body.getD .skip) [0, 0, 1, 0, 0, 1, 0, 1, 1, 0]) [.ptr (some s0), d1, d2, d3, d4, d5, d6, d7, d8, d9, d10, d11, d12, d13, d14, d15, d16, d17, d18, d19, .int .u8 s20, d21, d22, d23, d24, d25, d26, d27, d28, d29, d30, d31, d32, d33, d34, d35, d36, d37, d38, d39, d40, d41, d42, d43, d44, d45, d46, d47, d48, d49, d50, d51, d52, d53, d54, d55, d56, d57, d58, d59, d60, d61, d62, d63, d64, d65, d66, d67, d68, d69, d70, d71] [] G (contC Try.prog O [] fuel (nav (Try.f21.body.getD .skip) [0, 0, 1, 0, 0]) [1, 0, 1, 1, 0] k) =
  c21_2 O (fun (s0 : GA) (s20 : Int) (s30 : Bool) G => bif s30 then
  HN s0 G
else
  bif (s20 == (35 : Int)) then
  l21_3 O (fun (s0 : GA) G => H1 s0 G) fuel fuel s0 G
else
  Hret G)  s0 s20 G := by
    intros
    rw [c21_2_body]
    simp only [c21_2, c21_2_afterN, hN, h1, hret, l21_3_eq O fuel k HN hN H1 h1 Hret hret]

def c21_1 {R : Type} (O : Ora R) (KN : GA → GH → Option R) (K1 : GA → GH → Option R) (Kret : GH → Option R) (fuel : Nat) (s0 : GA) (G : GH) : Option R :=
  (ldStr G (GA.add s0 0)).bind fun x1 =>
  (ldInt G .i64 (GA.add s0 1)).bind fun x2 =>
  bif decide (0 ≤ x2 ∧ x2 < (x1.length : Int)) then
  bif (((x1.getD (Int.toNat x2) 0).toNat : Int) == (10 : Int)) then
  (ldInt G .i64 (GA.add s0 2)).bind fun x3 =>
  (gst G (GA.add s0 2) [.int .i64 (IntKind.wrap .i64 (x3 + (1 : Int)))]).bind fun G4 =>
  KN s0 G4
  else
  stepN fuel (c21_2 O (fun (s0 : GA) (s20 : Int) (s30 : Bool) G => bif s30 then
  KN s0 G
  else
  bif (s20 == (35 : Int)) then
  l21_3 O (fun (s0 : GA) G => K1 s0 G) fuel fuel s0 G
  else
  Kret G) s0 ((x1.getD (Int.toNat x2) 0).toNat : Int) G)
  else none

theorem c21_1_body {R : Type} (O : Ora R) (fuel : Nat) (d1 d2 d3 d4 d5 d6 d7 d8 d9 d10 d11 d12 d13 d14 d15 d16 d17 d18 d19 d20 d21 d22 d23 d24 d25 d26 d27 d28 d29 d30 d31 d32 d33 d34 d35 d36 d37 d38 d39 d40 d41 d42 d43 d44 d45 d46 d47 d48 d49 d50 d51 d52 d53 d54 d55 d56 d57 d58 d59 d60 d61 d62 d63 d64 d65 d66 d67 d68 d69 d70 d71 : IV) (s0 : GA) (G : GH) (k : Ex → List IV → List (List IV) → GH → Option R) :
  codeC Try.prog O [] fuel (nav (Try.f21.body.getD .skip) [0, 0, 1, 0, 0]) [.ptr (some s0), d1, d2, d3, d4, d5, d6, d7, d8, d9, d10, d11, d12, d13, d14, d15, d16, d17, d18, d19, d20, d21, d22, d23, d24, d25, d26, d27, d28, d29, d30, d31, d32, d33, d34, d35, d36, d37, d38, d39, d40, d41, d42, d43, d44, d45, d46, d47, d48, d49, d50, d51, d52, d53, d54, d55, d56, d57, d58, d59, d60, d61, d62, d63, d64, d65, d66, d67, d68, d69, d70, d71] [] G k =
  (ldStr G (GA.add s0 0)).bind fun x1 =>
  (ldInt G .i64 (GA.add s0 1)).bind fun x2 =>
  bif decide (0 ≤ x2 ∧ x2 < (x1.length : Int)) then
  bif (((x1.getD (Int.toNat x2) 0).toNat : Int) == (10 : Int)) then
  (ldInt G .i64 (GA.add s0 2)).bind fun x3 =>
  (gst G (GA.add s0 2) [.int .i64 (IntKind.wrap .i64 (x3 + (1 : Int)))]).bind fun G4 =>
  k .normal [.ptr (some s0), d1, d2, d3, d4, d5, d6, d7, d8, d9, d10, d11, .ptr (some s0), .ptr (some s0), .ptr (some (GA.add s0 0)), .str x1, .ptr (some s0), .ptr (some s0), .ptr (some (GA.add s0 1)), .int .i64 x2, .int .u8 ((x1.getD (Int.toNat x2) 0).toNat : Int), .bool (((x1.getD (Int.toNat x2) 0).toNat : Int) == (10 : Int)), .bool (((x1.getD (Int.toNat x2) 0).toNat : Int) == (10 : Int)), .ptr (some s0), .ptr (some s0), .ptr (some (GA.add s0 2)), .int .i64 x3, .int .i64 (IntKind.wrap .i64 (x3 + (1 : Int))), .ptr (some s0), .ptr (some (GA.add s0 2)), d30, d31, d32, d33, d34, d35, d36, d37, d38, d39, d40, d41, d42, d43, d44, d45, d46, d47, d48, d49, d50, d51, d52, d53, d54, d55, d56, d57, d58, d59, d60, d61, d62, d63, d64, d65, d66, d67, d68, d69, d70, d71] [] G4
  else
  stepN fuel (codeC Try.prog O [] fuel (nav (Try.f21.body.getD .skip) [0, 0, 1, 0, 0, 1, 0, 1, 1, 0]) [.ptr (some s0), d1, d2, d3, d4, d5, d6, d7, d8, d9, d10, d11, .ptr (some s0), .ptr (some s0), .ptr (some (GA.add s0 0)), .str x1, .ptr (some s0), .ptr (some s0), .ptr (some (GA.add s0 1)), .int .i64 x2, .int .u8 ((x1.getD (Int.toNat x2) 0).toNat : Int), .bool (((x1.getD (Int.toNat x2) 0).toNat : Int) == (10 : Int)), .bool (((x1.getD (Int.toNat x2) 0).toNat : Int) == (10 : Int)), d23, d24, d25, d26, d27, d28, d29, d30, d31, d32, d33, d34, d35, d36, d37, d38, d39, d40, d41, d42, d43, d44, d45, d46, d47, d48, d49, d50, d51, d52, d53, d54, d55, d56, d57, d58, d59, d60, d61, d62, d63, d64, d65, d66, d67, d68, d69, d70, d71] [] G (contC Try.prog O [] fuel (nav (Try.f21.body.getD .skip) [0, 0, 1, 0, 0]) [1, 0, 1, 1, 0] k))
  else none := by kernel_rfl

theorem c21_1_afterN {R : Type} (O : Ora R) (fuel : Nat) (d1 d2 d3 d4 d5 d6 d7 d8 d9 d10 d11 d12 d13 d14 d15 d16 d17 d18 d19 d20 d21 d22 d23 d24 d25 d26 d27 d28 d29 d30 d31 d32 d33 d34 d35 d36 d37 d38 d39 d40 d41 d42 d43 d44 d45 d46 d47 d48 d49 d50 d51 d52 d53 d54 d55 d56 d57 d58 d59 d60 d61 d62 d63 d64 d65 d66 d67 d68 d69 d70 d71 : IV) (s0 : GA) (G : GH) (k : Ex → List IV → List (List IV) → GH → Option R) :
  contC Try.prog O [] fuel (nav (Try.f21.body.getD .skip) [0, 0]) [1, 0, 0] k .normal [.ptr (some s0), d1, d2, d3, d4, d5, d6, d7, d8, d9, d10, d11, d12, d13, d14, d15, d16, d17, d18, d19, d20, d21, d22, d23, d24, d25, d26, d27, d28, d29, d30, d31, d32, d33, d34, d35, d36, d37, d38, d39, d40, d41, d42, d43, d44, d45, d46, d47, d48, d49, d50, d51, d52, d53, d54, d55, d56, d57, d58, d59, d60, d61, d62, d63, d64, d65, d66, d67, d68, d69, d70, d71] [] G =
  (ldInt G .i64 (GA.add s0 1)).bind fun x1 =>
  (gst G (GA.add s0 1) [.int .i64 (IntKind.wrap .i64 (x1 + (1 : Int)))]).bind fun G2 =>
  k .normal [.ptr (some s0), d1, d2, d3, d4, d5, d6, d7, d8, d9, d10, d11, d12, d13, d14, d15, d16, d17, d18, d19, d20, d21, d22, d23, d24, d25, d26, d27, d28, d29, d30, d31, d32, d33, d34, d35, d36, d37, d38, d39, d40, d41, d42, d43, d44, d45, d46, d47, d48, d49, d50, d51, d52, d53, d54, d55, d56, d57, d58, d59, d60, d61, d62, d63, d64, .ptr (some s0), .ptr (some s0), .ptr (some (GA.add s0 1)), .int .i64 x1, .int .i64 (IntKind.wrap .i64 (x1 + (1 : Int))), .ptr (some s0), .ptr (some (GA.add s0 1))] [] G2 := by kernel_rfl

theorem c21_1_after1 {R : Type} (O : Ora R) (fuel : Nat) (d1 d2 d3 d4 d5 d6 d7 d8 d9 d10 d11 d12 d13 d14 d15 d16 d17 d18 d19 d20 d21 d22 d23 d24 d25 d26 d27 d28 d29 d30 d31 d32 d33 d34 d35 d36 d37 d38 d39 d40 d41 d42 d43 d44 d45 d46 d47 d48 d49 d50 d51 d52 d53 d54 d55 d56 d57 d58 d59 d60 d61 d62 d63 d64 d65 d66 d67 d68 d69 d70 d71 : IV) (s0 : GA) (G : GH) (k : Ex → List IV → List (List IV) → GH → Option R) :
  contC Try.prog O [] fuel (nav (Try.f21.body.getD .skip) [0, 0]) [1, 0, 0] k (.exit 1) [.ptr (some s0), d1, d2, d3, d4, d5, d6, d7, d8, d9, d10, d11, d12, d13, d14, d15, d16, d17, d18, d19, d20, d21, d22, d23, d24, d25, d26, d27, d28, d29, d30, d31, d32, d33, d34, d35, d36, d37, d38, d39, d40, d41, d42, d43, d44, d45, d46, d47, d48, d49, d50, d51, d52, d53, d54, d55, d56, d57, d58, d59, d60, d61, d62, d63, d64, d65, d66, d67, d68, d69, d70, d71] [] G =
  k .normal [.ptr (some s0), d1, d2, d3, d4, d5, d6, d7, d8, d9, d10, d11, d12, d13, d14, d15, d16, d17, d18, d19, d20, d21, d22, d23, d24, d25, d26, d27, d28, d29, d30, d31, d32, d33, d34, d35, d36, d37, d38, d39, d40, d41, d42, d43, d44, d45, d46, d47, d48, d49, d50, d51, d52, d53, d54, d55, d56, d57, d58, d59, d60, d61, d62, d63, d64, d65, d66, d67, d68, d69, d70, d71] [] G := by kernel_rfl

theorem c21_1_afterret {R : Type} (O : Ora R) (fuel : Nat) (d0 d1 d2 d3 d4 d5 d6 d7 d8 d9 d10 d11 d12 d13 d14 d15 d16 d17 d18 d19 d20 d21 d22 d23 d24 d25 d26 d27 d28 d29 d30 d31 d32 d33 d34 d35 d36 d37 d38 d39 d40 d41 d42 d43 d44 d45 d46 d47 d48 d49 d50 d51 d52 d53 d54 d55 d56 d57 d58 d59 d60 d61 d62 d63 d64 d65 d66 d67 d68 d69 d70 d71 : IV)  (G : GH) (k : Ex → List IV → List (List IV) → GH → Option R) :
  contC Try.prog O [] fuel (nav (Try.f21.body.getD .skip) [0, 0]) [1, 0, 0] k .ret [d0, d1, d2, d3, d4, d5, d6, d7, d8, d9, d10, d11, d12, d13, d14, d15, d16, d17, d18, d19, d20, d21, d22, d23, d24, d25, d26, d27, d28, d29, d30, d31, d32, d33, d34, d35, d36, d37, d38, d39, d40, d41, d42, d43, d44, d45, d46, d47, d48, d49, d50, d51, d52, d53, d54, d55, d56, d57, d58, d59, d60, d61, d62, d63, d64, d65, d66, d67, d68, d69, d70, d71] [] G =
  k .ret [d0, d1, d2, d3, d4, d5, d6, d7, d8, d9, d10, d11, d12, d13, d14, d15, d16, d17, d18, d19, d20, d21, d22, d23, d24, d25, d26, d27, d28, d29, d30, d31, d32, d33, d34, d35, d36, d37, d38, d39, d40, d41, d42, d43, d44, d45, d46, d47, d48, d49, d50, d51, d52, d53, d54, d55, d56, d57, d58, d59, d60, d61, d62, d63, d64, d65, d66, d67, d68, d69, d70, d71] [] G := by kernel_rfl

theorem c21_1_eq {R : Type} (O : Ora R) (fuel : Nat) (k : Ex → List IV → List (List IV) → GH → Option R) (HN : GA → GH → Option R) (hN : ∀ (d1 d2 d3 d4 d5 d6 d7 d8 d9 d10 d11 d12 d13 d14 d15 d16 d17 d18 d19 d20 d21 d22 d23 d24 d25 d26 d27 d28 d29 d30 d31 d32 d33 d34 d35 d36 d37 d38 d39 d40 d41 d42 d43 d44 d45 d46 d47 d48 d49 d50 d51 d52 d53 d54 d55 d56 d57 d58 d59 d60 d61 d62 d63 d64 d65 d66 d67 d68 d69 d70 d71 : IV) (s0 : GA) (G : GH), k .normal [.ptr (some s0), d1, d2, d3, d4, d5, d6, d7, d8, d9, d10, d11, d12, d13, d14, d15, d16, d17, d18, d19, d20, d21, d22, d23, d24, d25, d26, d27, d28, d29, d30, d31, d32, d33, d34, d35, d36, d37, d38, d39, d40, d41, d42, d43, d44, d45, d46, d47, d48, d49, d50, d51, d52, d53, d54, d55, d56, d57, d58, d59, d60, d61, d62, d63, d64, d65, d66, d67, d68, d69, d70, d71] [] G = HN s0 G) (Hret : GH → Option R) (hret : ∀ (d0 d1 d2 d3 d4 d5 d6 d7 d8 d9 d10 d11 d12 d13 d14 d15 d16 d17 d18 d19 d20 d21 d22 d23 d24 d25 d26 d27 d28 d29 d30 d31 d32 d33 d34 d35 d36 d37 d38 d39 d40 d41 d42 d43 d44 d45 d46 d47 d48 d49 d50 d51 d52 d53 d54 d55 d56 d57 d58 d59 d60 d61 d62 d63 d64 d65 d66 d67 d68 d69 d70 d71 : IV)  (G : GH), k .ret [d0, d1, d2, d3, d4, d5, d6, d7, d8, d9, d10, d11, d12, d13, d14, d15, d16, d17, d18, d19, d20, d21, d22, d23, d24, d25, d26, d27, d28, d29, d30, d31, d32, d33, d34, d35, d36, d37, d38, d39, d40, d41, d42, d43, d44, d45, d46, d47, d48, d49, d50, d51, d52, d53, d54, d55, d56, d57, d58, d59, d60, d61, d62, d63, d64, d65, d66, d67, d68, d69, d70, d71] [] G = Hret G) (H0 : GH → Option R) (h0 : ∀ (d0 d1 d2 d3 d4 d5 d6 d7 d8 d9 d10 d11 d12 d13 d14 d15 d16 d17 d18 d19 d20 d21 d22 d23 d24 d25 d26 d27 d28 d29 d30 d31 d32 d33 d34 d35 d36 d37 d38 d39 d40 d41 d42 d43 d44 d45 d46 d47 d48 d49 d50 d51 d52 d53 d54 d55 d56 d57 d58 d59 d60 d61 d62 d63 d64 d65 d66 d67 d68 d69 d70 d71 : IV)  (G : GH), k (.exit 0) [d0, d1, d2, d3, d4, d5, d6, d7, d8, d9, d10, d11, d12, d13, d14, d15, d16, d17, d18, d19, d20, d21, d22, d23, d24, d25, d26, d27, d28, d29, d30, d31, d32, d33, d34, d35, d36, d37, d38, d39, d40, d41, d42, d43, d44, d45, d46, d47, d48, d49, d50, d51, d52, d53, d54, d55, d56, d57, d58, d59, d60, d61, d62, d63, d64, d65, d66, d67, d68, d69, d70, d71] [] G = H0 G) : ∀ (d1 d2 d3 d4 d5 d6 d7 d8 d9 d10 d11 d12 d13 d14 d15 d16 d17 d18 d19 d20 d21 d22 d23 d24 d25 d26 d27 d28 d29 d30 d31 d32 d33 d34 d35 d36 d37 d38 d39 d40 d41 d42 d43 d44 d45 d46 d47 d48 d49 d50 d51 d52 d53 d54 d55 d56 d57 d58 d59 d60 d61 d62 d63 d64 d65 d66 d67 d68 d69 d70 d71 : IV) (s0 : GA) (G : GH),
  codeC Try.prog O [] fuel (nav (Try.f21.body.getD .skip) [0, 0, 1, 0, 0]) [.ptr (some s0), d1, d2, d3, d4, d5, d6, d7, d8, d9, d10, d11, d12, d13, d14, d15, d16, d17, d18, d19, d20, d21, d22, d23, d24, d25, d26, d27, d28, d29, d30, d31, d32, d33, d34, d35, d36, d37, d38, d39, d40, d41, d42, d43, d44, d45, d46, d47, d48, d49, d50, d51, d52, d53, d54, d55, d56, d57, d58, d59, d60, d61, d62, d63, d64, d65, d66, d67, d68, d69, d70, d71] [] G (contC Try.prog O [] fuel (nav (Try.f21.body.getD .skip) [0, 0]) [1, 0, 0] k) =
  c21_1 O (fun (s0 : GA) G => (ldInt G .i64 (GA.add s0 1)).bind fun x1 =>
(gst G (GA.add s0 1) [.int .i64 (IntKind.wrap .i64 (x1 + (1 : Int)))]).bind fun G2 =>
  HN s0 G2) (fun (s0 : GA) G => HN s0 G) (fun G => Hret G) fuel  s0 G := by
    intros
    have hin0 := c21_2_eq (R := R) O fuel (contC Try.prog O [] fuel (nav (Try.f21.body.getD .skip) [0, 0]) [1, 0, 0] k) (fun (s0 : GA) G => (ldInt G .i64 (GA.add s0 1)).bind fun x3 =>
(gst G (GA.add s0 1) [.int .i64 (IntKind.wrap .i64 (x3 + (1 : Int)))]).bind fun G4 =>
  HN s0 G4) (by intros; simp only [c21_1_afterN, c21_1_after1, c21_1_afterret, hN, hret, h0]) (fun (s0 : GA) G => HN s0 G) (by intros; simp only [c21_1_afterN, c21_1_after1, c21_1_afterret, hN, hret, h0]) (fun G => Hret G) (by intros; simp only [c21_1_afterN, c21_1_after1, c21_1_afterret, hN, hret, h0])
    have hin1 := l21_3_eq (R := R) O fuel (contC Try.prog O [] fuel (nav (Try.f21.body.getD .skip) [0, 0]) [1, 0, 0] k) (fun (s0 : GA) G => (ldInt G .i64 (GA.add s0 1)).bind fun x5 =>
(gst G (GA.add s0 1) [.int .i64 (IntKind.wrap .i64 (x5 + (1 : Int)))]).bind fun G6 =>
  HN s0 G6) (by intros; simp only [c21_1_afterN, c21_1_after1, c21_1_afterret, hN, hret, h0]) (fun (s0 : GA) G => HN s0 G) (by intros; simp only [c21_1_afterN, c21_1_after1, c21_1_afterret, hN, hret, h0]) (fun G => Hret G) (by intros; simp only [c21_1_afterN, c21_1_after1, c21_1_afterret, hN, hret, h0])
    rw [c21_1_body]
    simp only [c21_1, c21_1_afterN, c21_1_after1, c21_1_afterret, hN, hret, h0, hin0, hin1]

def l21_0 {R : Type} (O : Ora R) (Kret : GH → Option R) (K0 : GH → Option R) (fuel : Nat) : Nat → GA → GH → Option R
  | 0, _, _ => none
  | n + 1, s0, G =>
  (ldInt G .i64 (GA.add s0 1)).bind fun x1 =>
  (ldStr G (GA.add s0 0)).bind fun x2 =>
  bif (decide (x1 < (x2.length : Int))) then
  stepN fuel (c21_1 O (fun (s0 : GA) G => (ldInt G .i64 (GA.add s0 1)).bind fun x3 =>
  (gst G (GA.add s0 1) [.int .i64 (IntKind.wrap .i64 (x3 + (1 : Int)))]).bind fun G4 =>
  l21_0 O Kret K0 fuel n s0 G4) (fun (s0 : GA) G => l21_0 O Kret K0 fuel n s0 G) (fun G => Kret G) fuel s0 G)
  else
  K0 G

theorem l21_0_body {R : Type} (O : Ora R) (fuel : Nat) (d1 d2 d3 d4 d5 d6 d7 d8 d9 d10 d11 d12 d13 d14 d15 d16 d17 d18 d19 d20 d21 d22 d23 d24 d25 d26 d27 d28 d29 d30 d31 d32 d33 d34 d35 d36 d37 d38 d39 d40 d41 d42 d43 d44 d45 d46 d47 d48 d49 d50 d51 d52 d53 d54 d55 d56 d57 d58 d59 d60 d61 d62 d63 d64 d65 d66 d67 d68 d69 d70 d71 : IV) (s0 : GA) (G : GH) (k : Ex → List IV → List (List IV) → GH → Option R) :
  codeC Try.prog O [] fuel (nav (Try.f21.body.getD .skip) [0, 0]) [.ptr (some s0), d1, d2, d3, d4, d5, d6, d7, d8, d9, d10, d11, d12, d13, d14, d15, d16, d17, d18, d19, d20, d21, d22, d23, d24, d25, d26, d27, d28, d29, d30, d31, d32, d33, d34, d35, d36, d37, d38, d39, d40, d41, d42, d43, d44, d45, d46, d47, d48, d49, d50, d51, d52, d53, d54, d55, d56, d57, d58, d59, d60, d61, d62, d63, d64, d65, d66, d67, d68, d69, d70, d71] [] G k =
  (ldInt G .i64 (GA.add s0 1)).bind fun x1 =>
  (ldStr G (GA.add s0 0)).bind fun x2 =>
  bif (decide (x1 < (x2.length : Int))) then
  stepN fuel (codeC Try.prog O [] fuel (nav (Try.f21.body.getD .skip) [0, 0, 1, 0, 0]) [.ptr (some s0), d1, .ptr (some s0), .ptr (some s0), .ptr (some (GA.add s0 1)), .int .i64 x1, .ptr (some s0), .ptr (some s0), .ptr (some (GA.add s0 0)), .str x2, .int .i64 (x2.length : Int), .bool (decide (x1 < (x2.length : Int))), d12, d13, d14, d15, d16, d17, d18, d19, d20, d21, d22, d23, d24, d25, d26, d27, d28, d29, d30, d31, d32, d33, d34, d35, d36, d37, d38, d39, d40, d41, d42, d43, d44, d45, d46, d47, d48, d49, d50, d51, d52, d53, d54, d55, d56, d57, d58, d59, d60, d61, d62, d63, d64, d65, d66, d67, d68, d69, d70, d71] [] G (contC Try.prog O [] fuel (nav (Try.f21.body.getD .skip) [0, 0]) [1, 0, 0] k))
  else
  k (.exit 0) [.ptr (some s0), d1, .ptr (some s0), .ptr (some s0), .ptr (some (GA.add s0 1)), .int .i64 x1, .ptr (some s0), .ptr (some s0), .ptr (some (GA.add s0 0)), .str x2, .int .i64 (x2.length : Int), .bool (decide (x1 < (x2.length : Int))), d12, d13, d14, d15, d16, d17, d18, d19, d20, d21, d22, d23, d24, d25, d26, d27, d28, d29, d30, d31, d32, d33, d34, d35, d36, d37, d38, d39, d40, d41, d42, d43, d44, d45, d46, d47, d48, d49, d50, d51, d52, d53, d54, d55, d56, d57, d58, d59, d60, d61, d62, d63, d64, d65, d66, d67, d68, d69, d70, d71] [] G := by kernel_rfl

theorem l21_0_afterret {R : Type} (O : Ora R) (fuel : Nat) (d0 d1 d2 d3 d4 d5 d6 d7 d8 d9 d10 d11 d12 d13 d14 d15 d16 d17 d18 d19 d20 d21 d22 d23 d24 d25 d26 d27 d28 d29 d30 d31 d32 d33 d34 d35 d36 d37 d38 d39 d40 d41 d42 d43 d44 d45 d46 d47 d48 d49 d50 d51 d52 d53 d54 d55 d56 d57 d58 d59 d60 d61 d62 d63 d64 d65 d66 d67 d68 d69 d70 d71 : IV)  (G : GH) (k : IV → GH → Option R) :
  contC Try.prog O [] fuel (Try.f21.body.getD .skip) [0] (fun e env F G => match e with | .exit _ => none | _ => resC Try.prog Try.f21 env F G k) .ret [d0, d1, d2, d3, d4, d5, d6, d7, d8, d9, d10, d11, d12, d13, d14, d15, d16, d17, d18, d19, d20, d21, d22, d23, d24, d25, d26, d27, d28, d29, d30, d31, d32, d33, d34, d35, d36, d37, d38, d39, d40, d41, d42, d43, d44, d45, d46, d47, d48, d49, d50, d51, d52, d53, d54, d55, d56, d57, d58, d59, d60, d61, d62, d63, d64, d65, d66, d67, d68, d69, d70, d71] [] G =
  k (.tuple []) G := by kernel_rfl

theorem l21_0_after0 {R : Type} (O : Ora R) (fuel : Nat) (d0 d1 d2 d3 d4 d5 d6 d7 d8 d9 d10 d11 d12 d13 d14 d15 d16 d17 d18 d19 d20 d21 d22 d23 d24 d25 d26 d27 d28 d29 d30 d31 d32 d33 d34 d35 d36 d37 d38 d39 d40 d41 d42 d43 d44 d45 d46 d47 d48 d49 d50 d51 d52 d53 d54 d55 d56 d57 d58 d59 d60 d61 d62 d63 d64 d65 d66 d67 d68 d69 d70 d71 : IV)  (G : GH) (k : IV → GH → Option R) :
  contC Try.prog O [] fuel (Try.f21.body.getD .skip) [0] (fun e env F G => match e with | .exit _ => none | _ => resC Try.prog Try.f21 env F G k) (.exit 0) [d0, d1, d2, d3, d4, d5, d6, d7, d8, d9, d10, d11, d12, d13, d14, d15, d16, d17, d18, d19, d20, d21, d22, d23, d24, d25, d26, d27, d28, d29, d30, d31, d32, d33, d34, d35, d36, d37, d38, d39, d40, d41, d42, d43, d44, d45, d46, d47, d48, d49, d50, d51, d52, d53, d54, d55, d56, d57, d58, d59, d60, d61, d62, d63, d64, d65, d66, d67, d68, d69, d70, d71] [] G =
  k (.tuple []) G := by kernel_rfl

theorem l21_0_eq {R : Type} (O : Ora R) (fuel : Nat) (k : IV → GH → Option R) : ∀ (n : Nat) (d1 d2 d3 d4 d5 d6 d7 d8 d9 d10 d11 d12 d13 d14 d15 d16 d17 d18 d19 d20 d21 d22 d23 d24 d25 d26 d27 d28 d29 d30 d31 d32 d33 d34 d35 d36 d37 d38 d39 d40 d41 d42 d43 d44 d45 d46 d47 d48 d49 d50 d51 d52 d53 d54 d55 d56 d57 d58 d59 d60 d61 d62 d63 d64 d65 d66 d67 d68 d69 d70 d71 : IV) (s0 : GA) (G : GH),
  loopN (fun env F G k => codeC Try.prog O [] fuel (nav (Try.f21.body.getD .skip) [0, 0]) env F G k) n [.ptr (some s0), d1, d2, d3, d4, d5, d6, d7, d8, d9, d10, d11, d12, d13, d14, d15, d16, d17, d18, d19, d20, d21, d22, d23, d24, d25, d26, d27, d28, d29, d30, d31, d32, d33, d34, d35, d36, d37, d38, d39, d40, d41, d42, d43, d44, d45, d46, d47, d48, d49, d50, d51, d52, d53, d54, d55, d56, d57, d58, d59, d60, d61, d62, d63, d64, d65, d66, d67, d68, d69, d70, d71] [] G (contC Try.prog O [] fuel (Try.f21.body.getD .skip) [0] (fun e env F G => match e with | .exit _ => none | _ => resC Try.prog Try.f21 env F G k)) =
  l21_0 O (fun G => k (.tuple []) G) (fun G => k (.tuple []) G) fuel n s0 G := by
  intro n
  induction n with
  | zero => intros; rfl
  | succ n ih =>
    intros
    have hin0 := c21_1_eq (R := R) O fuel (loopK (fun env F G k => codeC Try.prog O [] fuel (nav (Try.f21.body.getD .skip) [0, 0]) env F G k) n (contC Try.prog O [] fuel (Try.f21.body.getD .skip) [0] (fun e env F G => match e with | .exit _ => none | _ => resC Try.prog Try.f21 env F G k))) (fun (s0 : GA) G => l21_0 O (fun G => k (.tuple []) G) (fun G => k (.tuple []) G) fuel n s0 G) (by intros; simp only [loopK_normal, loopK_exit, loopK_ret, ih, l21_0_afterret, l21_0_after0]) (fun G => k (.tuple []) G) (by intros; simp only [loopK_normal, loopK_exit, loopK_ret, ih, l21_0_afterret, l21_0_after0]) (fun G => k (.tuple []) G) (by intros; simp only [loopK_normal, loopK_exit, loopK_ret, ih, l21_0_afterret, l21_0_after0])
    rw [loopN_succ, l21_0_body]
    simp only [l21_0, loopK_normal, loopK_exit, loopK_ret, ih, l21_0_afterret, l21_0_after0, hin0]

theorem e21_raw {R : Type} (O : Ora R) (fuel : Nat) (p0 : GA) (G : GH) (k : IV → GH → Option R) :
  bodyC Try.prog O [] fuel Try.f21 [.ptr (some p0)] G k =
  loopN (fun env F G k => codeC Try.prog O [] fuel (nav (Try.f21.body.getD .skip) [0, 0]) env F G k) fuel [.ptr (some p0), .tuple [], .tuple [], .tuple [], .tuple [], .tuple [], .tuple [], .tuple [], .tuple [], .tuple [], .tuple [], .tuple [], .tuple [], .tuple [], .tuple [], .tuple [], .tuple [], .tuple [], .tuple [], .tuple [], .tuple [], .tuple [], .tuple [], .tuple [], .tuple [], .tuple [], .tuple [], .tuple [], .tuple [], .tuple [], .tuple [], .tuple [], .tuple [], .tuple [], .tuple [], .tuple [], .tuple [], .tuple [], .tuple [], .tuple [], .tuple [], .tuple [], .tuple [], .tuple [], .tuple [], .tuple [], .tuple [], .tuple [], .tuple [], .tuple [], .tuple [], .tuple [], .tuple [], .tuple [], .tuple [], .tuple [], .tuple [], .tuple [], .tuple [], .tuple [], .tuple [], .tuple [], .tuple [], .tuple [], .tuple [], .tuple [], .tuple [], .tuple [], .tuple [], .tuple [], .tuple [], .tuple []] [] G (contC Try.prog O [] fuel (Try.f21.body.getD .skip) [0] (fun e env F G => match e with | .exit _ => none | _ => resC Try.prog Try.f21 env F G k)) := by kernel_rfl

theorem e21 {R : Type} (O : Ora R) (fuel : Nat) (p0 : GA) (G : GH) (k : IV → GH → Option R) :
  bodyC Try.prog O [] fuel Try.f21 [.ptr (some p0)] G k =
  l21_0 O (fun G => k (.tuple []) G) (fun G => k (.tuple []) G) fuel fuel p0 G := by
  rw [e21_raw]; simp only [l21_0_eq O fuel k]

theorem r21 {R : Type} (fuel n : Nat) (p0 : GA) (G : GH) (k : IV → GH → Option R) :
  runL Try.prog lexLib lo0 fuel (n + 1) 21 [.ptr (some p0)] G k = bodyC Try.prog (runL Try.prog lexLib lo0 fuel n) [] fuel Try.f21 [.ptr (some p0)] G k := runL_body Try.func21 rfl rfl rfl

end Go.LI.Lex

/- What the interpreter gives for textures: Nests (written by tex.py). -/
import Derived.Test.YtbjcipikclbecaaRdPt4
namespace Go.LI.Film
open Go.Proofs.Ytbjcipikclbecaa Go Go.Proofs Go.LI
set_option maxRecDepth 100000
set_option linter.unusedVariables false
set_option linter.unusedSimpArgs false
/-! ### lantern/lanternlaw02.inner -/
/-! ### lantern/lanternlaw02.Inner -/
/-! ### lantern/lanternref02.Least -/
/-! ### lantern/lanternref02.Greatest -/
/-! ### lantern/lanternref02.Wide -/
theorem e_ref02_Wide {R : Type} (O : Ora R) (fuel p0_0 p0_1 : Nat) (G : GH) (k : KV R) :
  bodyC Try.prog O [1, 777777] fuel Try.f34 [.agg [.float .f64 p0_0, .float .f64 p0_1]] G k =
  O fn_ref01_Number [.float .f64 p0_0] G fun v1 G2 =>
  (ivBool v1).bind fun x3 =>
  bif (!x3) then
  k (.bool true) G2
  else
  O fn_ref01_Number [.float .f64 p0_1] G2 fun v4 G5 =>
  (ivBool v4).bind fun x6 =>
  k (.bool (!x6)) G5 := by kernel_rfl

theorem r_ref02_Wide {R : Type} (fuel n p0_0 p0_1 : Nat) (G : GH) (k : KV R) :
  runC Try.prog lo0 fuel (n + 1) 34 [.agg [.float .f64 p0_0, .float .f64 p0_1]] G k = bodyC Try.prog (runC Try.prog lo0 fuel n) [1, 777777] fuel Try.f34 [.agg [.float .f64 p0_0, .float .f64 p0_1]] G k := run_body Try.func34 rfl rfl

/-! ### lantern/lanternref03.Wide -/
theorem e_ref03_Wide {R : Type} (O : Ora R) (fuel p0_0 : Nat) (p0_1 p0_2 : Nat) (p0_3 p0_4 p0_5 : Nat) (G : GH) (k : KV R) :
  bodyC Try.prog O [1, 777777] fuel Try.f20 [.agg [.float .f64 p0_0, .float .f64 p0_1, .float .f64 p0_2, .float .f64 p0_3, .float .f64 p0_4, .float .f64 p0_5]] G k =
  O fn_ref02_Wide [.agg [.float .f64 p0_0, .float .f64 p0_1]] G fun v1 G2 =>
  (ivBool v1).bind fun x3 =>
  bif x3 then
  k (.bool true) G2
  else
  O fn_ref02_Wide [.agg [.float .f64 p0_2, .float .f64 p0_3]] G2 fun v4 G5 =>
  (ivBool v4).bind fun x6 =>
  bif x6 then
  k (.bool true) G5
  else
  O fn_ref02_Wide [.agg [.float .f64 p0_4, .float .f64 p0_5]] G5 fun v7 G8 =>
  (ivBool v7).bind fun x9 =>
  k (.bool x9) G8 := by kernel_rfl

theorem r_ref03_Wide {R : Type} (fuel n p0_0 : Nat) (p0_1 p0_2 : Nat) (p0_3 p0_4 p0_5 : Nat) (G : GH) (k : KV R) :
  runC Try.prog lo0 fuel (n + 1) 20 [.agg [.float .f64 p0_0, .float .f64 p0_1, .float .f64 p0_2, .float .f64 p0_3, .float .f64 p0_4, .float .f64 p0_5]] G k = bodyC Try.prog (runC Try.prog lo0 fuel n) [1, 777777] fuel Try.f20 [.agg [.float .f64 p0_0, .float .f64 p0_1, .float .f64 p0_2, .float .f64 p0_3, .float .f64 p0_4, .float .f64 p0_5]] G k := run_body Try.func20 rfl rfl

/-! ### lantern/lanternlaw09.TextureNests -/
end Go.LI.Film

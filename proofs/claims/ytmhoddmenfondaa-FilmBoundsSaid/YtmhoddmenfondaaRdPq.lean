/- What the interpreter gives for Narrow (written by rnd.py). -/
import Derived.Test.YtmhoddmenfondaaSeatA
namespace Go.LI.Film
open Go.Proofs.Ytmhoddmenfondaa Go Go.Proofs Go.LI
set_option maxRecDepth 100000
set_option linter.unusedVariables false
set_option linter.unusedSimpArgs false
/-! ### lantern/film.Narrow -/
theorem e_zV {R : Type} (O : Ora R) (fuel p0 : Nat) (G : GH) (k : KV R) :
  bodyC Try.prog O [777777] fuel Try.f13 [.float .f64 p0] G k =
  (fmin .f64 p0 (5183643170566569984 : Nat)).bind fun r1 =>
  (fmax .f64 r1 (14407015207421345792 : Nat)).bind fun r2 =>
  (f2f .f64 r2 .f32).bind fun x3 =>
  (f2f .f32 x3 .f64).bind fun x4 =>
  ((FloatKind.format .f64).add x4 (0 : Nat)).bind fun r5 =>
  k (.float .f64 r5) G := by kernel_rfl

theorem r_zV {R : Type} (fuel n p0 : Nat) (G : GH) (k : KV R) :
  runC Try.prog lo0 fuel (n + 1) 13 [.float .f64 p0] G k = bodyC Try.prog (runC Try.prog lo0 fuel n) [777777] fuel Try.f13 [.float .f64 p0] G k := run_body Try.func13 rfl rfl

/-! ### lantern/lanternref19.Narrow -/
theorem e_zc1 {R : Type} (O : Ora R) (fuel p0 : Nat) (G : GH) (k : KV R) :
  bodyC Try.prog O [777777] fuel Try.f14 [.float .f64 p0] G k =
  O fn_zV1 [.int .u32 (2139095039 : Int)] G fun v1 G2 =>
  (ivFloat .f32 v1).bind fun x3 =>
  (f2f .f32 x3 .f64).bind fun x4 =>
  bif (fgt .f64 p0 x4) then
  k (.float .f64 x4) G2
  else
  bif (flt .f64 p0 (Op.negFloat .f64 x4)) then
  k (.float .f64 (Op.negFloat .f64 x4)) G2
  else
  (f2f .f64 p0 .f32).bind fun x5 =>
  (f2f .f32 x5 .f64).bind fun x6 =>
  O fn_zX [.float .f64 x6] G2 fun v7 G8 =>
  (ivFloat .f64 v7).bind fun x9 =>
  k (.float .f64 x9) G8 := by kernel_rfl

theorem r_zc1 {R : Type} (fuel n p0 : Nat) (G : GH) (k : KV R) :
  runC Try.prog lo0 fuel (n + 1) 14 [.float .f64 p0] G k = bodyC Try.prog (runC Try.prog lo0 fuel n) [777777] fuel Try.f14 [.float .f64 p0] G k := run_body Try.func14 rfl rfl

end Go.LI.Film

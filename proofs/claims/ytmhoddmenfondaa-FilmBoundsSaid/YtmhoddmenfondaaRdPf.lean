/- Package vec: each, with the sum of spans. -/
import Derived.Test.YtmhoddmenfondaaRdPd
namespace Go.LI.Film
open Go.Proofs.Ytmhoddmenfondaa Go Go.Proofs Go.LI
set_option maxRecDepth 100000
set_option linter.unusedVariables false
theorem e_zL1 {R : Type} (O : Ora R) (fuel : Nat) (a0 a1 a2 a3 a4 a5 b0 b1 b2 b3 b4 b5 : Nat) (G : GH) (k : IV → GH → Option R) :
  bodyC Try.prog O [3, 4, 6, 7, 777777] (fuel + 4) Try.f65 [.agg [.float .f64 a0, .float .f64 a1, .float .f64 a2, .float .f64 a3, .float .f64 a4, .float .f64 a5], .agg [.float .f64 b0, .float .f64 b1, .float .f64 b2, .float .f64 b3, .float .f64 b4, .float .f64 b5], .func 66 []] G k =
  O fn_zs1 [.agg [.float .f64 a0, .float .f64 a1], .agg [.float .f64 b0, .float .f64 b1]] G fun v0 G1 =>
  (ivAgg 2 v0).bind fun c0 =>
  (ivFloat .f64 (c0.getD 0 undefI)).bind fun x0 =>
  (ivFloat .f64 (c0.getD 1 undefI)).bind fun x1 =>
  O fn_zs1 [.agg [.float .f64 a2, .float .f64 a3], .agg [.float .f64 b2, .float .f64 b3]] G1 fun v1 G2 =>
  (ivAgg 2 v1).bind fun c1 =>
  (ivFloat .f64 (c1.getD 0 undefI)).bind fun x2 =>
  (ivFloat .f64 (c1.getD 1 undefI)).bind fun x3 =>
  O fn_zs1 [.agg [.float .f64 a4, .float .f64 a5], .agg [.float .f64 b4, .float .f64 b5]] G2 fun v2 G3 =>
  (ivAgg 2 v2).bind fun c2 =>
  (ivFloat .f64 (c2.getD 0 undefI)).bind fun x4 =>
  (ivFloat .f64 (c2.getD 1 undefI)).bind fun x5 =>
  k (.agg [.float .f64 x0, .float .f64 x1, .float .f64 x2, .float .f64 x3, .float .f64 x4, .float .f64 x5]) G3 := by kernel_rfl
theorem r_zL1 {R : Type} (fuel n : Nat) (args : List IV) (G : GH) (k : IV → GH → Option R) :
  runC Try.prog lo0 fuel (n + 1) 65 args G k = bodyC Try.prog (runC Try.prog lo0 fuel n) [3, 4, 6, 7, 777777] fuel Try.f65 args G k := run_body Try.func65 rfl rfl
end Go.LI.Film

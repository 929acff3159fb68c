/- What the small callees of PfmSizes give: runs of the interpreter (written by hand and by a loop). -/
import Derived.Test.YtmhoddmenfondaaDoorDoorA
namespace Go.LI.Door
open Go.Proofs.YtmhoddmenfondaaDoor Go Go.Proofs Go.LI
set_option maxRecDepth 100000
theorem itoa1 {R : Type} (F n : Nat) (G : GH) (k : IV → GH → Option R) : runC Tryd.prog lo0 (F + 8) (n + 8) 39 [.int .i64 1] G k = k (.str [49]) G := by kernel_rfl
theorem itoa2 {R : Type} (F n : Nat) (G : GH) (k : IV → GH → Option R) : runC Tryd.prog lo0 (F + 8) (n + 8) 39 [.int .i64 2] G k = k (.str [50]) G := by kernel_rfl
theorem itoa3 {R : Type} (F n : Nat) (G : GH) (k : IV → GH → Option R) : runC Tryd.prog lo0 (F + 8) (n + 8) 39 [.int .i64 3] G k = k (.str [51]) G := by kernel_rfl
theorem itoa4 {R : Type} (F n : Nat) (G : GH) (k : IV → GH → Option R) : runC Tryd.prog lo0 (F + 8) (n + 8) 39 [.int .i64 4] G k = k (.str [52]) G := by kernel_rfl
theorem itoa5 {R : Type} (F n : Nat) (G : GH) (k : IV → GH → Option R) : runC Tryd.prog lo0 (F + 8) (n + 8) 39 [.int .i64 5] G k = k (.str [53]) G := by kernel_rfl
theorem itoa6 {R : Type} (F n : Nat) (G : GH) (k : IV → GH → Option R) : runC Tryd.prog lo0 (F + 8) (n + 8) 39 [.int .i64 6] G k = k (.str [54]) G := by kernel_rfl
theorem itoa7 {R : Type} (F n : Nat) (G : GH) (k : IV → GH → Option R) : runC Tryd.prog lo0 (F + 8) (n + 8) 39 [.int .i64 7] G k = k (.str [55]) G := by kernel_rfl
theorem itoa8 {R : Type} (F n : Nat) (G : GH) (k : IV → GH → Option R) : runC Tryd.prog lo0 (F + 8) (n + 8) 39 [.int .i64 8] G k = k (.str [56]) G := by kernel_rfl
theorem itoa9 {R : Type} (F n : Nat) (G : GH) (k : IV → GH → Option R) : runC Tryd.prog lo0 (F + 8) (n + 8) 39 [.int .i64 9] G k = k (.str [57]) G := by kernel_rfl
theorem itoa10 {R : Type} (F n : Nat) (G : GH) (k : IV → GH → Option R) : runC Tryd.prog lo0 (F + 8) (n + 8) 39 [.int .i64 10] G k = k (.str [49, 48]) G := by kernel_rfl
theorem itoa11 {R : Type} (F n : Nat) (G : GH) (k : IV → GH → Option R) : runC Tryd.prog lo0 (F + 8) (n + 8) 39 [.int .i64 11] G k = k (.str [49, 49]) G := by kernel_rfl
theorem itoa12 {R : Type} (F n : Nat) (G : GH) (k : IV → GH → Option R) : runC Tryd.prog lo0 (F + 8) (n + 8) 39 [.int .i64 12] G k = k (.str [49, 50]) G := by kernel_rfl
theorem itoa13 {R : Type} (F n : Nat) (G : GH) (k : IV → GH → Option R) : runC Tryd.prog lo0 (F + 8) (n + 8) 39 [.int .i64 13] G k = k (.str [49, 51]) G := by kernel_rfl
theorem itoa14 {R : Type} (F n : Nat) (G : GH) (k : IV → GH → Option R) : runC Tryd.prog lo0 (F + 8) (n + 8) 39 [.int .i64 14] G k = k (.str [49, 52]) G := by kernel_rfl
theorem itoa15 {R : Type} (F n : Nat) (G : GH) (k : IV → GH → Option R) : runC Tryd.prog lo0 (F + 8) (n + 8) 39 [.int .i64 15] G k = k (.str [49, 53]) G := by kernel_rfl
theorem itoa16 {R : Type} (F n : Nat) (G : GH) (k : IV → GH → Option R) : runC Tryd.prog lo0 (F + 8) (n + 8) 39 [.int .i64 16] G k = k (.str [49, 54]) G := by kernel_rfl
theorem itoa17 {R : Type} (F n : Nat) (G : GH) (k : IV → GH → Option R) : runC Tryd.prog lo0 (F + 8) (n + 8) 39 [.int .i64 17] G k = k (.str [49, 55]) G := by kernel_rfl
theorem itoa18 {R : Type} (F n : Nat) (G : GH) (k : IV → GH → Option R) : runC Tryd.prog lo0 (F + 8) (n + 8) 39 [.int .i64 18] G k = k (.str [49, 56]) G := by kernel_rfl
theorem itoa19 {R : Type} (F n : Nat) (G : GH) (k : IV → GH → Option R) : runC Tryd.prog lo0 (F + 8) (n + 8) 39 [.int .i64 19] G k = k (.str [49, 57]) G := by kernel_rfl
theorem itoa20 {R : Type} (F n : Nat) (G : GH) (k : IV → GH → Option R) : runC Tryd.prog lo0 (F + 8) (n + 8) 39 [.int .i64 20] G k = k (.str [50, 48]) G := by kernel_rfl
theorem itoa21 {R : Type} (F n : Nat) (G : GH) (k : IV → GH → Option R) : runC Tryd.prog lo0 (F + 8) (n + 8) 39 [.int .i64 21] G k = k (.str [50, 49]) G := by kernel_rfl
theorem itoa22 {R : Type} (F n : Nat) (G : GH) (k : IV → GH → Option R) : runC Tryd.prog lo0 (F + 8) (n + 8) 39 [.int .i64 22] G k = k (.str [50, 50]) G := by kernel_rfl
theorem itoa23 {R : Type} (F n : Nat) (G : GH) (k : IV → GH → Option R) : runC Tryd.prog lo0 (F + 8) (n + 8) 39 [.int .i64 23] G k = k (.str [50, 51]) G := by kernel_rfl
theorem itoa24 {R : Type} (F n : Nat) (G : GH) (k : IV → GH → Option R) : runC Tryd.prog lo0 (F + 8) (n + 8) 39 [.int .i64 24] G k = k (.str [50, 52]) G := by kernel_rfl
theorem itoa25 {R : Type} (F n : Nat) (G : GH) (k : IV → GH → Option R) : runC Tryd.prog lo0 (F + 8) (n + 8) 39 [.int .i64 25] G k = k (.str [50, 53]) G := by kernel_rfl
theorem itoa26 {R : Type} (F n : Nat) (G : GH) (k : IV → GH → Option R) : runC Tryd.prog lo0 (F + 8) (n + 8) 39 [.int .i64 26] G k = k (.str [50, 54]) G := by kernel_rfl
theorem itoa27 {R : Type} (F n : Nat) (G : GH) (k : IV → GH → Option R) : runC Tryd.prog lo0 (F + 8) (n + 8) 39 [.int .i64 27] G k = k (.str [50, 55]) G := by kernel_rfl
theorem itoa28 {R : Type} (F n : Nat) (G : GH) (k : IV → GH → Option R) : runC Tryd.prog lo0 (F + 8) (n + 8) 39 [.int .i64 28] G k = k (.str [50, 56]) G := by kernel_rfl
theorem itoa29 {R : Type} (F n : Nat) (G : GH) (k : IV → GH → Option R) : runC Tryd.prog lo0 (F + 8) (n + 8) 39 [.int .i64 29] G k = k (.str [50, 57]) G := by kernel_rfl
theorem itoa30 {R : Type} (F n : Nat) (G : GH) (k : IV → GH → Option R) : runC Tryd.prog lo0 (F + 8) (n + 8) 39 [.int .i64 30] G k = k (.str [51, 48]) G := by kernel_rfl
theorem isnan0 {R : Type} (F n : Nat) (G : GH) (k : IV → GH → Option R) : runC Tryd.prog lo0 (F + 8) (n + 8) 26 [.float .f64 0] G k = k (.bool false) G := by kernel_rfl
theorem isinf0 {R : Type} (F n : Nat) (G : GH) (k : IV → GH → Option R) : runC Tryd.prog lo0 (F + 8) (n + 8) 27 [.float .f64 0, .int .i64 0] G k = k (.bool false) G := by kernel_rfl
theorem bits0 {R : Type} (F n : Nat) (G : GH) (k : IV → GH → Option R) : runC Tryd.prog lo0 (F + 8) (n + 8) 28 [.float .f32 0] G k = k (.int .u32 0) G := by kernel_rfl
theorem byte0 {R : Type} (F n : Nat) (G : GH) (k : IV → GH → Option R) : runC Tryd.prog lo0 (F + 8) (n + 8) 15 [.float .f64 0] G k = k (.int .u8 0) G := by kernel_rfl
theorem n0 : f2f .f64 0 .f32 = some 0 := by kernel_rfl
theorem n1 : (FloatKind.format .f32).add 0 0 = some 0 := by kernel_rfl
theorem n2 : f2f .f32 0 .f64 = some 0 := by kernel_rfl
end Go.LI.Door

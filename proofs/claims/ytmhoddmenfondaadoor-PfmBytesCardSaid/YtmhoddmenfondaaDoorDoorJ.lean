/- Small texts that are cut and read: runs of the interpreter (written by a loop). -/
import Derived.Test.YtmhoddmenfondaaDoorDoorA
namespace Go.LI.Door
open Go.Proofs.YtmhoddmenfondaaDoor Go Go.Proofs Go.LI
set_option maxRecDepth 100000
theorem num1 {R : Type} (F n : Nat) (G : GH) (k : IV → GH → Option R) : runC Tryd.prog lo0 (F + 8) (n + 8) 45 [.str [49]] G k = k (.tuple [.int .i64 1, .bool true]) G := by kernel_rfl
theorem num2 {R : Type} (F n : Nat) (G : GH) (k : IV → GH → Option R) : runC Tryd.prog lo0 (F + 8) (n + 8) 45 [.str [50]] G k = k (.tuple [.int .i64 2, .bool true]) G := by kernel_rfl
theorem num3 {R : Type} (F n : Nat) (G : GH) (k : IV → GH → Option R) : runC Tryd.prog lo0 (F + 8) (n + 8) 45 [.str [51]] G k = k (.tuple [.int .i64 3, .bool true]) G := by kernel_rfl
theorem num4 {R : Type} (F n : Nat) (G : GH) (k : IV → GH → Option R) : runC Tryd.prog lo0 (F + 8) (n + 8) 45 [.str [52]] G k = k (.tuple [.int .i64 4, .bool true]) G := by kernel_rfl
theorem num5 {R : Type} (F n : Nat) (G : GH) (k : IV → GH → Option R) : runC Tryd.prog lo0 (F + 8) (n + 8) 45 [.str [53]] G k = k (.tuple [.int .i64 5, .bool true]) G := by kernel_rfl
theorem num6 {R : Type} (F n : Nat) (G : GH) (k : IV → GH → Option R) : runC Tryd.prog lo0 (F + 8) (n + 8) 45 [.str [54]] G k = k (.tuple [.int .i64 6, .bool true]) G := by kernel_rfl
theorem cut11 {R : Type} (F n : Nat) (G : GH) (k : IV → GH → Option R) : runC Tryd.prog lo0 (F + 8) (n + 8) 44 [.str [49, 32, 49], .str [32]] G k = k (.tuple [.str [49], .str [49], .bool true]) G := by kernel_rfl
theorem cut12 {R : Type} (F n : Nat) (G : GH) (k : IV → GH → Option R) : runC Tryd.prog lo0 (F + 8) (n + 8) 44 [.str [49, 32, 50], .str [32]] G k = k (.tuple [.str [49], .str [50], .bool true]) G := by kernel_rfl
theorem cut13 {R : Type} (F n : Nat) (G : GH) (k : IV → GH → Option R) : runC Tryd.prog lo0 (F + 8) (n + 8) 44 [.str [49, 32, 51], .str [32]] G k = k (.tuple [.str [49], .str [51], .bool true]) G := by kernel_rfl
theorem cut14 {R : Type} (F n : Nat) (G : GH) (k : IV → GH → Option R) : runC Tryd.prog lo0 (F + 8) (n + 8) 44 [.str [49, 32, 52], .str [32]] G k = k (.tuple [.str [49], .str [52], .bool true]) G := by kernel_rfl
theorem cut15 {R : Type} (F n : Nat) (G : GH) (k : IV → GH → Option R) : runC Tryd.prog lo0 (F + 8) (n + 8) 44 [.str [49, 32, 53], .str [32]] G k = k (.tuple [.str [49], .str [53], .bool true]) G := by kernel_rfl
theorem cut16 {R : Type} (F n : Nat) (G : GH) (k : IV → GH → Option R) : runC Tryd.prog lo0 (F + 8) (n + 8) 44 [.str [49, 32, 54], .str [32]] G k = k (.tuple [.str [49], .str [54], .bool true]) G := by kernel_rfl
theorem cut21 {R : Type} (F n : Nat) (G : GH) (k : IV → GH → Option R) : runC Tryd.prog lo0 (F + 8) (n + 8) 44 [.str [50, 32, 49], .str [32]] G k = k (.tuple [.str [50], .str [49], .bool true]) G := by kernel_rfl
theorem cut22 {R : Type} (F n : Nat) (G : GH) (k : IV → GH → Option R) : runC Tryd.prog lo0 (F + 8) (n + 8) 44 [.str [50, 32, 50], .str [32]] G k = k (.tuple [.str [50], .str [50], .bool true]) G := by kernel_rfl
theorem cut23 {R : Type} (F n : Nat) (G : GH) (k : IV → GH → Option R) : runC Tryd.prog lo0 (F + 8) (n + 8) 44 [.str [50, 32, 51], .str [32]] G k = k (.tuple [.str [50], .str [51], .bool true]) G := by kernel_rfl
theorem cut24 {R : Type} (F n : Nat) (G : GH) (k : IV → GH → Option R) : runC Tryd.prog lo0 (F + 8) (n + 8) 44 [.str [50, 32, 52], .str [32]] G k = k (.tuple [.str [50], .str [52], .bool true]) G := by kernel_rfl
theorem cut25 {R : Type} (F n : Nat) (G : GH) (k : IV → GH → Option R) : runC Tryd.prog lo0 (F + 8) (n + 8) 44 [.str [50, 32, 53], .str [32]] G k = k (.tuple [.str [50], .str [53], .bool true]) G := by kernel_rfl
theorem cut26 {R : Type} (F n : Nat) (G : GH) (k : IV → GH → Option R) : runC Tryd.prog lo0 (F + 8) (n + 8) 44 [.str [50, 32, 54], .str [32]] G k = k (.tuple [.str [50], .str [54], .bool true]) G := by kernel_rfl
theorem cut31 {R : Type} (F n : Nat) (G : GH) (k : IV → GH → Option R) : runC Tryd.prog lo0 (F + 8) (n + 8) 44 [.str [51, 32, 49], .str [32]] G k = k (.tuple [.str [51], .str [49], .bool true]) G := by kernel_rfl
theorem cut32 {R : Type} (F n : Nat) (G : GH) (k : IV → GH → Option R) : runC Tryd.prog lo0 (F + 8) (n + 8) 44 [.str [51, 32, 50], .str [32]] G k = k (.tuple [.str [51], .str [50], .bool true]) G := by kernel_rfl
theorem cut33 {R : Type} (F n : Nat) (G : GH) (k : IV → GH → Option R) : runC Tryd.prog lo0 (F + 8) (n + 8) 44 [.str [51, 32, 51], .str [32]] G k = k (.tuple [.str [51], .str [51], .bool true]) G := by kernel_rfl
theorem cut34 {R : Type} (F n : Nat) (G : GH) (k : IV → GH → Option R) : runC Tryd.prog lo0 (F + 8) (n + 8) 44 [.str [51, 32, 52], .str [32]] G k = k (.tuple [.str [51], .str [52], .bool true]) G := by kernel_rfl
theorem cut35 {R : Type} (F n : Nat) (G : GH) (k : IV → GH → Option R) : runC Tryd.prog lo0 (F + 8) (n + 8) 44 [.str [51, 32, 53], .str [32]] G k = k (.tuple [.str [51], .str [53], .bool true]) G := by kernel_rfl
theorem cut36 {R : Type} (F n : Nat) (G : GH) (k : IV → GH → Option R) : runC Tryd.prog lo0 (F + 8) (n + 8) 44 [.str [51, 32, 54], .str [32]] G k = k (.tuple [.str [51], .str [54], .bool true]) G := by kernel_rfl
theorem cut41 {R : Type} (F n : Nat) (G : GH) (k : IV → GH → Option R) : runC Tryd.prog lo0 (F + 8) (n + 8) 44 [.str [52, 32, 49], .str [32]] G k = k (.tuple [.str [52], .str [49], .bool true]) G := by kernel_rfl
theorem cut42 {R : Type} (F n : Nat) (G : GH) (k : IV → GH → Option R) : runC Tryd.prog lo0 (F + 8) (n + 8) 44 [.str [52, 32, 50], .str [32]] G k = k (.tuple [.str [52], .str [50], .bool true]) G := by kernel_rfl
theorem cut43 {R : Type} (F n : Nat) (G : GH) (k : IV → GH → Option R) : runC Tryd.prog lo0 (F + 8) (n + 8) 44 [.str [52, 32, 51], .str [32]] G k = k (.tuple [.str [52], .str [51], .bool true]) G := by kernel_rfl
theorem cut44 {R : Type} (F n : Nat) (G : GH) (k : IV → GH → Option R) : runC Tryd.prog lo0 (F + 8) (n + 8) 44 [.str [52, 32, 52], .str [32]] G k = k (.tuple [.str [52], .str [52], .bool true]) G := by kernel_rfl
theorem cut45 {R : Type} (F n : Nat) (G : GH) (k : IV → GH → Option R) : runC Tryd.prog lo0 (F + 8) (n + 8) 44 [.str [52, 32, 53], .str [32]] G k = k (.tuple [.str [52], .str [53], .bool true]) G := by kernel_rfl
theorem cut46 {R : Type} (F n : Nat) (G : GH) (k : IV → GH → Option R) : runC Tryd.prog lo0 (F + 8) (n + 8) 44 [.str [52, 32, 54], .str [32]] G k = k (.tuple [.str [52], .str [54], .bool true]) G := by kernel_rfl
theorem cut51 {R : Type} (F n : Nat) (G : GH) (k : IV → GH → Option R) : runC Tryd.prog lo0 (F + 8) (n + 8) 44 [.str [53, 32, 49], .str [32]] G k = k (.tuple [.str [53], .str [49], .bool true]) G := by kernel_rfl
theorem cut52 {R : Type} (F n : Nat) (G : GH) (k : IV → GH → Option R) : runC Tryd.prog lo0 (F + 8) (n + 8) 44 [.str [53, 32, 50], .str [32]] G k = k (.tuple [.str [53], .str [50], .bool true]) G := by kernel_rfl
theorem cut53 {R : Type} (F n : Nat) (G : GH) (k : IV → GH → Option R) : runC Tryd.prog lo0 (F + 8) (n + 8) 44 [.str [53, 32, 51], .str [32]] G k = k (.tuple [.str [53], .str [51], .bool true]) G := by kernel_rfl
theorem cut54 {R : Type} (F n : Nat) (G : GH) (k : IV → GH → Option R) : runC Tryd.prog lo0 (F + 8) (n + 8) 44 [.str [53, 32, 52], .str [32]] G k = k (.tuple [.str [53], .str [52], .bool true]) G := by kernel_rfl
theorem cut55 {R : Type} (F n : Nat) (G : GH) (k : IV → GH → Option R) : runC Tryd.prog lo0 (F + 8) (n + 8) 44 [.str [53, 32, 53], .str [32]] G k = k (.tuple [.str [53], .str [53], .bool true]) G := by kernel_rfl
theorem cut56 {R : Type} (F n : Nat) (G : GH) (k : IV → GH → Option R) : runC Tryd.prog lo0 (F + 8) (n + 8) 44 [.str [53, 32, 54], .str [32]] G k = k (.tuple [.str [53], .str [54], .bool true]) G := by kernel_rfl
theorem cut61 {R : Type} (F n : Nat) (G : GH) (k : IV → GH → Option R) : runC Tryd.prog lo0 (F + 8) (n + 8) 44 [.str [54, 32, 49], .str [32]] G k = k (.tuple [.str [54], .str [49], .bool true]) G := by kernel_rfl
theorem cut62 {R : Type} (F n : Nat) (G : GH) (k : IV → GH → Option R) : runC Tryd.prog lo0 (F + 8) (n + 8) 44 [.str [54, 32, 50], .str [32]] G k = k (.tuple [.str [54], .str [50], .bool true]) G := by kernel_rfl
theorem cut63 {R : Type} (F n : Nat) (G : GH) (k : IV → GH → Option R) : runC Tryd.prog lo0 (F + 8) (n + 8) 44 [.str [54, 32, 51], .str [32]] G k = k (.tuple [.str [54], .str [51], .bool true]) G := by kernel_rfl
theorem cut64 {R : Type} (F n : Nat) (G : GH) (k : IV → GH → Option R) : runC Tryd.prog lo0 (F + 8) (n + 8) 44 [.str [54, 32, 52], .str [32]] G k = k (.tuple [.str [54], .str [52], .bool true]) G := by kernel_rfl
theorem cut65 {R : Type} (F n : Nat) (G : GH) (k : IV → GH → Option R) : runC Tryd.prog lo0 (F + 8) (n + 8) 44 [.str [54, 32, 53], .str [32]] G k = k (.tuple [.str [54], .str [53], .bool true]) G := by kernel_rfl
theorem cut66 {R : Type} (F n : Nat) (G : GH) (k : IV → GH → Option R) : runC Tryd.prog lo0 (F + 8) (n + 8) 44 [.str [54, 32, 54], .str [32]] G k = k (.tuple [.str [54], .str [54], .bool true]) G := by kernel_rfl
theorem bits64 {R : Type} (F n x : Nat) (G : GH) (k : IV → GH → Option R) : runC Tryd.prog lo0 F (n + 1) 33 [.float .f64 x] G k = k (.int .u64 (x : Int)) G := by kernel_rfl
end Go.LI.Door

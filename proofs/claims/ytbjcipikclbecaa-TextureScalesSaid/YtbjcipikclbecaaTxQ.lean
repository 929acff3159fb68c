/- Mixes: one texture of each kind that the law has. -/
import Derived.Test.YtbjcipikclbecaaTxP
namespace Go.LI.Film
open Go.Proofs.Ytbjcipikclbecaa Go Go.Proofs Go.LI Go.LI.Fl
set_option linter.unusedVariables false
set_option linter.unusedSimpArgs false
set_option maxRecDepth 100000
set_option exponentiation.threshold 2500

theorem zw_one : zw 4607182418800017408 = 4607182418800017408 := by decide +kernel
/-- Three numbers of a colour. -/
structure Col (c0 c1 c2 : Nat) : Prop where
  w0 : c0 < 2 ^ 64
  w1 : c1 < 2 ^ 64
  w2 : c2 < 2 ^ 64
  f0 : fin c0 = true
  f1 : fin c1 = true
  f2 : fin c2 = true
def v7 (l0 h0 l1 h1 l2 h2 : Nat) (a : Int) : List IV := [.float .f64 l0, .float .f64 h0, .float .f64 l1, .float .f64 h1, .float .f64 l2, .float .f64 h2, .int .i64 a]
/-- A scale between 0 and 1. -/
structure Scl (s : Nat) : Prop where
  w : s < 2 ^ 64
  f : fin s = true
  lo : 0 ≤ sv (zw s)
  hi : sv (zw s) ≤ (one74 : Int)
theorem Scl.num {s : Nat} (h : Scl s) : num (zw s) := zw_num (num_fin h.w h.f)
section
variable {R : Type} {O : Ora R}
/-- What a mix of a colour with itself holds. -/
structure Mx (c l h : Nat) : Prop where
  nl : num l
  nh : num h
  lo : sv l ≤ sv (zw c)
  hi : sv (zw c) ≤ sv h
end
end Go.LI.Film

/- Mixes: one texture of each kind that the law has. -/
import Derived.Test.YtbjcipikclbecaaGreatTxP
set_option linter.unusedVariables false
set_option linter.unusedSimpArgs false
set_option maxRecDepth 100000
set_option exponentiation.threshold 2500
namespace Go.LI.Film
open Go.Proofs.YtbjcipikclbecaaGreat Go Go.Proofs Go.LI Go.LI.Fl
theorem zEI : zw 4607182418800017408 = 4607182418800017408 := by decide +kernel
structure Col (c0 c1 c2 : Nat) : Prop where
  w0 : c0 < 2 ^ 64
  w1 : c1 < 2 ^ 64
  w2 : c2 < 2 ^ 64
  f0 : fin c0 = true
  f1 : fin c1 = true
  f2 : fin c2 = true
structure Scl (s : Nat) : Prop where
  w : s < 2 ^ 64
  f : fin s = true
  lo : 0 ≤ sv (zw s)
  hi : sv (zw s) ≤ (zt4 : Int)
theorem Scl.num {s : Nat} (h : Scl s) : num (zw s) := zwF (zeD h.w h.f)
section
variable {R : Type} {O : Ora R}
structure Mx (c l h : Nat) : Prop where
  nl : num l
  nh : num h
  lo : sv l ≤ sv (zw c)
  hi : sv (zw c) ≤ sv h
end
end Go.LI.Film

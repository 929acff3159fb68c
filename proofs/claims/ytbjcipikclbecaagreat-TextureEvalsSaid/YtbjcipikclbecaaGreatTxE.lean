/- TextureSingle over the interpreter. -/
import Derived.Test.YtbjcipikclbecaaGreatTxD
set_option linter.unusedVariables false
set_option maxRecDepth 100000
namespace Go.LI.Film
open Go.Proofs.YtbjcipikclbecaaGreat Go Go.Proofs Go.LI Go.LI.Fl
theorem awakeT {R : Type} (G : GH) (k : IV → GH → Option R) : (runC Tryz.prog lo0 1152921504606846976 50 4 [] G k) = k (.bool true) G := by kernel_rfl
section
variable {R : Type}
theorem zI1 {F n : Nat} (hF : 1 ≤ F) (hn : 3 ≤ n) : zJA (runC (R := R) Tryz.prog lo0 F n) := by
  obtain ⟨n, rfl⟩ : ∃ j, n = j + 1 := ⟨n - 1, by omega⟩
  obtain ⟨F, rfl⟩ : ∃ j, F = j + 1 := ⟨F - 1, by omega⟩
  intro G k
  have e : zhA = 57 := rfl
  rw [e, zAT]
  exact zEc (zHx (by omega)) G k
theorem yS2 {F n : Nat} (hn : 2 ≤ n) : zIR (runC (R := R) Tryz.prog lo0 F n) := by
  obtain ⟨n, rfl⟩ : ∃ j, n = j + 1 := ⟨n - 1, by omega⟩
  intro x y G k
  have e : zdQ = 27 := rfl
  rw [e, zyc]
  exact zGC (zBA (by omega)) x y G k
theorem yS3 {F n : Nat} (hn : 3 ≤ n) : zJS (runC (R := R) Tryz.prog lo0 F n) := by
  obtain ⟨n, rfl⟩ : ∃ j, n = j + 1 := ⟨n - 1, by omega⟩
  intro a b c d e f G k
  have e' : zjR = 10 := rfl
  rw [e', zxl]
  exact zGz (yS2 (by omega)) a b c d e f G k
end
end Go.LI.Film

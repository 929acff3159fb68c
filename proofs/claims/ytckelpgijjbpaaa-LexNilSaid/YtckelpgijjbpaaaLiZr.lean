/- Ranges of arguments. -/
import Derived.Test.YtckelpgijjbpaaaLiZ
namespace Go.LI
open Go Go.RowKit Go.ChangeShapes Go.WideShapes Go.ChangeAt
set_option linter.unusedVariables false
section
variable {P : Program} {w : World} {r : Reach} {base : Nat} {t : TypeId} {v : Value}
theorem okWide_int_has {k : IntKind} (ht : P.underlying t = some (.int k)) (h : Value.okWide P w r base t v) : ∃ n, v = .int k n ∧ k.min ≤ n ∧ n ≤ k.max := by
  simp only [Value.okWide, ht, Cell.okWide] at h
  cases v <;> simp_all [Cell.ok, IntKind.has]
theorem okWide_i64 (ht : P.underlying t = some (.int .i64)) (h : Value.okWide P w r base t v) : ∃ n, v = .int .i64 n ∧ -9223372036854775808 ≤ n ∧ n < 9223372036854775808 := by
  obtain ⟨n, h1, h2, h3⟩ := okWide_int_has ht h
  have e1 : IntKind.i64.min = -9223372036854775808 := by decide
  have e2 : IntKind.i64.max = 9223372036854775807 := by decide
  exact ⟨n, h1, by omega, by omega⟩
theorem okWide_f64 (ht : P.underlying t = some (.float .f64)) (h : Value.okWide P w r base t v) : ∃ b, v = .float .f64 b ∧ b < 2 ^ 64 := by
  simp only [Value.okWide, ht, Cell.okWide] at h
  cases v <;> simp_all [Cell.ok, FloatKind.has]
end
end Go.LI

/- The library functions that the reader's laws call, as plain functions. -/
import Derived.Test.YtckelpgijjbpaaaRows
import Derived.Test.YtckelpgijjbpaaaLiAll2
import Derived.Lib.Repeat
namespace Go.LI.Lex
open Go.Proofs.Ytckelpgijjbpaaa Go Go.Proofs Go.LI
set_option linter.unusedVariables false

def lib57 : List IV → Option IV
  | [.str s, .int .u8 c] => some (.int .i64 (Go.Lib.indexByte s c.toNat.toUInt8))
  | _ => none
def lib37 : List IV → Option IV
  | [.str s, .int .u8 c] => some (.int .i64 (Go.Lib.countByte s c.toNat.toUInt8))
  | _ => none
def lib20 : List IV → Option IV
  | [.str s, .int .i64 n] => bif decide (0 ≤ n) && (decide (n ≤ 1000) && decide (s.length ≤ 1000)) then some (.str (Go.Lib.repeatL s n.toNat)) else none
  | _ => none
def lexLib : Lib := fun f args => if f = 57 then lib57 args else if f = 37 then lib37 args else if f = 20 then lib20 args else none
end Go.LI.Lex

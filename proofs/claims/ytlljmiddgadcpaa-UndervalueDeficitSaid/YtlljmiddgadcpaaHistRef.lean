/- The definition's Money, Check, CheckTrace. -/
import Derived.Test.YtlljmiddgadcpaaHistDef
import Derived.Test.YtlljmiddgadcpaaRows
import Derived.BigQuiet
import Derived.Deep.QuietTactic
set_option linter.unusedVariables false
set_option linter.unusedSimpArgs false
namespace Go.Proofs.Ytlljmiddgadcpaa
open Go.RowKit

/-- the definition's Money, with its own wraps -/
def moneyRef (r : Row) (p : Int) : Int :=
  let f := if r.kind = 1 then wrap64 (-r.amount) else if r.kind = 3 then r.amount else 0
  let n := if r.frm = p then wrap64 (0 + f) else 0
  if r.to = p then wrap64 (n - f) else n

end Go.Proofs.Ytlljmiddgadcpaa

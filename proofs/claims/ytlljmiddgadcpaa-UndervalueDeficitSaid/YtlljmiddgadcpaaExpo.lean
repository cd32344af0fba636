/- The contract of preference.Exposure and of the definition's Exposure. -/
import Derived.Test.YtlljmiddgadcpaaRow
import Derived.Test.YtlljmiddgadcpaaRows
set_option linter.unusedVariables false
set_option linter.unusedSimpArgs false
namespace Go.Proofs.Ytlljmiddgadcpaa
open Go.RowKit

end Go.Proofs.Ytlljmiddgadcpaa

/- The definition's CheckTrace and Trace. -/
import Derived.Test.YtlljmiddgadcpaaTraceRefW
import Derived.Test.YtlljmiddgadcpaaHistRef
import Derived.Test.YtlljmiddgadcpaaTrace
set_option linter.unusedVariables false
set_option linter.unusedSimpArgs false
namespace Go.Proofs.Ytlljmiddgadcpaa
open Go.RowKit

end Go.Proofs.Ytlljmiddgadcpaa

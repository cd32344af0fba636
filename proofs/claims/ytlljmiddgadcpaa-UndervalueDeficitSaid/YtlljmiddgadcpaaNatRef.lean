/- the definition's operations on strings: NatCompare, NatAdd, NatSubtract, NatMultiply. -/
import Derived.Test.YtlljmiddgadcpaaFew
import Derived.Test.YtlljmiddgadcpaaTimes
import Derived.Test.YtlljmiddgadcpaaPlus
import Derived.Test.YtlljmiddgadcpaaMinus
import Derived.Test.YtlljmiddgadcpaaUint
set_option linter.unusedVariables false
set_option linter.unusedSimpArgs false
namespace Go.Proofs.Ytlljmiddgadcpaa
open Go.RowKit

section
variable {s t : ByteArray} {x y z : Nat}

end

end Go.Proofs.Ytlljmiddgadcpaa

/- Merged of FewQ Few8. -/
import Derived.Test.YtomfcmlomfcghaaGreatDoorM41
import Derived.Test.YtomfcmlomfcghaaGreatDoorSameI
/- insolvencylaw0.Few. -/
set_option linter.unusedVariables false
set_option linter.unusedSimpArgs false
namespace Go.Proofs.YtomfcmlomfcghaaGreatDoor
open Go.RowKit

end Go.Proofs.YtomfcmlomfcghaaGreatDoor

/- insolvencylaw8.few. -/
set_option linter.unusedVariables false
set_option linter.unusedSimpArgs false
namespace Go.Proofs.YtomfcmlomfcghaaGreatDoor
open Go.RowKit

end Go.Proofs.YtomfcmlomfcghaaGreatDoor

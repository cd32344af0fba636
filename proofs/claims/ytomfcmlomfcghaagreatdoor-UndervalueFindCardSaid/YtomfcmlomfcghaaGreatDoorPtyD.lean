/- The parties of two examples: plain laws. -/
import Derived.Test.YtomfcmlomfcghaaGreatDoorPtyC
set_option linter.unusedVariables false
set_option linter.unusedSimpArgs false
namespace Go.Proofs.YtomfcmlomfcghaaGreatDoor
open Go.RowKit

end Go.Proofs.YtomfcmlomfcghaaGreatDoor

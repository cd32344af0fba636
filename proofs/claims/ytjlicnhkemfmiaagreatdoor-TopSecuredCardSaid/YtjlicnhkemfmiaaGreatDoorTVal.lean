/- interest.Simple of one step; register.Value. -/
import Derived.Test.YtjlicnhkemfmiaaGreatDoorTInt
set_option linter.unusedVariables false
set_option linter.unusedSimpArgs false
namespace Go.Proofs.YtjlicnhkemfmiaaGreatDoor
open Go.RowKit

end Go.Proofs.YtjlicnhkemfmiaaGreatDoor

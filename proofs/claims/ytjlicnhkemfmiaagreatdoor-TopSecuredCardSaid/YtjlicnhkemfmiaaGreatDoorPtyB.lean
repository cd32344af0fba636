/- Parties: plain laws for the statements. Nothing of the program's text. -/
import Derived.Test.YtjlicnhkemfmiaaGreatDoorPty
set_option linter.unusedVariables false
set_option linter.unusedSimpArgs false
namespace Go.Proofs.YtjlicnhkemfmiaaGreatDoor
open Go.RowKit

/-! the list of a set -/
end Go.Proofs.YtjlicnhkemfmiaaGreatDoor

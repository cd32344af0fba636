/- A world for the witness: the settled one, the listed tables laid. -/
import Derived.Test.YtjlicnhkemfmiaaGreatDoorCards
import Derived.Test.YtjlicnhkemfmiaaGreatDoorTie
import Derived.WalkKit
import Derived.ProofKit
import Derived.OpenShut
import Derived.Deep.DeepHandedRow
import Derived.Lib.LaidTab
set_option linter.unusedVariables false
set_option linter.unusedSimpArgs false
namespace Go.Proofs.YtjlicnhkemfmiaaGreatDoor
open Go.RowKit

def litCell : DataW Unit → List Value
 | .lit v => [v.value]
 | _ => []
def litRow : DataW Unit → List Value
 | .lit v => [v.value]
 | .agg l => l.flatMap litCell
 | _ => []
def litCells : DataW Unit → List Value
 | .agg l => l.flatMap litRow
 | _ => []
noncomputable def laidWorld (os : Os) : World :=
  let w0 := World.holding Tryz.prog os ⟨#[], #[], []⟩
  { w0 with heap := ((((w0.heap.modify 1 fun
      | .cells _ t frozen => .cells (litCells Rows.laid_math_bits_deBruijn32tab).toArray t frozen
      | o => o).modify 2 fun
      | .cells _ t frozen => .cells (litCells Rows.laid_math_bits_deBruijn64tab).toArray t frozen
      | o => o).modify 4 fun
      | .cells _ t frozen => .cells (litCells Rows.laid_unicode_utf8_acceptRanges).toArray t frozen
      | o => o).modify 3 fun
      | .cells _ t frozen => .cells (litCells Rows.laid_unicode_utf8_first).toArray t frozen
      | o => o) }

end Go.Proofs.YtjlicnhkemfmiaaGreatDoor

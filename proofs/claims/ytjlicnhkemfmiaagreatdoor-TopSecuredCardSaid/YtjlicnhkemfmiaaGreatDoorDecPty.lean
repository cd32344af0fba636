/- Arguments of types api.Parties, [][3]uint16, [][2]uint16, api.Window, [3]uint8 opened. -/
import Derived.Test.YtjlicnhkemfmiaaGreatDoorDec
import Derived.Test.YtjlicnhkemfmiaaGreatDoorM2
import Derived.Test.YtjlicnhkemfmiaaGreatDoorPtyM
set_option linter.unusedVariables false
set_option linter.unusedSimpArgs false
set_option maxRecDepth 100000
namespace Go.Proofs.YtjlicnhkemfmiaaGreatDoor
open Go.RowKit Go.ChangeShapes Go.WideShapes Go.Deep Go.ChangeAt

section
variable {H : Type} {enc : TypeId × Value → H} {w : World} {base : Nat} {spare : Nat → Bool} {held : Bool} {fuel : Nat} {cs : List Value} {x : DataW H × List MemPlace}

structure W3 where
  a : Int
  b : Int
  c : Int
end
end Go.Proofs.YtjlicnhkemfmiaaGreatDoor

/-
  DERIVED. GIVEN WITH THE SEED: THE CARDS: each row of YtjlicnhkemfmiaaDoorRows.lean that lists a variable, with what it lists TIED to the program's text (the seventh form; the later family's looks); each row that meets fmt, with fmt's text TOLD by the authors' own Lean function (tested against real Go, not proved from fmt's source: count such statements apart). THE CARD IS WHAT COUNTS. Prove the row's statement (the work); the ties are given (YtjlicnhkemfmiaaDoorTie.lean); close each card by the builder's one call (the guide's Derived/Test/ToyasCard.lean, 'card_holds'). Laid BY PROGRAM, IN A SANDBOX (cutbox-door.mjs). By AI agents, Wed Nov 11 2026. No macro, syntax, notation, axiom, sorry.
-/
import Derived.Test.YtjlicnhkemfmiaaDoorRows
import GoSem.ClaimSeven
namespace Go.Proofs.YtjlicnhkemfmiaaDoor
namespace Rows

/-- THE TIED CARD OF 'insolvencytop.TopInterest'. -/
def topInterestCard : Claim7 := { stood := { row := topInterestRow, standIns := [], harness := (true, "723131937be0a59939722141a61c73185fdc05cb9262a1de228d206c68bf7e45"), looks := false }, kinds := [], alts := [], laidByText := true, laidKinds := [.data, .pinned], laidTests := true, laidLooks := .later }
def TopInterestCardSaid : Prop := Claim7.holds Tryd.pinned (.plain (OpenSpec.ofChange topInterestSpec)) topInterestCard

/-- THE SECOND FORM's CARD OF 'insolvencytop.TopInterest'. -/
def topInterestUptoCard : Claim7 := { stood := { row := topInterestUptoRow, standIns := [], harness := (true, "723131937be0a59939722141a61c73185fdc05cb9262a1de228d206c68bf7e45"), looks := false }, kinds := [], alts := [], laidByText := true, laidKinds := [.data, .pinned], laidTests := true, laidLooks := .later }
def TopInterestUptoCardSaid : Prop := Claim7.holds Tryd.pinned (.plain (OpenSpec.upto topInterestSpec)) topInterestUptoCard
end Rows
end Go.Proofs.YtjlicnhkemfmiaaDoor

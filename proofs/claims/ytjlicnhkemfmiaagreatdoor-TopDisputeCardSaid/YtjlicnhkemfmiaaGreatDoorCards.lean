/-
  DERIVED. GIVEN WITH THE SEED: THE CARDS: each row of YtjlicnhkemfmiaaGreatDoorRows.lean that lists a variable, with what it lists TIED to the program's text (the seventh form; the later family's looks); each row that meets fmt, with fmt's text TOLD by the authors' own Lean function (tested against real Go, not proved from fmt's source: count such statements apart). THE CARD IS WHAT COUNTS. Prove the row's statement (the work); the ties are given (YtjlicnhkemfmiaaGreatDoorTie.lean); close each card by the builder's one call (the guide's Derived/Test/ToyasCard.lean, 'card_holds'). Laid BY PROGRAM, IN A SANDBOX (cutbox-door.mjs). By AI agents, Wed Nov 11 2026. No macro, syntax, notation, axiom, sorry.
-/
import Derived.Test.YtjlicnhkemfmiaaGreatDoorRows
import GoSem.ClaimSeven
namespace Go.Proofs.YtjlicnhkemfmiaaGreatDoor
namespace Rows

/-- THE TIED CARD OF 'insolvencytop.TopSecured'. -/
def topSecuredCard : Claim7 := { stood := { row := topSecuredRow, standIns := [], harness := (true, "84247bd9079361eb435d780cd9f42e3402018b0230bed1b9e21bbed34def3203"), looks := false }, kinds := [], alts := [], laidByText := true, laidKinds := [.data, .data, .data, .pinned], laidTests := true, laidLooks := .later }
def TopSecuredCardSaid : Prop := Claim7.holds Tryz.pinned (.plain (OpenSpec.ofChange topSecuredSpec)) topSecuredCard

/-- THE TIED CARD OF 'insolvencytop.TopDispute'. -/
def topDisputeCard : Claim7 := { stood := { row := topDisputeRow, standIns := [], harness := (true, "84247bd9079361eb435d780cd9f42e3402018b0230bed1b9e21bbed34def3203"), looks := false }, kinds := [], alts := [], laidByText := true, laidKinds := [.data, .pinned], laidTests := true, laidLooks := .later }
def TopDisputeCardSaid : Prop := Claim7.holds Tryz.pinned (.plain (OpenSpec.ofChange topDisputeSpec)) topDisputeCard

/-- THE SECOND FORM's CARD OF 'insolvencytop.TopSecured'. -/
def topSecuredUptoCard : Claim7 := { stood := { row := topSecuredUptoRow, standIns := [], harness := (true, "84247bd9079361eb435d780cd9f42e3402018b0230bed1b9e21bbed34def3203"), looks := false }, kinds := [], alts := [], laidByText := true, laidKinds := [.data, .data, .data, .pinned], laidTests := true, laidLooks := .later }
def TopSecuredUptoCardSaid : Prop := Claim7.holds Tryz.pinned (.plain (OpenSpec.upto topSecuredSpec)) topSecuredUptoCard

/-- THE SECOND FORM's CARD OF 'insolvencytop.TopDispute'. -/
def topDisputeUptoCard : Claim7 := { stood := { row := topDisputeUptoRow, standIns := [], harness := (true, "84247bd9079361eb435d780cd9f42e3402018b0230bed1b9e21bbed34def3203"), looks := false }, kinds := [], alts := [], laidByText := true, laidKinds := [.data, .pinned], laidTests := true, laidLooks := .later }
def TopDisputeUptoCardSaid : Prop := Claim7.holds Tryz.pinned (.plain (OpenSpec.upto topDisputeSpec)) topDisputeUptoCard
end Rows
end Go.Proofs.YtjlicnhkemfmiaaGreatDoor

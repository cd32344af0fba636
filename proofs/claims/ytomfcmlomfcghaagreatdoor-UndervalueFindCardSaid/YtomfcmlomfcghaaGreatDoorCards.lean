/-
  DERIVED. GIVEN WITH THE SEED: THE CARDS: each row of YtomfcmlomfcghaaGreatDoorRows.lean that lists a variable, with what it lists TIED to the program's text (the seventh form; the later family's looks); each row that meets fmt, with fmt's text TOLD by the authors' own Lean function (tested against real Go, not proved from fmt's source: count such statements apart). THE CARD IS WHAT COUNTS. Prove the row's statement (the work); the ties are given (YtomfcmlomfcghaaGreatDoorTie.lean); close each card by the builder's one call (the guide's Derived/Test/ToyasCard.lean, 'card_holds'). Laid BY PROGRAM, IN A SANDBOX (cutbox-door.mjs). By AI agents, Wed Nov 11 2026. No macro, syntax, notation, axiom, sorry.
-/
import Derived.Test.YtomfcmlomfcghaaGreatDoorRows
import GoSem.ClaimSeven
namespace Go.Proofs.YtomfcmlomfcghaaGreatDoor
namespace Rows

/-- THE TIED CARD OF 'insolvencylaw8.PartyControlled'. -/
def partyControlledCard : Claim7 := { stood := { row := partyControlledRow, standIns := [], harness := (true, "5ff42923c35e2f90daaf05f964ead1cc420d6e1f85cac4f4ff706a47d2347b28"), looks := false }, kinds := [], alts := [], laidByText := true, laidKinds := [.data, .pinned], laidTests := true, laidLooks := .later }
def PartyControlledCardSaid : Prop := Claim7.holds Tryz.pinned (.plain (OpenSpec.ofChange partyControlledSpec)) partyControlledCard

/-- THE TIED CARD OF 'insolvencylaw8.PartyBuilt'. -/
def partyBuiltCard : Claim7 := { stood := { row := partyBuiltRow, standIns := [], harness := (true, "5ff42923c35e2f90daaf05f964ead1cc420d6e1f85cac4f4ff706a47d2347b28"), looks := false }, kinds := [], alts := [], laidByText := true, laidKinds := [.data, .pinned], laidTests := true, laidLooks := .later }
def PartyBuiltCardSaid : Prop := Claim7.holds Tryz.pinned (.plain (OpenSpec.ofChange partyBuiltSpec)) partyBuiltCard

/-- THE TIED CARD OF 'insolvencylaw8.PartyConnected'. -/
def partyConnectedCard : Claim7 := { stood := { row := partyConnectedRow, standIns := [], harness := (true, "5ff42923c35e2f90daaf05f964ead1cc420d6e1f85cac4f4ff706a47d2347b28"), looks := false }, kinds := [], alts := [], laidByText := true, laidKinds := [.data, .pinned], laidTests := true, laidLooks := .later }
def PartyConnectedCardSaid : Prop := Claim7.holds Tryz.pinned (.plain (OpenSpec.ofChange partyConnectedSpec)) partyConnectedCard

/-- THE TIED CARD OF 'insolvencylaw26.PreferencePeriod'. -/
def preferencePeriodCard : Claim7 := { stood := { row := preferencePeriodRow, standIns := [], harness := (true, "5ff42923c35e2f90daaf05f964ead1cc420d6e1f85cac4f4ff706a47d2347b28"), looks := false }, kinds := [], alts := [], laidByText := true, laidKinds := [.data, .pinned], laidTests := true, laidLooks := .later }
def PreferencePeriodCardSaid : Prop := Claim7.holds Tryz.pinned (.plain (OpenSpec.ofChange preferencePeriodSpec)) preferencePeriodCard

/-- THE TIED CARD OF 'insolvencylaw26.PreferenceFind'. -/
def preferenceFindCard : Claim7 := { stood := { row := preferenceFindRow, standIns := [], harness := (true, "5ff42923c35e2f90daaf05f964ead1cc420d6e1f85cac4f4ff706a47d2347b28"), looks := false }, kinds := [], alts := [], laidByText := true, laidKinds := [.data, .pinned], laidTests := true, laidLooks := .later }
def PreferenceFindCardSaid : Prop := Claim7.holds Tryz.pinned (.plain (OpenSpec.ofChange preferenceFindSpec)) preferenceFindCard

/-- THE TIED CARD OF 'insolvencylaw26.PreferenceErrors'. -/
def preferenceErrorsCard : Claim7 := { stood := { row := preferenceErrorsRow, standIns := [], harness := (true, "5ff42923c35e2f90daaf05f964ead1cc420d6e1f85cac4f4ff706a47d2347b28"), looks := false }, kinds := [], alts := [], laidByText := true, laidKinds := [.data, .pinned], laidTests := true, laidLooks := .later }
def PreferenceErrorsCardSaid : Prop := Claim7.holds Tryz.pinned (.plain (OpenSpec.ofChange preferenceErrorsSpec)) preferenceErrorsCard

/-- THE TIED CARD OF 'insolvencylaw27.UndervalueFind'. -/
def undervalueFindCard : Claim7 := { stood := { row := undervalueFindRow, standIns := [], harness := (true, "5ff42923c35e2f90daaf05f964ead1cc420d6e1f85cac4f4ff706a47d2347b28"), looks := false }, kinds := [], alts := [], laidByText := true, laidKinds := [.data, .pinned], laidTests := true, laidLooks := .later }
def UndervalueFindCardSaid : Prop := Claim7.holds Tryz.pinned (.plain (OpenSpec.ofChange undervalueFindSpec)) undervalueFindCard

/-- THE SECOND FORM's CARD OF 'insolvencylaw8.PartyControlled'. -/
def partyControlledUptoCard : Claim7 := { stood := { row := partyControlledUptoRow, standIns := [], harness := (true, "5ff42923c35e2f90daaf05f964ead1cc420d6e1f85cac4f4ff706a47d2347b28"), looks := false }, kinds := [], alts := [], laidByText := true, laidKinds := [.data, .pinned], laidTests := true, laidLooks := .later }
def PartyControlledUptoCardSaid : Prop := Claim7.holds Tryz.pinned (.plain (OpenSpec.upto partyControlledSpec)) partyControlledUptoCard

/-- THE SECOND FORM's CARD OF 'insolvencylaw8.PartyBuilt'. -/
def partyBuiltUptoCard : Claim7 := { stood := { row := partyBuiltUptoRow, standIns := [], harness := (true, "5ff42923c35e2f90daaf05f964ead1cc420d6e1f85cac4f4ff706a47d2347b28"), looks := false }, kinds := [], alts := [], laidByText := true, laidKinds := [.data, .pinned], laidTests := true, laidLooks := .later }
def PartyBuiltUptoCardSaid : Prop := Claim7.holds Tryz.pinned (.plain (OpenSpec.upto partyBuiltSpec)) partyBuiltUptoCard

/-- THE SECOND FORM's CARD OF 'insolvencylaw8.PartyConnected'. -/
def partyConnectedUptoCard : Claim7 := { stood := { row := partyConnectedUptoRow, standIns := [], harness := (true, "5ff42923c35e2f90daaf05f964ead1cc420d6e1f85cac4f4ff706a47d2347b28"), looks := false }, kinds := [], alts := [], laidByText := true, laidKinds := [.data, .pinned], laidTests := true, laidLooks := .later }
def PartyConnectedUptoCardSaid : Prop := Claim7.holds Tryz.pinned (.plain (OpenSpec.upto partyConnectedSpec)) partyConnectedUptoCard

/-- THE SECOND FORM's CARD OF 'insolvencylaw26.PreferencePeriod'. -/
def preferencePeriodUptoCard : Claim7 := { stood := { row := preferencePeriodUptoRow, standIns := [], harness := (true, "5ff42923c35e2f90daaf05f964ead1cc420d6e1f85cac4f4ff706a47d2347b28"), looks := false }, kinds := [], alts := [], laidByText := true, laidKinds := [.data, .pinned], laidTests := true, laidLooks := .later }
def PreferencePeriodUptoCardSaid : Prop := Claim7.holds Tryz.pinned (.plain (OpenSpec.upto preferencePeriodSpec)) preferencePeriodUptoCard

/-- THE SECOND FORM's CARD OF 'insolvencylaw26.PreferenceFind'. -/
def preferenceFindUptoCard : Claim7 := { stood := { row := preferenceFindUptoRow, standIns := [], harness := (true, "5ff42923c35e2f90daaf05f964ead1cc420d6e1f85cac4f4ff706a47d2347b28"), looks := false }, kinds := [], alts := [], laidByText := true, laidKinds := [.data, .pinned], laidTests := true, laidLooks := .later }
def PreferenceFindUptoCardSaid : Prop := Claim7.holds Tryz.pinned (.plain (OpenSpec.upto preferenceFindSpec)) preferenceFindUptoCard

/-- THE SECOND FORM's CARD OF 'insolvencylaw26.PreferenceErrors'. -/
def preferenceErrorsUptoCard : Claim7 := { stood := { row := preferenceErrorsUptoRow, standIns := [], harness := (true, "5ff42923c35e2f90daaf05f964ead1cc420d6e1f85cac4f4ff706a47d2347b28"), looks := false }, kinds := [], alts := [], laidByText := true, laidKinds := [.data, .pinned], laidTests := true, laidLooks := .later }
def PreferenceErrorsUptoCardSaid : Prop := Claim7.holds Tryz.pinned (.plain (OpenSpec.upto preferenceErrorsSpec)) preferenceErrorsUptoCard

/-- THE SECOND FORM's CARD OF 'insolvencylaw27.UndervalueFind'. -/
def undervalueFindUptoCard : Claim7 := { stood := { row := undervalueFindUptoRow, standIns := [], harness := (true, "5ff42923c35e2f90daaf05f964ead1cc420d6e1f85cac4f4ff706a47d2347b28"), looks := false }, kinds := [], alts := [], laidByText := true, laidKinds := [.data, .pinned], laidTests := true, laidLooks := .later }
def UndervalueFindUptoCardSaid : Prop := Claim7.holds Tryz.pinned (.plain (OpenSpec.upto undervalueFindSpec)) undervalueFindUptoCard
end Rows
end Go.Proofs.YtomfcmlomfcghaaGreatDoor

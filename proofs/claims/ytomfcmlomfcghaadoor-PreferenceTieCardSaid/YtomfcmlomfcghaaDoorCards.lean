/-
  DERIVED. GIVEN WITH THE SEED: THE CARDS: each row of YtomfcmlomfcghaaDoorRows.lean that lists a variable, with what it lists TIED to the program's text (the seventh form; the later family's looks); each row that meets fmt, with fmt's text TOLD by the authors' own Lean function (tested against real Go, not proved from fmt's source: count such statements apart). THE CARD IS WHAT COUNTS. Prove the row's statement (the work); the ties are given (YtomfcmlomfcghaaDoorTie.lean); close each card by the builder's one call (the guide's Derived/Test/ToyasCard.lean, 'card_holds'). Laid BY PROGRAM, IN A SANDBOX (cutbox-door.mjs). By AI agents, Wed Nov 11 2026. No macro, syntax, notation, axiom, sorry.
-/
import Derived.Test.YtomfcmlomfcghaaDoorRows
import GoSem.ClaimSeven
namespace Go.Proofs.YtomfcmlomfcghaaDoor
namespace Rows

/-- THE TIED CARD OF 'insolvencylaw8.PartyCheck'. -/
def partyCheckCard : Claim7 := { stood := { row := partyCheckRow, standIns := [], harness := (true, "8006eef32a5bb0bee7fe759016cbe1e10cd6b37328a0c548d03d95e35421faf6"), looks := false }, kinds := [], alts := [], laidByText := true, laidKinds := [.data, .pinned], laidTests := true, laidLooks := .later }
def PartyCheckCardSaid : Prop := Claim7.holds Tryd.pinned (.plain (OpenSpec.ofChange partyCheckSpec)) partyCheckCard

/-- THE TIED CARD OF 'insolvencylaw8.PartyMany'. -/
def partyManyCard : Claim7 := { stood := { row := partyManyRow, standIns := [], harness := (true, "8006eef32a5bb0bee7fe759016cbe1e10cd6b37328a0c548d03d95e35421faf6"), looks := false }, kinds := [], alts := [], laidByText := true, laidKinds := [.data, .pinned], laidTests := true, laidLooks := .later }
def PartyManyCardSaid : Prop := Claim7.holds Tryd.pinned (.plain (OpenSpec.ofChange partyManySpec)) partyManyCard

/-- THE TIED CARD OF 'insolvencylaw8.PartyFixpoint'. -/
def partyFixpointCard : Claim7 := { stood := { row := partyFixpointRow, standIns := [], harness := (true, "8006eef32a5bb0bee7fe759016cbe1e10cd6b37328a0c548d03d95e35421faf6"), looks := false }, kinds := [], alts := [], laidByText := true, laidKinds := [.data, .pinned], laidTests := true, laidLooks := .later }
def PartyFixpointCardSaid : Prop := Claim7.holds Tryd.pinned (.plain (OpenSpec.ofChange partyFixpointSpec)) partyFixpointCard

/-- THE TIED CARD OF 'insolvencylaw8.PartyMore'. -/
def partyMoreCard : Claim7 := { stood := { row := partyMoreRow, standIns := [], harness := (true, "8006eef32a5bb0bee7fe759016cbe1e10cd6b37328a0c548d03d95e35421faf6"), looks := false }, kinds := [], alts := [], laidByText := true, laidKinds := [.data, .pinned], laidTests := true, laidLooks := .later }
def PartyMoreCardSaid : Prop := Claim7.holds Tryd.pinned (.plain (OpenSpec.ofChange partyMoreSpec)) partyMoreCard

/-- THE TIED CARD OF 'insolvencylaw8.PartyChain'. -/
def partyChainCard : Claim7 := { stood := { row := partyChainRow, standIns := [], harness := (true, "8006eef32a5bb0bee7fe759016cbe1e10cd6b37328a0c548d03d95e35421faf6"), looks := false }, kinds := [], alts := [], laidByText := true, laidKinds := [.data, .pinned], laidTests := true, laidLooks := .later }
def PartyChainCardSaid : Prop := Claim7.holds Tryd.pinned (.plain (OpenSpec.ofChange partyChainSpec)) partyChainCard

/-- THE TIED CARD OF 'insolvencylaw8.PartySymmetric'. -/
def partySymmetricCard : Claim7 := { stood := { row := partySymmetricRow, standIns := [], harness := (true, "8006eef32a5bb0bee7fe759016cbe1e10cd6b37328a0c548d03d95e35421faf6"), looks := false }, kinds := [], alts := [], laidByText := true, laidKinds := [.data, .pinned], laidTests := true, laidLooks := .later }
def PartySymmetricCardSaid : Prop := Claim7.holds Tryd.pinned (.plain (OpenSpec.ofChange partySymmetricSpec)) partySymmetricCard

/-- THE TIED CARD OF 'insolvencylaw26.PreferenceWider'. -/
def preferenceWiderCard : Claim7 := { stood := { row := preferenceWiderRow, standIns := [], harness := (true, "8006eef32a5bb0bee7fe759016cbe1e10cd6b37328a0c548d03d95e35421faf6"), looks := false }, kinds := [], alts := [], laidByText := true, laidKinds := [.data, .pinned], laidTests := true, laidLooks := .later }
def PreferenceWiderCardSaid : Prop := Claim7.holds Tryd.pinned (.plain (OpenSpec.ofChange preferenceWiderSpec)) preferenceWiderCard

/-- THE TIED CARD OF 'insolvencylaw26.PreferenceTie'. -/
def preferenceTieCard : Claim7 := { stood := { row := preferenceTieRow, standIns := [], harness := (true, "8006eef32a5bb0bee7fe759016cbe1e10cd6b37328a0c548d03d95e35421faf6"), looks := false }, kinds := [], alts := [], laidByText := true, laidKinds := [.data, .pinned], laidTests := true, laidLooks := .later }
def PreferenceTieCardSaid : Prop := Claim7.holds Tryd.pinned (.plain (OpenSpec.ofChange preferenceTieSpec)) preferenceTieCard

/-- THE SECOND FORM's CARD OF 'insolvencylaw8.PartyCheck'. -/
def partyCheckUptoCard : Claim7 := { stood := { row := partyCheckUptoRow, standIns := [], harness := (true, "8006eef32a5bb0bee7fe759016cbe1e10cd6b37328a0c548d03d95e35421faf6"), looks := false }, kinds := [], alts := [], laidByText := true, laidKinds := [.data, .pinned], laidTests := true, laidLooks := .later }
def PartyCheckUptoCardSaid : Prop := Claim7.holds Tryd.pinned (.plain (OpenSpec.upto partyCheckSpec)) partyCheckUptoCard

/-- THE SECOND FORM's CARD OF 'insolvencylaw8.PartyMany'. -/
def partyManyUptoCard : Claim7 := { stood := { row := partyManyUptoRow, standIns := [], harness := (true, "8006eef32a5bb0bee7fe759016cbe1e10cd6b37328a0c548d03d95e35421faf6"), looks := false }, kinds := [], alts := [], laidByText := true, laidKinds := [.data, .pinned], laidTests := true, laidLooks := .later }
def PartyManyUptoCardSaid : Prop := Claim7.holds Tryd.pinned (.plain (OpenSpec.upto partyManySpec)) partyManyUptoCard

/-- THE SECOND FORM's CARD OF 'insolvencylaw8.PartyFixpoint'. -/
def partyFixpointUptoCard : Claim7 := { stood := { row := partyFixpointUptoRow, standIns := [], harness := (true, "8006eef32a5bb0bee7fe759016cbe1e10cd6b37328a0c548d03d95e35421faf6"), looks := false }, kinds := [], alts := [], laidByText := true, laidKinds := [.data, .pinned], laidTests := true, laidLooks := .later }
def PartyFixpointUptoCardSaid : Prop := Claim7.holds Tryd.pinned (.plain (OpenSpec.upto partyFixpointSpec)) partyFixpointUptoCard

/-- THE SECOND FORM's CARD OF 'insolvencylaw8.PartyMore'. -/
def partyMoreUptoCard : Claim7 := { stood := { row := partyMoreUptoRow, standIns := [], harness := (true, "8006eef32a5bb0bee7fe759016cbe1e10cd6b37328a0c548d03d95e35421faf6"), looks := false }, kinds := [], alts := [], laidByText := true, laidKinds := [.data, .pinned], laidTests := true, laidLooks := .later }
def PartyMoreUptoCardSaid : Prop := Claim7.holds Tryd.pinned (.plain (OpenSpec.upto partyMoreSpec)) partyMoreUptoCard

/-- THE SECOND FORM's CARD OF 'insolvencylaw8.PartyChain'. -/
def partyChainUptoCard : Claim7 := { stood := { row := partyChainUptoRow, standIns := [], harness := (true, "8006eef32a5bb0bee7fe759016cbe1e10cd6b37328a0c548d03d95e35421faf6"), looks := false }, kinds := [], alts := [], laidByText := true, laidKinds := [.data, .pinned], laidTests := true, laidLooks := .later }
def PartyChainUptoCardSaid : Prop := Claim7.holds Tryd.pinned (.plain (OpenSpec.upto partyChainSpec)) partyChainUptoCard

/-- THE SECOND FORM's CARD OF 'insolvencylaw8.PartySymmetric'. -/
def partySymmetricUptoCard : Claim7 := { stood := { row := partySymmetricUptoRow, standIns := [], harness := (true, "8006eef32a5bb0bee7fe759016cbe1e10cd6b37328a0c548d03d95e35421faf6"), looks := false }, kinds := [], alts := [], laidByText := true, laidKinds := [.data, .pinned], laidTests := true, laidLooks := .later }
def PartySymmetricUptoCardSaid : Prop := Claim7.holds Tryd.pinned (.plain (OpenSpec.upto partySymmetricSpec)) partySymmetricUptoCard

/-- THE SECOND FORM's CARD OF 'insolvencylaw26.PreferenceWider'. -/
def preferenceWiderUptoCard : Claim7 := { stood := { row := preferenceWiderUptoRow, standIns := [], harness := (true, "8006eef32a5bb0bee7fe759016cbe1e10cd6b37328a0c548d03d95e35421faf6"), looks := false }, kinds := [], alts := [], laidByText := true, laidKinds := [.data, .pinned], laidTests := true, laidLooks := .later }
def PreferenceWiderUptoCardSaid : Prop := Claim7.holds Tryd.pinned (.plain (OpenSpec.upto preferenceWiderSpec)) preferenceWiderUptoCard

/-- THE SECOND FORM's CARD OF 'insolvencylaw26.PreferenceTie'. -/
def preferenceTieUptoCard : Claim7 := { stood := { row := preferenceTieUptoRow, standIns := [], harness := (true, "8006eef32a5bb0bee7fe759016cbe1e10cd6b37328a0c548d03d95e35421faf6"), looks := false }, kinds := [], alts := [], laidByText := true, laidKinds := [.data, .pinned], laidTests := true, laidLooks := .later }
def PreferenceTieUptoCardSaid : Prop := Claim7.holds Tryd.pinned (.plain (OpenSpec.upto preferenceTieSpec)) preferenceTieUptoCard
end Rows
end Go.Proofs.YtomfcmlomfcghaaDoor

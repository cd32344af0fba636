/-
  DERIVED. GIVEN WITH THE SEED: THE CARDS: each row of YtcljkdjmmolfoaaDoorRows.lean that lists a variable, with what it lists TIED to the program's text (the seventh form; the later family's looks); each row that meets fmt, with fmt's text TOLD by the authors' own Lean function (tested against real Go, not proved from fmt's source: count such statements apart). THE CARD IS WHAT COUNTS. Prove the row's statement (the work); the ties are given (YtcljkdjmmolfoaaDoorTie.lean); close each card by the builder's one call (the guide's Derived/Test/ToyasCard.lean, 'card_holds'). Laid BY PROGRAM, IN A SANDBOX (cutbox-door.mjs). By AI agents, Wed Nov 11 2026. No macro, syntax, notation, axiom, sorry.
-/
import Derived.Test.YtcljkdjmmolfoaaDoorRows
import GoSem.ClaimSeven
namespace Go.Proofs.YtcljkdjmmolfoaaDoor
namespace Rows

/-- THE TIED CARD OF 'insolvencylaw35.CodecSum'. -/
def codecSumCard : Claim7 := { stood := { row := codecSumRow, standIns := [], harness := (true, "4e65646485b969538958c9567394a8e153a7a0f7db09a6a3bf4ec9ddf9630599"), looks := false }, kinds := [], alts := [], laidByText := true, laidKinds := [.data, .pinned], laidTests := true, laidLooks := .later }
def CodecSumCardSaid : Prop := Claim7.holds Tryd.pinned (.plain (OpenSpec.ofChange codecSumSpec)) codecSumCard

/-- THE TIED CARD OF 'insolvencylaw35.CodecChange'. -/
def codecChangeCard : Claim7 := { stood := { row := codecChangeRow, standIns := [], harness := (true, "4e65646485b969538958c9567394a8e153a7a0f7db09a6a3bf4ec9ddf9630599"), looks := false }, kinds := [], alts := [], laidByText := true, laidKinds := [.data, .pinned], laidTests := true, laidLooks := .later }
def CodecChangeCardSaid : Prop := Claim7.holds Tryd.pinned (.plain (OpenSpec.ofChange codecChangeSpec)) codecChangeCard

/-- THE TIED CARD OF 'insolvencylaw35.CodecEncode'. -/
def codecEncodeCard : Claim7 := { stood := { row := codecEncodeRow, standIns := [], harness := (true, "4e65646485b969538958c9567394a8e153a7a0f7db09a6a3bf4ec9ddf9630599"), looks := false }, kinds := [], alts := [], laidByText := true, laidKinds := [.data, .pinned], laidTests := true, laidLooks := .later }
def CodecEncodeCardSaid : Prop := Claim7.holds Tryd.pinned (.plain (OpenSpec.ofChange codecEncodeSpec)) codecEncodeCard

/-- THE TIED CARD OF 'insolvencylaw35.CodecEdges'. -/
def codecEdgesCard : Claim7 := { stood := { row := codecEdgesRow, standIns := [], harness := (true, "4e65646485b969538958c9567394a8e153a7a0f7db09a6a3bf4ec9ddf9630599"), looks := false }, kinds := [], alts := [], laidByText := true, laidKinds := [.data, .pinned], laidTests := true, laidLooks := .later }
def CodecEdgesCardSaid : Prop := Claim7.holds Tryd.pinned (.plain (OpenSpec.ofChange codecEdgesSpec)) codecEdgesCard

/-- THE TIED CARD OF 'insolvencylaw35.CodecDecode'. -/
def codecDecodeCard : Claim7 := { stood := { row := codecDecodeRow, standIns := [], harness := (true, "4e65646485b969538958c9567394a8e153a7a0f7db09a6a3bf4ec9ddf9630599"), looks := false }, kinds := [], alts := [], laidByText := true, laidKinds := [.data, .pinned], laidTests := true, laidLooks := .later }
def CodecDecodeCardSaid : Prop := Claim7.holds Tryd.pinned (.plain (OpenSpec.ofChange codecDecodeSpec)) codecDecodeCard

/-- THE TIED CARD OF 'insolvencylaw35.CodecRound'. -/
def codecRoundCard : Claim7 := { stood := { row := codecRoundRow, standIns := [], harness := (true, "4e65646485b969538958c9567394a8e153a7a0f7db09a6a3bf4ec9ddf9630599"), looks := false }, kinds := [], alts := [], laidByText := true, laidKinds := [.data, .pinned], laidTests := true, laidLooks := .later }
def CodecRoundCardSaid : Prop := Claim7.holds Tryd.pinned (.plain (OpenSpec.ofChange codecRoundSpec)) codecRoundCard

/-- THE TIED CARD OF 'insolvencylaw35.CodecPrefix'. -/
def codecPrefixCard : Claim7 := { stood := { row := codecPrefixRow, standIns := [], harness := (true, "4e65646485b969538958c9567394a8e153a7a0f7db09a6a3bf4ec9ddf9630599"), looks := false }, kinds := [], alts := [], laidByText := true, laidKinds := [.data, .pinned], laidTests := true, laidLooks := .later }
def CodecPrefixCardSaid : Prop := Claim7.holds Tryd.pinned (.plain (OpenSpec.ofChange codecPrefixSpec)) codecPrefixCard

/-- THE SECOND FORM's CARD OF 'insolvencylaw35.CodecSum'. -/
def codecSumUptoCard : Claim7 := { stood := { row := codecSumUptoRow, standIns := [], harness := (true, "4e65646485b969538958c9567394a8e153a7a0f7db09a6a3bf4ec9ddf9630599"), looks := false }, kinds := [], alts := [], laidByText := true, laidKinds := [.data, .pinned], laidTests := true, laidLooks := .later }
def CodecSumUptoCardSaid : Prop := Claim7.holds Tryd.pinned (.plain (OpenSpec.upto codecSumSpec)) codecSumUptoCard

/-- THE SECOND FORM's CARD OF 'insolvencylaw35.CodecChange'. -/
def codecChangeUptoCard : Claim7 := { stood := { row := codecChangeUptoRow, standIns := [], harness := (true, "4e65646485b969538958c9567394a8e153a7a0f7db09a6a3bf4ec9ddf9630599"), looks := false }, kinds := [], alts := [], laidByText := true, laidKinds := [.data, .pinned], laidTests := true, laidLooks := .later }
def CodecChangeUptoCardSaid : Prop := Claim7.holds Tryd.pinned (.plain (OpenSpec.upto codecChangeSpec)) codecChangeUptoCard

/-- THE SECOND FORM's CARD OF 'insolvencylaw35.CodecEncode'. -/
def codecEncodeUptoCard : Claim7 := { stood := { row := codecEncodeUptoRow, standIns := [], harness := (true, "4e65646485b969538958c9567394a8e153a7a0f7db09a6a3bf4ec9ddf9630599"), looks := false }, kinds := [], alts := [], laidByText := true, laidKinds := [.data, .pinned], laidTests := true, laidLooks := .later }
def CodecEncodeUptoCardSaid : Prop := Claim7.holds Tryd.pinned (.plain (OpenSpec.upto codecEncodeSpec)) codecEncodeUptoCard

/-- THE SECOND FORM's CARD OF 'insolvencylaw35.CodecEdges'. -/
def codecEdgesUptoCard : Claim7 := { stood := { row := codecEdgesUptoRow, standIns := [], harness := (true, "4e65646485b969538958c9567394a8e153a7a0f7db09a6a3bf4ec9ddf9630599"), looks := false }, kinds := [], alts := [], laidByText := true, laidKinds := [.data, .pinned], laidTests := true, laidLooks := .later }
def CodecEdgesUptoCardSaid : Prop := Claim7.holds Tryd.pinned (.plain (OpenSpec.upto codecEdgesSpec)) codecEdgesUptoCard

/-- THE SECOND FORM's CARD OF 'insolvencylaw35.CodecDecode'. -/
def codecDecodeUptoCard : Claim7 := { stood := { row := codecDecodeUptoRow, standIns := [], harness := (true, "4e65646485b969538958c9567394a8e153a7a0f7db09a6a3bf4ec9ddf9630599"), looks := false }, kinds := [], alts := [], laidByText := true, laidKinds := [.data, .pinned], laidTests := true, laidLooks := .later }
def CodecDecodeUptoCardSaid : Prop := Claim7.holds Tryd.pinned (.plain (OpenSpec.upto codecDecodeSpec)) codecDecodeUptoCard

/-- THE SECOND FORM's CARD OF 'insolvencylaw35.CodecRound'. -/
def codecRoundUptoCard : Claim7 := { stood := { row := codecRoundUptoRow, standIns := [], harness := (true, "4e65646485b969538958c9567394a8e153a7a0f7db09a6a3bf4ec9ddf9630599"), looks := false }, kinds := [], alts := [], laidByText := true, laidKinds := [.data, .pinned], laidTests := true, laidLooks := .later }
def CodecRoundUptoCardSaid : Prop := Claim7.holds Tryd.pinned (.plain (OpenSpec.upto codecRoundSpec)) codecRoundUptoCard

/-- THE SECOND FORM's CARD OF 'insolvencylaw35.CodecPrefix'. -/
def codecPrefixUptoCard : Claim7 := { stood := { row := codecPrefixUptoRow, standIns := [], harness := (true, "4e65646485b969538958c9567394a8e153a7a0f7db09a6a3bf4ec9ddf9630599"), looks := false }, kinds := [], alts := [], laidByText := true, laidKinds := [.data, .pinned], laidTests := true, laidLooks := .later }
def CodecPrefixUptoCardSaid : Prop := Claim7.holds Tryd.pinned (.plain (OpenSpec.upto codecPrefixSpec)) codecPrefixUptoCard
end Rows
end Go.Proofs.YtcljkdjmmolfoaaDoor

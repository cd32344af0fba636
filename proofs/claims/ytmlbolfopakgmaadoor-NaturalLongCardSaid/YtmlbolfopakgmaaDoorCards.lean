/-
  DERIVED. GIVEN WITH THE SEED: THE CARDS: each row of YtmlbolfopakgmaaDoorRows.lean that lists a variable, with what it lists TIED to the program's text (the seventh form; the later family's looks); each row that meets fmt, with fmt's text TOLD by the authors' own Lean function (tested against real Go, not proved from fmt's source: count such statements apart). THE CARD IS WHAT COUNTS. Prove the row's statement (the work); the ties are given (YtmlbolfopakgmaaDoorTie.lean); close each card by the builder's one call (the guide's Derived/Test/ToyasCard.lean, 'card_holds'). Laid BY PROGRAM, IN A SANDBOX (cutbox-door.mjs). By AI agents, Wed Nov 11 2026. No macro, syntax, notation, axiom, sorry.
-/
import Derived.Test.YtmlbolfopakgmaaDoorRows
import GoSem.ClaimSeven
namespace Go.Proofs.YtmlbolfopakgmaaDoor
namespace Rows

/-- THE TIED CARD OF 'insolvencylaw1.NaturalNormalize'. -/
def naturalNormalizeCard : Claim7 := { stood := { row := naturalNormalizeRow, standIns := [], harness := (true, "ac35433d3c8b3512b7d2fd02abfb727f2d38589efc9be816cfcce36de412316a"), looks := false }, kinds := [], alts := [], laidByText := true, laidKinds := [.data, .pinned], laidTests := true, laidLooks := .later }
def NaturalNormalizeCardSaid : Prop := Claim7.holds Tryd.pinned (.plain (OpenSpec.ofChange naturalNormalizeSpec)) naturalNormalizeCard

/-- THE TIED CARD OF 'insolvencylaw1.NaturalQuotient'. -/
def naturalQuotientCard : Claim7 := { stood := { row := naturalQuotientRow, standIns := [], harness := (true, "ac35433d3c8b3512b7d2fd02abfb727f2d38589efc9be816cfcce36de412316a"), looks := false }, kinds := [], alts := [], laidByText := true, laidKinds := [.data, .pinned], laidTests := true, laidLooks := .later }
def NaturalQuotientCardSaid : Prop := Claim7.holds Tryd.pinned (.plain (OpenSpec.ofChange naturalQuotientSpec)) naturalQuotientCard

/-- THE TIED CARD OF 'insolvencylaw1.NaturalParse'. -/
def naturalParseCard : Claim7 := { stood := { row := naturalParseRow, standIns := [], harness := (true, "ac35433d3c8b3512b7d2fd02abfb727f2d38589efc9be816cfcce36de412316a"), looks := false }, kinds := [], alts := [], laidByText := true, laidKinds := [.data, .pinned], laidTests := true, laidLooks := .later }
def NaturalParseCardSaid : Prop := Claim7.holds Tryd.pinned (.plain (OpenSpec.ofChange naturalParseSpec)) naturalParseCard

/-- THE TIED CARD OF 'insolvencylaw1.NaturalLong'. -/
def naturalLongCard : Claim7 := { stood := { row := naturalLongRow, standIns := [], harness := (true, "ac35433d3c8b3512b7d2fd02abfb727f2d38589efc9be816cfcce36de412316a"), looks := false }, kinds := [], alts := [], laidByText := true, laidKinds := [.data, .pinned], laidTests := true, laidLooks := .later }
def NaturalLongCardSaid : Prop := Claim7.holds Tryd.pinned (.plain (OpenSpec.ofChange naturalLongSpec)) naturalLongCard

/-- THE TIED CARD OF 'insolvencylaw1.NaturalFormat'. -/
def naturalFormatCard : Claim7 := { stood := { row := naturalFormatRow, standIns := [], harness := (true, "ac35433d3c8b3512b7d2fd02abfb727f2d38589efc9be816cfcce36de412316a"), looks := false }, kinds := [], alts := [], laidByText := true, laidKinds := [.data, .pinned], laidTests := true, laidLooks := .later }
def NaturalFormatCardSaid : Prop := Claim7.holds Tryd.pinned (.plain (OpenSpec.ofChange naturalFormatSpec)) naturalFormatCard

/-- THE TIED CARD OF 'insolvencylaw1.NaturalGCD'. -/
def naturalGCDCard : Claim7 := { stood := { row := naturalGCDRow, standIns := [], harness := (true, "ac35433d3c8b3512b7d2fd02abfb727f2d38589efc9be816cfcce36de412316a"), looks := false }, kinds := [], alts := [], laidByText := true, laidKinds := [.data, .pinned], laidTests := true, laidLooks := .later }
def NaturalGCDCardSaid : Prop := Claim7.holds Tryd.pinned (.plain (OpenSpec.ofChange naturalGCDSpec)) naturalGCDCard

/-- THE TIED CARD OF 'insolvencylaw1.NaturalCompare'. -/
def naturalCompareCard : Claim7 := { stood := { row := naturalCompareRow, standIns := [], harness := (true, "ac35433d3c8b3512b7d2fd02abfb727f2d38589efc9be816cfcce36de412316a"), looks := false }, kinds := [], alts := [], laidByText := true, laidKinds := [.data, .pinned], laidTests := true, laidLooks := .later }
def NaturalCompareCardSaid : Prop := Claim7.holds Tryd.pinned (.plain (OpenSpec.ofChange naturalCompareSpec)) naturalCompareCard

/-- THE TIED CARD OF 'insolvencylaw1.NaturalUint'. -/
def naturalUintCard : Claim7 := { stood := { row := naturalUintRow, standIns := [], harness := (true, "ac35433d3c8b3512b7d2fd02abfb727f2d38589efc9be816cfcce36de412316a"), looks := false }, kinds := [], alts := [], laidByText := true, laidKinds := [.data, .pinned], laidTests := true, laidLooks := .later }
def NaturalUintCardSaid : Prop := Claim7.holds Tryd.pinned (.plain (OpenSpec.ofChange naturalUintSpec)) naturalUintCard

/-- THE TIED CARD OF 'insolvencylaw1.NaturalProduct'. -/
def naturalProductCard : Claim7 := { stood := { row := naturalProductRow, standIns := [], harness := (true, "ac35433d3c8b3512b7d2fd02abfb727f2d38589efc9be816cfcce36de412316a"), looks := false }, kinds := [], alts := [], laidByText := true, laidKinds := [.data, .pinned], laidTests := true, laidLooks := .later }
def NaturalProductCardSaid : Prop := Claim7.holds Tryd.pinned (.plain (OpenSpec.ofChange naturalProductSpec)) naturalProductCard

/-- THE TIED CARD OF 'insolvencylaw1.NaturalRing'. -/
def naturalRingCard : Claim7 := { stood := { row := naturalRingRow, standIns := [], harness := (true, "ac35433d3c8b3512b7d2fd02abfb727f2d38589efc9be816cfcce36de412316a"), looks := false }, kinds := [], alts := [], laidByText := true, laidKinds := [.data, .pinned], laidTests := true, laidLooks := .later }
def NaturalRingCardSaid : Prop := Claim7.holds Tryd.pinned (.plain (OpenSpec.ofChange naturalRingSpec)) naturalRingCard

/-- THE TIED CARD OF 'insolvencylaw1.NaturalSum'. -/
def naturalSumCard : Claim7 := { stood := { row := naturalSumRow, standIns := [], harness := (true, "ac35433d3c8b3512b7d2fd02abfb727f2d38589efc9be816cfcce36de412316a"), looks := false }, kinds := [], alts := [], laidByText := true, laidKinds := [.data, .pinned], laidTests := true, laidLooks := .later }
def NaturalSumCardSaid : Prop := Claim7.holds Tryd.pinned (.plain (OpenSpec.ofChange naturalSumSpec)) naturalSumCard

/-- THE TIED CARD OF 'insolvencylaw1.NaturalBack'. -/
def naturalBackCard : Claim7 := { stood := { row := naturalBackRow, standIns := [], harness := (true, "ac35433d3c8b3512b7d2fd02abfb727f2d38589efc9be816cfcce36de412316a"), looks := false }, kinds := [], alts := [], laidByText := true, laidKinds := [.data, .pinned], laidTests := true, laidLooks := .later }
def NaturalBackCardSaid : Prop := Claim7.holds Tryd.pinned (.plain (OpenSpec.ofChange naturalBackSpec)) naturalBackCard

/-- THE TIED CARD OF 'insolvencylaw1.NaturalDivisors'. -/
def naturalDivisorsCard : Claim7 := { stood := { row := naturalDivisorsRow, standIns := [], harness := (true, "ac35433d3c8b3512b7d2fd02abfb727f2d38589efc9be816cfcce36de412316a"), looks := false }, kinds := [], alts := [], laidByText := true, laidKinds := [.data, .pinned], laidTests := true, laidLooks := .later }
def NaturalDivisorsCardSaid : Prop := Claim7.holds Tryd.pinned (.plain (OpenSpec.ofChange naturalDivisorsSpec)) naturalDivisorsCard

/-- THE TIED CARD OF 'insolvencylaw1.NaturalDivision'. -/
def naturalDivisionCard : Claim7 := { stood := { row := naturalDivisionRow, standIns := [], harness := (true, "ac35433d3c8b3512b7d2fd02abfb727f2d38589efc9be816cfcce36de412316a"), looks := false }, kinds := [], alts := [], laidByText := true, laidKinds := [.data, .pinned], laidTests := true, laidLooks := .later }
def NaturalDivisionCardSaid : Prop := Claim7.holds Tryd.pinned (.plain (OpenSpec.ofChange naturalDivisionSpec)) naturalDivisionCard

/-- THE SECOND FORM's CARD OF 'insolvencylaw1.NaturalNormalize'. -/
def naturalNormalizeUptoCard : Claim7 := { stood := { row := naturalNormalizeUptoRow, standIns := [], harness := (true, "ac35433d3c8b3512b7d2fd02abfb727f2d38589efc9be816cfcce36de412316a"), looks := false }, kinds := [], alts := [], laidByText := true, laidKinds := [.data, .pinned], laidTests := true, laidLooks := .later }
def NaturalNormalizeUptoCardSaid : Prop := Claim7.holds Tryd.pinned (.plain (OpenSpec.upto naturalNormalizeSpec)) naturalNormalizeUptoCard

/-- THE SECOND FORM's CARD OF 'insolvencylaw1.NaturalQuotient'. -/
def naturalQuotientUptoCard : Claim7 := { stood := { row := naturalQuotientUptoRow, standIns := [], harness := (true, "ac35433d3c8b3512b7d2fd02abfb727f2d38589efc9be816cfcce36de412316a"), looks := false }, kinds := [], alts := [], laidByText := true, laidKinds := [.data, .pinned], laidTests := true, laidLooks := .later }
def NaturalQuotientUptoCardSaid : Prop := Claim7.holds Tryd.pinned (.plain (OpenSpec.upto naturalQuotientSpec)) naturalQuotientUptoCard

/-- THE SECOND FORM's CARD OF 'insolvencylaw1.NaturalParse'. -/
def naturalParseUptoCard : Claim7 := { stood := { row := naturalParseUptoRow, standIns := [], harness := (true, "ac35433d3c8b3512b7d2fd02abfb727f2d38589efc9be816cfcce36de412316a"), looks := false }, kinds := [], alts := [], laidByText := true, laidKinds := [.data, .pinned], laidTests := true, laidLooks := .later }
def NaturalParseUptoCardSaid : Prop := Claim7.holds Tryd.pinned (.plain (OpenSpec.upto naturalParseSpec)) naturalParseUptoCard

/-- THE SECOND FORM's CARD OF 'insolvencylaw1.NaturalLong'. -/
def naturalLongUptoCard : Claim7 := { stood := { row := naturalLongUptoRow, standIns := [], harness := (true, "ac35433d3c8b3512b7d2fd02abfb727f2d38589efc9be816cfcce36de412316a"), looks := false }, kinds := [], alts := [], laidByText := true, laidKinds := [.data, .pinned], laidTests := true, laidLooks := .later }
def NaturalLongUptoCardSaid : Prop := Claim7.holds Tryd.pinned (.plain (OpenSpec.upto naturalLongSpec)) naturalLongUptoCard

/-- THE SECOND FORM's CARD OF 'insolvencylaw1.NaturalFormat'. -/
def naturalFormatUptoCard : Claim7 := { stood := { row := naturalFormatUptoRow, standIns := [], harness := (true, "ac35433d3c8b3512b7d2fd02abfb727f2d38589efc9be816cfcce36de412316a"), looks := false }, kinds := [], alts := [], laidByText := true, laidKinds := [.data, .pinned], laidTests := true, laidLooks := .later }
def NaturalFormatUptoCardSaid : Prop := Claim7.holds Tryd.pinned (.plain (OpenSpec.upto naturalFormatSpec)) naturalFormatUptoCard

/-- THE SECOND FORM's CARD OF 'insolvencylaw1.NaturalGCD'. -/
def naturalGCDUptoCard : Claim7 := { stood := { row := naturalGCDUptoRow, standIns := [], harness := (true, "ac35433d3c8b3512b7d2fd02abfb727f2d38589efc9be816cfcce36de412316a"), looks := false }, kinds := [], alts := [], laidByText := true, laidKinds := [.data, .pinned], laidTests := true, laidLooks := .later }
def NaturalGCDUptoCardSaid : Prop := Claim7.holds Tryd.pinned (.plain (OpenSpec.upto naturalGCDSpec)) naturalGCDUptoCard

/-- THE SECOND FORM's CARD OF 'insolvencylaw1.NaturalCompare'. -/
def naturalCompareUptoCard : Claim7 := { stood := { row := naturalCompareUptoRow, standIns := [], harness := (true, "ac35433d3c8b3512b7d2fd02abfb727f2d38589efc9be816cfcce36de412316a"), looks := false }, kinds := [], alts := [], laidByText := true, laidKinds := [.data, .pinned], laidTests := true, laidLooks := .later }
def NaturalCompareUptoCardSaid : Prop := Claim7.holds Tryd.pinned (.plain (OpenSpec.upto naturalCompareSpec)) naturalCompareUptoCard

/-- THE SECOND FORM's CARD OF 'insolvencylaw1.NaturalUint'. -/
def naturalUintUptoCard : Claim7 := { stood := { row := naturalUintUptoRow, standIns := [], harness := (true, "ac35433d3c8b3512b7d2fd02abfb727f2d38589efc9be816cfcce36de412316a"), looks := false }, kinds := [], alts := [], laidByText := true, laidKinds := [.data, .pinned], laidTests := true, laidLooks := .later }
def NaturalUintUptoCardSaid : Prop := Claim7.holds Tryd.pinned (.plain (OpenSpec.upto naturalUintSpec)) naturalUintUptoCard

/-- THE SECOND FORM's CARD OF 'insolvencylaw1.NaturalProduct'. -/
def naturalProductUptoCard : Claim7 := { stood := { row := naturalProductUptoRow, standIns := [], harness := (true, "ac35433d3c8b3512b7d2fd02abfb727f2d38589efc9be816cfcce36de412316a"), looks := false }, kinds := [], alts := [], laidByText := true, laidKinds := [.data, .pinned], laidTests := true, laidLooks := .later }
def NaturalProductUptoCardSaid : Prop := Claim7.holds Tryd.pinned (.plain (OpenSpec.upto naturalProductSpec)) naturalProductUptoCard

/-- THE SECOND FORM's CARD OF 'insolvencylaw1.NaturalRing'. -/
def naturalRingUptoCard : Claim7 := { stood := { row := naturalRingUptoRow, standIns := [], harness := (true, "ac35433d3c8b3512b7d2fd02abfb727f2d38589efc9be816cfcce36de412316a"), looks := false }, kinds := [], alts := [], laidByText := true, laidKinds := [.data, .pinned], laidTests := true, laidLooks := .later }
def NaturalRingUptoCardSaid : Prop := Claim7.holds Tryd.pinned (.plain (OpenSpec.upto naturalRingSpec)) naturalRingUptoCard

/-- THE SECOND FORM's CARD OF 'insolvencylaw1.NaturalSum'. -/
def naturalSumUptoCard : Claim7 := { stood := { row := naturalSumUptoRow, standIns := [], harness := (true, "ac35433d3c8b3512b7d2fd02abfb727f2d38589efc9be816cfcce36de412316a"), looks := false }, kinds := [], alts := [], laidByText := true, laidKinds := [.data, .pinned], laidTests := true, laidLooks := .later }
def NaturalSumUptoCardSaid : Prop := Claim7.holds Tryd.pinned (.plain (OpenSpec.upto naturalSumSpec)) naturalSumUptoCard

/-- THE SECOND FORM's CARD OF 'insolvencylaw1.NaturalBack'. -/
def naturalBackUptoCard : Claim7 := { stood := { row := naturalBackUptoRow, standIns := [], harness := (true, "ac35433d3c8b3512b7d2fd02abfb727f2d38589efc9be816cfcce36de412316a"), looks := false }, kinds := [], alts := [], laidByText := true, laidKinds := [.data, .pinned], laidTests := true, laidLooks := .later }
def NaturalBackUptoCardSaid : Prop := Claim7.holds Tryd.pinned (.plain (OpenSpec.upto naturalBackSpec)) naturalBackUptoCard

/-- THE SECOND FORM's CARD OF 'insolvencylaw1.NaturalDivisors'. -/
def naturalDivisorsUptoCard : Claim7 := { stood := { row := naturalDivisorsUptoRow, standIns := [], harness := (true, "ac35433d3c8b3512b7d2fd02abfb727f2d38589efc9be816cfcce36de412316a"), looks := false }, kinds := [], alts := [], laidByText := true, laidKinds := [.data, .pinned], laidTests := true, laidLooks := .later }
def NaturalDivisorsUptoCardSaid : Prop := Claim7.holds Tryd.pinned (.plain (OpenSpec.upto naturalDivisorsSpec)) naturalDivisorsUptoCard

/-- THE SECOND FORM's CARD OF 'insolvencylaw1.NaturalDivision'. -/
def naturalDivisionUptoCard : Claim7 := { stood := { row := naturalDivisionUptoRow, standIns := [], harness := (true, "ac35433d3c8b3512b7d2fd02abfb727f2d38589efc9be816cfcce36de412316a"), looks := false }, kinds := [], alts := [], laidByText := true, laidKinds := [.data, .pinned], laidTests := true, laidLooks := .later }
def NaturalDivisionUptoCardSaid : Prop := Claim7.holds Tryd.pinned (.plain (OpenSpec.upto naturalDivisionSpec)) naturalDivisionUptoCard
end Rows
end Go.Proofs.YtmlbolfopakgmaaDoor

/-
  NARROWER THAN 'FOR EVERY INPUT', by the rows' own cells (each row's printed sentence says how): NaturalNormalize: laid · NaturalQuotient: laid · NaturalParse: laid · NaturalLong: laid · NaturalFormat: laid · NaturalGCD: laid · NaturalCompare: laid · NaturalUint: laid · NaturalProduct: laid · NaturalRing: laid · NaturalSum: laid · NaturalBack: laid · NaturalDivisors: laid · NaturalDivision: laid.
  DERIVED. THE GIVEN ROWS OF THIS SEAT. 14 by the template 'for every input the law returns true; each argument reads behind the call as it read before'; 0 by the template 'total and deterministic' (their statements: YtmlbolfopakgmaaDoorTotals.lean).
  GIVEN WITH THE SEED: the statements are not yours to turn. If you find one false, say at which input.
  Laid BY PROGRAM, IN A SANDBOX (cutbox-rows.mjs): the forced cells as the released guide's own fill.sh prints them over the translation 7d1f746faf260b69… (all of the seat's roots in one cut). By AI agents, Wed Nov 11 2026. No macro, syntax, notation, axiom, sorry.
-/
import Derived.Test.YtmlbolfopakgmaaDoorChecked
import GoSem.PinnedTables
import GoSem.Claim
import GoSem.ClaimJoined
import GoSem.ClaimMapViews
import Derived.JoinedTies
import Derived.KernelRfl
namespace Go.Proofs.YtmlbolfopakgmaaDoor
/- THE CELL 'sum', in the pinned program and in every row, IS THE sha256 OF THE DUMP (.gsa) THAT YtmlbolfopakgmaaDoorProg.lean LOADS. Nothing in Lean hashes anything: it is a label: what it is worth is what the hold of that sum in a sandbox is worth. -/
noncomputable def Tryd.pinned : Pinned := { name := "ytmlbolfopakgmaadoor", sum := "7d1f746faf260b698cc7be77b8f7228b3bee999b0bee3a07a4502ceccff5910d", checked := Tryd.checked }
namespace Rows
def none {H : Type} : Left H := { results := [], args := [] }

/- WHAT THE LISTED PACKAGE-LEVEL VARIABLES READ AS WHEN THE CALL BEGINS. Each datum BY PROGRAM (the guide's laid-datum.mjs) off the statement by which the dump's own 'gosem.cut.vars' lays the variable. In a bare row this is a premise. The card (YtmlbolfopakgmaaDoorCards.lean) ties it to the program's text. -/
def laid_unicode_utf8_acceptRanges {H : Type} : DataW H := .agg [.agg [.lit (.int .u8 128), .lit (.int .u8 191)], .agg [.lit (.int .u8 160), .lit (.int .u8 191)], .agg [.lit (.int .u8 128), .lit (.int .u8 159)], .agg [.lit (.int .u8 144), .lit (.int .u8 191)], .agg [.lit (.int .u8 128), .lit (.int .u8 143)], .agg [.lit (.int .u8 0), .lit (.int .u8 0)], .agg [.lit (.int .u8 0), .lit (.int .u8 0)], .agg [.lit (.int .u8 0), .lit (.int .u8 0)], .agg [.lit (.int .u8 0), .lit (.int .u8 0)], .agg [.lit (.int .u8 0), .lit (.int .u8 0)], .agg [.lit (.int .u8 0), .lit (.int .u8 0)], .agg [.lit (.int .u8 0), .lit (.int .u8 0)], .agg [.lit (.int .u8 0), .lit (.int .u8 0)], .agg [.lit (.int .u8 0), .lit (.int .u8 0)], .agg [.lit (.int .u8 0), .lit (.int .u8 0)], .agg [.lit (.int .u8 0), .lit (.int .u8 0)]]
/-- One of Go's own tables, pinned by name: the form's constant. -/
def laid_unicode_utf8_first : DataW Unit := Go.Pinned.utf8First

/-- 'insolvencylaw1.NaturalNormalize': WHATEVER THE INPUT: true; the input reads as it did. -/
def naturalNormalizeSpec : ChangeSpec := { name := "naturalNormalize", fn := fun _ => fun
  | [d] => { results := [.lit (.bool true)], args := [d] }
  | _ => none }
def naturalNormalizeRow : OpenClaim := { program := "ytmlbolfopakgmaadoor", sum := "7d1f746faf260b698cc7be77b8f7228b3bee999b0bee3a07a4502ceccff5910d", func := "insolvency/insolvencylaw1.NaturalNormalize", spec := "naturalNormalize", inPlace := ["internal/bytealg.IndexByteString", "internal/bytealg.IndexString"], named := ["unicode/utf8.first", "unicode/utf8.acceptRanges", "internal/bytealg.MaxLen"], apart := false, laid := [("unicode/utf8.acceptRanges", laid_unicode_utf8_acceptRanges), ("unicode/utf8.first", laid_unicode_utf8_first)] }
def NaturalNormalizeSaid : Prop := naturalNormalizeRow.holds Tryd.pinned (OpenSpec.ofChange naturalNormalizeSpec)

/-- ITS FALSE NEIGHBOUR: 'it returns false'. Refute it at one input. -/
def naturalNormalizeWrong : ChangeSpec := { name := "naturalNormalize", fn := fun _ => fun
  | [d] => { results := [.lit (.bool false)], args := [d] }
  | _ => none }
def NaturalNormalizeWrongFalsely : Prop := naturalNormalizeRow.holds Tryd.pinned (OpenSpec.ofChange naturalNormalizeWrong)

/-- 'insolvencylaw1.NaturalQuotient': WHATEVER THE INPUT: true; the input reads as it did. -/
def naturalQuotientSpec : ChangeSpec := { name := "naturalQuotient", fn := fun _ => fun
  | [d1, d2] => { results := [.lit (.bool true)], args := [d1, d2] }
  | _ => none }
def naturalQuotientRow : OpenClaim := { program := "ytmlbolfopakgmaadoor", sum := "7d1f746faf260b698cc7be77b8f7228b3bee999b0bee3a07a4502ceccff5910d", func := "insolvency/insolvencylaw1.NaturalQuotient", spec := "naturalQuotient", inPlace := ["internal/bytealg.IndexByteString", "internal/bytealg.IndexString"], named := ["unicode/utf8.first", "unicode/utf8.acceptRanges", "internal/bytealg.MaxLen"], apart := false, laid := [("unicode/utf8.acceptRanges", laid_unicode_utf8_acceptRanges), ("unicode/utf8.first", laid_unicode_utf8_first)] }
def NaturalQuotientSaid : Prop := naturalQuotientRow.holds Tryd.pinned (OpenSpec.ofChange naturalQuotientSpec)

/-- ITS FALSE NEIGHBOUR: 'it returns false'. Refute it at one input. -/
def naturalQuotientWrong : ChangeSpec := { name := "naturalQuotient", fn := fun _ => fun
  | [d1, d2] => { results := [.lit (.bool false)], args := [d1, d2] }
  | _ => none }
def NaturalQuotientWrongFalsely : Prop := naturalQuotientRow.holds Tryd.pinned (OpenSpec.ofChange naturalQuotientWrong)

/-- 'insolvencylaw1.NaturalParse': WHATEVER THE INPUT: true; the input reads as it did. -/
def naturalParseSpec : ChangeSpec := { name := "naturalParse", fn := fun _ => fun
  | [d] => { results := [.lit (.bool true)], args := [d] }
  | _ => none }
def naturalParseRow : OpenClaim := { program := "ytmlbolfopakgmaadoor", sum := "7d1f746faf260b698cc7be77b8f7228b3bee999b0bee3a07a4502ceccff5910d", func := "insolvency/insolvencylaw1.NaturalParse", spec := "naturalParse", inPlace := ["internal/bytealg.IndexByteString", "internal/bytealg.IndexString"], named := ["unicode/utf8.first", "unicode/utf8.acceptRanges", "internal/bytealg.MaxLen"], apart := false, laid := [("unicode/utf8.acceptRanges", laid_unicode_utf8_acceptRanges), ("unicode/utf8.first", laid_unicode_utf8_first)] }
def NaturalParseSaid : Prop := naturalParseRow.holds Tryd.pinned (OpenSpec.ofChange naturalParseSpec)

/-- ITS FALSE NEIGHBOUR: 'it returns false'. Refute it at one input. -/
def naturalParseWrong : ChangeSpec := { name := "naturalParse", fn := fun _ => fun
  | [d] => { results := [.lit (.bool false)], args := [d] }
  | _ => none }
def NaturalParseWrongFalsely : Prop := naturalParseRow.holds Tryd.pinned (OpenSpec.ofChange naturalParseWrong)

/-- 'insolvencylaw1.NaturalLong': WHATEVER THE INPUT: true; the input reads as it did. -/
def naturalLongSpec : ChangeSpec := { name := "naturalLong", fn := fun _ => fun
  | [d1, d2] => { results := [.lit (.bool true)], args := [d1, d2] }
  | _ => none }
def naturalLongRow : OpenClaim := { program := "ytmlbolfopakgmaadoor", sum := "7d1f746faf260b698cc7be77b8f7228b3bee999b0bee3a07a4502ceccff5910d", func := "insolvency/insolvencylaw1.NaturalLong", spec := "naturalLong", inPlace := ["internal/bytealg.IndexByteString", "internal/bytealg.IndexString"], named := ["unicode/utf8.first", "unicode/utf8.acceptRanges", "internal/bytealg.MaxLen"], apart := false, laid := [("unicode/utf8.acceptRanges", laid_unicode_utf8_acceptRanges), ("unicode/utf8.first", laid_unicode_utf8_first)] }
def NaturalLongSaid : Prop := naturalLongRow.holds Tryd.pinned (OpenSpec.ofChange naturalLongSpec)

/-- ITS FALSE NEIGHBOUR: 'it returns false'. Refute it at one input. -/
def naturalLongWrong : ChangeSpec := { name := "naturalLong", fn := fun _ => fun
  | [d1, d2] => { results := [.lit (.bool false)], args := [d1, d2] }
  | _ => none }
def NaturalLongWrongFalsely : Prop := naturalLongRow.holds Tryd.pinned (OpenSpec.ofChange naturalLongWrong)

/-- 'insolvencylaw1.NaturalFormat': WHATEVER THE INPUT: true; the input reads as it did. -/
def naturalFormatSpec : ChangeSpec := { name := "naturalFormat", fn := fun _ => fun
  | [d] => { results := [.lit (.bool true)], args := [d] }
  | _ => none }
def naturalFormatRow : OpenClaim := { program := "ytmlbolfopakgmaadoor", sum := "7d1f746faf260b698cc7be77b8f7228b3bee999b0bee3a07a4502ceccff5910d", func := "insolvency/insolvencylaw1.NaturalFormat", spec := "naturalFormat", inPlace := ["internal/bytealg.IndexByteString", "internal/bytealg.IndexString"], named := ["unicode/utf8.first", "unicode/utf8.acceptRanges", "internal/bytealg.MaxLen"], apart := false, laid := [("unicode/utf8.acceptRanges", laid_unicode_utf8_acceptRanges), ("unicode/utf8.first", laid_unicode_utf8_first)] }
def NaturalFormatSaid : Prop := naturalFormatRow.holds Tryd.pinned (OpenSpec.ofChange naturalFormatSpec)

/-- ITS FALSE NEIGHBOUR: 'it returns false'. Refute it at one input. -/
def naturalFormatWrong : ChangeSpec := { name := "naturalFormat", fn := fun _ => fun
  | [d] => { results := [.lit (.bool false)], args := [d] }
  | _ => none }
def NaturalFormatWrongFalsely : Prop := naturalFormatRow.holds Tryd.pinned (OpenSpec.ofChange naturalFormatWrong)

/-- 'insolvencylaw1.NaturalGCD': WHATEVER THE INPUT: true; the input reads as it did. -/
def naturalGCDSpec : ChangeSpec := { name := "naturalGCD", fn := fun _ => fun
  | [d1, d2] => { results := [.lit (.bool true)], args := [d1, d2] }
  | _ => none }
def naturalGCDRow : OpenClaim := { program := "ytmlbolfopakgmaadoor", sum := "7d1f746faf260b698cc7be77b8f7228b3bee999b0bee3a07a4502ceccff5910d", func := "insolvency/insolvencylaw1.NaturalGCD", spec := "naturalGCD", inPlace := ["internal/bytealg.IndexByteString", "internal/bytealg.IndexString"], named := ["unicode/utf8.first", "unicode/utf8.acceptRanges", "internal/bytealg.MaxLen"], apart := false, laid := [("unicode/utf8.acceptRanges", laid_unicode_utf8_acceptRanges), ("unicode/utf8.first", laid_unicode_utf8_first)] }
def NaturalGCDSaid : Prop := naturalGCDRow.holds Tryd.pinned (OpenSpec.ofChange naturalGCDSpec)

/-- ITS FALSE NEIGHBOUR: 'it returns false'. Refute it at one input. -/
def naturalGCDWrong : ChangeSpec := { name := "naturalGCD", fn := fun _ => fun
  | [d1, d2] => { results := [.lit (.bool false)], args := [d1, d2] }
  | _ => none }
def NaturalGCDWrongFalsely : Prop := naturalGCDRow.holds Tryd.pinned (OpenSpec.ofChange naturalGCDWrong)

/-- 'insolvencylaw1.NaturalCompare': WHATEVER THE INPUT: true; the input reads as it did. -/
def naturalCompareSpec : ChangeSpec := { name := "naturalCompare", fn := fun _ => fun
  | [d1, d2, d3] => { results := [.lit (.bool true)], args := [d1, d2, d3] }
  | _ => none }
def naturalCompareRow : OpenClaim := { program := "ytmlbolfopakgmaadoor", sum := "7d1f746faf260b698cc7be77b8f7228b3bee999b0bee3a07a4502ceccff5910d", func := "insolvency/insolvencylaw1.NaturalCompare", spec := "naturalCompare", inPlace := ["internal/bytealg.IndexByteString", "internal/bytealg.IndexString", "internal/bytealg.abigen_runtime_cmpstring"], named := ["unicode/utf8.first", "unicode/utf8.acceptRanges", "internal/bytealg.MaxLen"], apart := false, laid := [("unicode/utf8.acceptRanges", laid_unicode_utf8_acceptRanges), ("unicode/utf8.first", laid_unicode_utf8_first)] }
def NaturalCompareSaid : Prop := naturalCompareRow.holds Tryd.pinned (OpenSpec.ofChange naturalCompareSpec)

/-- ITS FALSE NEIGHBOUR: 'it returns false'. Refute it at one input. -/
def naturalCompareWrong : ChangeSpec := { name := "naturalCompare", fn := fun _ => fun
  | [d1, d2, d3] => { results := [.lit (.bool false)], args := [d1, d2, d3] }
  | _ => none }
def NaturalCompareWrongFalsely : Prop := naturalCompareRow.holds Tryd.pinned (OpenSpec.ofChange naturalCompareWrong)

/-- 'insolvencylaw1.NaturalUint': WHATEVER THE INPUT: true; the input reads as it did. -/
def naturalUintSpec : ChangeSpec := { name := "naturalUint", fn := fun _ => fun
  | [d1, d2] => { results := [.lit (.bool true)], args := [d1, d2] }
  | _ => none }
def naturalUintRow : OpenClaim := { program := "ytmlbolfopakgmaadoor", sum := "7d1f746faf260b698cc7be77b8f7228b3bee999b0bee3a07a4502ceccff5910d", func := "insolvency/insolvencylaw1.NaturalUint", spec := "naturalUint", inPlace := ["internal/bytealg.IndexByteString", "internal/bytealg.IndexString"], named := ["unicode/utf8.first", "unicode/utf8.acceptRanges", "internal/bytealg.MaxLen"], apart := false, laid := [("unicode/utf8.acceptRanges", laid_unicode_utf8_acceptRanges), ("unicode/utf8.first", laid_unicode_utf8_first)] }
def NaturalUintSaid : Prop := naturalUintRow.holds Tryd.pinned (OpenSpec.ofChange naturalUintSpec)

/-- ITS FALSE NEIGHBOUR: 'it returns false'. Refute it at one input. -/
def naturalUintWrong : ChangeSpec := { name := "naturalUint", fn := fun _ => fun
  | [d1, d2] => { results := [.lit (.bool false)], args := [d1, d2] }
  | _ => none }
def NaturalUintWrongFalsely : Prop := naturalUintRow.holds Tryd.pinned (OpenSpec.ofChange naturalUintWrong)

/-- 'insolvencylaw1.NaturalProduct': WHATEVER THE INPUT: true; the input reads as it did. -/
def naturalProductSpec : ChangeSpec := { name := "naturalProduct", fn := fun _ => fun
  | [d1, d2] => { results := [.lit (.bool true)], args := [d1, d2] }
  | _ => none }
def naturalProductRow : OpenClaim := { program := "ytmlbolfopakgmaadoor", sum := "7d1f746faf260b698cc7be77b8f7228b3bee999b0bee3a07a4502ceccff5910d", func := "insolvency/insolvencylaw1.NaturalProduct", spec := "naturalProduct", inPlace := ["internal/bytealg.IndexByteString", "internal/bytealg.IndexString"], named := ["unicode/utf8.first", "unicode/utf8.acceptRanges", "internal/bytealg.MaxLen"], apart := false, laid := [("unicode/utf8.acceptRanges", laid_unicode_utf8_acceptRanges), ("unicode/utf8.first", laid_unicode_utf8_first)] }
def NaturalProductSaid : Prop := naturalProductRow.holds Tryd.pinned (OpenSpec.ofChange naturalProductSpec)

/-- ITS FALSE NEIGHBOUR: 'it returns false'. Refute it at one input. -/
def naturalProductWrong : ChangeSpec := { name := "naturalProduct", fn := fun _ => fun
  | [d1, d2] => { results := [.lit (.bool false)], args := [d1, d2] }
  | _ => none }
def NaturalProductWrongFalsely : Prop := naturalProductRow.holds Tryd.pinned (OpenSpec.ofChange naturalProductWrong)

/-- 'insolvencylaw1.NaturalRing': WHATEVER THE INPUT: true; the input reads as it did. -/
def naturalRingSpec : ChangeSpec := { name := "naturalRing", fn := fun _ => fun
  | [d1, d2, d3] => { results := [.lit (.bool true)], args := [d1, d2, d3] }
  | _ => none }
def naturalRingRow : OpenClaim := { program := "ytmlbolfopakgmaadoor", sum := "7d1f746faf260b698cc7be77b8f7228b3bee999b0bee3a07a4502ceccff5910d", func := "insolvency/insolvencylaw1.NaturalRing", spec := "naturalRing", inPlace := ["internal/bytealg.IndexByteString", "internal/bytealg.IndexString"], named := ["unicode/utf8.first", "unicode/utf8.acceptRanges", "internal/bytealg.MaxLen"], apart := false, laid := [("unicode/utf8.acceptRanges", laid_unicode_utf8_acceptRanges), ("unicode/utf8.first", laid_unicode_utf8_first)] }
def NaturalRingSaid : Prop := naturalRingRow.holds Tryd.pinned (OpenSpec.ofChange naturalRingSpec)

/-- ITS FALSE NEIGHBOUR: 'it returns false'. Refute it at one input. -/
def naturalRingWrong : ChangeSpec := { name := "naturalRing", fn := fun _ => fun
  | [d1, d2, d3] => { results := [.lit (.bool false)], args := [d1, d2, d3] }
  | _ => none }
def NaturalRingWrongFalsely : Prop := naturalRingRow.holds Tryd.pinned (OpenSpec.ofChange naturalRingWrong)

/-- 'insolvencylaw1.NaturalSum': WHATEVER THE INPUT: true; the input reads as it did. -/
def naturalSumSpec : ChangeSpec := { name := "naturalSum", fn := fun _ => fun
  | [d1, d2] => { results := [.lit (.bool true)], args := [d1, d2] }
  | _ => none }
def naturalSumRow : OpenClaim := { program := "ytmlbolfopakgmaadoor", sum := "7d1f746faf260b698cc7be77b8f7228b3bee999b0bee3a07a4502ceccff5910d", func := "insolvency/insolvencylaw1.NaturalSum", spec := "naturalSum", inPlace := ["internal/bytealg.IndexByteString", "internal/bytealg.IndexString"], named := ["unicode/utf8.first", "unicode/utf8.acceptRanges", "internal/bytealg.MaxLen"], apart := false, laid := [("unicode/utf8.acceptRanges", laid_unicode_utf8_acceptRanges), ("unicode/utf8.first", laid_unicode_utf8_first)] }
def NaturalSumSaid : Prop := naturalSumRow.holds Tryd.pinned (OpenSpec.ofChange naturalSumSpec)

/-- ITS FALSE NEIGHBOUR: 'it returns false'. Refute it at one input. -/
def naturalSumWrong : ChangeSpec := { name := "naturalSum", fn := fun _ => fun
  | [d1, d2] => { results := [.lit (.bool false)], args := [d1, d2] }
  | _ => none }
def NaturalSumWrongFalsely : Prop := naturalSumRow.holds Tryd.pinned (OpenSpec.ofChange naturalSumWrong)

/-- 'insolvencylaw1.NaturalBack': WHATEVER THE INPUT: true; the input reads as it did. -/
def naturalBackSpec : ChangeSpec := { name := "naturalBack", fn := fun _ => fun
  | [d1, d2] => { results := [.lit (.bool true)], args := [d1, d2] }
  | _ => none }
def naturalBackRow : OpenClaim := { program := "ytmlbolfopakgmaadoor", sum := "7d1f746faf260b698cc7be77b8f7228b3bee999b0bee3a07a4502ceccff5910d", func := "insolvency/insolvencylaw1.NaturalBack", spec := "naturalBack", inPlace := ["internal/bytealg.IndexByteString", "internal/bytealg.IndexString"], named := ["unicode/utf8.first", "unicode/utf8.acceptRanges", "internal/bytealg.MaxLen"], apart := false, laid := [("unicode/utf8.acceptRanges", laid_unicode_utf8_acceptRanges), ("unicode/utf8.first", laid_unicode_utf8_first)] }
def NaturalBackSaid : Prop := naturalBackRow.holds Tryd.pinned (OpenSpec.ofChange naturalBackSpec)

/-- ITS FALSE NEIGHBOUR: 'it returns false'. Refute it at one input. -/
def naturalBackWrong : ChangeSpec := { name := "naturalBack", fn := fun _ => fun
  | [d1, d2] => { results := [.lit (.bool false)], args := [d1, d2] }
  | _ => none }
def NaturalBackWrongFalsely : Prop := naturalBackRow.holds Tryd.pinned (OpenSpec.ofChange naturalBackWrong)

/-- 'insolvencylaw1.NaturalDivisors': WHATEVER THE INPUT: true; the input reads as it did. -/
def naturalDivisorsSpec : ChangeSpec := { name := "naturalDivisors", fn := fun _ => fun
  | [d1, d2, d3] => { results := [.lit (.bool true)], args := [d1, d2, d3] }
  | _ => none }
def naturalDivisorsRow : OpenClaim := { program := "ytmlbolfopakgmaadoor", sum := "7d1f746faf260b698cc7be77b8f7228b3bee999b0bee3a07a4502ceccff5910d", func := "insolvency/insolvencylaw1.NaturalDivisors", spec := "naturalDivisors", inPlace := ["internal/bytealg.IndexByteString", "internal/bytealg.IndexString"], named := ["unicode/utf8.first", "unicode/utf8.acceptRanges", "internal/bytealg.MaxLen"], apart := false, laid := [("unicode/utf8.acceptRanges", laid_unicode_utf8_acceptRanges), ("unicode/utf8.first", laid_unicode_utf8_first)] }
def NaturalDivisorsSaid : Prop := naturalDivisorsRow.holds Tryd.pinned (OpenSpec.ofChange naturalDivisorsSpec)

/-- ITS FALSE NEIGHBOUR: 'it returns false'. Refute it at one input. -/
def naturalDivisorsWrong : ChangeSpec := { name := "naturalDivisors", fn := fun _ => fun
  | [d1, d2, d3] => { results := [.lit (.bool false)], args := [d1, d2, d3] }
  | _ => none }
def NaturalDivisorsWrongFalsely : Prop := naturalDivisorsRow.holds Tryd.pinned (OpenSpec.ofChange naturalDivisorsWrong)

/-- 'insolvencylaw1.NaturalDivision': WHATEVER THE INPUT: true; the input reads as it did. -/
def naturalDivisionSpec : ChangeSpec := { name := "naturalDivision", fn := fun _ => fun
  | [d1, d2] => { results := [.lit (.bool true)], args := [d1, d2] }
  | _ => none }
def naturalDivisionRow : OpenClaim := { program := "ytmlbolfopakgmaadoor", sum := "7d1f746faf260b698cc7be77b8f7228b3bee999b0bee3a07a4502ceccff5910d", func := "insolvency/insolvencylaw1.NaturalDivision", spec := "naturalDivision", inPlace := ["internal/bytealg.IndexByteString", "internal/bytealg.IndexString", "internal/bytealg.abigen_runtime_cmpstring"], named := ["unicode/utf8.first", "unicode/utf8.acceptRanges", "internal/bytealg.MaxLen"], apart := false, laid := [("unicode/utf8.acceptRanges", laid_unicode_utf8_acceptRanges), ("unicode/utf8.first", laid_unicode_utf8_first)] }
def NaturalDivisionSaid : Prop := naturalDivisionRow.holds Tryd.pinned (OpenSpec.ofChange naturalDivisionSpec)

/-- ITS FALSE NEIGHBOUR: 'it returns false'. Refute it at one input. -/
def naturalDivisionWrong : ChangeSpec := { name := "naturalDivision", fn := fun _ => fun
  | [d1, d2] => { results := [.lit (.bool false)], args := [d1, d2] }
  | _ => none }
def NaturalDivisionWrongFalsely : Prop := naturalDivisionRow.holds Tryd.pinned (OpenSpec.ofChange naturalDivisionWrong)

/- THE SECOND FORM. 'bulk': how many values and letters a reading holds, each counted each time it is reached (what is shared counts as often as it is met; a slice's spare places count too). A statement '..UptoSaid' is the law's where the arguments, and the package variables that the reading takes, are together of bulk at most 1048576: NARROWER than '..Said'. Prove '..Said' where nothing that the law and all that it calls make is longer than what came in: it says more and counts as full. Else prove '..UptoSaid'. A law counts once. -/
mutual
def uptoBulk {H : Type} : DataW H → Nat
  | .lit (.string bytes) => bytes.length + 1
  | .lit _ => 1
  | .nil => 1
  | .ptr d => uptoBulk d + 1
  | .slice elems spare => uptoBulkAll elems + uptoBulkAll spare + 1
  | .agg parts => uptoBulkAll parts + 1
  | .iface _ d => uptoBulk d + 1
  | .map entries => uptoBulkEntries entries + 1
  | .held _ => 1
def uptoBulkAll {H : Type} : List (DataW H) → Nat
  | [] => 0
  | d :: r => uptoBulk d + uptoBulkAll r
def uptoBulkEntries {H : Type} : List (Lit × DataW H) → Nat
  | [] => 0
  | x :: r => uptoBulkEntry x + uptoBulkEntries r
def uptoBulkEntry {H : Type} : Lit × DataW H → Nat
  | (.string bytes, d) => bytes.length + uptoBulk d + 1
  | (_, d) => uptoBulk d + 1
 end
def uptoSmall : (H : Type) → List (DataW H) → Bool := fun _ ds => decide (uptoBulkAll ds ≤ 1048576)
def OpenSpec.upto (s : _root_.Go.ChangeSpec) : _root_.Go.OpenSpec := { _root_.Go.OpenSpec.ofChange s with cond := some uptoSmall }

/-- 'insolvencylaw1.NaturalNormalize', WHERE WHAT IT READS IS OF BULK AT MOST 1048576: true; the input reads as it did. -/
def naturalNormalizeUptoRow : OpenClaim := { program := "ytmlbolfopakgmaadoor", sum := "7d1f746faf260b698cc7be77b8f7228b3bee999b0bee3a07a4502ceccff5910d", func := "insolvency/insolvencylaw1.NaturalNormalize", spec := "naturalNormalize", inPlace := ["internal/bytealg.IndexByteString", "internal/bytealg.IndexString"], named := ["unicode/utf8.first", "unicode/utf8.acceptRanges", "internal/bytealg.MaxLen"], apart := false, laid := [("unicode/utf8.acceptRanges", laid_unicode_utf8_acceptRanges), ("unicode/utf8.first", laid_unicode_utf8_first)], narrowed := true }
def NaturalNormalizeUptoSaid : Prop := naturalNormalizeUptoRow.holds Tryd.pinned (OpenSpec.upto naturalNormalizeSpec)

/-- 'insolvencylaw1.NaturalQuotient', WHERE WHAT IT READS IS OF BULK AT MOST 1048576: true; the input reads as it did. -/
def naturalQuotientUptoRow : OpenClaim := { program := "ytmlbolfopakgmaadoor", sum := "7d1f746faf260b698cc7be77b8f7228b3bee999b0bee3a07a4502ceccff5910d", func := "insolvency/insolvencylaw1.NaturalQuotient", spec := "naturalQuotient", inPlace := ["internal/bytealg.IndexByteString", "internal/bytealg.IndexString"], named := ["unicode/utf8.first", "unicode/utf8.acceptRanges", "internal/bytealg.MaxLen"], apart := false, laid := [("unicode/utf8.acceptRanges", laid_unicode_utf8_acceptRanges), ("unicode/utf8.first", laid_unicode_utf8_first)], narrowed := true }
def NaturalQuotientUptoSaid : Prop := naturalQuotientUptoRow.holds Tryd.pinned (OpenSpec.upto naturalQuotientSpec)

/-- 'insolvencylaw1.NaturalParse', WHERE WHAT IT READS IS OF BULK AT MOST 1048576: true; the input reads as it did. -/
def naturalParseUptoRow : OpenClaim := { program := "ytmlbolfopakgmaadoor", sum := "7d1f746faf260b698cc7be77b8f7228b3bee999b0bee3a07a4502ceccff5910d", func := "insolvency/insolvencylaw1.NaturalParse", spec := "naturalParse", inPlace := ["internal/bytealg.IndexByteString", "internal/bytealg.IndexString"], named := ["unicode/utf8.first", "unicode/utf8.acceptRanges", "internal/bytealg.MaxLen"], apart := false, laid := [("unicode/utf8.acceptRanges", laid_unicode_utf8_acceptRanges), ("unicode/utf8.first", laid_unicode_utf8_first)], narrowed := true }
def NaturalParseUptoSaid : Prop := naturalParseUptoRow.holds Tryd.pinned (OpenSpec.upto naturalParseSpec)

/-- 'insolvencylaw1.NaturalLong', WHERE WHAT IT READS IS OF BULK AT MOST 1048576: true; the input reads as it did. -/
def naturalLongUptoRow : OpenClaim := { program := "ytmlbolfopakgmaadoor", sum := "7d1f746faf260b698cc7be77b8f7228b3bee999b0bee3a07a4502ceccff5910d", func := "insolvency/insolvencylaw1.NaturalLong", spec := "naturalLong", inPlace := ["internal/bytealg.IndexByteString", "internal/bytealg.IndexString"], named := ["unicode/utf8.first", "unicode/utf8.acceptRanges", "internal/bytealg.MaxLen"], apart := false, laid := [("unicode/utf8.acceptRanges", laid_unicode_utf8_acceptRanges), ("unicode/utf8.first", laid_unicode_utf8_first)], narrowed := true }
def NaturalLongUptoSaid : Prop := naturalLongUptoRow.holds Tryd.pinned (OpenSpec.upto naturalLongSpec)

/-- 'insolvencylaw1.NaturalFormat', WHERE WHAT IT READS IS OF BULK AT MOST 1048576: true; the input reads as it did. -/
def naturalFormatUptoRow : OpenClaim := { program := "ytmlbolfopakgmaadoor", sum := "7d1f746faf260b698cc7be77b8f7228b3bee999b0bee3a07a4502ceccff5910d", func := "insolvency/insolvencylaw1.NaturalFormat", spec := "naturalFormat", inPlace := ["internal/bytealg.IndexByteString", "internal/bytealg.IndexString"], named := ["unicode/utf8.first", "unicode/utf8.acceptRanges", "internal/bytealg.MaxLen"], apart := false, laid := [("unicode/utf8.acceptRanges", laid_unicode_utf8_acceptRanges), ("unicode/utf8.first", laid_unicode_utf8_first)], narrowed := true }
def NaturalFormatUptoSaid : Prop := naturalFormatUptoRow.holds Tryd.pinned (OpenSpec.upto naturalFormatSpec)

/-- 'insolvencylaw1.NaturalGCD', WHERE WHAT IT READS IS OF BULK AT MOST 1048576: true; the input reads as it did. -/
def naturalGCDUptoRow : OpenClaim := { program := "ytmlbolfopakgmaadoor", sum := "7d1f746faf260b698cc7be77b8f7228b3bee999b0bee3a07a4502ceccff5910d", func := "insolvency/insolvencylaw1.NaturalGCD", spec := "naturalGCD", inPlace := ["internal/bytealg.IndexByteString", "internal/bytealg.IndexString"], named := ["unicode/utf8.first", "unicode/utf8.acceptRanges", "internal/bytealg.MaxLen"], apart := false, laid := [("unicode/utf8.acceptRanges", laid_unicode_utf8_acceptRanges), ("unicode/utf8.first", laid_unicode_utf8_first)], narrowed := true }
def NaturalGCDUptoSaid : Prop := naturalGCDUptoRow.holds Tryd.pinned (OpenSpec.upto naturalGCDSpec)

/-- 'insolvencylaw1.NaturalCompare', WHERE WHAT IT READS IS OF BULK AT MOST 1048576: true; the input reads as it did. -/
def naturalCompareUptoRow : OpenClaim := { program := "ytmlbolfopakgmaadoor", sum := "7d1f746faf260b698cc7be77b8f7228b3bee999b0bee3a07a4502ceccff5910d", func := "insolvency/insolvencylaw1.NaturalCompare", spec := "naturalCompare", inPlace := ["internal/bytealg.IndexByteString", "internal/bytealg.IndexString", "internal/bytealg.abigen_runtime_cmpstring"], named := ["unicode/utf8.first", "unicode/utf8.acceptRanges", "internal/bytealg.MaxLen"], apart := false, laid := [("unicode/utf8.acceptRanges", laid_unicode_utf8_acceptRanges), ("unicode/utf8.first", laid_unicode_utf8_first)], narrowed := true }
def NaturalCompareUptoSaid : Prop := naturalCompareUptoRow.holds Tryd.pinned (OpenSpec.upto naturalCompareSpec)

/-- 'insolvencylaw1.NaturalUint', WHERE WHAT IT READS IS OF BULK AT MOST 1048576: true; the input reads as it did. -/
def naturalUintUptoRow : OpenClaim := { program := "ytmlbolfopakgmaadoor", sum := "7d1f746faf260b698cc7be77b8f7228b3bee999b0bee3a07a4502ceccff5910d", func := "insolvency/insolvencylaw1.NaturalUint", spec := "naturalUint", inPlace := ["internal/bytealg.IndexByteString", "internal/bytealg.IndexString"], named := ["unicode/utf8.first", "unicode/utf8.acceptRanges", "internal/bytealg.MaxLen"], apart := false, laid := [("unicode/utf8.acceptRanges", laid_unicode_utf8_acceptRanges), ("unicode/utf8.first", laid_unicode_utf8_first)], narrowed := true }
def NaturalUintUptoSaid : Prop := naturalUintUptoRow.holds Tryd.pinned (OpenSpec.upto naturalUintSpec)

/-- 'insolvencylaw1.NaturalProduct', WHERE WHAT IT READS IS OF BULK AT MOST 1048576: true; the input reads as it did. -/
def naturalProductUptoRow : OpenClaim := { program := "ytmlbolfopakgmaadoor", sum := "7d1f746faf260b698cc7be77b8f7228b3bee999b0bee3a07a4502ceccff5910d", func := "insolvency/insolvencylaw1.NaturalProduct", spec := "naturalProduct", inPlace := ["internal/bytealg.IndexByteString", "internal/bytealg.IndexString"], named := ["unicode/utf8.first", "unicode/utf8.acceptRanges", "internal/bytealg.MaxLen"], apart := false, laid := [("unicode/utf8.acceptRanges", laid_unicode_utf8_acceptRanges), ("unicode/utf8.first", laid_unicode_utf8_first)], narrowed := true }
def NaturalProductUptoSaid : Prop := naturalProductUptoRow.holds Tryd.pinned (OpenSpec.upto naturalProductSpec)

/-- 'insolvencylaw1.NaturalRing', WHERE WHAT IT READS IS OF BULK AT MOST 1048576: true; the input reads as it did. -/
def naturalRingUptoRow : OpenClaim := { program := "ytmlbolfopakgmaadoor", sum := "7d1f746faf260b698cc7be77b8f7228b3bee999b0bee3a07a4502ceccff5910d", func := "insolvency/insolvencylaw1.NaturalRing", spec := "naturalRing", inPlace := ["internal/bytealg.IndexByteString", "internal/bytealg.IndexString"], named := ["unicode/utf8.first", "unicode/utf8.acceptRanges", "internal/bytealg.MaxLen"], apart := false, laid := [("unicode/utf8.acceptRanges", laid_unicode_utf8_acceptRanges), ("unicode/utf8.first", laid_unicode_utf8_first)], narrowed := true }
def NaturalRingUptoSaid : Prop := naturalRingUptoRow.holds Tryd.pinned (OpenSpec.upto naturalRingSpec)

/-- 'insolvencylaw1.NaturalSum', WHERE WHAT IT READS IS OF BULK AT MOST 1048576: true; the input reads as it did. -/
def naturalSumUptoRow : OpenClaim := { program := "ytmlbolfopakgmaadoor", sum := "7d1f746faf260b698cc7be77b8f7228b3bee999b0bee3a07a4502ceccff5910d", func := "insolvency/insolvencylaw1.NaturalSum", spec := "naturalSum", inPlace := ["internal/bytealg.IndexByteString", "internal/bytealg.IndexString"], named := ["unicode/utf8.first", "unicode/utf8.acceptRanges", "internal/bytealg.MaxLen"], apart := false, laid := [("unicode/utf8.acceptRanges", laid_unicode_utf8_acceptRanges), ("unicode/utf8.first", laid_unicode_utf8_first)], narrowed := true }
def NaturalSumUptoSaid : Prop := naturalSumUptoRow.holds Tryd.pinned (OpenSpec.upto naturalSumSpec)

/-- 'insolvencylaw1.NaturalBack', WHERE WHAT IT READS IS OF BULK AT MOST 1048576: true; the input reads as it did. -/
def naturalBackUptoRow : OpenClaim := { program := "ytmlbolfopakgmaadoor", sum := "7d1f746faf260b698cc7be77b8f7228b3bee999b0bee3a07a4502ceccff5910d", func := "insolvency/insolvencylaw1.NaturalBack", spec := "naturalBack", inPlace := ["internal/bytealg.IndexByteString", "internal/bytealg.IndexString"], named := ["unicode/utf8.first", "unicode/utf8.acceptRanges", "internal/bytealg.MaxLen"], apart := false, laid := [("unicode/utf8.acceptRanges", laid_unicode_utf8_acceptRanges), ("unicode/utf8.first", laid_unicode_utf8_first)], narrowed := true }
def NaturalBackUptoSaid : Prop := naturalBackUptoRow.holds Tryd.pinned (OpenSpec.upto naturalBackSpec)

/-- 'insolvencylaw1.NaturalDivisors', WHERE WHAT IT READS IS OF BULK AT MOST 1048576: true; the input reads as it did. -/
def naturalDivisorsUptoRow : OpenClaim := { program := "ytmlbolfopakgmaadoor", sum := "7d1f746faf260b698cc7be77b8f7228b3bee999b0bee3a07a4502ceccff5910d", func := "insolvency/insolvencylaw1.NaturalDivisors", spec := "naturalDivisors", inPlace := ["internal/bytealg.IndexByteString", "internal/bytealg.IndexString"], named := ["unicode/utf8.first", "unicode/utf8.acceptRanges", "internal/bytealg.MaxLen"], apart := false, laid := [("unicode/utf8.acceptRanges", laid_unicode_utf8_acceptRanges), ("unicode/utf8.first", laid_unicode_utf8_first)], narrowed := true }
def NaturalDivisorsUptoSaid : Prop := naturalDivisorsUptoRow.holds Tryd.pinned (OpenSpec.upto naturalDivisorsSpec)

/-- 'insolvencylaw1.NaturalDivision', WHERE WHAT IT READS IS OF BULK AT MOST 1048576: true; the input reads as it did. -/
def naturalDivisionUptoRow : OpenClaim := { program := "ytmlbolfopakgmaadoor", sum := "7d1f746faf260b698cc7be77b8f7228b3bee999b0bee3a07a4502ceccff5910d", func := "insolvency/insolvencylaw1.NaturalDivision", spec := "naturalDivision", inPlace := ["internal/bytealg.IndexByteString", "internal/bytealg.IndexString", "internal/bytealg.abigen_runtime_cmpstring"], named := ["unicode/utf8.first", "unicode/utf8.acceptRanges", "internal/bytealg.MaxLen"], apart := false, laid := [("unicode/utf8.acceptRanges", laid_unicode_utf8_acceptRanges), ("unicode/utf8.first", laid_unicode_utf8_first)], narrowed := true }
def NaturalDivisionUptoSaid : Prop := naturalDivisionUptoRow.holds Tryd.pinned (OpenSpec.upto naturalDivisionSpec)

end Rows
end Go.Proofs.YtmlbolfopakgmaaDoor

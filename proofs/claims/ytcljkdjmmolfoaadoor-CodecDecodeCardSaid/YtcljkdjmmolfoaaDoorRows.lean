/-
  NARROWER THAN 'FOR EVERY INPUT', by the rows' own cells (each row's printed sentence says how): CodecSum: laid · CodecChange: laid · CodecEncode: laid · CodecEdges: laid · CodecDecode: laid · CodecRound: laid · CodecPrefix: laid.
  DERIVED. THE GIVEN ROWS OF THIS SEAT. 7 by the template 'for every input the law returns true; each argument reads behind the call as it read before'; 0 by the template 'total and deterministic' (their statements: YtcljkdjmmolfoaaDoorTotals.lean).
  GIVEN WITH THE SEED: the statements are not yours to turn. If you find one false, say at which input.
  Laid BY PROGRAM, IN A SANDBOX (cutbox-rows.mjs): the forced cells as the released guide's own fill.sh prints them over the translation 2db42b3342a2d8ce… (all of the seat's roots in one cut). By AI agents, Wed Nov 11 2026. No macro, syntax, notation, axiom, sorry.
-/
import Derived.Test.YtcljkdjmmolfoaaDoorChecked
import GoSem.PinnedTables
import GoSem.Claim
import GoSem.ClaimJoined
import GoSem.ClaimMapViews
import Derived.JoinedTies
import Derived.KernelRfl
namespace Go.Proofs.YtcljkdjmmolfoaaDoor
/- THE CELL 'sum', in the pinned program and in every row, IS THE sha256 OF THE DUMP (.gsa) THAT YtcljkdjmmolfoaaDoorProg.lean LOADS. Nothing in Lean hashes anything: it is a label: what it is worth is what the hold of that sum in a sandbox is worth. -/
noncomputable def Tryd.pinned : Pinned := { name := "ytcljkdjmmolfoaadoor", sum := "2db42b3342a2d8ce4f84656bcc77b2ed3d39403f27ef1148619345480f86330b", checked := Tryd.checked }
namespace Rows
def none {H : Type} : Left H := { results := [], args := [] }

/- WHAT THE LISTED PACKAGE-LEVEL VARIABLES READ AS WHEN THE CALL BEGINS. Each datum BY PROGRAM (the guide's laid-datum.mjs) off the statement by which the dump's own 'gosem.cut.vars' lays the variable. In a bare row this is a premise. The card (YtcljkdjmmolfoaaDoorCards.lean) ties it to the program's text. -/
def laid_unicode_utf8_acceptRanges {H : Type} : DataW H := .agg [.agg [.lit (.int .u8 128), .lit (.int .u8 191)], .agg [.lit (.int .u8 160), .lit (.int .u8 191)], .agg [.lit (.int .u8 128), .lit (.int .u8 159)], .agg [.lit (.int .u8 144), .lit (.int .u8 191)], .agg [.lit (.int .u8 128), .lit (.int .u8 143)], .agg [.lit (.int .u8 0), .lit (.int .u8 0)], .agg [.lit (.int .u8 0), .lit (.int .u8 0)], .agg [.lit (.int .u8 0), .lit (.int .u8 0)], .agg [.lit (.int .u8 0), .lit (.int .u8 0)], .agg [.lit (.int .u8 0), .lit (.int .u8 0)], .agg [.lit (.int .u8 0), .lit (.int .u8 0)], .agg [.lit (.int .u8 0), .lit (.int .u8 0)], .agg [.lit (.int .u8 0), .lit (.int .u8 0)], .agg [.lit (.int .u8 0), .lit (.int .u8 0)], .agg [.lit (.int .u8 0), .lit (.int .u8 0)], .agg [.lit (.int .u8 0), .lit (.int .u8 0)]]
/-- One of Go's own tables, pinned by name: the form's constant. -/
def laid_unicode_utf8_first : DataW Unit := Go.Pinned.utf8First

/-- 'insolvencylaw35.CodecSum': WHATEVER THE INPUT: true; the input reads as it did. -/
def codecSumSpec : ChangeSpec := { name := "codecSum", fn := fun _ => fun
  | [d1, d2] => { results := [.lit (.bool true)], args := [d1, d2] }
  | _ => none }
def codecSumRow : OpenClaim := { program := "ytcljkdjmmolfoaadoor", sum := "2db42b3342a2d8ce4f84656bcc77b2ed3d39403f27ef1148619345480f86330b", func := "insolvency/insolvencylaw35.CodecSum", spec := "codecSum", inPlace := ["internal/bytealg.IndexByteString", "internal/bytealg.IndexString"], named := ["unicode/utf8.first", "unicode/utf8.acceptRanges", "internal/bytealg.MaxLen"], apart := false, laid := [("unicode/utf8.acceptRanges", laid_unicode_utf8_acceptRanges), ("unicode/utf8.first", laid_unicode_utf8_first)] }
def CodecSumSaid : Prop := codecSumRow.holds Tryd.pinned (OpenSpec.ofChange codecSumSpec)

/-- ITS FALSE NEIGHBOUR: 'it returns false'. Refute it at one input. -/
def codecSumWrong : ChangeSpec := { name := "codecSum", fn := fun _ => fun
  | [d1, d2] => { results := [.lit (.bool false)], args := [d1, d2] }
  | _ => none }
def CodecSumWrongFalsely : Prop := codecSumRow.holds Tryd.pinned (OpenSpec.ofChange codecSumWrong)

/-- 'insolvencylaw35.CodecChange': WHATEVER THE INPUT: true; the input reads as it did. -/
def codecChangeSpec : ChangeSpec := { name := "codecChange", fn := fun _ => fun
  | [d1, d2, d3] => { results := [.lit (.bool true)], args := [d1, d2, d3] }
  | _ => none }
def codecChangeRow : OpenClaim := { program := "ytcljkdjmmolfoaadoor", sum := "2db42b3342a2d8ce4f84656bcc77b2ed3d39403f27ef1148619345480f86330b", func := "insolvency/insolvencylaw35.CodecChange", spec := "codecChange", inPlace := ["internal/bytealg.IndexByteString", "internal/bytealg.IndexString"], named := ["unicode/utf8.first", "unicode/utf8.acceptRanges", "internal/bytealg.MaxLen"], apart := false, laid := [("unicode/utf8.acceptRanges", laid_unicode_utf8_acceptRanges), ("unicode/utf8.first", laid_unicode_utf8_first)] }
def CodecChangeSaid : Prop := codecChangeRow.holds Tryd.pinned (OpenSpec.ofChange codecChangeSpec)

/-- ITS FALSE NEIGHBOUR: 'it returns false'. Refute it at one input. -/
def codecChangeWrong : ChangeSpec := { name := "codecChange", fn := fun _ => fun
  | [d1, d2, d3] => { results := [.lit (.bool false)], args := [d1, d2, d3] }
  | _ => none }
def CodecChangeWrongFalsely : Prop := codecChangeRow.holds Tryd.pinned (OpenSpec.ofChange codecChangeWrong)

/-- 'insolvencylaw35.CodecEncode': WHATEVER THE INPUT: true; the input reads as it did. -/
def codecEncodeSpec : ChangeSpec := { name := "codecEncode", fn := fun _ => fun
  | [d1, d2, d3, d4, d5, d6] => { results := [.lit (.bool true)], args := [d1, d2, d3, d4, d5, d6] }
  | _ => none }
def codecEncodeRow : OpenClaim := { program := "ytcljkdjmmolfoaadoor", sum := "2db42b3342a2d8ce4f84656bcc77b2ed3d39403f27ef1148619345480f86330b", func := "insolvency/insolvencylaw35.CodecEncode", spec := "codecEncode", inPlace := ["internal/bytealg.IndexByteString", "internal/bytealg.IndexString"], named := ["unicode/utf8.first", "unicode/utf8.acceptRanges", "internal/bytealg.MaxLen"], apart := false, laid := [("unicode/utf8.acceptRanges", laid_unicode_utf8_acceptRanges), ("unicode/utf8.first", laid_unicode_utf8_first)] }
def CodecEncodeSaid : Prop := codecEncodeRow.holds Tryd.pinned (OpenSpec.ofChange codecEncodeSpec)

/-- ITS FALSE NEIGHBOUR: 'it returns false'. Refute it at one input. -/
def codecEncodeWrong : ChangeSpec := { name := "codecEncode", fn := fun _ => fun
  | [d1, d2, d3, d4, d5, d6] => { results := [.lit (.bool false)], args := [d1, d2, d3, d4, d5, d6] }
  | _ => none }
def CodecEncodeWrongFalsely : Prop := codecEncodeRow.holds Tryd.pinned (OpenSpec.ofChange codecEncodeWrong)

/-- 'insolvencylaw35.CodecEdges': WHATEVER THE INPUT: true; the input reads as it did. -/
def codecEdgesSpec : ChangeSpec := { name := "codecEdges", fn := fun _ => fun
  | [d1, d2, d3, d4, d5, d6] => { results := [.lit (.bool true)], args := [d1, d2, d3, d4, d5, d6] }
  | _ => none }
def codecEdgesRow : OpenClaim := { program := "ytcljkdjmmolfoaadoor", sum := "2db42b3342a2d8ce4f84656bcc77b2ed3d39403f27ef1148619345480f86330b", func := "insolvency/insolvencylaw35.CodecEdges", spec := "codecEdges", inPlace := ["internal/bytealg.IndexByteString", "internal/bytealg.IndexString"], named := ["unicode/utf8.first", "unicode/utf8.acceptRanges", "internal/bytealg.MaxLen"], apart := false, laid := [("unicode/utf8.acceptRanges", laid_unicode_utf8_acceptRanges), ("unicode/utf8.first", laid_unicode_utf8_first)] }
def CodecEdgesSaid : Prop := codecEdgesRow.holds Tryd.pinned (OpenSpec.ofChange codecEdgesSpec)

/-- ITS FALSE NEIGHBOUR: 'it returns false'. Refute it at one input. -/
def codecEdgesWrong : ChangeSpec := { name := "codecEdges", fn := fun _ => fun
  | [d1, d2, d3, d4, d5, d6] => { results := [.lit (.bool false)], args := [d1, d2, d3, d4, d5, d6] }
  | _ => none }
def CodecEdgesWrongFalsely : Prop := codecEdgesRow.holds Tryd.pinned (OpenSpec.ofChange codecEdgesWrong)

/-- 'insolvencylaw35.CodecDecode': WHATEVER THE INPUT: true; the input reads as it did. -/
def codecDecodeSpec : ChangeSpec := { name := "codecDecode", fn := fun _ => fun
  | [d1, d2, d3, d4, d5, d6, d7, d8, d9] => { results := [.lit (.bool true)], args := [d1, d2, d3, d4, d5, d6, d7, d8, d9] }
  | _ => none }
def codecDecodeRow : OpenClaim := { program := "ytcljkdjmmolfoaadoor", sum := "2db42b3342a2d8ce4f84656bcc77b2ed3d39403f27ef1148619345480f86330b", func := "insolvency/insolvencylaw35.CodecDecode", spec := "codecDecode", inPlace := ["internal/bytealg.IndexByteString", "internal/bytealg.IndexString"], named := ["unicode/utf8.first", "unicode/utf8.acceptRanges", "internal/bytealg.MaxLen"], apart := false, laid := [("unicode/utf8.acceptRanges", laid_unicode_utf8_acceptRanges), ("unicode/utf8.first", laid_unicode_utf8_first)] }
def CodecDecodeSaid : Prop := codecDecodeRow.holds Tryd.pinned (OpenSpec.ofChange codecDecodeSpec)

/-- ITS FALSE NEIGHBOUR: 'it returns false'. Refute it at one input. -/
def codecDecodeWrong : ChangeSpec := { name := "codecDecode", fn := fun _ => fun
  | [d1, d2, d3, d4, d5, d6, d7, d8, d9] => { results := [.lit (.bool false)], args := [d1, d2, d3, d4, d5, d6, d7, d8, d9] }
  | _ => none }
def CodecDecodeWrongFalsely : Prop := codecDecodeRow.holds Tryd.pinned (OpenSpec.ofChange codecDecodeWrong)

/-- 'insolvencylaw35.CodecRound': WHATEVER THE INPUT: true; the input reads as it did. -/
def codecRoundSpec : ChangeSpec := { name := "codecRound", fn := fun _ => fun
  | [d1, d2, d3, d4, d5] => { results := [.lit (.bool true)], args := [d1, d2, d3, d4, d5] }
  | _ => none }
def codecRoundRow : OpenClaim := { program := "ytcljkdjmmolfoaadoor", sum := "2db42b3342a2d8ce4f84656bcc77b2ed3d39403f27ef1148619345480f86330b", func := "insolvency/insolvencylaw35.CodecRound", spec := "codecRound", inPlace := ["internal/bytealg.IndexByteString", "internal/bytealg.IndexString"], named := ["unicode/utf8.first", "unicode/utf8.acceptRanges", "internal/bytealg.MaxLen"], apart := false, laid := [("unicode/utf8.acceptRanges", laid_unicode_utf8_acceptRanges), ("unicode/utf8.first", laid_unicode_utf8_first)] }
def CodecRoundSaid : Prop := codecRoundRow.holds Tryd.pinned (OpenSpec.ofChange codecRoundSpec)

/-- ITS FALSE NEIGHBOUR: 'it returns false'. Refute it at one input. -/
def codecRoundWrong : ChangeSpec := { name := "codecRound", fn := fun _ => fun
  | [d1, d2, d3, d4, d5] => { results := [.lit (.bool false)], args := [d1, d2, d3, d4, d5] }
  | _ => none }
def CodecRoundWrongFalsely : Prop := codecRoundRow.holds Tryd.pinned (OpenSpec.ofChange codecRoundWrong)

/-- 'insolvencylaw35.CodecPrefix': WHATEVER THE INPUT: true; the input reads as it did. -/
def codecPrefixSpec : ChangeSpec := { name := "codecPrefix", fn := fun _ => fun
  | [d1, d2, d3, d4, d5, d6] => { results := [.lit (.bool true)], args := [d1, d2, d3, d4, d5, d6] }
  | _ => none }
def codecPrefixRow : OpenClaim := { program := "ytcljkdjmmolfoaadoor", sum := "2db42b3342a2d8ce4f84656bcc77b2ed3d39403f27ef1148619345480f86330b", func := "insolvency/insolvencylaw35.CodecPrefix", spec := "codecPrefix", inPlace := ["internal/bytealg.IndexByteString", "internal/bytealg.IndexString"], named := ["unicode/utf8.first", "unicode/utf8.acceptRanges", "internal/bytealg.MaxLen"], apart := false, laid := [("unicode/utf8.acceptRanges", laid_unicode_utf8_acceptRanges), ("unicode/utf8.first", laid_unicode_utf8_first)] }
def CodecPrefixSaid : Prop := codecPrefixRow.holds Tryd.pinned (OpenSpec.ofChange codecPrefixSpec)

/-- ITS FALSE NEIGHBOUR: 'it returns false'. Refute it at one input. -/
def codecPrefixWrong : ChangeSpec := { name := "codecPrefix", fn := fun _ => fun
  | [d1, d2, d3, d4, d5, d6] => { results := [.lit (.bool false)], args := [d1, d2, d3, d4, d5, d6] }
  | _ => none }
def CodecPrefixWrongFalsely : Prop := codecPrefixRow.holds Tryd.pinned (OpenSpec.ofChange codecPrefixWrong)

/- THE SECOND FORM. 'bulk': how many values and letters a reading holds, each counted each time it is reached (what is shared counts as often as it is met; a slice's spare places count too). A statement '..UptoSaid' is the law's where the arguments, and the package variables that the reading takes, are together of bulk at most 1048576: NARROWER than '..Said'. Prove '..Said' where nothing that the law and all that it calls make is longer than what came in: it says more and counts as full. Else prove '..UptoSaid'. A law counts once. -/
mutual
def uptoBulk {H : Type} : DataW H → Nat
  | .lit (.string bytes) => bytes.length + 1
  | .lit _ => 1
  | .nil => 1
  | .ptr d => uptoBulk d + 1
  | .slice elems spare => uptoBulkAll elems + uptoBulkAll spare + 1
  | .agg parts => uptoBulkAll parts + 1
  | .iface _ d => uptoBulk d + 1
  | .map entries => uptoBulkEntries entries + 1
  | .held _ => 1
def uptoBulkAll {H : Type} : List (DataW H) → Nat
  | [] => 0
  | d :: r => uptoBulk d + uptoBulkAll r
def uptoBulkEntries {H : Type} : List (Lit × DataW H) → Nat
  | [] => 0
  | x :: r => uptoBulkEntry x + uptoBulkEntries r
def uptoBulkEntry {H : Type} : Lit × DataW H → Nat
  | (.string bytes, d) => bytes.length + uptoBulk d + 1
  | (_, d) => uptoBulk d + 1
 end
def uptoSmall : (H : Type) → List (DataW H) → Bool := fun _ ds => decide (uptoBulkAll ds ≤ 1048576)
def OpenSpec.upto (s : _root_.Go.ChangeSpec) : _root_.Go.OpenSpec := { _root_.Go.OpenSpec.ofChange s with cond := some uptoSmall }

/-- 'insolvencylaw35.CodecSum', WHERE WHAT IT READS IS OF BULK AT MOST 1048576: true; the input reads as it did. -/
def codecSumUptoRow : OpenClaim := { program := "ytcljkdjmmolfoaadoor", sum := "2db42b3342a2d8ce4f84656bcc77b2ed3d39403f27ef1148619345480f86330b", func := "insolvency/insolvencylaw35.CodecSum", spec := "codecSum", inPlace := ["internal/bytealg.IndexByteString", "internal/bytealg.IndexString"], named := ["unicode/utf8.first", "unicode/utf8.acceptRanges", "internal/bytealg.MaxLen"], apart := false, laid := [("unicode/utf8.acceptRanges", laid_unicode_utf8_acceptRanges), ("unicode/utf8.first", laid_unicode_utf8_first)], narrowed := true }
def CodecSumUptoSaid : Prop := codecSumUptoRow.holds Tryd.pinned (OpenSpec.upto codecSumSpec)

/-- 'insolvencylaw35.CodecChange', WHERE WHAT IT READS IS OF BULK AT MOST 1048576: true; the input reads as it did. -/
def codecChangeUptoRow : OpenClaim := { program := "ytcljkdjmmolfoaadoor", sum := "2db42b3342a2d8ce4f84656bcc77b2ed3d39403f27ef1148619345480f86330b", func := "insolvency/insolvencylaw35.CodecChange", spec := "codecChange", inPlace := ["internal/bytealg.IndexByteString", "internal/bytealg.IndexString"], named := ["unicode/utf8.first", "unicode/utf8.acceptRanges", "internal/bytealg.MaxLen"], apart := false, laid := [("unicode/utf8.acceptRanges", laid_unicode_utf8_acceptRanges), ("unicode/utf8.first", laid_unicode_utf8_first)], narrowed := true }
def CodecChangeUptoSaid : Prop := codecChangeUptoRow.holds Tryd.pinned (OpenSpec.upto codecChangeSpec)

/-- 'insolvencylaw35.CodecEncode', WHERE WHAT IT READS IS OF BULK AT MOST 1048576: true; the input reads as it did. -/
def codecEncodeUptoRow : OpenClaim := { program := "ytcljkdjmmolfoaadoor", sum := "2db42b3342a2d8ce4f84656bcc77b2ed3d39403f27ef1148619345480f86330b", func := "insolvency/insolvencylaw35.CodecEncode", spec := "codecEncode", inPlace := ["internal/bytealg.IndexByteString", "internal/bytealg.IndexString"], named := ["unicode/utf8.first", "unicode/utf8.acceptRanges", "internal/bytealg.MaxLen"], apart := false, laid := [("unicode/utf8.acceptRanges", laid_unicode_utf8_acceptRanges), ("unicode/utf8.first", laid_unicode_utf8_first)], narrowed := true }
def CodecEncodeUptoSaid : Prop := codecEncodeUptoRow.holds Tryd.pinned (OpenSpec.upto codecEncodeSpec)

/-- 'insolvencylaw35.CodecEdges', WHERE WHAT IT READS IS OF BULK AT MOST 1048576: true; the input reads as it did. -/
def codecEdgesUptoRow : OpenClaim := { program := "ytcljkdjmmolfoaadoor", sum := "2db42b3342a2d8ce4f84656bcc77b2ed3d39403f27ef1148619345480f86330b", func := "insolvency/insolvencylaw35.CodecEdges", spec := "codecEdges", inPlace := ["internal/bytealg.IndexByteString", "internal/bytealg.IndexString"], named := ["unicode/utf8.first", "unicode/utf8.acceptRanges", "internal/bytealg.MaxLen"], apart := false, laid := [("unicode/utf8.acceptRanges", laid_unicode_utf8_acceptRanges), ("unicode/utf8.first", laid_unicode_utf8_first)], narrowed := true }
def CodecEdgesUptoSaid : Prop := codecEdgesUptoRow.holds Tryd.pinned (OpenSpec.upto codecEdgesSpec)

/-- 'insolvencylaw35.CodecDecode', WHERE WHAT IT READS IS OF BULK AT MOST 1048576: true; the input reads as it did. -/
def codecDecodeUptoRow : OpenClaim := { program := "ytcljkdjmmolfoaadoor", sum := "2db42b3342a2d8ce4f84656bcc77b2ed3d39403f27ef1148619345480f86330b", func := "insolvency/insolvencylaw35.CodecDecode", spec := "codecDecode", inPlace := ["internal/bytealg.IndexByteString", "internal/bytealg.IndexString"], named := ["unicode/utf8.first", "unicode/utf8.acceptRanges", "internal/bytealg.MaxLen"], apart := false, laid := [("unicode/utf8.acceptRanges", laid_unicode_utf8_acceptRanges), ("unicode/utf8.first", laid_unicode_utf8_first)], narrowed := true }
def CodecDecodeUptoSaid : Prop := codecDecodeUptoRow.holds Tryd.pinned (OpenSpec.upto codecDecodeSpec)

/-- 'insolvencylaw35.CodecRound', WHERE WHAT IT READS IS OF BULK AT MOST 1048576: true; the input reads as it did. -/
def codecRoundUptoRow : OpenClaim := { program := "ytcljkdjmmolfoaadoor", sum := "2db42b3342a2d8ce4f84656bcc77b2ed3d39403f27ef1148619345480f86330b", func := "insolvency/insolvencylaw35.CodecRound", spec := "codecRound", inPlace := ["internal/bytealg.IndexByteString", "internal/bytealg.IndexString"], named := ["unicode/utf8.first", "unicode/utf8.acceptRanges", "internal/bytealg.MaxLen"], apart := false, laid := [("unicode/utf8.acceptRanges", laid_unicode_utf8_acceptRanges), ("unicode/utf8.first", laid_unicode_utf8_first)], narrowed := true }
def CodecRoundUptoSaid : Prop := codecRoundUptoRow.holds Tryd.pinned (OpenSpec.upto codecRoundSpec)

/-- 'insolvencylaw35.CodecPrefix', WHERE WHAT IT READS IS OF BULK AT MOST 1048576: true; the input reads as it did. -/
def codecPrefixUptoRow : OpenClaim := { program := "ytcljkdjmmolfoaadoor", sum := "2db42b3342a2d8ce4f84656bcc77b2ed3d39403f27ef1148619345480f86330b", func := "insolvency/insolvencylaw35.CodecPrefix", spec := "codecPrefix", inPlace := ["internal/bytealg.IndexByteString", "internal/bytealg.IndexString"], named := ["unicode/utf8.first", "unicode/utf8.acceptRanges", "internal/bytealg.MaxLen"], apart := false, laid := [("unicode/utf8.acceptRanges", laid_unicode_utf8_acceptRanges), ("unicode/utf8.first", laid_unicode_utf8_first)], narrowed := true }
def CodecPrefixUptoSaid : Prop := codecPrefixUptoRow.holds Tryd.pinned (OpenSpec.upto codecPrefixSpec)

end Rows
end Go.Proofs.YtcljkdjmmolfoaaDoor

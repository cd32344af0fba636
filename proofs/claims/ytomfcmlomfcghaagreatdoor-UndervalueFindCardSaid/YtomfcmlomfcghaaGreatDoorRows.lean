/-
  NARROWER THAN 'FOR EVERY INPUT', by the rows' own cells (each row's printed sentence says how): PartyControlled: laid · PartyBuilt: laid · PartyConnected: laid · PreferencePeriod: laid · PreferenceFind: laid · PreferenceErrors: laid · UndervalueFind: laid.
  DERIVED. THE GIVEN ROWS OF THIS SEAT. 7 by the template 'for every input the law returns true; each argument reads behind the call as it read before'; 0 by the template 'total and deterministic' (their statements: YtomfcmlomfcghaaGreatDoorTotals.lean).
  GIVEN WITH THE SEED: the statements are not yours to turn. If you find one false, say at which input.
  Laid BY PROGRAM, IN A SANDBOX (cutbox-rows.mjs): the forced cells as the released guide's own fill.sh prints them over the translation 55128a3438ebbda6… (all of the seat's roots in one cut). By AI agents, Wed Nov 11 2026. No macro, syntax, notation, axiom, sorry.
-/
import Derived.Test.YtomfcmlomfcghaaGreatDoorChecked
import GoSem.PinnedTables
import GoSem.Claim
import GoSem.ClaimJoined
import GoSem.ClaimMapViews
import Derived.JoinedTies
import Derived.KernelRfl
namespace Go.Proofs.YtomfcmlomfcghaaGreatDoor
/- THE CELL 'sum', in the pinned program and in every row, IS THE sha256 OF THE DUMP (.gsa) THAT YtomfcmlomfcghaaGreatDoorProg.lean LOADS. Nothing in Lean hashes anything: it is a label: what it is worth is what the hold of that sum in a sandbox is worth. -/
noncomputable def Tryz.pinned : Pinned := { name := "ytomfcmlomfcghaagreatdoor", sum := "55128a3438ebbda663f6b95693d646edfaeb2fbe476818439d84e529a93d6fd1", checked := Tryz.checked }
namespace Rows
def none {H : Type} : Left H := { results := [], args := [] }

/- WHAT THE LISTED PACKAGE-LEVEL VARIABLES READ AS WHEN THE CALL BEGINS. Each datum BY PROGRAM (the guide's laid-datum.mjs) off the statement by which the dump's own 'gosem.cut.vars' lays the variable. In a bare row this is a premise. The card (YtomfcmlomfcghaaGreatDoorCards.lean) ties it to the program's text. -/
def laid_unicode_utf8_acceptRanges {H : Type} : DataW H := .agg [.agg [.lit (.int .u8 128), .lit (.int .u8 191)], .agg [.lit (.int .u8 160), .lit (.int .u8 191)], .agg [.lit (.int .u8 128), .lit (.int .u8 159)], .agg [.lit (.int .u8 144), .lit (.int .u8 191)], .agg [.lit (.int .u8 128), .lit (.int .u8 143)], .agg [.lit (.int .u8 0), .lit (.int .u8 0)], .agg [.lit (.int .u8 0), .lit (.int .u8 0)], .agg [.lit (.int .u8 0), .lit (.int .u8 0)], .agg [.lit (.int .u8 0), .lit (.int .u8 0)], .agg [.lit (.int .u8 0), .lit (.int .u8 0)], .agg [.lit (.int .u8 0), .lit (.int .u8 0)], .agg [.lit (.int .u8 0), .lit (.int .u8 0)], .agg [.lit (.int .u8 0), .lit (.int .u8 0)], .agg [.lit (.int .u8 0), .lit (.int .u8 0)], .agg [.lit (.int .u8 0), .lit (.int .u8 0)], .agg [.lit (.int .u8 0), .lit (.int .u8 0)]]
/-- One of Go's own tables, pinned by name: the form's constant. -/
def laid_unicode_utf8_first : DataW Unit := Go.Pinned.utf8First

/-- 'insolvencylaw8.PartyControlled': WHATEVER THE INPUT: true; the input reads as it did. -/
def partyControlledSpec : ChangeSpec := { name := "partyControlled", fn := fun _ => fun
  | [d1, d2, d3] => { results := [.lit (.bool true)], args := [d1, d2, d3] }
  | _ => none }
def partyControlledRow : OpenClaim := { program := "ytomfcmlomfcghaagreatdoor", sum := "55128a3438ebbda663f6b95693d646edfaeb2fbe476818439d84e529a93d6fd1", func := "insolvency/insolvencylaw8.PartyControlled", spec := "partyControlled", inPlace := ["internal/bytealg.IndexByteString", "internal/bytealg.IndexString", "internal/bytealg.abigen_runtime_cmpstring"], named := ["unicode/utf8.first", "unicode/utf8.acceptRanges", "internal/bytealg.MaxLen"], apart := false, laid := [("unicode/utf8.acceptRanges", laid_unicode_utf8_acceptRanges), ("unicode/utf8.first", laid_unicode_utf8_first)] }
def PartyControlledSaid : Prop := partyControlledRow.holds Tryz.pinned (OpenSpec.ofChange partyControlledSpec)

/-- ITS FALSE NEIGHBOUR: 'it returns false'. Refute it at one input. -/
def partyControlledWrong : ChangeSpec := { name := "partyControlled", fn := fun _ => fun
  | [d1, d2, d3] => { results := [.lit (.bool false)], args := [d1, d2, d3] }
  | _ => none }
def PartyControlledWrongFalsely : Prop := partyControlledRow.holds Tryz.pinned (OpenSpec.ofChange partyControlledWrong)

/-- 'insolvencylaw8.PartyBuilt': WHATEVER THE INPUT: true; the input reads as it did. -/
def partyBuiltSpec : ChangeSpec := { name := "partyBuilt", fn := fun _ => fun
  | [d1, d2, d3, d4] => { results := [.lit (.bool true)], args := [d1, d2, d3, d4] }
  | _ => none }
def partyBuiltRow : OpenClaim := { program := "ytomfcmlomfcghaagreatdoor", sum := "55128a3438ebbda663f6b95693d646edfaeb2fbe476818439d84e529a93d6fd1", func := "insolvency/insolvencylaw8.PartyBuilt", spec := "partyBuilt", inPlace := ["internal/bytealg.IndexByteString", "internal/bytealg.IndexString", "internal/bytealg.abigen_runtime_cmpstring"], named := ["unicode/utf8.first", "unicode/utf8.acceptRanges", "internal/bytealg.MaxLen"], apart := false, laid := [("unicode/utf8.acceptRanges", laid_unicode_utf8_acceptRanges), ("unicode/utf8.first", laid_unicode_utf8_first)] }
def PartyBuiltSaid : Prop := partyBuiltRow.holds Tryz.pinned (OpenSpec.ofChange partyBuiltSpec)

/-- ITS FALSE NEIGHBOUR: 'it returns false'. Refute it at one input. -/
def partyBuiltWrong : ChangeSpec := { name := "partyBuilt", fn := fun _ => fun
  | [d1, d2, d3, d4] => { results := [.lit (.bool false)], args := [d1, d2, d3, d4] }
  | _ => none }
def PartyBuiltWrongFalsely : Prop := partyBuiltRow.holds Tryz.pinned (OpenSpec.ofChange partyBuiltWrong)

/-- 'insolvencylaw8.PartyConnected': WHATEVER THE INPUT: true; the input reads as it did. -/
def partyConnectedSpec : ChangeSpec := { name := "partyConnected", fn := fun _ => fun
  | [d1, d2, d3] => { results := [.lit (.bool true)], args := [d1, d2, d3] }
  | _ => none }
def partyConnectedRow : OpenClaim := { program := "ytomfcmlomfcghaagreatdoor", sum := "55128a3438ebbda663f6b95693d646edfaeb2fbe476818439d84e529a93d6fd1", func := "insolvency/insolvencylaw8.PartyConnected", spec := "partyConnected", inPlace := ["internal/bytealg.IndexByteString", "internal/bytealg.IndexString", "internal/bytealg.abigen_runtime_cmpstring"], named := ["unicode/utf8.first", "unicode/utf8.acceptRanges", "internal/bytealg.MaxLen"], apart := false, laid := [("unicode/utf8.acceptRanges", laid_unicode_utf8_acceptRanges), ("unicode/utf8.first", laid_unicode_utf8_first)] }
def PartyConnectedSaid : Prop := partyConnectedRow.holds Tryz.pinned (OpenSpec.ofChange partyConnectedSpec)

/-- ITS FALSE NEIGHBOUR: 'it returns false'. Refute it at one input. -/
def partyConnectedWrong : ChangeSpec := { name := "partyConnected", fn := fun _ => fun
  | [d1, d2, d3] => { results := [.lit (.bool false)], args := [d1, d2, d3] }
  | _ => none }
def PartyConnectedWrongFalsely : Prop := partyConnectedRow.holds Tryz.pinned (OpenSpec.ofChange partyConnectedWrong)

/-- 'insolvencylaw26.PreferencePeriod': WHATEVER THE INPUT: true; the input reads as it did. -/
def preferencePeriodSpec : ChangeSpec := { name := "preferencePeriod", fn := fun _ => fun
  | [d1, d2, d3, d4, d5, d6, d7, d8, d9] => { results := [.lit (.bool true)], args := [d1, d2, d3, d4, d5, d6, d7, d8, d9] }
  | _ => none }
def preferencePeriodRow : OpenClaim := { program := "ytomfcmlomfcghaagreatdoor", sum := "55128a3438ebbda663f6b95693d646edfaeb2fbe476818439d84e529a93d6fd1", func := "insolvency/insolvencylaw26.PreferencePeriod", spec := "preferencePeriod", inPlace := ["internal/bytealg.IndexByteString", "internal/bytealg.IndexString", "internal/bytealg.abigen_runtime_cmpstring"], named := ["unicode/utf8.first", "unicode/utf8.acceptRanges", "internal/bytealg.MaxLen"], apart := false, laid := [("unicode/utf8.acceptRanges", laid_unicode_utf8_acceptRanges), ("unicode/utf8.first", laid_unicode_utf8_first)] }
def PreferencePeriodSaid : Prop := preferencePeriodRow.holds Tryz.pinned (OpenSpec.ofChange preferencePeriodSpec)

/-- ITS FALSE NEIGHBOUR: 'it returns false'. Refute it at one input. -/
def preferencePeriodWrong : ChangeSpec := { name := "preferencePeriod", fn := fun _ => fun
  | [d1, d2, d3, d4, d5, d6, d7, d8, d9] => { results := [.lit (.bool false)], args := [d1, d2, d3, d4, d5, d6, d7, d8, d9] }
  | _ => none }
def PreferencePeriodWrongFalsely : Prop := preferencePeriodRow.holds Tryz.pinned (OpenSpec.ofChange preferencePeriodWrong)

/-- 'insolvencylaw26.PreferenceFind': WHATEVER THE INPUT: true; the input reads as it did. -/
def preferenceFindSpec : ChangeSpec := { name := "preferenceFind", fn := fun _ => fun
  | [d1, d2, d3, d4, d5, d6, d7, d8] => { results := [.lit (.bool true)], args := [d1, d2, d3, d4, d5, d6, d7, d8] }
  | _ => none }
def preferenceFindRow : OpenClaim := { program := "ytomfcmlomfcghaagreatdoor", sum := "55128a3438ebbda663f6b95693d646edfaeb2fbe476818439d84e529a93d6fd1", func := "insolvency/insolvencylaw26.PreferenceFind", spec := "preferenceFind", inPlace := ["internal/bytealg.IndexByteString", "internal/bytealg.IndexString", "internal/bytealg.abigen_runtime_cmpstring"], named := ["unicode/utf8.first", "unicode/utf8.acceptRanges", "internal/bytealg.MaxLen"], apart := false, laid := [("unicode/utf8.acceptRanges", laid_unicode_utf8_acceptRanges), ("unicode/utf8.first", laid_unicode_utf8_first)] }
def PreferenceFindSaid : Prop := preferenceFindRow.holds Tryz.pinned (OpenSpec.ofChange preferenceFindSpec)

/-- ITS FALSE NEIGHBOUR: 'it returns false'. Refute it at one input. -/
def preferenceFindWrong : ChangeSpec := { name := "preferenceFind", fn := fun _ => fun
  | [d1, d2, d3, d4, d5, d6, d7, d8] => { results := [.lit (.bool false)], args := [d1, d2, d3, d4, d5, d6, d7, d8] }
  | _ => none }
def PreferenceFindWrongFalsely : Prop := preferenceFindRow.holds Tryz.pinned (OpenSpec.ofChange preferenceFindWrong)

/-- 'insolvencylaw26.PreferenceErrors': WHATEVER THE INPUT: true; the input reads as it did. -/
def preferenceErrorsSpec : ChangeSpec := { name := "preferenceErrors", fn := fun _ => fun
  | [d1, d2, d3, d4] => { results := [.lit (.bool true)], args := [d1, d2, d3, d4] }
  | _ => none }
def preferenceErrorsRow : OpenClaim := { program := "ytomfcmlomfcghaagreatdoor", sum := "55128a3438ebbda663f6b95693d646edfaeb2fbe476818439d84e529a93d6fd1", func := "insolvency/insolvencylaw26.PreferenceErrors", spec := "preferenceErrors", inPlace := ["internal/bytealg.IndexByteString", "internal/bytealg.IndexString", "internal/bytealg.abigen_runtime_cmpstring"], named := ["unicode/utf8.first", "unicode/utf8.acceptRanges", "internal/bytealg.MaxLen"], apart := false, laid := [("unicode/utf8.acceptRanges", laid_unicode_utf8_acceptRanges), ("unicode/utf8.first", laid_unicode_utf8_first)] }
def PreferenceErrorsSaid : Prop := preferenceErrorsRow.holds Tryz.pinned (OpenSpec.ofChange preferenceErrorsSpec)

/-- ITS FALSE NEIGHBOUR: 'it returns false'. Refute it at one input. -/
def preferenceErrorsWrong : ChangeSpec := { name := "preferenceErrors", fn := fun _ => fun
  | [d1, d2, d3, d4] => { results := [.lit (.bool false)], args := [d1, d2, d3, d4] }
  | _ => none }
def PreferenceErrorsWrongFalsely : Prop := preferenceErrorsRow.holds Tryz.pinned (OpenSpec.ofChange preferenceErrorsWrong)

/-- 'insolvencylaw27.UndervalueFind': WHATEVER THE INPUT: true; the input reads as it did. -/
def undervalueFindSpec : ChangeSpec := { name := "undervalueFind", fn := fun _ => fun
  | [d1, d2, d3, d4, d5, d6, d7, d8] => { results := [.lit (.bool true)], args := [d1, d2, d3, d4, d5, d6, d7, d8] }
  | _ => none }
def undervalueFindRow : OpenClaim := { program := "ytomfcmlomfcghaagreatdoor", sum := "55128a3438ebbda663f6b95693d646edfaeb2fbe476818439d84e529a93d6fd1", func := "insolvency/insolvencylaw27.UndervalueFind", spec := "undervalueFind", inPlace := ["internal/bytealg.IndexByteString", "internal/bytealg.IndexString", "internal/bytealg.abigen_runtime_cmpstring"], named := ["unicode/utf8.first", "unicode/utf8.acceptRanges", "internal/bytealg.MaxLen"], apart := false, laid := [("unicode/utf8.acceptRanges", laid_unicode_utf8_acceptRanges), ("unicode/utf8.first", laid_unicode_utf8_first)] }
def UndervalueFindSaid : Prop := undervalueFindRow.holds Tryz.pinned (OpenSpec.ofChange undervalueFindSpec)

/-- ITS FALSE NEIGHBOUR: 'it returns false'. Refute it at one input. -/
def undervalueFindWrong : ChangeSpec := { name := "undervalueFind", fn := fun _ => fun
  | [d1, d2, d3, d4, d5, d6, d7, d8] => { results := [.lit (.bool false)], args := [d1, d2, d3, d4, d5, d6, d7, d8] }
  | _ => none }
def UndervalueFindWrongFalsely : Prop := undervalueFindRow.holds Tryz.pinned (OpenSpec.ofChange undervalueFindWrong)

/- THE SECOND FORM. 'bulk': how many values and letters a reading holds, each counted each time it is reached (what is shared counts as often as it is met; a slice's spare places count too). A statement '..UptoSaid' is the law's where the arguments, and the package variables that the reading takes, are together of bulk at most 1048576: NARROWER than '..Said'. Prove '..Said' where nothing that the law and all that it calls make is longer than what came in: it says more and counts as full. Else prove '..UptoSaid'. A law counts once. -/
mutual
def uptoBulk {H : Type} : DataW H → Nat
  | .lit (.string bytes) => bytes.length + 1
  | .lit _ => 1
  | .nil => 1
  | .ptr d => uptoBulk d + 1
  | .slice elems spare => uptoBulkAll elems + uptoBulkAll spare + 1
  | .agg parts => uptoBulkAll parts + 1
  | .iface _ d => uptoBulk d + 1
  | .map entries => uptoBulkEntries entries + 1
  | .held _ => 1
def uptoBulkAll {H : Type} : List (DataW H) → Nat
  | [] => 0
  | d :: r => uptoBulk d + uptoBulkAll r
def uptoBulkEntries {H : Type} : List (Lit × DataW H) → Nat
  | [] => 0
  | x :: r => uptoBulkEntry x + uptoBulkEntries r
def uptoBulkEntry {H : Type} : Lit × DataW H → Nat
  | (.string bytes, d) => bytes.length + uptoBulk d + 1
  | (_, d) => uptoBulk d + 1
 end
def uptoSmall : (H : Type) → List (DataW H) → Bool := fun _ ds => decide (uptoBulkAll ds ≤ 1048576)
def OpenSpec.upto (s : _root_.Go.ChangeSpec) : _root_.Go.OpenSpec := { _root_.Go.OpenSpec.ofChange s with cond := some uptoSmall }

/-- 'insolvencylaw8.PartyControlled', WHERE WHAT IT READS IS OF BULK AT MOST 1048576: true; the input reads as it did. -/
def partyControlledUptoRow : OpenClaim := { program := "ytomfcmlomfcghaagreatdoor", sum := "55128a3438ebbda663f6b95693d646edfaeb2fbe476818439d84e529a93d6fd1", func := "insolvency/insolvencylaw8.PartyControlled", spec := "partyControlled", inPlace := ["internal/bytealg.IndexByteString", "internal/bytealg.IndexString", "internal/bytealg.abigen_runtime_cmpstring"], named := ["unicode/utf8.first", "unicode/utf8.acceptRanges", "internal/bytealg.MaxLen"], apart := false, laid := [("unicode/utf8.acceptRanges", laid_unicode_utf8_acceptRanges), ("unicode/utf8.first", laid_unicode_utf8_first)], narrowed := true }
def PartyControlledUptoSaid : Prop := partyControlledUptoRow.holds Tryz.pinned (OpenSpec.upto partyControlledSpec)

/-- 'insolvencylaw8.PartyBuilt', WHERE WHAT IT READS IS OF BULK AT MOST 1048576: true; the input reads as it did. -/
def partyBuiltUptoRow : OpenClaim := { program := "ytomfcmlomfcghaagreatdoor", sum := "55128a3438ebbda663f6b95693d646edfaeb2fbe476818439d84e529a93d6fd1", func := "insolvency/insolvencylaw8.PartyBuilt", spec := "partyBuilt", inPlace := ["internal/bytealg.IndexByteString", "internal/bytealg.IndexString", "internal/bytealg.abigen_runtime_cmpstring"], named := ["unicode/utf8.first", "unicode/utf8.acceptRanges", "internal/bytealg.MaxLen"], apart := false, laid := [("unicode/utf8.acceptRanges", laid_unicode_utf8_acceptRanges), ("unicode/utf8.first", laid_unicode_utf8_first)], narrowed := true }
def PartyBuiltUptoSaid : Prop := partyBuiltUptoRow.holds Tryz.pinned (OpenSpec.upto partyBuiltSpec)

/-- 'insolvencylaw8.PartyConnected', WHERE WHAT IT READS IS OF BULK AT MOST 1048576: true; the input reads as it did. -/
def partyConnectedUptoRow : OpenClaim := { program := "ytomfcmlomfcghaagreatdoor", sum := "55128a3438ebbda663f6b95693d646edfaeb2fbe476818439d84e529a93d6fd1", func := "insolvency/insolvencylaw8.PartyConnected", spec := "partyConnected", inPlace := ["internal/bytealg.IndexByteString", "internal/bytealg.IndexString", "internal/bytealg.abigen_runtime_cmpstring"], named := ["unicode/utf8.first", "unicode/utf8.acceptRanges", "internal/bytealg.MaxLen"], apart := false, laid := [("unicode/utf8.acceptRanges", laid_unicode_utf8_acceptRanges), ("unicode/utf8.first", laid_unicode_utf8_first)], narrowed := true }
def PartyConnectedUptoSaid : Prop := partyConnectedUptoRow.holds Tryz.pinned (OpenSpec.upto partyConnectedSpec)

/-- 'insolvencylaw26.PreferencePeriod', WHERE WHAT IT READS IS OF BULK AT MOST 1048576: true; the input reads as it did. -/
def preferencePeriodUptoRow : OpenClaim := { program := "ytomfcmlomfcghaagreatdoor", sum := "55128a3438ebbda663f6b95693d646edfaeb2fbe476818439d84e529a93d6fd1", func := "insolvency/insolvencylaw26.PreferencePeriod", spec := "preferencePeriod", inPlace := ["internal/bytealg.IndexByteString", "internal/bytealg.IndexString", "internal/bytealg.abigen_runtime_cmpstring"], named := ["unicode/utf8.first", "unicode/utf8.acceptRanges", "internal/bytealg.MaxLen"], apart := false, laid := [("unicode/utf8.acceptRanges", laid_unicode_utf8_acceptRanges), ("unicode/utf8.first", laid_unicode_utf8_first)], narrowed := true }
def PreferencePeriodUptoSaid : Prop := preferencePeriodUptoRow.holds Tryz.pinned (OpenSpec.upto preferencePeriodSpec)

/-- 'insolvencylaw26.PreferenceFind', WHERE WHAT IT READS IS OF BULK AT MOST 1048576: true; the input reads as it did. -/
def preferenceFindUptoRow : OpenClaim := { program := "ytomfcmlomfcghaagreatdoor", sum := "55128a3438ebbda663f6b95693d646edfaeb2fbe476818439d84e529a93d6fd1", func := "insolvency/insolvencylaw26.PreferenceFind", spec := "preferenceFind", inPlace := ["internal/bytealg.IndexByteString", "internal/bytealg.IndexString", "internal/bytealg.abigen_runtime_cmpstring"], named := ["unicode/utf8.first", "unicode/utf8.acceptRanges", "internal/bytealg.MaxLen"], apart := false, laid := [("unicode/utf8.acceptRanges", laid_unicode_utf8_acceptRanges), ("unicode/utf8.first", laid_unicode_utf8_first)], narrowed := true }
def PreferenceFindUptoSaid : Prop := preferenceFindUptoRow.holds Tryz.pinned (OpenSpec.upto preferenceFindSpec)

/-- 'insolvencylaw26.PreferenceErrors', WHERE WHAT IT READS IS OF BULK AT MOST 1048576: true; the input reads as it did. -/
def preferenceErrorsUptoRow : OpenClaim := { program := "ytomfcmlomfcghaagreatdoor", sum := "55128a3438ebbda663f6b95693d646edfaeb2fbe476818439d84e529a93d6fd1", func := "insolvency/insolvencylaw26.PreferenceErrors", spec := "preferenceErrors", inPlace := ["internal/bytealg.IndexByteString", "internal/bytealg.IndexString", "internal/bytealg.abigen_runtime_cmpstring"], named := ["unicode/utf8.first", "unicode/utf8.acceptRanges", "internal/bytealg.MaxLen"], apart := false, laid := [("unicode/utf8.acceptRanges", laid_unicode_utf8_acceptRanges), ("unicode/utf8.first", laid_unicode_utf8_first)], narrowed := true }
def PreferenceErrorsUptoSaid : Prop := preferenceErrorsUptoRow.holds Tryz.pinned (OpenSpec.upto preferenceErrorsSpec)

/-- 'insolvencylaw27.UndervalueFind', WHERE WHAT IT READS IS OF BULK AT MOST 1048576: true; the input reads as it did. -/
def undervalueFindUptoRow : OpenClaim := { program := "ytomfcmlomfcghaagreatdoor", sum := "55128a3438ebbda663f6b95693d646edfaeb2fbe476818439d84e529a93d6fd1", func := "insolvency/insolvencylaw27.UndervalueFind", spec := "undervalueFind", inPlace := ["internal/bytealg.IndexByteString", "internal/bytealg.IndexString", "internal/bytealg.abigen_runtime_cmpstring"], named := ["unicode/utf8.first", "unicode/utf8.acceptRanges", "internal/bytealg.MaxLen"], apart := false, laid := [("unicode/utf8.acceptRanges", laid_unicode_utf8_acceptRanges), ("unicode/utf8.first", laid_unicode_utf8_first)], narrowed := true }
def UndervalueFindUptoSaid : Prop := undervalueFindUptoRow.holds Tryz.pinned (OpenSpec.upto undervalueFindSpec)

end Rows
end Go.Proofs.YtomfcmlomfcghaaGreatDoor

/-
  NARROWER THAN 'FOR EVERY INPUT', by the rows' own cells (each row's printed sentence says how): PartyCheck: laid · PartyMany: laid · PartyFixpoint: laid · PartyMore: laid · PartyChain: laid · PartySymmetric: laid · PreferenceWider: laid · PreferenceTie: laid.
  DERIVED. THE GIVEN ROWS OF THIS SEAT. 8 by the template 'for every input the law returns true; each argument reads behind the call as it read before'; 0 by the template 'total and deterministic' (their statements: YtomfcmlomfcghaaDoorTotals.lean).
  GIVEN WITH THE SEED: the statements are not yours to turn. If you find one false, say at which input.
  Laid BY PROGRAM, IN A SANDBOX (cutbox-rows.mjs): the forced cells as the released guide's own fill.sh prints them over the translation c60123c12dc508a9… (all of the seat's roots in one cut). By AI agents, Wed Nov 11 2026. No macro, syntax, notation, axiom, sorry.
-/
import Derived.Test.YtomfcmlomfcghaaDoorChecked
import GoSem.PinnedTables
import GoSem.Claim
import GoSem.ClaimJoined
import GoSem.ClaimMapViews
import Derived.JoinedTies
import Derived.KernelRfl
namespace Go.Proofs.YtomfcmlomfcghaaDoor
/- THE CELL 'sum', in the pinned program and in every row, IS THE sha256 OF THE DUMP (.gsa) THAT YtomfcmlomfcghaaDoorProg.lean LOADS. Nothing in Lean hashes anything: it is a label: what it is worth is what the hold of that sum in a sandbox is worth. -/
noncomputable def Tryd.pinned : Pinned := { name := "ytomfcmlomfcghaadoor", sum := "c60123c12dc508a91e975d7ec6d12860dfe28c06344d6fadf4ea9b29a5998f56", checked := Tryd.checked }
namespace Rows
def none {H : Type} : Left H := { results := [], args := [] }

/- WHAT THE LISTED PACKAGE-LEVEL VARIABLES READ AS WHEN THE CALL BEGINS. Each datum BY PROGRAM (the guide's laid-datum.mjs) off the statement by which the dump's own 'gosem.cut.vars' lays the variable. In a bare row this is a premise. The card (YtomfcmlomfcghaaDoorCards.lean) ties it to the program's text. -/
def laid_unicode_utf8_acceptRanges {H : Type} : DataW H := .agg [.agg [.lit (.int .u8 128), .lit (.int .u8 191)], .agg [.lit (.int .u8 160), .lit (.int .u8 191)], .agg [.lit (.int .u8 128), .lit (.int .u8 159)], .agg [.lit (.int .u8 144), .lit (.int .u8 191)], .agg [.lit (.int .u8 128), .lit (.int .u8 143)], .agg [.lit (.int .u8 0), .lit (.int .u8 0)], .agg [.lit (.int .u8 0), .lit (.int .u8 0)], .agg [.lit (.int .u8 0), .lit (.int .u8 0)], .agg [.lit (.int .u8 0), .lit (.int .u8 0)], .agg [.lit (.int .u8 0), .lit (.int .u8 0)], .agg [.lit (.int .u8 0), .lit (.int .u8 0)], .agg [.lit (.int .u8 0), .lit (.int .u8 0)], .agg [.lit (.int .u8 0), .lit (.int .u8 0)], .agg [.lit (.int .u8 0), .lit (.int .u8 0)], .agg [.lit (.int .u8 0), .lit (.int .u8 0)], .agg [.lit (.int .u8 0), .lit (.int .u8 0)]]
/-- One of Go's own tables, pinned by name: the form's constant. -/
def laid_unicode_utf8_first : DataW Unit := Go.Pinned.utf8First

/-- 'insolvencylaw8.PartyCheck': WHATEVER THE INPUT: true; the input reads as it did. -/
def partyCheckSpec : ChangeSpec := { name := "partyCheck", fn := fun _ => fun
  | [d] => { results := [.lit (.bool true)], args := [d] }
  | _ => none }
def partyCheckRow : OpenClaim := { program := "ytomfcmlomfcghaadoor", sum := "c60123c12dc508a91e975d7ec6d12860dfe28c06344d6fadf4ea9b29a5998f56", func := "insolvency/insolvencylaw8.PartyCheck", spec := "partyCheck", inPlace := ["internal/bytealg.IndexByteString", "internal/bytealg.IndexString", "internal/bytealg.abigen_runtime_cmpstring"], named := ["unicode/utf8.first", "unicode/utf8.acceptRanges", "internal/bytealg.MaxLen"], apart := false, laid := [("unicode/utf8.acceptRanges", laid_unicode_utf8_acceptRanges), ("unicode/utf8.first", laid_unicode_utf8_first)] }
def PartyCheckSaid : Prop := partyCheckRow.holds Tryd.pinned (OpenSpec.ofChange partyCheckSpec)

/-- ITS FALSE NEIGHBOUR: 'it returns false'. Refute it at one input. -/
def partyCheckWrong : ChangeSpec := { name := "partyCheck", fn := fun _ => fun
  | [d] => { results := [.lit (.bool false)], args := [d] }
  | _ => none }
def PartyCheckWrongFalsely : Prop := partyCheckRow.holds Tryd.pinned (OpenSpec.ofChange partyCheckWrong)

/-- 'insolvencylaw8.PartyMany': WHATEVER THE INPUT: true; the input reads as it did. -/
def partyManySpec : ChangeSpec := { name := "partyMany", fn := fun _ => fun
  | [d1, d2, d3] => { results := [.lit (.bool true)], args := [d1, d2, d3] }
  | _ => none }
def partyManyRow : OpenClaim := { program := "ytomfcmlomfcghaadoor", sum := "c60123c12dc508a91e975d7ec6d12860dfe28c06344d6fadf4ea9b29a5998f56", func := "insolvency/insolvencylaw8.PartyMany", spec := "partyMany", inPlace := ["internal/bytealg.IndexByteString", "internal/bytealg.IndexString", "internal/bytealg.abigen_runtime_cmpstring"], named := ["unicode/utf8.first", "unicode/utf8.acceptRanges", "internal/bytealg.MaxLen"], apart := false, laid := [("unicode/utf8.acceptRanges", laid_unicode_utf8_acceptRanges), ("unicode/utf8.first", laid_unicode_utf8_first)] }
def PartyManySaid : Prop := partyManyRow.holds Tryd.pinned (OpenSpec.ofChange partyManySpec)

/-- ITS FALSE NEIGHBOUR: 'it returns false'. Refute it at one input. -/
def partyManyWrong : ChangeSpec := { name := "partyMany", fn := fun _ => fun
  | [d1, d2, d3] => { results := [.lit (.bool false)], args := [d1, d2, d3] }
  | _ => none }
def PartyManyWrongFalsely : Prop := partyManyRow.holds Tryd.pinned (OpenSpec.ofChange partyManyWrong)

/-- 'insolvencylaw8.PartyFixpoint': WHATEVER THE INPUT: true; the input reads as it did. -/
def partyFixpointSpec : ChangeSpec := { name := "partyFixpoint", fn := fun _ => fun
  | [d1, d2, d3, d4] => { results := [.lit (.bool true)], args := [d1, d2, d3, d4] }
  | _ => none }
def partyFixpointRow : OpenClaim := { program := "ytomfcmlomfcghaadoor", sum := "c60123c12dc508a91e975d7ec6d12860dfe28c06344d6fadf4ea9b29a5998f56", func := "insolvency/insolvencylaw8.PartyFixpoint", spec := "partyFixpoint", inPlace := ["internal/bytealg.IndexByteString", "internal/bytealg.IndexString", "internal/bytealg.abigen_runtime_cmpstring"], named := ["unicode/utf8.first", "unicode/utf8.acceptRanges", "internal/bytealg.MaxLen"], apart := false, laid := [("unicode/utf8.acceptRanges", laid_unicode_utf8_acceptRanges), ("unicode/utf8.first", laid_unicode_utf8_first)] }
def PartyFixpointSaid : Prop := partyFixpointRow.holds Tryd.pinned (OpenSpec.ofChange partyFixpointSpec)

/-- ITS FALSE NEIGHBOUR: 'it returns false'. Refute it at one input. -/
def partyFixpointWrong : ChangeSpec := { name := "partyFixpoint", fn := fun _ => fun
  | [d1, d2, d3, d4] => { results := [.lit (.bool false)], args := [d1, d2, d3, d4] }
  | _ => none }
def PartyFixpointWrongFalsely : Prop := partyFixpointRow.holds Tryd.pinned (OpenSpec.ofChange partyFixpointWrong)

/-- 'insolvencylaw8.PartyMore': WHATEVER THE INPUT: true; the input reads as it did. -/
def partyMoreSpec : ChangeSpec := { name := "partyMore", fn := fun _ => fun
  | [d1, d2, d3, d4, d5] => { results := [.lit (.bool true)], args := [d1, d2, d3, d4, d5] }
  | _ => none }
def partyMoreRow : OpenClaim := { program := "ytomfcmlomfcghaadoor", sum := "c60123c12dc508a91e975d7ec6d12860dfe28c06344d6fadf4ea9b29a5998f56", func := "insolvency/insolvencylaw8.PartyMore", spec := "partyMore", inPlace := ["internal/bytealg.IndexByteString", "internal/bytealg.IndexString", "internal/bytealg.abigen_runtime_cmpstring"], named := ["unicode/utf8.first", "unicode/utf8.acceptRanges", "internal/bytealg.MaxLen"], apart := false, laid := [("unicode/utf8.acceptRanges", laid_unicode_utf8_acceptRanges), ("unicode/utf8.first", laid_unicode_utf8_first)] }
def PartyMoreSaid : Prop := partyMoreRow.holds Tryd.pinned (OpenSpec.ofChange partyMoreSpec)

/-- ITS FALSE NEIGHBOUR: 'it returns false'. Refute it at one input. -/
def partyMoreWrong : ChangeSpec := { name := "partyMore", fn := fun _ => fun
  | [d1, d2, d3, d4, d5] => { results := [.lit (.bool false)], args := [d1, d2, d3, d4, d5] }
  | _ => none }
def PartyMoreWrongFalsely : Prop := partyMoreRow.holds Tryd.pinned (OpenSpec.ofChange partyMoreWrong)

/-- 'insolvencylaw8.PartyChain': WHATEVER THE INPUT: true; the input reads as it did. -/
def partyChainSpec : ChangeSpec := { name := "partyChain", fn := fun _ => fun
  | [d1, d2, d3] => { results := [.lit (.bool true)], args := [d1, d2, d3] }
  | _ => none }
def partyChainRow : OpenClaim := { program := "ytomfcmlomfcghaadoor", sum := "c60123c12dc508a91e975d7ec6d12860dfe28c06344d6fadf4ea9b29a5998f56", func := "insolvency/insolvencylaw8.PartyChain", spec := "partyChain", inPlace := ["internal/bytealg.IndexByteString", "internal/bytealg.IndexString", "internal/bytealg.abigen_runtime_cmpstring"], named := ["unicode/utf8.first", "unicode/utf8.acceptRanges", "internal/bytealg.MaxLen"], apart := false, laid := [("unicode/utf8.acceptRanges", laid_unicode_utf8_acceptRanges), ("unicode/utf8.first", laid_unicode_utf8_first)] }
def PartyChainSaid : Prop := partyChainRow.holds Tryd.pinned (OpenSpec.ofChange partyChainSpec)

/-- ITS FALSE NEIGHBOUR: 'it returns false'. Refute it at one input. -/
def partyChainWrong : ChangeSpec := { name := "partyChain", fn := fun _ => fun
  | [d1, d2, d3] => { results := [.lit (.bool false)], args := [d1, d2, d3] }
  | _ => none }
def PartyChainWrongFalsely : Prop := partyChainRow.holds Tryd.pinned (OpenSpec.ofChange partyChainWrong)

/-- 'insolvencylaw8.PartySymmetric': WHATEVER THE INPUT: true; the input reads as it did. -/
def partySymmetricSpec : ChangeSpec := { name := "partySymmetric", fn := fun _ => fun
  | [d1, d2, d3, d4] => { results := [.lit (.bool true)], args := [d1, d2, d3, d4] }
  | _ => none }
def partySymmetricRow : OpenClaim := { program := "ytomfcmlomfcghaadoor", sum := "c60123c12dc508a91e975d7ec6d12860dfe28c06344d6fadf4ea9b29a5998f56", func := "insolvency/insolvencylaw8.PartySymmetric", spec := "partySymmetric", inPlace := ["internal/bytealg.IndexByteString", "internal/bytealg.IndexString", "internal/bytealg.abigen_runtime_cmpstring"], named := ["unicode/utf8.first", "unicode/utf8.acceptRanges", "internal/bytealg.MaxLen"], apart := false, laid := [("unicode/utf8.acceptRanges", laid_unicode_utf8_acceptRanges), ("unicode/utf8.first", laid_unicode_utf8_first)] }
def PartySymmetricSaid : Prop := partySymmetricRow.holds Tryd.pinned (OpenSpec.ofChange partySymmetricSpec)

/-- ITS FALSE NEIGHBOUR: 'it returns false'. Refute it at one input. -/
def partySymmetricWrong : ChangeSpec := { name := "partySymmetric", fn := fun _ => fun
  | [d1, d2, d3, d4] => { results := [.lit (.bool false)], args := [d1, d2, d3, d4] }
  | _ => none }
def PartySymmetricWrongFalsely : Prop := partySymmetricRow.holds Tryd.pinned (OpenSpec.ofChange partySymmetricWrong)

/-- 'insolvencylaw26.PreferenceWider': WHATEVER THE INPUT: true; the input reads as it did. -/
def preferenceWiderSpec : ChangeSpec := { name := "preferenceWider", fn := fun _ => fun
  | [d1, d2, d3, d4, d5, d6, d7, d8] => { results := [.lit (.bool true)], args := [d1, d2, d3, d4, d5, d6, d7, d8] }
  | _ => none }
def preferenceWiderRow : OpenClaim := { program := "ytomfcmlomfcghaadoor", sum := "c60123c12dc508a91e975d7ec6d12860dfe28c06344d6fadf4ea9b29a5998f56", func := "insolvency/insolvencylaw26.PreferenceWider", spec := "preferenceWider", inPlace := ["internal/bytealg.IndexByteString", "internal/bytealg.IndexString", "internal/bytealg.abigen_runtime_cmpstring"], named := ["unicode/utf8.first", "unicode/utf8.acceptRanges", "internal/bytealg.MaxLen"], apart := false, laid := [("unicode/utf8.acceptRanges", laid_unicode_utf8_acceptRanges), ("unicode/utf8.first", laid_unicode_utf8_first)] }
def PreferenceWiderSaid : Prop := preferenceWiderRow.holds Tryd.pinned (OpenSpec.ofChange preferenceWiderSpec)

/-- ITS FALSE NEIGHBOUR: 'it returns false'. Refute it at one input. -/
def preferenceWiderWrong : ChangeSpec := { name := "preferenceWider", fn := fun _ => fun
  | [d1, d2, d3, d4, d5, d6, d7, d8] => { results := [.lit (.bool false)], args := [d1, d2, d3, d4, d5, d6, d7, d8] }
  | _ => none }
def PreferenceWiderWrongFalsely : Prop := preferenceWiderRow.holds Tryd.pinned (OpenSpec.ofChange preferenceWiderWrong)

/-- 'insolvencylaw26.PreferenceTie': WHATEVER THE INPUT: true; the input reads as it did. -/
def preferenceTieSpec : ChangeSpec := { name := "preferenceTie", fn := fun _ => fun
  | [d1, d2, d3] => { results := [.lit (.bool true)], args := [d1, d2, d3] }
  | _ => none }
def preferenceTieRow : OpenClaim := { program := "ytomfcmlomfcghaadoor", sum := "c60123c12dc508a91e975d7ec6d12860dfe28c06344d6fadf4ea9b29a5998f56", func := "insolvency/insolvencylaw26.PreferenceTie", spec := "preferenceTie", inPlace := ["internal/bytealg.IndexByteString", "internal/bytealg.IndexString", "internal/bytealg.abigen_runtime_cmpstring"], named := ["unicode/utf8.first", "unicode/utf8.acceptRanges", "internal/bytealg.MaxLen"], apart := false, laid := [("unicode/utf8.acceptRanges", laid_unicode_utf8_acceptRanges), ("unicode/utf8.first", laid_unicode_utf8_first)] }
def PreferenceTieSaid : Prop := preferenceTieRow.holds Tryd.pinned (OpenSpec.ofChange preferenceTieSpec)

/-- ITS FALSE NEIGHBOUR: 'it returns false'. Refute it at one input. -/
def preferenceTieWrong : ChangeSpec := { name := "preferenceTie", fn := fun _ => fun
  | [d1, d2, d3] => { results := [.lit (.bool false)], args := [d1, d2, d3] }
  | _ => none }
def PreferenceTieWrongFalsely : Prop := preferenceTieRow.holds Tryd.pinned (OpenSpec.ofChange preferenceTieWrong)

/- THE SECOND FORM. 'bulk': how many values and letters a reading holds, each counted each time it is reached (what is shared counts as often as it is met; a slice's spare places count too). A statement '..UptoSaid' is the law's where the arguments, and the package variables that the reading takes, are together of bulk at most 1048576: NARROWER than '..Said'. Prove '..Said' where nothing that the law and all that it calls make is longer than what came in: it says more and counts as full. Else prove '..UptoSaid'. A law counts once. -/
mutual
def uptoBulk {H : Type} : DataW H → Nat
  | .lit (.string bytes) => bytes.length + 1
  | .lit _ => 1
  | .nil => 1
  | .ptr d => uptoBulk d + 1
  | .slice elems spare => uptoBulkAll elems + uptoBulkAll spare + 1
  | .agg parts => uptoBulkAll parts + 1
  | .iface _ d => uptoBulk d + 1
  | .map entries => uptoBulkEntries entries + 1
  | .held _ => 1
def uptoBulkAll {H : Type} : List (DataW H) → Nat
  | [] => 0
  | d :: r => uptoBulk d + uptoBulkAll r
def uptoBulkEntries {H : Type} : List (Lit × DataW H) → Nat
  | [] => 0
  | x :: r => uptoBulkEntry x + uptoBulkEntries r
def uptoBulkEntry {H : Type} : Lit × DataW H → Nat
  | (.string bytes, d) => bytes.length + uptoBulk d + 1
  | (_, d) => uptoBulk d + 1
 end
def uptoSmall : (H : Type) → List (DataW H) → Bool := fun _ ds => decide (uptoBulkAll ds ≤ 1048576)
def OpenSpec.upto (s : _root_.Go.ChangeSpec) : _root_.Go.OpenSpec := { _root_.Go.OpenSpec.ofChange s with cond := some uptoSmall }

/-- 'insolvencylaw8.PartyCheck', WHERE WHAT IT READS IS OF BULK AT MOST 1048576: true; the input reads as it did. -/
def partyCheckUptoRow : OpenClaim := { program := "ytomfcmlomfcghaadoor", sum := "c60123c12dc508a91e975d7ec6d12860dfe28c06344d6fadf4ea9b29a5998f56", func := "insolvency/insolvencylaw8.PartyCheck", spec := "partyCheck", inPlace := ["internal/bytealg.IndexByteString", "internal/bytealg.IndexString", "internal/bytealg.abigen_runtime_cmpstring"], named := ["unicode/utf8.first", "unicode/utf8.acceptRanges", "internal/bytealg.MaxLen"], apart := false, laid := [("unicode/utf8.acceptRanges", laid_unicode_utf8_acceptRanges), ("unicode/utf8.first", laid_unicode_utf8_first)], narrowed := true }
def PartyCheckUptoSaid : Prop := partyCheckUptoRow.holds Tryd.pinned (OpenSpec.upto partyCheckSpec)

/-- 'insolvencylaw8.PartyMany', WHERE WHAT IT READS IS OF BULK AT MOST 1048576: true; the input reads as it did. -/
def partyManyUptoRow : OpenClaim := { program := "ytomfcmlomfcghaadoor", sum := "c60123c12dc508a91e975d7ec6d12860dfe28c06344d6fadf4ea9b29a5998f56", func := "insolvency/insolvencylaw8.PartyMany", spec := "partyMany", inPlace := ["internal/bytealg.IndexByteString", "internal/bytealg.IndexString", "internal/bytealg.abigen_runtime_cmpstring"], named := ["unicode/utf8.first", "unicode/utf8.acceptRanges", "internal/bytealg.MaxLen"], apart := false, laid := [("unicode/utf8.acceptRanges", laid_unicode_utf8_acceptRanges), ("unicode/utf8.first", laid_unicode_utf8_first)], narrowed := true }
def PartyManyUptoSaid : Prop := partyManyUptoRow.holds Tryd.pinned (OpenSpec.upto partyManySpec)

/-- 'insolvencylaw8.PartyFixpoint', WHERE WHAT IT READS IS OF BULK AT MOST 1048576: true; the input reads as it did. -/
def partyFixpointUptoRow : OpenClaim := { program := "ytomfcmlomfcghaadoor", sum := "c60123c12dc508a91e975d7ec6d12860dfe28c06344d6fadf4ea9b29a5998f56", func := "insolvency/insolvencylaw8.PartyFixpoint", spec := "partyFixpoint", inPlace := ["internal/bytealg.IndexByteString", "internal/bytealg.IndexString", "internal/bytealg.abigen_runtime_cmpstring"], named := ["unicode/utf8.first", "unicode/utf8.acceptRanges", "internal/bytealg.MaxLen"], apart := false, laid := [("unicode/utf8.acceptRanges", laid_unicode_utf8_acceptRanges), ("unicode/utf8.first", laid_unicode_utf8_first)], narrowed := true }
def PartyFixpointUptoSaid : Prop := partyFixpointUptoRow.holds Tryd.pinned (OpenSpec.upto partyFixpointSpec)

/-- 'insolvencylaw8.PartyMore', WHERE WHAT IT READS IS OF BULK AT MOST 1048576: true; the input reads as it did. -/
def partyMoreUptoRow : OpenClaim := { program := "ytomfcmlomfcghaadoor", sum := "c60123c12dc508a91e975d7ec6d12860dfe28c06344d6fadf4ea9b29a5998f56", func := "insolvency/insolvencylaw8.PartyMore", spec := "partyMore", inPlace := ["internal/bytealg.IndexByteString", "internal/bytealg.IndexString", "internal/bytealg.abigen_runtime_cmpstring"], named := ["unicode/utf8.first", "unicode/utf8.acceptRanges", "internal/bytealg.MaxLen"], apart := false, laid := [("unicode/utf8.acceptRanges", laid_unicode_utf8_acceptRanges), ("unicode/utf8.first", laid_unicode_utf8_first)], narrowed := true }
def PartyMoreUptoSaid : Prop := partyMoreUptoRow.holds Tryd.pinned (OpenSpec.upto partyMoreSpec)

/-- 'insolvencylaw8.PartyChain', WHERE WHAT IT READS IS OF BULK AT MOST 1048576: true; the input reads as it did. -/
def partyChainUptoRow : OpenClaim := { program := "ytomfcmlomfcghaadoor", sum := "c60123c12dc508a91e975d7ec6d12860dfe28c06344d6fadf4ea9b29a5998f56", func := "insolvency/insolvencylaw8.PartyChain", spec := "partyChain", inPlace := ["internal/bytealg.IndexByteString", "internal/bytealg.IndexString", "internal/bytealg.abigen_runtime_cmpstring"], named := ["unicode/utf8.first", "unicode/utf8.acceptRanges", "internal/bytealg.MaxLen"], apart := false, laid := [("unicode/utf8.acceptRanges", laid_unicode_utf8_acceptRanges), ("unicode/utf8.first", laid_unicode_utf8_first)], narrowed := true }
def PartyChainUptoSaid : Prop := partyChainUptoRow.holds Tryd.pinned (OpenSpec.upto partyChainSpec)

/-- 'insolvencylaw8.PartySymmetric', WHERE WHAT IT READS IS OF BULK AT MOST 1048576: true; the input reads as it did. -/
def partySymmetricUptoRow : OpenClaim := { program := "ytomfcmlomfcghaadoor", sum := "c60123c12dc508a91e975d7ec6d12860dfe28c06344d6fadf4ea9b29a5998f56", func := "insolvency/insolvencylaw8.PartySymmetric", spec := "partySymmetric", inPlace := ["internal/bytealg.IndexByteString", "internal/bytealg.IndexString", "internal/bytealg.abigen_runtime_cmpstring"], named := ["unicode/utf8.first", "unicode/utf8.acceptRanges", "internal/bytealg.MaxLen"], apart := false, laid := [("unicode/utf8.acceptRanges", laid_unicode_utf8_acceptRanges), ("unicode/utf8.first", laid_unicode_utf8_first)], narrowed := true }
def PartySymmetricUptoSaid : Prop := partySymmetricUptoRow.holds Tryd.pinned (OpenSpec.upto partySymmetricSpec)

/-- 'insolvencylaw26.PreferenceWider', WHERE WHAT IT READS IS OF BULK AT MOST 1048576: true; the input reads as it did. -/
def preferenceWiderUptoRow : OpenClaim := { program := "ytomfcmlomfcghaadoor", sum := "c60123c12dc508a91e975d7ec6d12860dfe28c06344d6fadf4ea9b29a5998f56", func := "insolvency/insolvencylaw26.PreferenceWider", spec := "preferenceWider", inPlace := ["internal/bytealg.IndexByteString", "internal/bytealg.IndexString", "internal/bytealg.abigen_runtime_cmpstring"], named := ["unicode/utf8.first", "unicode/utf8.acceptRanges", "internal/bytealg.MaxLen"], apart := false, laid := [("unicode/utf8.acceptRanges", laid_unicode_utf8_acceptRanges), ("unicode/utf8.first", laid_unicode_utf8_first)], narrowed := true }
def PreferenceWiderUptoSaid : Prop := preferenceWiderUptoRow.holds Tryd.pinned (OpenSpec.upto preferenceWiderSpec)

/-- 'insolvencylaw26.PreferenceTie', WHERE WHAT IT READS IS OF BULK AT MOST 1048576: true; the input reads as it did. -/
def preferenceTieUptoRow : OpenClaim := { program := "ytomfcmlomfcghaadoor", sum := "c60123c12dc508a91e975d7ec6d12860dfe28c06344d6fadf4ea9b29a5998f56", func := "insolvency/insolvencylaw26.PreferenceTie", spec := "preferenceTie", inPlace := ["internal/bytealg.IndexByteString", "internal/bytealg.IndexString", "internal/bytealg.abigen_runtime_cmpstring"], named := ["unicode/utf8.first", "unicode/utf8.acceptRanges", "internal/bytealg.MaxLen"], apart := false, laid := [("unicode/utf8.acceptRanges", laid_unicode_utf8_acceptRanges), ("unicode/utf8.first", laid_unicode_utf8_first)], narrowed := true }
def PreferenceTieUptoSaid : Prop := preferenceTieUptoRow.holds Tryd.pinned (OpenSpec.upto preferenceTieSpec)

end Rows
end Go.Proofs.YtomfcmlomfcghaaDoor

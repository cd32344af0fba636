/- The definition's Trace: the run with its wraps. Plain definitions. -/
import Derived.Test.YtlljmiddgadcpaaTraceW
set_option linter.unusedVariables false
set_option linter.unusedSimpArgs false
namespace Go.Proofs.Ytlljmiddgadcpaa
open Go.RowKit

def over (b t : Int) : Int := pos (wrap64 (t - pos b))
def clipOneR (bal tr : List Int) (lost : Int) (k : Nat) : List Int × Int := (tr.set k (wrap64 (tr.getD k 0 - over (bal.getD k 0) (tr.getD k 0))), wrap64 (lost + over (bal.getD k 0) (tr.getD k 0)))
def clipToR (bal : List Int) : Nat → List Int × Int → List Int × Int
  | 0, s => s
  | k + 1, s => let s' := clipToR bal k s; clipOneR bal s'.1 s'.2 k
theorem clipToR_len (bal : List Int) (s : List Int × Int) : ∀ k, (clipToR bal k s).1.length = s.1.length
  | 0 => rfl
  | k + 1 => by simp only [clipToR, clipOneR, List.length_set]; exact clipToR_len bal s k

def moveR (bal : List Int) (p q : Nat) (am : Int) : List Int :=
  (bal.set p (wrap64 (bal.getD p 0 - am))).set q (wrap64 (bal.getD q 0 + am))
def partR (at_ : Int) (k : Nat) (s : WSt) (r : Row) : List Int × Int :=
  if (k : Int) = at_ then (s.tr.set (payee r).toNat r.amount, s.lost)
  else (spendTr s.tr (payer r).toNat (payee r).toNat (spentAt s r) r.kind, spendLost s.lost (spentAt s r) r.kind)
def stepR (at_ : Int) (k : Nat) (s : WSt) (r : Row) : WSt :=
  if r.kind = 2 then s
  else
    let b := moveR s.bal (payer r).toNat (payee r).toNat r.amount
    let c := clipToR b s.tr.length (partR at_ k s r)
    ⟨b, c.1, c.2⟩
def runR (rows : List Row) (at_ : Int) (s : WSt) : Nat → WSt
  | 0 => s
  | k + 1 => match rows[k]? with | some r => stepR at_ k (runR rows at_ s k) r | none => runR rows at_ s k
theorem runR_succ {rows : List Row} {at_ : Int} {s : WSt} {k : Nat} {r : Row} (h : rows[k]? = some r) : runR rows at_ s (k + 1) = stepR at_ k (runR rows at_ s k) r := by
  show (match rows[k]? with | some r => stepR at_ k (runR rows at_ s k) r | none => runR rows at_ s k) = _
  rw [h]

def TraceRefPost (w : World) (rows : List Row) (os : List Int) (at_ : Int) (e : Ending) (w' : World) : Prop :=
  Below w.heap.size w w' ∧
  (traceErr rows os at_ ≠ 0 → e = .returned (.tuple #[.slice none 0 0, .int .i64 0, .int .i64 (traceErr rows os at_)])) ∧
  (traceErr rows os at_ = 0 → ∃ g, w.heap.size ≤ g ∧ e = .returned (.tuple #[.slice (some ⟨g, 0, none⟩) os.length os.length, .int .i64 (runR rows at_ (initW os) rows.length).lost, .int .i64 0]) ∧
    IRow w' g (runR rows at_ (initW os) rows.length).tr)

end Go.Proofs.Ytlljmiddgadcpaa

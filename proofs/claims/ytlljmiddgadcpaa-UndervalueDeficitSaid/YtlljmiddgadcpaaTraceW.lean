/- undervalue.Trace: errors, and the run with its wraps. Plain definitions. -/
import Derived.Test.YtlljmiddgadcpaaTrSpend
set_option linter.unusedVariables false
set_option linter.unusedSimpArgs false
namespace Go.Proofs.Ytlljmiddgadcpaa
open Go.RowKit

def IntsRd (w : World) (B : Nat) (A : Option Addr) (xs : List Int) : Prop := Rd w B 1 A xs.length (xs.map (Value.int .i64))
theorem IntsRd.next {w w' : World} {A : Option Addr} {xs : List Int} (h : IntsRd w w.heap.size A xs) (hb : Below w.heap.size w w') : IntsRd w' w'.heap.size A xs := Rd.next h hb
theorem IntsRd.below {w w' : World} {B : Nat} {A : Option Addr} {xs : List Int} (h : IntsRd w B A xs) (hb : Below B w w') : IntsRd w' B A xs := Rd.below h hb
theorem IntsRd.at_ {w : World} {B : Nat} {A : Option Addr} {xs : List Int} (h : IntsRd w B A xs) {k : Nat} {x : Int} (hk : xs[k]? = some x) :
    ∃ b off, A = some ⟨b, off, none⟩ ∧ b < B ∧ w.cell? ⟨b, off + k, none⟩ = some (.int .i64 x) := by
  have hlt : k < xs.length := (List.getElem?_eq_some_iff.1 hk).1
  obtain ⟨b, off, e, hb, hc⟩ := h.2 (by omega)
  exact ⟨b, off, e, hb, hc k _ (by simp [hk])⟩

def outOf (x : Int) : Bool := decide (x < -1125899906842624 ∨ 1125899906842624 < x)
def kindAt (rows : List Row) (at_ : Int) : Int := match rows[at_.toNat]? with | some r => r.kind | none => 0
def traceErr (rows : List Row) (os : List Int) (at_ : Int) : Int :=
  if check os.length rows ≠ 0 then check os.length rows
  else if os.any outOf then 1
  else if at_ < 0 ∨ (rows.length : Int) ≤ at_ then 1
  else if kindAt rows at_ ≠ 1 then 13 else 0

structure WSt where
  bal : List Int
  tr : List Int
  lost : Int

def moveBal (bal : List Int) (r : Row) : List Int :=
  (bal.set r.frm.toNat (wrap64 (bal.getD r.frm.toNat 0 + moneyOf r r.frm))).set r.to.toNat (wrap64 ((bal.set r.frm.toNat (wrap64 (bal.getD r.frm.toNat 0 + moneyOf r r.frm))).getD r.to.toNat 0 + moneyOf r r.to))
def spentAt (s : WSt) (r : Row) : Int := spentW (s.bal.getD (payer r).toNat 0) (s.tr.getD (payer r).toNat 0) r.amount
/-- one row, with the program's wraps -/
def stepW (at_ : Int) (k : Nat) (s : WSt) (r : Row) : WSt :=
  let s1 : WSt := if (k : Int) = at_ then { s with tr := s.tr.set r.to.toNat r.amount } else s
  let s2 : WSt := if at_ < k ∧ r.kind ≠ 2 then { s1 with tr := spendTr s1.tr (payer r).toNat (payee r).toNat (spentAt s1 r) r.kind, lost := spendLost s1.lost (spentAt s1 r) r.kind } else s1
  let s3 : WSt := { s2 with bal := moveBal s2.bal r }
  if at_ ≤ k then { s3 with tr := (clipToW s3.bal s3.bal.length (s3.tr, s3.lost)).1, lost := (clipToW s3.bal s3.bal.length (s3.tr, s3.lost)).2 } else s3
def runW (rows : List Row) (at_ : Int) (s : WSt) : Nat → WSt
  | 0 => s
  | k + 1 => match rows[k]? with | some r => stepW at_ k (runW rows at_ s k) r | none => runW rows at_ s k
def initW (os : List Int) : WSt := { bal := os, tr := List.replicate os.length 0, lost := 0 }

theorem runW_succ {rows : List Row} {at_ : Int} {s : WSt} {k : Nat} {r : Row} (h : rows[k]? = some r) : runW rows at_ s (k + 1) = stepW at_ k (runW rows at_ s k) r := by
  show (match rows[k]? with | some r => stepW at_ k (runW rows at_ s k) r | none => runW rows at_ s k) = _
  rw [h]

def TracePost (w : World) (rows : List Row) (os : List Int) (at_ : Int) (e : Ending) (w' : World) : Prop :=
  Below w.heap.size w w' ∧
  (traceErr rows os at_ ≠ 0 → e = .returned (.tuple #[.slice none 0 0, .int .i64 0, .int .i64 (traceErr rows os at_)])) ∧
  (traceErr rows os at_ = 0 → ∃ g, w.heap.size ≤ g ∧ e = .returned (.tuple #[.slice (some ⟨g, 0, none⟩) os.length os.length, .int .i64 (runW rows at_ (initW os) rows.length).lost, .int .i64 0]) ∧
    IRow w' g (runW rows at_ (initW os) rows.length).tr)

end Go.Proofs.Ytlljmiddgadcpaa

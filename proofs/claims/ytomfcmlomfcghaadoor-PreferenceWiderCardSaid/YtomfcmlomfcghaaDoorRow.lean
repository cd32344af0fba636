/- api.Row as a Lean structure, a slice of rows that is read. -/
import Derived.Test.YtomfcmlomfcghaaDoorM2
set_option linter.unusedVariables false
set_option linter.unusedSimpArgs false
namespace Go.Proofs.YtomfcmlomfcghaaDoor
open Go.RowKit

structure Row where
  day : Int
  kind : Int
  frm : Int
  to : Int
  amount : Int
  worth : Int

def Row.cells (r : Row) : List Value := [.int .i64 r.day, .int .i64 r.kind, .int .i64 r.frm, .int .i64 r.to, .int .i64 r.amount, .int .i64 r.worth]

theorem Row.cells_len (r : Row) : r.cells.length = 6 := rfl

def RowsRd (w : World) (B : Nat) (A : Option Addr) (rows : List Row) : Prop := Rd w B 6 A rows.length (rows.flatMap Row.cells)

theorem RowsRd.next {w w' : World} {A : Option Addr} {rows : List Row} (h : RowsRd w w.heap.size A rows) (hb : Below w.heap.size w w') : RowsRd w' w'.heap.size A rows := Rd.next h hb
theorem RowsRd.below {w w' : World} {B : Nat} {A : Option Addr} {rows : List Row} (h : RowsRd w B A rows) (hb : Below B w w') : RowsRd w' B A rows := Rd.below h hb

theorem RowsRd.at_ {w : World} {B : Nat} {A : Option Addr} {rows : List Row} (h : RowsRd w B A rows) {k : Nat} {r : Row} (hk : rows[k]? = some r) :
    ∃ b off, A = some ⟨b, off, none⟩ ∧ b < B ∧ w.cell? ⟨b, off + k * 6, none⟩ = some (.int .i64 r.day) ∧ w.cell? ⟨b, off + k * 6 + 1, none⟩ = some (.int .i64 r.kind) ∧ w.cell? ⟨b, off + k * 6 + 2, none⟩ = some (.int .i64 r.frm) ∧
      w.cell? ⟨b, off + k * 6 + 3, none⟩ = some (.int .i64 r.to) ∧ w.cell? ⟨b, off + k * 6 + 4, none⟩ = some (.int .i64 r.amount) ∧ w.cell? ⟨b, off + k * 6 + 5, none⟩ = some (.int .i64 r.worth) := by
  obtain ⟨b, off, e, hb, hc⟩ := Rd.at_ Row.cells_len h hk
  refine ⟨b, off, e, hb, hc 0 _ rfl, ?_, ?_, ?_, ?_, ?_⟩
  · have := hc 1 _ rfl; rwa [← Nat.add_assoc] at this
  · have := hc 2 _ rfl; rwa [← Nat.add_assoc] at this
  · have := hc 3 _ rfl; rwa [← Nat.add_assoc] at this
  · have := hc 4 _ rfl; rwa [← Nat.add_assoc] at this
  · have := hc 5 _ rfl; rwa [← Nat.add_assoc] at this

/-- one step of Exposure -/
def expoStep (deb cre f t : Int) (x : Int) (r : Row) : Int :=
  if r.day < f ∨ t < r.day then x
  else if r.kind = 1 ∧ r.frm = deb ∧ r.to = cre then wrap64 (x + r.amount)
  else if (r.kind = 1 ∨ r.kind = 2) ∧ r.frm = cre ∧ r.to = deb then (if wrap64 (x - r.amount) < 0 then 0 else wrap64 (x - r.amount))
  else x
def expo (deb cre f t : Int) (rows : List Row) : Int := if deb = cre then 0 else rows.foldl (expoStep deb cre f t) 0

end Go.Proofs.YtomfcmlomfcghaaDoor

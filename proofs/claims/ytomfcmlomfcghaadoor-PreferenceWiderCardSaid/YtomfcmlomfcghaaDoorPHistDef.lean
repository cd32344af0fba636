/- Lean's words for the history: errors of rows, money of a row. Nothing of the program. -/
import Derived.Test.YtomfcmlomfcghaaDoorRow
set_option linter.unusedVariables false
set_option linter.unusedSimpArgs false
namespace Go.Proofs.YtomfcmlomfcghaaDoor
open Go.RowKit

def maxCents : Int := 1125899906842624

def rowRange (r : Row) : Bool := decide (0 ≤ r.day ∧ r.day ≤ 1048576 ∧ 1 ≤ r.kind ∧ r.kind ≤ 3 ∧ 0 ≤ r.amount ∧ r.amount ≤ 1125899906842624 ∧ 0 ≤ r.worth ∧ r.worth ≤ 1125899906842624 ∧ (r.worth = 0 ∨ r.kind = 3))
def rowParty (n : Int) (r : Row) : Bool := decide (0 ≤ r.frm ∧ r.frm < n ∧ 0 ≤ r.to ∧ r.to < n ∧ r.frm ≠ r.to)
def rowErr (n before : Int) (r : Row) : Int := if rowRange r = false then 1 else if rowParty n r = false then 14 else if r.day < before then 15 else 0
def hchk (n : Int) : Int → List Row → Int
  | _, [] => 0
  | b, r :: l => if rowErr n b r ≠ 0 then rowErr n b r else hchk n r.day l
def hcheck (n : Int) (rows : List Row) : Int := if 256 < rows.length then 2 else hchk n 0 rows

def moneyOf (r : Row) (p : Int) : Int :=
  let n := if r.kind = 1 then r.amount else if r.kind = 3 then wrap64 (-r.amount) else 0
  let o := if r.to = p then wrap64 (0 + n) else 0
  if r.frm = p then wrap64 (o - n) else o

theorem hchk_ok (n : Int) : ∀ (rows : List Row) (b : Int), hchk n b rows = 0 → ∀ r ∈ rows, rowRange r = true ∧ rowParty n r = true
  | [], _, _, r, hr => by simp at hr
  | x :: l, b, h, r, hr => by
    rw [hchk] at h
    split at h
    · rename_i hne; exact absurd h hne
    · rename_i hne
      have hx : rowErr n b x = 0 := by omega
      rcases List.mem_cons.1 hr with rfl | hr
      · unfold rowErr at hx
        repeat' split at hx
        all_goals simp_all
      · exact hchk_ok n l _ h r hr

end Go.Proofs.YtomfcmlomfcghaaDoor

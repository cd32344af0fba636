/- Preference and undervalue: plain laws. -/
import Derived.Test.YtomfcmlomfcghaaGreatDoorPtyC
import Derived.Test.YtomfcmlomfcghaaGreatDoorM20
import Derived.Test.YtomfcmlomfcghaaGreatDoorM21
set_option linter.unusedVariables false
set_option linter.unusedSimpArgs false
namespace Go.Proofs.YtomfcmlomfcghaaGreatDoor
open Go.RowKit

structure Win where
  cut : Int
  days : Int
  con : Int
def Win.ok (w : Win) : Prop := i64b w.cut ∧ i64b w.days ∧ i64b w.con
def dayB (x : Int) : Bool := decide (0 ≤ x) && decide (x ≤ 1048576)
theorem dayB_iff {x : Int} : dayB x = true ↔ 0 ≤ x ∧ x ≤ 1048576 := by simp [dayB]
def winB (w : Win) : Bool := dayB w.cut && (dayB w.days && dayB w.con)
def winErr (w : Win) : Int := if winB w = true then 0 else 1
def perErr (P : Prt) (deb cre : Int) (w : Win) : Int := if chk P ≠ 0 then chk P else if inN P.kinds.length cre = false then 14 else if inN P.kinds.length deb = false then 14 else winErr w
noncomputable def perFrom (P : Prt) (deb cre : Nat) (w : Win) : Int := if w.cut - (if con P deb cre = true then w.con else w.days) < 0 then 0 else w.cut - (if con P deb cre = true then w.con else w.days)
def findErr (P : Prt) (rows : List Row) (deb : Int) (w : Win) : Int := if chk P ≠ 0 then chk P else if hcheck P.kinds.length rows ≠ 0 then hcheck P.kinds.length rows else if inN P.kinds.length deb = false then 14 else winErr w
structure Dem where
  deb : Int
  party : Int
  ground : Int
  cents : Int
def demV (d : Dem) : List Value := [.int .i64 d.deb, .int .i64 d.party, .int .i64 d.ground, .int .i64 d.cents]
/-- the demands of parties with a positive sum -/
def demands (f : Nat → Int) (deb g : Int) (n : Nat) : List Dem := (List.range n).filterMap fun (k : Nat) => if 0 < f k then some ⟨deb, (k : Int), g, f k⟩ else none
theorem demands_succ (f : Nat → Int) (deb g : Int) (k : Nat) : demands f deb g (k + 1) = if 0 < f k then demands f deb g k ++ [⟨deb, (k : Int), g, f k⟩] else demands f deb g k := by
  unfold demands
  rw [List.range_succ, List.filterMap_append]
  by_cases h : 0 < f k
  · rw [if_pos h]; simp [h]
  · rw [if_neg h]; simp [h]
theorem demands_len (f : Nat → Int) (deb g : Int) : ∀ n, (demands f deb g n).length ≤ n
  | 0 => Nat.le_refl _
  | n + 1 => by
    have := demands_len f deb g n
    rw [demands_succ]
    split
    · rw [List.length_append, List.length_singleton]; omega
    · omega
def undStep (deb k f t : Int) (x : Int) (r : Row) : Int := if r.frm = deb ∧ r.to = k ∧ f ≤ r.day ∧ r.day ≤ t then wrap64 (x + (if r.kind = 3 ∧ 10 * r.amount < 9 * r.worth then wrap64 (r.worth - r.amount) else 0)) else x
noncomputable def undOf (P : Prt) (rows : List Row) (deb : Nat) (w : Win) (k : Nat) : Int := if k = deb then 0 else rows.foldl (undStep (deb : Int) (k : Int) (perFrom P deb k w) w.cut) 0
theorem undOf_self (P : Prt) (rows : List Row) (deb : Nat) (w : Win) : undOf P rows deb w deb = 0 := by unfold undOf; rw [if_pos rfl]
theorem findErr_parts {P : Prt} {rows : List Row} {deb : Int} {w : Win} (h : findErr P rows deb w = 0) : chk P = 0 ∧ hcheck P.kinds.length rows = 0 ∧ inN P.kinds.length deb = true ∧ winB w = true := by
  unfold findErr at h
  split at h
  · rename_i h1; exact absurd h h1
  · rename_i h1
    split at h
    · rename_i h2; exact absurd h h2
    · rename_i h2
      split at h
      · omega
      · rename_i h3
        unfold winErr at h
        split at h
        · rename_i h4
          exact ⟨by omega, by omega, by simpa using h3, h4⟩
        · omega
theorem winB_parts {w : Win} (h : winB w = true) : (0 ≤ w.cut ∧ w.cut ≤ 1048576) ∧ (0 ≤ w.days ∧ w.days ≤ 1048576) ∧ (0 ≤ w.con ∧ w.con ≤ 1048576) := by
  simp only [winB, Bool.and_eq_true] at h
  exact ⟨dayB_iff.1 h.1, dayB_iff.1 h.2.1, dayB_iff.1 h.2.2⟩
theorem perErr_of {P : Prt} {deb cre : Int} {w : Win} (h1 : chk P = 0) (h2 : inN P.kinds.length cre = true) (h3 : inN P.kinds.length deb = true) (h4 : winB w = true) : perErr P deb cre w = 0 := by
  unfold perErr winErr
  rw [if_neg (by rw [h1]; decide), if_neg (by rw [h2]; decide), if_neg (by rw [h3]; decide), if_pos h4]

/-! good rows: the history's check says 0 -/
end Go.Proofs.YtomfcmlomfcghaaGreatDoor

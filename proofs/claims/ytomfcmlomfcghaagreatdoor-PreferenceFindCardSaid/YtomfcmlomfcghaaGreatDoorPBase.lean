/- party.is, list. -/
import Derived.Test.YtomfcmlomfcghaaGreatDoorPtyM
import Derived.Test.YtomfcmlomfcghaaGreatDoorM3
import Derived.Deep.QuietTactic
import Derived.StillTailTactics
set_option linter.unusedVariables false
set_option linter.unusedSimpArgs false
namespace Go.Proofs.YtomfcmlomfcghaaGreatDoor
open Go.RowKit

theorem own_below {w w' : World} {base e size n : Nat} {v : Value} {xs : List Value} (h : w.ownsRow base e size v n xs) (hb : Below w.heap.size w w') : w'.ownsRow base e size v n xs := by
  refine ⟨h.1, ?_⟩
  rcases h.2 with hn | ⟨g, cap, cur, rfl, hb2, hgg, rest⟩
  · exact .inl hn
  · refine .inr ⟨g, cap, cur, rfl, hb2, ?_, rest⟩
    rw [hb.block g (Array.getElem?_eq_some_iff.1 hgg).1]; exact hgg
theorem Tryz.info_int : (Tryz.prog.info? 3).map (fun i => (i.zero, i.size, i.bytes)) = some (some (.int .i64 0), 1, 8) := by kernel_rfl
def boolV (b : Bool) : List Value := [.bool b]
theorem flags_len (S : Nat → Bool) (n : Nat) : (flags S n).length = n := by unfold flags; rw [List.length_map, List.length_range]
theorem flags_at {S : Nat → Bool} {n k : Nat} (h : k < n) : (flags S n)[k]? = some (S k) := by
  unfold flags
  rw [List.getElem?_map, List.getElem?_range h]; rfl

set_option maxHeartbeats 1000000 in
theorem is_calls (Ak : Option Addr) (nk ck : Nat) (As : Option Addr) (ns cs : Nat) (At : Option Addr) (nt ct : Nat) (a : Int) (w : World) (hk : nk ≤ maxLen) :
    Calls Tryz.prog 38 #[ptyVal Ak nk ck As ns cs At nt ct, .int .i64 a] w fun e w' => e = .returned (.bool (inN nk a)) ∧ Below w.heap.size w w' := by
  unfold maxLen at hk
  unfold inN
  by_cases h0 : 0 ≤ a
  · have d0 : decide ((0 : Int) ≤ a) = true := decide_eq_true h0
    by_cases h1 : a < (nk : Int)
    · have d1 : decide (a < (nk : Int)) = true := decide_eq_true h1
      rw [d0, d1]
      go_enter Tryz.func38, Tryz.ntmps38
      go_wp2_with fail
      go_ret
      exact ⟨rfl, bel_alloc _ _⟩
    · have d1 : decide (a < (nk : Int)) = false := decide_eq_false h1
      rw [d0, d1]
      go_enter Tryz.func38, Tryz.ntmps38
      go_wp2_with fail
      go_ret
      exact ⟨rfl, bel_alloc _ _⟩
  · have d0 : decide ((0 : Int) ≤ a) = false := decide_eq_false h0
    rw [d0, Bool.false_and]
    go_enter Tryz.func38, Tryz.ntmps38
    go_wp2_with fail
    go_ret
    exact ⟨rfl, bel_alloc _ _⟩

/-- a list of integers that a function returns -/
def IntsPost (l : List Int) (w : World) (e : Ending) (w' : World) : Prop := ∃ A c, e = .returned (.slice A l.length c) ∧ Rd w' w'.heap.size 1 A l.length (l.flatMap intV) ∧ Below w.heap.size w w'
end Go.Proofs.YtomfcmlomfcghaaGreatDoor

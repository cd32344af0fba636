/- insolvencyref1.SameInts, has. -/
import Derived.Test.YtomfcmlomfcghaaGreatDoorM41
import Derived.Deep.QuietTactic
import Derived.StillTailTactics
set_option linter.unusedVariables false
set_option linter.unusedSimpArgs false
namespace Go.Proofs.YtomfcmlomfcghaaGreatDoor
open Go.RowKit

theorem any_take {α : Type} {l : List α} {f : α → Bool} {k : Nat} {x : α} (h : (l.take k).any f = false) (hx : l[k]? = some x) (e : f x = false) : (l.take (k + 1)).any f = false := by
  rw [List.take_add_one, hx, List.any_append, h]
  simp [e]
set_option maxHeartbeats 2000000 in
theorem has_calls (A : Option Addr) (n c : Nat) (l : List Int) (x : Int) (w : World) (hn : n = l.length) (ra : Rd w w.heap.size 1 A l.length (l.flatMap intV)) (gn : n ≤ maxLen) (r : Bool) (hr : r = l.any (· == x)) :
    Calls Tryz.prog 44 #[.slice A n c, .int .i64 x] w fun e w' => e = .returned (.bool r) ∧ w' = w := by
  unfold maxLen at gn
  have HN := Lib.hid hn
  have HR := Lib.hid hr
  have HA := Lib.hid ra
  clear hn hr ra
  go_enter Tryz.func44, Tryz.ntmps44
  go_wp2_with fail
  go_loop [5] (fun i => ∃ k : Nat, k ≤ n ∧ i = .int .i64 (k : Int) ∧ Hid ((l.take k).any (· == x) = false)) (fun i => n - (intOf i).toNat)
  case atStart => exact ⟨0, Nat.zero_le _, rfl, rfl⟩
  case round =>
    obtain ⟨k, hk, rfl, HT⟩ := hrel
    by_cases hlt : k < n
    · obtain ⟨y, hy⟩ := getElem?_of_lt (l := l) (k := k) (by rw [← HN.out]; exact hlt)
      obtain ⟨b, off, rfl, _, k1⟩ := rd_int HA.out hy
      have HX := Lib.hid hy
      clear hy
      by_cases hxy : y = x
      · subst hxy
        obtain rfl : r = true := by
          rw [HR.out, List.any_eq_true]
          exact ⟨y, List.mem_of_getElem? HX.out, by simp⟩
        clear HT HX
        go_wp2_with fail
        go_ret
        exact ⟨rfl, rfl⟩
      · have hxb : (y == x) = false := beq_eq_false_iff_ne.2 hxy
        have HNX : Hid ((l.take (k + 1)).any (· == x) = false) := any_take HT.out HX.out hxb
        clear HT HX hxy
        go_wp2_with fail
        go_round
        case measure => simp [intOf] <;> omega
        case rel => exact ⟨k + 1, by omega, by go_num, HNX⟩
    · obtain rfl : r = false := by
        have := HT.out
        rw [List.take_of_length_le (by rw [← HN.out]; omega)] at this
        rw [HR.out, this]
      go_wp2_with fail
      go_ret
      exact ⟨rfl, rfl⟩

end Go.Proofs.YtomfcmlomfcghaaGreatDoor

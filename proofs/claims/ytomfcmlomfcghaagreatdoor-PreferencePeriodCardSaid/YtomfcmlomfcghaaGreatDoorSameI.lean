/- insolvencyref1.SameInts, has. -/
import Derived.Test.YtomfcmlomfcghaaGreatDoorPtyM
import Derived.Deep.QuietTactic
import Derived.StillTailTactics
set_option linter.unusedVariables false
set_option linter.unusedSimpArgs false
namespace Go.Proofs.YtomfcmlomfcghaaGreatDoor
open Go.RowKit

theorem take_eq_succ {α : Type} {la lb : List α} {k : Nat} {x y : α} (h : la.take k = lb.take k) (hx : la[k]? = some x) (hy : lb[k]? = some y) (e : x = y) : la.take (k + 1) = lb.take (k + 1) := by
  rw [List.take_add_one, List.take_add_one, h, hx, hy, e]

set_option maxHeartbeats 2000000 in
theorem sameInts_calls (A B : Option Addr) (n ca m cb : Nat) (la lb : List Int) (w : World) (hn : n = la.length) (hm : m = lb.length) (ra : Rd w w.heap.size 1 A la.length (la.flatMap intV)) (rb : Rd w w.heap.size 1 B lb.length (lb.flatMap intV)) (gn : n ≤ maxLen) (gm : m ≤ maxLen) (r : Bool) (hr : r = decide (la = lb)) :
    Calls Tryz.prog 16 #[.slice A n ca, .slice B m cb] w fun e w' => e = .returned (.bool r) ∧ Below w.heap.size w w' := by
  unfold maxLen at gn gm
  have HN := Lib.hid hn
  have HM := Lib.hid hm
  have HR := Lib.hid hr
  have HA := Lib.hid ra
  have HB := Lib.hid rb
  clear hn hm hr ra rb
  by_cases hnm : n = m
  · subst hnm
    go_enter Tryz.func16, Tryz.ntmps16
    go_wp2_with fail
    go_loopw [5] (fun i wr => ∃ k : Nat, k ≤ n ∧ i = .int .i64 (k : Int) ∧ Hid (la.take k = lb.take k) ∧ ∃ q, wr = w.drewN q) (fun i _ => n - (intOf i).toNat)
    case atStart => exact ⟨0, Nat.zero_le _, rfl, rfl, 0, rfl⟩
    case round =>
      obtain ⟨k, hk, rfl, HT, q, rfl⟩ := hrel
      by_cases hlt : k < n
      · obtain ⟨x, hx⟩ := getElem?_of_lt (l := la) (k := k) (by rw [← HN.out]; exact hlt)
        obtain ⟨y, hy⟩ := getElem?_of_lt (l := lb) (k := k) (by rw [← HM.out]; exact hlt)
        obtain ⟨b, off, rfl, _, k1⟩ := rd_int HA.out hx
        obtain ⟨b', off', rfl, _, k2⟩ := rd_int HB.out hy
        have HX := Lib.hid (And.intro hx hy)
        clear hx hy
        by_cases hxy : x = y
        · subst hxy
          have HNX : Hid (la.take (k + 1) = lb.take (k + 1)) := take_eq_succ HT.out HX.out.1 HX.out.2 rfl
          clear HT HX
          go_wp2_with fail
          go_quiet (fail)
          go_wp2_with fail
          go_roundw
          case measure => simp [intOf] <;> omega
          case rel => exact ⟨k + 1, by omega, by go_num, HNX, _, rfl⟩
        · have hxb : (x == y) = false := beq_eq_false_iff_ne.2 hxy
          obtain rfl : r = false := by
            rw [HR.out]
            refine decide_eq_false (fun e => ?_)
            have h1 := HX.out.1
            rw [e, HX.out.2] at h1
            exact hxy (Option.some.inj h1).symm
          clear HT HX hxy
          go_wp2_with fail
          go_quiet (fail)
          go_wp2_with fail
          go_ret
          exact ⟨rfl, ((Below.refl _ _).drewN _).drewN _⟩
      · obtain rfl : r = true := by
          rw [HR.out]
          refine decide_eq_true ?_
          have := HT.out
          rwa [List.take_of_length_le (by rw [← HN.out]; omega), List.take_of_length_le (by rw [← HM.out]; omega)] at this
        go_wp2_with fail
        go_ret
        exact ⟨rfl, (Below.refl _ _).drewN _⟩
  · obtain rfl : r = false := by
      rw [HR.out]
      refine decide_eq_false (fun e => hnm ?_)
      rw [HN.out, HM.out, e]
    have hb : ((n : Int) == (m : Int)) = false := by rw [beq_eq_false_iff_ne]; omega
    clear hnm
    go_enter Tryz.func16, Tryz.ntmps16
    go_wp2_with fail
    go_ret
    exact ⟨rfl, Below.refl _ _⟩

theorem any_take {α : Type} {l : List α} {f : α → Bool} {k : Nat} {x : α} (h : (l.take k).any f = false) (hx : l[k]? = some x) (e : f x = false) : (l.take (k + 1)).any f = false := by
  rw [List.take_add_one, hx, List.any_append, h]
  simp [e]
set_option maxHeartbeats 2000000 in
theorem has_calls (A : Option Addr) (n c : Nat) (l : List Int) (x : Int) (w : World) (hn : n = l.length) (ra : Rd w w.heap.size 1 A l.length (l.flatMap intV)) (gn : n ≤ maxLen) (r : Bool) (hr : r = l.any (· == x)) :
    Calls Tryz.prog 44 #[.slice A n c, .int .i64 x] w fun e w' => e = .returned (.bool r) ∧ w' = w := by
  unfold maxLen at gn
  have HN := Lib.hid hn
  have HR := Lib.hid hr
  have HA := Lib.hid ra
  clear hn hr ra
  go_enter Tryz.func44, Tryz.ntmps44
  go_wp2_with fail
  go_loop [5] (fun i => ∃ k : Nat, k ≤ n ∧ i = .int .i64 (k : Int) ∧ Hid ((l.take k).any (· == x) = false)) (fun i => n - (intOf i).toNat)
  case atStart => exact ⟨0, Nat.zero_le _, rfl, rfl⟩
  case round =>
    obtain ⟨k, hk, rfl, HT⟩ := hrel
    by_cases hlt : k < n
    · obtain ⟨y, hy⟩ := getElem?_of_lt (l := l) (k := k) (by rw [← HN.out]; exact hlt)
      obtain ⟨b, off, rfl, _, k1⟩ := rd_int HA.out hy
      have HX := Lib.hid hy
      clear hy
      by_cases hxy : y = x
      · subst hxy
        obtain rfl : r = true := by
          rw [HR.out, List.any_eq_true]
          exact ⟨y, List.mem_of_getElem? HX.out, by simp⟩
        clear HT HX
        go_wp2_with fail
        go_ret
        exact ⟨rfl, rfl⟩
      · have hxb : (y == x) = false := beq_eq_false_iff_ne.2 hxy
        have HNX : Hid ((l.take (k + 1)).any (· == x) = false) := any_take HT.out HX.out hxb
        clear HT HX hxy
        go_wp2_with fail
        go_round
        case measure => simp [intOf] <;> omega
        case rel => exact ⟨k + 1, by omega, by go_num, HNX⟩
    · obtain rfl : r = false := by
        have := HT.out
        rw [List.take_of_length_le (by rw [← HN.out]; omega)] at this
        rw [HR.out, this]
      go_wp2_with fail
      go_ret
      exact ⟨rfl, rfl⟩

end Go.Proofs.YtomfcmlomfcghaaGreatDoor

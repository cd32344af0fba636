/- math/bits.TrailingZeros of a small number: the table is laid. -/
import Derived.Test.YtjlicnhkemfmiaaGreatDoorM17
import Derived.Test.YtjlicnhkemfmiaaGreatDoorWRat
set_option linter.unusedVariables false
set_option linter.unusedSimpArgs false
namespace Go.Proofs.YtjlicnhkemfmiaaGreatDoor
open Go.RowKit

/-- the table of the trailing zeros lies where it was laid -/
def TabW (w : World) : Prop := (∀ i, i < 64 → w.cell? ⟨2, i, none⟩ = some (.int .u8 ((Lib.deBruijn64tab.getD i 0 : Nat) : Int))) ∧ 2 < w.heap.size
theorem TabW.next {w w' : World} (h : TabW w) (hb : Below w.heap.size w w') : TabW w' := ⟨fun i hi => (hb.cell (p := ⟨2, i, none⟩) h.2).trans (h.1 i hi), Nat.lt_of_lt_of_le h.2 hb.size⟩
theorem TabW.drew {w : World} (h : TabW w) : TabW w.drew := h
set_option maxHeartbeats 2000000 in
set_option maxRecDepth 100000 in
theorem tz64_calls (x : Nat) (w : World) (h : TabW w) (h0 : x ≠ 0) (h16 : x < 16) : Calls Tryz.prog 117 #[.int .u64 (x : Int)] w fun e w' => e = .returned (.int .i64 ((tz x : Nat) : Int)) ∧ w' = w := by
  obtain ⟨e1, e2, e3, e4, e5, e6⟩ := tz_facts ⟨x, h16⟩ h0
  dsimp only at e1 e2 e3 e4 e5 e6
  obtain ⟨nx, hnx⟩ : ∃ n, n = 18446744073709551616 - x := ⟨_, rfl⟩
  obtain ⟨p, hp⟩ : ∃ n, n = 2 ^ tz x := ⟨_, rfl⟩
  rw [← hp] at e2 e3 e4 e5
  obtain ⟨q, hq⟩ : ∃ n, n = p * 285870213051353865 % 18446744073709551616 := ⟨_, rfl⟩
  rw [← hq] at e3 e4 e5
  obtain ⟨j, hj⟩ : ∃ n, n = q / 288230376151711744 := ⟨_, rfl⟩
  rw [← hj] at e4 e5
  rw [← hnx] at e1 e2
  have hc := h.1 j e4
  rw [e5] at hc
  obtain ⟨k, hk⟩ : ∃ n, n = tz x := ⟨_, rfl⟩
  rw [← hk] at hc e6 ⊢
  have hqj : (q : Int) / 288230376151711744 = (j : Int) := by omega
  have hj2 : (j : Int) < 64 := by omega
  have hx0 : ((x : Int) == 0) = false := by simp <;> omega
  have hx1 : x ≠ 0 := h0
  clear hnx hp hq hj e5 hk h
  go_enter Tryz.func117, Tryz.ntmps117
  go_wp2_with fail
  go_ret
  exact ⟨rfl, rfl⟩

set_option maxHeartbeats 2000000 in
set_option maxRecDepth 100000 in
theorem tzU_calls (x : Nat) (w : World) (h : TabW w) (h0 : x ≠ 0) (h16 : x < 16) : Calls Tryz.prog 91 #[.int .u64 (x : Int)] w fun e w' => e = .returned (.int .i64 ((tz x : Nat) : Int)) ∧ w' = w := by
  have H := Lib.hid (tz64_calls x w h h0 h16)
  clear h h0 h16
  obtain ⟨k, hk⟩ : ∃ n, n = tz x := ⟨_, rfl⟩
  rw [← hk] at H ⊢
  clear hk
  go_enter Tryz.func91, Tryz.ntmps91
  go_wp2_with fail
  refine H.out.mono ?_
  rintro e w' ⟨rfl, rfl⟩
  go_wp2_with fail
  go_ret
  exact ⟨rfl, rfl⟩

end Go.Proofs.YtjlicnhkemfmiaaGreatDoor

/- rational.magnitude, Int (of 1), Make, Fraction (1/2); party.half. -/
import Derived.Test.YtjlicnhkemfmiaaGreatDoorPRatA
import Derived.Test.YtjlicnhkemfmiaaGreatDoorPty
set_option linter.unusedVariables false
set_option linter.unusedSimpArgs false
namespace Go.Proofs.YtjlicnhkemfmiaaGreatDoor
open Go.RowKit

set_option maxHeartbeats 1000000 in
theorem pMag_calls (u : Nat) (w : World) (hu : u < 9223372036854775808) : Calls Tryz.prog 78 #[.int .i64 (u : Int)] w fun e w' => e = .returned (.string (ncan u)) ∧ Below w.heap.size w w' := by
  have HF := Lib.hid (fun w => natFromUint_calls u w (by omega))
  have h0 : decide ((u : Int) < 0) = false := decide_eq_false (by omega)
  obtain ⟨s, hs⟩ : ∃ s, s = ncan u := ⟨_, rfl⟩
  rw [← hs] at HF ⊢
  clear hs
  go_enter Tryz.func78, Tryz.ntmps78
  go_wp2_with fail
  refine (HF.out _).mono ?_
  rintro e w1 ⟨rfl, hb⟩
  have HB := Lib.hid hb
  clear hb
  go_wp2_with fail
  go_ret
  exact ⟨rfl, HB.out⟩
theorem sm_one : Sm (⟨#[1]⟩ : ByteArray) 1 := ⟨by rw [← ncan_one, snum_ncan], by decide⟩
end Go.Proofs.YtjlicnhkemfmiaaGreatDoor

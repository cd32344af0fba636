/- insolvencylaw26: the sanity check and the walks of the two laws on Exposure. -/
import Derived.Test.YtomfcmlomfcghaaDoorExpo
import Derived.Test.YtomfcmlomfcghaaDoorGen
set_option linter.unusedVariables false
set_option linter.unusedSimpArgs false
namespace Go.Proofs.YtomfcmlomfcghaaDoor
open Go.RowKit

theorem awake26_val : expo 0 1 0 0 [⟨0, 1, 0, 1, 100, 0⟩, ⟨0, 2, 1, 0, 120, 0⟩, ⟨0, 1, 0, 1, 50, 0⟩] = 50 := by decide +kernel

theorem rd_new (w : World) (cs : List Value) (t : TypeId) (S n N : Nat) (hN : N = w.heap.size) (hl : cs.length = n * S) : Rd (w.alloc (.cells cs.toArray t)) (w.alloc (.cells cs.toArray t)).heap.size S (some ⟨N, 0, none⟩) n cs := by
  subst hN
  refine ⟨hl, fun _ => ⟨_, _, rfl, by simp, fun j u hu => ?_⟩⟩
  have := new_cells w cs t _ rfl j u hu
  rwa [Addr.add_lit] at this

set_option maxHeartbeats 1000000 in
theorem awake26_calls (w : World) : Calls Tryd.prog 25 #[] w fun e w' => e = .returned (.bool true) ∧ Below w.heap.size w w' := by
  have HV := Lib.hid awake26_val
  go_enter Tryd.func25, Tryd.ntmps25
  go_wp2_with fail
  refine (expo_calls _ _ [⟨0, 1, 0, 1, 100, 0⟩, ⟨0, 2, 1, 0, 120, 0⟩, ⟨0, 1, 0, 1, 50, 0⟩] _ _ _ _ _ (by simp) (rd_new _ _ _ 6 3 _ rfl rfl)).mono ?_
  rintro e w1 ⟨rfl, hb⟩
  rw [HV.out]
  go_wp2
  go_ret
  exact ⟨rfl, ((Below.refl _ _).alloc (Nat.le_refl _) _).trans (hb.mono (by simp))⟩

end Go.Proofs.YtomfcmlomfcghaaDoor

/- Merged of Law26 PWin. -/
import Derived.Test.YtomfcmlomfcghaaGreatDoorM20
import Derived.Test.YtomfcmlomfcghaaGreatDoorM22
/- insolvencylaw26: the sanity check and the walks of the two laws on Exposure. -/
set_option linter.unusedVariables false
set_option linter.unusedSimpArgs false
namespace Go.Proofs.YtomfcmlomfcghaaGreatDoor
open Go.RowKit

theorem rd_new (w : World) (cs : List Value) (t : TypeId) (S n N : Nat) (hN : N = w.heap.size) (hl : cs.length = n * S) : Rd (w.alloc (.cells cs.toArray t)) (w.alloc (.cells cs.toArray t)).heap.size S (some ⟨N, 0, none⟩) n cs := by
  subst hN
  refine ⟨hl, fun _ => ⟨_, _, rfl, by simp, fun j u hu => ?_⟩⟩
  have := new_cells w cs t _ rfl j u hu
  rwa [Addr.add_lit] at this

end Go.Proofs.YtomfcmlomfcghaaGreatDoor

/- insolvencylaw0.Window; what the laws on preferences use. -/
set_option linter.unusedVariables false
set_option linter.unusedSimpArgs false
namespace Go.Proofs.YtomfcmlomfcghaaGreatDoor
open Go.RowKit

def win3 (y0 y1 y2 : Int) : Win := ⟨y0 % 60, y1 % 50, y2 % 90⟩
set_option maxHeartbeats 2000000 in
theorem window_calls (y0 y1 y2 : Int) (w : World) (h0 : 0 ≤ y0 ∧ y0 ≤ 255) (h1 : 0 ≤ y1 ∧ y1 ≤ 255) (h2 : 0 ≤ y2 ∧ y2 ≤ 255) :
    Calls Tryz.prog 25 #[.agg #[.int .u8 y0, .int .u8 y1, .int .u8 y2]] w fun e w' => e = .returned (winV (win3 y0 y1 y2)) ∧ Below w.heap.size w w' := by
  obtain ⟨a, ha⟩ : ∃ a, a = y0 % 60 := ⟨_, rfl⟩
  obtain ⟨b, hb⟩ : ∃ a, a = y1 % 50 := ⟨_, rfl⟩
  obtain ⟨c, hc⟩ : ∃ a, a = y2 % 90 := ⟨_, rfl⟩
  have e0 : wrap64 (y0.tmod 60) = a := by rw [Int.tmod_eq_emod_of_nonneg h0.1, IntWalk.wrap64_in _ (by omega), ha]
  have e1 : wrap64 (y1.tmod 50) = b := by rw [Int.tmod_eq_emod_of_nonneg h1.1, IntWalk.wrap64_in _ (by omega), hb]
  have e2 : wrap64 (y2.tmod 90) = c := by rw [Int.tmod_eq_emod_of_nonneg h2.1, IntWalk.wrap64_in _ (by omega), hc]
  unfold win3 winV
  dsimp only
  rw [← ha, ← hb, ← hc]
  clear ha hb hc h0 h1 h2
  go_enter Tryz.func25, Tryz.ntmps25
  go_wp2_with fail
  refine bodyPost_ret (v := .agg #[.int .i64 a, .int .i64 b, .int .i64 c]) (by simp [results, Tryz.results25, go_sem]) rfl ⟨rfl, ?_⟩
  first
    | exact ((((bel_alloc w _).alloc (by simp) _).setCell (by show w.heap.size ≤ w.heap.size + 1; omega) _).setCell (by show w.heap.size ≤ w.heap.size + 1; omega) _).setCell (by show w.heap.size ≤ w.heap.size + 1; omega) _
    | exact (bel_alloc w _).alloc (by simp) _
end Go.Proofs.YtomfcmlomfcghaaGreatDoor

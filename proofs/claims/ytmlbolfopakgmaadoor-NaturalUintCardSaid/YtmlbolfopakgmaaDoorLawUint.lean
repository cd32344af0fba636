/- NaturalUint: the plain walk. -/
import Derived.Test.YtmlbolfopakgmaaDoorFew2
import Derived.Test.YtmlbolfopakgmaaDoorUint
set_option linter.unusedVariables false
set_option linter.unusedSimpArgs false
namespace Go.Proofs.YtmlbolfopakgmaaDoor
open Go.RowKit

set_option maxHeartbeats 4000000 in
set_option maxRecDepth 100000 in
theorem uintLaw (u : Nat) (s : ByteArray) (w : World) (hu : u < 18446744073709551616) (hs : s.size ≤ maxLen) : Calls Tryd.prog 10 #[.int .u64 u, .string s] w fun e w' => e = .returned (.bool true) ∧ Below w.heap.size w w' := by
  unfold maxLen at hs
  have A1 := Lib.hid (fun w => natFromUint_calls u w hu)
  have A2 := Lib.hid (fun w => refFromUint_calls u w hu)
  have U1 := fun w => natUint_calls (ncan u) w
  rw [snum_ncan, show uintV u = u from if_pos hu, show uintOk u = true from decide_eq_true hu] at U1
  have U1 := Lib.hid U1
  have U2 := Lib.hid (fun w => natUint_calls s w)
  have U3 := Lib.hid (fun w => refUint_calls s w (by omega))
  obtain ⟨v, hv⟩ : ∃ v, v = uintV (snum s) := ⟨_, rfl⟩
  obtain ⟨o, ho⟩ : ∃ o, o = uintOk (snum s) := ⟨_, rfl⟩
  rw [← hv, ← ho] at U2 U3
  have HBA : Hid (Below w.heap.size w w) := Below.refl _ _
  clear hv ho hu
  by_cases hl : 300 < s.size
  · clear hs
    go_enter Tryd.func10, Tryd.ntmps10
    go_wp2_with fail
    refine (A1.out _).mono ?_
    rintro e wz1 ⟨rfl, hbz⟩
    have HBZ1 : Hid (Below w.heap.size w wz1) := HBA.out.trans (hbz.mono HBA.out.size)
    clear hbz
    go_wp2_with fail
    refine (U1.out _).mono ?_
    rintro e wz2 ⟨rfl, rfl⟩
    go_wp2_with fail
    refine (U2.out _).mono ?_
    rintro e wz3 ⟨rfl, rfl⟩
    go_wp2_with fail
    refine (U3.out _).mono ?_
    rintro e wz4 ⟨rfl, rfl⟩
    go_wp2_with fail
    refine (awake1_calls _).mono ?_
    rintro e wz5 ⟨rfl, hbz⟩
    have HBZ5 : Hid (Below w.heap.size w wz5) := HBZ1.out.trans (hbz.mono HBZ1.out.size)
    clear hbz
    go_wp2_with fail
    refine (A1.out _).mono ?_
    rintro e wz6 ⟨rfl, hbz⟩
    have HBZ6 : Hid (Below w.heap.size w wz6) := HBZ5.out.trans (hbz.mono HBZ5.out.size)
    clear hbz
    go_wp2_with fail
    refine (A2.out _).mono ?_
    rintro e wz7 ⟨rfl, hbz⟩
    have HBZ7 : Hid (Below w.heap.size w wz7) := HBZ6.out.trans (hbz.mono HBZ6.out.size)
    clear hbz
    have HBZ := HBZ7
    go_wp2_with fail
    go_ret
    exact ⟨rfl, HBZ.out⟩
  · go_enter Tryd.func10, Tryd.ntmps10
    go_wp2_with fail
    refine (A1.out _).mono ?_
    rintro e wz1 ⟨rfl, hbz⟩
    have HBZ1 : Hid (Below w.heap.size w wz1) := HBA.out.trans (hbz.mono HBA.out.size)
    clear hbz
    go_wp2_with fail
    refine (U1.out _).mono ?_
    rintro e wz2 ⟨rfl, rfl⟩
    go_wp2_with fail
    refine (U2.out _).mono ?_
    rintro e wz3 ⟨rfl, rfl⟩
    go_wp2_with fail
    refine (U3.out _).mono ?_
    rintro e wz4 ⟨rfl, rfl⟩
    go_wp2_with fail
    refine (awake1_calls _).mono ?_
    rintro e wz5 ⟨rfl, hbz⟩
    have HBZ5 : Hid (Below w.heap.size w wz5) := HBZ1.out.trans (hbz.mono HBZ1.out.size)
    clear hbz
    go_wp2_with fail
    refine (A1.out _).mono ?_
    rintro e wz6 ⟨rfl, hbz⟩
    have HBZ6 : Hid (Below w.heap.size w wz6) := HBZ5.out.trans (hbz.mono HBZ5.out.size)
    clear hbz
    go_wp2_with fail
    refine (A2.out _).mono ?_
    rintro e wz7 ⟨rfl, hbz⟩
    have HBZ7 : Hid (Below w.heap.size w wz7) := HBZ6.out.trans (hbz.mono HBZ6.out.size)
    clear hbz
    have HBZ := HBZ7
    cases o <;> (go_wp2_with fail; go_ret; exact ⟨rfl, HBZ.out⟩)

theorem uintLawI (u : Int) (s : ByteArray) (w : World) (hu : 0 ≤ u ∧ u ≤ 18446744073709551615) (hs : s.size ≤ maxLen) : Calls Tryd.prog 10 #[.int .u64 u, .string s] w fun e w' => e = .returned (.bool true) ∧ Below w.heap.size w w' := by
  obtain ⟨k, rfl⟩ := Int.eq_ofNat_of_zero_le hu.1
  exact uintLaw k s w (by omega) hs

end Go.Proofs.YtmlbolfopakgmaaDoor

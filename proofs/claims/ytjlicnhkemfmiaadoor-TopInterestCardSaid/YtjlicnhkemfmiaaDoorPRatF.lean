/- rational.magnitude, Int (of 1), Make, Fraction (1/2); party.half. -/
import Derived.Test.YtjlicnhkemfmiaaDoorPRatA
import Derived.Test.YtjlicnhkemfmiaaDoorPty
set_option linter.unusedVariables false
set_option linter.unusedSimpArgs false
namespace Go.Proofs.YtjlicnhkemfmiaaDoor
open Go.RowKit

set_option maxHeartbeats 1000000 in
theorem pMag_calls (u : Nat) (w : World) (hu : u < 9223372036854775808) : Calls Tryd.prog 80 #[.int .i64 (u : Int)] w fun e w' => e = .returned (.string (ncan u)) ∧ Below w.heap.size w w' := by
  have HF := Lib.hid (fun w => natFromUint_calls u w (by omega))
  have h0 : decide ((u : Int) < 0) = false := decide_eq_false (by omega)
  obtain ⟨s, hs⟩ : ∃ s, s = ncan u := ⟨_, rfl⟩
  rw [← hs] at HF ⊢
  clear hs
  go_enter Tryd.func80, Tryd.ntmps80
  go_wp2_with fail
  refine (HF.out _).mono ?_
  rintro e w1 ⟨rfl, hb⟩
  have HB := Lib.hid hb
  clear hb
  go_wp2_with fail
  go_ret
  exact ⟨rfl, HB.out⟩
theorem sm_one : Sm (⟨#[1]⟩ : ByteArray) 1 := ⟨by rw [← ncan_one, snum_ncan], by decide⟩
theorem ncan_two : ncan 2 = ⟨#[2]⟩ := by
  have : snum (⟨#[2]⟩ : ByteArray) = 2 := by decide
  have h2 : nrm (⟨#[2]⟩ : ByteArray) = ⟨#[2]⟩ := by decide +kernel
  rw [← this]; exact h2
theorem sm_two : Sm (⟨#[2]⟩ : ByteArray) 2 := ⟨by rw [← ncan_two, snum_ncan], by decide⟩
set_option maxHeartbeats 1000000 in
theorem pInt1_calls (w : World) : Calls Tryd.prog 60 #[.int .i64 1] w fun e w' => e = .returned (ratV 1) ∧ Below w.heap.size w w' := by
  have HM' := fun w => pMag_calls 1 w (by decide)
  rw [ncan_one] at HM'
  have HM := Lib.hid HM'
  have HR := Lib.hid (fun w => pReduced_calls false ⟨#[1]⟩ ⟨#[1]⟩ 1 1 w sm_one sm_one (by decide) 1 (by decide))
  clear HM'
  obtain ⟨v1, v2, v3, hv⟩ : ∃ v1 v2 v3, ratV 1 = .agg #[.bool v1, .string v2, .string v3] := ⟨_, _, _, rfl⟩
  rw [hv] at HR ⊢
  clear hv
  go_enter Tryd.func60, Tryd.ntmps60
  go_wp2_with fail
  refine (HM.out _).mono ?_
  rintro e w1 ⟨rfl, hb⟩
  have HB1 : Hid (Below w.heap.size w w1) := (bel_alloc _ _).trans (hb.mono (by simp))
  have HG1 := Lib.hid (blk_next (blk_new w (.cells #[.bool false, .string ⟨#[]⟩, .string ⟨#[]⟩] 26)) hb)
  clear hb
  go_wp2_with fail
  refine (HR.out _).mono ?_
  rintro e w2 ⟨rfl, hb⟩
  have HB2 : Hid (Below w.heap.size w w2) := HB1.out.trans (hb.mono HB1.out.size)
  obtain ⟨c0, c1, c2, f0, f1, f2, hz⟩ := three_of (blk_next HG1.out hb)
  clear hb
  go_wp2_with fail
  exact bodyPost_ret (v := .agg #[.bool v1, .string v2, .string v3]) (by simp [results, Tryd.results60, go_sem, c0, c1, c2]) rfl ⟨rfl, ((HB2.out.setCell (by simp <;> omega) _).setCell (by simp <;> omega) _).setCell (by simp <;> omega) _⟩
set_option maxHeartbeats 1000000 in
theorem pMake2_calls (w : World) : Calls Tryd.prog 61 #[.bool false, .string ⟨#[1]⟩, .string ⟨#[2]⟩] w fun e w' => e = .returned (.tuple #[ratV halfR, .bool true]) ∧ Below w.heap.size w w' := by
  have N1' := fun w => normalize_calls (⟨#[2]⟩ : ByteArray) w
  rw [sm_two.1, ncan_two] at N1'
  have N1 := Lib.hid N1'
  have HR := Lib.hid (fun w => pReduced_calls false ⟨#[1]⟩ ⟨#[2]⟩ 1 2 w sm_one sm_two (by decide) halfR rfl)
  clear N1'
  obtain ⟨v1, v2, v3, hv⟩ : ∃ v1 v2 v3, ratV halfR = .agg #[.bool v1, .string v2, .string v3] := ⟨_, _, _, rfl⟩
  rw [hv] at HR ⊢
  clear hv
  go_enter Tryd.func61, Tryd.ntmps61
  go_wp2_with fail
  refine (N1.out _).mono ?_
  rintro e w1 ⟨rfl, rfl⟩
  go_wp2_with fail
  refine (HR.out _).mono ?_
  rintro e w2 ⟨rfl, hb⟩
  have HB2 : Hid (Below w.heap.size w w2) := (bel_alloc _ _).trans (hb.mono (by simp))
  obtain ⟨c0, c1, c2, f0, f1, f2, hz⟩ := three_of (blk_next (blk_new w (.cells #[.bool false, .string ⟨#[]⟩, .string ⟨#[]⟩] 26)) hb)
  clear hb
  go_wp2_with fail
  exact bodyPost_ret (v := .tuple #[.agg #[.bool v1, .string v2, .string v3], .bool true]) (by simp [results, Tryd.results61, go_sem, c0, c1, c2]) rfl ⟨rfl, ((HB2.out.setCell (by simp <;> omega) _).setCell (by simp <;> omega) _).setCell (by simp <;> omega) _⟩
end Go.Proofs.YtjlicnhkemfmiaaDoor

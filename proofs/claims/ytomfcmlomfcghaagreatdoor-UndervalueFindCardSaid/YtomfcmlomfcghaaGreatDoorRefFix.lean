/- insolvencyref1.Fix, Sign, One. -/
import Derived.Test.YtomfcmlomfcghaaGreatDoorFixP
import Derived.Test.YtomfcmlomfcghaaGreatDoorM15
import Derived.Test.YtomfcmlomfcghaaGreatDoorRefValid
set_option linter.unusedVariables false
set_option linter.unusedSimpArgs false
namespace Go.Proofs.YtomfcmlomfcghaaGreatDoor
open Go.RowKit

set_option maxHeartbeats 1000000 in
theorem refFix_calls (a : FQ) (k : Nat) (w : World) (h : a.fits k) (hk : k ≤ 100000) : Calls Tryz.prog 89 #[a.val] w fun e w' => e = .returned (ratV (fixR a)) ∧ Below w.heap.size w w' := by
  rcases hv : a.vl with _ | _
  · rw [fixR_not hv, ratV_zero]
    obtain ⟨neg, num, den⟩ := a
    have HV' := fun w => validR_calls neg num den w (Nat.le_trans h.1 hk) (Nat.le_trans h.2 hk)
    rw [show vld neg num den = false from hv] at HV'
    have HV := Lib.hid HV'
    clear HV' hv h
    unfold FQ.val
    go_enter Tryz.func89, Tryz.ntmps89
    go_wp2_with fail
    refine (HV.out _).mono ?_
    rintro e w1 ⟨rfl, hb⟩
    have HB1 : Hid (Below w.heap.size w w1) := ((bel_alloc w (.cells #[.bool neg, .string num, .string den] 70)).alloc (by simp) (.cells #[.bool false, .string ⟨#[]⟩, .string ⟨#[]⟩] 70)).trans (hb.mono (by simp <;> omega))
    have HG1 : Hid (w1.heap[w.heap.size + 1]? = some (.cells #[.bool false, .string ⟨#[]⟩, .string ⟨#[]⟩] 70 (0, 0))) := by
      have := blk_new (w.alloc (.cells #[.bool neg, .string num, .string den] 70)) (.cells #[.bool false, .string ⟨#[]⟩, .string ⟨#[]⟩] 70)
      rw [World.size_alloc] at this
      exact blk_next this hb
    clear hb
    obtain ⟨c0, c1, c2, f0, f1, f2, hz⟩ := three_of HG1.out
    go_wp2_with fail
    exact bodyPost_ret (v := .agg #[.bool false, .string ⟨#[]⟩, .string ⟨#[]⟩]) (by simp [results, Tryz.results89, go_sem, c0, c1, c2]) rfl ⟨rfl, ((HB1.out.setCell (by simp <;> omega) _).setCell (by simp <;> omega) _).setCell (by simp <;> omega) _⟩
  · rw [fix_val hv]
    obtain ⟨neg, num, den⟩ := a
    have HV' := fun w => validR_calls neg num den w (Nat.le_trans h.1 hk) (Nat.le_trans h.2 hk)
    rw [show vld neg num den = true from hv] at HV'
    have HV := Lib.hid HV'
    clear HV' hv h
    unfold FQ.val
    go_enter Tryz.func89, Tryz.ntmps89
    go_wp2_with fail
    refine (HV.out _).mono ?_
    rintro e w1 ⟨rfl, hb⟩
    have HB1 : Hid (Below w.heap.size w w1) := ((bel_alloc w (.cells #[.bool neg, .string num, .string den] 70)).alloc (by simp) (.cells #[.bool false, .string ⟨#[]⟩, .string ⟨#[]⟩] 70)).trans (hb.mono (by simp <;> omega))
    have HG1 : Hid (w1.heap[w.heap.size + 1]? = some (.cells #[.bool false, .string ⟨#[]⟩, .string ⟨#[]⟩] 70 (0, 0))) := by
      have := blk_new (w.alloc (.cells #[.bool neg, .string num, .string den] 70)) (.cells #[.bool false, .string ⟨#[]⟩, .string ⟨#[]⟩] 70)
      rw [World.size_alloc] at this
      exact blk_next this hb
    have hS : Q3 w.heap.size neg num den w1 := blk_next (blk_alloc (blk_new _ _)) hb
    clear hb
    obtain ⟨q0, q1, q2⟩ := hS.cells
    obtain ⟨c0, c1, c2, f0, f1, f2, hz⟩ := three_of HG1.out
    go_wp2_with fail
    exact bodyPost_ret (v := .agg #[.bool neg, .string num, .string den]) (by simp [results, Tryz.results89, go_sem, c0, c1, c2]) rfl ⟨rfl, ((HB1.out.setCell (by simp <;> omega) _).setCell (by simp <;> omega) _).setCell (by simp <;> omega) _⟩
set_option maxHeartbeats 1000000 in
theorem refSign_calls (a : FQ) (k : Nat) (w : World) (h : a.fits k) (hk : k ≤ 100000) : Calls Tryz.prog 62 #[a.val] w fun e w' => e = .returned (.int .i64 (sgnR (fixR a))) ∧ Below w.heap.size w w' := by
  have HC := Lib.hid (fun w => refFix_calls a k w h hk)
  clear h
  unfold FQ.val at HC ⊢
  obtain ⟨neg, num, den⟩ := a
  obtain ⟨q, hq⟩ : ∃ q, q = fixR ⟨neg, num, den⟩ := ⟨_, rfl⟩
  rw [← hq] at HC ⊢
  have HS := Lib.hid (fun w => refSignum_calls q w)
  obtain ⟨v, hv⟩ : ∃ v, v = ratV q := ⟨_, rfl⟩
  rw [← hv] at HC HS
  clear hq hv
  go_enter Tryz.func62, Tryz.ntmps62
  go_wp2_with fail
  refine (HC.out _).mono ?_
  rintro e w1 ⟨rfl, hb⟩
  have HB1 : Hid (Below w.heap.size w w1) := (bel_alloc _ _).trans (hb.mono (by simp))
  clear hb
  go_wp2_with fail
  refine (HS.out _).mono ?_
  rintro e w2 ⟨rfl, hb⟩
  have HB2 : Hid (Below w.heap.size w w2) := HB1.out.trans (hb.mono HB1.out.size)
  clear hb
  go_wp2_with fail
  go_ret
  exact ⟨rfl, HB2.out⟩

theorem ratV_one : ratV 1 = .agg #[.bool false, .string ⟨#[1]⟩, .string ⟨#[]⟩] := by
  rw [ratV, show rneg 1 = false from rfl, rnum, show (1 : Rat).num.natAbs = 1 from rfl, ncan_one, rden, if_pos (show (1 : Rat).den = 1 from rfl)]
set_option maxHeartbeats 1000000 in
theorem refOne_calls (w : World) : Calls Tryz.prog 64 #[] w fun e w' => e = .returned (ratV 1) ∧ Below w.heap.size w w' := by
  rw [ratV_one]
  go_enter Tryz.func64, Tryz.ntmps64
  go_wp2_with fail
  obtain ⟨c0, c1, c2, _⟩ := three_of (blk_new w (.cells #[.bool false, .string ⟨#[1]⟩, .string ⟨#[]⟩] 70))
  exact bodyPost_ret (v := .agg #[.bool false, .string ⟨#[1]⟩, .string ⟨#[]⟩]) (by simp [results, Tryz.results64, go_sem, c0, c1, c2]) rfl ⟨rfl, bel_alloc _ _⟩

end Go.Proofs.YtomfcmlomfcghaaGreatDoor

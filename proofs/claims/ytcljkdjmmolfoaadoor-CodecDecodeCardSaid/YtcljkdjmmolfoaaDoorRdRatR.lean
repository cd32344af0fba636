/- The definition's reader of a Rat. -/
import Derived.Test.YtcljkdjmmolfoaaDoorRdRat
set_option linter.unusedVariables false
set_option linter.unusedSimpArgs false
namespace Go.Proofs.YtcljkdjmmolfoaaDoor
open Go.RowKit

set_option maxHeartbeats 8000000 in
set_option maxRecDepth 100000 in
theorem dRat_calls (g Bk : Nat) (s : St) (w : World) (h : RdS 96 g Bk s w) :
    Calls Tryd.prog 42 #[.pointer (some ⟨g, 0, none⟩)] w (RatPost 96 g Bk (dRat s) w) := by
  have hlt := h.lt
  have HR0 := Lib.hid (h.next h.le (bel_alloc w (.cells #[.bool false, .string ⟨#[]⟩, .string ⟨#[]⟩] 30)))
  have H1 := Lib.hid (dNumber_calls g Bk s _ HR0.out HR0.out.le)
  have HZ := Lib.hid (dNum_bnd s)
  have HP : Hid (dRat s = (⟨decide ((dNum s).1 = 1), (rText dNum (dMark (dNum s).1 (dNum s).2)).1, (rText dNum (rText dNum (dMark (dNum s).1 (dNum s).2)).2).1⟩, (rText dNum (rText dNum (dMark (dNum s).1 (dNum s).2)).2).2)) := rfl
  obtain ⟨r, hr⟩ : ∃ r, r = dNum s := ⟨_, rfl⟩
  rw [← hr] at H1 HP HZ
  obtain ⟨z, s1⟩ := r
  dsimp only at HP
  have HG0 : Hid ((w.alloc (.cells #[.bool false, .string ⟨#[]⟩, .string ⟨#[]⟩] 30)).heap[w.heap.size]? = some (.cells #[.bool false, .string ⟨#[]⟩, .string ⟨#[]⟩] 30 (0, 0))) := blk_new _ _
  clear h hr HR0
  obtain ⟨bz, hbz⟩ : ∃ bz, (z == 1) = bz := ⟨_, rfl⟩
  have HBZ : Hid (decide (z = 1) = bz) := hbz
  go_enter Tryd.func42, Tryd.ntmps42
  go_wp2_with fail
  refine H1.out.mono ?_
  rintro e w1 ⟨rfl, hr, ho⟩
  have HO1 : Hid (Only g w w1) := ((Only.refl g w).alloc _).trans ho
  have HG1 := Lib.hid (blk_only HG0.out ho (by omega))
  have HR1 := Lib.hid hr
  have hz1 : -9223372036854775808 ≤ z := HZ.out.1
  have hz2 : z ≤ 9223372036854775807 := HZ.out.2
  obtain ⟨L1, b1⟩ := s1
  obtain ⟨A, c, k0, k1, f0, f1, lg, q1_, q2_, q3_, q4_, q5_, q6_⟩ := RdS.cells hr
  clear q1_ q2_ q3_ q4_ q5_ q6_
  clear hr ho H1 HG0
  by_cases h0 : z < 0
  · have d0 : decide (z < 0) = true := decide_eq_true h0
    have hmk : dMark z (L1, b1) = (L1, true) := if_pos (.inl h0)
    rw [hmk] at HP
    clear hmk
    have HRm := Lib.hid (HR1.out.bad HR1.out.le true)
    have HOm := Lib.hid (HO1.out.setC 1 (.bool true))
    have HGm := Lib.hid ((heap_setCell_other w1 ⟨g, 1, none⟩ w.heap.size (.bool true) (by show w.heap.size ≠ g; omega)).trans HG1.out)
    have H2 := Lib.hid (dStr_calls g Bk _ _ HRm.out HRm.out.le)
    obtain ⟨r2, hr2⟩ : ∃ r, r = rText dNum (L1, true) := ⟨_, rfl⟩
    rw [← hr2] at H2 HP
    obtain ⟨x2, s2⟩ := r2
    dsimp only at HP
    clear hr2 HR1 HO1 HG1 h0
    go_wp2_with fail
    clear k0 k1 f0 f1 lg A c
    refine H2.out.mono ?_
    rintro e w2 ⟨rfl, hr, ho⟩
    have HO2 := Lib.hid (HOm.out.trans ho)
    have HG2 := Lib.hid (blk_only HGm.out ho (by omega))
    have H3 := Lib.hid (dStr_calls g Bk s2 w2 hr hr.le)
    obtain ⟨r3, hr3⟩ : ∃ r, r = rText dNum s2 := ⟨_, rfl⟩
    rw [← hr3] at H3 HP
    obtain ⟨x3, s3⟩ := r3
    dsimp only at HP
    clear hr ho H2 HGm hr3 HOm HRm
    go_wp2_with fail
    refine H3.out.mono ?_
    rintro e w3 ⟨rfl, hr, ho⟩
    have HO3 := Lib.hid (HO2.out.trans ho)
    have hg3 := blk_only HG2.out ho (by omega)
    have HR3 := Lib.hid hr
    have hbk : Bk ≤ w.heap.size := by obtain ⟨_, _, h1, _, h3, _⟩ := hr; omega
    obtain ⟨c0, c1, c2, e0, e1, e2, hz⟩ := three_of hg3
    clear hr ho H3 HG2 HO2 hg3
    go_wp2_with fail
    refine bodyPost_ret (v := .agg #[.bool bz, .string x2, .string x3]) (by simp [results, Tryd.results42, go_sem, c0, c1, c2]) rfl ?_
    rw [HP.out]
    exact ⟨by dsimp only; rw [HBZ.out], ((HR3.out.far (by omega) hbk).far (by omega) hbk).far (by omega) hbk, ((HO3.out.setNew (Nat.le_refl _) _).setNew (Nat.le_refl _) _).setNew (Nat.le_refl _) _⟩
  · have d0 : decide (z < 0) = false := decide_eq_false h0
    by_cases h1 : 1 < z
    · have d1 : decide (1 < z) = true := decide_eq_true h1
      have hmk : dMark z (L1, b1) = (L1, true) := if_pos (.inr h1)
      rw [hmk] at HP
      clear hmk
      have HRm := Lib.hid (HR1.out.bad HR1.out.le true)
      have HOm := Lib.hid (HO1.out.setC 1 (.bool true))
      have HGm := Lib.hid ((heap_setCell_other w1 ⟨g, 1, none⟩ w.heap.size (.bool true) (by show w.heap.size ≠ g; omega)).trans HG1.out)
      have H2 := Lib.hid (dStr_calls g Bk _ _ HRm.out HRm.out.le)
      obtain ⟨r2, hr2⟩ : ∃ r, r = rText dNum (L1, true) := ⟨_, rfl⟩
      rw [← hr2] at H2 HP
      obtain ⟨x2, s2⟩ := r2
      dsimp only at HP
      clear h1 hr2 HR1 HO1 HG1 h0
      go_wp2_with fail
      clear k0 k1 f0 f1 lg A c
      refine H2.out.mono ?_
      rintro e w2 ⟨rfl, hr, ho⟩
      have HO2 := Lib.hid (HOm.out.trans ho)
      have HG2 := Lib.hid (blk_only HGm.out ho (by omega))
      have H3 := Lib.hid (dStr_calls g Bk s2 w2 hr hr.le)
      obtain ⟨r3, hr3⟩ : ∃ r, r = rText dNum s2 := ⟨_, rfl⟩
      rw [← hr3] at H3 HP
      obtain ⟨x3, s3⟩ := r3
      dsimp only at HP
      clear hr ho H2 HGm hr3 HOm HRm
      go_wp2_with fail
      refine H3.out.mono ?_
      rintro e w3 ⟨rfl, hr, ho⟩
      have HO3 := Lib.hid (HO2.out.trans ho)
      have hg3 := blk_only HG2.out ho (by omega)
      have HR3 := Lib.hid hr
      have hbk : Bk ≤ w.heap.size := by obtain ⟨_, _, h1, _, h3, _⟩ := hr; omega
      obtain ⟨c0, c1, c2, e0, e1, e2, hz⟩ := three_of hg3
      clear hr ho H3 HG2 HO2 hg3
      go_wp2_with fail
      refine bodyPost_ret (v := .agg #[.bool bz, .string x2, .string x3]) (by simp [results, Tryd.results42, go_sem, c0, c1, c2]) rfl ?_
      rw [HP.out]
      exact ⟨by dsimp only; rw [HBZ.out], ((HR3.out.far (by omega) hbk).far (by omega) hbk).far (by omega) hbk, ((HO3.out.setNew (Nat.le_refl _) _).setNew (Nat.le_refl _) _).setNew (Nat.le_refl _) _⟩
    · have d1 : decide (1 < z) = false := decide_eq_false h1
      have hmk : dMark z (L1, b1) = (L1, b1) := if_neg (by omega)
      rw [hmk] at HP
      clear hmk
      have HRm := Lib.hid (HR1.out)
      have HOm := Lib.hid (HO1.out)
      have HGm := Lib.hid (HG1.out)
      have H2 := Lib.hid (dStr_calls g Bk _ _ HRm.out HRm.out.le)
      obtain ⟨r2, hr2⟩ : ∃ r, r = rText dNum (L1, b1) := ⟨_, rfl⟩
      rw [← hr2] at H2 HP
      obtain ⟨x2, s2⟩ := r2
      dsimp only at HP
      clear h1 hr2 HR1 HO1 HG1 h0
      go_wp2_with fail
      clear k0 k1 f0 f1 lg A c
      refine H2.out.mono ?_
      rintro e w2 ⟨rfl, hr, ho⟩
      have HO2 := Lib.hid (HOm.out.trans ho)
      have HG2 := Lib.hid (blk_only HGm.out ho (by omega))
      have H3 := Lib.hid (dStr_calls g Bk s2 w2 hr hr.le)
      obtain ⟨r3, hr3⟩ : ∃ r, r = rText dNum s2 := ⟨_, rfl⟩
      rw [← hr3] at H3 HP
      obtain ⟨x3, s3⟩ := r3
      dsimp only at HP
      clear hr ho H2 HGm hr3 HOm HRm
      go_wp2_with fail
      refine H3.out.mono ?_
      rintro e w3 ⟨rfl, hr, ho⟩
      have HO3 := Lib.hid (HO2.out.trans ho)
      have hg3 := blk_only HG2.out ho (by omega)
      have HR3 := Lib.hid hr
      have hbk : Bk ≤ w.heap.size := by obtain ⟨_, _, h1, _, h3, _⟩ := hr; omega
      obtain ⟨c0, c1, c2, e0, e1, e2, hz⟩ := three_of hg3
      clear hr ho H3 HG2 HO2 hg3
      go_wp2_with fail
      refine bodyPost_ret (v := .agg #[.bool bz, .string x2, .string x3]) (by simp [results, Tryd.results42, go_sem, c0, c1, c2]) rfl ?_
      rw [HP.out]
      exact ⟨by dsimp only; rw [HBZ.out], ((HR3.out.far (by omega) hbk).far (by omega) hbk).far (by omega) hbk, ((HO3.out.setNew (Nat.le_refl _) _).setNew (Nat.le_refl _) _).setNew (Nat.le_refl _) _⟩

end Go.Proofs.YtcljkdjmmolfoaaDoor

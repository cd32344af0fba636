/- register.change: admit, dispute, decide. -/
import Derived.Test.YtjlicnhkemfmiaaGreatDoorM22
import Derived.Test.YtjlicnhkemfmiaaGreatDoorSq
import Derived.Test.YtjlicnhkemfmiaaGreatDoorM26
set_option linter.unusedVariables false
set_option linter.unusedSimpArgs false
set_option maxHeartbeats 8000000
set_option maxRecDepth 100000
namespace Go.Proofs.YtjlicnhkemfmiaaGreatDoor
open Go.RowKit
theorem change2_calls (B C c n K0 : Nat) (pre post : List Value) (x : En) (day : Int) (id : ByteArray) (q : Rat) (m : Nat) (w : World) (h : EnE B C c n K0 pre x post w) (hq : Sz m q) (hst : x.st = 1) (hce : Sz m x.ce) (m0 : 0 < m) (hkm : m ≤ 9999) :
 Calls Tryz.prog 50 #[.pointer (some ⟨C, K0, none⟩), .agg #[.int .i64 2, .int .i64 day, .string id, .bool (rneg q), .string (rnum q), .string (rden q), .int .i64 0, .string ⟨#[]⟩, .int .i64 0, .int .i64 0, .string ⟨#[]⟩, .bool false, .string ⟨#[]⟩, .string ⟨#[]⟩, .int .i64 0, .int .i64 0, .bool false, .string ⟨#[]⟩, .string ⟨#[]⟩, .int .i64 0, .int .i64 0]] w fun e w' => e = .returned (.int .i64 0) ∧ EnE B C c n K0 pre (admd x day) post w' ∧ Only C w w' := by
 have HQ' := fun W => rClean_calls q m W hq m0 (by omega)
 have HCE' := fun W => rClean_calls x.ce m W hce m0 (by omega)
 unfold ratV at HQ' HCE'
 have HQ := Lib.hid HQ'
 have HCE := Lib.hid HCE'
 have HAL := Lib.hid (fun W => allows2_calls W)
 have HE00 := Lib.hid h
 have HST := Lib.hid hst
 have HCl : Hid (C < w.heap.size) := h.lt
 clear HQ' HCE' h hst hq hce m0 hkm
 go_enter Tryz.func50, Tryz.ntmps50
 go_upto_region 1 with fail
 obtain ⟨ga, hga⟩ : ∃ g, g = w.heap.size := ⟨_, rfl⟩
 obtain ⟨w0, hw0⟩ : ∃ W, W = w.alloc (.cells #[.int .i64 2, .int .i64 day, .string id, .bool (rneg q), .string (rnum q), .string (rden q), .int .i64 0, .string ⟨#[]⟩, .int .i64 0, .int .i64 0, .string ⟨#[]⟩, .bool false, .string ⟨#[]⟩, .string ⟨#[]⟩, .int .i64 0, .int .i64 0, .bool false, .string ⟨#[]⟩, .string ⟨#[]⟩, .int .i64 0, .int .i64 0] 65) := ⟨_, rfl⟩
 have HV0 : Hid (Bk ga (.cells #[.int .i64 2, .int .i64 day, .string id, .bool (rneg q), .string (rnum q), .string (rden q), .int .i64 0, .string ⟨#[]⟩, .int .i64 0, .int .i64 0, .string ⟨#[]⟩, .bool false, .string ⟨#[]⟩, .string ⟨#[]⟩, .int .i64 0, .int .i64 0, .bool false, .string ⟨#[]⟩, .string ⟨#[]⟩, .int .i64 0, .int .i64 0] 65) w0) := by rw [hw0, hga]; exact blk_new _ _
 have HE0 : Hid (EnE B C c n K0 pre (x) post w0) := by rw [hw0]; exact HE00.out.next (bel_alloc _ _)
 have HO0 : Hid (Only C w w0) := by rw [hw0]; exact Only.of_below (bel_alloc _ _)
 have HL_a : Hid (C < ga ∧ w.heap.size ≤ ga) := by rw [hga]; exact ⟨HCl.out, Nat.le_refl _⟩
 rw [← hw0]
 (try rw [← hga])
 clear hw0 hga HE00
 obtain ⟨w1, hw_w1⟩ : ∃ W, W = w0.drew := ⟨_, rfl⟩
 have HV1 := bkd HV0 hw_w1
 have HE1 : Hid (EnE B C c n K0 pre (x) post w1) := by rw [hw_w1]; exact HE0.out.drew
 have HO1 : Hid (Only C w w1) := by rw [hw_w1]; exact HO0.out.drew
 have hS1 := And.intro HV1.out HE1.out
 refine wp_region_held_drew (S := (AndW (Bk ga (.cells #[.int .i64 2, .int .i64 day, .string id, .bool (rneg q), .string (rnum q), .string (rden q), .int .i64 0, .string ⟨#[]⟩, .int .i64 0, .int .i64 0, .string ⟨#[]⟩, .bool false, .string ⟨#[]⟩, .string ⟨#[]⟩, .int .i64 0, .int .i64 0, .bool false, .string ⟨#[]⟩, .string ⟨#[]⟩, .int .i64 0, .int .i64 0] 65)) (EnE B C c n K0 pre (x) post))) (by kernel_rfl) (by rw [← hw_w1]; exact hS1) ?_
 rw [← hw_w1]
 intro _
 clear hw_w1 HV0 HE0 HO0
 refine tk 0 hS1 ?_
 go_simp
 refine tv 1 (.int .i64 2) rfl (by intro w' hw'; have v0 := blk_at (j := 0) hw'.1 rfl; go_simp) hS1 ?_
 go_simp
 refine tk 2 hS1 ?_
 go_simp
 refine tk 3 hS1 ?_
 go_simp
 refine tk 4 hS1 ?_
 go_simp
 refine tv 5 (.int .i64 1) rfl (by intro w' hw'; have e14 := hw'.2.at (j := 14) rfl; rw [HST.out] at e14; go_simp) hS1 ?_
 go_simp
 refine tr 6 (fun K hK => ?_)
 go_simp
 refine (HAL.out _).mono ?_
 rintro e w1 ⟨rfl, rfl⟩
 have hS2 := And.intro HV1.out HE1.out
 refine hK.out _ _ hS2 (fun _ => ?_)
 clear hK K
 refine tk 7 hS2 ?_
 go_simp
 refine wpAnyH_done (by kernel_rfl) ?_ _
 have v3 := blk_at (j := 3) HV1.out rfl
 have v4 := blk_at (j := 4) HV1.out rfl
 have v5 := blk_at (j := 5) HV1.out rfl
 go_wp2_with fail
 clear v3 v4 v5
 refine (HQ.out _).mono ?_
 rintro e w2 ⟨rfl, hb⟩
 have HV2 := bkn HV1 hb
 have HE2 : Hid (EnE B C c n K0 pre (x) post w2) := HE1.out.next hb
 have HO2 : Hid (Only C w w2) := HO1.out.trans (Only.of_below hb)
 clear hb HV1 HE1 HO1
 go_upto_region 4 with fail
 obtain ⟨gq, hg_gq⟩ : ∃ g, g = w2.heap.size := ⟨_, rfl⟩
 obtain ⟨w3, hw_w3⟩ : ∃ W, W = w2.alloc (.cells #[.bool (rneg q), .string (rnum q), .string (rden q)] 33) := ⟨_, rfl⟩
 have HL_gq := Lib.hid (And.intro (by have := blk_lt HV2.out; omega : ga < gq) (And.intro (by have := HE2.out.lt; omega : C < gq) ((by have := HO2.out.size; omega : w.heap.size ≤ gq))))
 have HV3 := bka HV2 hw_w3
 have HE3 : Hid (EnE B C c n K0 pre (x) post w3) := by rw [hw_w3]; exact HE2.out.next (bel_alloc _ _)
 have HO3 : Hid (Only C w w3) := by rw [hw_w3]; exact HO2.out.trans (Only.of_below (bel_alloc _ _))
 have HQ3 : Hid (Bk gq (.cells #[.bool (rneg q), .string (rnum q), .string (rden q)] 33) w3) := by rw [hw_w3, hg_gq]; exact blk_new _ _
 rw [← hw_w3]
 (try rw [← hg_gq])
 clear hw_w3 hg_gq HV2 HE2 HO2
 have v0 := blk_at (j := 0) HV3.out rfl
 have e25 := HE3.out.at (j := 25) rfl
 have e26 := HE3.out.at (j := 26) rfl
 have e27 := HE3.out.at (j := 27) rfl
 go_wp2_with fail
 clear v0 e25 e26 e27
 refine (HCE.out _).mono ?_
 rintro e w4 ⟨rfl, hb⟩
 have HV4 := bkn HV3 hb
 have HE4 : Hid (EnE B C c n K0 pre (x) post w4) := HE3.out.next hb
 have HO4 : Hid (Only C w w4) := HO3.out.trans (Only.of_below hb)
 have HQ4 := bkn HQ3 hb
 clear hb HV3 HE3 HO3 HQ3
 go_upto_region 7 with fail
 obtain ⟨gc, hg_gc⟩ : ∃ g, g = w4.heap.size := ⟨_, rfl⟩
 obtain ⟨w5, hw_w5⟩ : ∃ W, W = w4.alloc (.cells #[.bool (rneg x.ce), .string (rnum x.ce), .string (rden x.ce)] 33) := ⟨_, rfl⟩
 have HL_gc := Lib.hid (And.intro (by have := blk_lt HV4.out; omega : ga < gc) (And.intro (by have := HE4.out.lt; omega : C < gc) (And.intro (by have := HO4.out.size; omega : w.heap.size ≤ gc) ((by have := blk_lt HQ4.out; omega : gq < gc)))))
 have HV5 := bka HV4 hw_w5
 have HE5 : Hid (EnE B C c n K0 pre (x) post w5) := by rw [hw_w5]; exact HE4.out.next (bel_alloc _ _)
 have HO5 : Hid (Only C w w5) := by rw [hw_w5]; exact HO4.out.trans (Only.of_below (bel_alloc _ _))
 have HQ5 := bka HQ4 hw_w5
 have HD5 : Hid (Bk gc (.cells #[.bool (rneg x.ce), .string (rnum x.ce), .string (rden x.ce)] 33) w5) := by rw [hw_w5, hg_gc]; exact blk_new _ _
 rw [← hw_w5]
 (try rw [← hg_gc])
 clear hw_w5 hg_gc HV4 HE4 HO4 HQ4
 obtain ⟨w6, hw_w6⟩ : ∃ W, W = w5.drew := ⟨_, rfl⟩
 have HV6 := bkd HV5 hw_w6
 have HE6 : Hid (EnE B C c n K0 pre (x) post w6) := by rw [hw_w6]; exact HE5.out.drew
 have HO6 : Hid (Only C w w6) := by rw [hw_w6]; exact HO5.out.drew
 have HQ6 := bkd HQ5 hw_w6
 have HD6 := bkd HD5 hw_w6
 have hS3 := And.intro HV6.out HD6.out
 refine wp_region_held_drew (S := (AndW (Bk ga (.cells #[.int .i64 2, .int .i64 day, .string id, .bool (rneg q), .string (rnum q), .string (rden q), .int .i64 0, .string ⟨#[]⟩, .int .i64 0, .int .i64 0, .string ⟨#[]⟩, .bool false, .string ⟨#[]⟩, .string ⟨#[]⟩, .int .i64 0, .int .i64 0, .bool false, .string ⟨#[]⟩, .string ⟨#[]⟩, .int .i64 0, .int .i64 0] 65)) (Bk gc (.cells #[.bool (rneg x.ce), .string (rnum x.ce), .string (rden x.ce)] 33)))) (by kernel_rfl) (by rw [← hw_w6]; exact hS3) ?_
 rw [← hw_w6]
 intro _
 clear hw_w6 HV5 HE5 HO5 HQ5 HD5
 refine tk 0 hS3 ?_
 go_simp
 refine tk 1 hS3 ?_
 go_simp
 refine tk 2 hS3 ?_
 go_simp
 refine tv 3 (.agg #[.bool (rneg x.ce), .string (rnum x.ce), .string (rden x.ce)]) rfl (by intro w' hw'; obtain ⟨k0, k1, k2, fk0, fk1, fk2, hzk⟩ := three_of hw'.2; go_simp) hS3 ?_
 go_simp
 refine tv 4 (.agg #[.bool (rneg x.ce), .string (rnum x.ce), .string (rden x.ce)]) rfl (by intro w' hw'; obtain ⟨k0, k1, k2, fk0, fk1, fk2, hzk⟩ := three_of hw'.2; go_simp) hS3 ?_
 go_simp
 refine tk 5 hS3 ?_
 go_simp
 refine tk 6 hS3 ?_
 go_simp
 refine tr 7 (fun K hK => ?_)
 have f14 := HE6.out.free (K0 + 14)
 have e14 := HE6.out.at (j := 14) rfl
 have lf := HE6.out.lt
 go_simp
 clear lf f14 e14
 obtain ⟨w7, hw_w7⟩ : ∃ W, W = (w6.setCell ⟨C, K0 + 14, none⟩ (.int .i64 2)) := ⟨_, rfl⟩
 have ho : Only C w6 w7 := by rw [hw_w7]; exact (Only.refl _ _).setC _ _
 have HV7 := bko HV6 ho (by have := HL_a.out; have := HL_gq.out; have := HL_gc.out; omega)
 have HO7 : Hid (Only C w w7) := HO6.out.trans ho
 have HQ7 := bko HQ6 ho (by have := HL_a.out; have := HL_gq.out; have := HL_gc.out; omega)
 have HD7 := bko HD6 ho (by have := HL_a.out; have := HL_gq.out; have := HL_gc.out; omega)
 have HE7 : Hid (EnE B C c n K0 pre (⟨x.doc, 2, x.late, x.cl, x.fl, x.ad, x.ce, x.acq, x.chg⟩) post w7) := by rw [hw_w7]; exact HE6.out.set1 (by decide) _ (x' := ⟨x.doc, 2, x.late, x.cl, x.fl, x.ad, x.ce, x.acq, x.chg⟩) rfl
 rw [← hw_w7]
 clear hw_w7 ho HE6 HV6 HO6 HQ6 HD6
 have hS4 := And.intro HV7.out HD7.out
 refine hK.out _ _ hS4 (fun _ => ?_)
 clear hK K
 refine tk 8 hS4 ?_
 go_simp
 refine tk 9 hS4 ?_
 go_simp
 refine tr 10 (fun K hK => ?_)
 have f19 := HE7.out.free (K0 + 19)
 have f20 := HE7.out.free (K0 + 20)
 have f21 := HE7.out.free (K0 + 21)
 have e19 := HE7.out.at (j := 19) rfl
 have e20 := HE7.out.at (j := 20) rfl
 have e21 := HE7.out.at (j := 21) rfl
 have lf := HE7.out.lt
 go_simp
 clear lf f19 e19 f20 e20 f21 e21
 obtain ⟨w8, hw_w8⟩ : ∃ W, W = (((w7.setCell ⟨C, K0 + 19, none⟩ (.bool (rneg x.ce))).setCell ⟨C, K0 + 20, none⟩ (.string (rnum x.ce))).setCell ⟨C, K0 + 21, none⟩ (.string (rden x.ce))) := ⟨_, rfl⟩
 have ho : Only C w7 w8 := by rw [hw_w8]; exact (((Only.refl _ _).setC _ _).setC _ _).setC _ _
 have HV8 := bko HV7 ho (by have := HL_a.out; have := HL_gq.out; have := HL_gc.out; omega)
 have HO8 : Hid (Only C w w8) := HO7.out.trans ho
 have HQ8 := bko HQ7 ho (by have := HL_a.out; have := HL_gq.out; have := HL_gc.out; omega)
 have HD8 := bko HD7 ho (by have := HL_a.out; have := HL_gq.out; have := HL_gc.out; omega)
 have HE8 : Hid (EnE B C c n K0 pre (⟨x.doc, 2, x.late, x.cl, x.ce, x.ad, x.ce, x.acq, x.chg⟩) post w8) := by rw [hw_w8]; exact HE7.out.set3 (by decide) _ _ _ (x' := ⟨x.doc, 2, x.late, x.cl, x.ce, x.ad, x.ce, x.acq, x.chg⟩) rfl
 rw [← hw_w8]
 clear hw_w8 ho HE7 HV7 HO7 HQ7 HD7
 have hS5 := And.intro HV8.out HD8.out
 refine hK.out _ _ hS5 (fun _ => ?_)
 clear hK K
 refine tk 11 hS5 ?_
 go_simp
 refine tk 12 hS5 ?_
 go_simp
 refine tr 13 (fun K hK => ?_)
 have f22 := HE8.out.free (K0 + 22)
 have f23 := HE8.out.free (K0 + 23)
 have f24 := HE8.out.free (K0 + 24)
 have e22 := HE8.out.at (j := 22) rfl
 have e23 := HE8.out.at (j := 23) rfl
 have e24 := HE8.out.at (j := 24) rfl
 have lf := HE8.out.lt
 go_simp
 clear lf f22 e22 f23 e23 f24 e24
 obtain ⟨w9, hw_w9⟩ : ∃ W, W = (((w8.setCell ⟨C, K0 + 22, none⟩ (.bool (rneg x.ce))).setCell ⟨C, K0 + 23, none⟩ (.string (rnum x.ce))).setCell ⟨C, K0 + 24, none⟩ (.string (rden x.ce))) := ⟨_, rfl⟩
 have ho : Only C w8 w9 := by rw [hw_w9]; exact (((Only.refl _ _).setC _ _).setC _ _).setC _ _
 have HV9 := bko HV8 ho (by have := HL_a.out; have := HL_gq.out; have := HL_gc.out; omega)
 have HO9 : Hid (Only C w w9) := HO8.out.trans ho
 have HQ9 := bko HQ8 ho (by have := HL_a.out; have := HL_gq.out; have := HL_gc.out; omega)
 have HD9 := bko HD8 ho (by have := HL_a.out; have := HL_gq.out; have := HL_gc.out; omega)
 have HE9 : Hid (EnE B C c n K0 pre (⟨x.doc, 2, x.late, x.cl, x.ce, x.ce, x.ce, x.acq, x.chg⟩) post w9) := by rw [hw_w9]; exact HE8.out.set3 (by decide) _ _ _ (x' := ⟨x.doc, 2, x.late, x.cl, x.ce, x.ce, x.ce, x.acq, x.chg⟩) rfl
 rw [← hw_w9]
 clear hw_w9 ho HE8 HV8 HO8 HQ8 HD8
 have hS6 := And.intro HV9.out HD9.out
 refine hK.out _ _ hS6 (fun _ => ?_)
 clear hK K
 refine wpAnyH_done (by kernel_rfl) ?_ _
 have v1 := blk_at (j := 1) HV9.out rfl
 have f29 := HE9.out.free (K0 + 29)
 have e29 := HE9.out.at (j := 29) rfl
 have lf := HE9.out.lt
 go_wp2_with fail
 clear v1
 clear lf f29 e29
 obtain ⟨w10, hw_w10⟩ : ∃ W, W = (w9.setCell ⟨C, K0 + 29, none⟩ (.int .i64 day)) := ⟨_, rfl⟩
 have ho : Only C w9 w10 := by rw [hw_w10]; exact (Only.refl _ _).setC _ _
 have HV10 := bko HV9 ho (by have := HL_a.out; have := HL_gq.out; have := HL_gc.out; omega)
 have HO10 : Hid (Only C w w10) := HO9.out.trans ho
 have HQ10 := bko HQ9 ho (by have := HL_a.out; have := HL_gq.out; have := HL_gc.out; omega)
 have HD10 := bko HD9 ho (by have := HL_a.out; have := HL_gq.out; have := HL_gc.out; omega)
 have HE10 : Hid (EnE B C c n K0 pre (admd x day) post w10) := by rw [hw_w10]; exact HE9.out.set1 (by decide) _ (x' := admd x day) rfl
 rw [← hw_w10]
 clear hw_w10 ho HE9 HV9 HO9 HQ9 HD9
 go_ret
 exact ⟨rfl, HE10.out, HO10.out⟩
theorem change3_calls (B C c n K0 : Nat) (pre post : List Value) (x : En) (day : Int) (id : ByteArray) (q : Rat) (m : Nat) (w : World) (h : EnE B C c n K0 pre x post w) (hq : Sz m q) (hst : x.st = 1) (hce : Sz m x.ce) (h0 : 0 ≤ q) (h1 : q ≤ x.ce) (m0 : 0 < m) (hkm : m ≤ 9999) :
 Calls Tryz.prog 50 #[.pointer (some ⟨C, K0, none⟩), .agg #[.int .i64 3, .int .i64 day, .string id, .bool (rneg q), .string (rnum q), .string (rden q), .int .i64 0, .string ⟨#[]⟩, .int .i64 0, .int .i64 0, .string ⟨#[]⟩, .bool false, .string ⟨#[]⟩, .string ⟨#[]⟩, .int .i64 0, .int .i64 0, .bool false, .string ⟨#[]⟩, .string ⟨#[]⟩, .int .i64 0, .int .i64 0]] w fun e w' => e = .returned (.int .i64 0) ∧ EnE B C c n K0 pre (dispd x q day) post w' ∧ Only C w w' := by
 have HQ' := fun W => rClean_calls q m W hq m0 (by omega)
 have HBT' := fun W => between_calls q 0 x.ce m W hq (sz_zero1 m m0) hce m0 (by omega) h0 h1
 rw [ratV_zero] at HBT'
 unfold ratV at HQ' HBT'
 have HQ := Lib.hid HQ'
 have HBT := Lib.hid HBT'
 have HAL := Lib.hid (fun W => allows3_calls W)
 have HE00 := Lib.hid h
 have HST := Lib.hid hst
 have HCl : Hid (C < w.heap.size) := h.lt
 clear HQ' HBT' h hst hq hce m0 hkm h0 h1
 go_enter Tryz.func50, Tryz.ntmps50
 go_upto_region 1 with fail
 obtain ⟨ga, hga⟩ : ∃ g, g = w.heap.size := ⟨_, rfl⟩
 obtain ⟨w0, hw0⟩ : ∃ W, W = w.alloc (.cells #[.int .i64 3, .int .i64 day, .string id, .bool (rneg q), .string (rnum q), .string (rden q), .int .i64 0, .string ⟨#[]⟩, .int .i64 0, .int .i64 0, .string ⟨#[]⟩, .bool false, .string ⟨#[]⟩, .string ⟨#[]⟩, .int .i64 0, .int .i64 0, .bool false, .string ⟨#[]⟩, .string ⟨#[]⟩, .int .i64 0, .int .i64 0] 65) := ⟨_, rfl⟩
 have HV0 : Hid (Bk ga (.cells #[.int .i64 3, .int .i64 day, .string id, .bool (rneg q), .string (rnum q), .string (rden q), .int .i64 0, .string ⟨#[]⟩, .int .i64 0, .int .i64 0, .string ⟨#[]⟩, .bool false, .string ⟨#[]⟩, .string ⟨#[]⟩, .int .i64 0, .int .i64 0, .bool false, .string ⟨#[]⟩, .string ⟨#[]⟩, .int .i64 0, .int .i64 0] 65) w0) := by rw [hw0, hga]; exact blk_new _ _
 have HE0 : Hid (EnE B C c n K0 pre (x) post w0) := by rw [hw0]; exact HE00.out.next (bel_alloc _ _)
 have HO0 : Hid (Only C w w0) := by rw [hw0]; exact Only.of_below (bel_alloc _ _)
 have HL_a : Hid (C < ga ∧ w.heap.size ≤ ga) := by rw [hga]; exact ⟨HCl.out, Nat.le_refl _⟩
 rw [← hw0]
 (try rw [← hga])
 clear hw0 hga HE00
 obtain ⟨w1, hw_w1⟩ : ∃ W, W = w0.drew := ⟨_, rfl⟩
 have HV1 := bkd HV0 hw_w1
 have HE1 : Hid (EnE B C c n K0 pre (x) post w1) := by rw [hw_w1]; exact HE0.out.drew
 have HO1 : Hid (Only C w w1) := by rw [hw_w1]; exact HO0.out.drew
 have hS1 := And.intro HV1.out HE1.out
 refine wp_region_held_drew (S := (AndW (Bk ga (.cells #[.int .i64 3, .int .i64 day, .string id, .bool (rneg q), .string (rnum q), .string (rden q), .int .i64 0, .string ⟨#[]⟩, .int .i64 0, .int .i64 0, .string ⟨#[]⟩, .bool false, .string ⟨#[]⟩, .string ⟨#[]⟩, .int .i64 0, .int .i64 0, .bool false, .string ⟨#[]⟩, .string ⟨#[]⟩, .int .i64 0, .int .i64 0] 65)) (EnE B C c n K0 pre (x) post))) (by kernel_rfl) (by rw [← hw_w1]; exact hS1) ?_
 rw [← hw_w1]
 intro _
 clear hw_w1 HV0 HE0 HO0
 refine tk 0 hS1 ?_
 go_simp
 refine tv 1 (.int .i64 3) rfl (by intro w' hw'; have v0 := blk_at (j := 0) hw'.1 rfl; go_simp) hS1 ?_
 go_simp
 refine tk 2 hS1 ?_
 go_simp
 refine tk 3 hS1 ?_
 go_simp
 refine tk 4 hS1 ?_
 go_simp
 refine tv 5 (.int .i64 1) rfl (by intro w' hw'; have e14 := hw'.2.at (j := 14) rfl; rw [HST.out] at e14; go_simp) hS1 ?_
 go_simp
 refine tr 6 (fun K hK => ?_)
 go_simp
 refine (HAL.out _).mono ?_
 rintro e w1 ⟨rfl, rfl⟩
 have hS2 := And.intro HV1.out HE1.out
 refine hK.out _ _ hS2 (fun _ => ?_)
 clear hK K
 refine tk 7 hS2 ?_
 go_simp
 refine wpAnyH_done (by kernel_rfl) ?_ _
 have v3 := blk_at (j := 3) HV1.out rfl
 have v4 := blk_at (j := 4) HV1.out rfl
 have v5 := blk_at (j := 5) HV1.out rfl
 go_wp2_with fail
 clear v3 v4 v5
 refine (HQ.out _).mono ?_
 rintro e w2 ⟨rfl, hb⟩
 have HV2 := bkn HV1 hb
 have HE2 : Hid (EnE B C c n K0 pre (x) post w2) := HE1.out.next hb
 have HO2 : Hid (Only C w w2) := HO1.out.trans (Only.of_below hb)
 clear hb HV1 HE1 HO1
 go_upto_region 4 with fail
 obtain ⟨gq, hg_gq⟩ : ∃ g, g = w2.heap.size := ⟨_, rfl⟩
 obtain ⟨w3, hw_w3⟩ : ∃ W, W = w2.alloc (.cells #[.bool (rneg q), .string (rnum q), .string (rden q)] 33) := ⟨_, rfl⟩
 have HL_gq := Lib.hid (And.intro (by have := blk_lt HV2.out; omega : ga < gq) (And.intro (by have := HE2.out.lt; omega : C < gq) ((by have := HO2.out.size; omega : w.heap.size ≤ gq))))
 have HV3 := bka HV2 hw_w3
 have HE3 : Hid (EnE B C c n K0 pre (x) post w3) := by rw [hw_w3]; exact HE2.out.next (bel_alloc _ _)
 have HO3 : Hid (Only C w w3) := by rw [hw_w3]; exact HO2.out.trans (Only.of_below (bel_alloc _ _))
 have HQ3 : Hid (Bk gq (.cells #[.bool (rneg q), .string (rnum q), .string (rden q)] 33) w3) := by rw [hw_w3, hg_gq]; exact blk_new _ _
 rw [← hw_w3]
 (try rw [← hg_gq])
 clear hw_w3 hg_gq HV2 HE2 HO2
 have v0 := blk_at (j := 0) HV3.out rfl
 go_upto_region 9 with fail
 clear v0
 obtain ⟨w4, hw_w4⟩ : ∃ W, W = w3.drew := ⟨_, rfl⟩
 have HV4 := bkd HV3 hw_w4
 have HE4 : Hid (EnE B C c n K0 pre (x) post w4) := by rw [hw_w4]; exact HE3.out.drew
 have HO4 : Hid (Only C w w4) := by rw [hw_w4]; exact HO3.out.drew
 have HQ4 := bkd HQ3 hw_w4
 have hS3 := And.intro HV4.out (And.intro HE4.out HQ4.out)
 refine wp_region_held_drew (S := (AndW (Bk ga (.cells #[.int .i64 3, .int .i64 day, .string id, .bool (rneg q), .string (rnum q), .string (rden q), .int .i64 0, .string ⟨#[]⟩, .int .i64 0, .int .i64 0, .string ⟨#[]⟩, .bool false, .string ⟨#[]⟩, .string ⟨#[]⟩, .int .i64 0, .int .i64 0, .bool false, .string ⟨#[]⟩, .string ⟨#[]⟩, .int .i64 0, .int .i64 0] 65)) (AndW (EnE B C c n K0 pre (x) post) (Bk gq (.cells #[.bool (rneg q), .string (rnum q), .string (rden q)] 33))))) (by kernel_rfl) (by rw [← hw_w4]; exact hS3) ?_
 rw [← hw_w4]
 intro _
 clear hw_w4 HV3 HE3 HO3 HQ3
 refine tv 0 (.agg #[.bool (rneg q), .string (rnum q), .string (rden q)]) rfl (by intro w' hw'; obtain ⟨k0, k1, k2, fk0, fk1, fk2, hzk⟩ := three_of hw'.2.2; go_simp) hS3 ?_
 go_simp
 refine tk 1 hS3 ?_
 go_simp
 refine tk 2 hS3 ?_
 go_simp
 refine tk 3 hS3 ?_
 go_simp
 refine tk 4 hS3 ?_
 go_simp
 refine tv 5 (.agg #[.bool (rneg x.ce), .string (rnum x.ce), .string (rden x.ce)]) rfl (by intro w' hw'; have e25 := hw'.2.1.at (j := 25) rfl; have e26 := hw'.2.1.at (j := 26) rfl; have e27 := hw'.2.1.at (j := 27) rfl; go_simp) hS3 ?_
 go_simp
 refine tr 6 (fun K hK => ?_)
 go_simp
 refine (HBT.out _).mono ?_
 rintro e w5 ⟨rfl, hb⟩
 have HV5 := bkn HV4 hb
 have HE5 : Hid (EnE B C c n K0 pre (x) post w5) := HE4.out.next hb
 have HO5 : Hid (Only C w w5) := HO4.out.trans (Only.of_below hb)
 have HQ5 := bkn HQ4 hb
 clear hb HV4 HE4 HO4 HQ4
 have hS4 := And.intro HV5.out (And.intro HE5.out HQ5.out)
 refine hK.out _ _ hS4 (fun _ => ?_)
 clear hK K
 refine tk 7 hS4 ?_
 go_simp
 refine wpAnyH_done (by kernel_rfl) ?_ _
 go_upto_region 11 with fail
 obtain ⟨w6, hw_w6⟩ : ∃ W, W = w5.drew := ⟨_, rfl⟩
 have HV6 := bkd HV5 hw_w6
 have HE6 : Hid (EnE B C c n K0 pre (x) post w6) := by rw [hw_w6]; exact HE5.out.drew
 have HO6 : Hid (Only C w w6) := by rw [hw_w6]; exact HO5.out.drew
 have HQ6 := bkd HQ5 hw_w6
 have hS5 := And.intro HV6.out HQ6.out
 refine wp_region_held_drew (S := (AndW (Bk ga (.cells #[.int .i64 3, .int .i64 day, .string id, .bool (rneg q), .string (rnum q), .string (rden q), .int .i64 0, .string ⟨#[]⟩, .int .i64 0, .int .i64 0, .string ⟨#[]⟩, .bool false, .string ⟨#[]⟩, .string ⟨#[]⟩, .int .i64 0, .int .i64 0, .bool false, .string ⟨#[]⟩, .string ⟨#[]⟩, .int .i64 0, .int .i64 0] 65)) (Bk gq (.cells #[.bool (rneg q), .string (rnum q), .string (rden q)] 33)))) (by kernel_rfl) (by rw [← hw_w6]; exact hS5) ?_
 rw [← hw_w6]
 intro _
 clear hw_w6 HV5 HE5 HO5 HQ5
 refine tk 0 hS5 ?_
 go_simp
 refine tk 1 hS5 ?_
 go_simp
 refine tk 2 hS5 ?_
 go_simp
 refine tv 3 (.agg #[.bool (rneg q), .string (rnum q), .string (rden q)]) rfl (by intro w' hw'; obtain ⟨k0, k1, k2, fk0, fk1, fk2, hzk⟩ := three_of hw'.2; go_simp) hS5 ?_
 go_simp
 refine tv 4 (.agg #[.bool (rneg q), .string (rnum q), .string (rden q)]) rfl (by intro w' hw'; obtain ⟨k0, k1, k2, fk0, fk1, fk2, hzk⟩ := three_of hw'.2; go_simp) hS5 ?_
 go_simp
 refine tk 5 hS5 ?_
 go_simp
 refine tk 6 hS5 ?_
 go_simp
 refine tr 7 (fun K hK => ?_)
 have f14 := HE6.out.free (K0 + 14)
 have e14 := HE6.out.at (j := 14) rfl
 have lf := HE6.out.lt
 go_simp
 clear lf f14 e14
 obtain ⟨w7, hw_w7⟩ : ∃ W, W = (w6.setCell ⟨C, K0 + 14, none⟩ (.int .i64 3)) := ⟨_, rfl⟩
 have ho : Only C w6 w7 := by rw [hw_w7]; exact (Only.refl _ _).setC _ _
 have HV7 := bko HV6 ho (by have := HL_a.out; have := HL_gq.out; omega)
 have HO7 : Hid (Only C w w7) := HO6.out.trans ho
 have HQ7 := bko HQ6 ho (by have := HL_a.out; have := HL_gq.out; omega)
 have HE7 : Hid (EnE B C c n K0 pre (⟨x.doc, 3, x.late, x.cl, x.fl, x.ad, x.ce, x.acq, x.chg⟩) post w7) := by rw [hw_w7]; exact HE6.out.set1 (by decide) _ (x' := ⟨x.doc, 3, x.late, x.cl, x.fl, x.ad, x.ce, x.acq, x.chg⟩) rfl
 rw [← hw_w7]
 clear hw_w7 ho HE6 HV6 HO6 HQ6
 have hS6 := And.intro HV7.out HQ7.out
 refine hK.out _ _ hS6 (fun _ => ?_)
 clear hK K
 refine tk 8 hS6 ?_
 go_simp
 refine tk 9 hS6 ?_
 go_simp
 refine tr 10 (fun K hK => ?_)
 have f19 := HE7.out.free (K0 + 19)
 have f20 := HE7.out.free (K0 + 20)
 have f21 := HE7.out.free (K0 + 21)
 have e19 := HE7.out.at (j := 19) rfl
 have e20 := HE7.out.at (j := 20) rfl
 have e21 := HE7.out.at (j := 21) rfl
 have lf := HE7.out.lt
 go_simp
 clear lf f19 e19 f20 e20 f21 e21
 obtain ⟨w8, hw_w8⟩ : ∃ W, W = (((w7.setCell ⟨C, K0 + 19, none⟩ (.bool (rneg q))).setCell ⟨C, K0 + 20, none⟩ (.string (rnum q))).setCell ⟨C, K0 + 21, none⟩ (.string (rden q))) := ⟨_, rfl⟩
 have ho : Only C w7 w8 := by rw [hw_w8]; exact (((Only.refl _ _).setC _ _).setC _ _).setC _ _
 have HV8 := bko HV7 ho (by have := HL_a.out; have := HL_gq.out; omega)
 have HO8 : Hid (Only C w w8) := HO7.out.trans ho
 have HQ8 := bko HQ7 ho (by have := HL_a.out; have := HL_gq.out; omega)
 have HE8 : Hid (EnE B C c n K0 pre (⟨x.doc, 3, x.late, x.cl, q, x.ad, x.ce, x.acq, x.chg⟩) post w8) := by rw [hw_w8]; exact HE7.out.set3 (by decide) _ _ _ (x' := ⟨x.doc, 3, x.late, x.cl, q, x.ad, x.ce, x.acq, x.chg⟩) rfl
 rw [← hw_w8]
 clear hw_w8 ho HE7 HV7 HO7 HQ7
 have hS7 := And.intro HV8.out HQ8.out
 refine hK.out _ _ hS7 (fun _ => ?_)
 clear hK K
 refine tk 11 hS7 ?_
 go_simp
 refine tk 12 hS7 ?_
 go_simp
 refine tr 13 (fun K hK => ?_)
 have f22 := HE8.out.free (K0 + 22)
 have f23 := HE8.out.free (K0 + 23)
 have f24 := HE8.out.free (K0 + 24)
 have e22 := HE8.out.at (j := 22) rfl
 have e23 := HE8.out.at (j := 23) rfl
 have e24 := HE8.out.at (j := 24) rfl
 have lf := HE8.out.lt
 go_simp
 clear lf f22 e22 f23 e23 f24 e24
 obtain ⟨w9, hw_w9⟩ : ∃ W, W = (((w8.setCell ⟨C, K0 + 22, none⟩ (.bool (rneg q))).setCell ⟨C, K0 + 23, none⟩ (.string (rnum q))).setCell ⟨C, K0 + 24, none⟩ (.string (rden q))) := ⟨_, rfl⟩
 have ho : Only C w8 w9 := by rw [hw_w9]; exact (((Only.refl _ _).setC _ _).setC _ _).setC _ _
 have HV9 := bko HV8 ho (by have := HL_a.out; have := HL_gq.out; omega)
 have HO9 : Hid (Only C w w9) := HO8.out.trans ho
 have HQ9 := bko HQ8 ho (by have := HL_a.out; have := HL_gq.out; omega)
 have HE9 : Hid (EnE B C c n K0 pre (⟨x.doc, 3, x.late, x.cl, q, q, x.ce, x.acq, x.chg⟩) post w9) := by rw [hw_w9]; exact HE8.out.set3 (by decide) _ _ _ (x' := ⟨x.doc, 3, x.late, x.cl, q, q, x.ce, x.acq, x.chg⟩) rfl
 rw [← hw_w9]
 clear hw_w9 ho HE8 HV8 HO8 HQ8
 have hS8 := And.intro HV9.out HQ9.out
 refine hK.out _ _ hS8 (fun _ => ?_)
 clear hK K
 refine wpAnyH_done (by kernel_rfl) ?_ _
 have v1 := blk_at (j := 1) HV9.out rfl
 have f29 := HE9.out.free (K0 + 29)
 have e29 := HE9.out.at (j := 29) rfl
 have lf := HE9.out.lt
 go_wp2_with fail
 clear v1
 clear lf f29 e29
 obtain ⟨w10, hw_w10⟩ : ∃ W, W = (w9.setCell ⟨C, K0 + 29, none⟩ (.int .i64 day)) := ⟨_, rfl⟩
 have ho : Only C w9 w10 := by rw [hw_w10]; exact (Only.refl _ _).setC _ _
 have HV10 := bko HV9 ho (by have := HL_a.out; have := HL_gq.out; omega)
 have HO10 : Hid (Only C w w10) := HO9.out.trans ho
 have HQ10 := bko HQ9 ho (by have := HL_a.out; have := HL_gq.out; omega)
 have HE10 : Hid (EnE B C c n K0 pre (dispd x q day) post w10) := by rw [hw_w10]; exact HE9.out.set1 (by decide) _ (x' := dispd x q day) rfl
 rw [← hw_w10]
 clear hw_w10 ho HE9 HV9 HO9 HQ9
 go_ret
 exact ⟨rfl, HE10.out, HO10.out⟩
theorem change4_calls (B C c n K0 : Nat) (pre post : List Value) (x : En) (day : Int) (id : ByteArray) (q : Rat) (m : Nat) (w : World) (h : EnE B C c n K0 pre x post w) (hq : Sz m q) (hst : x.st = 3) (hfl : Sz m x.fl) (hce : Sz m x.ce) (h0 : x.fl ≤ q) (h1 : q ≤ x.ce) (m0 : 0 < m) (hkm : m ≤ 9999) :
 Calls Tryz.prog 50 #[.pointer (some ⟨C, K0, none⟩), .agg #[.int .i64 4, .int .i64 day, .string id, .bool (rneg q), .string (rnum q), .string (rden q), .int .i64 0, .string ⟨#[]⟩, .int .i64 0, .int .i64 0, .string ⟨#[]⟩, .bool false, .string ⟨#[]⟩, .string ⟨#[]⟩, .int .i64 0, .int .i64 0, .bool false, .string ⟨#[]⟩, .string ⟨#[]⟩, .int .i64 0, .int .i64 0]] w fun e w' => e = .returned (.int .i64 0) ∧ EnE B C c n K0 pre (decid x q day) post w' ∧ Only C w w' := by
 have HQ' := fun W => rClean_calls q m W hq m0 (by omega)
 have HBT' := fun W => between_calls q x.fl x.ce m W hq hfl hce m0 (by omega) h0 h1
 unfold ratV at HQ' HBT'
 have HQ := Lib.hid HQ'
 have HBT := Lib.hid HBT'
 have HAL := Lib.hid (fun W => allows4_calls W)
 have HE00 := Lib.hid h
 have HST := Lib.hid hst
 have HCl : Hid (C < w.heap.size) := h.lt
 clear HQ' HBT' h hst hq hce m0 hkm hfl h0 h1
 go_enter Tryz.func50, Tryz.ntmps50
 go_upto_region 1 with fail
 obtain ⟨ga, hga⟩ : ∃ g, g = w.heap.size := ⟨_, rfl⟩
 obtain ⟨w0, hw0⟩ : ∃ W, W = w.alloc (.cells #[.int .i64 4, .int .i64 day, .string id, .bool (rneg q), .string (rnum q), .string (rden q), .int .i64 0, .string ⟨#[]⟩, .int .i64 0, .int .i64 0, .string ⟨#[]⟩, .bool false, .string ⟨#[]⟩, .string ⟨#[]⟩, .int .i64 0, .int .i64 0, .bool false, .string ⟨#[]⟩, .string ⟨#[]⟩, .int .i64 0, .int .i64 0] 65) := ⟨_, rfl⟩
 have HV0 : Hid (Bk ga (.cells #[.int .i64 4, .int .i64 day, .string id, .bool (rneg q), .string (rnum q), .string (rden q), .int .i64 0, .string ⟨#[]⟩, .int .i64 0, .int .i64 0, .string ⟨#[]⟩, .bool false, .string ⟨#[]⟩, .string ⟨#[]⟩, .int .i64 0, .int .i64 0, .bool false, .string ⟨#[]⟩, .string ⟨#[]⟩, .int .i64 0, .int .i64 0] 65) w0) := by rw [hw0, hga]; exact blk_new _ _
 have HE0 : Hid (EnE B C c n K0 pre (x) post w0) := by rw [hw0]; exact HE00.out.next (bel_alloc _ _)
 have HO0 : Hid (Only C w w0) := by rw [hw0]; exact Only.of_below (bel_alloc _ _)
 have HL_a : Hid (C < ga ∧ w.heap.size ≤ ga) := by rw [hga]; exact ⟨HCl.out, Nat.le_refl _⟩
 rw [← hw0]
 (try rw [← hga])
 clear hw0 hga HE00
 obtain ⟨w1, hw_w1⟩ : ∃ W, W = w0.drew := ⟨_, rfl⟩
 have HV1 := bkd HV0 hw_w1
 have HE1 : Hid (EnE B C c n K0 pre (x) post w1) := by rw [hw_w1]; exact HE0.out.drew
 have HO1 : Hid (Only C w w1) := by rw [hw_w1]; exact HO0.out.drew
 have hS1 := And.intro HV1.out HE1.out
 refine wp_region_held_drew (S := (AndW (Bk ga (.cells #[.int .i64 4, .int .i64 day, .string id, .bool (rneg q), .string (rnum q), .string (rden q), .int .i64 0, .string ⟨#[]⟩, .int .i64 0, .int .i64 0, .string ⟨#[]⟩, .bool false, .string ⟨#[]⟩, .string ⟨#[]⟩, .int .i64 0, .int .i64 0, .bool false, .string ⟨#[]⟩, .string ⟨#[]⟩, .int .i64 0, .int .i64 0] 65)) (EnE B C c n K0 pre (x) post))) (by kernel_rfl) (by rw [← hw_w1]; exact hS1) ?_
 rw [← hw_w1]
 intro _
 clear hw_w1 HV0 HE0 HO0
 refine tk 0 hS1 ?_
 go_simp
 refine tv 1 (.int .i64 4) rfl (by intro w' hw'; have v0 := blk_at (j := 0) hw'.1 rfl; go_simp) hS1 ?_
 go_simp
 refine tk 2 hS1 ?_
 go_simp
 refine tk 3 hS1 ?_
 go_simp
 refine tk 4 hS1 ?_
 go_simp
 refine tv 5 (.int .i64 3) rfl (by intro w' hw'; have e14 := hw'.2.at (j := 14) rfl; rw [HST.out] at e14; go_simp) hS1 ?_
 go_simp
 refine tr 6 (fun K hK => ?_)
 go_simp
 refine (HAL.out _).mono ?_
 rintro e w1 ⟨rfl, rfl⟩
 have hS2 := And.intro HV1.out HE1.out
 refine hK.out _ _ hS2 (fun _ => ?_)
 clear hK K
 refine tk 7 hS2 ?_
 go_simp
 refine wpAnyH_done (by kernel_rfl) ?_ _
 have v3 := blk_at (j := 3) HV1.out rfl
 have v4 := blk_at (j := 4) HV1.out rfl
 have v5 := blk_at (j := 5) HV1.out rfl
 go_wp2_with fail
 clear v3 v4 v5
 refine (HQ.out _).mono ?_
 rintro e w2 ⟨rfl, hb⟩
 have HV2 := bkn HV1 hb
 have HE2 : Hid (EnE B C c n K0 pre (x) post w2) := HE1.out.next hb
 have HO2 : Hid (Only C w w2) := HO1.out.trans (Only.of_below hb)
 clear hb HV1 HE1 HO1
 go_upto_region 4 with fail
 obtain ⟨gq, hg_gq⟩ : ∃ g, g = w2.heap.size := ⟨_, rfl⟩
 obtain ⟨w3, hw_w3⟩ : ∃ W, W = w2.alloc (.cells #[.bool (rneg q), .string (rnum q), .string (rden q)] 33) := ⟨_, rfl⟩
 have HL_gq := Lib.hid (And.intro (by have := blk_lt HV2.out; omega : ga < gq) (And.intro (by have := HE2.out.lt; omega : C < gq) ((by have := HO2.out.size; omega : w.heap.size ≤ gq))))
 have HV3 := bka HV2 hw_w3
 have HE3 : Hid (EnE B C c n K0 pre (x) post w3) := by rw [hw_w3]; exact HE2.out.next (bel_alloc _ _)
 have HO3 : Hid (Only C w w3) := by rw [hw_w3]; exact HO2.out.trans (Only.of_below (bel_alloc _ _))
 have HQ3 : Hid (Bk gq (.cells #[.bool (rneg q), .string (rnum q), .string (rden q)] 33) w3) := by rw [hw_w3, hg_gq]; exact blk_new _ _
 rw [← hw_w3]
 (try rw [← hg_gq])
 clear hw_w3 hg_gq HV2 HE2 HO2
 have v0 := blk_at (j := 0) HV3.out rfl
 go_upto_region 13 with fail
 clear v0
 obtain ⟨w4, hw_w4⟩ : ∃ W, W = w3.drew := ⟨_, rfl⟩
 have HV4 := bkd HV3 hw_w4
 have HE4 : Hid (EnE B C c n K0 pre (x) post w4) := by rw [hw_w4]; exact HE3.out.drew
 have HO4 : Hid (Only C w w4) := by rw [hw_w4]; exact HO3.out.drew
 have HQ4 := bkd HQ3 hw_w4
 have hS3 := And.intro HV4.out (And.intro HE4.out HQ4.out)
 refine wp_region_held_drew (S := (AndW (Bk ga (.cells #[.int .i64 4, .int .i64 day, .string id, .bool (rneg q), .string (rnum q), .string (rden q), .int .i64 0, .string ⟨#[]⟩, .int .i64 0, .int .i64 0, .string ⟨#[]⟩, .bool false, .string ⟨#[]⟩, .string ⟨#[]⟩, .int .i64 0, .int .i64 0, .bool false, .string ⟨#[]⟩, .string ⟨#[]⟩, .int .i64 0, .int .i64 0] 65)) (AndW (EnE B C c n K0 pre (x) post) (Bk gq (.cells #[.bool (rneg q), .string (rnum q), .string (rden q)] 33))))) (by kernel_rfl) (by rw [← hw_w4]; exact hS3) ?_
 rw [← hw_w4]
 intro _
 clear hw_w4 HV3 HE3 HO3 HQ3
 refine tv 0 (.agg #[.bool (rneg q), .string (rnum q), .string (rden q)]) rfl (by intro w' hw'; obtain ⟨k0, k1, k2, fk0, fk1, fk2, hzk⟩ := three_of hw'.2.2; go_simp) hS3 ?_
 go_simp
 refine tk 1 hS3 ?_
 go_simp
 refine tk 2 hS3 ?_
 go_simp
 refine tk 3 hS3 ?_
 go_simp
 refine tv 4 (.agg #[.bool (rneg x.fl), .string (rnum x.fl), .string (rden x.fl)]) rfl (by intro w' hw'; have e19 := hw'.2.1.at (j := 19) rfl; have e20 := hw'.2.1.at (j := 20) rfl; have e21 := hw'.2.1.at (j := 21) rfl; go_simp) hS3 ?_
 go_simp
 refine tk 5 hS3 ?_
 go_simp
 refine tk 6 hS3 ?_
 go_simp
 refine tk 7 hS3 ?_
 go_simp
 refine tv 8 (.agg #[.bool (rneg x.ce), .string (rnum x.ce), .string (rden x.ce)]) rfl (by intro w' hw'; have e25 := hw'.2.1.at (j := 25) rfl; have e26 := hw'.2.1.at (j := 26) rfl; have e27 := hw'.2.1.at (j := 27) rfl; go_simp) hS3 ?_
 go_simp
 refine tr 9 (fun K hK => ?_)
 go_simp
 refine (HBT.out _).mono ?_
 rintro e w5 ⟨rfl, hb⟩
 have HV5 := bkn HV4 hb
 have HE5 : Hid (EnE B C c n K0 pre (x) post w5) := HE4.out.next hb
 have HO5 : Hid (Only C w w5) := HO4.out.trans (Only.of_below hb)
 have HQ5 := bkn HQ4 hb
 clear hb HV4 HE4 HO4 HQ4
 have hS4 := And.intro HV5.out (And.intro HE5.out HQ5.out)
 refine hK.out _ _ hS4 (fun _ => ?_)
 clear hK K
 refine tk 10 hS4 ?_
 go_simp
 refine wpAnyH_done (by kernel_rfl) ?_ _
 go_upto_region 15 with fail
 obtain ⟨w6, hw_w6⟩ : ∃ W, W = w5.drew := ⟨_, rfl⟩
 have HV6 := bkd HV5 hw_w6
 have HE6 : Hid (EnE B C c n K0 pre (x) post w6) := by rw [hw_w6]; exact HE5.out.drew
 have HO6 : Hid (Only C w w6) := by rw [hw_w6]; exact HO5.out.drew
 have HQ6 := bkd HQ5 hw_w6
 have hS5 := And.intro HV6.out HQ6.out
 refine wp_region_held_drew (S := (AndW (Bk ga (.cells #[.int .i64 4, .int .i64 day, .string id, .bool (rneg q), .string (rnum q), .string (rden q), .int .i64 0, .string ⟨#[]⟩, .int .i64 0, .int .i64 0, .string ⟨#[]⟩, .bool false, .string ⟨#[]⟩, .string ⟨#[]⟩, .int .i64 0, .int .i64 0, .bool false, .string ⟨#[]⟩, .string ⟨#[]⟩, .int .i64 0, .int .i64 0] 65)) (Bk gq (.cells #[.bool (rneg q), .string (rnum q), .string (rden q)] 33)))) (by kernel_rfl) (by rw [← hw_w6]; exact hS5) ?_
 rw [← hw_w6]
 intro _
 clear hw_w6 HV5 HE5 HO5 HQ5
 refine tk 0 hS5 ?_
 go_simp
 refine tk 1 hS5 ?_
 go_simp
 refine tv 2 (.agg #[.bool (rneg q), .string (rnum q), .string (rden q)]) rfl (by intro w' hw'; obtain ⟨k0, k1, k2, fk0, fk1, fk2, hzk⟩ := three_of hw'.2; go_simp) hS5 ?_
 go_simp
 refine tk 3 hS5 ?_
 go_simp
 refine tk 4 hS5 ?_
 go_simp
 refine tr 5 (fun K hK => ?_)
 have f14 := HE6.out.free (K0 + 14)
 have e14 := HE6.out.at (j := 14) rfl
 have lf := HE6.out.lt
 go_simp
 clear lf f14 e14
 obtain ⟨w7, hw_w7⟩ : ∃ W, W = (w6.setCell ⟨C, K0 + 14, none⟩ (.int .i64 4)) := ⟨_, rfl⟩
 have ho : Only C w6 w7 := by rw [hw_w7]; exact (Only.refl _ _).setC _ _
 have HV7 := bko HV6 ho (by have := HL_a.out; have := HL_gq.out; omega)
 have HO7 : Hid (Only C w w7) := HO6.out.trans ho
 have HQ7 := bko HQ6 ho (by have := HL_a.out; have := HL_gq.out; omega)
 have HE7 : Hid (EnE B C c n K0 pre (⟨x.doc, 4, x.late, x.cl, x.fl, x.ad, x.ce, x.acq, x.chg⟩) post w7) := by rw [hw_w7]; exact HE6.out.set1 (by decide) _ (x' := ⟨x.doc, 4, x.late, x.cl, x.fl, x.ad, x.ce, x.acq, x.chg⟩) rfl
 rw [← hw_w7]
 clear hw_w7 ho HE6 HV6 HO6 HQ6
 have hS6 := And.intro HV7.out HQ7.out
 refine hK.out _ _ hS6 (fun _ => ?_)
 clear hK K
 refine tk 6 hS6 ?_
 go_simp
 refine tk 7 hS6 ?_
 go_simp
 refine tr 8 (fun K hK => ?_)
 have f22 := HE7.out.free (K0 + 22)
 have f23 := HE7.out.free (K0 + 23)
 have f24 := HE7.out.free (K0 + 24)
 have e22 := HE7.out.at (j := 22) rfl
 have e23 := HE7.out.at (j := 23) rfl
 have e24 := HE7.out.at (j := 24) rfl
 have lf := HE7.out.lt
 go_simp
 clear lf f22 e22 f23 e23 f24 e24
 obtain ⟨w8, hw_w8⟩ : ∃ W, W = (((w7.setCell ⟨C, K0 + 22, none⟩ (.bool (rneg q))).setCell ⟨C, K0 + 23, none⟩ (.string (rnum q))).setCell ⟨C, K0 + 24, none⟩ (.string (rden q))) := ⟨_, rfl⟩
 have ho : Only C w7 w8 := by rw [hw_w8]; exact (((Only.refl _ _).setC _ _).setC _ _).setC _ _
 have HV8 := bko HV7 ho (by have := HL_a.out; have := HL_gq.out; omega)
 have HO8 : Hid (Only C w w8) := HO7.out.trans ho
 have HQ8 := bko HQ7 ho (by have := HL_a.out; have := HL_gq.out; omega)
 have HE8 : Hid (EnE B C c n K0 pre (⟨x.doc, 4, x.late, x.cl, x.fl, q, x.ce, x.acq, x.chg⟩) post w8) := by rw [hw_w8]; exact HE7.out.set3 (by decide) _ _ _ (x' := ⟨x.doc, 4, x.late, x.cl, x.fl, q, x.ce, x.acq, x.chg⟩) rfl
 rw [← hw_w8]
 clear hw_w8 ho HE7 HV7 HO7 HQ7
 have hS7 := And.intro HV8.out HQ8.out
 refine hK.out _ _ hS7 (fun _ => ?_)
 clear hK K
 refine wpAnyH_done (by kernel_rfl) ?_ _
 have v1 := blk_at (j := 1) HV8.out rfl
 have f29 := HE8.out.free (K0 + 29)
 have e29 := HE8.out.at (j := 29) rfl
 have lf := HE8.out.lt
 go_wp2_with fail
 clear v1
 clear lf f29 e29
 obtain ⟨w9, hw_w9⟩ : ∃ W, W = (w8.setCell ⟨C, K0 + 29, none⟩ (.int .i64 day)) := ⟨_, rfl⟩
 have ho : Only C w8 w9 := by rw [hw_w9]; exact (Only.refl _ _).setC _ _
 have HV9 := bko HV8 ho (by have := HL_a.out; have := HL_gq.out; omega)
 have HO9 : Hid (Only C w w9) := HO8.out.trans ho
 have HQ9 := bko HQ8 ho (by have := HL_a.out; have := HL_gq.out; omega)
 have HE9 : Hid (EnE B C c n K0 pre (decid x q day) post w9) := by rw [hw_w9]; exact HE8.out.set1 (by decide) _ (x' := decid x q day) rfl
 rw [← hw_w9]
 clear hw_w9 ho HE8 HV8 HO8 HQ8
 go_ret
 exact ⟨rfl, HE9.out, HO9.out⟩

end Go.Proofs.YtjlicnhkemfmiaaGreatDoor

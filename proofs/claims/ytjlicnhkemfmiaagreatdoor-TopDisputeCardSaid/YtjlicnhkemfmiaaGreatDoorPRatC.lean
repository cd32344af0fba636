/- rational.Compare. -/
import Derived.Test.YtjlicnhkemfmiaaGreatDoorSq
import Derived.Test.YtjlicnhkemfmiaaGreatDoorPRatB
import Derived.Test.YtjlicnhkemfmiaaGreatDoorCmpR
import Derived.Deep.RegionHeld3
set_option linter.unusedVariables false
set_option linter.unusedSimpArgs false
set_option maxHeartbeats 8000000
set_option maxRecDepth 100000
namespace Go.Proofs.YtjlicnhkemfmiaaGreatDoor
open Go.RowKit

theorem bel_set3 {B : Nat} {w W : World} (h : Below B w W) (g : Nat) (hg : B ≤ g) (a b c : Value) : Below B w (((W.setCell ⟨g, 0, none⟩ a).setCell ⟨g, 1, none⟩ b).setCell ⟨g, 2, none⟩ c) := ((h.setCell hg _).setCell hg _).setCell hg _
theorem TwoR.setA {ga gb : Nat} {sa sb : Bool} {na da nb db : ByteArray} {W : World} (h : TwoR ga gb sa na da sb nb db W) (hne : ga ≠ gb) (s : Bool) (n d : ByteArray) : TwoR ga gb s n d sb nb db (((W.setCell ⟨ga, 0, none⟩ (.bool s)).setCell ⟨ga, 1, none⟩ (.string n)).setCell ⟨ga, 2, none⟩ (.string d)) := by
 have e0 := heap_setCell_same W ga 0 _ _ (.bool s) h.1
 have e1 := heap_setCell_same _ ga 1 _ _ (.string n) e0
 have e2 := heap_setCell_same _ ga 2 _ _ (.string d) e1
 refine ⟨e2, ?_⟩
 refine (heap_setCell_other _ ⟨ga, 2, none⟩ gb _ (Ne.symm hne)).trans ((heap_setCell_other _ ⟨ga, 1, none⟩ gb _ (Ne.symm hne)).trans ((heap_setCell_other _ ⟨ga, 0, none⟩ gb _ (Ne.symm hne)).trans h.2))
theorem TwoR.setB {ga gb : Nat} {sa sb : Bool} {na da nb db : ByteArray} {W : World} (h : TwoR ga gb sa na da sb nb db W) (hne : ga ≠ gb) (s : Bool) (n d : ByteArray) : TwoR ga gb sa na da s n d (((W.setCell ⟨gb, 0, none⟩ (.bool s)).setCell ⟨gb, 1, none⟩ (.string n)).setCell ⟨gb, 2, none⟩ (.string d)) := by
 have e0 := heap_setCell_same W gb 0 _ _ (.bool s) h.2
 have e1 := heap_setCell_same _ gb 1 _ _ (.string n) e0
 have e2 := heap_setCell_same _ gb 2 _ _ (.string d) e1
 refine ⟨?_, e2⟩
 refine (heap_setCell_other _ ⟨gb, 2, none⟩ ga _ hne).trans ((heap_setCell_other _ ⟨gb, 1, none⟩ ga _ hne).trans ((heap_setCell_other _ ⟨gb, 0, none⟩ ga _ hne).trans h.1))

theorem pCmp_lt (a b : FQ) (k m : Nat) (w : World) (ha : a.fits k) (hb : b.fits m) (k0 : 0 < k) (m0 : 0 < m) (hkm : k + m ≤ 99999) (hs : sgnR (fixR a) < sgnR (fixR b)) :
 Calls Tryz.prog 14 #[a.val, b.val] w fun e w' => e = .returned (.int .i64 (cmpR (fixR a) (fixR b))) ∧ Below w.heap.size w w' := by
 have HCA' := fun w => pClean_calls a k w ha (by omega)
 have HCB' := fun w => pClean_calls b m w hb (by omega)
 have HSA' := fun w => pSignOf_calls (fixR a) w
 have HSB' := fun w => pSignOf_calls (fixR b) w
 have za := fix_sz ha k0
 have zb := fix_sz hb m0
 obtain ⟨p, hp⟩ : ∃ p, p = fixR a := ⟨_, rfl⟩
 obtain ⟨q, hq⟩ : ∃ q, q = fixR b := ⟨_, rfl⟩
 rw [← hp] at HCA' HSA' za hs
 rw [← hq] at HCB' HSB' zb hs
 rw [← hp, ← hq]
 have HRES : Hid (cmpR p q = -1) := by show _ = _; rw [cmpR_ne (by omega), if_pos hs]
 obtain ⟨xs, hxs⟩ : ∃ x, x = sgnR p := ⟨_, rfl⟩
 obtain ⟨xt, hxt⟩ : ∃ x, x = sgnR q := ⟨_, rfl⟩
 rw [← hxs, ← hxt] at hs
 rw [← hxs] at HSA'
 rw [← hxt] at HSB'
 have t1 : (xs != xt) = true := by simp; omega
 have t2 : decide (xs < xt) = true := decide_eq_true (by omega)
 clear hs hxs hxt
 obtain ⟨sa, hsa⟩ : ∃ x, x = rneg p := ⟨_, rfl⟩
 obtain ⟨na, hna⟩ : ∃ x, x = rnum p := ⟨_, rfl⟩
 obtain ⟨da, hda⟩ : ∃ x, x = rden p := ⟨_, rfl⟩
 obtain ⟨sb, hsb⟩ : ∃ x, x = rneg q := ⟨_, rfl⟩
 obtain ⟨nb, hnb⟩ : ∃ x, x = rnum q := ⟨_, rfl⟩
 obtain ⟨db, hdb⟩ : ∃ x, x = rden q := ⟨_, rfl⟩
 have hra : ratV p = .agg #[.bool sa, .string na, .string da] := by rw [ratV, hsa, hna, hda]
 have hrb : ratV q = .agg #[.bool sb, .string nb, .string db] := by rw [ratV, hsb, hnb, hdb]
 rw [hra] at HSA'
 rw [hrb] at HSB'
 obtain ⟨va, hva⟩ : ∃ v, v = ratV p := ⟨_, rfl⟩
 obtain ⟨vb, hvb⟩ : ∃ v, v = ratV q := ⟨_, rfl⟩
 rw [← hva] at HCA' hra
 rw [← hvb] at HCB' hrb
 have HVA := Lib.hid hra
 have HVB := Lib.hid hrb
 have HCA := Lib.hid HCA'
 have HCB := Lib.hid HCB'
 have HSA := Lib.hid HSA'
 have HSB := Lib.hid HSB'
 obtain ⟨an, as_, ad⟩ := a
 obtain ⟨bn, bs, bd⟩ := b
 unfold FQ.val at HCA HCB ⊢
 dsimp only at HCA HCB ⊢
 clear HCA' HCB' HSA' HSB' hp hq hva hvb hra hrb hsa hna hda hsb hnb hdb za zb ha hb k0 m0 hkm
 go_enter Tryz.func14, Tryz.ntmps14
 go_upto_region 1 with fail
 obtain ⟨W0, hW0⟩ : ∃ W0, W0 = ((w.alloc (.cells #[.bool an, .string as_, .string ad] 33)).alloc (.cells #[.bool bn, .string bs, .string bd] 33)) := ⟨_, rfl⟩
 have hR0 : TwoR w.heap.size (w.heap.size + 1) an as_ ad bn bs bd W0 := by
  rw [hW0]
  refine ⟨blk_alloc (blk_new _ _), ?_⟩
  have := blk_new (w.alloc (.cells #[.bool an, .string as_, .string ad] 33)) (.cells #[.bool bn, .string bs, .string bd] 33)
  rw [World.size_alloc] at this
  exact this
 have HB0 : Hid (Below w.heap.size w W0) := by rw [hW0]; exact (bel_alloc _ _).alloc (by simp) _
 rw [← hW0]
 clear hW0
 obtain ⟨W1, hW1⟩ : ∃ W, W = W0.drew := ⟨_, rfl⟩
 have hR1 : TwoR w.heap.size (w.heap.size + 1) an as_ ad bn bs bd W1 := by rw [hW1]; exact hR0
 have HB1 := bed HB0 hW1
 have hT : (fun _ : World => True) W1 := trivial
 refine wp_region_held_drew (S := fun _ => True) (by kernel_rfl) trivial ?_
 rw [← hW1]
 intro _
 clear hW1 hR0 HB0
 refine wpAnyH_ready (rs := [0, 2]) (by kernel_rfl) (by simp) ?_
 refine AllReadyH.cons rfl (fun K hK => ?_) (AllReadyH.cons rfl (fun K hK => ?_) AllReadyH.nil)
 ·
  obtain ⟨k0, k1, k2, k3, k4, k5⟩ := hR1.three
  go_simp
  clear k0 k1 k2 k3 k4 k5
  have hR1_0 := hR1
  have HB1_0 := HB1
  refine hK.out _ _ trivial (fun _ => ?_)
  clear hK K hR1 HB1
  refine wpAnyH_ready (rs := [1, 2]) (by kernel_rfl) (by simp) ?_
  refine AllReadyH.cons rfl (fun K hK => ?_) (AllReadyH.cons rfl (fun K hK => ?_) AllReadyH.nil)
  ·
   go_simp
   refine (HCA.out _).mono ?_
   rintro e W1_0_1 ⟨rfl, hb⟩
   have hR1_0_1 := hR1_0.next hb
   have HB1_0_1 := ben HB1_0 hb
   clear hb hR1_0 HB1_0
   refine hK.out _ _ trivial (fun _ => ?_)
   clear hK K
   refine tr 2 (fun K hK => ?_)
   obtain ⟨k0, k1, k2, k3, k4, k5⟩ := hR1_0_1.three
   go_simp
   clear k0 k1 k2 k3 k4 k5
   have hR1_0_1_2 := hR1_0_1
   have HB1_0_1_2 := HB1_0_1
   refine hK.out _ _ trivial (fun _ => ?_)
   clear hK K hR1_0_1 HB1_0_1
   refine tr 3 (fun K hK => ?_)
   go_simp
   refine (HCB.out _).mono ?_
   rintro e W1_0_1_2_3 ⟨rfl, hb⟩
   have hR1_0_1_2_3 := hR1_0_1_2.next hb
   have HB1_0_1_2_3 := ben HB1_0_1_2 hb
   clear hb hR1_0_1_2 HB1_0_1_2
   refine hK.out _ _ trivial (fun _ => ?_)
   clear hK K
   refine tr 4 (fun K hK => ?_)
   obtain ⟨c0, c1, c2, f0, f1, f2, hz⟩ := three_of hR1_0_1_2_3.1
   rw [HVA.out]
   go_simp
   have hR1_0_1_2_3_4 := hR1_0_1_2_3.setA (by omega) sa na da
   have HB1_0_1_2_3_4 := Lib.hid (bel_set3 HB1_0_1_2_3.out w.heap.size (Nat.le_refl _) (.bool sa) (.string na) (.string da))
   clear c0 c1 c2 f0 f1 f2 hz hR1_0_1_2_3 HB1_0_1_2_3
   refine hK.out _ _ trivial (fun _ => ?_)
   clear hK K
   refine tr 5 (fun K hK => ?_)
   obtain ⟨c0, c1, c2, f0, f1, f2, hz⟩ := three_of hR1_0_1_2_3_4.2
   rw [HVB.out]
   go_simp
   have hR1_0_1_2_3_4_5 := hR1_0_1_2_3_4.setB (by omega) sb nb db
   have HB1_0_1_2_3_4_5 := Lib.hid (bel_set3 HB1_0_1_2_3_4.out (w.heap.size + 1) (by omega) (.bool sb) (.string nb) (.string db))
   clear c0 c1 c2 f0 f1 f2 hz hR1_0_1_2_3_4 HB1_0_1_2_3_4
   refine hK.out _ _ trivial (fun _ => ?_)
   clear hK K
   refine wpAnyH_done (by kernel_rfl) ?_ _
   clear hT
   obtain ⟨W100, hW100⟩ : ∃ W, W = (((((W1_0_1_2_3.setCell ⟨w.heap.size, 0, none⟩ (.bool sa)).setCell ⟨w.heap.size, 1, none⟩ (.string na)).setCell ⟨w.heap.size, 2, none⟩ (.string da)).setCell ⟨w.heap.size + 1, 0, none⟩ (.bool sb)).setCell ⟨w.heap.size + 1, 1, none⟩ (.string nb)).setCell ⟨w.heap.size + 1, 2, none⟩ (.string db) := ⟨_, rfl⟩
   have hS100 : TwoR w.heap.size (w.heap.size + 1) sa na da sb nb db W100 := by rw [hW100]; exact hR1_0_1_2_3_4_5
   have HB100 : Hid (Below w.heap.size w W100) := by rw [hW100]; exact HB1_0_1_2_3_4_5.out
   rw [← hW100]
   clear hW100 hR1_0_1_2_3_4_5 HB1_0_1_2_3_4_5
   go_wp2_with fail
   obtain ⟨W101, hW101⟩ : ∃ W, W = W100.drew := ⟨_, rfl⟩
   have hS101 : TwoR w.heap.size (w.heap.size + 1) sa na da sb nb db W101 := by rw [hW101]; exact hS100
   have HB101 := bed HB100 hW101
   refine wp_region_held_drew (S := TwoR w.heap.size (w.heap.size + 1) sa na da sb nb db) (by kernel_rfl) (by rw [← hW101]; exact hS101) ?_
   rw [← hW101]
   intro _
   clear hW101 hS100 HB100
   refine tv 0 (.agg #[.bool sa, .string na, .string da]) rfl (by intro w' hw'; obtain ⟨k0, k1, k2, k3, k4, k5⟩ := hw'.three; go_simp) hS101 ?_
   go_simp
   refine tv 2 (.agg #[.bool sb, .string nb, .string db]) rfl (by intro w' hw'; obtain ⟨k0, k1, k2, k3, k4, k5⟩ := hw'.three; go_simp) hS101 ?_
   go_simp
   refine tr 1 (fun K hK => ?_)
   go_simp
   refine (HSA.out _).mono ?_
   rintro e W102 ⟨rfl, hb⟩
   have hS102 := hS101.next hb
   have HB102 := ben HB101 hb
   clear hb hS101 HB101
   refine hK.out _ _ hS102 (fun _ => ?_)
   clear hK K
   refine tr 3 (fun K hK => ?_)
   go_simp
   refine (HSB.out _).mono ?_
   rintro e W103 ⟨rfl, hb⟩
   have hS103 := hS102.next hb
   have HB103 := ben HB102 hb
   clear hb hS102 HB102
   refine hK.out _ _ hS103 (fun _ => ?_)
   clear hK K
   refine tk 4 hS103 ?_
   go_simp
   refine tk 5 hS103 ?_
   go_simp
   refine wpAnyH_done (by kernel_rfl) ?_ _
   go_wp2_with fail
   go_ret
   exact ⟨by rw [HRES.out]; rfl, HB103.out⟩
  ·
   obtain ⟨k0, k1, k2, k3, k4, k5⟩ := hR1_0.three
   go_simp
   clear k0 k1 k2 k3 k4 k5
   have hR1_0_2 := hR1_0
   have HB1_0_2 := HB1_0
   refine hK.out _ _ trivial (fun _ => ?_)
   clear hK K hR1_0 HB1_0
   refine tr 1 (fun K hK => ?_)
   go_simp
   refine (HCA.out _).mono ?_
   rintro e W1_0_2_1 ⟨rfl, hb⟩
   have hR1_0_2_1 := hR1_0_2.next hb
   have HB1_0_2_1 := ben HB1_0_2 hb
   clear hb hR1_0_2 HB1_0_2
   refine hK.out _ _ trivial (fun _ => ?_)
   clear hK K
   refine tr 3 (fun K hK => ?_)
   go_simp
   refine (HCB.out _).mono ?_
   rintro e W1_0_2_1_3 ⟨rfl, hb⟩
   have hR1_0_2_1_3 := hR1_0_2_1.next hb
   have HB1_0_2_1_3 := ben HB1_0_2_1 hb
   clear hb hR1_0_2_1 HB1_0_2_1
   refine hK.out _ _ trivial (fun _ => ?_)
   clear hK K
   refine tr 4 (fun K hK => ?_)
   obtain ⟨c0, c1, c2, f0, f1, f2, hz⟩ := three_of hR1_0_2_1_3.1
   rw [HVA.out]
   go_simp
   have hR1_0_2_1_3_4 := hR1_0_2_1_3.setA (by omega) sa na da
   have HB1_0_2_1_3_4 := Lib.hid (bel_set3 HB1_0_2_1_3.out w.heap.size (Nat.le_refl _) (.bool sa) (.string na) (.string da))
   clear c0 c1 c2 f0 f1 f2 hz hR1_0_2_1_3 HB1_0_2_1_3
   refine hK.out _ _ trivial (fun _ => ?_)
   clear hK K
   refine tr 5 (fun K hK => ?_)
   obtain ⟨c0, c1, c2, f0, f1, f2, hz⟩ := three_of hR1_0_2_1_3_4.2
   rw [HVB.out]
   go_simp
   have hR1_0_2_1_3_4_5 := hR1_0_2_1_3_4.setB (by omega) sb nb db
   have HB1_0_2_1_3_4_5 := Lib.hid (bel_set3 HB1_0_2_1_3_4.out (w.heap.size + 1) (by omega) (.bool sb) (.string nb) (.string db))
   clear c0 c1 c2 f0 f1 f2 hz hR1_0_2_1_3_4 HB1_0_2_1_3_4
   refine hK.out _ _ trivial (fun _ => ?_)
   clear hK K
   refine wpAnyH_done (by kernel_rfl) ?_ _
   clear hT
   obtain ⟨W100, hW100⟩ : ∃ W, W = (((((W1_0_2_1_3.setCell ⟨w.heap.size, 0, none⟩ (.bool sa)).setCell ⟨w.heap.size, 1, none⟩ (.string na)).setCell ⟨w.heap.size, 2, none⟩ (.string da)).setCell ⟨w.heap.size + 1, 0, none⟩ (.bool sb)).setCell ⟨w.heap.size + 1, 1, none⟩ (.string nb)).setCell ⟨w.heap.size + 1, 2, none⟩ (.string db) := ⟨_, rfl⟩
   have hS100 : TwoR w.heap.size (w.heap.size + 1) sa na da sb nb db W100 := by rw [hW100]; exact hR1_0_2_1_3_4_5
   have HB100 : Hid (Below w.heap.size w W100) := by rw [hW100]; exact HB1_0_2_1_3_4_5.out
   rw [← hW100]
   clear hW100 hR1_0_2_1_3_4_5 HB1_0_2_1_3_4_5
   go_wp2_with fail
   obtain ⟨W101, hW101⟩ : ∃ W, W = W100.drew := ⟨_, rfl⟩
   have hS101 : TwoR w.heap.size (w.heap.size + 1) sa na da sb nb db W101 := by rw [hW101]; exact hS100
   have HB101 := bed HB100 hW101
   refine wp_region_held_drew (S := TwoR w.heap.size (w.heap.size + 1) sa na da sb nb db) (by kernel_rfl) (by rw [← hW101]; exact hS101) ?_
   rw [← hW101]
   intro _
   clear hW101 hS100 HB100
   refine tv 0 (.agg #[.bool sa, .string na, .string da]) rfl (by intro w' hw'; obtain ⟨k0, k1, k2, k3, k4, k5⟩ := hw'.three; go_simp) hS101 ?_
   go_simp
   refine tv 2 (.agg #[.bool sb, .string nb, .string db]) rfl (by intro w' hw'; obtain ⟨k0, k1, k2, k3, k4, k5⟩ := hw'.three; go_simp) hS101 ?_
   go_simp
   refine tr 1 (fun K hK => ?_)
   go_simp
   refine (HSA.out _).mono ?_
   rintro e W102 ⟨rfl, hb⟩
   have hS102 := hS101.next hb
   have HB102 := ben HB101 hb
   clear hb hS101 HB101
   refine hK.out _ _ hS102 (fun _ => ?_)
   clear hK K
   refine tr 3 (fun K hK => ?_)
   go_simp
   refine (HSB.out _).mono ?_
   rintro e W103 ⟨rfl, hb⟩
   have hS103 := hS102.next hb
   have HB103 := ben HB102 hb
   clear hb hS102 HB102
   refine hK.out _ _ hS103 (fun _ => ?_)
   clear hK K
   refine tk 4 hS103 ?_
   go_simp
   refine tk 5 hS103 ?_
   go_simp
   refine wpAnyH_done (by kernel_rfl) ?_ _
   go_wp2_with fail
   go_ret
   exact ⟨by rw [HRES.out]; rfl, HB103.out⟩
 ·
  obtain ⟨k0, k1, k2, k3, k4, k5⟩ := hR1.three
  go_simp
  clear k0 k1 k2 k3 k4 k5
  have hR1_2 := hR1
  have HB1_2 := HB1
  refine hK.out _ _ trivial (fun _ => ?_)
  clear hK K hR1 HB1
  refine tr 0 (fun K hK => ?_)
  obtain ⟨k0, k1, k2, k3, k4, k5⟩ := hR1_2.three
  go_simp
  clear k0 k1 k2 k3 k4 k5
  have hR1_2_0 := hR1_2
  have HB1_2_0 := HB1_2
  refine hK.out _ _ trivial (fun _ => ?_)
  clear hK K hR1_2 HB1_2
  refine tr 1 (fun K hK => ?_)
  go_simp
  refine (HCA.out _).mono ?_
  rintro e W1_2_0_1 ⟨rfl, hb⟩
  have hR1_2_0_1 := hR1_2_0.next hb
  have HB1_2_0_1 := ben HB1_2_0 hb
  clear hb hR1_2_0 HB1_2_0
  refine hK.out _ _ trivial (fun _ => ?_)
  clear hK K
  refine tr 3 (fun K hK => ?_)
  go_simp
  refine (HCB.out _).mono ?_
  rintro e W1_2_0_1_3 ⟨rfl, hb⟩
  have hR1_2_0_1_3 := hR1_2_0_1.next hb
  have HB1_2_0_1_3 := ben HB1_2_0_1 hb
  clear hb hR1_2_0_1 HB1_2_0_1
  refine hK.out _ _ trivial (fun _ => ?_)
  clear hK K
  refine tr 4 (fun K hK => ?_)
  obtain ⟨c0, c1, c2, f0, f1, f2, hz⟩ := three_of hR1_2_0_1_3.1
  rw [HVA.out]
  go_simp
  have hR1_2_0_1_3_4 := hR1_2_0_1_3.setA (by omega) sa na da
  have HB1_2_0_1_3_4 := Lib.hid (bel_set3 HB1_2_0_1_3.out w.heap.size (Nat.le_refl _) (.bool sa) (.string na) (.string da))
  clear c0 c1 c2 f0 f1 f2 hz hR1_2_0_1_3 HB1_2_0_1_3
  refine hK.out _ _ trivial (fun _ => ?_)
  clear hK K
  refine tr 5 (fun K hK => ?_)
  obtain ⟨c0, c1, c2, f0, f1, f2, hz⟩ := three_of hR1_2_0_1_3_4.2
  rw [HVB.out]
  go_simp
  have hR1_2_0_1_3_4_5 := hR1_2_0_1_3_4.setB (by omega) sb nb db
  have HB1_2_0_1_3_4_5 := Lib.hid (bel_set3 HB1_2_0_1_3_4.out (w.heap.size + 1) (by omega) (.bool sb) (.string nb) (.string db))
  clear c0 c1 c2 f0 f1 f2 hz hR1_2_0_1_3_4 HB1_2_0_1_3_4
  refine hK.out _ _ trivial (fun _ => ?_)
  clear hK K
  refine wpAnyH_done (by kernel_rfl) ?_ _
  clear hT
  obtain ⟨W100, hW100⟩ : ∃ W, W = (((((W1_2_0_1_3.setCell ⟨w.heap.size, 0, none⟩ (.bool sa)).setCell ⟨w.heap.size, 1, none⟩ (.string na)).setCell ⟨w.heap.size, 2, none⟩ (.string da)).setCell ⟨w.heap.size + 1, 0, none⟩ (.bool sb)).setCell ⟨w.heap.size + 1, 1, none⟩ (.string nb)).setCell ⟨w.heap.size + 1, 2, none⟩ (.string db) := ⟨_, rfl⟩
  have hS100 : TwoR w.heap.size (w.heap.size + 1) sa na da sb nb db W100 := by rw [hW100]; exact hR1_2_0_1_3_4_5
  have HB100 : Hid (Below w.heap.size w W100) := by rw [hW100]; exact HB1_2_0_1_3_4_5.out
  rw [← hW100]
  clear hW100 hR1_2_0_1_3_4_5 HB1_2_0_1_3_4_5
  go_wp2_with fail
  obtain ⟨W101, hW101⟩ : ∃ W, W = W100.drew := ⟨_, rfl⟩
  have hS101 : TwoR w.heap.size (w.heap.size + 1) sa na da sb nb db W101 := by rw [hW101]; exact hS100
  have HB101 := bed HB100 hW101
  refine wp_region_held_drew (S := TwoR w.heap.size (w.heap.size + 1) sa na da sb nb db) (by kernel_rfl) (by rw [← hW101]; exact hS101) ?_
  rw [← hW101]
  intro _
  clear hW101 hS100 HB100
  refine tv 0 (.agg #[.bool sa, .string na, .string da]) rfl (by intro w' hw'; obtain ⟨k0, k1, k2, k3, k4, k5⟩ := hw'.three; go_simp) hS101 ?_
  go_simp
  refine tv 2 (.agg #[.bool sb, .string nb, .string db]) rfl (by intro w' hw'; obtain ⟨k0, k1, k2, k3, k4, k5⟩ := hw'.three; go_simp) hS101 ?_
  go_simp
  refine tr 1 (fun K hK => ?_)
  go_simp
  refine (HSA.out _).mono ?_
  rintro e W102 ⟨rfl, hb⟩
  have hS102 := hS101.next hb
  have HB102 := ben HB101 hb
  clear hb hS101 HB101
  refine hK.out _ _ hS102 (fun _ => ?_)
  clear hK K
  refine tr 3 (fun K hK => ?_)
  go_simp
  refine (HSB.out _).mono ?_
  rintro e W103 ⟨rfl, hb⟩
  have hS103 := hS102.next hb
  have HB103 := ben HB102 hb
  clear hb hS102 HB102
  refine hK.out _ _ hS103 (fun _ => ?_)
  clear hK K
  refine tk 4 hS103 ?_
  go_simp
  refine tk 5 hS103 ?_
  go_simp
  refine wpAnyH_done (by kernel_rfl) ?_ _
  go_wp2_with fail
  go_ret
  exact ⟨by rw [HRES.out]; rfl, HB103.out⟩

theorem pCmp_gt (a b : FQ) (k m : Nat) (w : World) (ha : a.fits k) (hb : b.fits m) (k0 : 0 < k) (m0 : 0 < m) (hkm : k + m ≤ 99999) (hs : sgnR (fixR a) > sgnR (fixR b)) :
 Calls Tryz.prog 14 #[a.val, b.val] w fun e w' => e = .returned (.int .i64 (cmpR (fixR a) (fixR b))) ∧ Below w.heap.size w w' := by
 have HCA' := fun w => pClean_calls a k w ha (by omega)
 have HCB' := fun w => pClean_calls b m w hb (by omega)
 have HSA' := fun w => pSignOf_calls (fixR a) w
 have HSB' := fun w => pSignOf_calls (fixR b) w
 have za := fix_sz ha k0
 have zb := fix_sz hb m0
 obtain ⟨p, hp⟩ : ∃ p, p = fixR a := ⟨_, rfl⟩
 obtain ⟨q, hq⟩ : ∃ q, q = fixR b := ⟨_, rfl⟩
 rw [← hp] at HCA' HSA' za hs
 rw [← hq] at HCB' HSB' zb hs
 rw [← hp, ← hq]
 have HRES : Hid (cmpR p q = 1) := by show _ = _; rw [cmpR_ne (by omega), if_neg (by omega)]
 obtain ⟨xs, hxs⟩ : ∃ x, x = sgnR p := ⟨_, rfl⟩
 obtain ⟨xt, hxt⟩ : ∃ x, x = sgnR q := ⟨_, rfl⟩
 rw [← hxs, ← hxt] at hs
 rw [← hxs] at HSA'
 rw [← hxt] at HSB'
 have t1 : (xs != xt) = true := by simp; omega
 have t2 : decide (xs < xt) = false := decide_eq_false (by omega)
 clear hs hxs hxt
 obtain ⟨sa, hsa⟩ : ∃ x, x = rneg p := ⟨_, rfl⟩
 obtain ⟨na, hna⟩ : ∃ x, x = rnum p := ⟨_, rfl⟩
 obtain ⟨da, hda⟩ : ∃ x, x = rden p := ⟨_, rfl⟩
 obtain ⟨sb, hsb⟩ : ∃ x, x = rneg q := ⟨_, rfl⟩
 obtain ⟨nb, hnb⟩ : ∃ x, x = rnum q := ⟨_, rfl⟩
 obtain ⟨db, hdb⟩ : ∃ x, x = rden q := ⟨_, rfl⟩
 have hra : ratV p = .agg #[.bool sa, .string na, .string da] := by rw [ratV, hsa, hna, hda]
 have hrb : ratV q = .agg #[.bool sb, .string nb, .string db] := by rw [ratV, hsb, hnb, hdb]
 rw [hra] at HSA'
 rw [hrb] at HSB'
 obtain ⟨va, hva⟩ : ∃ v, v = ratV p := ⟨_, rfl⟩
 obtain ⟨vb, hvb⟩ : ∃ v, v = ratV q := ⟨_, rfl⟩
 rw [← hva] at HCA' hra
 rw [← hvb] at HCB' hrb
 have HVA := Lib.hid hra
 have HVB := Lib.hid hrb
 have HCA := Lib.hid HCA'
 have HCB := Lib.hid HCB'
 have HSA := Lib.hid HSA'
 have HSB := Lib.hid HSB'
 obtain ⟨an, as_, ad⟩ := a
 obtain ⟨bn, bs, bd⟩ := b
 unfold FQ.val at HCA HCB ⊢
 dsimp only at HCA HCB ⊢
 clear HCA' HCB' HSA' HSB' hp hq hva hvb hra hrb hsa hna hda hsb hnb hdb za zb ha hb k0 m0 hkm
 go_enter Tryz.func14, Tryz.ntmps14
 go_upto_region 1 with fail
 obtain ⟨W0, hW0⟩ : ∃ W0, W0 = ((w.alloc (.cells #[.bool an, .string as_, .string ad] 33)).alloc (.cells #[.bool bn, .string bs, .string bd] 33)) := ⟨_, rfl⟩
 have hR0 : TwoR w.heap.size (w.heap.size + 1) an as_ ad bn bs bd W0 := by
  rw [hW0]
  refine ⟨blk_alloc (blk_new _ _), ?_⟩
  have := blk_new (w.alloc (.cells #[.bool an, .string as_, .string ad] 33)) (.cells #[.bool bn, .string bs, .string bd] 33)
  rw [World.size_alloc] at this
  exact this
 have HB0 : Hid (Below w.heap.size w W0) := by rw [hW0]; exact (bel_alloc _ _).alloc (by simp) _
 rw [← hW0]
 clear hW0
 obtain ⟨W1, hW1⟩ : ∃ W, W = W0.drew := ⟨_, rfl⟩
 have hR1 : TwoR w.heap.size (w.heap.size + 1) an as_ ad bn bs bd W1 := by rw [hW1]; exact hR0
 have HB1 := bed HB0 hW1
 have hT : (fun _ : World => True) W1 := trivial
 refine wp_region_held_drew (S := fun _ => True) (by kernel_rfl) trivial ?_
 rw [← hW1]
 intro _
 clear hW1 hR0 HB0
 refine wpAnyH_ready (rs := [0, 2]) (by kernel_rfl) (by simp) ?_
 refine AllReadyH.cons rfl (fun K hK => ?_) (AllReadyH.cons rfl (fun K hK => ?_) AllReadyH.nil)
 ·
  obtain ⟨k0, k1, k2, k3, k4, k5⟩ := hR1.three
  go_simp
  clear k0 k1 k2 k3 k4 k5
  have hR1_0 := hR1
  have HB1_0 := HB1
  refine hK.out _ _ trivial (fun _ => ?_)
  clear hK K hR1 HB1
  refine wpAnyH_ready (rs := [1, 2]) (by kernel_rfl) (by simp) ?_
  refine AllReadyH.cons rfl (fun K hK => ?_) (AllReadyH.cons rfl (fun K hK => ?_) AllReadyH.nil)
  ·
   go_simp
   refine (HCA.out _).mono ?_
   rintro e W1_0_1 ⟨rfl, hb⟩
   have hR1_0_1 := hR1_0.next hb
   have HB1_0_1 := ben HB1_0 hb
   clear hb hR1_0 HB1_0
   refine hK.out _ _ trivial (fun _ => ?_)
   clear hK K
   refine tr 2 (fun K hK => ?_)
   obtain ⟨k0, k1, k2, k3, k4, k5⟩ := hR1_0_1.three
   go_simp
   clear k0 k1 k2 k3 k4 k5
   have hR1_0_1_2 := hR1_0_1
   have HB1_0_1_2 := HB1_0_1
   refine hK.out _ _ trivial (fun _ => ?_)
   clear hK K hR1_0_1 HB1_0_1
   refine tr 3 (fun K hK => ?_)
   go_simp
   refine (HCB.out _).mono ?_
   rintro e W1_0_1_2_3 ⟨rfl, hb⟩
   have hR1_0_1_2_3 := hR1_0_1_2.next hb
   have HB1_0_1_2_3 := ben HB1_0_1_2 hb
   clear hb hR1_0_1_2 HB1_0_1_2
   refine hK.out _ _ trivial (fun _ => ?_)
   clear hK K
   refine tr 4 (fun K hK => ?_)
   obtain ⟨c0, c1, c2, f0, f1, f2, hz⟩ := three_of hR1_0_1_2_3.1
   rw [HVA.out]
   go_simp
   have hR1_0_1_2_3_4 := hR1_0_1_2_3.setA (by omega) sa na da
   have HB1_0_1_2_3_4 := Lib.hid (bel_set3 HB1_0_1_2_3.out w.heap.size (Nat.le_refl _) (.bool sa) (.string na) (.string da))
   clear c0 c1 c2 f0 f1 f2 hz hR1_0_1_2_3 HB1_0_1_2_3
   refine hK.out _ _ trivial (fun _ => ?_)
   clear hK K
   refine tr 5 (fun K hK => ?_)
   obtain ⟨c0, c1, c2, f0, f1, f2, hz⟩ := three_of hR1_0_1_2_3_4.2
   rw [HVB.out]
   go_simp
   have hR1_0_1_2_3_4_5 := hR1_0_1_2_3_4.setB (by omega) sb nb db
   have HB1_0_1_2_3_4_5 := Lib.hid (bel_set3 HB1_0_1_2_3_4.out (w.heap.size + 1) (by omega) (.bool sb) (.string nb) (.string db))
   clear c0 c1 c2 f0 f1 f2 hz hR1_0_1_2_3_4 HB1_0_1_2_3_4
   refine hK.out _ _ trivial (fun _ => ?_)
   clear hK K
   refine wpAnyH_done (by kernel_rfl) ?_ _
   clear hT
   obtain ⟨W100, hW100⟩ : ∃ W, W = (((((W1_0_1_2_3.setCell ⟨w.heap.size, 0, none⟩ (.bool sa)).setCell ⟨w.heap.size, 1, none⟩ (.string na)).setCell ⟨w.heap.size, 2, none⟩ (.string da)).setCell ⟨w.heap.size + 1, 0, none⟩ (.bool sb)).setCell ⟨w.heap.size + 1, 1, none⟩ (.string nb)).setCell ⟨w.heap.size + 1, 2, none⟩ (.string db) := ⟨_, rfl⟩
   have hS100 : TwoR w.heap.size (w.heap.size + 1) sa na da sb nb db W100 := by rw [hW100]; exact hR1_0_1_2_3_4_5
   have HB100 : Hid (Below w.heap.size w W100) := by rw [hW100]; exact HB1_0_1_2_3_4_5.out
   rw [← hW100]
   clear hW100 hR1_0_1_2_3_4_5 HB1_0_1_2_3_4_5
   go_wp2_with fail
   obtain ⟨W101, hW101⟩ : ∃ W, W = W100.drew := ⟨_, rfl⟩
   have hS101 : TwoR w.heap.size (w.heap.size + 1) sa na da sb nb db W101 := by rw [hW101]; exact hS100
   have HB101 := bed HB100 hW101
   refine wp_region_held_drew (S := TwoR w.heap.size (w.heap.size + 1) sa na da sb nb db) (by kernel_rfl) (by rw [← hW101]; exact hS101) ?_
   rw [← hW101]
   intro _
   clear hW101 hS100 HB100
   refine tv 0 (.agg #[.bool sa, .string na, .string da]) rfl (by intro w' hw'; obtain ⟨k0, k1, k2, k3, k4, k5⟩ := hw'.three; go_simp) hS101 ?_
   go_simp
   refine tv 2 (.agg #[.bool sb, .string nb, .string db]) rfl (by intro w' hw'; obtain ⟨k0, k1, k2, k3, k4, k5⟩ := hw'.three; go_simp) hS101 ?_
   go_simp
   refine tr 1 (fun K hK => ?_)
   go_simp
   refine (HSA.out _).mono ?_
   rintro e W102 ⟨rfl, hb⟩
   have hS102 := hS101.next hb
   have HB102 := ben HB101 hb
   clear hb hS101 HB101
   refine hK.out _ _ hS102 (fun _ => ?_)
   clear hK K
   refine tr 3 (fun K hK => ?_)
   go_simp
   refine (HSB.out _).mono ?_
   rintro e W103 ⟨rfl, hb⟩
   have hS103 := hS102.next hb
   have HB103 := ben HB102 hb
   clear hb hS102 HB102
   refine hK.out _ _ hS103 (fun _ => ?_)
   clear hK K
   refine tk 4 hS103 ?_
   go_simp
   refine tk 5 hS103 ?_
   go_simp
   refine wpAnyH_done (by kernel_rfl) ?_ _
   go_wp2_with fail
   go_ret
   exact ⟨by rw [HRES.out]; rfl, HB103.out⟩
  ·
   obtain ⟨k0, k1, k2, k3, k4, k5⟩ := hR1_0.three
   go_simp
   clear k0 k1 k2 k3 k4 k5
   have hR1_0_2 := hR1_0
   have HB1_0_2 := HB1_0
   refine hK.out _ _ trivial (fun _ => ?_)
   clear hK K hR1_0 HB1_0
   refine tr 1 (fun K hK => ?_)
   go_simp
   refine (HCA.out _).mono ?_
   rintro e W1_0_2_1 ⟨rfl, hb⟩
   have hR1_0_2_1 := hR1_0_2.next hb
   have HB1_0_2_1 := ben HB1_0_2 hb
   clear hb hR1_0_2 HB1_0_2
   refine hK.out _ _ trivial (fun _ => ?_)
   clear hK K
   refine tr 3 (fun K hK => ?_)
   go_simp
   refine (HCB.out _).mono ?_
   rintro e W1_0_2_1_3 ⟨rfl, hb⟩
   have hR1_0_2_1_3 := hR1_0_2_1.next hb
   have HB1_0_2_1_3 := ben HB1_0_2_1 hb
   clear hb hR1_0_2_1 HB1_0_2_1
   refine hK.out _ _ trivial (fun _ => ?_)
   clear hK K
   refine tr 4 (fun K hK => ?_)
   obtain ⟨c0, c1, c2, f0, f1, f2, hz⟩ := three_of hR1_0_2_1_3.1
   rw [HVA.out]
   go_simp
   have hR1_0_2_1_3_4 := hR1_0_2_1_3.setA (by omega) sa na da
   have HB1_0_2_1_3_4 := Lib.hid (bel_set3 HB1_0_2_1_3.out w.heap.size (Nat.le_refl _) (.bool sa) (.string na) (.string da))
   clear c0 c1 c2 f0 f1 f2 hz hR1_0_2_1_3 HB1_0_2_1_3
   refine hK.out _ _ trivial (fun _ => ?_)
   clear hK K
   refine tr 5 (fun K hK => ?_)
   obtain ⟨c0, c1, c2, f0, f1, f2, hz⟩ := three_of hR1_0_2_1_3_4.2
   rw [HVB.out]
   go_simp
   have hR1_0_2_1_3_4_5 := hR1_0_2_1_3_4.setB (by omega) sb nb db
   have HB1_0_2_1_3_4_5 := Lib.hid (bel_set3 HB1_0_2_1_3_4.out (w.heap.size + 1) (by omega) (.bool sb) (.string nb) (.string db))
   clear c0 c1 c2 f0 f1 f2 hz hR1_0_2_1_3_4 HB1_0_2_1_3_4
   refine hK.out _ _ trivial (fun _ => ?_)
   clear hK K
   refine wpAnyH_done (by kernel_rfl) ?_ _
   clear hT
   obtain ⟨W100, hW100⟩ : ∃ W, W = (((((W1_0_2_1_3.setCell ⟨w.heap.size, 0, none⟩ (.bool sa)).setCell ⟨w.heap.size, 1, none⟩ (.string na)).setCell ⟨w.heap.size, 2, none⟩ (.string da)).setCell ⟨w.heap.size + 1, 0, none⟩ (.bool sb)).setCell ⟨w.heap.size + 1, 1, none⟩ (.string nb)).setCell ⟨w.heap.size + 1, 2, none⟩ (.string db) := ⟨_, rfl⟩
   have hS100 : TwoR w.heap.size (w.heap.size + 1) sa na da sb nb db W100 := by rw [hW100]; exact hR1_0_2_1_3_4_5
   have HB100 : Hid (Below w.heap.size w W100) := by rw [hW100]; exact HB1_0_2_1_3_4_5.out
   rw [← hW100]
   clear hW100 hR1_0_2_1_3_4_5 HB1_0_2_1_3_4_5
   go_wp2_with fail
   obtain ⟨W101, hW101⟩ : ∃ W, W = W100.drew := ⟨_, rfl⟩
   have hS101 : TwoR w.heap.size (w.heap.size + 1) sa na da sb nb db W101 := by rw [hW101]; exact hS100
   have HB101 := bed HB100 hW101
   refine wp_region_held_drew (S := TwoR w.heap.size (w.heap.size + 1) sa na da sb nb db) (by kernel_rfl) (by rw [← hW101]; exact hS101) ?_
   rw [← hW101]
   intro _
   clear hW101 hS100 HB100
   refine tv 0 (.agg #[.bool sa, .string na, .string da]) rfl (by intro w' hw'; obtain ⟨k0, k1, k2, k3, k4, k5⟩ := hw'.three; go_simp) hS101 ?_
   go_simp
   refine tv 2 (.agg #[.bool sb, .string nb, .string db]) rfl (by intro w' hw'; obtain ⟨k0, k1, k2, k3, k4, k5⟩ := hw'.three; go_simp) hS101 ?_
   go_simp
   refine tr 1 (fun K hK => ?_)
   go_simp
   refine (HSA.out _).mono ?_
   rintro e W102 ⟨rfl, hb⟩
   have hS102 := hS101.next hb
   have HB102 := ben HB101 hb
   clear hb hS101 HB101
   refine hK.out _ _ hS102 (fun _ => ?_)
   clear hK K
   refine tr 3 (fun K hK => ?_)
   go_simp
   refine (HSB.out _).mono ?_
   rintro e W103 ⟨rfl, hb⟩
   have hS103 := hS102.next hb
   have HB103 := ben HB102 hb
   clear hb hS102 HB102
   refine hK.out _ _ hS103 (fun _ => ?_)
   clear hK K
   refine tk 4 hS103 ?_
   go_simp
   refine tk 5 hS103 ?_
   go_simp
   refine wpAnyH_done (by kernel_rfl) ?_ _
   go_wp2_with fail
   go_ret
   exact ⟨by rw [HRES.out]; rfl, HB103.out⟩
 ·
  obtain ⟨k0, k1, k2, k3, k4, k5⟩ := hR1.three
  go_simp
  clear k0 k1 k2 k3 k4 k5
  have hR1_2 := hR1
  have HB1_2 := HB1
  refine hK.out _ _ trivial (fun _ => ?_)
  clear hK K hR1 HB1
  refine tr 0 (fun K hK => ?_)
  obtain ⟨k0, k1, k2, k3, k4, k5⟩ := hR1_2.three
  go_simp
  clear k0 k1 k2 k3 k4 k5
  have hR1_2_0 := hR1_2
  have HB1_2_0 := HB1_2
  refine hK.out _ _ trivial (fun _ => ?_)
  clear hK K hR1_2 HB1_2
  refine tr 1 (fun K hK => ?_)
  go_simp
  refine (HCA.out _).mono ?_
  rintro e W1_2_0_1 ⟨rfl, hb⟩
  have hR1_2_0_1 := hR1_2_0.next hb
  have HB1_2_0_1 := ben HB1_2_0 hb
  clear hb hR1_2_0 HB1_2_0
  refine hK.out _ _ trivial (fun _ => ?_)
  clear hK K
  refine tr 3 (fun K hK => ?_)
  go_simp
  refine (HCB.out _).mono ?_
  rintro e W1_2_0_1_3 ⟨rfl, hb⟩
  have hR1_2_0_1_3 := hR1_2_0_1.next hb
  have HB1_2_0_1_3 := ben HB1_2_0_1 hb
  clear hb hR1_2_0_1 HB1_2_0_1
  refine hK.out _ _ trivial (fun _ => ?_)
  clear hK K
  refine tr 4 (fun K hK => ?_)
  obtain ⟨c0, c1, c2, f0, f1, f2, hz⟩ := three_of hR1_2_0_1_3.1
  rw [HVA.out]
  go_simp
  have hR1_2_0_1_3_4 := hR1_2_0_1_3.setA (by omega) sa na da
  have HB1_2_0_1_3_4 := Lib.hid (bel_set3 HB1_2_0_1_3.out w.heap.size (Nat.le_refl _) (.bool sa) (.string na) (.string da))
  clear c0 c1 c2 f0 f1 f2 hz hR1_2_0_1_3 HB1_2_0_1_3
  refine hK.out _ _ trivial (fun _ => ?_)
  clear hK K
  refine tr 5 (fun K hK => ?_)
  obtain ⟨c0, c1, c2, f0, f1, f2, hz⟩ := three_of hR1_2_0_1_3_4.2
  rw [HVB.out]
  go_simp
  have hR1_2_0_1_3_4_5 := hR1_2_0_1_3_4.setB (by omega) sb nb db
  have HB1_2_0_1_3_4_5 := Lib.hid (bel_set3 HB1_2_0_1_3_4.out (w.heap.size + 1) (by omega) (.bool sb) (.string nb) (.string db))
  clear c0 c1 c2 f0 f1 f2 hz hR1_2_0_1_3_4 HB1_2_0_1_3_4
  refine hK.out _ _ trivial (fun _ => ?_)
  clear hK K
  refine wpAnyH_done (by kernel_rfl) ?_ _
  clear hT
  obtain ⟨W100, hW100⟩ : ∃ W, W = (((((W1_2_0_1_3.setCell ⟨w.heap.size, 0, none⟩ (.bool sa)).setCell ⟨w.heap.size, 1, none⟩ (.string na)).setCell ⟨w.heap.size, 2, none⟩ (.string da)).setCell ⟨w.heap.size + 1, 0, none⟩ (.bool sb)).setCell ⟨w.heap.size + 1, 1, none⟩ (.string nb)).setCell ⟨w.heap.size + 1, 2, none⟩ (.string db) := ⟨_, rfl⟩
  have hS100 : TwoR w.heap.size (w.heap.size + 1) sa na da sb nb db W100 := by rw [hW100]; exact hR1_2_0_1_3_4_5
  have HB100 : Hid (Below w.heap.size w W100) := by rw [hW100]; exact HB1_2_0_1_3_4_5.out
  rw [← hW100]
  clear hW100 hR1_2_0_1_3_4_5 HB1_2_0_1_3_4_5
  go_wp2_with fail
  obtain ⟨W101, hW101⟩ : ∃ W, W = W100.drew := ⟨_, rfl⟩
  have hS101 : TwoR w.heap.size (w.heap.size + 1) sa na da sb nb db W101 := by rw [hW101]; exact hS100
  have HB101 := bed HB100 hW101
  refine wp_region_held_drew (S := TwoR w.heap.size (w.heap.size + 1) sa na da sb nb db) (by kernel_rfl) (by rw [← hW101]; exact hS101) ?_
  rw [← hW101]
  intro _
  clear hW101 hS100 HB100
  refine tv 0 (.agg #[.bool sa, .string na, .string da]) rfl (by intro w' hw'; obtain ⟨k0, k1, k2, k3, k4, k5⟩ := hw'.three; go_simp) hS101 ?_
  go_simp
  refine tv 2 (.agg #[.bool sb, .string nb, .string db]) rfl (by intro w' hw'; obtain ⟨k0, k1, k2, k3, k4, k5⟩ := hw'.three; go_simp) hS101 ?_
  go_simp
  refine tr 1 (fun K hK => ?_)
  go_simp
  refine (HSA.out _).mono ?_
  rintro e W102 ⟨rfl, hb⟩
  have hS102 := hS101.next hb
  have HB102 := ben HB101 hb
  clear hb hS101 HB101
  refine hK.out _ _ hS102 (fun _ => ?_)
  clear hK K
  refine tr 3 (fun K hK => ?_)
  go_simp
  refine (HSB.out _).mono ?_
  rintro e W103 ⟨rfl, hb⟩
  have hS103 := hS102.next hb
  have HB103 := ben HB102 hb
  clear hb hS102 HB102
  refine hK.out _ _ hS103 (fun _ => ?_)
  clear hK K
  refine tk 4 hS103 ?_
  go_simp
  refine tk 5 hS103 ?_
  go_simp
  refine wpAnyH_done (by kernel_rfl) ?_ _
  go_wp2_with fail
  go_ret
  exact ⟨by rw [HRES.out]; rfl, HB103.out⟩

theorem pCmp_neg (a b : FQ) (k m : Nat) (w : World) (ha : a.fits k) (hb : b.fits m) (k0 : 0 < k) (m0 : 0 < m) (hkm : k + m ≤ 99999) (hs : sgnR (fixR a) = sgnR (fixR b)) (hn : rneg (fixR a) = true) :
 Calls Tryz.prog 14 #[a.val, b.val] w fun e w' => e = .returned (.int .i64 (cmpR (fixR a) (fixR b))) ∧ Below w.heap.size w w' := by
 have HCA' := fun w => pClean_calls a k w ha (by omega)
 have HCB' := fun w => pClean_calls b m w hb (by omega)
 have HSA' := fun w => pSignOf_calls (fixR a) w
 have HSB' := fun w => pSignOf_calls (fixR b) w
 have za := fix_sz ha k0
 have zb := fix_sz hb m0
 obtain ⟨p, hp⟩ : ∃ p, p = fixR a := ⟨_, rfl⟩
 obtain ⟨q, hq⟩ : ∃ q, q = fixR b := ⟨_, rfl⟩
 rw [← hp] at HCA' HSA' za hs hn
 rw [← hq] at HCB' HSB' zb hs
 rw [← hp, ← hq]
 have hrn := sgn_rneg hs
 have hcs := cmpR_same hrn
 rw [hn] at hcs
 obtain ⟨xs, hxs⟩ : ∃ x, x = sgnR p := ⟨_, rfl⟩
 rw [← hs, ← hxs] at HSB'
 rw [← hxs] at HSA'
 clear hs hxs
 have t1 : (xs != xs) = false := by simp
 have HDA' := fun W => pDen_calls p W
 have HDB' := fun W => pDen_calls q W
 have HM1' := fun W => op_mul (Sm.of_num za (by omega)) (Sm.of_den zb (by omega)) rfl W
 have HM2' := fun W => op_mul (Sm.of_num zb (by omega)) (Sm.of_den za (by omega)) rfl W
 have HNC' := fun W => op_cmp (Sm.can (pow_mul_lt za.1 zb.2) (by omega)) (Sm.can (pow_mul_lt zb.1 za.2) (by omega)) rfl W
 obtain ⟨c, hc⟩ : ∃ c, c = cmpN (p.num.natAbs * q.den) (q.num.natAbs * p.den) := ⟨_, rfl⟩
 rw [← hc] at HNC' hcs
 have hcb : -1 ≤ c ∧ c ≤ 1 := by rw [hc]; unfold cmpN; (repeat' split) <;> omega
 have HRES : Hid (cmpR p q = -c) := hcs
 have hcw : IntKind.i64.wrap (-c) = -c := IntWalk.i64_in _ (by omega)
 obtain ⟨sA, hsA⟩ : ∃ x, x = ncan p.den := ⟨_, rfl⟩
 obtain ⟨sB, hsB⟩ : ∃ x, x = ncan q.den := ⟨_, rfl⟩
 obtain ⟨xx, hxx⟩ : ∃ x, x = ncan (p.num.natAbs * q.den) := ⟨_, rfl⟩
 obtain ⟨yy, hyy⟩ : ∃ x, x = ncan (q.num.natAbs * p.den) := ⟨_, rfl⟩
 rw [← hsA] at HDA' HM2'
 rw [← hsB] at HDB' HM1'
 rw [← hxx] at HM1' HNC'
 rw [← hyy] at HM2' HNC'
 clear hc hcs hsA hsB hxx hyy hcb
 obtain ⟨sa, hsa⟩ : ∃ x, x = rneg p := ⟨_, rfl⟩
 obtain ⟨na, hna⟩ : ∃ x, x = rnum p := ⟨_, rfl⟩
 obtain ⟨da, hda⟩ : ∃ x, x = rden p := ⟨_, rfl⟩
 obtain ⟨sb, hsb⟩ : ∃ x, x = rneg q := ⟨_, rfl⟩
 obtain ⟨nb, hnb⟩ : ∃ x, x = rnum q := ⟨_, rfl⟩
 obtain ⟨db, hdb⟩ : ∃ x, x = rden q := ⟨_, rfl⟩
 have hra : ratV p = .agg #[.bool sa, .string na, .string da] := by rw [ratV, hsa, hna, hda]
 have hrb : ratV q = .agg #[.bool sb, .string nb, .string db] := by rw [ratV, hsb, hnb, hdb]
 rw [hra] at HSA'
 rw [hrb] at HSB'
 rw [← hna] at HM1'
 rw [← hnb] at HM2'
 rw [hra] at HDA'
 rw [hrb] at HDB'
 rw [← hsa] at hn hrn
 rw [← hsb] at hrn
 subst hn
 have HDA := Lib.hid HDA'
 have HDB := Lib.hid HDB'
 have HM1 := Lib.hid HM1'
 have HM2 := Lib.hid HM2'
 have HNC := Lib.hid HNC'
 clear HDA' HDB' HM1' HM2' HNC' hrn
 obtain ⟨va, hva⟩ : ∃ v, v = ratV p := ⟨_, rfl⟩
 obtain ⟨vb, hvb⟩ : ∃ v, v = ratV q := ⟨_, rfl⟩
 rw [← hva] at HCA' hra
 rw [← hvb] at HCB' hrb
 have HVA := Lib.hid hra
 have HVB := Lib.hid hrb
 have HCA := Lib.hid HCA'
 have HCB := Lib.hid HCB'
 have HSA := Lib.hid HSA'
 have HSB := Lib.hid HSB'
 obtain ⟨an, as_, ad⟩ := a
 obtain ⟨bn, bs, bd⟩ := b
 unfold FQ.val at HCA HCB ⊢
 dsimp only at HCA HCB ⊢
 clear HCA' HCB' HSA' HSB' hp hq hva hvb hra hrb hsa hna hda hsb hnb hdb za zb ha hb k0 m0 hkm
 go_enter Tryz.func14, Tryz.ntmps14
 go_upto_region 1 with fail
 obtain ⟨W0, hW0⟩ : ∃ W0, W0 = ((w.alloc (.cells #[.bool an, .string as_, .string ad] 33)).alloc (.cells #[.bool bn, .string bs, .string bd] 33)) := ⟨_, rfl⟩
 have hR0 : TwoR w.heap.size (w.heap.size + 1) an as_ ad bn bs bd W0 := by
  rw [hW0]
  refine ⟨blk_alloc (blk_new _ _), ?_⟩
  have := blk_new (w.alloc (.cells #[.bool an, .string as_, .string ad] 33)) (.cells #[.bool bn, .string bs, .string bd] 33)
  rw [World.size_alloc] at this
  exact this
 have HB0 : Hid (Below w.heap.size w W0) := by rw [hW0]; exact (bel_alloc _ _).alloc (by simp) _
 rw [← hW0]
 clear hW0
 obtain ⟨W1, hW1⟩ : ∃ W, W = W0.drew := ⟨_, rfl⟩
 have hR1 : TwoR w.heap.size (w.heap.size + 1) an as_ ad bn bs bd W1 := by rw [hW1]; exact hR0
 have HB1 := bed HB0 hW1
 have hT : (fun _ : World => True) W1 := trivial
 refine wp_region_held_drew (S := fun _ => True) (by kernel_rfl) trivial ?_
 rw [← hW1]
 intro _
 clear hW1 hR0 HB0
 refine wpAnyH_ready (rs := [0, 2]) (by kernel_rfl) (by simp) ?_
 refine AllReadyH.cons rfl (fun K hK => ?_) (AllReadyH.cons rfl (fun K hK => ?_) AllReadyH.nil)
 ·
  obtain ⟨k0, k1, k2, k3, k4, k5⟩ := hR1.three
  go_simp
  clear k0 k1 k2 k3 k4 k5
  have hR1_0 := hR1
  have HB1_0 := HB1
  refine hK.out _ _ trivial (fun _ => ?_)
  clear hK K hR1 HB1
  refine wpAnyH_ready (rs := [1, 2]) (by kernel_rfl) (by simp) ?_
  refine AllReadyH.cons rfl (fun K hK => ?_) (AllReadyH.cons rfl (fun K hK => ?_) AllReadyH.nil)
  ·
   go_simp
   refine (HCA.out _).mono ?_
   rintro e W1_0_1 ⟨rfl, hb⟩
   have hR1_0_1 := hR1_0.next hb
   have HB1_0_1 := ben HB1_0 hb
   clear hb hR1_0 HB1_0
   refine hK.out _ _ trivial (fun _ => ?_)
   clear hK K
   refine tr 2 (fun K hK => ?_)
   obtain ⟨k0, k1, k2, k3, k4, k5⟩ := hR1_0_1.three
   go_simp
   clear k0 k1 k2 k3 k4 k5
   have hR1_0_1_2 := hR1_0_1
   have HB1_0_1_2 := HB1_0_1
   refine hK.out _ _ trivial (fun _ => ?_)
   clear hK K hR1_0_1 HB1_0_1
   refine tr 3 (fun K hK => ?_)
   go_simp
   refine (HCB.out _).mono ?_
   rintro e W1_0_1_2_3 ⟨rfl, hb⟩
   have hR1_0_1_2_3 := hR1_0_1_2.next hb
   have HB1_0_1_2_3 := ben HB1_0_1_2 hb
   clear hb hR1_0_1_2 HB1_0_1_2
   refine hK.out _ _ trivial (fun _ => ?_)
   clear hK K
   refine tr 4 (fun K hK => ?_)
   obtain ⟨c0, c1, c2, f0, f1, f2, hz⟩ := three_of hR1_0_1_2_3.1
   rw [HVA.out]
   go_simp
   have hR1_0_1_2_3_4 := hR1_0_1_2_3.setA (by omega) true na da
   have HB1_0_1_2_3_4 := Lib.hid (bel_set3 HB1_0_1_2_3.out w.heap.size (Nat.le_refl _) (.bool true) (.string na) (.string da))
   clear c0 c1 c2 f0 f1 f2 hz hR1_0_1_2_3 HB1_0_1_2_3
   refine hK.out _ _ trivial (fun _ => ?_)
   clear hK K
   refine tr 5 (fun K hK => ?_)
   obtain ⟨c0, c1, c2, f0, f1, f2, hz⟩ := three_of hR1_0_1_2_3_4.2
   rw [HVB.out]
   go_simp
   have hR1_0_1_2_3_4_5 := hR1_0_1_2_3_4.setB (by omega) sb nb db
   have HB1_0_1_2_3_4_5 := Lib.hid (bel_set3 HB1_0_1_2_3_4.out (w.heap.size + 1) (by omega) (.bool sb) (.string nb) (.string db))
   clear c0 c1 c2 f0 f1 f2 hz hR1_0_1_2_3_4 HB1_0_1_2_3_4
   refine hK.out _ _ trivial (fun _ => ?_)
   clear hK K
   refine wpAnyH_done (by kernel_rfl) ?_ _
   clear hT
   obtain ⟨W100, hW100⟩ : ∃ W, W = (((((W1_0_1_2_3.setCell ⟨w.heap.size, 0, none⟩ (.bool true)).setCell ⟨w.heap.size, 1, none⟩ (.string na)).setCell ⟨w.heap.size, 2, none⟩ (.string da)).setCell ⟨w.heap.size + 1, 0, none⟩ (.bool sb)).setCell ⟨w.heap.size + 1, 1, none⟩ (.string nb)).setCell ⟨w.heap.size + 1, 2, none⟩ (.string db) := ⟨_, rfl⟩
   have hS100 : TwoR w.heap.size (w.heap.size + 1) true na da sb nb db W100 := by rw [hW100]; exact hR1_0_1_2_3_4_5
   have HB100 : Hid (Below w.heap.size w W100) := by rw [hW100]; exact HB1_0_1_2_3_4_5.out
   rw [← hW100]
   clear hW100 hR1_0_1_2_3_4_5 HB1_0_1_2_3_4_5
   go_wp2_with fail
   obtain ⟨W101, hW101⟩ : ∃ W, W = W100.drew := ⟨_, rfl⟩
   have hS101 : TwoR w.heap.size (w.heap.size + 1) true na da sb nb db W101 := by rw [hW101]; exact hS100
   have HB101 := bed HB100 hW101
   refine wp_region_held_drew (S := TwoR w.heap.size (w.heap.size + 1) true na da sb nb db) (by kernel_rfl) (by rw [← hW101]; exact hS101) ?_
   rw [← hW101]
   intro _
   clear hW101 hS100 HB100
   refine tv 0 (.agg #[.bool true, .string na, .string da]) rfl (by intro w' hw'; obtain ⟨k0, k1, k2, k3, k4, k5⟩ := hw'.three; go_simp) hS101 ?_
   go_simp
   refine tv 2 (.agg #[.bool sb, .string nb, .string db]) rfl (by intro w' hw'; obtain ⟨k0, k1, k2, k3, k4, k5⟩ := hw'.three; go_simp) hS101 ?_
   go_simp
   refine tr 1 (fun K hK => ?_)
   go_simp
   refine (HSA.out _).mono ?_
   rintro e W102 ⟨rfl, hb⟩
   have hS102 := hS101.next hb
   have HB102 := ben HB101 hb
   clear hb hS101 HB101
   refine hK.out _ _ hS102 (fun _ => ?_)
   clear hK K
   refine tr 3 (fun K hK => ?_)
   go_simp
   refine (HSB.out _).mono ?_
   rintro e W103 ⟨rfl, hb⟩
   have hS103 := hS102.next hb
   have HB103 := ben HB102 hb
   clear hb hS102 HB102
   refine hK.out _ _ hS103 (fun _ => ?_)
   clear hK K
   refine tk 4 hS103 ?_
   go_simp
   refine tk 5 hS103 ?_
   go_simp
   refine wpAnyH_done (by kernel_rfl) ?_ _
   go_wp2_with fail
   obtain ⟨W104, hW104⟩ : ∃ W, W = W103.drew := ⟨_, rfl⟩
   have hS104 : TwoR w.heap.size (w.heap.size + 1) true na da sb nb db W104 := by rw [hW104]; exact hS103
   have HB104 := bed HB103 hW104
   refine wp_region_held_drew (S := TwoR w.heap.size (w.heap.size + 1) true na da sb nb db) (by kernel_rfl) (by rw [← hW104]; exact hS104) ?_
   rw [← hW104]
   intro _
   clear hW104 hS103 HB103
   refine tk 0 hS104 ?_
   go_simp
   refine tv 1 (.string na) rfl (by intro w' hw'; obtain ⟨k0, k1, k2, k3, k4, k5⟩ := hw'.three; go_simp) hS104 ?_
   go_simp
   refine tv 2 (.agg #[.bool sb, .string nb, .string db]) rfl (by intro w' hw'; obtain ⟨k0, k1, k2, k3, k4, k5⟩ := hw'.three; go_simp) hS104 ?_
   go_simp
   refine tk 5 hS104 ?_
   go_simp
   refine tv 6 (.string nb) rfl (by intro w' hw'; obtain ⟨k0, k1, k2, k3, k4, k5⟩ := hw'.three; go_simp) hS104 ?_
   go_simp
   refine tv 7 (.agg #[.bool true, .string na, .string da]) rfl (by intro w' hw'; obtain ⟨k0, k1, k2, k3, k4, k5⟩ := hw'.three; go_simp) hS104 ?_
   go_simp
   refine tr 3 (fun K hK => ?_)
   go_simp
   refine (HDB.out _).mono ?_
   rintro e W105 ⟨rfl, hb⟩
   have hS105 := hS104.next hb
   have HB105 := ben HB104 hb
   clear hb hS104 HB104
   refine hK.out _ _ hS105 (fun _ => ?_)
   clear hK K
   refine tr 4 (fun K hK => ?_)
   go_simp
   refine (HM1.out _).mono ?_
   rintro e W106 ⟨rfl, hb⟩
   have hS106 := hS105.next hb
   have HB106 := ben HB105 hb
   clear hb hS105 HB105
   refine hK.out _ _ hS106 (fun _ => ?_)
   clear hK K
   refine tr 8 (fun K hK => ?_)
   go_simp
   refine (HDA.out _).mono ?_
   rintro e W107 ⟨rfl, hb⟩
   have hS107 := hS106.next hb
   have HB107 := ben HB106 hb
   clear hb hS106 HB106
   refine hK.out _ _ hS107 (fun _ => ?_)
   clear hK K
   refine tr 9 (fun K hK => ?_)
   go_simp
   refine (HM2.out _).mono ?_
   rintro e W108 ⟨rfl, hb⟩
   have hS108 := hS107.next hb
   have HB108 := ben HB107 hb
   clear hb hS107 HB107
   refine hK.out _ _ hS108 (fun _ => ?_)
   clear hK K
   refine tr 10 (fun K hK => ?_)
   go_simp
   refine (HNC.out _).mono ?_
   rintro e wy ⟨rfl, rfl⟩
   refine hK.out _ _ hS108 (fun _ => ?_)
   clear hK K
   refine tk 11 hS108 ?_
   go_simp
   refine wpAnyH_done (by kernel_rfl) ?_ _
   obtain ⟨k0, k1, k2, k3, k4, k5⟩ := hS108.three
   go_wp2_with fail
   go_ret
   exact ⟨by rw [HRES.out]; rfl, HB108.out⟩
  ·
   obtain ⟨k0, k1, k2, k3, k4, k5⟩ := hR1_0.three
   go_simp
   clear k0 k1 k2 k3 k4 k5
   have hR1_0_2 := hR1_0
   have HB1_0_2 := HB1_0
   refine hK.out _ _ trivial (fun _ => ?_)
   clear hK K hR1_0 HB1_0
   refine tr 1 (fun K hK => ?_)
   go_simp
   refine (HCA.out _).mono ?_
   rintro e W1_0_2_1 ⟨rfl, hb⟩
   have hR1_0_2_1 := hR1_0_2.next hb
   have HB1_0_2_1 := ben HB1_0_2 hb
   clear hb hR1_0_2 HB1_0_2
   refine hK.out _ _ trivial (fun _ => ?_)
   clear hK K
   refine tr 3 (fun K hK => ?_)
   go_simp
   refine (HCB.out _).mono ?_
   rintro e W1_0_2_1_3 ⟨rfl, hb⟩
   have hR1_0_2_1_3 := hR1_0_2_1.next hb
   have HB1_0_2_1_3 := ben HB1_0_2_1 hb
   clear hb hR1_0_2_1 HB1_0_2_1
   refine hK.out _ _ trivial (fun _ => ?_)
   clear hK K
   refine tr 4 (fun K hK => ?_)
   obtain ⟨c0, c1, c2, f0, f1, f2, hz⟩ := three_of hR1_0_2_1_3.1
   rw [HVA.out]
   go_simp
   have hR1_0_2_1_3_4 := hR1_0_2_1_3.setA (by omega) true na da
   have HB1_0_2_1_3_4 := Lib.hid (bel_set3 HB1_0_2_1_3.out w.heap.size (Nat.le_refl _) (.bool true) (.string na) (.string da))
   clear c0 c1 c2 f0 f1 f2 hz hR1_0_2_1_3 HB1_0_2_1_3
   refine hK.out _ _ trivial (fun _ => ?_)
   clear hK K
   refine tr 5 (fun K hK => ?_)
   obtain ⟨c0, c1, c2, f0, f1, f2, hz⟩ := three_of hR1_0_2_1_3_4.2
   rw [HVB.out]
   go_simp
   have hR1_0_2_1_3_4_5 := hR1_0_2_1_3_4.setB (by omega) sb nb db
   have HB1_0_2_1_3_4_5 := Lib.hid (bel_set3 HB1_0_2_1_3_4.out (w.heap.size + 1) (by omega) (.bool sb) (.string nb) (.string db))
   clear c0 c1 c2 f0 f1 f2 hz hR1_0_2_1_3_4 HB1_0_2_1_3_4
   refine hK.out _ _ trivial (fun _ => ?_)
   clear hK K
   refine wpAnyH_done (by kernel_rfl) ?_ _
   clear hT
   obtain ⟨W100, hW100⟩ : ∃ W, W = (((((W1_0_2_1_3.setCell ⟨w.heap.size, 0, none⟩ (.bool true)).setCell ⟨w.heap.size, 1, none⟩ (.string na)).setCell ⟨w.heap.size, 2, none⟩ (.string da)).setCell ⟨w.heap.size + 1, 0, none⟩ (.bool sb)).setCell ⟨w.heap.size + 1, 1, none⟩ (.string nb)).setCell ⟨w.heap.size + 1, 2, none⟩ (.string db) := ⟨_, rfl⟩
   have hS100 : TwoR w.heap.size (w.heap.size + 1) true na da sb nb db W100 := by rw [hW100]; exact hR1_0_2_1_3_4_5
   have HB100 : Hid (Below w.heap.size w W100) := by rw [hW100]; exact HB1_0_2_1_3_4_5.out
   rw [← hW100]
   clear hW100 hR1_0_2_1_3_4_5 HB1_0_2_1_3_4_5
   go_wp2_with fail
   obtain ⟨W101, hW101⟩ : ∃ W, W = W100.drew := ⟨_, rfl⟩
   have hS101 : TwoR w.heap.size (w.heap.size + 1) true na da sb nb db W101 := by rw [hW101]; exact hS100
   have HB101 := bed HB100 hW101
   refine wp_region_held_drew (S := TwoR w.heap.size (w.heap.size + 1) true na da sb nb db) (by kernel_rfl) (by rw [← hW101]; exact hS101) ?_
   rw [← hW101]
   intro _
   clear hW101 hS100 HB100
   refine tv 0 (.agg #[.bool true, .string na, .string da]) rfl (by intro w' hw'; obtain ⟨k0, k1, k2, k3, k4, k5⟩ := hw'.three; go_simp) hS101 ?_
   go_simp
   refine tv 2 (.agg #[.bool sb, .string nb, .string db]) rfl (by intro w' hw'; obtain ⟨k0, k1, k2, k3, k4, k5⟩ := hw'.three; go_simp) hS101 ?_
   go_simp
   refine tr 1 (fun K hK => ?_)
   go_simp
   refine (HSA.out _).mono ?_
   rintro e W102 ⟨rfl, hb⟩
   have hS102 := hS101.next hb
   have HB102 := ben HB101 hb
   clear hb hS101 HB101
   refine hK.out _ _ hS102 (fun _ => ?_)
   clear hK K
   refine tr 3 (fun K hK => ?_)
   go_simp
   refine (HSB.out _).mono ?_
   rintro e W103 ⟨rfl, hb⟩
   have hS103 := hS102.next hb
   have HB103 := ben HB102 hb
   clear hb hS102 HB102
   refine hK.out _ _ hS103 (fun _ => ?_)
   clear hK K
   refine tk 4 hS103 ?_
   go_simp
   refine tk 5 hS103 ?_
   go_simp
   refine wpAnyH_done (by kernel_rfl) ?_ _
   go_wp2_with fail
   obtain ⟨W104, hW104⟩ : ∃ W, W = W103.drew := ⟨_, rfl⟩
   have hS104 : TwoR w.heap.size (w.heap.size + 1) true na da sb nb db W104 := by rw [hW104]; exact hS103
   have HB104 := bed HB103 hW104
   refine wp_region_held_drew (S := TwoR w.heap.size (w.heap.size + 1) true na da sb nb db) (by kernel_rfl) (by rw [← hW104]; exact hS104) ?_
   rw [← hW104]
   intro _
   clear hW104 hS103 HB103
   refine tk 0 hS104 ?_
   go_simp
   refine tv 1 (.string na) rfl (by intro w' hw'; obtain ⟨k0, k1, k2, k3, k4, k5⟩ := hw'.three; go_simp) hS104 ?_
   go_simp
   refine tv 2 (.agg #[.bool sb, .string nb, .string db]) rfl (by intro w' hw'; obtain ⟨k0, k1, k2, k3, k4, k5⟩ := hw'.three; go_simp) hS104 ?_
   go_simp
   refine tk 5 hS104 ?_
   go_simp
   refine tv 6 (.string nb) rfl (by intro w' hw'; obtain ⟨k0, k1, k2, k3, k4, k5⟩ := hw'.three; go_simp) hS104 ?_
   go_simp
   refine tv 7 (.agg #[.bool true, .string na, .string da]) rfl (by intro w' hw'; obtain ⟨k0, k1, k2, k3, k4, k5⟩ := hw'.three; go_simp) hS104 ?_
   go_simp
   refine tr 3 (fun K hK => ?_)
   go_simp
   refine (HDB.out _).mono ?_
   rintro e W105 ⟨rfl, hb⟩
   have hS105 := hS104.next hb
   have HB105 := ben HB104 hb
   clear hb hS104 HB104
   refine hK.out _ _ hS105 (fun _ => ?_)
   clear hK K
   refine tr 4 (fun K hK => ?_)
   go_simp
   refine (HM1.out _).mono ?_
   rintro e W106 ⟨rfl, hb⟩
   have hS106 := hS105.next hb
   have HB106 := ben HB105 hb
   clear hb hS105 HB105
   refine hK.out _ _ hS106 (fun _ => ?_)
   clear hK K
   refine tr 8 (fun K hK => ?_)
   go_simp
   refine (HDA.out _).mono ?_
   rintro e W107 ⟨rfl, hb⟩
   have hS107 := hS106.next hb
   have HB107 := ben HB106 hb
   clear hb hS106 HB106
   refine hK.out _ _ hS107 (fun _ => ?_)
   clear hK K
   refine tr 9 (fun K hK => ?_)
   go_simp
   refine (HM2.out _).mono ?_
   rintro e W108 ⟨rfl, hb⟩
   have hS108 := hS107.next hb
   have HB108 := ben HB107 hb
   clear hb hS107 HB107
   refine hK.out _ _ hS108 (fun _ => ?_)
   clear hK K
   refine tr 10 (fun K hK => ?_)
   go_simp
   refine (HNC.out _).mono ?_
   rintro e wy ⟨rfl, rfl⟩
   refine hK.out _ _ hS108 (fun _ => ?_)
   clear hK K
   refine tk 11 hS108 ?_
   go_simp
   refine wpAnyH_done (by kernel_rfl) ?_ _
   obtain ⟨k0, k1, k2, k3, k4, k5⟩ := hS108.three
   go_wp2_with fail
   go_ret
   exact ⟨by rw [HRES.out]; rfl, HB108.out⟩
 ·
  obtain ⟨k0, k1, k2, k3, k4, k5⟩ := hR1.three
  go_simp
  clear k0 k1 k2 k3 k4 k5
  have hR1_2 := hR1
  have HB1_2 := HB1
  refine hK.out _ _ trivial (fun _ => ?_)
  clear hK K hR1 HB1
  refine tr 0 (fun K hK => ?_)
  obtain ⟨k0, k1, k2, k3, k4, k5⟩ := hR1_2.three
  go_simp
  clear k0 k1 k2 k3 k4 k5
  have hR1_2_0 := hR1_2
  have HB1_2_0 := HB1_2
  refine hK.out _ _ trivial (fun _ => ?_)
  clear hK K hR1_2 HB1_2
  refine tr 1 (fun K hK => ?_)
  go_simp
  refine (HCA.out _).mono ?_
  rintro e W1_2_0_1 ⟨rfl, hb⟩
  have hR1_2_0_1 := hR1_2_0.next hb
  have HB1_2_0_1 := ben HB1_2_0 hb
  clear hb hR1_2_0 HB1_2_0
  refine hK.out _ _ trivial (fun _ => ?_)
  clear hK K
  refine tr 3 (fun K hK => ?_)
  go_simp
  refine (HCB.out _).mono ?_
  rintro e W1_2_0_1_3 ⟨rfl, hb⟩
  have hR1_2_0_1_3 := hR1_2_0_1.next hb
  have HB1_2_0_1_3 := ben HB1_2_0_1 hb
  clear hb hR1_2_0_1 HB1_2_0_1
  refine hK.out _ _ trivial (fun _ => ?_)
  clear hK K
  refine tr 4 (fun K hK => ?_)
  obtain ⟨c0, c1, c2, f0, f1, f2, hz⟩ := three_of hR1_2_0_1_3.1
  rw [HVA.out]
  go_simp
  have hR1_2_0_1_3_4 := hR1_2_0_1_3.setA (by omega) true na da
  have HB1_2_0_1_3_4 := Lib.hid (bel_set3 HB1_2_0_1_3.out w.heap.size (Nat.le_refl _) (.bool true) (.string na) (.string da))
  clear c0 c1 c2 f0 f1 f2 hz hR1_2_0_1_3 HB1_2_0_1_3
  refine hK.out _ _ trivial (fun _ => ?_)
  clear hK K
  refine tr 5 (fun K hK => ?_)
  obtain ⟨c0, c1, c2, f0, f1, f2, hz⟩ := three_of hR1_2_0_1_3_4.2
  rw [HVB.out]
  go_simp
  have hR1_2_0_1_3_4_5 := hR1_2_0_1_3_4.setB (by omega) sb nb db
  have HB1_2_0_1_3_4_5 := Lib.hid (bel_set3 HB1_2_0_1_3_4.out (w.heap.size + 1) (by omega) (.bool sb) (.string nb) (.string db))
  clear c0 c1 c2 f0 f1 f2 hz hR1_2_0_1_3_4 HB1_2_0_1_3_4
  refine hK.out _ _ trivial (fun _ => ?_)
  clear hK K
  refine wpAnyH_done (by kernel_rfl) ?_ _
  clear hT
  obtain ⟨W100, hW100⟩ : ∃ W, W = (((((W1_2_0_1_3.setCell ⟨w.heap.size, 0, none⟩ (.bool true)).setCell ⟨w.heap.size, 1, none⟩ (.string na)).setCell ⟨w.heap.size, 2, none⟩ (.string da)).setCell ⟨w.heap.size + 1, 0, none⟩ (.bool sb)).setCell ⟨w.heap.size + 1, 1, none⟩ (.string nb)).setCell ⟨w.heap.size + 1, 2, none⟩ (.string db) := ⟨_, rfl⟩
  have hS100 : TwoR w.heap.size (w.heap.size + 1) true na da sb nb db W100 := by rw [hW100]; exact hR1_2_0_1_3_4_5
  have HB100 : Hid (Below w.heap.size w W100) := by rw [hW100]; exact HB1_2_0_1_3_4_5.out
  rw [← hW100]
  clear hW100 hR1_2_0_1_3_4_5 HB1_2_0_1_3_4_5
  go_wp2_with fail
  obtain ⟨W101, hW101⟩ : ∃ W, W = W100.drew := ⟨_, rfl⟩
  have hS101 : TwoR w.heap.size (w.heap.size + 1) true na da sb nb db W101 := by rw [hW101]; exact hS100
  have HB101 := bed HB100 hW101
  refine wp_region_held_drew (S := TwoR w.heap.size (w.heap.size + 1) true na da sb nb db) (by kernel_rfl) (by rw [← hW101]; exact hS101) ?_
  rw [← hW101]
  intro _
  clear hW101 hS100 HB100
  refine tv 0 (.agg #[.bool true, .string na, .string da]) rfl (by intro w' hw'; obtain ⟨k0, k1, k2, k3, k4, k5⟩ := hw'.three; go_simp) hS101 ?_
  go_simp
  refine tv 2 (.agg #[.bool sb, .string nb, .string db]) rfl (by intro w' hw'; obtain ⟨k0, k1, k2, k3, k4, k5⟩ := hw'.three; go_simp) hS101 ?_
  go_simp
  refine tr 1 (fun K hK => ?_)
  go_simp
  refine (HSA.out _).mono ?_
  rintro e W102 ⟨rfl, hb⟩
  have hS102 := hS101.next hb
  have HB102 := ben HB101 hb
  clear hb hS101 HB101
  refine hK.out _ _ hS102 (fun _ => ?_)
  clear hK K
  refine tr 3 (fun K hK => ?_)
  go_simp
  refine (HSB.out _).mono ?_
  rintro e W103 ⟨rfl, hb⟩
  have hS103 := hS102.next hb
  have HB103 := ben HB102 hb
  clear hb hS102 HB102
  refine hK.out _ _ hS103 (fun _ => ?_)
  clear hK K
  refine tk 4 hS103 ?_
  go_simp
  refine tk 5 hS103 ?_
  go_simp
  refine wpAnyH_done (by kernel_rfl) ?_ _
  go_wp2_with fail
  obtain ⟨W104, hW104⟩ : ∃ W, W = W103.drew := ⟨_, rfl⟩
  have hS104 : TwoR w.heap.size (w.heap.size + 1) true na da sb nb db W104 := by rw [hW104]; exact hS103
  have HB104 := bed HB103 hW104
  refine wp_region_held_drew (S := TwoR w.heap.size (w.heap.size + 1) true na da sb nb db) (by kernel_rfl) (by rw [← hW104]; exact hS104) ?_
  rw [← hW104]
  intro _
  clear hW104 hS103 HB103
  refine tk 0 hS104 ?_
  go_simp
  refine tv 1 (.string na) rfl (by intro w' hw'; obtain ⟨k0, k1, k2, k3, k4, k5⟩ := hw'.three; go_simp) hS104 ?_
  go_simp
  refine tv 2 (.agg #[.bool sb, .string nb, .string db]) rfl (by intro w' hw'; obtain ⟨k0, k1, k2, k3, k4, k5⟩ := hw'.three; go_simp) hS104 ?_
  go_simp
  refine tk 5 hS104 ?_
  go_simp
  refine tv 6 (.string nb) rfl (by intro w' hw'; obtain ⟨k0, k1, k2, k3, k4, k5⟩ := hw'.three; go_simp) hS104 ?_
  go_simp
  refine tv 7 (.agg #[.bool true, .string na, .string da]) rfl (by intro w' hw'; obtain ⟨k0, k1, k2, k3, k4, k5⟩ := hw'.three; go_simp) hS104 ?_
  go_simp
  refine tr 3 (fun K hK => ?_)
  go_simp
  refine (HDB.out _).mono ?_
  rintro e W105 ⟨rfl, hb⟩
  have hS105 := hS104.next hb
  have HB105 := ben HB104 hb
  clear hb hS104 HB104
  refine hK.out _ _ hS105 (fun _ => ?_)
  clear hK K
  refine tr 4 (fun K hK => ?_)
  go_simp
  refine (HM1.out _).mono ?_
  rintro e W106 ⟨rfl, hb⟩
  have hS106 := hS105.next hb
  have HB106 := ben HB105 hb
  clear hb hS105 HB105
  refine hK.out _ _ hS106 (fun _ => ?_)
  clear hK K
  refine tr 8 (fun K hK => ?_)
  go_simp
  refine (HDA.out _).mono ?_
  rintro e W107 ⟨rfl, hb⟩
  have hS107 := hS106.next hb
  have HB107 := ben HB106 hb
  clear hb hS106 HB106
  refine hK.out _ _ hS107 (fun _ => ?_)
  clear hK K
  refine tr 9 (fun K hK => ?_)
  go_simp
  refine (HM2.out _).mono ?_
  rintro e W108 ⟨rfl, hb⟩
  have hS108 := hS107.next hb
  have HB108 := ben HB107 hb
  clear hb hS107 HB107
  refine hK.out _ _ hS108 (fun _ => ?_)
  clear hK K
  refine tr 10 (fun K hK => ?_)
  go_simp
  refine (HNC.out _).mono ?_
  rintro e wy ⟨rfl, rfl⟩
  refine hK.out _ _ hS108 (fun _ => ?_)
  clear hK K
  refine tk 11 hS108 ?_
  go_simp
  refine wpAnyH_done (by kernel_rfl) ?_ _
  obtain ⟨k0, k1, k2, k3, k4, k5⟩ := hS108.three
  go_wp2_with fail
  go_ret
  exact ⟨by rw [HRES.out]; rfl, HB108.out⟩

theorem pCmp_pos (a b : FQ) (k m : Nat) (w : World) (ha : a.fits k) (hb : b.fits m) (k0 : 0 < k) (m0 : 0 < m) (hkm : k + m ≤ 99999) (hs : sgnR (fixR a) = sgnR (fixR b)) (hn : rneg (fixR a) = false) :
 Calls Tryz.prog 14 #[a.val, b.val] w fun e w' => e = .returned (.int .i64 (cmpR (fixR a) (fixR b))) ∧ Below w.heap.size w w' := by
 have HCA' := fun w => pClean_calls a k w ha (by omega)
 have HCB' := fun w => pClean_calls b m w hb (by omega)
 have HSA' := fun w => pSignOf_calls (fixR a) w
 have HSB' := fun w => pSignOf_calls (fixR b) w
 have za := fix_sz ha k0
 have zb := fix_sz hb m0
 obtain ⟨p, hp⟩ : ∃ p, p = fixR a := ⟨_, rfl⟩
 obtain ⟨q, hq⟩ : ∃ q, q = fixR b := ⟨_, rfl⟩
 rw [← hp] at HCA' HSA' za hs hn
 rw [← hq] at HCB' HSB' zb hs
 rw [← hp, ← hq]
 have hrn := sgn_rneg hs
 have hcs := cmpR_same hrn
 rw [hn] at hcs
 obtain ⟨xs, hxs⟩ : ∃ x, x = sgnR p := ⟨_, rfl⟩
 rw [← hs, ← hxs] at HSB'
 rw [← hxs] at HSA'
 clear hs hxs
 have t1 : (xs != xs) = false := by simp
 have HDA' := fun W => pDen_calls p W
 have HDB' := fun W => pDen_calls q W
 have HM1' := fun W => op_mul (Sm.of_num za (by omega)) (Sm.of_den zb (by omega)) rfl W
 have HM2' := fun W => op_mul (Sm.of_num zb (by omega)) (Sm.of_den za (by omega)) rfl W
 have HNC' := fun W => op_cmp (Sm.can (pow_mul_lt za.1 zb.2) (by omega)) (Sm.can (pow_mul_lt zb.1 za.2) (by omega)) rfl W
 obtain ⟨c, hc⟩ : ∃ c, c = cmpN (p.num.natAbs * q.den) (q.num.natAbs * p.den) := ⟨_, rfl⟩
 rw [← hc] at HNC' hcs
 have hcb : -1 ≤ c ∧ c ≤ 1 := by rw [hc]; unfold cmpN; (repeat' split) <;> omega
 have HRES : Hid (cmpR p q = c) := hcs
 have hcw : IntKind.i64.wrap (-c) = -c := IntWalk.i64_in _ (by omega)
 obtain ⟨sA, hsA⟩ : ∃ x, x = ncan p.den := ⟨_, rfl⟩
 obtain ⟨sB, hsB⟩ : ∃ x, x = ncan q.den := ⟨_, rfl⟩
 obtain ⟨xx, hxx⟩ : ∃ x, x = ncan (p.num.natAbs * q.den) := ⟨_, rfl⟩
 obtain ⟨yy, hyy⟩ : ∃ x, x = ncan (q.num.natAbs * p.den) := ⟨_, rfl⟩
 rw [← hsA] at HDA' HM2'
 rw [← hsB] at HDB' HM1'
 rw [← hxx] at HM1' HNC'
 rw [← hyy] at HM2' HNC'
 clear hc hcs hsA hsB hxx hyy hcb
 obtain ⟨sa, hsa⟩ : ∃ x, x = rneg p := ⟨_, rfl⟩
 obtain ⟨na, hna⟩ : ∃ x, x = rnum p := ⟨_, rfl⟩
 obtain ⟨da, hda⟩ : ∃ x, x = rden p := ⟨_, rfl⟩
 obtain ⟨sb, hsb⟩ : ∃ x, x = rneg q := ⟨_, rfl⟩
 obtain ⟨nb, hnb⟩ : ∃ x, x = rnum q := ⟨_, rfl⟩
 obtain ⟨db, hdb⟩ : ∃ x, x = rden q := ⟨_, rfl⟩
 have hra : ratV p = .agg #[.bool sa, .string na, .string da] := by rw [ratV, hsa, hna, hda]
 have hrb : ratV q = .agg #[.bool sb, .string nb, .string db] := by rw [ratV, hsb, hnb, hdb]
 rw [hra] at HSA'
 rw [hrb] at HSB'
 rw [← hna] at HM1'
 rw [← hnb] at HM2'
 rw [hra] at HDA'
 rw [hrb] at HDB'
 rw [← hsa] at hn hrn
 rw [← hsb] at hrn
 subst hn
 have HDA := Lib.hid HDA'
 have HDB := Lib.hid HDB'
 have HM1 := Lib.hid HM1'
 have HM2 := Lib.hid HM2'
 have HNC := Lib.hid HNC'
 clear HDA' HDB' HM1' HM2' HNC' hrn
 obtain ⟨va, hva⟩ : ∃ v, v = ratV p := ⟨_, rfl⟩
 obtain ⟨vb, hvb⟩ : ∃ v, v = ratV q := ⟨_, rfl⟩
 rw [← hva] at HCA' hra
 rw [← hvb] at HCB' hrb
 have HVA := Lib.hid hra
 have HVB := Lib.hid hrb
 have HCA := Lib.hid HCA'
 have HCB := Lib.hid HCB'
 have HSA := Lib.hid HSA'
 have HSB := Lib.hid HSB'
 obtain ⟨an, as_, ad⟩ := a
 obtain ⟨bn, bs, bd⟩ := b
 unfold FQ.val at HCA HCB ⊢
 dsimp only at HCA HCB ⊢
 clear HCA' HCB' HSA' HSB' hp hq hva hvb hra hrb hsa hna hda hsb hnb hdb za zb ha hb k0 m0 hkm
 go_enter Tryz.func14, Tryz.ntmps14
 go_upto_region 1 with fail
 obtain ⟨W0, hW0⟩ : ∃ W0, W0 = ((w.alloc (.cells #[.bool an, .string as_, .string ad] 33)).alloc (.cells #[.bool bn, .string bs, .string bd] 33)) := ⟨_, rfl⟩
 have hR0 : TwoR w.heap.size (w.heap.size + 1) an as_ ad bn bs bd W0 := by
  rw [hW0]
  refine ⟨blk_alloc (blk_new _ _), ?_⟩
  have := blk_new (w.alloc (.cells #[.bool an, .string as_, .string ad] 33)) (.cells #[.bool bn, .string bs, .string bd] 33)
  rw [World.size_alloc] at this
  exact this
 have HB0 : Hid (Below w.heap.size w W0) := by rw [hW0]; exact (bel_alloc _ _).alloc (by simp) _
 rw [← hW0]
 clear hW0
 obtain ⟨W1, hW1⟩ : ∃ W, W = W0.drew := ⟨_, rfl⟩
 have hR1 : TwoR w.heap.size (w.heap.size + 1) an as_ ad bn bs bd W1 := by rw [hW1]; exact hR0
 have HB1 := bed HB0 hW1
 have hT : (fun _ : World => True) W1 := trivial
 refine wp_region_held_drew (S := fun _ => True) (by kernel_rfl) trivial ?_
 rw [← hW1]
 intro _
 clear hW1 hR0 HB0
 refine wpAnyH_ready (rs := [0, 2]) (by kernel_rfl) (by simp) ?_
 refine AllReadyH.cons rfl (fun K hK => ?_) (AllReadyH.cons rfl (fun K hK => ?_) AllReadyH.nil)
 ·
  obtain ⟨k0, k1, k2, k3, k4, k5⟩ := hR1.three
  go_simp
  clear k0 k1 k2 k3 k4 k5
  have hR1_0 := hR1
  have HB1_0 := HB1
  refine hK.out _ _ trivial (fun _ => ?_)
  clear hK K hR1 HB1
  refine wpAnyH_ready (rs := [1, 2]) (by kernel_rfl) (by simp) ?_
  refine AllReadyH.cons rfl (fun K hK => ?_) (AllReadyH.cons rfl (fun K hK => ?_) AllReadyH.nil)
  ·
   go_simp
   refine (HCA.out _).mono ?_
   rintro e W1_0_1 ⟨rfl, hb⟩
   have hR1_0_1 := hR1_0.next hb
   have HB1_0_1 := ben HB1_0 hb
   clear hb hR1_0 HB1_0
   refine hK.out _ _ trivial (fun _ => ?_)
   clear hK K
   refine tr 2 (fun K hK => ?_)
   obtain ⟨k0, k1, k2, k3, k4, k5⟩ := hR1_0_1.three
   go_simp
   clear k0 k1 k2 k3 k4 k5
   have hR1_0_1_2 := hR1_0_1
   have HB1_0_1_2 := HB1_0_1
   refine hK.out _ _ trivial (fun _ => ?_)
   clear hK K hR1_0_1 HB1_0_1
   refine tr 3 (fun K hK => ?_)
   go_simp
   refine (HCB.out _).mono ?_
   rintro e W1_0_1_2_3 ⟨rfl, hb⟩
   have hR1_0_1_2_3 := hR1_0_1_2.next hb
   have HB1_0_1_2_3 := ben HB1_0_1_2 hb
   clear hb hR1_0_1_2 HB1_0_1_2
   refine hK.out _ _ trivial (fun _ => ?_)
   clear hK K
   refine tr 4 (fun K hK => ?_)
   obtain ⟨c0, c1, c2, f0, f1, f2, hz⟩ := three_of hR1_0_1_2_3.1
   rw [HVA.out]
   go_simp
   have hR1_0_1_2_3_4 := hR1_0_1_2_3.setA (by omega) false na da
   have HB1_0_1_2_3_4 := Lib.hid (bel_set3 HB1_0_1_2_3.out w.heap.size (Nat.le_refl _) (.bool false) (.string na) (.string da))
   clear c0 c1 c2 f0 f1 f2 hz hR1_0_1_2_3 HB1_0_1_2_3
   refine hK.out _ _ trivial (fun _ => ?_)
   clear hK K
   refine tr 5 (fun K hK => ?_)
   obtain ⟨c0, c1, c2, f0, f1, f2, hz⟩ := three_of hR1_0_1_2_3_4.2
   rw [HVB.out]
   go_simp
   have hR1_0_1_2_3_4_5 := hR1_0_1_2_3_4.setB (by omega) sb nb db
   have HB1_0_1_2_3_4_5 := Lib.hid (bel_set3 HB1_0_1_2_3_4.out (w.heap.size + 1) (by omega) (.bool sb) (.string nb) (.string db))
   clear c0 c1 c2 f0 f1 f2 hz hR1_0_1_2_3_4 HB1_0_1_2_3_4
   refine hK.out _ _ trivial (fun _ => ?_)
   clear hK K
   refine wpAnyH_done (by kernel_rfl) ?_ _
   clear hT
   obtain ⟨W100, hW100⟩ : ∃ W, W = (((((W1_0_1_2_3.setCell ⟨w.heap.size, 0, none⟩ (.bool false)).setCell ⟨w.heap.size, 1, none⟩ (.string na)).setCell ⟨w.heap.size, 2, none⟩ (.string da)).setCell ⟨w.heap.size + 1, 0, none⟩ (.bool sb)).setCell ⟨w.heap.size + 1, 1, none⟩ (.string nb)).setCell ⟨w.heap.size + 1, 2, none⟩ (.string db) := ⟨_, rfl⟩
   have hS100 : TwoR w.heap.size (w.heap.size + 1) false na da sb nb db W100 := by rw [hW100]; exact hR1_0_1_2_3_4_5
   have HB100 : Hid (Below w.heap.size w W100) := by rw [hW100]; exact HB1_0_1_2_3_4_5.out
   rw [← hW100]
   clear hW100 hR1_0_1_2_3_4_5 HB1_0_1_2_3_4_5
   go_wp2_with fail
   obtain ⟨W101, hW101⟩ : ∃ W, W = W100.drew := ⟨_, rfl⟩
   have hS101 : TwoR w.heap.size (w.heap.size + 1) false na da sb nb db W101 := by rw [hW101]; exact hS100
   have HB101 := bed HB100 hW101
   refine wp_region_held_drew (S := TwoR w.heap.size (w.heap.size + 1) false na da sb nb db) (by kernel_rfl) (by rw [← hW101]; exact hS101) ?_
   rw [← hW101]
   intro _
   clear hW101 hS100 HB100
   refine tv 0 (.agg #[.bool false, .string na, .string da]) rfl (by intro w' hw'; obtain ⟨k0, k1, k2, k3, k4, k5⟩ := hw'.three; go_simp) hS101 ?_
   go_simp
   refine tv 2 (.agg #[.bool sb, .string nb, .string db]) rfl (by intro w' hw'; obtain ⟨k0, k1, k2, k3, k4, k5⟩ := hw'.three; go_simp) hS101 ?_
   go_simp
   refine tr 1 (fun K hK => ?_)
   go_simp
   refine (HSA.out _).mono ?_
   rintro e W102 ⟨rfl, hb⟩
   have hS102 := hS101.next hb
   have HB102 := ben HB101 hb
   clear hb hS101 HB101
   refine hK.out _ _ hS102 (fun _ => ?_)
   clear hK K
   refine tr 3 (fun K hK => ?_)
   go_simp
   refine (HSB.out _).mono ?_
   rintro e W103 ⟨rfl, hb⟩
   have hS103 := hS102.next hb
   have HB103 := ben HB102 hb
   clear hb hS102 HB102
   refine hK.out _ _ hS103 (fun _ => ?_)
   clear hK K
   refine tk 4 hS103 ?_
   go_simp
   refine tk 5 hS103 ?_
   go_simp
   refine wpAnyH_done (by kernel_rfl) ?_ _
   go_wp2_with fail
   obtain ⟨W104, hW104⟩ : ∃ W, W = W103.drew := ⟨_, rfl⟩
   have hS104 : TwoR w.heap.size (w.heap.size + 1) false na da sb nb db W104 := by rw [hW104]; exact hS103
   have HB104 := bed HB103 hW104
   refine wp_region_held_drew (S := TwoR w.heap.size (w.heap.size + 1) false na da sb nb db) (by kernel_rfl) (by rw [← hW104]; exact hS104) ?_
   rw [← hW104]
   intro _
   clear hW104 hS103 HB103
   refine tk 0 hS104 ?_
   go_simp
   refine tv 1 (.string na) rfl (by intro w' hw'; obtain ⟨k0, k1, k2, k3, k4, k5⟩ := hw'.three; go_simp) hS104 ?_
   go_simp
   refine tv 2 (.agg #[.bool sb, .string nb, .string db]) rfl (by intro w' hw'; obtain ⟨k0, k1, k2, k3, k4, k5⟩ := hw'.three; go_simp) hS104 ?_
   go_simp
   refine tk 5 hS104 ?_
   go_simp
   refine tv 6 (.string nb) rfl (by intro w' hw'; obtain ⟨k0, k1, k2, k3, k4, k5⟩ := hw'.three; go_simp) hS104 ?_
   go_simp
   refine tv 7 (.agg #[.bool false, .string na, .string da]) rfl (by intro w' hw'; obtain ⟨k0, k1, k2, k3, k4, k5⟩ := hw'.three; go_simp) hS104 ?_
   go_simp
   refine tr 3 (fun K hK => ?_)
   go_simp
   refine (HDB.out _).mono ?_
   rintro e W105 ⟨rfl, hb⟩
   have hS105 := hS104.next hb
   have HB105 := ben HB104 hb
   clear hb hS104 HB104
   refine hK.out _ _ hS105 (fun _ => ?_)
   clear hK K
   refine tr 4 (fun K hK => ?_)
   go_simp
   refine (HM1.out _).mono ?_
   rintro e W106 ⟨rfl, hb⟩
   have hS106 := hS105.next hb
   have HB106 := ben HB105 hb
   clear hb hS105 HB105
   refine hK.out _ _ hS106 (fun _ => ?_)
   clear hK K
   refine tr 8 (fun K hK => ?_)
   go_simp
   refine (HDA.out _).mono ?_
   rintro e W107 ⟨rfl, hb⟩
   have hS107 := hS106.next hb
   have HB107 := ben HB106 hb
   clear hb hS106 HB106
   refine hK.out _ _ hS107 (fun _ => ?_)
   clear hK K
   refine tr 9 (fun K hK => ?_)
   go_simp
   refine (HM2.out _).mono ?_
   rintro e W108 ⟨rfl, hb⟩
   have hS108 := hS107.next hb
   have HB108 := ben HB107 hb
   clear hb hS107 HB107
   refine hK.out _ _ hS108 (fun _ => ?_)
   clear hK K
   refine tr 10 (fun K hK => ?_)
   go_simp
   refine (HNC.out _).mono ?_
   rintro e wy ⟨rfl, rfl⟩
   refine hK.out _ _ hS108 (fun _ => ?_)
   clear hK K
   refine tk 11 hS108 ?_
   go_simp
   refine wpAnyH_done (by kernel_rfl) ?_ _
   obtain ⟨k0, k1, k2, k3, k4, k5⟩ := hS108.three
   go_wp2_with fail
   go_ret
   exact ⟨by rw [HRES.out]; rfl, HB108.out⟩
  ·
   obtain ⟨k0, k1, k2, k3, k4, k5⟩ := hR1_0.three
   go_simp
   clear k0 k1 k2 k3 k4 k5
   have hR1_0_2 := hR1_0
   have HB1_0_2 := HB1_0
   refine hK.out _ _ trivial (fun _ => ?_)
   clear hK K hR1_0 HB1_0
   refine tr 1 (fun K hK => ?_)
   go_simp
   refine (HCA.out _).mono ?_
   rintro e W1_0_2_1 ⟨rfl, hb⟩
   have hR1_0_2_1 := hR1_0_2.next hb
   have HB1_0_2_1 := ben HB1_0_2 hb
   clear hb hR1_0_2 HB1_0_2
   refine hK.out _ _ trivial (fun _ => ?_)
   clear hK K
   refine tr 3 (fun K hK => ?_)
   go_simp
   refine (HCB.out _).mono ?_
   rintro e W1_0_2_1_3 ⟨rfl, hb⟩
   have hR1_0_2_1_3 := hR1_0_2_1.next hb
   have HB1_0_2_1_3 := ben HB1_0_2_1 hb
   clear hb hR1_0_2_1 HB1_0_2_1
   refine hK.out _ _ trivial (fun _ => ?_)
   clear hK K
   refine tr 4 (fun K hK => ?_)
   obtain ⟨c0, c1, c2, f0, f1, f2, hz⟩ := three_of hR1_0_2_1_3.1
   rw [HVA.out]
   go_simp
   have hR1_0_2_1_3_4 := hR1_0_2_1_3.setA (by omega) false na da
   have HB1_0_2_1_3_4 := Lib.hid (bel_set3 HB1_0_2_1_3.out w.heap.size (Nat.le_refl _) (.bool false) (.string na) (.string da))
   clear c0 c1 c2 f0 f1 f2 hz hR1_0_2_1_3 HB1_0_2_1_3
   refine hK.out _ _ trivial (fun _ => ?_)
   clear hK K
   refine tr 5 (fun K hK => ?_)
   obtain ⟨c0, c1, c2, f0, f1, f2, hz⟩ := three_of hR1_0_2_1_3_4.2
   rw [HVB.out]
   go_simp
   have hR1_0_2_1_3_4_5 := hR1_0_2_1_3_4.setB (by omega) sb nb db
   have HB1_0_2_1_3_4_5 := Lib.hid (bel_set3 HB1_0_2_1_3_4.out (w.heap.size + 1) (by omega) (.bool sb) (.string nb) (.string db))
   clear c0 c1 c2 f0 f1 f2 hz hR1_0_2_1_3_4 HB1_0_2_1_3_4
   refine hK.out _ _ trivial (fun _ => ?_)
   clear hK K
   refine wpAnyH_done (by kernel_rfl) ?_ _
   clear hT
   obtain ⟨W100, hW100⟩ : ∃ W, W = (((((W1_0_2_1_3.setCell ⟨w.heap.size, 0, none⟩ (.bool false)).setCell ⟨w.heap.size, 1, none⟩ (.string na)).setCell ⟨w.heap.size, 2, none⟩ (.string da)).setCell ⟨w.heap.size + 1, 0, none⟩ (.bool sb)).setCell ⟨w.heap.size + 1, 1, none⟩ (.string nb)).setCell ⟨w.heap.size + 1, 2, none⟩ (.string db) := ⟨_, rfl⟩
   have hS100 : TwoR w.heap.size (w.heap.size + 1) false na da sb nb db W100 := by rw [hW100]; exact hR1_0_2_1_3_4_5
   have HB100 : Hid (Below w.heap.size w W100) := by rw [hW100]; exact HB1_0_2_1_3_4_5.out
   rw [← hW100]
   clear hW100 hR1_0_2_1_3_4_5 HB1_0_2_1_3_4_5
   go_wp2_with fail
   obtain ⟨W101, hW101⟩ : ∃ W, W = W100.drew := ⟨_, rfl⟩
   have hS101 : TwoR w.heap.size (w.heap.size + 1) false na da sb nb db W101 := by rw [hW101]; exact hS100
   have HB101 := bed HB100 hW101
   refine wp_region_held_drew (S := TwoR w.heap.size (w.heap.size + 1) false na da sb nb db) (by kernel_rfl) (by rw [← hW101]; exact hS101) ?_
   rw [← hW101]
   intro _
   clear hW101 hS100 HB100
   refine tv 0 (.agg #[.bool false, .string na, .string da]) rfl (by intro w' hw'; obtain ⟨k0, k1, k2, k3, k4, k5⟩ := hw'.three; go_simp) hS101 ?_
   go_simp
   refine tv 2 (.agg #[.bool sb, .string nb, .string db]) rfl (by intro w' hw'; obtain ⟨k0, k1, k2, k3, k4, k5⟩ := hw'.three; go_simp) hS101 ?_
   go_simp
   refine tr 1 (fun K hK => ?_)
   go_simp
   refine (HSA.out _).mono ?_
   rintro e W102 ⟨rfl, hb⟩
   have hS102 := hS101.next hb
   have HB102 := ben HB101 hb
   clear hb hS101 HB101
   refine hK.out _ _ hS102 (fun _ => ?_)
   clear hK K
   refine tr 3 (fun K hK => ?_)
   go_simp
   refine (HSB.out _).mono ?_
   rintro e W103 ⟨rfl, hb⟩
   have hS103 := hS102.next hb
   have HB103 := ben HB102 hb
   clear hb hS102 HB102
   refine hK.out _ _ hS103 (fun _ => ?_)
   clear hK K
   refine tk 4 hS103 ?_
   go_simp
   refine tk 5 hS103 ?_
   go_simp
   refine wpAnyH_done (by kernel_rfl) ?_ _
   go_wp2_with fail
   obtain ⟨W104, hW104⟩ : ∃ W, W = W103.drew := ⟨_, rfl⟩
   have hS104 : TwoR w.heap.size (w.heap.size + 1) false na da sb nb db W104 := by rw [hW104]; exact hS103
   have HB104 := bed HB103 hW104
   refine wp_region_held_drew (S := TwoR w.heap.size (w.heap.size + 1) false na da sb nb db) (by kernel_rfl) (by rw [← hW104]; exact hS104) ?_
   rw [← hW104]
   intro _
   clear hW104 hS103 HB103
   refine tk 0 hS104 ?_
   go_simp
   refine tv 1 (.string na) rfl (by intro w' hw'; obtain ⟨k0, k1, k2, k3, k4, k5⟩ := hw'.three; go_simp) hS104 ?_
   go_simp
   refine tv 2 (.agg #[.bool sb, .string nb, .string db]) rfl (by intro w' hw'; obtain ⟨k0, k1, k2, k3, k4, k5⟩ := hw'.three; go_simp) hS104 ?_
   go_simp
   refine tk 5 hS104 ?_
   go_simp
   refine tv 6 (.string nb) rfl (by intro w' hw'; obtain ⟨k0, k1, k2, k3, k4, k5⟩ := hw'.three; go_simp) hS104 ?_
   go_simp
   refine tv 7 (.agg #[.bool false, .string na, .string da]) rfl (by intro w' hw'; obtain ⟨k0, k1, k2, k3, k4, k5⟩ := hw'.three; go_simp) hS104 ?_
   go_simp
   refine tr 3 (fun K hK => ?_)
   go_simp
   refine (HDB.out _).mono ?_
   rintro e W105 ⟨rfl, hb⟩
   have hS105 := hS104.next hb
   have HB105 := ben HB104 hb
   clear hb hS104 HB104
   refine hK.out _ _ hS105 (fun _ => ?_)
   clear hK K
   refine tr 4 (fun K hK => ?_)
   go_simp
   refine (HM1.out _).mono ?_
   rintro e W106 ⟨rfl, hb⟩
   have hS106 := hS105.next hb
   have HB106 := ben HB105 hb
   clear hb hS105 HB105
   refine hK.out _ _ hS106 (fun _ => ?_)
   clear hK K
   refine tr 8 (fun K hK => ?_)
   go_simp
   refine (HDA.out _).mono ?_
   rintro e W107 ⟨rfl, hb⟩
   have hS107 := hS106.next hb
   have HB107 := ben HB106 hb
   clear hb hS106 HB106
   refine hK.out _ _ hS107 (fun _ => ?_)
   clear hK K
   refine tr 9 (fun K hK => ?_)
   go_simp
   refine (HM2.out _).mono ?_
   rintro e W108 ⟨rfl, hb⟩
   have hS108 := hS107.next hb
   have HB108 := ben HB107 hb
   clear hb hS107 HB107
   refine hK.out _ _ hS108 (fun _ => ?_)
   clear hK K
   refine tr 10 (fun K hK => ?_)
   go_simp
   refine (HNC.out _).mono ?_
   rintro e wy ⟨rfl, rfl⟩
   refine hK.out _ _ hS108 (fun _ => ?_)
   clear hK K
   refine tk 11 hS108 ?_
   go_simp
   refine wpAnyH_done (by kernel_rfl) ?_ _
   obtain ⟨k0, k1, k2, k3, k4, k5⟩ := hS108.three
   go_wp2_with fail
   go_ret
   exact ⟨by rw [HRES.out]; rfl, HB108.out⟩
 ·
  obtain ⟨k0, k1, k2, k3, k4, k5⟩ := hR1.three
  go_simp
  clear k0 k1 k2 k3 k4 k5
  have hR1_2 := hR1
  have HB1_2 := HB1
  refine hK.out _ _ trivial (fun _ => ?_)
  clear hK K hR1 HB1
  refine tr 0 (fun K hK => ?_)
  obtain ⟨k0, k1, k2, k3, k4, k5⟩ := hR1_2.three
  go_simp
  clear k0 k1 k2 k3 k4 k5
  have hR1_2_0 := hR1_2
  have HB1_2_0 := HB1_2
  refine hK.out _ _ trivial (fun _ => ?_)
  clear hK K hR1_2 HB1_2
  refine tr 1 (fun K hK => ?_)
  go_simp
  refine (HCA.out _).mono ?_
  rintro e W1_2_0_1 ⟨rfl, hb⟩
  have hR1_2_0_1 := hR1_2_0.next hb
  have HB1_2_0_1 := ben HB1_2_0 hb
  clear hb hR1_2_0 HB1_2_0
  refine hK.out _ _ trivial (fun _ => ?_)
  clear hK K
  refine tr 3 (fun K hK => ?_)
  go_simp
  refine (HCB.out _).mono ?_
  rintro e W1_2_0_1_3 ⟨rfl, hb⟩
  have hR1_2_0_1_3 := hR1_2_0_1.next hb
  have HB1_2_0_1_3 := ben HB1_2_0_1 hb
  clear hb hR1_2_0_1 HB1_2_0_1
  refine hK.out _ _ trivial (fun _ => ?_)
  clear hK K
  refine tr 4 (fun K hK => ?_)
  obtain ⟨c0, c1, c2, f0, f1, f2, hz⟩ := three_of hR1_2_0_1_3.1
  rw [HVA.out]
  go_simp
  have hR1_2_0_1_3_4 := hR1_2_0_1_3.setA (by omega) false na da
  have HB1_2_0_1_3_4 := Lib.hid (bel_set3 HB1_2_0_1_3.out w.heap.size (Nat.le_refl _) (.bool false) (.string na) (.string da))
  clear c0 c1 c2 f0 f1 f2 hz hR1_2_0_1_3 HB1_2_0_1_3
  refine hK.out _ _ trivial (fun _ => ?_)
  clear hK K
  refine tr 5 (fun K hK => ?_)
  obtain ⟨c0, c1, c2, f0, f1, f2, hz⟩ := three_of hR1_2_0_1_3_4.2
  rw [HVB.out]
  go_simp
  have hR1_2_0_1_3_4_5 := hR1_2_0_1_3_4.setB (by omega) sb nb db
  have HB1_2_0_1_3_4_5 := Lib.hid (bel_set3 HB1_2_0_1_3_4.out (w.heap.size + 1) (by omega) (.bool sb) (.string nb) (.string db))
  clear c0 c1 c2 f0 f1 f2 hz hR1_2_0_1_3_4 HB1_2_0_1_3_4
  refine hK.out _ _ trivial (fun _ => ?_)
  clear hK K
  refine wpAnyH_done (by kernel_rfl) ?_ _
  clear hT
  obtain ⟨W100, hW100⟩ : ∃ W, W = (((((W1_2_0_1_3.setCell ⟨w.heap.size, 0, none⟩ (.bool false)).setCell ⟨w.heap.size, 1, none⟩ (.string na)).setCell ⟨w.heap.size, 2, none⟩ (.string da)).setCell ⟨w.heap.size + 1, 0, none⟩ (.bool sb)).setCell ⟨w.heap.size + 1, 1, none⟩ (.string nb)).setCell ⟨w.heap.size + 1, 2, none⟩ (.string db) := ⟨_, rfl⟩
  have hS100 : TwoR w.heap.size (w.heap.size + 1) false na da sb nb db W100 := by rw [hW100]; exact hR1_2_0_1_3_4_5
  have HB100 : Hid (Below w.heap.size w W100) := by rw [hW100]; exact HB1_2_0_1_3_4_5.out
  rw [← hW100]
  clear hW100 hR1_2_0_1_3_4_5 HB1_2_0_1_3_4_5
  go_wp2_with fail
  obtain ⟨W101, hW101⟩ : ∃ W, W = W100.drew := ⟨_, rfl⟩
  have hS101 : TwoR w.heap.size (w.heap.size + 1) false na da sb nb db W101 := by rw [hW101]; exact hS100
  have HB101 := bed HB100 hW101
  refine wp_region_held_drew (S := TwoR w.heap.size (w.heap.size + 1) false na da sb nb db) (by kernel_rfl) (by rw [← hW101]; exact hS101) ?_
  rw [← hW101]
  intro _
  clear hW101 hS100 HB100
  refine tv 0 (.agg #[.bool false, .string na, .string da]) rfl (by intro w' hw'; obtain ⟨k0, k1, k2, k3, k4, k5⟩ := hw'.three; go_simp) hS101 ?_
  go_simp
  refine tv 2 (.agg #[.bool sb, .string nb, .string db]) rfl (by intro w' hw'; obtain ⟨k0, k1, k2, k3, k4, k5⟩ := hw'.three; go_simp) hS101 ?_
  go_simp
  refine tr 1 (fun K hK => ?_)
  go_simp
  refine (HSA.out _).mono ?_
  rintro e W102 ⟨rfl, hb⟩
  have hS102 := hS101.next hb
  have HB102 := ben HB101 hb
  clear hb hS101 HB101
  refine hK.out _ _ hS102 (fun _ => ?_)
  clear hK K
  refine tr 3 (fun K hK => ?_)
  go_simp
  refine (HSB.out _).mono ?_
  rintro e W103 ⟨rfl, hb⟩
  have hS103 := hS102.next hb
  have HB103 := ben HB102 hb
  clear hb hS102 HB102
  refine hK.out _ _ hS103 (fun _ => ?_)
  clear hK K
  refine tk 4 hS103 ?_
  go_simp
  refine tk 5 hS103 ?_
  go_simp
  refine wpAnyH_done (by kernel_rfl) ?_ _
  go_wp2_with fail
  obtain ⟨W104, hW104⟩ : ∃ W, W = W103.drew := ⟨_, rfl⟩
  have hS104 : TwoR w.heap.size (w.heap.size + 1) false na da sb nb db W104 := by rw [hW104]; exact hS103
  have HB104 := bed HB103 hW104
  refine wp_region_held_drew (S := TwoR w.heap.size (w.heap.size + 1) false na da sb nb db) (by kernel_rfl) (by rw [← hW104]; exact hS104) ?_
  rw [← hW104]
  intro _
  clear hW104 hS103 HB103
  refine tk 0 hS104 ?_
  go_simp
  refine tv 1 (.string na) rfl (by intro w' hw'; obtain ⟨k0, k1, k2, k3, k4, k5⟩ := hw'.three; go_simp) hS104 ?_
  go_simp
  refine tv 2 (.agg #[.bool sb, .string nb, .string db]) rfl (by intro w' hw'; obtain ⟨k0, k1, k2, k3, k4, k5⟩ := hw'.three; go_simp) hS104 ?_
  go_simp
  refine tk 5 hS104 ?_
  go_simp
  refine tv 6 (.string nb) rfl (by intro w' hw'; obtain ⟨k0, k1, k2, k3, k4, k5⟩ := hw'.three; go_simp) hS104 ?_
  go_simp
  refine tv 7 (.agg #[.bool false, .string na, .string da]) rfl (by intro w' hw'; obtain ⟨k0, k1, k2, k3, k4, k5⟩ := hw'.three; go_simp) hS104 ?_
  go_simp
  refine tr 3 (fun K hK => ?_)
  go_simp
  refine (HDB.out _).mono ?_
  rintro e W105 ⟨rfl, hb⟩
  have hS105 := hS104.next hb
  have HB105 := ben HB104 hb
  clear hb hS104 HB104
  refine hK.out _ _ hS105 (fun _ => ?_)
  clear hK K
  refine tr 4 (fun K hK => ?_)
  go_simp
  refine (HM1.out _).mono ?_
  rintro e W106 ⟨rfl, hb⟩
  have hS106 := hS105.next hb
  have HB106 := ben HB105 hb
  clear hb hS105 HB105
  refine hK.out _ _ hS106 (fun _ => ?_)
  clear hK K
  refine tr 8 (fun K hK => ?_)
  go_simp
  refine (HDA.out _).mono ?_
  rintro e W107 ⟨rfl, hb⟩
  have hS107 := hS106.next hb
  have HB107 := ben HB106 hb
  clear hb hS106 HB106
  refine hK.out _ _ hS107 (fun _ => ?_)
  clear hK K
  refine tr 9 (fun K hK => ?_)
  go_simp
  refine (HM2.out _).mono ?_
  rintro e W108 ⟨rfl, hb⟩
  have hS108 := hS107.next hb
  have HB108 := ben HB107 hb
  clear hb hS107 HB107
  refine hK.out _ _ hS108 (fun _ => ?_)
  clear hK K
  refine tr 10 (fun K hK => ?_)
  go_simp
  refine (HNC.out _).mono ?_
  rintro e wy ⟨rfl, rfl⟩
  refine hK.out _ _ hS108 (fun _ => ?_)
  clear hK K
  refine tk 11 hS108 ?_
  go_simp
  refine wpAnyH_done (by kernel_rfl) ?_ _
  obtain ⟨k0, k1, k2, k3, k4, k5⟩ := hS108.three
  go_wp2_with fail
  go_ret
  exact ⟨by rw [HRES.out]; rfl, HB108.out⟩

theorem pCompare_calls (a b : FQ) (k m : Nat) (w : World) (ha : a.fits k) (hb : b.fits m) (k0 : 0 < k) (m0 : 0 < m) (hkm : k + m ≤ 99999) :
 Calls Tryz.prog 14 #[a.val, b.val] w fun e w' => e = .returned (.int .i64 (cmpR (fixR a) (fixR b))) ∧ Below w.heap.size w w' := by
 by_cases hs : sgnR (fixR a) = sgnR (fixR b)
 ·
  rcases hn : rneg (fixR a) with _ | _
  ·
   exact pCmp_pos a b k m w ha hb k0 m0 hkm hs hn
  ·
   exact pCmp_neg a b k m w ha hb k0 m0 hkm hs hn
 ·
  by_cases h1 : sgnR (fixR a) < sgnR (fixR b)
  ·
   exact pCmp_lt a b k m w ha hb k0 m0 hkm h1
  ·
   exact pCmp_gt a b k m w ha hb k0 m0 hkm (by omega)

end Go.Proofs.YtjlicnhkemfmiaaGreatDoor

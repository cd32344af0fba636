/- Merged of RatTimes RatSmall PlusA PlusB PlusC RatLess. -/
import Derived.Test.YtomfcmlomfcghaaGreatDoorM14
import Derived.Test.YtomfcmlomfcghaaGreatDoorM4
import Derived.Deep.RegionHeld3
/- insolvencyref1: Times in terms of Rat. -/
set_option linter.unusedVariables false
set_option linter.unusedSimpArgs false
namespace Go.Proofs.YtomfcmlomfcghaaGreatDoor
open Go.RowKit

def ratObj (sa : Bool) (na da : ByteArray) : Obj := .cells #[.bool sa, .string na, .string da] 70 (0, 0)
/-- two numbers in blocks of their own -/
def TwoR (ga gb : Nat) (sa : Bool) (na da : ByteArray) (sb : Bool) (nb db : ByteArray) (W : World) : Prop :=
  W.heap[ga]? = some (ratObj sa na da) ∧ W.heap[gb]? = some (ratObj sb nb db)
theorem TwoR.next {ga gb : Nat} {sa sb : Bool} {na da nb db : ByteArray} {W W' : World} (h : TwoR ga gb sa na da sb nb db W) (hb : Below W.heap.size W W') : TwoR ga gb sa na da sb nb db W' :=
  ⟨blk_next h.1 hb, blk_next h.2 hb⟩
theorem TwoR.setCell {ga gb g j : Nat} {sa sb : Bool} {na da nb db : ByteArray} {W : World} {u : Value} (h : TwoR ga gb sa na da sb nb db W) (h1 : ga ≠ g) (h2 : gb ≠ g) : TwoR ga gb sa na da sb nb db (W.setCell ⟨g, j, none⟩ u) :=
  ⟨(heap_setCell_other W ⟨g, j, none⟩ ga u h1).trans h.1, (heap_setCell_other W ⟨g, j, none⟩ gb u h2).trans h.2⟩
theorem TwoR.three {ga gb : Nat} {sa sb : Bool} {na da nb db : ByteArray} {W : World} (h : TwoR ga gb sa na da sb nb db W) :
    W.cell? ⟨ga, 0, none⟩ = some (.bool sa) ∧ W.cell? ⟨ga, 1, none⟩ = some (.string na) ∧ W.cell? ⟨ga, 2, none⟩ = some (.string da) ∧ W.cell? ⟨gb, 0, none⟩ = some (.bool sb) ∧ W.cell? ⟨gb, 1, none⟩ = some (.string nb) ∧ W.cell? ⟨gb, 2, none⟩ = some (.string db) := by
  obtain ⟨a0, a1, a2, _⟩ := three_of h.1
  obtain ⟨b0, b1, b2, _⟩ := three_of h.2
  exact ⟨a0, a1, a2, b0, b1, b2⟩

theorem rnum_empty {q : Rat} (h : q = 0) : rnum q = ⟨#[]⟩ := by rw [h, rnum_zero]
theorem natAbs_ne {q : Rat} (h : q ≠ 0) : q.num.natAbs ≠ 0 := fun e => h (Rat.num_eq_zero.1 (by omega))
theorem rnum_isEmpty {q : Rat} (h : q ≠ 0) : (rnum q).toList.isEmpty = false := ncan_isEmpty' (natAbs_ne h)
theorem Sz.num {k : Nat} {q : Rat} (h : Sz k q) (hk : k ≤ 100000) : (rnum q).size ≤ 100000 := (Sm.can h.1 hk).2
theorem limbs_le_of_lt {n k : Nat} (h : n < 256 ^ k) : (limbs n).length ≤ k := by
  have h1 := limbs_len_canon n
  have h2 := canon_len_le h
  omega

set_option maxHeartbeats 1000000 in
theorem refTimes_zeroA (sa : Bool) (da : ByteArray) (sb : Bool) (nb db : ByteArray) (w : World) :
    Calls Tryz.prog 79 #[.agg #[.bool sa, .string ⟨#[]⟩, .string da], .agg #[.bool sb, .string nb, .string db]] w fun e w' => e = .returned (ratV 0) ∧ Below w.heap.size w w' := by
  rw [ratV_zero]
  go_enter Tryz.func79, Tryz.ntmps79
  go_wp2_with fail
  exact bodyPost_ret (v := .agg #[.bool false, .string ⟨#[]⟩, .string ⟨#[]⟩]) (by simp [results, Tryz.results79, go_sem]) rfl ⟨rfl, (((Below.refl _ _).alloc (Nat.le_refl _) _).alloc (by simp) _).alloc (by simp <;> omega) _⟩

set_option maxHeartbeats 1000000 in
theorem refTimes_zeroB (sa : Bool) (na da : ByteArray) (sb : Bool) (db : ByteArray) (w : World) (hne : na.toList.isEmpty = false) :
    Calls Tryz.prog 79 #[.agg #[.bool sa, .string na, .string da], .agg #[.bool sb, .string ⟨#[]⟩, .string db]] w fun e w' => e = .returned (ratV 0) ∧ Below w.heap.size w w' := by
  rw [ratV_zero]
  go_enter Tryz.func79, Tryz.ntmps79
  go_wp2_with fail
  exact bodyPost_ret (v := .agg #[.bool false, .string ⟨#[]⟩, .string ⟨#[]⟩]) (by simp [results, Tryz.results79, go_sem]) rfl ⟨rfl, (((Below.refl _ _).alloc (Nat.le_refl _) _).alloc (by simp) _).alloc (by simp <;> omega) _⟩

set_option maxHeartbeats 8000000 in
set_option maxRecDepth 100000 in
theorem refTimes_main (a b : Rat) (k m : Nat) (w : World) (ha : Sz k a) (hb : Sz m b) (hkm : k + m ≤ 100000) (ha0 : a ≠ 0) (hb0 : b ≠ 0) :
    Calls Tryz.prog 79 #[ratV a, ratV b] w fun e w' => e = .returned (ratV (a * b)) ∧ Below w.heap.size w w' := by
  have hna := rnum_isEmpty ha0
  have hnb := rnum_isEmpty hb0
  have HLA := fun W => limbsRef_calls (rnum a) W (Nat.le_trans (ha.num (by omega)) (by decide))
  have HLB := fun W => limbsRef_calls (rnum b) W (Nat.le_trans (hb.num (by omega)) (by decide))
  have HDA := fun W => refDen_calls a W (ha.mono (by omega))
  have HDB := fun W => refDen_calls b W (hb.mono (by omega))
  have la := limbs_le_of_lt ha.1
  have lb := limbs_le_of_lt hb.1
  have ka := limbs_le_of_lt ha.2
  have kb := limbs_le_of_lt hb.2
  have lab := limbs_le_of_lt (pow_mul_lt ha.1 hb.1)
  have kab := limbs_le_of_lt (pow_mul_lt ha.2 hb.2)
  have hd0 : a.den * b.den ≠ 0 := Nat.mul_ne_zero a.den_nz b.den_nz
  have hq := (rv_mul a b).symm
  unfold rnum at HLA HLB
  simp only [snum_ncan] at HLA HLB
  obtain ⟨sa, hsa⟩ : ∃ x, x = rneg a := ⟨_, rfl⟩
  obtain ⟨na, hna'⟩ : ∃ x, x = rnum a := ⟨_, rfl⟩
  obtain ⟨da, hda⟩ : ∃ x, x = rden a := ⟨_, rfl⟩
  obtain ⟨sb, hsb⟩ : ∃ x, x = rneg b := ⟨_, rfl⟩
  obtain ⟨nb, hnb'⟩ : ∃ x, x = rnum b := ⟨_, rfl⟩
  obtain ⟨db, hdb⟩ : ∃ x, x = rden b := ⟨_, rfl⟩
  have hra : ratV a = .agg #[.bool sa, .string na, .string da] := by rw [ratV, hsa, hna', hda]
  have hrb : ratV b = .agg #[.bool sb, .string nb, .string db] := by rw [ratV, hsb, hnb', hdb]
  rw [hra] at HDA ⊢
  rw [hrb] at HDB ⊢
  rw [← hna'] at hna
  rw [← hnb'] at hnb
  rw [← hsa, ← hsb] at hq
  unfold rnum at hna' hnb'
  rw [← hna'] at HLA
  rw [← hnb'] at HLB
  obtain ⟨an, han⟩ : ∃ x, x = a.num.natAbs := ⟨_, rfl⟩
  obtain ⟨bn, hbn⟩ : ∃ x, x = b.num.natAbs := ⟨_, rfl⟩
  obtain ⟨ad, had⟩ : ∃ x, x = a.den := ⟨_, rfl⟩
  obtain ⟨bd, hbd⟩ : ∃ x, x = b.den := ⟨_, rfl⟩
  obtain ⟨q, hqq⟩ : ∃ x, x = a * b := ⟨_, rfl⟩
  rw [← han] at HLA la lab hq
  rw [← hbn] at HLB lb lab hq
  rw [← had] at HDA ka kab hd0 hq
  rw [← hbd] at HDB kb kab hd0 hq
  rw [← hqq] at hq ⊢
  obtain ⟨v1, v2, v3, hv⟩ : ∃ v1 v2 v3, ratV q = .agg #[.bool v1, .string v2, .string v3] := ⟨_, _, _, rfl⟩
  have HLAH := Lib.hid HLA
  have HLBH := Lib.hid HLB
  have HDAH := Lib.hid HDA
  have HDBH := Lib.hid HDB
  have HN := Lib.hid (And.intro la (And.intro lb (And.intro ka (And.intro kb (And.intro lab (And.intro kab hkm))))))
  have HQ := Lib.hid (And.intro hd0 hq)
  have HV := Lib.hid hv
  clear HLA HLB HDA HDB hqq hbd had hbn han hna' hnb' hdb hda hsa hsb hra hrb la lb ka kb lab kab hd0 hq ha hb ha0 hb0 hv hkm
  go_enter Tryz.func79, Tryz.ntmps79
  go_wp2_with fail
  obtain ⟨W0, hW0⟩ : ∃ W0, W0 = ((w.alloc (.cells #[.bool sa, .string na, .string da] 70)).alloc (.cells #[.bool sb, .string nb, .string db] 70)).alloc (.cells #[.bool false, .string ⟨#[]⟩, .string ⟨#[]⟩] 70) := ⟨_, rfl⟩
  have hS : TwoR w.heap.size (w.heap.size + 1) sa na da sb nb db W0 := by
    rw [hW0]
    refine ⟨blk_alloc (blk_alloc (blk_new _ _)), blk_alloc ?_⟩
    have := blk_new (w.alloc (.cells #[.bool sa, .string na, .string da] 70)) (.cells #[.bool sb, .string nb, .string db] 70)
    rwa [World.size_alloc] at this
  have hR : W0.heap[w.heap.size + 2]? = some (ratObj false ⟨#[]⟩ ⟨#[]⟩) := by
    rw [hW0]
    have := blk_new ((w.alloc (.cells #[.bool sa, .string na, .string da] 70)).alloc (.cells #[.bool sb, .string nb, .string db] 70)) (.cells #[.bool false, .string ⟨#[]⟩, .string ⟨#[]⟩] 70)
    rwa [World.size_alloc, World.size_alloc] at this
  have hB : Below w.heap.size w W0 := by
    rw [hW0]
    exact (((Below.refl _ _).alloc (Nat.le_refl _) _).alloc (by simp) _).alloc (by simp <;> omega) _
  rw [← hW0]
  have HR := Lib.hid hR
  have HB := Lib.hid hB
  clear hW0 hR hB
  refine wp_region_held_drew (S := TwoR w.heap.size (w.heap.size + 1) sa na da sb nb db) (by kernel_rfl) hS ?_
  intro hS0
  refine wpAnyH_take (i := 0) rfl (by kernel_rfl) (by kernel_rfl) (by kernel_rfl) (fun _ _ _ h => h) (Or.inl ⟨by kernel_rfl, (by intro w' _; go_simp; with_reducible rfl)⟩) hS0 ?_
  go_simp
  refine wpAnyH_take (i := 1) (v := .bool sa) rfl (by kernel_rfl) (by kernel_rfl) (by kernel_rfl) (fun _ _ _ h => h) (Or.inl ⟨by kernel_rfl, (by intro w' hw'; have tw := hw'.three; obtain ⟨a0, a1, a2, b0, b1, b2⟩ := tw; go_simp)⟩) hS0 ?_
  go_simp
  refine wpAnyH_take (i := 2) rfl (by kernel_rfl) (by kernel_rfl) (by kernel_rfl) (fun _ _ _ h => h) (Or.inl ⟨by kernel_rfl, (by intro w' _; go_simp; with_reducible rfl)⟩) hS0 ?_
  go_simp
  refine wpAnyH_take (i := 3) (v := .bool sb) rfl (by kernel_rfl) (by kernel_rfl) (by kernel_rfl) (fun _ _ _ h => h) (Or.inl ⟨by kernel_rfl, (by intro w' hw'; have tw := hw'.three; obtain ⟨a0, a1, a2, b0, b1, b2⟩ := tw; go_simp)⟩) hS0 ?_
  go_simp
  refine wpAnyH_take (i := 4) (v := .bool (sa != sb)) rfl (by kernel_rfl) (by kernel_rfl) (by kernel_rfl) (fun _ _ _ h => h) (Or.inl ⟨by kernel_rfl, (by intro w' _; go_simp; cases sa <;> cases sb <;> rfl)⟩) hS0 ?_
  go_simp
  refine wpAnyH_take (i := 5) rfl (by kernel_rfl) (by kernel_rfl) (by kernel_rfl) (fun _ _ _ h => h) (Or.inl ⟨by kernel_rfl, (by intro w' _; go_simp; with_reducible rfl)⟩) hS0 ?_
  go_simp
  refine wpAnyH_take (i := 6) (v := .string na) rfl (by kernel_rfl) (by kernel_rfl) (by kernel_rfl) (fun _ _ _ h => h) (Or.inl ⟨by kernel_rfl, (by intro w' hw'; have tw := hw'.three; obtain ⟨a0, a1, a2, b0, b1, b2⟩ := tw; go_simp)⟩) hS0 ?_
  go_simp
  refine wpAnyH_take (i := 8) rfl (by kernel_rfl) (by kernel_rfl) (by kernel_rfl) (fun _ _ _ h => h) (Or.inl ⟨by kernel_rfl, (by intro w' _; go_simp; with_reducible rfl)⟩) hS0 ?_
  go_simp
  refine wpAnyH_take (i := 9) (v := .string nb) rfl (by kernel_rfl) (by kernel_rfl) (by kernel_rfl) (fun _ _ _ h => h) (Or.inl ⟨by kernel_rfl, (by intro w' hw'; have tw := hw'.three; obtain ⟨a0, a1, a2, b0, b1, b2⟩ := tw; go_simp)⟩) hS0 ?_
  go_simp
  refine wpAnyH_take (i := 12) (v := .agg #[.bool sa, .string na, .string da]) rfl (by kernel_rfl) (by kernel_rfl) (by kernel_rfl) (fun _ _ _ h => h) (Or.inl ⟨by kernel_rfl, (by intro w' hw'; have tw := hw'.three; obtain ⟨a0, a1, a2, b0, b1, b2⟩ := tw; go_simp)⟩) hS0 ?_
  go_simp
  refine wpAnyH_take (i := 14) (v := .agg #[.bool sb, .string nb, .string db]) rfl (by kernel_rfl) (by kernel_rfl) (by kernel_rfl) (fun _ _ _ h => h) (Or.inl ⟨by kernel_rfl, (by intro w' hw'; have tw := hw'.three; obtain ⟨a0, a1, a2, b0, b1, b2⟩ := tw; go_simp)⟩) hS0 ?_
  go_simp
  have HR0 : Hid (W0.drew.heap[w.heap.size + 2]? = some (ratObj false ⟨#[]⟩ ⟨#[]⟩)) := HR.out
  have HB0 : Hid (Below w.heap.size w W0.drew) := HB.out.drew
  clear HR HB hS
  refine wpAnyH_ready (rs := [7]) (by kernel_rfl) (by simp) ?_
  refine AllReadyH.cons rfl (fun K hK => ?_) AllReadyH.nil
  go_simp
  refine (HLAH.out _).mono ?_
  rintro e w1 ⟨XA, ca, rfl, hca, hka, h1⟩
  have HKA := Lib.hid hka
  have HCA := Lib.hid hca
  have hS1 := hS0.next h1
  have HR1 := Lib.hid (blk_next HR0.out h1)
  have HB1 : Hid (Below w.heap.size w w1) := HB0.out.trans (h1.mono HB0.out.size)
  clear hka hca
  clear h1
  refine hK.out _ _ hS1 (fun _ => ?_)
  clear hK K
  refine wpAnyH_ready (rs := [10]) (by kernel_rfl) (by simp) ?_
  refine AllReadyH.cons rfl (fun K hK => ?_) AllReadyH.nil
  go_simp
  refine (HLBH.out _).mono ?_
  rintro e w2 ⟨XB, cb, rfl, hcb, hkb, h2⟩
  have HKB := Lib.hid hkb
  have HKA2 := Lib.hid (HKA.out.next h2)
  have hS2 := hS1.next h2
  have HR2 := Lib.hid (blk_next HR1.out h2)
  have HB2 : Hid (Below w.heap.size w w2) := HB1.out.trans (h2.mono HB1.out.size)
  clear hkb hcb
  clear h2
  refine hK.out _ _ hS2 (fun _ => ?_)
  clear hK K
  refine wpAnyH_ready (rs := [11]) (by kernel_rfl) (by simp) ?_
  refine AllReadyH.cons rfl (fun K hK => ?_) AllReadyH.nil
  go_simp
  refine (times_calls XA XB ca cb an bn _ HKA2.out HKB.out (by have := HN.out.1; have := HN.out.2.2.2.2.2.2; omega) (by have := HN.out.2.1; have := HN.out.2.2.2.2.2.2; omega)).mono ?_
  rintro e w3 ⟨XC, cc, rfl, hcc, hkc, h3⟩
  have HKC := Lib.hid hkc
  have HCC := Lib.hid hcc
  have hS3 := hS2.next h3
  have HR3 := Lib.hid (blk_next HR2.out h3)
  have HB3 : Hid (Below w.heap.size w w3) := HB2.out.trans (h3.mono HB2.out.size)
  clear hkc hcc
  clear h3
  refine hK.out _ _ hS3 (fun _ => ?_)
  clear hK K
  refine wpAnyH_ready (rs := [13]) (by kernel_rfl) (by simp) ?_
  refine AllReadyH.cons rfl (fun K hK => ?_) AllReadyH.nil
  go_simp
  refine (HDAH.out _).mono ?_
  rintro e w4 ⟨YA, da', rfl, hda', hkd, h4⟩
  have HKD := Lib.hid hkd
  have HKC4 := Lib.hid (HKC.out.next h4)
  have hS4 := hS3.next h4
  have HR4 := Lib.hid (blk_next HR3.out h4)
  have HB4 : Hid (Below w.heap.size w w4) := HB3.out.trans (h4.mono HB3.out.size)
  clear hkd hda'
  clear h4
  refine hK.out _ _ hS4 (fun _ => ?_)
  clear hK K
  refine wpAnyH_ready (rs := [15]) (by kernel_rfl) (by simp) ?_
  refine AllReadyH.cons rfl (fun K hK => ?_) AllReadyH.nil
  go_simp
  refine (HDBH.out _).mono ?_
  rintro e w5 ⟨YB, db', rfl, hdb', hke, h5⟩
  have HKE := Lib.hid hke
  have HKD5 := Lib.hid (HKD.out.next h5)
  have HKC5 := Lib.hid (HKC4.out.next h5)
  have hS5 := hS4.next h5
  have HR5 := Lib.hid (blk_next HR4.out h5)
  have HB5 : Hid (Below w.heap.size w w5) := HB4.out.trans (h5.mono HB4.out.size)
  clear hke hdb'
  clear h5
  refine hK.out _ _ hS5 (fun _ => ?_)
  clear hK K
  refine wpAnyH_ready (rs := [16]) (by kernel_rfl) (by simp) ?_
  refine AllReadyH.cons rfl (fun K hK => ?_) AllReadyH.nil
  go_simp
  refine (times_calls YA YB da' db' ad bd _ HKD5.out HKE.out (by have := HN.out.2.2.1; have := HN.out.2.2.2.2.2.2; omega) (by have := HN.out.2.2.2.1; have := HN.out.2.2.2.2.2.2; omega)).mono ?_
  rintro e w6 ⟨YC, dc, rfl, hdc, hkf, h6⟩
  have HKF := Lib.hid hkf
  have HDC := Lib.hid hdc
  have HKC6 := Lib.hid (HKC5.out.next h6)
  have hS6 := hS5.next h6
  have HR6 := Lib.hid (blk_next HR5.out h6)
  have HB6 : Hid (Below w.heap.size w w6) := HB5.out.trans (h6.mono HB5.out.size)
  clear hkf hdc
  clear h6
  refine hK.out _ _ hS6 (fun _ => ?_)
  clear hK K
  refine wpAnyH_ready (rs := [17]) (by kernel_rfl) (by simp) ?_
  refine AllReadyH.cons rfl (fun K hK => ?_) AllReadyH.nil
  go_simp
  refine (reduced_calls (sa != sb) XC YC cc dc (an * bn) (ad * bd) _ HKC6.out HKF.out (by have := HN.out.2.2.2.2.1; have := HN.out.2.2.2.2.2.2; omega) (by have := HN.out.2.2.2.2.2.1; have := HN.out.2.2.2.2.2.2; omega) HCC.out HDC.out HQ.out.1 q HQ.out.2).mono ?_
  rintro e w7 ⟨rfl, h7⟩
  have hS7 := hS6.next h7
  have HR7 := Lib.hid (blk_next HR6.out h7)
  have HB7 : Hid (Below w.heap.size w w7) := HB6.out.trans (h7.mono HB6.out.size)
  clear h7
  refine hK.out _ _ hS7 (fun _ => ?_)
  clear hK K
  rw [HV.out]
  obtain ⟨c0, c1, c2, f0, f1, f2, hz⟩ := three_of HR7.out
  have n1 : w.heap.size ≠ w.heap.size + 2 := by omega
  have n2 : w.heap.size + 1 ≠ w.heap.size + 2 := by omega
  refine wpAnyH_ready (rs := [18]) (by kernel_rfl) (by simp) ?_
  refine AllReadyH.cons rfl (fun K hK => ?_) AllReadyH.nil
  go_simp
  refine hK.out _ _ (((hS7.setCell n1 n2).setCell n1 n2).setCell n1 n2) (fun _ => ?_)
  clear hK K
  refine wpAnyH_done (by kernel_rfl) ?_ _
  go_wp2_with fail
  exact bodyPost_ret (v := .agg #[.bool v1, .string v2, .string v3]) (by simp [results, Tryz.results79, go_sem, c0, c1, c2]) rfl ⟨by rw [HV.out], ((HB7.out.setCell (by simp <;> omega) _).setCell (by simp <;> omega) _).setCell (by simp <;> omega) _⟩

end Go.Proofs.YtomfcmlomfcghaaGreatDoor

/- insolvencyref1: Opposite, Signum, Plus, Minus, Less in terms of Rat. -/
set_option linter.unusedVariables false
set_option linter.unusedSimpArgs false
namespace Go.Proofs.YtomfcmlomfcghaaGreatDoor
open Go.RowKit

theorem neg_fields (a : Rat) : rnum (-a) = rnum a ∧ rden (-a) = rden a := by
  refine ⟨?_, rfl⟩
  rw [rnum, rnum, show (-a).num = -a.num from rfl, Int.natAbs_neg]

set_option maxHeartbeats 1000000 in
theorem refOpposite_calls (a : Rat) (w : World) :
    Calls Tryz.prog 113 #[ratV a] w fun e w' => e = .returned (ratV (-a)) ∧ Below w.heap.size w w' := by
  have hv : ratV (-a) = .agg #[.bool (rneg (-a)), .string (rnum a), .string (rden a)] := by rw [ratV, (neg_fields a).1, (neg_fields a).2]
  rw [hv, ratV]
  by_cases h0 : a = 0
  · have hn : rneg (-a) = rneg a := by rw [h0]; decide
    rw [hn, rnum_empty h0]
    obtain ⟨sa, hsa⟩ : ∃ x, x = rneg a := ⟨_, rfl⟩
    obtain ⟨da, hda⟩ : ∃ x, x = rden a := ⟨_, rfl⟩
    rw [← hsa, ← hda]
    clear hn hv h0 hsa hda
    go_enter Tryz.func113, Tryz.ntmps113
    go_wp2_with fail
    exact bodyPost_ret (v := .agg #[.bool sa, .string ⟨#[]⟩, .string da]) (by simp [results, Tryz.results113, go_sem]) rfl ⟨rfl, ((Below.refl _ _).alloc (Nat.le_refl _) _).alloc (by simp) _⟩
  · have hne := rnum_isEmpty h0
    have hn : rneg (-a) = !rneg a := by
      rw [rneg_neg]; simp only [decide_eq_true (natAbs_ne h0), Bool.and_true]
    rw [hn]
    obtain ⟨sa, hsa⟩ : ∃ x, x = rneg a := ⟨_, rfl⟩
    obtain ⟨na, hna⟩ : ∃ x, x = rnum a := ⟨_, rfl⟩
    obtain ⟨da, hda⟩ : ∃ x, x = rden a := ⟨_, rfl⟩
    rw [← hna] at hne
    rw [← hsa, ← hda, ← hna]
    clear hn hv h0 hsa hda hna
    go_enter Tryz.func113, Tryz.ntmps113
    go_wp2_with fail
    exact bodyPost_ret (v := .agg #[.bool (!sa), .string na, .string da]) (by simp [results, Tryz.results113, go_sem]) rfl ⟨rfl, ((Below.refl _ _).alloc (Nat.le_refl _) _).alloc (by simp) _⟩

/-- the sign of a number -/
def sgnR (a : Rat) : Int := if a = 0 then 0 else if rneg a = true then -1 else 1

set_option maxHeartbeats 1000000 in
theorem refSignum_calls (a : Rat) (w : World) :
    Calls Tryz.prog 88 #[ratV a] w fun e w' => e = .returned (.int .i64 (sgnR a)) ∧ Below w.heap.size w w' := by
  rw [ratV]
  by_cases h0 : a = 0
  · have hz : sgnR a = 0 := by rw [sgnR, if_pos h0]
    rw [hz, rnum_empty h0]
    obtain ⟨sa, hsa⟩ : ∃ x, x = rneg a := ⟨_, rfl⟩
    obtain ⟨da, hda⟩ : ∃ x, x = rden a := ⟨_, rfl⟩
    rw [← hsa, ← hda]
    clear hz h0 hsa hda
    go_enter Tryz.func88, Tryz.ntmps88
    go_wp2_with fail
    go_ret
    exact ⟨rfl, bel_alloc _ _⟩
  · have hne := rnum_isEmpty h0
    have hz : sgnR a = if rneg a = true then -1 else 1 := by rw [sgnR, if_neg h0]
    rw [hz]
    obtain ⟨sa, hsa⟩ : ∃ x, x = rneg a := ⟨_, rfl⟩
    obtain ⟨na, hna⟩ : ∃ x, x = rnum a := ⟨_, rfl⟩
    obtain ⟨da, hda⟩ : ∃ x, x = rden a := ⟨_, rfl⟩
    rw [← hna] at hne
    rw [← hsa, ← hda, ← hna]
    clear hz h0 hsa hda hna
    cases sa
    · go_enter Tryz.func88, Tryz.ntmps88
      go_wp2_with fail
      go_ret
      exact ⟨rfl, bel_alloc _ _⟩
    · go_enter Tryz.func88, Tryz.ntmps88
      go_wp2_with fail
      go_ret
      exact ⟨rfl, bel_alloc _ _⟩

theorem rt_le {w : World} {a b c : Obj} : Below w.heap.size w (((w.alloc a).alloc b).alloc c) :=
  (((Below.refl _ _).alloc (Nat.le_refl _) _).alloc (by simp) _).alloc (by simp <;> omega) _

set_option maxHeartbeats 1000000 in
theorem refPlus_zeroA (b : Rat) (sa : Bool) (da : ByteArray) (w : World) :
    Calls Tryz.prog 91 #[.agg #[.bool sa, .string ⟨#[]⟩, .string da], ratV b] w fun e w' => e = .returned (ratV b) ∧ Below w.heap.size w w' := by
  rw [ratV]
  obtain ⟨sb, hsb⟩ : ∃ x, x = rneg b := ⟨_, rfl⟩
  obtain ⟨nb, hnb⟩ : ∃ x, x = rnum b := ⟨_, rfl⟩
  obtain ⟨db, hdb⟩ : ∃ x, x = rden b := ⟨_, rfl⟩
  rw [← hsb, ← hdb, ← hnb]
  clear hsb hnb hdb
  go_enter Tryz.func91, Tryz.ntmps91
  go_wp2_with fail
  exact bodyPost_ret (v := .agg #[.bool sb, .string nb, .string db]) (by simp [results, Tryz.results91, go_sem]) rfl ⟨rfl, rt_le⟩

set_option maxHeartbeats 1000000 in
theorem refPlus_zeroB (a : Rat) (sb : Bool) (db : ByteArray) (w : World) (h0 : a ≠ 0) :
    Calls Tryz.prog 91 #[ratV a, .agg #[.bool sb, .string ⟨#[]⟩, .string db]] w fun e w' => e = .returned (ratV a) ∧ Below w.heap.size w w' := by
  have hne := rnum_isEmpty h0
  rw [ratV]
  obtain ⟨sa, hsa⟩ : ∃ x, x = rneg a := ⟨_, rfl⟩
  obtain ⟨na, hna⟩ : ∃ x, x = rnum a := ⟨_, rfl⟩
  obtain ⟨da, hda⟩ : ∃ x, x = rden a := ⟨_, rfl⟩
  rw [← hna] at hne
  rw [← hsa, ← hda, ← hna]
  clear h0 hsa hda hna
  go_enter Tryz.func91, Tryz.ntmps91
  go_wp2_with fail
  exact bodyPost_ret (v := .agg #[.bool sa, .string na, .string da]) (by simp [results, Tryz.results91, go_sem]) rfl ⟨rfl, rt_le⟩

end Go.Proofs.YtomfcmlomfcghaaGreatDoor

/- insolvencyref1.Plus in terms of Rat. -/
set_option linter.unusedVariables false
set_option linter.unusedSimpArgs false
namespace Go.Proofs.YtomfcmlomfcghaaGreatDoor
open Go.RowKit

set_option maxHeartbeats 8000000 in
set_option maxRecDepth 100000 in
theorem refPlus_same (a b : Rat) (k m : Nat) (w : World) (ha : Sz k a) (hb : Sz m b) (hkm : k + m ≤ 100000) (ha0 : a ≠ 0) (hb0 : b ≠ 0) (hs : rneg a = rneg b) :
    Calls Tryz.prog 91 #[ratV a, ratV b] w fun e w' => e = .returned (ratV (a + b)) ∧ Below w.heap.size w w' := by
  have hna := rnum_isEmpty ha0
  have hnb := rnum_isEmpty hb0
  have HLA := fun W => limbsRef_calls (rnum a) W (Nat.le_trans (ha.num (by omega)) (by decide))
  have HLB := fun W => limbsRef_calls (rnum b) W (Nat.le_trans (hb.num (by omega)) (by decide))
  have HDA := fun W => refDen_calls a W (ha.mono (by omega))
  have HDB := fun W => refDen_calls b W (hb.mono (by omega))
  have la := limbs_le_of_lt ha.1
  have lb := limbs_le_of_lt hb.1
  have ka := limbs_le_of_lt ha.2
  have kb := limbs_le_of_lt hb.2
  have lx := limbs_le_of_lt (pow_mul_lt ha.1 hb.2)
  have ly := limbs_le_of_lt (pow_mul_lt hb.1 ha.2)
  have ld := limbs_le_of_lt (pow_mul_lt ha.2 hb.2)
  have lxy := limbs_le_of_lt (pow_add_lt (pow_mul_lt ha.1 hb.2) (show b.num.natAbs * a.den < 256 ^ (k + m) by rw [Nat.add_comm]; exact pow_mul_lt hb.1 ha.2))
  have hd0 : a.den * b.den ≠ 0 := Nat.mul_ne_zero a.den_nz b.den_nz
  have hq : rv (rneg a) (a.num.natAbs * b.den + b.num.natAbs * a.den) (a.den * b.den) = a + b := (rv_add_same hs).symm
  unfold rnum at HLA HLB
  simp only [snum_ncan] at HLA HLB
  obtain ⟨sa, hsa⟩ : ∃ x, x = rneg a := ⟨_, rfl⟩
  obtain ⟨na, hna'⟩ : ∃ x, x = rnum a := ⟨_, rfl⟩
  obtain ⟨da, hda⟩ : ∃ x, x = rden a := ⟨_, rfl⟩
  obtain ⟨sb, hsb⟩ : ∃ x, x = rneg b := ⟨_, rfl⟩
  obtain ⟨nb, hnb'⟩ : ∃ x, x = rnum b := ⟨_, rfl⟩
  obtain ⟨db, hdb⟩ : ∃ x, x = rden b := ⟨_, rfl⟩
  have hra : ratV a = .agg #[.bool sa, .string na, .string da] := by rw [ratV, hsa, hna', hda]
  have hrb : ratV b = .agg #[.bool sb, .string nb, .string db] := by rw [ratV, hsb, hnb', hdb]
  rw [hra] at HDA ⊢
  rw [hrb] at HDB ⊢
  rw [← hna'] at hna
  rw [← hnb'] at hnb
  rw [← hsa] at hq
  rw [← hsa, ← hsb] at hs
  subst hs
  unfold rnum at hna' hnb'
  rw [← hna'] at HLA
  rw [← hnb'] at HLB
  obtain ⟨an, han⟩ : ∃ x, x = a.num.natAbs := ⟨_, rfl⟩
  obtain ⟨bn, hbn⟩ : ∃ x, x = b.num.natAbs := ⟨_, rfl⟩
  obtain ⟨ad, had⟩ : ∃ x, x = a.den := ⟨_, rfl⟩
  obtain ⟨bd, hbd⟩ : ∃ x, x = b.den := ⟨_, rfl⟩
  obtain ⟨q, hqq⟩ : ∃ x, x = a + b := ⟨_, rfl⟩
  rw [← han] at HLA la hq
  rw [← hbn] at HLB lb hq
  rw [← had] at HDA ka hd0 hq
  rw [← hbd] at HDB kb hd0 hq
  simp only [← han, ← hbn, ← had, ← hbd] at lx ly ld lxy
  rw [← hqq] at hq ⊢
  obtain ⟨v1, v2, v3, hv⟩ : ∃ v1 v2 v3, ratV q = .agg #[.bool v1, .string v2, .string v3] := ⟨_, _, _, rfl⟩
  have HLAH := Lib.hid HLA
  have HLBH := Lib.hid HLB
  have HDAH := Lib.hid HDA
  have HDBH := Lib.hid HDB
  have HN := Lib.hid (And.intro la (And.intro lb (And.intro ka (And.intro kb (And.intro lx (And.intro ly (And.intro ld (And.intro lxy hkm))))))))
  have HQ := Lib.hid (And.intro hd0 hq)
  have HV := Lib.hid hv
  clear HLA HLB HDA HDB hqq hbd had hbn han hna' hnb' hdb hda hsa hsb hra hrb la lb ka kb lx ly ld lxy hd0 hq ha hb ha0 hb0 hv hkm 
  go_enter Tryz.func91, Tryz.ntmps91
  go_wp2_with fail
  obtain ⟨w0, hW0⟩ : ∃ w0, w0 = ((w.alloc (.cells #[.bool sa, .string na, .string da] 70)).alloc (.cells #[.bool sa, .string nb, .string db] 70)).alloc (.cells #[.bool false, .string ⟨#[]⟩, .string ⟨#[]⟩] 70) := ⟨_, rfl⟩
  have hS0 : TwoR w.heap.size (w.heap.size + 1) sa na da sa nb db w0 := by
    rw [hW0]
    refine ⟨blk_alloc (blk_alloc (blk_new _ _)), blk_alloc ?_⟩
    have := blk_new (w.alloc (.cells #[.bool sa, .string na, .string da] 70)) (.cells #[.bool sa, .string nb, .string db] 70)
    rwa [World.size_alloc] at this
  have hR : w0.heap[w.heap.size + 2]? = some (ratObj false ⟨#[]⟩ ⟨#[]⟩) := by
    rw [hW0]
    have := blk_new ((w.alloc (.cells #[.bool sa, .string na, .string da] 70)).alloc (.cells #[.bool sa, .string nb, .string db] 70)) (.cells #[.bool false, .string ⟨#[]⟩, .string ⟨#[]⟩] 70)
    rwa [World.size_alloc, World.size_alloc] at this
  have hB : Below w.heap.size w w0 := by
    rw [hW0]
    exact rt_le
  try rw [← hW0]
  have HR0 := Lib.hid hR
  have HB0 := Lib.hid hB
  clear hW0 hR hB
  obtain ⟨a0, a1, a2, b0, b1, b2⟩ := hS0.three
  go_wp2_with fail
  refine (HDAH.out _).mono ?_
  rintro e w1 ⟨YA, ca, rfl, hca, hk1, h1⟩
  have KA1 := Lib.hid hk1
  have CA := Lib.hid hca
  clear a0 a1 a2 b0 b1 b2
  clear hk1 hca
  have hS1 := hS0.next h1
  have HR1 := Lib.hid (blk_next HR0.out h1)
  have HB1 : Hid (Below w.heap.size w w1) := HB0.out.trans (h1.mono HB0.out.size)
  clear hS0 
  clear h1
  obtain ⟨a0, a1, a2, b0, b1, b2⟩ := hS1.three
  go_wp2_with fail
  refine (HDBH.out _).mono ?_
  rintro e w2 ⟨YB, cb, rfl, hcb, hk2, h2⟩
  have KB2 := Lib.hid hk2
  have CB := Lib.hid hcb
  have KA2 := Lib.hid (KA1.out.next h2)
  clear a0 a1 a2 b0 b1 b2
  clear hk2 hcb KA1
  have hS2 := hS1.next h2
  have HR2 := Lib.hid (blk_next HR1.out h2)
  have HB2 : Hid (Below w.heap.size w w2) := HB1.out.trans (h2.mono HB1.out.size)
  clear hS1 
  clear h2
  obtain ⟨a0, a1, a2, b0, b1, b2⟩ := hS2.three
  go_wp2_with fail
  refine (HLAH.out _).mono ?_
  rintro e w3 ⟨XA, cxa, rfl, hcx, hk3, h3⟩
  have XA3 := Lib.hid hk3
  have KA3 := Lib.hid (KA2.out.next h3)
  have KB3 := Lib.hid (KB2.out.next h3)
  clear a0 a1 a2 b0 b1 b2
  clear hk3 hcx KA2 KB2
  have hS3 := hS2.next h3
  have HR3 := Lib.hid (blk_next HR2.out h3)
  have HB3 : Hid (Below w.heap.size w w3) := HB2.out.trans (h3.mono HB2.out.size)
  clear hS2 
  clear h3
  go_wp2_with fail
  refine (times_calls XA YB cxa cb an bd _ XA3.out KB3.out (by have := HN.out.1; have := HN.out.2.2.2.2.2.2.2.2; omega) (by have := HN.out.2.2.2.1; have := HN.out.2.2.2.2.2.2.2.2; omega)).mono ?_
  rintro e w4 ⟨X, cx, rfl, hcx, hk4, h4⟩
  have X4 := Lib.hid hk4
  have CX := Lib.hid hcx
  have KA4 := Lib.hid (KA3.out.next h4)
  have KB4 := Lib.hid (KB3.out.next h4)
  clear hk4 hcx KA3 KB3 XA3
  have hS4 := hS3.next h4
  have HR4 := Lib.hid (blk_next HR3.out h4)
  have HB4 : Hid (Below w.heap.size w w4) := HB3.out.trans (h4.mono HB3.out.size)
  clear hS3 
  clear h4
  obtain ⟨a0, a1, a2, b0, b1, b2⟩ := hS4.three
  go_wp2_with fail
  refine (HLBH.out _).mono ?_
  rintro e w5 ⟨XB, cxb, rfl, hcx, hk5, h5⟩
  have XB5 := Lib.hid hk5
  have KA5 := Lib.hid (KA4.out.next h5)
  have KB5 := Lib.hid (KB4.out.next h5)
  have X5 := Lib.hid (X4.out.next h5)
  clear a0 a1 a2 b0 b1 b2
  clear hk5 hcx KA4 KB4 X4
  have hS5 := hS4.next h5
  have HR5 := Lib.hid (blk_next HR4.out h5)
  have HB5 : Hid (Below w.heap.size w w5) := HB4.out.trans (h5.mono HB4.out.size)
  clear hS4 
  clear h5
  go_wp2_with fail
  refine (times_calls XB YA cxb ca bn ad _ XB5.out KA5.out (by have := HN.out.2.1; have := HN.out.2.2.2.2.2.2.2.2; omega) (by have := HN.out.2.2.1; have := HN.out.2.2.2.2.2.2.2.2; omega)).mono ?_
  rintro e w6 ⟨Y, cy, rfl, hcy, hk6, h6⟩
  have Y6 := Lib.hid hk6
  have CY := Lib.hid hcy
  have KA6 := Lib.hid (KA5.out.next h6)
  have KB6 := Lib.hid (KB5.out.next h6)
  have X6 := Lib.hid (X5.out.next h6)
  clear hk6 hcy KA5 KB5 XB5 X5
  have hS6 := hS5.next h6
  have HR6 := Lib.hid (blk_next HR5.out h6)
  have HB6 : Hid (Below w.heap.size w w6) := HB5.out.trans (h6.mono HB5.out.size)
  clear hS5 
  clear h6
  go_wp2_with fail
  refine (times_calls YA YB ca cb ad bd _ KA6.out KB6.out (by have := HN.out.2.2.1; have := HN.out.2.2.2.2.2.2.2.2; omega) (by have := HN.out.2.2.2.1; have := HN.out.2.2.2.2.2.2.2.2; omega)).mono ?_
  rintro e w7 ⟨D, cd, rfl, hcd, hk7, h7⟩
  have D7 := Lib.hid hk7
  have CD := Lib.hid hcd
  have X7 := Lib.hid (X6.out.next h7)
  have Y7 := Lib.hid (Y6.out.next h7)
  clear hk7 hcd KA6 KB6 X6 Y6
  have hS7 := hS6.next h7
  have HR7 := Lib.hid (blk_next HR6.out h7)
  have HB7 : Hid (Below w.heap.size w w7) := HB6.out.trans (h7.mono HB6.out.size)
  clear hS6 
  clear h7
  obtain ⟨a0, a1, a2, b0, b1, b2⟩ := hS7.three
  go_wp2_with fail
  clear a0 a1 a2 b0 b1 b2
  refine wp_region_held_drew (S := TwoR w.heap.size (w.heap.size + 1) sa na da sa nb db) (by kernel_rfl) hS7 ?_
  intro hSd
  have HRd : Hid (w7.drew.heap[w.heap.size + 2]? = some (ratObj false ⟨#[]⟩ ⟨#[]⟩)) := HR7.out
  have HBd : Hid (Below w.heap.size w w7.drew) := HB7.out.drew
  clear hS7
  have Xd : Hid (KRd .u32 w7.drew w7.drew.heap.size X (limbs (an * bd))) := X7.out
  have Yd : Hid (KRd .u32 w7.drew w7.drew.heap.size Y (limbs (bn * ad))) := Y7.out
  have Dd : Hid (KRd .u32 w7.drew w7.drew.heap.size D (limbs (ad * bd))) := D7.out
  refine wpAnyH_take (i := 0) rfl (by kernel_rfl) (by kernel_rfl) (by kernel_rfl) (fun _ _ _ h => h) (Or.inl ⟨by kernel_rfl, (by intro w' _; go_simp; with_reducible rfl)⟩) hSd ?_
  go_simp
  refine wpAnyH_take (i := 1) (v := .bool sa) rfl (by kernel_rfl) (by kernel_rfl) (by kernel_rfl) (fun _ _ _ h => h) (Or.inl ⟨by kernel_rfl, (by intro w' hw'; have tw := hw'.three; obtain ⟨a0, a1, a2, b0, b1, b2⟩ := tw; go_simp)⟩) hSd ?_
  go_simp
  refine wpAnyH_take (i := 2) rfl (by kernel_rfl) (by kernel_rfl) (by kernel_rfl) (fun _ _ _ h => h) (Or.inl ⟨by kernel_rfl, (by intro w' _; go_simp; with_reducible rfl)⟩) hSd ?_
  go_simp
  refine wpAnyH_take (i := 3) rfl (by kernel_rfl) (by kernel_rfl) (by kernel_rfl) (fun _ _ _ h => h) (Or.inl ⟨by kernel_rfl, (by intro w' _; go_simp; with_reducible rfl)⟩) hSd ?_
  go_simp
  refine wpAnyH_take (i := 5) rfl (by kernel_rfl) (by kernel_rfl) (by kernel_rfl) (fun _ _ _ h => h) (Or.inl ⟨by kernel_rfl, (by intro w' _; go_simp; with_reducible rfl)⟩) hSd ?_
  go_simp
  refine wpAnyH_ready (rs := [4]) (by kernel_rfl) (by simp) ?_
  refine AllReadyH.cons rfl (fun K hK => ?_) AllReadyH.nil
  go_simp
  refine (plus_limbs X Y cx cy (an * bd) (bn * ad) _ Xd.out Yd.out (by have := HN.out.2.2.2.2.1; have := HN.out.2.2.2.2.2.2.2.2; omega) (by have := HN.out.2.2.2.2.2.1; have := HN.out.2.2.2.2.2.2.2.2; omega)).mono ?_
  rintro e we ⟨Z, cz, rfl, hcz, hkz, he⟩
  have HKZ := Lib.hid hkz
  have HCZ := Lib.hid hcz
  have De := Lib.hid (Dd.out.next he)
  have hSe := hSd.next he
  have HRe := Lib.hid (blk_next HRd.out he)
  have HBe : Hid (Below w.heap.size w we) := HBd.out.trans (he.mono HBd.out.size)
  clear hkz hcz
  clear he
  refine hK.out _ _ hSe (fun _ => ?_)
  clear hK K
  refine wpAnyH_ready (rs := [6]) (by kernel_rfl) (by simp) ?_
  refine AllReadyH.cons rfl (fun K hK => ?_) AllReadyH.nil
  go_simp
  refine (reduced_calls sa Z D cz cd (an * bd + bn * ad) (ad * bd) _ HKZ.out De.out (by have := HN.out.2.2.2.2.2.2.2.1; have := HN.out.2.2.2.2.2.2.2.2; omega) (by have := HN.out.2.2.2.2.2.2.1; have := HN.out.2.2.2.2.2.2.2.2; omega) HCZ.out CD.out HQ.out.1 q HQ.out.2).mono ?_
  rintro e wf ⟨rfl, hf⟩
  have hSf := hSe.next hf
  have HRf := Lib.hid (blk_next HRe.out hf)
  have HBf : Hid (Below w.heap.size w wf) := HBe.out.trans (hf.mono HBe.out.size)
  clear hf
  refine hK.out _ _ hSf (fun _ => ?_)
  clear hK K
  rw [HV.out]
  obtain ⟨c0, c1, c2, f0, f1, f2, hz⟩ := three_of HRf.out
  have n1 : w.heap.size ≠ w.heap.size + 2 := by omega
  have n2 : w.heap.size + 1 ≠ w.heap.size + 2 := by omega
  refine wpAnyH_ready (rs := [7]) (by kernel_rfl) (by simp) ?_
  refine AllReadyH.cons rfl (fun K hK => ?_) AllReadyH.nil
  go_simp
  refine hK.out _ _ (((hSf.setCell n1 n2).setCell n1 n2).setCell n1 n2) (fun _ => ?_)
  clear hK K
  refine wpAnyH_done (by kernel_rfl) ?_ _
  go_wp2_with fail
  exact bodyPost_ret (v := .agg #[.bool v1, .string v2, .string v3]) (by simp [results, Tryz.results91, go_sem, c0, c1, c2]) rfl ⟨by rw [HV.out], ((HBf.out.setCell (by simp <;> omega) _).setCell (by simp <;> omega) _).setCell (by simp <;> omega) _⟩

end Go.Proofs.YtomfcmlomfcghaaGreatDoor

/- insolvencyref1.Plus in terms of Rat. -/
set_option linter.unusedVariables false
set_option linter.unusedSimpArgs false
namespace Go.Proofs.YtomfcmlomfcghaaGreatDoor
open Go.RowKit

set_option maxHeartbeats 8000000 in
set_option maxRecDepth 100000 in
theorem refPlus_lt (a b : Rat) (k m : Nat) (w : World) (ha : Sz k a) (hb : Sz m b) (hkm : k + m ≤ 100000) (ha0 : a ≠ 0) (hb0 : b ≠ 0) (hs : rneg a ≠ rneg b) (hlt : a.num.natAbs * b.den < b.num.natAbs * a.den) :
    Calls Tryz.prog 91 #[ratV a, ratV b] w fun e w' => e = .returned (ratV (a + b)) ∧ Below w.heap.size w w' := by
  have hna := rnum_isEmpty ha0
  have hnb := rnum_isEmpty hb0
  have HLA := fun W => limbsRef_calls (rnum a) W (Nat.le_trans (ha.num (by omega)) (by decide))
  have HLB := fun W => limbsRef_calls (rnum b) W (Nat.le_trans (hb.num (by omega)) (by decide))
  have HDA := fun W => refDen_calls a W (ha.mono (by omega))
  have HDB := fun W => refDen_calls b W (hb.mono (by omega))
  have la := limbs_le_of_lt ha.1
  have lb := limbs_le_of_lt hb.1
  have ka := limbs_le_of_lt ha.2
  have kb := limbs_le_of_lt hb.2
  have lx := limbs_le_of_lt (pow_mul_lt ha.1 hb.2)
  have ly := limbs_le_of_lt (pow_mul_lt hb.1 ha.2)
  have ld := limbs_le_of_lt (pow_mul_lt ha.2 hb.2)
  have lxy := limbs_le_of_lt (pow_add_lt (pow_mul_lt ha.1 hb.2) (show b.num.natAbs * a.den < 256 ^ (k + m) by rw [Nat.add_comm]; exact pow_mul_lt hb.1 ha.2))
  have hd0 : a.den * b.den ≠ 0 := Nat.mul_ne_zero a.den_nz b.den_nz
  have hq : rv (rneg b) (b.num.natAbs * a.den - a.num.natAbs * b.den) (a.den * b.den) = a + b := (rv_add_lt hs hlt).symm
  unfold rnum at HLA HLB
  simp only [snum_ncan] at HLA HLB
  obtain ⟨sa, hsa⟩ : ∃ x, x = rneg a := ⟨_, rfl⟩
  obtain ⟨na, hna'⟩ : ∃ x, x = rnum a := ⟨_, rfl⟩
  obtain ⟨da, hda⟩ : ∃ x, x = rden a := ⟨_, rfl⟩
  obtain ⟨sb, hsb⟩ : ∃ x, x = rneg b := ⟨_, rfl⟩
  obtain ⟨nb, hnb'⟩ : ∃ x, x = rnum b := ⟨_, rfl⟩
  obtain ⟨db, hdb⟩ : ∃ x, x = rden b := ⟨_, rfl⟩
  have hra : ratV a = .agg #[.bool sa, .string na, .string da] := by rw [ratV, hsa, hna', hda]
  have hrb : ratV b = .agg #[.bool sb, .string nb, .string db] := by rw [ratV, hsb, hnb', hdb]
  rw [hra] at HDA ⊢
  rw [hrb] at HDB ⊢
  rw [← hna'] at hna
  rw [← hnb'] at hnb
  rw [← hsa, ← hsb] at hs
  have hsq : (sa == sb) = false := by simpa using hs
  rw [← hsb] at hq
  unfold rnum at hna' hnb'
  rw [← hna'] at HLA
  rw [← hnb'] at HLB
  obtain ⟨an, han⟩ : ∃ x, x = a.num.natAbs := ⟨_, rfl⟩
  obtain ⟨bn, hbn⟩ : ∃ x, x = b.num.natAbs := ⟨_, rfl⟩
  obtain ⟨ad, had⟩ : ∃ x, x = a.den := ⟨_, rfl⟩
  obtain ⟨bd, hbd⟩ : ∃ x, x = b.den := ⟨_, rfl⟩
  obtain ⟨q, hqq⟩ : ∃ x, x = a + b := ⟨_, rfl⟩
  rw [← han] at HLA la hq hlt
  rw [← hbn] at HLB lb hq hlt
  rw [← had] at HDA ka hd0 hq hlt
  rw [← hbd] at HDB kb hd0 hq hlt
  simp only [← han, ← hbn, ← had, ← hbd] at lx ly ld lxy
  rw [← hqq] at hq ⊢
  obtain ⟨v1, v2, v3, hv⟩ : ∃ v1 v2 v3, ratV q = .agg #[.bool v1, .string v2, .string v3] := ⟨_, _, _, rfl⟩
  have HLAH := Lib.hid HLA
  have HLBH := Lib.hid HLB
  have HDAH := Lib.hid HDA
  have HDBH := Lib.hid HDB
  have HN := Lib.hid (And.intro la (And.intro lb (And.intro ka (And.intro kb (And.intro lx (And.intro ly (And.intro ld (And.intro lxy hkm))))))))
  have HQ := Lib.hid (And.intro hd0 hq)
  have HV := Lib.hid hv
  clear HLA HLB HDA HDB hqq hbd had hbn han hna' hnb' hdb hda hsa hsb hra hrb la lb ka kb lx ly ld lxy hd0 hq ha hb ha0 hb0 hv hkm hs
  have HCM : Hid (cmpN (an * bd) (bn * ad) = -1) := cmpN_lt hlt
  have HLE : Hid (an * bd ≤ bn * ad) := Nat.le_of_lt hlt
  clear hlt
  go_enter Tryz.func91, Tryz.ntmps91
  go_wp2_with fail
  obtain ⟨w0, hW0⟩ : ∃ w0, w0 = ((w.alloc (.cells #[.bool sa, .string na, .string da] 70)).alloc (.cells #[.bool sb, .string nb, .string db] 70)).alloc (.cells #[.bool false, .string ⟨#[]⟩, .string ⟨#[]⟩] 70) := ⟨_, rfl⟩
  have hS0 : TwoR w.heap.size (w.heap.size + 1) sa na da sb nb db w0 := by
    rw [hW0]
    refine ⟨blk_alloc (blk_alloc (blk_new _ _)), blk_alloc ?_⟩
    have := blk_new (w.alloc (.cells #[.bool sa, .string na, .string da] 70)) (.cells #[.bool sb, .string nb, .string db] 70)
    rwa [World.size_alloc] at this
  have hR : w0.heap[w.heap.size + 2]? = some (ratObj false ⟨#[]⟩ ⟨#[]⟩) := by
    rw [hW0]
    have := blk_new ((w.alloc (.cells #[.bool sa, .string na, .string da] 70)).alloc (.cells #[.bool sb, .string nb, .string db] 70)) (.cells #[.bool false, .string ⟨#[]⟩, .string ⟨#[]⟩] 70)
    rwa [World.size_alloc, World.size_alloc] at this
  have hB : Below w.heap.size w w0 := by
    rw [hW0]
    exact rt_le
  try rw [← hW0]
  have HR0 := Lib.hid hR
  have HB0 := Lib.hid hB
  clear hW0 hR hB
  obtain ⟨a0, a1, a2, b0, b1, b2⟩ := hS0.three
  go_wp2_with fail
  refine (HDAH.out _).mono ?_
  rintro e w1 ⟨YA, ca, rfl, hca, hk1, h1⟩
  have KA1 := Lib.hid hk1
  have CA := Lib.hid hca
  clear a0 a1 a2 b0 b1 b2
  clear hk1 hca
  have hS1 := hS0.next h1
  have HR1 := Lib.hid (blk_next HR0.out h1)
  have HB1 : Hid (Below w.heap.size w w1) := HB0.out.trans (h1.mono HB0.out.size)
  clear hS0 
  clear h1
  obtain ⟨a0, a1, a2, b0, b1, b2⟩ := hS1.three
  go_wp2_with fail
  refine (HDBH.out _).mono ?_
  rintro e w2 ⟨YB, cb, rfl, hcb, hk2, h2⟩
  have KB2 := Lib.hid hk2
  have CB := Lib.hid hcb
  have KA2 := Lib.hid (KA1.out.next h2)
  clear a0 a1 a2 b0 b1 b2
  clear hk2 hcb KA1
  have hS2 := hS1.next h2
  have HR2 := Lib.hid (blk_next HR1.out h2)
  have HB2 : Hid (Below w.heap.size w w2) := HB1.out.trans (h2.mono HB1.out.size)
  clear hS1 
  clear h2
  obtain ⟨a0, a1, a2, b0, b1, b2⟩ := hS2.three
  go_wp2_with fail
  refine (HLAH.out _).mono ?_
  rintro e w3 ⟨XA, cxa, rfl, hcx, hk3, h3⟩
  have XA3 := Lib.hid hk3
  have KA3 := Lib.hid (KA2.out.next h3)
  have KB3 := Lib.hid (KB2.out.next h3)
  clear a0 a1 a2 b0 b1 b2
  clear hk3 hcx KA2 KB2
  have hS3 := hS2.next h3
  have HR3 := Lib.hid (blk_next HR2.out h3)
  have HB3 : Hid (Below w.heap.size w w3) := HB2.out.trans (h3.mono HB2.out.size)
  clear hS2 
  clear h3
  go_wp2_with fail
  refine (times_calls XA YB cxa cb an bd _ XA3.out KB3.out (by have := HN.out.1; have := HN.out.2.2.2.2.2.2.2.2; omega) (by have := HN.out.2.2.2.1; have := HN.out.2.2.2.2.2.2.2.2; omega)).mono ?_
  rintro e w4 ⟨X, cx, rfl, hcx, hk4, h4⟩
  have X4 := Lib.hid hk4
  have CX := Lib.hid hcx
  have KA4 := Lib.hid (KA3.out.next h4)
  have KB4 := Lib.hid (KB3.out.next h4)
  clear hk4 hcx KA3 KB3 XA3
  have hS4 := hS3.next h4
  have HR4 := Lib.hid (blk_next HR3.out h4)
  have HB4 : Hid (Below w.heap.size w w4) := HB3.out.trans (h4.mono HB3.out.size)
  clear hS3 
  clear h4
  obtain ⟨a0, a1, a2, b0, b1, b2⟩ := hS4.three
  go_wp2_with fail
  refine (HLBH.out _).mono ?_
  rintro e w5 ⟨XB, cxb, rfl, hcx, hk5, h5⟩
  have XB5 := Lib.hid hk5
  have KA5 := Lib.hid (KA4.out.next h5)
  have KB5 := Lib.hid (KB4.out.next h5)
  have X5 := Lib.hid (X4.out.next h5)
  clear a0 a1 a2 b0 b1 b2
  clear hk5 hcx KA4 KB4 X4
  have hS5 := hS4.next h5
  have HR5 := Lib.hid (blk_next HR4.out h5)
  have HB5 : Hid (Below w.heap.size w w5) := HB4.out.trans (h5.mono HB4.out.size)
  clear hS4 
  clear h5
  go_wp2_with fail
  refine (times_calls XB YA cxb ca bn ad _ XB5.out KA5.out (by have := HN.out.2.1; have := HN.out.2.2.2.2.2.2.2.2; omega) (by have := HN.out.2.2.1; have := HN.out.2.2.2.2.2.2.2.2; omega)).mono ?_
  rintro e w6 ⟨Y, cy, rfl, hcy, hk6, h6⟩
  have Y6 := Lib.hid hk6
  have CY := Lib.hid hcy
  have KA6 := Lib.hid (KA5.out.next h6)
  have KB6 := Lib.hid (KB5.out.next h6)
  have X6 := Lib.hid (X5.out.next h6)
  clear hk6 hcy KA5 KB5 XB5 X5
  have hS6 := hS5.next h6
  have HR6 := Lib.hid (blk_next HR5.out h6)
  have HB6 : Hid (Below w.heap.size w w6) := HB5.out.trans (h6.mono HB5.out.size)
  clear hS5 
  clear h6
  go_wp2_with fail
  refine (times_calls YA YB ca cb ad bd _ KA6.out KB6.out (by have := HN.out.2.2.1; have := HN.out.2.2.2.2.2.2.2.2; omega) (by have := HN.out.2.2.2.1; have := HN.out.2.2.2.2.2.2.2.2; omega)).mono ?_
  rintro e w7 ⟨D, cd, rfl, hcd, hk7, h7⟩
  have D7 := Lib.hid hk7
  have CD := Lib.hid hcd
  have X7 := Lib.hid (X6.out.next h7)
  have Y7 := Lib.hid (Y6.out.next h7)
  clear hk7 hcd KA6 KB6 X6 Y6
  have hS7 := hS6.next h7
  have HR7 := Lib.hid (blk_next HR6.out h7)
  have HB7 : Hid (Below w.heap.size w w7) := HB6.out.trans (h7.mono HB6.out.size)
  clear hS6 
  clear h7
  obtain ⟨a0, a1, a2, b0, b1, b2⟩ := hS7.three
  go_wp2_with fail
  clear a0 a1 a2 b0 b1 b2
  refine (order_calls X Y cx cy (an * bd) (bn * ad) _ X7.out Y7.out (by have := HN.out.2.2.2.2.1; have := HN.out.2.2.2.2.2.2.2.2; omega) (by have := HN.out.2.2.2.2.2.1; have := HN.out.2.2.2.2.2.2.2.2; omega)).mono ?_
  rintro e w8 ⟨rfl, h8⟩
  have X8 := Lib.hid (X7.out.next h8)
  have Y8 := Lib.hid (Y7.out.next h8)
  have D8 := Lib.hid (D7.out.next h8)
  clear X7 Y7 D7
  have hS8 := hS7.next h8
  have HR8 := Lib.hid (blk_next HR7.out h8)
  have HB8 : Hid (Below w.heap.size w w8) := HB7.out.trans (h8.mono HB7.out.size)
  clear hS7 
  clear h8
  rw [HCM.out]
  obtain ⟨a0, a1, a2, b0, b1, b2⟩ := hS8.three
  go_wp2_with fail
  clear a0 a1 a2 b0 b1 b2
  refine wp_region_held_drew (S := TwoR w.heap.size (w.heap.size + 1) sa na da sb nb db) (by kernel_rfl) hS8 ?_
  intro hSd
  have HRd : Hid (w8.drew.heap[w.heap.size + 2]? = some (ratObj false ⟨#[]⟩ ⟨#[]⟩)) := HR8.out
  have HBd : Hid (Below w.heap.size w w8.drew) := HB8.out.drew
  clear hS8
  have Xd : Hid (KRd .u32 w8.drew w8.drew.heap.size X (limbs (an * bd))) := X8.out
  have Yd : Hid (KRd .u32 w8.drew w8.drew.heap.size Y (limbs (bn * ad))) := Y8.out
  have Dd : Hid (KRd .u32 w8.drew w8.drew.heap.size D (limbs (ad * bd))) := D8.out
  refine wpAnyH_take (i := 0) rfl (by kernel_rfl) (by kernel_rfl) (by kernel_rfl) (fun _ _ _ h => h) (Or.inl ⟨by kernel_rfl, (by intro w' _; go_simp; with_reducible rfl)⟩) hSd ?_
  go_simp
  refine wpAnyH_take (i := 1) (v := .bool sb) rfl (by kernel_rfl) (by kernel_rfl) (by kernel_rfl) (fun _ _ _ h => h) (Or.inl ⟨by kernel_rfl, (by intro w' hw'; have tw := hw'.three; obtain ⟨a0, a1, a2, b0, b1, b2⟩ := tw; go_simp)⟩) hSd ?_
  go_simp
  refine wpAnyH_take (i := 2) rfl (by kernel_rfl) (by kernel_rfl) (by kernel_rfl) (fun _ _ _ h => h) (Or.inl ⟨by kernel_rfl, (by intro w' _; go_simp; with_reducible rfl)⟩) hSd ?_
  go_simp
  refine wpAnyH_take (i := 3) rfl (by kernel_rfl) (by kernel_rfl) (by kernel_rfl) (fun _ _ _ h => h) (Or.inl ⟨by kernel_rfl, (by intro w' _; go_simp; with_reducible rfl)⟩) hSd ?_
  go_simp
  refine wpAnyH_take (i := 5) rfl (by kernel_rfl) (by kernel_rfl) (by kernel_rfl) (fun _ _ _ h => h) (Or.inl ⟨by kernel_rfl, (by intro w' _; go_simp; with_reducible rfl)⟩) hSd ?_
  go_simp
  refine wpAnyH_ready (rs := [4]) (by kernel_rfl) (by simp) ?_
  refine AllReadyH.cons rfl (fun K hK => ?_) AllReadyH.nil
  go_simp
  refine (minus_calls Y X cy cx (bn * ad) (an * bd) _ Yd.out Xd.out (by have := HN.out.2.2.2.2.2.1; have := HN.out.2.2.2.2.2.2.2.2; omega) HLE.out).mono ?_
  rintro e we ⟨Z, cz, rfl, hcz, hkz, he⟩
  have HKZ := Lib.hid hkz
  have HCZ := Lib.hid hcz
  have De := Lib.hid (Dd.out.next he)
  have hSe := hSd.next he
  have HRe := Lib.hid (blk_next HRd.out he)
  have HBe : Hid (Below w.heap.size w we) := HBd.out.trans (he.mono HBd.out.size)
  clear hkz hcz
  clear he
  refine hK.out _ _ hSe (fun _ => ?_)
  clear hK K
  refine wpAnyH_ready (rs := [6]) (by kernel_rfl) (by simp) ?_
  refine AllReadyH.cons rfl (fun K hK => ?_) AllReadyH.nil
  go_simp
  refine (reduced_calls sb Z D cz cd (bn * ad - an * bd) (ad * bd) _ HKZ.out De.out (by have := HN.out.2.2.2.2.2.1; have := HN.out.2.2.2.2.2.2.2.2; have h9 := limbs_mono (Nat.sub_le (bn * ad) (an * bd)); omega) (by have := HN.out.2.2.2.2.2.2.1; have := HN.out.2.2.2.2.2.2.2.2; omega) HCZ.out CD.out HQ.out.1 q HQ.out.2).mono ?_
  rintro e wf ⟨rfl, hf⟩
  have hSf := hSe.next hf
  have HRf := Lib.hid (blk_next HRe.out hf)
  have HBf : Hid (Below w.heap.size w wf) := HBe.out.trans (hf.mono HBe.out.size)
  clear hf
  refine hK.out _ _ hSf (fun _ => ?_)
  clear hK K
  rw [HV.out]
  obtain ⟨c0, c1, c2, f0, f1, f2, hz⟩ := three_of HRf.out
  have n1 : w.heap.size ≠ w.heap.size + 2 := by omega
  have n2 : w.heap.size + 1 ≠ w.heap.size + 2 := by omega
  refine wpAnyH_ready (rs := [7]) (by kernel_rfl) (by simp) ?_
  refine AllReadyH.cons rfl (fun K hK => ?_) AllReadyH.nil
  go_simp
  refine hK.out _ _ (((hSf.setCell n1 n2).setCell n1 n2).setCell n1 n2) (fun _ => ?_)
  clear hK K
  refine wpAnyH_done (by kernel_rfl) ?_ _
  go_wp2_with fail
  exact bodyPost_ret (v := .agg #[.bool v1, .string v2, .string v3]) (by simp [results, Tryz.results91, go_sem, c0, c1, c2]) rfl ⟨by rw [HV.out], ((HBf.out.setCell (by simp <;> omega) _).setCell (by simp <;> omega) _).setCell (by simp <;> omega) _⟩

end Go.Proofs.YtomfcmlomfcghaaGreatDoor

/- insolvencyref1.Plus in terms of Rat. -/
set_option linter.unusedVariables false
set_option linter.unusedSimpArgs false
namespace Go.Proofs.YtomfcmlomfcghaaGreatDoor
open Go.RowKit

set_option maxHeartbeats 8000000 in
set_option maxRecDepth 100000 in
theorem refPlus_ge (a b : Rat) (k m : Nat) (w : World) (ha : Sz k a) (hb : Sz m b) (hkm : k + m ≤ 100000) (ha0 : a ≠ 0) (hb0 : b ≠ 0) (hs : rneg a ≠ rneg b) (hge : b.num.natAbs * a.den ≤ a.num.natAbs * b.den) :
    Calls Tryz.prog 91 #[ratV a, ratV b] w fun e w' => e = .returned (ratV (a + b)) ∧ Below w.heap.size w w' := by
  have hna := rnum_isEmpty ha0
  have hnb := rnum_isEmpty hb0
  have HLA := fun W => limbsRef_calls (rnum a) W (Nat.le_trans (ha.num (by omega)) (by decide))
  have HLB := fun W => limbsRef_calls (rnum b) W (Nat.le_trans (hb.num (by omega)) (by decide))
  have HDA := fun W => refDen_calls a W (ha.mono (by omega))
  have HDB := fun W => refDen_calls b W (hb.mono (by omega))
  have la := limbs_le_of_lt ha.1
  have lb := limbs_le_of_lt hb.1
  have ka := limbs_le_of_lt ha.2
  have kb := limbs_le_of_lt hb.2
  have lx := limbs_le_of_lt (pow_mul_lt ha.1 hb.2)
  have ly := limbs_le_of_lt (pow_mul_lt hb.1 ha.2)
  have ld := limbs_le_of_lt (pow_mul_lt ha.2 hb.2)
  have lxy := limbs_le_of_lt (pow_add_lt (pow_mul_lt ha.1 hb.2) (show b.num.natAbs * a.den < 256 ^ (k + m) by rw [Nat.add_comm]; exact pow_mul_lt hb.1 ha.2))
  have hd0 : a.den * b.den ≠ 0 := Nat.mul_ne_zero a.den_nz b.den_nz
  have hq : rv (rneg a) (a.num.natAbs * b.den - b.num.natAbs * a.den) (a.den * b.den) = a + b := (rv_add_ge hs hge).symm
  unfold rnum at HLA HLB
  simp only [snum_ncan] at HLA HLB
  obtain ⟨sa, hsa⟩ : ∃ x, x = rneg a := ⟨_, rfl⟩
  obtain ⟨na, hna'⟩ : ∃ x, x = rnum a := ⟨_, rfl⟩
  obtain ⟨da, hda⟩ : ∃ x, x = rden a := ⟨_, rfl⟩
  obtain ⟨sb, hsb⟩ : ∃ x, x = rneg b := ⟨_, rfl⟩
  obtain ⟨nb, hnb'⟩ : ∃ x, x = rnum b := ⟨_, rfl⟩
  obtain ⟨db, hdb⟩ : ∃ x, x = rden b := ⟨_, rfl⟩
  have hra : ratV a = .agg #[.bool sa, .string na, .string da] := by rw [ratV, hsa, hna', hda]
  have hrb : ratV b = .agg #[.bool sb, .string nb, .string db] := by rw [ratV, hsb, hnb', hdb]
  rw [hra] at HDA ⊢
  rw [hrb] at HDB ⊢
  rw [← hna'] at hna
  rw [← hnb'] at hnb
  rw [← hsa, ← hsb] at hs
  have hsq : (sa == sb) = false := by simpa using hs
  rw [← hsa] at hq
  unfold rnum at hna' hnb'
  rw [← hna'] at HLA
  rw [← hnb'] at HLB
  obtain ⟨an, han⟩ : ∃ x, x = a.num.natAbs := ⟨_, rfl⟩
  obtain ⟨bn, hbn⟩ : ∃ x, x = b.num.natAbs := ⟨_, rfl⟩
  obtain ⟨ad, had⟩ : ∃ x, x = a.den := ⟨_, rfl⟩
  obtain ⟨bd, hbd⟩ : ∃ x, x = b.den := ⟨_, rfl⟩
  obtain ⟨q, hqq⟩ : ∃ x, x = a + b := ⟨_, rfl⟩
  rw [← han] at HLA la hq hge
  rw [← hbn] at HLB lb hq hge
  rw [← had] at HDA ka hd0 hq hge
  rw [← hbd] at HDB kb hd0 hq hge
  simp only [← han, ← hbn, ← had, ← hbd] at lx ly ld lxy
  rw [← hqq] at hq ⊢
  obtain ⟨v1, v2, v3, hv⟩ : ∃ v1 v2 v3, ratV q = .agg #[.bool v1, .string v2, .string v3] := ⟨_, _, _, rfl⟩
  have HLAH := Lib.hid HLA
  have HLBH := Lib.hid HLB
  have HDAH := Lib.hid HDA
  have HDBH := Lib.hid HDB
  have HN := Lib.hid (And.intro la (And.intro lb (And.intro ka (And.intro kb (And.intro lx (And.intro ly (And.intro ld (And.intro lxy hkm))))))))
  have HQ := Lib.hid (And.intro hd0 hq)
  have HV := Lib.hid hv
  clear HLA HLB HDA HDB hqq hbd had hbn han hna' hnb' hdb hda hsa hsb hra hrb la lb ka kb lx ly ld lxy hd0 hq ha hb ha0 hb0 hv hkm hs
  have HLE := Lib.hid hge
  have hcm2 : ¬ cmpN (an * bd) (bn * ad) < 0 := by have := cmpN_ge hge; omega
  obtain ⟨cm, hcm⟩ : ∃ cm, cm = cmpN (an * bd) (bn * ad) := ⟨_, rfl⟩
  rw [← hcm] at hcm2
  have hcm3 : decide (cm < 0) = false := decide_eq_false hcm2
  have HCM := Lib.hid hcm.symm
  clear hge hcm hcm2
  go_enter Tryz.func91, Tryz.ntmps91
  go_wp2_with fail
  obtain ⟨w0, hW0⟩ : ∃ w0, w0 = ((w.alloc (.cells #[.bool sa, .string na, .string da] 70)).alloc (.cells #[.bool sb, .string nb, .string db] 70)).alloc (.cells #[.bool false, .string ⟨#[]⟩, .string ⟨#[]⟩] 70) := ⟨_, rfl⟩
  have hS0 : TwoR w.heap.size (w.heap.size + 1) sa na da sb nb db w0 := by
    rw [hW0]
    refine ⟨blk_alloc (blk_alloc (blk_new _ _)), blk_alloc ?_⟩
    have := blk_new (w.alloc (.cells #[.bool sa, .string na, .string da] 70)) (.cells #[.bool sb, .string nb, .string db] 70)
    rwa [World.size_alloc] at this
  have hR : w0.heap[w.heap.size + 2]? = some (ratObj false ⟨#[]⟩ ⟨#[]⟩) := by
    rw [hW0]
    have := blk_new ((w.alloc (.cells #[.bool sa, .string na, .string da] 70)).alloc (.cells #[.bool sb, .string nb, .string db] 70)) (.cells #[.bool false, .string ⟨#[]⟩, .string ⟨#[]⟩] 70)
    rwa [World.size_alloc, World.size_alloc] at this
  have hB : Below w.heap.size w w0 := by
    rw [hW0]
    exact rt_le
  try rw [← hW0]
  have HR0 := Lib.hid hR
  have HB0 := Lib.hid hB
  clear hW0 hR hB
  obtain ⟨a0, a1, a2, b0, b1, b2⟩ := hS0.three
  go_wp2_with fail
  refine (HDAH.out _).mono ?_
  rintro e w1 ⟨YA, ca, rfl, hca, hk1, h1⟩
  have KA1 := Lib.hid hk1
  have CA := Lib.hid hca
  clear a0 a1 a2 b0 b1 b2
  clear hk1 hca
  have hS1 := hS0.next h1
  have HR1 := Lib.hid (blk_next HR0.out h1)
  have HB1 : Hid (Below w.heap.size w w1) := HB0.out.trans (h1.mono HB0.out.size)
  clear hS0 
  clear h1
  obtain ⟨a0, a1, a2, b0, b1, b2⟩ := hS1.three
  go_wp2_with fail
  refine (HDBH.out _).mono ?_
  rintro e w2 ⟨YB, cb, rfl, hcb, hk2, h2⟩
  have KB2 := Lib.hid hk2
  have CB := Lib.hid hcb
  have KA2 := Lib.hid (KA1.out.next h2)
  clear a0 a1 a2 b0 b1 b2
  clear hk2 hcb KA1
  have hS2 := hS1.next h2
  have HR2 := Lib.hid (blk_next HR1.out h2)
  have HB2 : Hid (Below w.heap.size w w2) := HB1.out.trans (h2.mono HB1.out.size)
  clear hS1 
  clear h2
  obtain ⟨a0, a1, a2, b0, b1, b2⟩ := hS2.three
  go_wp2_with fail
  refine (HLAH.out _).mono ?_
  rintro e w3 ⟨XA, cxa, rfl, hcx, hk3, h3⟩
  have XA3 := Lib.hid hk3
  have KA3 := Lib.hid (KA2.out.next h3)
  have KB3 := Lib.hid (KB2.out.next h3)
  clear a0 a1 a2 b0 b1 b2
  clear hk3 hcx KA2 KB2
  have hS3 := hS2.next h3
  have HR3 := Lib.hid (blk_next HR2.out h3)
  have HB3 : Hid (Below w.heap.size w w3) := HB2.out.trans (h3.mono HB2.out.size)
  clear hS2 
  clear h3
  go_wp2_with fail
  refine (times_calls XA YB cxa cb an bd _ XA3.out KB3.out (by have := HN.out.1; have := HN.out.2.2.2.2.2.2.2.2; omega) (by have := HN.out.2.2.2.1; have := HN.out.2.2.2.2.2.2.2.2; omega)).mono ?_
  rintro e w4 ⟨X, cx, rfl, hcx, hk4, h4⟩
  have X4 := Lib.hid hk4
  have CX := Lib.hid hcx
  have KA4 := Lib.hid (KA3.out.next h4)
  have KB4 := Lib.hid (KB3.out.next h4)
  clear hk4 hcx KA3 KB3 XA3
  have hS4 := hS3.next h4
  have HR4 := Lib.hid (blk_next HR3.out h4)
  have HB4 : Hid (Below w.heap.size w w4) := HB3.out.trans (h4.mono HB3.out.size)
  clear hS3 
  clear h4
  obtain ⟨a0, a1, a2, b0, b1, b2⟩ := hS4.three
  go_wp2_with fail
  refine (HLBH.out _).mono ?_
  rintro e w5 ⟨XB, cxb, rfl, hcx, hk5, h5⟩
  have XB5 := Lib.hid hk5
  have KA5 := Lib.hid (KA4.out.next h5)
  have KB5 := Lib.hid (KB4.out.next h5)
  have X5 := Lib.hid (X4.out.next h5)
  clear a0 a1 a2 b0 b1 b2
  clear hk5 hcx KA4 KB4 X4
  have hS5 := hS4.next h5
  have HR5 := Lib.hid (blk_next HR4.out h5)
  have HB5 : Hid (Below w.heap.size w w5) := HB4.out.trans (h5.mono HB4.out.size)
  clear hS4 
  clear h5
  go_wp2_with fail
  refine (times_calls XB YA cxb ca bn ad _ XB5.out KA5.out (by have := HN.out.2.1; have := HN.out.2.2.2.2.2.2.2.2; omega) (by have := HN.out.2.2.1; have := HN.out.2.2.2.2.2.2.2.2; omega)).mono ?_
  rintro e w6 ⟨Y, cy, rfl, hcy, hk6, h6⟩
  have Y6 := Lib.hid hk6
  have CY := Lib.hid hcy
  have KA6 := Lib.hid (KA5.out.next h6)
  have KB6 := Lib.hid (KB5.out.next h6)
  have X6 := Lib.hid (X5.out.next h6)
  clear hk6 hcy KA5 KB5 XB5 X5
  have hS6 := hS5.next h6
  have HR6 := Lib.hid (blk_next HR5.out h6)
  have HB6 : Hid (Below w.heap.size w w6) := HB5.out.trans (h6.mono HB5.out.size)
  clear hS5 
  clear h6
  go_wp2_with fail
  refine (times_calls YA YB ca cb ad bd _ KA6.out KB6.out (by have := HN.out.2.2.1; have := HN.out.2.2.2.2.2.2.2.2; omega) (by have := HN.out.2.2.2.1; have := HN.out.2.2.2.2.2.2.2.2; omega)).mono ?_
  rintro e w7 ⟨D, cd, rfl, hcd, hk7, h7⟩
  have D7 := Lib.hid hk7
  have CD := Lib.hid hcd
  have X7 := Lib.hid (X6.out.next h7)
  have Y7 := Lib.hid (Y6.out.next h7)
  clear hk7 hcd KA6 KB6 X6 Y6
  have hS7 := hS6.next h7
  have HR7 := Lib.hid (blk_next HR6.out h7)
  have HB7 : Hid (Below w.heap.size w w7) := HB6.out.trans (h7.mono HB6.out.size)
  clear hS6 
  clear h7
  obtain ⟨a0, a1, a2, b0, b1, b2⟩ := hS7.three
  go_wp2_with fail
  clear a0 a1 a2 b0 b1 b2
  refine (order_calls X Y cx cy (an * bd) (bn * ad) _ X7.out Y7.out (by have := HN.out.2.2.2.2.1; have := HN.out.2.2.2.2.2.2.2.2; omega) (by have := HN.out.2.2.2.2.2.1; have := HN.out.2.2.2.2.2.2.2.2; omega)).mono ?_
  rintro e w8 ⟨rfl, h8⟩
  have X8 := Lib.hid (X7.out.next h8)
  have Y8 := Lib.hid (Y7.out.next h8)
  have D8 := Lib.hid (D7.out.next h8)
  clear X7 Y7 D7
  have hS8 := hS7.next h8
  have HR8 := Lib.hid (blk_next HR7.out h8)
  have HB8 : Hid (Below w.heap.size w w8) := HB7.out.trans (h8.mono HB7.out.size)
  clear hS7 
  clear h8
  rw [HCM.out]
  obtain ⟨a0, a1, a2, b0, b1, b2⟩ := hS8.three
  go_wp2_with fail
  clear a0 a1 a2 b0 b1 b2
  refine wp_region_held_drew (S := TwoR w.heap.size (w.heap.size + 1) sa na da sb nb db) (by kernel_rfl) hS8 ?_
  intro hSd
  have HRd : Hid (w8.drew.heap[w.heap.size + 2]? = some (ratObj false ⟨#[]⟩ ⟨#[]⟩)) := HR8.out
  have HBd : Hid (Below w.heap.size w w8.drew) := HB8.out.drew
  clear hS8
  have Xd : Hid (KRd .u32 w8.drew w8.drew.heap.size X (limbs (an * bd))) := X8.out
  have Yd : Hid (KRd .u32 w8.drew w8.drew.heap.size Y (limbs (bn * ad))) := Y8.out
  have Dd : Hid (KRd .u32 w8.drew w8.drew.heap.size D (limbs (ad * bd))) := D8.out
  refine wpAnyH_take (i := 0) rfl (by kernel_rfl) (by kernel_rfl) (by kernel_rfl) (fun _ _ _ h => h) (Or.inl ⟨by kernel_rfl, (by intro w' _; go_simp; with_reducible rfl)⟩) hSd ?_
  go_simp
  refine wpAnyH_take (i := 1) (v := .bool sa) rfl (by kernel_rfl) (by kernel_rfl) (by kernel_rfl) (fun _ _ _ h => h) (Or.inl ⟨by kernel_rfl, (by intro w' hw'; have tw := hw'.three; obtain ⟨a0, a1, a2, b0, b1, b2⟩ := tw; go_simp)⟩) hSd ?_
  go_simp
  refine wpAnyH_take (i := 2) rfl (by kernel_rfl) (by kernel_rfl) (by kernel_rfl) (fun _ _ _ h => h) (Or.inl ⟨by kernel_rfl, (by intro w' _; go_simp; with_reducible rfl)⟩) hSd ?_
  go_simp
  refine wpAnyH_take (i := 3) rfl (by kernel_rfl) (by kernel_rfl) (by kernel_rfl) (fun _ _ _ h => h) (Or.inl ⟨by kernel_rfl, (by intro w' _; go_simp; with_reducible rfl)⟩) hSd ?_
  go_simp
  refine wpAnyH_take (i := 5) rfl (by kernel_rfl) (by kernel_rfl) (by kernel_rfl) (fun _ _ _ h => h) (Or.inl ⟨by kernel_rfl, (by intro w' _; go_simp; with_reducible rfl)⟩) hSd ?_
  go_simp
  refine wpAnyH_ready (rs := [4]) (by kernel_rfl) (by simp) ?_
  refine AllReadyH.cons rfl (fun K hK => ?_) AllReadyH.nil
  go_simp
  refine (minus_calls X Y cx cy (an * bd) (bn * ad) _ Xd.out Yd.out (by have := HN.out.2.2.2.2.1; have := HN.out.2.2.2.2.2.2.2.2; omega) HLE.out).mono ?_
  rintro e we ⟨Z, cz, rfl, hcz, hkz, he⟩
  have HKZ := Lib.hid hkz
  have HCZ := Lib.hid hcz
  have De := Lib.hid (Dd.out.next he)
  have hSe := hSd.next he
  have HRe := Lib.hid (blk_next HRd.out he)
  have HBe : Hid (Below w.heap.size w we) := HBd.out.trans (he.mono HBd.out.size)
  clear hkz hcz
  clear he
  refine hK.out _ _ hSe (fun _ => ?_)
  clear hK K
  refine wpAnyH_ready (rs := [6]) (by kernel_rfl) (by simp) ?_
  refine AllReadyH.cons rfl (fun K hK => ?_) AllReadyH.nil
  go_simp
  refine (reduced_calls sa Z D cz cd (an * bd - bn * ad) (ad * bd) _ HKZ.out De.out (by have := HN.out.2.2.2.2.1; have := HN.out.2.2.2.2.2.2.2.2; have h9 := limbs_mono (Nat.sub_le (an * bd) (bn * ad)); omega) (by have := HN.out.2.2.2.2.2.2.1; have := HN.out.2.2.2.2.2.2.2.2; omega) HCZ.out CD.out HQ.out.1 q HQ.out.2).mono ?_
  rintro e wf ⟨rfl, hf⟩
  have hSf := hSe.next hf
  have HRf := Lib.hid (blk_next HRe.out hf)
  have HBf : Hid (Below w.heap.size w wf) := HBe.out.trans (hf.mono HBe.out.size)
  clear hf
  refine hK.out _ _ hSf (fun _ => ?_)
  clear hK K
  rw [HV.out]
  obtain ⟨c0, c1, c2, f0, f1, f2, hz⟩ := three_of HRf.out
  have n1 : w.heap.size ≠ w.heap.size + 2 := by omega
  have n2 : w.heap.size + 1 ≠ w.heap.size + 2 := by omega
  refine wpAnyH_ready (rs := [7]) (by kernel_rfl) (by simp) ?_
  refine AllReadyH.cons rfl (fun K hK => ?_) AllReadyH.nil
  go_simp
  refine hK.out _ _ (((hSf.setCell n1 n2).setCell n1 n2).setCell n1 n2) (fun _ => ?_)
  clear hK K
  refine wpAnyH_done (by kernel_rfl) ?_ _
  go_wp2_with fail
  exact bodyPost_ret (v := .agg #[.bool v1, .string v2, .string v3]) (by simp [results, Tryz.results91, go_sem, c0, c1, c2]) rfl ⟨by rw [HV.out], ((HBf.out.setCell (by simp <;> omega) _).setCell (by simp <;> omega) _).setCell (by simp <;> omega) _⟩

end Go.Proofs.YtomfcmlomfcghaaGreatDoor

/- insolvencyref1: Plus, Minus, Less in terms of Rat. -/
set_option linter.unusedVariables false
set_option linter.unusedSimpArgs false
namespace Go.Proofs.YtomfcmlomfcghaaGreatDoor
open Go.RowKit

theorem refTimes_calls (a b : Rat) (k m : Nat) (w : World) (ha : Sz k a) (hb : Sz m b) (hkm : k + m ≤ 100000) :
    Calls Tryz.prog 79 #[ratV a, ratV b] w fun e w' => e = .returned (ratV (a * b)) ∧ Below w.heap.size w w' := by
  by_cases ha0 : a = 0
  · rw [show a * b = 0 by rw [ha0, Rat.zero_mul]]
    rw [ratV, ratV, rnum_empty ha0]
    exact refTimes_zeroA _ _ _ _ _ w
  · by_cases hb0 : b = 0
    · rw [show a * b = 0 by rw [hb0, Rat.mul_zero]]
      rw [ratV, ratV, rnum_empty hb0]
      exact refTimes_zeroB _ _ _ _ _ w (rnum_isEmpty ha0)
    · exact refTimes_main a b k m w ha hb hkm ha0 hb0

theorem refPlus_calls (a b : Rat) (k m : Nat) (w : World) (ha : Sz k a) (hb : Sz m b) (hkm : k + m ≤ 100000) :
    Calls Tryz.prog 91 #[ratV a, ratV b] w fun e w' => e = .returned (ratV (a + b)) ∧ Below w.heap.size w w' := by
  by_cases ha0 : a = 0
  · rw [show a + b = b by rw [ha0, Rat.zero_add]]
    rw [show ratV a = .agg #[.bool (rneg a), .string ⟨#[]⟩, .string (rden a)] by rw [ratV, rnum_empty ha0]]
    exact refPlus_zeroA b _ _ w
  · by_cases hb0 : b = 0
    · rw [show a + b = a by rw [hb0, Rat.add_zero]]
      rw [show ratV b = .agg #[.bool (rneg b), .string ⟨#[]⟩, .string (rden b)] by rw [ratV, rnum_empty hb0]]
      exact refPlus_zeroB a _ _ w ha0
    · by_cases hs : rneg a = rneg b
      · exact refPlus_same a b k m w ha hb hkm ha0 hb0 hs
      · rcases Nat.lt_or_ge (a.num.natAbs * b.den) (b.num.natAbs * a.den) with h | h
        · exact refPlus_lt a b k m w ha hb hkm ha0 hb0 hs h
        · exact refPlus_ge a b k m w ha hb hkm ha0 hb0 hs h

theorem rneg_of_zero {q : Rat} (h : q = 0) : rneg q = false := by rw [h]; decide
theorem sgnR_neg (q : Rat) : decide (sgnR q < 0) = rneg q := by
  unfold sgnR
  by_cases h : q = 0
  · rw [if_pos h, rneg_of_zero h]; decide
  · rw [if_neg h]
    cases rneg q <;> decide

set_option maxHeartbeats 1000000 in
set_option maxRecDepth 100000 in
theorem refMinus_calls (a b : Rat) (k m : Nat) (w : World) (ha : Sz k a) (hb : Sz m b) (hkm : k + m ≤ 100000) :
    Calls Tryz.prog 90 #[ratV a, ratV b] w fun e w' => e = .returned (ratV (a - b)) ∧ Below w.heap.size w w' := by
  have HO := fun W => refOpposite_calls b W
  have HP := fun W => refPlus_calls a (-b) k m W ha hb.neg hkm
  rw [← Rat.sub_eq_add_neg] at HP
  obtain ⟨sa, hsa⟩ : ∃ x, x = rneg a := ⟨_, rfl⟩
  obtain ⟨na, hna⟩ : ∃ x, x = rnum a := ⟨_, rfl⟩
  obtain ⟨da, hda⟩ : ∃ x, x = rden a := ⟨_, rfl⟩
  obtain ⟨sb, hsb⟩ : ∃ x, x = rneg b := ⟨_, rfl⟩
  obtain ⟨nb, hnb⟩ : ∃ x, x = rnum b := ⟨_, rfl⟩
  obtain ⟨db, hdb⟩ : ∃ x, x = rden b := ⟨_, rfl⟩
  have hra : ratV a = .agg #[.bool sa, .string na, .string da] := by rw [ratV, hsa, hna, hda]
  have hrb : ratV b = .agg #[.bool sb, .string nb, .string db] := by rw [ratV, hsb, hnb, hdb]
  obtain ⟨u1, u2, u3, hu⟩ : ∃ v1 v2 v3, ratV (-b) = .agg #[.bool v1, .string v2, .string v3] := ⟨_, _, _, rfl⟩
  obtain ⟨v1, v2, v3, hv⟩ : ∃ v1 v2 v3, ratV (a - b) = .agg #[.bool v1, .string v2, .string v3] := ⟨_, _, _, rfl⟩
  rw [hra, hu, hv] at HP
  rw [hrb, hu] at HO
  rw [hra, hrb, hv]
  have HOH := Lib.hid HO
  have HPH := Lib.hid HP
  clear HO HP hra hrb hu hv hsa hna hda hsb hnb hdb ha hb
  go_enter Tryz.func90, Tryz.ntmps90
  go_wp2_with fail
  obtain ⟨w0, hW0⟩ : ∃ w0, w0 = ((w.alloc (.cells #[.bool sa, .string na, .string da] 70)).alloc (.cells #[.bool sb, .string nb, .string db] 70)).alloc (.cells #[.bool false, .string ⟨#[]⟩, .string ⟨#[]⟩] 70) := ⟨_, rfl⟩
  have hS0 : TwoR w.heap.size (w.heap.size + 1) sa na da sb nb db w0 := by
    rw [hW0]
    refine ⟨blk_alloc (blk_alloc (blk_new _ _)), blk_alloc ?_⟩
    have := blk_new (w.alloc (.cells #[.bool sa, .string na, .string da] 70)) (.cells #[.bool sb, .string nb, .string db] 70)
    rwa [World.size_alloc] at this
  have hR : w0.heap[w.heap.size + 2]? = some (ratObj false ⟨#[]⟩ ⟨#[]⟩) := by
    rw [hW0]
    have := blk_new ((w.alloc (.cells #[.bool sa, .string na, .string da] 70)).alloc (.cells #[.bool sb, .string nb, .string db] 70)) (.cells #[.bool false, .string ⟨#[]⟩, .string ⟨#[]⟩] 70)
    rwa [World.size_alloc, World.size_alloc] at this
  have hB : Below w.heap.size w w0 := by
    rw [hW0]
    exact rt_le
  try rw [← hW0]
  have HR0 := Lib.hid hR
  have HB0 := Lib.hid hB
  clear hW0 hR hB
  refine wp_region_held_drew (S := TwoR w.heap.size (w.heap.size + 1) sa na da sb nb db) (by kernel_rfl) hS0 ?_
  intro hSd
  have HRd : Hid (w0.drew.heap[w.heap.size + 2]? = some (ratObj false ⟨#[]⟩ ⟨#[]⟩)) := HR0.out
  have HBd : Hid (Below w.heap.size w w0.drew) := HB0.out.drew
  clear hS0
  refine wpAnyH_take (i := 0) (v := .agg #[.bool sa, .string na, .string da]) rfl (by kernel_rfl) (by kernel_rfl) (by kernel_rfl) (fun _ _ _ h => h) (Or.inl ⟨by kernel_rfl, (by intro w' hw'; have tw := hw'.three; obtain ⟨a0, a1, a2, b0, b1, b2⟩ := tw; go_simp)⟩) hSd ?_
  go_simp
  refine wpAnyH_take (i := 1) (v := .agg #[.bool sb, .string nb, .string db]) rfl (by kernel_rfl) (by kernel_rfl) (by kernel_rfl) (fun _ _ _ h => h) (Or.inl ⟨by kernel_rfl, (by intro w' hw'; have tw := hw'.three; obtain ⟨a0, a1, a2, b0, b1, b2⟩ := tw; go_simp)⟩) hSd ?_
  go_simp
  refine wpAnyH_ready (rs := [2]) (by kernel_rfl) (by simp) ?_
  refine AllReadyH.cons rfl (fun K hK => ?_) AllReadyH.nil
  go_simp
  refine (HOH.out _).mono ?_
  rintro e w1 ⟨rfl, h1⟩
  have hS1 := hSd.next h1
  have HR1 := Lib.hid (blk_next HRd.out h1)
  have HB1 : Hid (Below w.heap.size w w1) := HBd.out.trans (h1.mono HBd.out.size)
  clear h1
  refine hK.out _ _ hS1 (fun _ => ?_)
  clear hK K
  refine wpAnyH_ready (rs := [3]) (by kernel_rfl) (by simp) ?_
  refine AllReadyH.cons rfl (fun K hK => ?_) AllReadyH.nil
  go_simp
  refine (HPH.out _).mono ?_
  rintro e w2 ⟨rfl, h2⟩
  have hS2 := hS1.next h2
  have HR2 := Lib.hid (blk_next HR1.out h2)
  have HB2 : Hid (Below w.heap.size w w2) := HB1.out.trans (h2.mono HB1.out.size)
  clear h2
  refine hK.out _ _ hS2 (fun _ => ?_)
  clear hK K
  obtain ⟨c0, c1, c2, f0, f1, f2, hz⟩ := three_of HR2.out
  have n1 : w.heap.size ≠ w.heap.size + 2 := by omega
  have n2 : w.heap.size + 1 ≠ w.heap.size + 2 := by omega
  refine wpAnyH_ready (rs := [4]) (by kernel_rfl) (by simp) ?_
  refine AllReadyH.cons rfl (fun K hK => ?_) AllReadyH.nil
  go_simp
  refine hK.out _ _ (((hS2.setCell n1 n2).setCell n1 n2).setCell n1 n2) (fun _ => ?_)
  clear hK K
  refine wpAnyH_done (by kernel_rfl) ?_ _
  go_wp2_with fail
  exact bodyPost_ret (v := .agg #[.bool v1, .string v2, .string v3]) (by simp [results, Tryz.results90, go_sem, c0, c1, c2]) rfl ⟨rfl, ((HB2.out.setCell (by simp <;> omega) _).setCell (by simp <;> omega) _).setCell (by simp <;> omega) _⟩

set_option maxHeartbeats 1000000 in
set_option maxRecDepth 100000 in
theorem refLess_calls (a b : Rat) (k m : Nat) (w : World) (ha : Sz k a) (hb : Sz m b) (hkm : k + m ≤ 100000) :
    Calls Tryz.prog 63 #[ratV a, ratV b] w fun e w' => e = .returned (.bool (decide (a < b))) ∧ Below w.heap.size w w' := by
  have HM := fun W => refMinus_calls a b k m W ha hb hkm
  have HS := fun W => refSignum_calls (a - b) W
  have hd : decide (a < b) = decide (sgnR (a - b) < 0) := by rw [sgnR_neg, lt_sub]
  rw [hd]
  obtain ⟨c, hc⟩ : ∃ c, c = sgnR (a - b) := ⟨_, rfl⟩
  rw [← hc] at HS ⊢
  obtain ⟨sa, hsa⟩ : ∃ x, x = rneg a := ⟨_, rfl⟩
  obtain ⟨na, hna⟩ : ∃ x, x = rnum a := ⟨_, rfl⟩
  obtain ⟨da, hda⟩ : ∃ x, x = rden a := ⟨_, rfl⟩
  obtain ⟨sb, hsb⟩ : ∃ x, x = rneg b := ⟨_, rfl⟩
  obtain ⟨nb, hnb⟩ : ∃ x, x = rnum b := ⟨_, rfl⟩
  obtain ⟨db, hdb⟩ : ∃ x, x = rden b := ⟨_, rfl⟩
  have hra : ratV a = .agg #[.bool sa, .string na, .string da] := by rw [ratV, hsa, hna, hda]
  have hrb : ratV b = .agg #[.bool sb, .string nb, .string db] := by rw [ratV, hsb, hnb, hdb]
  obtain ⟨v1, v2, v3, hv⟩ : ∃ v1 v2 v3, ratV (a - b) = .agg #[.bool v1, .string v2, .string v3] := ⟨_, _, _, rfl⟩
  rw [hra, hrb, hv] at HM
  rw [hv] at HS
  rw [hra, hrb]
  have HMH := Lib.hid HM
  have HSH := Lib.hid HS
  clear HM HS hra hrb hv hsa hna hda hsb hnb hdb hd hc ha hb
  go_enter Tryz.func63, Tryz.ntmps63
  go_wp2_with fail
  refine (HMH.out _).mono ?_
  rintro e w1 ⟨rfl, h1⟩
  have HB1 : Hid (Below w.heap.size w w1) := (((Below.refl _ _).alloc (Nat.le_refl _) _).alloc (by simp) _).trans (h1.mono (by simp <;> omega))
  clear h1
  go_wp2_with fail
  refine (HSH.out _).mono ?_
  rintro e w2 ⟨rfl, h2⟩
  have HB2 : Hid (Below w.heap.size w w2) := HB1.out.trans (h2.mono HB1.out.size)
  clear h2
  go_wp2_with fail
  go_ret
  exact ⟨rfl, HB2.out⟩

end Go.Proofs.YtomfcmlomfcghaaGreatDoor

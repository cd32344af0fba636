/- Merged of RedB RedC RatRed. -/
import Derived.Test.YtjlicnhkemfmiaaGreatDoorSq
import Derived.Test.YtjlicnhkemfmiaaGreatDoorM13
/- insolvencyref1.reduced: a common divisor of several digits. -/
set_option linter.unusedVariables false
set_option linter.unusedSimpArgs false
set_option maxHeartbeats 8000000
set_option maxRecDepth 100000
namespace Go.Proofs.YtjlicnhkemfmiaaGreatDoor
open Go.RowKit
theorem reduced_many (neg : Bool) (X Y : Option Addr) (cx cy x y g x1 y1 : Nat) (w : World) (hrx : KRd .u32 w w.heap.size X (limbs x)) (hry : KRd .u32 w w.heap.size Y (limbs y)) (hlx : (limbs x).length ≤ 100000000) (hly : (limbs y).length ≤ 100000000) (hcx : (limbs x).length ≤ cx) (hcy : (limbs y).length ≤ cy)
 (hx0 : x ≠ 0) (hy0 : y ≠ 0) (hg : Nat.gcd x y = g) (hx1 : x / g = x1) (hy1 : y / g = y1) (hgc : 1 < (limbs g).length) :
 Calls Tryz.prog 114 #[.bool neg, .slice X (limbs x).length cx, .slice Y (limbs y).length cy] w fun e w' => e = .returned (.agg #[.bool neg, .string (ncan x1), .string (if y1 = 1 then ⟨#[]⟩ else ncan y1)]) ∧ Below w.heap.size w w' := by
 have HC := fun W (hW : Below w.heap.size w W) => common_calls X Y cx cy x y W (hrx.next hW) (hry.next hW) hlx hly hcx hcy
 rw [hg] at HC
 have HC := Lib.hid HC
 have hg0 : g ≠ 0 := by rw [← hg]; exact Nat.gcd_ne_zero_left hx0
 have hx10 : x1 ≠ 0 := by
  rw [← hx1, ← hg]
  exact Nat.ne_of_gt (Nat.div_pos (Nat.le_of_dvd (Nat.pos_of_ne_zero hx0) (Nat.gcd_dvd_left x y)) (Nat.pos_of_ne_zero (by rw [hg]; exact hg0)))
 have hy10 : y1 ≠ 0 := by
  rw [← hy1, ← hg]
  exact Nat.ne_of_gt (Nat.div_pos (Nat.le_of_dvd (Nat.pos_of_ne_zero hy0) (Nat.gcd_dvd_right x y)) (Nat.pos_of_ne_zero (by rw [hg]; exact hg0)))
 have hlx1 : (limbs x1).length ≤ 100000000 := by rw [← hx1]; have := limbs_mono (Nat.div_le_self x g); omega
 have hly1 : (limbs y1).length ≤ 100000000 := by rw [← hy1]; have := limbs_mono (Nat.div_le_self y g); omega
 have hxp := limbs_len_pos hx0
 have hne0 : (((limbs x).length : Int) == 0) = false := by rw [beq_eq_false_iff_ne]; omega
 have HX := Lib.hid hrx
 have HY := Lib.hid hry
 have HLX := Lib.hid (And.intro hlx (And.intro hcx (And.intro hlx1 hx10)))
 have HLY := Lib.hid (And.intro hly (And.intro hcy (And.intro hly1 hy10)))
 have HG := Lib.hid (And.intro hg0 (And.intro hx1 hy1))
 clear hrx hry hlx hly hcx hcy hlx1 hly1 hx10 hy10 hx0 hg hx1 hy1 hxp hg0 hy0
 go_enter Tryz.func114, Tryz.ntmps114
 go_wp2_with fail
 refine (HC.out _ (bel_alloc _ _)).mono ?_
 rintro e wc ⟨G, cg, rfl, hcg, hlg, hkg, hbc⟩
 have HRES := Lib.hid (blk_next (blk_new _ _) hbc)
 have HBC : Hid (Below w.heap.size w wc) := (bel_alloc _ _).trans (hbc.mono (by simp))
 have HX2 := Lib.hid (HX.out.next HBC.out)
 have HY2 := Lib.hid (HY.out.next HBC.out)

 have HKG := Lib.hid hkg
 have HD1 := rdivide_calls X G cx cg x g wc HX2.out hkg HLX.out.1 hlg HLX.out.2.1 HG.out.1
 rw [HG.out.2.1] at HD1
 have HD1 := Lib.hid HD1
 clear hkg hbc HX HY HC
 have HLG := Lib.hid hlg
 have tg : decide ((1 : Int) < ((limbs g).length : Int)) = true := decide_eq_true (by omega)
 clear hgc hlg
 go_wp2_with fail
 refine HD1.out.mono ?_
 rintro e w1 ⟨Q1, cq1, R1, cr1, rfl, hcq1, hcr1, hrq1, hrr1, hb1⟩
 have HD2 := rdivide_calls Y G cy cg y g w1 (HY2.out.next hb1) (HKG.out.next hb1) HLY.out.1 HLG.out HLY.out.2.1 HG.out.1
 rw [HG.out.2.2] at HD2
 have HD2 := Lib.hid HD2
 have HQ1 := Lib.hid hrq1
 have HRES1 := Lib.hid (blk_next HRES.out hb1)
 have HB1 := ben HBC hb1
 clear hcr1 hrq1 hrr1 hb1
 go_wp2_with fail
 refine HD2.out.mono ?_
 rintro e w2 ⟨Q2, cq2, R2, cr2, rfl, hcq2, hcr2, hrq2, hrr2, hb2⟩
 have HQ1b := Lib.hid (HQ1.out.next hb2)
 have HQ2 := Lib.hid hrq2
 have HRES2 := Lib.hid (blk_next HRES1.out hb2)
 have HB2 := ben HB1 hb2
 have HCQ1 := Lib.hid hcq1
 have HCQ2 := Lib.hid hcq2
 clear hcr2 hrq2 hrr2 hb2 hcq1 hcq2

 have HT1 := textRef_calls Q1 cq1 (limbs x1) w2 HQ1b.out (limbs_dig _) HCQ1.out (by have := HLX.out.2.2.1; omega)
 rw [valL_limbs] at HT1
 have HT1 := Lib.hid HT1
 rcases limbs_cases HLY.out.2.2.2 with hd | hd | ⟨hd1, hd2, hd3⟩
 ·
  subst hd
  obtain ⟨bd, od, rfl, hbd, hcd⟩ := krd_head HQ2.out (by decide) (by decide)
  have hl1 : (limbs 1).length = 1 := by rw [limbs_one1]; rfl
  rw [hl1]
  have HHC := Lib.hid hcd
  clear hcd hl1
  go_wp2_with fail
  refine HT1.out.mono ?_
  rintro e wt ⟨rfl, hbt⟩
  have hcd := (hbt.cell (p := ⟨bd, od, none⟩) hbd).trans HHC.out
  have hbd2 : bd < wt.heap.size := by have := hbt.size; omega
  have HBT := ben HB2 hbt
  obtain ⟨c0, c1, c2, f0, f1, f2, hz⟩ := three_of (blk_next HRES2.out hbt)
  clear hbt
  go_wp2_with fail
  exact bodyPost_ret (v := .agg #[.bool neg, .string (ncan x1), .string ⟨#[]⟩]) (by simp [results, Tryz.results114, go_sem, c0, c1, c2, hz, Nat.ne_of_lt hz, Nat.ne_of_gt hz]) rfl ⟨rfl, (((HBT.out.setCell (by simp) _).setCell (by simp) _).setCell (by simp) _).alloc (by simp <;> omega) _⟩
 ·
  have t1 : decide ((1 : Int) < ((limbs y1).length : Int)) = true := decide_eq_true (by omega)
  have hy11 : y1 ≠ 1 := by rintro rfl; rw [limbs_one1] at hd; simp at hd
  have HN1 := Lib.hid hy11
  clear hd hy11
  go_wp2_with fail
  refine HT1.out.mono ?_
  rintro e wt ⟨rfl, hbt⟩
  have HBT := ben HB2 hbt
  have HT2 := fun W (hW : Below wt.heap.size wt W) => textRef_calls Q2 cq2 (limbs y1) W ((HQ2.out.next hbt).next hW) (limbs_dig _) HCQ2.out (by have := HLY.out.2.2.1; omega)
  rw [valL_limbs] at HT2
  have HT2 := Lib.hid HT2
  have HRT := Lib.hid (blk_next HRES2.out hbt)
  have hzt := HBT.out.size
  clear hbt
  go_wp2_with fail
  refine (HT2.out _ ?_).mono ?_
  ·
   exact (Below.refl _ _).alloc (Nat.le_refl _) _
  rintro e wu ⟨rfl, hbu⟩
  have HBU : Hid (Below w.heap.size w wu) := HBT.out.trans ((((Below.refl _ _).alloc (Nat.le_refl _) _).trans (hbu.mono (by simp))).mono HBT.out.size)
  obtain ⟨c0, c1, c2, f0, f1, f2, hz⟩ := three_of (blk_next (blk_alloc HRT.out) hbu)
  obtain ⟨r0, r1, r2, s0, s1, s2, rz⟩ := three_of (blk_next (blk_new _ _) hbu)
  have hnt : w.heap.size ≠ wt.heap.size := by have := (three_of HRT.out).2.2.2.2.2.2; omega
  clear hbu
  go_wp2_with fail
  exact bodyPost_ret (v := .agg #[.bool neg, .string (ncan x1), .string (ncan y1)]) (by simp [results, Tryz.results114, go_sem, c0, c1, c2, r0, r1, r2, hz, rz, hnt, Ne.symm hnt]) rfl ⟨by first | rfl | rw [if_neg HN1.out], (((HBU.out.setCell (by simp <;> omega) _).setCell (by simp) _).setCell (by simp) _).setCell (by simp) _⟩
 ·
  have hy11 : y1 ≠ 1 := by omega
  obtain ⟨bd, od, rfl, hbd, hcd⟩ := krd_head HQ2.out (by omega) hd3
  have t1 : decide ((1 : Int) < (y1 : Int)) = true := decide_eq_true (by omega)
  have HHD := Lib.hid (And.intro hd1 (And.intro hd2 hd3))
  have HL1 := Lib.hid hd1
  obtain ⟨ly, hly⟩ : ∃ ly, ly = (limbs y1).length := ⟨_, rfl⟩
  rw [← hly] at hd1
  rw [← hly]
  subst hd1
  have HLY1 := Lib.hid hly
  have HHC := Lib.hid hcd
  have HN1 := Lib.hid hy11
  clear hcd hd2 hy11 hly
  go_wp2_with fail
  refine HT1.out.mono ?_
  rintro e wt ⟨rfl, hbt⟩
  have hcd := (hbt.cell (p := ⟨bd, od, none⟩) hbd).trans HHC.out
  have hbd2 : bd < wt.heap.size := by have := hbt.size; omega
  have HBT := ben HB2 hbt
  have HT2 := fun W (hW : Below wt.heap.size wt W) => textRef_calls (some ⟨bd, od, none⟩) cq2 (limbs y1) W ((HQ2.out.next hbt).next hW) (limbs_dig _) HCQ2.out (by have := HLY.out.2.2.1; omega)
  rw [valL_limbs, ← HLY1.out] at HT2
  have HT2 := Lib.hid HT2
  have HRT := Lib.hid (blk_next HRES2.out hbt)
  have hzt := HBT.out.size
  clear hbt
  go_wp2_with fail
  refine (HT2.out _ ?_).mono ?_
  ·
   exact (Below.refl _ _).alloc (Nat.le_refl _) _
  rintro e wu ⟨rfl, hbu⟩
  have HBU : Hid (Below w.heap.size w wu) := HBT.out.trans ((((Below.refl _ _).alloc (Nat.le_refl _) _).trans (hbu.mono (by simp))).mono HBT.out.size)
  obtain ⟨c0, c1, c2, f0, f1, f2, hz⟩ := three_of (blk_next (blk_alloc HRT.out) hbu)
  obtain ⟨r0, r1, r2, s0, s1, s2, rz⟩ := three_of (blk_next (blk_new _ _) hbu)
  have hnt : w.heap.size ≠ wt.heap.size := by have := (three_of HRT.out).2.2.2.2.2.2; omega
  clear hbu
  go_wp2_with fail
  exact bodyPost_ret (v := .agg #[.bool neg, .string (ncan x1), .string (ncan y1)]) (by simp [results, Tryz.results114, go_sem, c0, c1, c2, r0, r1, r2, hz, rz, hnt, Ne.symm hnt]) rfl ⟨by first | rfl | rw [if_neg HN1.out], (((HBU.out.setCell (by simp <;> omega) _).setCell (by simp) _).setCell (by simp) _).setCell (by simp) _⟩


end Go.Proofs.YtjlicnhkemfmiaaGreatDoor

/- insolvencyref1.reduced: a common divisor of one digit. -/
namespace Go.Proofs.YtjlicnhkemfmiaaGreatDoor
open Go.RowKit
theorem reduced_few (neg : Bool) (X Y : Option Addr) (cx cy x y g x1 y1 : Nat) (w : World) (hrx : KRd .u32 w w.heap.size X (limbs x)) (hry : KRd .u32 w w.heap.size Y (limbs y)) (hlx : (limbs x).length ≤ 100000000) (hly : (limbs y).length ≤ 100000000) (hcx : (limbs x).length ≤ cx) (hcy : (limbs y).length ≤ cy)
 (hx0 : x ≠ 0) (hy0 : y ≠ 0) (hg : Nat.gcd x y = g) (hx1 : x / g = x1) (hy1 : y / g = y1) (hgc1 : (limbs g).length = 1) (hgc2 : 1 < g) (hgc3 : g < 4294967296) :
 Calls Tryz.prog 114 #[.bool neg, .slice X (limbs x).length cx, .slice Y (limbs y).length cy] w fun e w' => e = .returned (.agg #[.bool neg, .string (ncan x1), .string (if y1 = 1 then ⟨#[]⟩ else ncan y1)]) ∧ Below w.heap.size w w' := by
 have HC := fun W (hW : Below w.heap.size w W) => common_calls X Y cx cy x y W (hrx.next hW) (hry.next hW) hlx hly hcx hcy
 rw [hg] at HC
 have HC := Lib.hid HC
 have hg0 : g ≠ 0 := by rw [← hg]; exact Nat.gcd_ne_zero_left hx0
 have hx10 : x1 ≠ 0 := by
  rw [← hx1, ← hg]
  exact Nat.ne_of_gt (Nat.div_pos (Nat.le_of_dvd (Nat.pos_of_ne_zero hx0) (Nat.gcd_dvd_left x y)) (Nat.pos_of_ne_zero (by rw [hg]; exact hg0)))
 have hy10 : y1 ≠ 0 := by
  rw [← hy1, ← hg]
  exact Nat.ne_of_gt (Nat.div_pos (Nat.le_of_dvd (Nat.pos_of_ne_zero hy0) (Nat.gcd_dvd_right x y)) (Nat.pos_of_ne_zero (by rw [hg]; exact hg0)))
 have hlx1 : (limbs x1).length ≤ 100000000 := by rw [← hx1]; have := limbs_mono (Nat.div_le_self x g); omega
 have hly1 : (limbs y1).length ≤ 100000000 := by rw [← hy1]; have := limbs_mono (Nat.div_le_self y g); omega
 have hxp := limbs_len_pos hx0
 have hne0 : (((limbs x).length : Int) == 0) = false := by rw [beq_eq_false_iff_ne]; omega
 have HX := Lib.hid hrx
 have HY := Lib.hid hry
 have HLX := Lib.hid (And.intro hlx (And.intro hcx (And.intro hlx1 hx10)))
 have HLY := Lib.hid (And.intro hly (And.intro hcy (And.intro hly1 hy10)))
 have HG := Lib.hid (And.intro hg0 (And.intro hx1 hy1))
 clear hrx hry hlx hly hcx hcy hlx1 hly1 hx10 hy10 hx0 hg hx1 hy1 hxp hg0 hy0
 go_enter Tryz.func114, Tryz.ntmps114
 go_wp2_with fail
 refine (HC.out _ (bel_alloc _ _)).mono ?_
 rintro e wc ⟨G, cg, rfl, hcg, hlg, hkg, hbc⟩
 have HRES := Lib.hid (blk_next (blk_new _ _) hbc)
 have HBC : Hid (Below w.heap.size w wc) := (bel_alloc _ _).trans (hbc.mono (by simp))
 have HX2 := Lib.hid (HX.out.next HBC.out)
 have HY2 := Lib.hid (HY.out.next HBC.out)

 have HKG := Lib.hid hkg
 have HD1 := rdivide_calls X G cx cg x g wc HX2.out hkg HLX.out.1 hlg HLX.out.2.1 HG.out.1
 rw [HG.out.2.1] at HD1
 have HD1 := Lib.hid HD1
 clear hkg hbc HX HY HC
 have HLG := Lib.hid hlg
 obtain ⟨bg, og, rfl, hbg, hcg1⟩ := krd_head HKG.out HG.out.1 hgc3
 have tg : decide ((1 : Int) < (g : Int)) = true := decide_eq_true (by omega)
 rw [hgc1] at HD1 hcg ⊢
 have HGC1 := Lib.hid hgc1
 have hbg2 := hbg
 clear hgc2 hlg hgc1 hgc3
 go_wp2_with fail
 refine HD1.out.mono ?_
 rintro e w1 ⟨Q1, cq1, R1, cr1, rfl, hcq1, hcr1, hrq1, hrr1, hb1⟩
 have HD2 := rdivide_calls Y (some ⟨bg, og, none⟩) cy cg y g w1 (HY2.out.next hb1) (HKG.out.next hb1) HLY.out.1 HLG.out HLY.out.2.1 HG.out.1
 rw [HG.out.2.2, HGC1.out] at HD2
 have HD2 := Lib.hid HD2
 have HQ1 := Lib.hid hrq1
 have HRES1 := Lib.hid (blk_next HRES.out hb1)
 have HB1 := ben HBC hb1
 clear hcr1 hrq1 hrr1 hb1
 go_wp2_with fail
 refine HD2.out.mono ?_
 rintro e w2 ⟨Q2, cq2, R2, cr2, rfl, hcq2, hcr2, hrq2, hrr2, hb2⟩
 have HQ1b := Lib.hid (HQ1.out.next hb2)
 have HQ2 := Lib.hid hrq2
 have HRES2 := Lib.hid (blk_next HRES1.out hb2)
 have HB2 := ben HB1 hb2
 have HCQ1 := Lib.hid hcq1
 have HCQ2 := Lib.hid hcq2
 clear hcr2 hrq2 hrr2 hb2 hcq1 hcq2

 have HT1 := textRef_calls Q1 cq1 (limbs x1) w2 HQ1b.out (limbs_dig _) HCQ1.out (by have := HLX.out.2.2.1; omega)
 rw [valL_limbs] at HT1
 have HT1 := Lib.hid HT1
 rcases limbs_cases HLY.out.2.2.2 with hd | hd | ⟨hd1, hd2, hd3⟩
 ·
  subst hd
  obtain ⟨bd, od, rfl, hbd, hcd⟩ := krd_head HQ2.out (by decide) (by decide)
  have hl1 : (limbs 1).length = 1 := by rw [limbs_one1]; rfl
  rw [hl1]
  have HHC := Lib.hid hcd
  clear hcd hl1
  go_wp2_with fail
  refine HT1.out.mono ?_
  rintro e wt ⟨rfl, hbt⟩
  have hcd := (hbt.cell (p := ⟨bd, od, none⟩) hbd).trans HHC.out
  have hbd2 : bd < wt.heap.size := by have := hbt.size; omega
  have HBT := ben HB2 hbt
  obtain ⟨c0, c1, c2, f0, f1, f2, hz⟩ := three_of (blk_next HRES2.out hbt)
  clear hbt
  go_wp2_with fail
  exact bodyPost_ret (v := .agg #[.bool neg, .string (ncan x1), .string ⟨#[]⟩]) (by simp [results, Tryz.results114, go_sem, c0, c1, c2, hz, Nat.ne_of_lt hz, Nat.ne_of_gt hz]) rfl ⟨rfl, (((HBT.out.setCell (by simp) _).setCell (by simp) _).setCell (by simp) _).alloc (by simp <;> omega) _⟩
 ·
  have t1 : decide ((1 : Int) < ((limbs y1).length : Int)) = true := decide_eq_true (by omega)
  have hy11 : y1 ≠ 1 := by rintro rfl; rw [limbs_one1] at hd; simp at hd
  have HN1 := Lib.hid hy11
  clear hd hy11
  go_wp2_with fail
  refine HT1.out.mono ?_
  rintro e wt ⟨rfl, hbt⟩
  have HBT := ben HB2 hbt
  have HT2 := fun W (hW : Below wt.heap.size wt W) => textRef_calls Q2 cq2 (limbs y1) W ((HQ2.out.next hbt).next hW) (limbs_dig _) HCQ2.out (by have := HLY.out.2.2.1; omega)
  rw [valL_limbs] at HT2
  have HT2 := Lib.hid HT2
  have HRT := Lib.hid (blk_next HRES2.out hbt)
  have hzt := HBT.out.size
  clear hbt
  go_wp2_with fail
  refine (HT2.out _ ?_).mono ?_
  ·
   exact (Below.refl _ _).alloc (Nat.le_refl _) _
  rintro e wu ⟨rfl, hbu⟩
  have HBU : Hid (Below w.heap.size w wu) := HBT.out.trans ((((Below.refl _ _).alloc (Nat.le_refl _) _).trans (hbu.mono (by simp))).mono HBT.out.size)
  obtain ⟨c0, c1, c2, f0, f1, f2, hz⟩ := three_of (blk_next (blk_alloc HRT.out) hbu)
  obtain ⟨r0, r1, r2, s0, s1, s2, rz⟩ := three_of (blk_next (blk_new _ _) hbu)
  have hnt : w.heap.size ≠ wt.heap.size := by have := (three_of HRT.out).2.2.2.2.2.2; omega
  clear hbu
  go_wp2_with fail
  exact bodyPost_ret (v := .agg #[.bool neg, .string (ncan x1), .string (ncan y1)]) (by simp [results, Tryz.results114, go_sem, c0, c1, c2, r0, r1, r2, hz, rz, hnt, Ne.symm hnt]) rfl ⟨by first | rfl | rw [if_neg HN1.out], (((HBU.out.setCell (by simp <;> omega) _).setCell (by simp) _).setCell (by simp) _).setCell (by simp) _⟩
 ·
  have hy11 : y1 ≠ 1 := by omega
  obtain ⟨bd, od, rfl, hbd, hcd⟩ := krd_head HQ2.out (by omega) hd3
  have t1 : decide ((1 : Int) < (y1 : Int)) = true := decide_eq_true (by omega)
  have HHD := Lib.hid (And.intro hd1 (And.intro hd2 hd3))
  have HL1 := Lib.hid hd1
  obtain ⟨ly, hly⟩ : ∃ ly, ly = (limbs y1).length := ⟨_, rfl⟩
  rw [← hly] at hd1
  rw [← hly]
  subst hd1
  have HLY1 := Lib.hid hly
  have HHC := Lib.hid hcd
  have HN1 := Lib.hid hy11
  clear hcd hd2 hy11 hly
  go_wp2_with fail
  refine HT1.out.mono ?_
  rintro e wt ⟨rfl, hbt⟩
  have hcd := (hbt.cell (p := ⟨bd, od, none⟩) hbd).trans HHC.out
  have hbd2 : bd < wt.heap.size := by have := hbt.size; omega
  have HBT := ben HB2 hbt
  have HT2 := fun W (hW : Below wt.heap.size wt W) => textRef_calls (some ⟨bd, od, none⟩) cq2 (limbs y1) W ((HQ2.out.next hbt).next hW) (limbs_dig _) HCQ2.out (by have := HLY.out.2.2.1; omega)
  rw [valL_limbs, ← HLY1.out] at HT2
  have HT2 := Lib.hid HT2
  have HRT := Lib.hid (blk_next HRES2.out hbt)
  have hzt := HBT.out.size
  clear hbt
  go_wp2_with fail
  refine (HT2.out _ ?_).mono ?_
  ·
   exact (Below.refl _ _).alloc (Nat.le_refl _) _
  rintro e wu ⟨rfl, hbu⟩
  have HBU : Hid (Below w.heap.size w wu) := HBT.out.trans ((((Below.refl _ _).alloc (Nat.le_refl _) _).trans (hbu.mono (by simp))).mono HBT.out.size)
  obtain ⟨c0, c1, c2, f0, f1, f2, hz⟩ := three_of (blk_next (blk_alloc HRT.out) hbu)
  obtain ⟨r0, r1, r2, s0, s1, s2, rz⟩ := three_of (blk_next (blk_new _ _) hbu)
  have hnt : w.heap.size ≠ wt.heap.size := by have := (three_of HRT.out).2.2.2.2.2.2; omega
  clear hbu
  go_wp2_with fail
  exact bodyPost_ret (v := .agg #[.bool neg, .string (ncan x1), .string (ncan y1)]) (by simp [results, Tryz.results114, go_sem, c0, c1, c2, r0, r1, r2, hz, rz, hnt, Ne.symm hnt]) rfl ⟨by first | rfl | rw [if_neg HN1.out], (((HBU.out.setCell (by simp <;> omega) _).setCell (by simp) _).setCell (by simp) _).setCell (by simp) _⟩


end Go.Proofs.YtjlicnhkemfmiaaGreatDoor

/- insolvencyref1.reduced. -/
namespace Go.Proofs.YtjlicnhkemfmiaaGreatDoor
open Go.RowKit
theorem reduced_calls (neg : Bool) (X Y : Option Addr) (cx cy x y : Nat) (w : World) (hrx : KRd .u32 w w.heap.size X (limbs x)) (hry : KRd .u32 w w.heap.size Y (limbs y)) (hlx : (limbs x).length ≤ 100000000) (hly : (limbs y).length ≤ 100000000) (hcx : (limbs x).length ≤ cx) (hcy : (limbs y).length ≤ cy)
 (hy0 : y ≠ 0) (q : Rat) (hq : rv neg x y = q) :
 Calls Tryz.prog 114 #[.bool neg, .slice X (limbs x).length cx, .slice Y (limbs y).length cy] w fun e w' => e = .returned (ratV q) ∧ Below w.heap.size w w' := by
 subst hq
 by_cases hx0 : x = 0
 ·
  subst hx0
  have h0 : (limbs 0).length = 0 := by rw [limbs_zero]; rfl
  rw [rv_zero, h0]
  exact reduced_zero neg X Y cx cy y w
 ·
  rw [ratV_rv hx0 hy0 rfl rfl]
  have hg0 : Nat.gcd x y ≠ 0 := Nat.gcd_ne_zero_left hx0
  rcases limbs_cases hg0 with h | h | ⟨h1, h2, h3⟩
  ·
   exact reduced_one neg X Y cx cy x y _ _ _ w hrx hry hlx hly hcx hcy hx0 hy0 rfl rfl rfl h
  ·
   exact reduced_many neg X Y cx cy x y _ _ _ w hrx hry hlx hly hcx hcy hx0 hy0 rfl rfl rfl h
  ·
   exact reduced_few neg X Y cx cy x y _ _ _ w hrx hry hlx hly hcx hcy hx0 hy0 rfl rfl rfl h1 h2 h3

end Go.Proofs.YtjlicnhkemfmiaaGreatDoor

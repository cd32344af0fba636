/- Merged of RVotes PtyG RChk. -/
import Derived.Test.YtomfcmlomfcghaaGreatDoorM41
import Derived.Test.YtomfcmlomfcghaaGreatDoorSameI
import Derived.Test.YtomfcmlomfcghaaGreatDoorRefFix
import Derived.Test.YtomfcmlomfcghaaGreatDoorPtyC
import Derived.Test.YtomfcmlomfcghaaGreatDoorPRatC
import Derived.Test.YtomfcmlomfcghaaGreatDoorPtyE
import Derived.Test.YtomfcmlomfcghaaGreatDoorPChk
import Derived.Deep.RegionHeld3
/- insolvencyref1.votes. -/
set_option linter.unusedVariables false
set_option linter.unusedSimpArgs false
namespace Go.Proofs.YtomfcmlomfcghaaGreatDoor
open Go.RowKit

theorem Q3.set {g : Nat} {a : Bool} {b c : ByteArray} {W : World} (h : Q3 g a b c W) (a' : Bool) (b' c' : ByteArray) : Q3 g a' b' c' (((W.setCell ⟨g, 0, none⟩ (.bool a')).setCell ⟨g, 1, none⟩ (.string b')).setCell ⟨g, 2, none⟩ (.string c')) := by
 have e0 := heap_setCell_same W g 0 _ _ (.bool a') h
 have e1 := heap_setCell_same _ g 1 _ _ (.string b') e0
 exact heap_setCell_same _ g 2 _ _ (.string c') e1
def vF (set : List Int) (owner company : Int) (s : Stk) : Bool := (s.c == company) && (decide (owner < 0) || ((s.o == owner) || set.any (· == s.o)))

set_option maxHeartbeats 8000000 in
set_option maxRecDepth 100000 in
theorem rvotes_calls (Ak : Option Addr) (nk ck : Nat) (As : Option Addr) (ns cs : Nat) (At : Option Addr) (nt ct : Nat) (Al : Option Addr) (nl cl : Nat) (P : Prt) (set : List Int) (owner company : Int) (m : Nat) (w : World) (hp : PRd Ak nk As ns At nt P w) (hb : PB m P) (h64 : ns ≤ 64) (hl : nl = set.length) (rl : Rd w w.heap.size 1 Al set.length (set.flatMap intV)) (gl : nl ≤ maxLen) :
 Calls Tryz.prog 65 #[ptyVal Ak nk ck As ns cs At nt ct, .slice Al nl cl, .int .i64 owner, .int .i64 company] w fun e w' => e = .returned (ratV (vs (vF set owner company) P.stakes)) ∧ Below w.heap.size w w' := by
 obtain ⟨F, hF⟩ : ∃ F, F = vF set owner company := ⟨_, rfl⟩
 rw [← hF]
 have HFE := Lib.hid hF
 clear hF
 have HP := Lib.hid hp
 have HPB := Lib.hid hb
 have HNS := Lib.hid hp.ns
 have HLL := Lib.hid (And.intro hl (And.intro rl gl))
 clear hp hb hl rl gl
 obtain ⟨w0, hw0⟩ : ∃ W, W = ((w.alloc (.cells #[.slice Ak nk ck, .slice As ns cs, .slice At nt ct] 26)).alloc (.cells #[.bool false, .string ⟨#[]⟩, .string ⟨#[]⟩] 70)).alloc (.cells #[.bool false, .string ⟨#[]⟩, .string ⟨#[]⟩] 70) := ⟨_, rfl⟩
 obtain ⟨q, hq⟩ : ∃ q, q = w.heap.size := ⟨_, rfl⟩
 have HB0 : Hid (Below w.heap.size w w0) := by rw [hw0]; exact ((bel_alloc _ _).alloc (by simp) _).alloc (by simp <;> omega) _
 have HX0 : Hid (PBox q Ak nk ck As ns cs At nt ct w0) := by rw [hw0, hq]; exact blk_alloc (blk_alloc (blk_new _ _))
 have HG0 : Hid (w0.heap[q + 1]? = some (.cells #[.bool false, .string ⟨#[]⟩, .string ⟨#[]⟩] 70 (0, 0))) := by
  have := blk_new (w.alloc (.cells #[.slice Ak nk ck, .slice As ns cs, .slice At nt ct] 26)) (.cells #[.bool false, .string ⟨#[]⟩, .string ⟨#[]⟩] 70)
  rw [World.size_alloc, ← hq] at this
  rw [hw0]; exact blk_alloc this
 have HV0 : Hid (Q3 (q + 1 + 1) (rneg (vs F (P.stakes.take 0))) (rnum (vs F (P.stakes.take 0))) (rden (vs F (P.stakes.take 0))) w0) := by
  have := blk_new ((w.alloc (.cells #[.slice Ak nk ck, .slice As ns cs, .slice At nt ct] 26)).alloc (.cells #[.bool false, .string ⟨#[]⟩, .string ⟨#[]⟩] 70)) (.cells #[.bool false, .string ⟨#[]⟩, .string ⟨#[]⟩] 70)
  rw [World.size_alloc, World.size_alloc, ← hq] at this
  rw [hw0, show vs F (P.stakes.take 0) = 0 from rfl, rneg_zero, rnum_zero, rden_zero]
  exact this
 go_enter Tryz.func65, Tryz.ntmps65
 go_upto_region 2 with fail
 rw [← hw0, ← hq]
 have HQ := Lib.hid hq
 have hqw : w.heap.size ≤ q := by omega
 clear hw0 hq
 obtain ⟨k0, k1, k2⟩ := HX0.out.cells
 go_wp2_with fail
 clear k0 k1 k2
 go_loopw [10] (fun i wr => ∃ k : Nat, k ≤ ns ∧ i = .int .i64 (k : Int) ∧ Hid (Q3 (q + 1 + 1) (rneg (vs F (P.stakes.take k))) (rnum (vs F (P.stakes.take k))) (rden (vs F (P.stakes.take k))) wr) ∧ Hid (wr.heap[q + 1]? = some (.cells #[.bool false, .string ⟨#[]⟩, .string ⟨#[]⟩] 70 (0, 0))) ∧ Hid (PBox q Ak nk ck As ns cs At nt ct wr) ∧ Hid (Below w.heap.size w wr)) (fun i _ => ns - (intOf i).toNat)
 case atStart => exact ⟨0, Nat.zero_le _, rfl, HV0, HG0, HX0, HB0⟩
 case round =>
  clear HV0 HG0 HX0 HB0
  obtain ⟨j, hj, rfl, HVwp, HGwp, HXwp, HBwp⟩ := hrel
  rename World => wp
  obtain ⟨v, hv⟩ : ∃ v, v = vs F (P.stakes.take j) := ⟨_, rfl⟩
  rw [← hv] at HVwp
  have HVE := Lib.hid hv
  clear hv
  obtain ⟨sv, hsv⟩ : ∃ x, x = rneg v := ⟨_, rfl⟩
  obtain ⟨nv, hnv⟩ : ∃ x, x = rnum v := ⟨_, rfl⟩
  obtain ⟨dv, hdv⟩ : ∃ x, x = rden v := ⟨_, rfl⟩
  rw [← hsv, ← hnv, ← hdv] at HVwp
  have HLT := Lib.hid (And.intro hsv (And.intro hnv hdv))
  clear hsv hnv hdv
  obtain ⟨k0, k1, k2⟩ := HXwp.out.cells
  by_cases hjl : j < ns
  ·
   obtain ⟨s, hs⟩ := getElem?_of_lt (l := P.stakes) (k := j) (by rw [← HNS.out]; exact hjl)
   have HTK := Lib.hid (vs_take (f := F) hs)
   have HBS := Lib.hid (HPB.out.s s (List.mem_of_getElem? hs))
   obtain ⟨b, off, hA, _, hc⟩ := Rd.at_ (enc := stkV) (fun _ => rfl) (HP.out.s.next HBwp.out) hs
   subst hA
   have p0 := hc 0 _ rfl
   have p1 := hc 1 _ rfl
   have p2 := hc 2 _ rfl
   have p3 := hc 3 _ rfl
   have p4 := hc 4 _ rfl
   rw [Nat.add_zero] at p0
   rw [← Nat.add_assoc] at p1 p2 p3 p4
   clear hc hs
   obtain ⟨o, c, vn, vu, vd⟩ := s
   dsimp only at p0 p1 p2 p3 p4
   rw [← HVE.out] at HTK
   obtain ⟨g, hg⟩ : ∃ g, g = wp.heap.size := ⟨_, rfl⟩
   obtain ⟨wa, hwa⟩ : ∃ W, W = wp.alloc (.cells #[.int .i64 o, .int .i64 c, .bool vn, .string vu, .string vd] 72) := ⟨_, rfl⟩
   have hsa : SBox wp.heap.size ⟨o, c, vn, vu, vd⟩ (wp.alloc (.cells #[.int .i64 o, .int .i64 c, .bool vn, .string vu, .string vd] 72)) := blk_new _ _
   have HSwa : Hid (SBox g ⟨o, c, vn, vu, vd⟩ wa) := by rw [hwa, hg]; exact hsa
   have HXwa : Hid (PBox q Ak nk ck (some ⟨b, off, none⟩) ns cs At nt ct wa) := by rw [hwa]; exact HXwp.out.next (bel_alloc _ _)
   have HGwa : Hid (wa.heap[q + 1]? = some (.cells #[.bool false, .string ⟨#[]⟩, .string ⟨#[]⟩] 70 (0, 0))) := by rw [hwa]; exact blk_alloc HGwp.out
   have HVwa : Hid (Q3 (q + 1 + 1) sv nv dv wa) := by rw [hwa]; exact blk_alloc HVwp.out
   have HBwa : Hid (Below w.heap.size w wa) := by rw [hwa]; exact HBwp.out.alloc HBwp.out.size _
   have hgq : g ≠ q + 1 + 1 := by rw [hg]; intro e; have := (Array.getElem?_eq_some_iff.1 HVwp.out).1; omega
   obtain ⟨s0, s1, s2, s3, s4⟩ := hsa.cells
   have HW := Lib.hid (And.intro hwa hg)
   clear hwa hg hsa
   by_cases hc1 : c = company
   ·
    have hcb : (c == company) = true := beq_iff_eq.2 hc1
    have HCB := Lib.hid hcb
    clear hc1
    by_cases h0 : owner < 0
    ·
     have d0 : decide (owner < 0) = true := decide_eq_true h0
     have HFT : Hid (F ⟨o, c, vn, vu, vd⟩ = true) := by show _ = _; rw [HFE.out]; unfold vF; dsimp only; rw [hcb, d0]; rfl
     have hszv := vs_sz (f := F) (l := P.stakes.take j) (m := m) (fun s hs => HPB.out.sz s (List.mem_of_mem_take hs))
     rw [← HVE.out] at hszv
     have hm2 := HPB.out.m2
     have hm1 := HPB.out.m1
     have hlen : (P.stakes.take j).length ≤ 64 := by rw [List.length_take, ← HNS.out]; omega
     have hmul : (m + 1) * (P.stakes.take j).length ≤ 1001 * 64 := Nat.mul_le_mul (by omega) hlen
     obtain ⟨y, hy⟩ : ∃ y, y = fixR ⟨vn, vu, vd⟩ := ⟨_, rfl⟩
     have HFX' := fun W => refFix_calls ⟨vn, vu, vd⟩ m W HBS.out.2.2 (by omega)
     have hszy := fix_sz HBS.out.2.2 hm1
     dsimp only at hszy
     rw [← hy] at HFX' hszy
     unfold FQ.val at HFX'
     dsimp only at HFX'
     have HPL' := fun W => refPlus_calls v y 64065 m W (hszv.mono (by omega)) hszy (by omega)
     have HSA : Hid (vs F (P.stakes.take (j + 1)) = v + y) := by show _ = _; rw [HTK.out, if_pos HFT.out, hy]
     obtain ⟨R, hR⟩ : ∃ R, R = v + y := ⟨_, rfl⟩
     rw [← hR] at HPL' HSA
     unfold ratV at HFX' HPL'
     rw [← HLT.out.1, ← HLT.out.2.1, ← HLT.out.2.2] at HPL'
     obtain ⟨sy, hsy⟩ : ∃ x, x = rneg y := ⟨_, rfl⟩
     obtain ⟨ny, hny⟩ : ∃ x, x = rnum y := ⟨_, rfl⟩
     obtain ⟨dy, hdy⟩ : ∃ x, x = rden y := ⟨_, rfl⟩
     rw [← hsy, ← hny, ← hdy] at HFX' HPL'
     have HFX := Lib.hid HFX'
     have HPL := Lib.hid HPL'
     clear hszv hm1 hm2 hlen hmul HFX' HPL' hszy hy hR hsy hny hdy
     go_wp2_with fail
     rw [← HW.out.1, ← HW.out.2]
     clear HW p0 p1 p2 p3 p4 s0 s1 s2 s3 s4 k0 k1 k2 HXwp HGwp HVwp HBwp
     obtain ⟨W1, hW1⟩ : ∃ W, W = wa.drew := ⟨_, rfl⟩
     have hS : (SBox g ⟨o, c, vn, vu, vd⟩) W1 := by rw [hW1]; exact HSwa.out
     have HX1 : Hid (PBox q Ak nk ck (some ⟨b, off, none⟩) ns cs At nt ct W1) := by rw [hW1]; exact HXwa.out
     have HG1 : Hid (W1.heap[q + 1]? = some (.cells #[.bool false, .string ⟨#[]⟩, .string ⟨#[]⟩] 70 (0, 0))) := by rw [hW1]; exact HGwa.out
     have HV1 : Hid (Q3 (q + 1 + 1) sv nv dv W1) := by rw [hW1]; exact HVwa.out
     have HB1 : Hid (Below w.heap.size w W1) := by rw [hW1]; exact HBwa.out.drew
     refine wp_region_held_drew (S := (SBox g ⟨o, c, vn, vu, vd⟩)) (by kernel_rfl) (by rw [← hW1]; exact hS) ?_
     rw [← hW1]
     intro _
     clear hW1 HSwa HXwa HGwa HVwa HBwa
     refine wpAnyH_take (i := 1) rfl (by kernel_rfl) (by kernel_rfl) (by kernel_rfl) (fun _ _ _ h => h) (Or.inl ⟨by kernel_rfl, (by intro w' _; go_simp; with_reducible rfl)⟩) hS ?_
     go_simp
     refine wpAnyH_take (i := 2) (v := .agg #[.bool vn, .string vu, .string vd]) rfl (by kernel_rfl) (by kernel_rfl) (by kernel_rfl) (fun _ _ _ h => h) (Or.inl ⟨by kernel_rfl, (by intro w' hw'; obtain ⟨s0, s1, s2, s3, s4⟩ := hw'.cells; go_simp)⟩) hS ?_
     go_simp
     refine wpAnyH_ready (rs := [0, 3]) (by kernel_rfl) (by simp) ?_
     refine AllReadyH.cons rfl (fun K hK => ?_) (AllReadyH.cons rfl (fun K hK => ?_) AllReadyH.nil)
     ·
      obtain ⟨q0, q1, q2⟩ := HV1.out.cells
      go_simp
      clear q0 q1 q2
      refine hK.out _ _ hS (fun _ => ?_)
      clear hK K
      refine wpAnyH_ready (rs := [3]) (by kernel_rfl) (by simp) ?_
      refine AllReadyH.cons rfl (fun K hK => ?_) AllReadyH.nil
      go_simp
      refine (HFX.out _).mono ?_
      rintro e W2 ⟨rfl, hb⟩
      have hS2 := hS.next hb
      have HX2 := Lib.hid (HX1.out.next hb)
      have HG2 := Lib.hid (blk_next HG1.out hb)
      have HV2 := Lib.hid (HV1.out.next hb)
      have HB2 : Hid (Below w.heap.size w W2) := HB1.out.trans (hb.mono HB1.out.size)
      clear hb hS HX1 HG1 HV1 HB1
      refine hK.out _ _ hS2 (fun _ => ?_)
      clear hK K
      refine wpAnyH_ready (rs := [4]) (by kernel_rfl) (by simp) ?_
      refine AllReadyH.cons rfl (fun K hK => ?_) AllReadyH.nil
      go_simp
      refine (HPL.out _).mono ?_
      rintro e W3 ⟨rfl, hb⟩
      have hS3 := hS2.next hb
      have HX3 := Lib.hid (HX2.out.next hb)
      have HG3 := Lib.hid (blk_next HG2.out hb)
      have HV3 := Lib.hid (HV2.out.next hb)
      have HB3 : Hid (Below w.heap.size w W3) := HB2.out.trans (hb.mono HB2.out.size)
      clear hb hS2 HX2 HG2 HV2 HB2
      refine hK.out _ _ hS3 (fun _ => ?_)
      clear hK K
      refine wpAnyH_ready (rs := [5]) (by kernel_rfl) (by simp) ?_
      refine AllReadyH.cons rfl (fun K hK => ?_) AllReadyH.nil
      obtain ⟨sR, hsR⟩ : ∃ x, x = rneg R := ⟨_, rfl⟩
      obtain ⟨nR, hnR⟩ : ∃ x, x = rnum R := ⟨_, rfl⟩
      obtain ⟨dR, hdR⟩ : ∃ x, x = rden R := ⟨_, rfl⟩
      rw [← hsR, ← hnR, ← hdR]
      have HRR := Lib.hid (And.intro hsR (And.intro hnR hdR))
      clear hsR hnR hdR
      obtain ⟨c0, c1, c2, f0, f1, f2, hz⟩ := three_of HV3.out
      go_simp
      clear c0 c1 c2 f0 f1 f2 hz
      have hS4 : (SBox g ⟨o, c, vn, vu, vd⟩) (((W3.setCell ⟨q + 1 + 1, 0, none⟩ (.bool sR)).setCell ⟨q + 1 + 1, 1, none⟩ (.string nR)).setCell ⟨q + 1 + 1, 2, none⟩ (.string dR)) := (heap_setCell_other _ ⟨q + 1 + 1, 2, none⟩ g _ hgq).trans ((heap_setCell_other _ ⟨q + 1 + 1, 1, none⟩ g _ hgq).trans ((heap_setCell_other _ ⟨q + 1 + 1, 0, none⟩ g _ hgq).trans hS3))
      have HX4 : Hid (PBox q Ak nk ck (some ⟨b, off, none⟩) ns cs At nt ct (((W3.setCell ⟨q + 1 + 1, 0, none⟩ (.bool sR)).setCell ⟨q + 1 + 1, 1, none⟩ (.string nR)).setCell ⟨q + 1 + 1, 2, none⟩ (.string dR))) := (heap_setCell_other _ ⟨q + 1 + 1, 2, none⟩ q _ (by show q ≠ q + 1 + 1; omega)).trans ((heap_setCell_other _ ⟨q + 1 + 1, 1, none⟩ q _ (by show q ≠ q + 1 + 1; omega)).trans ((heap_setCell_other _ ⟨q + 1 + 1, 0, none⟩ q _ (by show q ≠ q + 1 + 1; omega)).trans HX3.out))
      have HG4 : Hid ((((W3.setCell ⟨q + 1 + 1, 0, none⟩ (.bool sR)).setCell ⟨q + 1 + 1, 1, none⟩ (.string nR)).setCell ⟨q + 1 + 1, 2, none⟩ (.string dR)).heap[q + 1]? = some (.cells #[.bool false, .string ⟨#[]⟩, .string ⟨#[]⟩] 70 (0, 0))) := (heap_setCell_other _ ⟨q + 1 + 1, 2, none⟩ (q + 1) _ (by show q + 1 ≠ q + 1 + 1; omega)).trans ((heap_setCell_other _ ⟨q + 1 + 1, 1, none⟩ (q + 1) _ (by show q + 1 ≠ q + 1 + 1; omega)).trans ((heap_setCell_other _ ⟨q + 1 + 1, 0, none⟩ (q + 1) _ (by show q + 1 ≠ q + 1 + 1; omega)).trans HG3.out))
      have HV4 := Lib.hid (HV3.out.set sR nR dR)
      have HB4 : Hid (Below w.heap.size w (((W3.setCell ⟨q + 1 + 1, 0, none⟩ (.bool sR)).setCell ⟨q + 1 + 1, 1, none⟩ (.string nR)).setCell ⟨q + 1 + 1, 2, none⟩ (.string dR))) := ((HB3.out.setCell (by show w.heap.size ≤ q + 1 + 1; omega) _).setCell (by show w.heap.size ≤ q + 1 + 1; omega) _).setCell (by show w.heap.size ≤ q + 1 + 1; omega) _
      refine hK.out _ _ hS4 (fun _ => ?_)
      clear hK K
      refine wpAnyH_done (by kernel_rfl) ?_ _
      clear hS4
      go_wp2_with fail
      go_roundw
      case measure => simp [intOf] <;> omega
      case rel => exact ⟨j + 1, by omega, by go_num, by rw [HSA.out, ← HRR.out.1, ← HRR.out.2.1, ← HRR.out.2.2]; exact HV4, HG4, HX4, HB4⟩
     ·
      go_simp
      refine (HFX.out _).mono ?_
      rintro e W2 ⟨rfl, hb⟩
      have hS2 := hS.next hb
      have HX2 := Lib.hid (HX1.out.next hb)
      have HG2 := Lib.hid (blk_next HG1.out hb)
      have HV2 := Lib.hid (HV1.out.next hb)
      have HB2 : Hid (Below w.heap.size w W2) := HB1.out.trans (hb.mono HB1.out.size)
      clear hb hS HX1 HG1 HV1 HB1
      refine hK.out _ _ hS2 (fun _ => ?_)
      clear hK K
      refine wpAnyH_ready (rs := [0]) (by kernel_rfl) (by simp) ?_
      refine AllReadyH.cons rfl (fun K hK => ?_) AllReadyH.nil
      obtain ⟨q0, q1, q2⟩ := HV2.out.cells
      go_simp
      clear q0 q1 q2
      refine hK.out _ _ hS2 (fun _ => ?_)
      clear hK K
      refine wpAnyH_ready (rs := [4]) (by kernel_rfl) (by simp) ?_
      refine AllReadyH.cons rfl (fun K hK => ?_) AllReadyH.nil
      go_simp
      refine (HPL.out _).mono ?_
      rintro e W3 ⟨rfl, hb⟩
      have hS3 := hS2.next hb
      have HX3 := Lib.hid (HX2.out.next hb)
      have HG3 := Lib.hid (blk_next HG2.out hb)
      have HV3 := Lib.hid (HV2.out.next hb)
      have HB3 : Hid (Below w.heap.size w W3) := HB2.out.trans (hb.mono HB2.out.size)
      clear hb hS2 HX2 HG2 HV2 HB2
      refine hK.out _ _ hS3 (fun _ => ?_)
      clear hK K
      refine wpAnyH_ready (rs := [5]) (by kernel_rfl) (by simp) ?_
      refine AllReadyH.cons rfl (fun K hK => ?_) AllReadyH.nil
      obtain ⟨sR, hsR⟩ : ∃ x, x = rneg R := ⟨_, rfl⟩
      obtain ⟨nR, hnR⟩ : ∃ x, x = rnum R := ⟨_, rfl⟩
      obtain ⟨dR, hdR⟩ : ∃ x, x = rden R := ⟨_, rfl⟩
      rw [← hsR, ← hnR, ← hdR]
      have HRR := Lib.hid (And.intro hsR (And.intro hnR hdR))
      clear hsR hnR hdR
      obtain ⟨c0, c1, c2, f0, f1, f2, hz⟩ := three_of HV3.out
      go_simp
      clear c0 c1 c2 f0 f1 f2 hz
      have hS4 : (SBox g ⟨o, c, vn, vu, vd⟩) (((W3.setCell ⟨q + 1 + 1, 0, none⟩ (.bool sR)).setCell ⟨q + 1 + 1, 1, none⟩ (.string nR)).setCell ⟨q + 1 + 1, 2, none⟩ (.string dR)) := (heap_setCell_other _ ⟨q + 1 + 1, 2, none⟩ g _ hgq).trans ((heap_setCell_other _ ⟨q + 1 + 1, 1, none⟩ g _ hgq).trans ((heap_setCell_other _ ⟨q + 1 + 1, 0, none⟩ g _ hgq).trans hS3))
      have HX4 : Hid (PBox q Ak nk ck (some ⟨b, off, none⟩) ns cs At nt ct (((W3.setCell ⟨q + 1 + 1, 0, none⟩ (.bool sR)).setCell ⟨q + 1 + 1, 1, none⟩ (.string nR)).setCell ⟨q + 1 + 1, 2, none⟩ (.string dR))) := (heap_setCell_other _ ⟨q + 1 + 1, 2, none⟩ q _ (by show q ≠ q + 1 + 1; omega)).trans ((heap_setCell_other _ ⟨q + 1 + 1, 1, none⟩ q _ (by show q ≠ q + 1 + 1; omega)).trans ((heap_setCell_other _ ⟨q + 1 + 1, 0, none⟩ q _ (by show q ≠ q + 1 + 1; omega)).trans HX3.out))
      have HG4 : Hid ((((W3.setCell ⟨q + 1 + 1, 0, none⟩ (.bool sR)).setCell ⟨q + 1 + 1, 1, none⟩ (.string nR)).setCell ⟨q + 1 + 1, 2, none⟩ (.string dR)).heap[q + 1]? = some (.cells #[.bool false, .string ⟨#[]⟩, .string ⟨#[]⟩] 70 (0, 0))) := (heap_setCell_other _ ⟨q + 1 + 1, 2, none⟩ (q + 1) _ (by show q + 1 ≠ q + 1 + 1; omega)).trans ((heap_setCell_other _ ⟨q + 1 + 1, 1, none⟩ (q + 1) _ (by show q + 1 ≠ q + 1 + 1; omega)).trans ((heap_setCell_other _ ⟨q + 1 + 1, 0, none⟩ (q + 1) _ (by show q + 1 ≠ q + 1 + 1; omega)).trans HG3.out))
      have HV4 := Lib.hid (HV3.out.set sR nR dR)
      have HB4 : Hid (Below w.heap.size w (((W3.setCell ⟨q + 1 + 1, 0, none⟩ (.bool sR)).setCell ⟨q + 1 + 1, 1, none⟩ (.string nR)).setCell ⟨q + 1 + 1, 2, none⟩ (.string dR))) := ((HB3.out.setCell (by show w.heap.size ≤ q + 1 + 1; omega) _).setCell (by show w.heap.size ≤ q + 1 + 1; omega) _).setCell (by show w.heap.size ≤ q + 1 + 1; omega) _
      refine hK.out _ _ hS4 (fun _ => ?_)
      clear hK K
      refine wpAnyH_done (by kernel_rfl) ?_ _
      clear hS4
      go_wp2_with fail
      go_roundw
      case measure => simp [intOf] <;> omega
      case rel => exact ⟨j + 1, by omega, by go_num, by rw [HSA.out, ← HRR.out.1, ← HRR.out.2.1, ← HRR.out.2.2]; exact HV4, HG4, HX4, HB4⟩
    ·
     have d0 : decide (owner < 0) = false := decide_eq_false h0
     by_cases h1 : o = owner
     ·
      have hoe : (o == owner) = true := beq_iff_eq.2 h1
      clear h1
      have HFT : Hid (F ⟨o, c, vn, vu, vd⟩ = true) := by show _ = _; rw [HFE.out]; unfold vF; dsimp only; rw [hcb, d0, hoe]; rfl
      have hszv := vs_sz (f := F) (l := P.stakes.take j) (m := m) (fun s hs => HPB.out.sz s (List.mem_of_mem_take hs))
      rw [← HVE.out] at hszv
      have hm2 := HPB.out.m2
      have hm1 := HPB.out.m1
      have hlen : (P.stakes.take j).length ≤ 64 := by rw [List.length_take, ← HNS.out]; omega
      have hmul : (m + 1) * (P.stakes.take j).length ≤ 1001 * 64 := Nat.mul_le_mul (by omega) hlen
      obtain ⟨y, hy⟩ : ∃ y, y = fixR ⟨vn, vu, vd⟩ := ⟨_, rfl⟩
      have HFX' := fun W => refFix_calls ⟨vn, vu, vd⟩ m W HBS.out.2.2 (by omega)
      have hszy := fix_sz HBS.out.2.2 hm1
      dsimp only at hszy
      rw [← hy] at HFX' hszy
      unfold FQ.val at HFX'
      dsimp only at HFX'
      have HPL' := fun W => refPlus_calls v y 64065 m W (hszv.mono (by omega)) hszy (by omega)
      have HSA : Hid (vs F (P.stakes.take (j + 1)) = v + y) := by show _ = _; rw [HTK.out, if_pos HFT.out, hy]
      obtain ⟨R, hR⟩ : ∃ R, R = v + y := ⟨_, rfl⟩
      rw [← hR] at HPL' HSA
      unfold ratV at HFX' HPL'
      rw [← HLT.out.1, ← HLT.out.2.1, ← HLT.out.2.2] at HPL'
      obtain ⟨sy, hsy⟩ : ∃ x, x = rneg y := ⟨_, rfl⟩
      obtain ⟨ny, hny⟩ : ∃ x, x = rnum y := ⟨_, rfl⟩
      obtain ⟨dy, hdy⟩ : ∃ x, x = rden y := ⟨_, rfl⟩
      rw [← hsy, ← hny, ← hdy] at HFX' HPL'
      have HFX := Lib.hid HFX'
      have HPL := Lib.hid HPL'
      clear hszv hm1 hm2 hlen hmul HFX' HPL' hszy hy hR hsy hny hdy
      go_wp2_with fail
      rw [← HW.out.1, ← HW.out.2]
      clear HW p0 p1 p2 p3 p4 s0 s1 s2 s3 s4 k0 k1 k2 HXwp HGwp HVwp HBwp
      obtain ⟨W1, hW1⟩ : ∃ W, W = wa.drew := ⟨_, rfl⟩
      have hS : (SBox g ⟨o, c, vn, vu, vd⟩) W1 := by rw [hW1]; exact HSwa.out
      have HX1 : Hid (PBox q Ak nk ck (some ⟨b, off, none⟩) ns cs At nt ct W1) := by rw [hW1]; exact HXwa.out
      have HG1 : Hid (W1.heap[q + 1]? = some (.cells #[.bool false, .string ⟨#[]⟩, .string ⟨#[]⟩] 70 (0, 0))) := by rw [hW1]; exact HGwa.out
      have HV1 : Hid (Q3 (q + 1 + 1) sv nv dv W1) := by rw [hW1]; exact HVwa.out
      have HB1 : Hid (Below w.heap.size w W1) := by rw [hW1]; exact HBwa.out.drew
      refine wp_region_held_drew (S := (SBox g ⟨o, c, vn, vu, vd⟩)) (by kernel_rfl) (by rw [← hW1]; exact hS) ?_
      rw [← hW1]
      intro _
      clear hW1 HSwa HXwa HGwa HVwa HBwa
      refine wpAnyH_take (i := 1) rfl (by kernel_rfl) (by kernel_rfl) (by kernel_rfl) (fun _ _ _ h => h) (Or.inl ⟨by kernel_rfl, (by intro w' _; go_simp; with_reducible rfl)⟩) hS ?_
      go_simp
      refine wpAnyH_take (i := 2) (v := .agg #[.bool vn, .string vu, .string vd]) rfl (by kernel_rfl) (by kernel_rfl) (by kernel_rfl) (fun _ _ _ h => h) (Or.inl ⟨by kernel_rfl, (by intro w' hw'; obtain ⟨s0, s1, s2, s3, s4⟩ := hw'.cells; go_simp)⟩) hS ?_
      go_simp
      refine wpAnyH_ready (rs := [0, 3]) (by kernel_rfl) (by simp) ?_
      refine AllReadyH.cons rfl (fun K hK => ?_) (AllReadyH.cons rfl (fun K hK => ?_) AllReadyH.nil)
      ·
       obtain ⟨q0, q1, q2⟩ := HV1.out.cells
       go_simp
       clear q0 q1 q2
       refine hK.out _ _ hS (fun _ => ?_)
       clear hK K
       refine wpAnyH_ready (rs := [3]) (by kernel_rfl) (by simp) ?_
       refine AllReadyH.cons rfl (fun K hK => ?_) AllReadyH.nil
       go_simp
       refine (HFX.out _).mono ?_
       rintro e W2 ⟨rfl, hb⟩
       have hS2 := hS.next hb
       have HX2 := Lib.hid (HX1.out.next hb)
       have HG2 := Lib.hid (blk_next HG1.out hb)
       have HV2 := Lib.hid (HV1.out.next hb)
       have HB2 : Hid (Below w.heap.size w W2) := HB1.out.trans (hb.mono HB1.out.size)
       clear hb hS HX1 HG1 HV1 HB1
       refine hK.out _ _ hS2 (fun _ => ?_)
       clear hK K
       refine wpAnyH_ready (rs := [4]) (by kernel_rfl) (by simp) ?_
       refine AllReadyH.cons rfl (fun K hK => ?_) AllReadyH.nil
       go_simp
       refine (HPL.out _).mono ?_
       rintro e W3 ⟨rfl, hb⟩
       have hS3 := hS2.next hb
       have HX3 := Lib.hid (HX2.out.next hb)
       have HG3 := Lib.hid (blk_next HG2.out hb)
       have HV3 := Lib.hid (HV2.out.next hb)
       have HB3 : Hid (Below w.heap.size w W3) := HB2.out.trans (hb.mono HB2.out.size)
       clear hb hS2 HX2 HG2 HV2 HB2
       refine hK.out _ _ hS3 (fun _ => ?_)
       clear hK K
       refine wpAnyH_ready (rs := [5]) (by kernel_rfl) (by simp) ?_
       refine AllReadyH.cons rfl (fun K hK => ?_) AllReadyH.nil
       obtain ⟨sR, hsR⟩ : ∃ x, x = rneg R := ⟨_, rfl⟩
       obtain ⟨nR, hnR⟩ : ∃ x, x = rnum R := ⟨_, rfl⟩
       obtain ⟨dR, hdR⟩ : ∃ x, x = rden R := ⟨_, rfl⟩
       rw [← hsR, ← hnR, ← hdR]
       have HRR := Lib.hid (And.intro hsR (And.intro hnR hdR))
       clear hsR hnR hdR
       obtain ⟨c0, c1, c2, f0, f1, f2, hz⟩ := three_of HV3.out
       go_simp
       clear c0 c1 c2 f0 f1 f2 hz
       have hS4 : (SBox g ⟨o, c, vn, vu, vd⟩) (((W3.setCell ⟨q + 1 + 1, 0, none⟩ (.bool sR)).setCell ⟨q + 1 + 1, 1, none⟩ (.string nR)).setCell ⟨q + 1 + 1, 2, none⟩ (.string dR)) := (heap_setCell_other _ ⟨q + 1 + 1, 2, none⟩ g _ hgq).trans ((heap_setCell_other _ ⟨q + 1 + 1, 1, none⟩ g _ hgq).trans ((heap_setCell_other _ ⟨q + 1 + 1, 0, none⟩ g _ hgq).trans hS3))
       have HX4 : Hid (PBox q Ak nk ck (some ⟨b, off, none⟩) ns cs At nt ct (((W3.setCell ⟨q + 1 + 1, 0, none⟩ (.bool sR)).setCell ⟨q + 1 + 1, 1, none⟩ (.string nR)).setCell ⟨q + 1 + 1, 2, none⟩ (.string dR))) := (heap_setCell_other _ ⟨q + 1 + 1, 2, none⟩ q _ (by show q ≠ q + 1 + 1; omega)).trans ((heap_setCell_other _ ⟨q + 1 + 1, 1, none⟩ q _ (by show q ≠ q + 1 + 1; omega)).trans ((heap_setCell_other _ ⟨q + 1 + 1, 0, none⟩ q _ (by show q ≠ q + 1 + 1; omega)).trans HX3.out))
       have HG4 : Hid ((((W3.setCell ⟨q + 1 + 1, 0, none⟩ (.bool sR)).setCell ⟨q + 1 + 1, 1, none⟩ (.string nR)).setCell ⟨q + 1 + 1, 2, none⟩ (.string dR)).heap[q + 1]? = some (.cells #[.bool false, .string ⟨#[]⟩, .string ⟨#[]⟩] 70 (0, 0))) := (heap_setCell_other _ ⟨q + 1 + 1, 2, none⟩ (q + 1) _ (by show q + 1 ≠ q + 1 + 1; omega)).trans ((heap_setCell_other _ ⟨q + 1 + 1, 1, none⟩ (q + 1) _ (by show q + 1 ≠ q + 1 + 1; omega)).trans ((heap_setCell_other _ ⟨q + 1 + 1, 0, none⟩ (q + 1) _ (by show q + 1 ≠ q + 1 + 1; omega)).trans HG3.out))
       have HV4 := Lib.hid (HV3.out.set sR nR dR)
       have HB4 : Hid (Below w.heap.size w (((W3.setCell ⟨q + 1 + 1, 0, none⟩ (.bool sR)).setCell ⟨q + 1 + 1, 1, none⟩ (.string nR)).setCell ⟨q + 1 + 1, 2, none⟩ (.string dR))) := ((HB3.out.setCell (by show w.heap.size ≤ q + 1 + 1; omega) _).setCell (by show w.heap.size ≤ q + 1 + 1; omega) _).setCell (by show w.heap.size ≤ q + 1 + 1; omega) _
       refine hK.out _ _ hS4 (fun _ => ?_)
       clear hK K
       refine wpAnyH_done (by kernel_rfl) ?_ _
       clear hS4
       go_wp2_with fail
       go_roundw
       case measure => simp [intOf] <;> omega
       case rel => exact ⟨j + 1, by omega, by go_num, by rw [HSA.out, ← HRR.out.1, ← HRR.out.2.1, ← HRR.out.2.2]; exact HV4, HG4, HX4, HB4⟩
      ·
       go_simp
       refine (HFX.out _).mono ?_
       rintro e W2 ⟨rfl, hb⟩
       have hS2 := hS.next hb
       have HX2 := Lib.hid (HX1.out.next hb)
       have HG2 := Lib.hid (blk_next HG1.out hb)
       have HV2 := Lib.hid (HV1.out.next hb)
       have HB2 : Hid (Below w.heap.size w W2) := HB1.out.trans (hb.mono HB1.out.size)
       clear hb hS HX1 HG1 HV1 HB1
       refine hK.out _ _ hS2 (fun _ => ?_)
       clear hK K
       refine wpAnyH_ready (rs := [0]) (by kernel_rfl) (by simp) ?_
       refine AllReadyH.cons rfl (fun K hK => ?_) AllReadyH.nil
       obtain ⟨q0, q1, q2⟩ := HV2.out.cells
       go_simp
       clear q0 q1 q2
       refine hK.out _ _ hS2 (fun _ => ?_)
       clear hK K
       refine wpAnyH_ready (rs := [4]) (by kernel_rfl) (by simp) ?_
       refine AllReadyH.cons rfl (fun K hK => ?_) AllReadyH.nil
       go_simp
       refine (HPL.out _).mono ?_
       rintro e W3 ⟨rfl, hb⟩
       have hS3 := hS2.next hb
       have HX3 := Lib.hid (HX2.out.next hb)
       have HG3 := Lib.hid (blk_next HG2.out hb)
       have HV3 := Lib.hid (HV2.out.next hb)
       have HB3 : Hid (Below w.heap.size w W3) := HB2.out.trans (hb.mono HB2.out.size)
       clear hb hS2 HX2 HG2 HV2 HB2
       refine hK.out _ _ hS3 (fun _ => ?_)
       clear hK K
       refine wpAnyH_ready (rs := [5]) (by kernel_rfl) (by simp) ?_
       refine AllReadyH.cons rfl (fun K hK => ?_) AllReadyH.nil
       obtain ⟨sR, hsR⟩ : ∃ x, x = rneg R := ⟨_, rfl⟩
       obtain ⟨nR, hnR⟩ : ∃ x, x = rnum R := ⟨_, rfl⟩
       obtain ⟨dR, hdR⟩ : ∃ x, x = rden R := ⟨_, rfl⟩
       rw [← hsR, ← hnR, ← hdR]
       have HRR := Lib.hid (And.intro hsR (And.intro hnR hdR))
       clear hsR hnR hdR
       obtain ⟨c0, c1, c2, f0, f1, f2, hz⟩ := three_of HV3.out
       go_simp
       clear c0 c1 c2 f0 f1 f2 hz
       have hS4 : (SBox g ⟨o, c, vn, vu, vd⟩) (((W3.setCell ⟨q + 1 + 1, 0, none⟩ (.bool sR)).setCell ⟨q + 1 + 1, 1, none⟩ (.string nR)).setCell ⟨q + 1 + 1, 2, none⟩ (.string dR)) := (heap_setCell_other _ ⟨q + 1 + 1, 2, none⟩ g _ hgq).trans ((heap_setCell_other _ ⟨q + 1 + 1, 1, none⟩ g _ hgq).trans ((heap_setCell_other _ ⟨q + 1 + 1, 0, none⟩ g _ hgq).trans hS3))
       have HX4 : Hid (PBox q Ak nk ck (some ⟨b, off, none⟩) ns cs At nt ct (((W3.setCell ⟨q + 1 + 1, 0, none⟩ (.bool sR)).setCell ⟨q + 1 + 1, 1, none⟩ (.string nR)).setCell ⟨q + 1 + 1, 2, none⟩ (.string dR))) := (heap_setCell_other _ ⟨q + 1 + 1, 2, none⟩ q _ (by show q ≠ q + 1 + 1; omega)).trans ((heap_setCell_other _ ⟨q + 1 + 1, 1, none⟩ q _ (by show q ≠ q + 1 + 1; omega)).trans ((heap_setCell_other _ ⟨q + 1 + 1, 0, none⟩ q _ (by show q ≠ q + 1 + 1; omega)).trans HX3.out))
       have HG4 : Hid ((((W3.setCell ⟨q + 1 + 1, 0, none⟩ (.bool sR)).setCell ⟨q + 1 + 1, 1, none⟩ (.string nR)).setCell ⟨q + 1 + 1, 2, none⟩ (.string dR)).heap[q + 1]? = some (.cells #[.bool false, .string ⟨#[]⟩, .string ⟨#[]⟩] 70 (0, 0))) := (heap_setCell_other _ ⟨q + 1 + 1, 2, none⟩ (q + 1) _ (by show q + 1 ≠ q + 1 + 1; omega)).trans ((heap_setCell_other _ ⟨q + 1 + 1, 1, none⟩ (q + 1) _ (by show q + 1 ≠ q + 1 + 1; omega)).trans ((heap_setCell_other _ ⟨q + 1 + 1, 0, none⟩ (q + 1) _ (by show q + 1 ≠ q + 1 + 1; omega)).trans HG3.out))
       have HV4 := Lib.hid (HV3.out.set sR nR dR)
       have HB4 : Hid (Below w.heap.size w (((W3.setCell ⟨q + 1 + 1, 0, none⟩ (.bool sR)).setCell ⟨q + 1 + 1, 1, none⟩ (.string nR)).setCell ⟨q + 1 + 1, 2, none⟩ (.string dR))) := ((HB3.out.setCell (by show w.heap.size ≤ q + 1 + 1; omega) _).setCell (by show w.heap.size ≤ q + 1 + 1; omega) _).setCell (by show w.heap.size ≤ q + 1 + 1; omega) _
       refine hK.out _ _ hS4 (fun _ => ?_)
       clear hK K
       refine wpAnyH_done (by kernel_rfl) ?_ _
       clear hS4
       go_wp2_with fail
       go_roundw
       case measure => simp [intOf] <;> omega
       case rel => exact ⟨j + 1, by omega, by go_num, by rw [HSA.out, ← HRR.out.1, ← HRR.out.2.1, ← HRR.out.2.2]; exact HV4, HG4, HX4, HB4⟩
     ·
      have hob : (o == owner) = false := beq_eq_false_iff_ne.2 h1
      clear h1
      obtain ⟨h, hh⟩ : ∃ h, h = set.any (· == o) := ⟨_, rfl⟩
      have HHC := Lib.hid (has_calls Al nl cl set o wa HLL.out.1 (HLL.out.2.1.next HBwa.out) HLL.out.2.2 h hh)
      have HHE := Lib.hid hh
      clear hh
      cases h
      ·
       have HSK : Hid (vs F (P.stakes.take (j + 1)) = v) := by show _ = _; rw [HTK.out, if_neg (by rw [HFE.out]; unfold vF; dsimp only; rw [hcb, d0, hob, ← HHE.out]; simp)]
       go_wp2_with fail
       rw [← HW.out.1, ← HW.out.2]
       clear HW p0 p1 p2 p3 p4 s0 s1 s2 s3 s4 k0 k1 k2 HXwp HGwp HVwp HBwp
       refine HHC.out.mono ?_
       rintro e wb ⟨rfl, hbw⟩
       rw [hbw]
       clear hbw HHC
       go_wp2_with fail
       go_roundw
       case measure => simp [intOf] <;> omega
       case rel => exact ⟨j + 1, by omega, by go_num, by rw [HSK.out, ← HLT.out.1, ← HLT.out.2.1, ← HLT.out.2.2]; exact HVwa, HGwa, HXwa, HBwa⟩
      ·
       have HFT : Hid (F ⟨o, c, vn, vu, vd⟩ = true) := by show _ = _; rw [HFE.out]; unfold vF; dsimp only; rw [hcb, d0, hob, ← HHE.out]; rfl
       have hszv := vs_sz (f := F) (l := P.stakes.take j) (m := m) (fun s hs => HPB.out.sz s (List.mem_of_mem_take hs))
       rw [← HVE.out] at hszv
       have hm2 := HPB.out.m2
       have hm1 := HPB.out.m1
       have hlen : (P.stakes.take j).length ≤ 64 := by rw [List.length_take, ← HNS.out]; omega
       have hmul : (m + 1) * (P.stakes.take j).length ≤ 1001 * 64 := Nat.mul_le_mul (by omega) hlen
       obtain ⟨y, hy⟩ : ∃ y, y = fixR ⟨vn, vu, vd⟩ := ⟨_, rfl⟩
       have HFX' := fun W => refFix_calls ⟨vn, vu, vd⟩ m W HBS.out.2.2 (by omega)
       have hszy := fix_sz HBS.out.2.2 hm1
       dsimp only at hszy
       rw [← hy] at HFX' hszy
       unfold FQ.val at HFX'
       dsimp only at HFX'
       have HPL' := fun W => refPlus_calls v y 64065 m W (hszv.mono (by omega)) hszy (by omega)
       have HSA : Hid (vs F (P.stakes.take (j + 1)) = v + y) := by show _ = _; rw [HTK.out, if_pos HFT.out, hy]
       obtain ⟨R, hR⟩ : ∃ R, R = v + y := ⟨_, rfl⟩
       rw [← hR] at HPL' HSA
       unfold ratV at HFX' HPL'
       rw [← HLT.out.1, ← HLT.out.2.1, ← HLT.out.2.2] at HPL'
       obtain ⟨sy, hsy⟩ : ∃ x, x = rneg y := ⟨_, rfl⟩
       obtain ⟨ny, hny⟩ : ∃ x, x = rnum y := ⟨_, rfl⟩
       obtain ⟨dy, hdy⟩ : ∃ x, x = rden y := ⟨_, rfl⟩
       rw [← hsy, ← hny, ← hdy] at HFX' HPL'
       have HFX := Lib.hid HFX'
       have HPL := Lib.hid HPL'
       clear hszv hm1 hm2 hlen hmul HFX' HPL' hszy hy hR hsy hny hdy
       go_wp2_with fail
       rw [← HW.out.1, ← HW.out.2]
       clear HW p0 p1 p2 p3 p4 s0 s1 s2 s3 s4 k0 k1 k2 HXwp HGwp HVwp HBwp
       refine HHC.out.mono ?_
       rintro e wb ⟨rfl, hbw⟩
       rw [hbw]
       clear hbw HHC
       obtain ⟨s0, s1, s2, s3, s4⟩ := HSwa.out.cells
       go_wp2_with fail
       clear s0 s1 s2 s3 s4
       obtain ⟨W1, hW1⟩ : ∃ W, W = wa.drew := ⟨_, rfl⟩
       have hS : (SBox g ⟨o, c, vn, vu, vd⟩) W1 := by rw [hW1]; exact HSwa.out
       have HX1 : Hid (PBox q Ak nk ck (some ⟨b, off, none⟩) ns cs At nt ct W1) := by rw [hW1]; exact HXwa.out
       have HG1 : Hid (W1.heap[q + 1]? = some (.cells #[.bool false, .string ⟨#[]⟩, .string ⟨#[]⟩] 70 (0, 0))) := by rw [hW1]; exact HGwa.out
       have HV1 : Hid (Q3 (q + 1 + 1) sv nv dv W1) := by rw [hW1]; exact HVwa.out
       have HB1 : Hid (Below w.heap.size w W1) := by rw [hW1]; exact HBwa.out.drew
       refine wp_region_held_drew (S := (SBox g ⟨o, c, vn, vu, vd⟩)) (by kernel_rfl) (by rw [← hW1]; exact hS) ?_
       rw [← hW1]
       intro _
       clear hW1 HSwa HXwa HGwa HVwa HBwa
       refine wpAnyH_take (i := 1) rfl (by kernel_rfl) (by kernel_rfl) (by kernel_rfl) (fun _ _ _ h => h) (Or.inl ⟨by kernel_rfl, (by intro w' _; go_simp; with_reducible rfl)⟩) hS ?_
       go_simp
       refine wpAnyH_take (i := 2) (v := .agg #[.bool vn, .string vu, .string vd]) rfl (by kernel_rfl) (by kernel_rfl) (by kernel_rfl) (fun _ _ _ h => h) (Or.inl ⟨by kernel_rfl, (by intro w' hw'; obtain ⟨s0, s1, s2, s3, s4⟩ := hw'.cells; go_simp)⟩) hS ?_
       go_simp
       refine wpAnyH_ready (rs := [0, 3]) (by kernel_rfl) (by simp) ?_
       refine AllReadyH.cons rfl (fun K hK => ?_) (AllReadyH.cons rfl (fun K hK => ?_) AllReadyH.nil)
       ·
        obtain ⟨q0, q1, q2⟩ := HV1.out.cells
        go_simp
        clear q0 q1 q2
        refine hK.out _ _ hS (fun _ => ?_)
        clear hK K
        refine wpAnyH_ready (rs := [3]) (by kernel_rfl) (by simp) ?_
        refine AllReadyH.cons rfl (fun K hK => ?_) AllReadyH.nil
        go_simp
        refine (HFX.out _).mono ?_
        rintro e W2 ⟨rfl, hb⟩
        have hS2 := hS.next hb
        have HX2 := Lib.hid (HX1.out.next hb)
        have HG2 := Lib.hid (blk_next HG1.out hb)
        have HV2 := Lib.hid (HV1.out.next hb)
        have HB2 : Hid (Below w.heap.size w W2) := HB1.out.trans (hb.mono HB1.out.size)
        clear hb hS HX1 HG1 HV1 HB1
        refine hK.out _ _ hS2 (fun _ => ?_)
        clear hK K
        refine wpAnyH_ready (rs := [4]) (by kernel_rfl) (by simp) ?_
        refine AllReadyH.cons rfl (fun K hK => ?_) AllReadyH.nil
        go_simp
        refine (HPL.out _).mono ?_
        rintro e W3 ⟨rfl, hb⟩
        have hS3 := hS2.next hb
        have HX3 := Lib.hid (HX2.out.next hb)
        have HG3 := Lib.hid (blk_next HG2.out hb)
        have HV3 := Lib.hid (HV2.out.next hb)
        have HB3 : Hid (Below w.heap.size w W3) := HB2.out.trans (hb.mono HB2.out.size)
        clear hb hS2 HX2 HG2 HV2 HB2
        refine hK.out _ _ hS3 (fun _ => ?_)
        clear hK K
        refine wpAnyH_ready (rs := [5]) (by kernel_rfl) (by simp) ?_
        refine AllReadyH.cons rfl (fun K hK => ?_) AllReadyH.nil
        obtain ⟨sR, hsR⟩ : ∃ x, x = rneg R := ⟨_, rfl⟩
        obtain ⟨nR, hnR⟩ : ∃ x, x = rnum R := ⟨_, rfl⟩
        obtain ⟨dR, hdR⟩ : ∃ x, x = rden R := ⟨_, rfl⟩
        rw [← hsR, ← hnR, ← hdR]
        have HRR := Lib.hid (And.intro hsR (And.intro hnR hdR))
        clear hsR hnR hdR
        obtain ⟨c0, c1, c2, f0, f1, f2, hz⟩ := three_of HV3.out
        go_simp
        clear c0 c1 c2 f0 f1 f2 hz
        have hS4 : (SBox g ⟨o, c, vn, vu, vd⟩) (((W3.setCell ⟨q + 1 + 1, 0, none⟩ (.bool sR)).setCell ⟨q + 1 + 1, 1, none⟩ (.string nR)).setCell ⟨q + 1 + 1, 2, none⟩ (.string dR)) := (heap_setCell_other _ ⟨q + 1 + 1, 2, none⟩ g _ hgq).trans ((heap_setCell_other _ ⟨q + 1 + 1, 1, none⟩ g _ hgq).trans ((heap_setCell_other _ ⟨q + 1 + 1, 0, none⟩ g _ hgq).trans hS3))
        have HX4 : Hid (PBox q Ak nk ck (some ⟨b, off, none⟩) ns cs At nt ct (((W3.setCell ⟨q + 1 + 1, 0, none⟩ (.bool sR)).setCell ⟨q + 1 + 1, 1, none⟩ (.string nR)).setCell ⟨q + 1 + 1, 2, none⟩ (.string dR))) := (heap_setCell_other _ ⟨q + 1 + 1, 2, none⟩ q _ (by show q ≠ q + 1 + 1; omega)).trans ((heap_setCell_other _ ⟨q + 1 + 1, 1, none⟩ q _ (by show q ≠ q + 1 + 1; omega)).trans ((heap_setCell_other _ ⟨q + 1 + 1, 0, none⟩ q _ (by show q ≠ q + 1 + 1; omega)).trans HX3.out))
        have HG4 : Hid ((((W3.setCell ⟨q + 1 + 1, 0, none⟩ (.bool sR)).setCell ⟨q + 1 + 1, 1, none⟩ (.string nR)).setCell ⟨q + 1 + 1, 2, none⟩ (.string dR)).heap[q + 1]? = some (.cells #[.bool false, .string ⟨#[]⟩, .string ⟨#[]⟩] 70 (0, 0))) := (heap_setCell_other _ ⟨q + 1 + 1, 2, none⟩ (q + 1) _ (by show q + 1 ≠ q + 1 + 1; omega)).trans ((heap_setCell_other _ ⟨q + 1 + 1, 1, none⟩ (q + 1) _ (by show q + 1 ≠ q + 1 + 1; omega)).trans ((heap_setCell_other _ ⟨q + 1 + 1, 0, none⟩ (q + 1) _ (by show q + 1 ≠ q + 1 + 1; omega)).trans HG3.out))
        have HV4 := Lib.hid (HV3.out.set sR nR dR)
        have HB4 : Hid (Below w.heap.size w (((W3.setCell ⟨q + 1 + 1, 0, none⟩ (.bool sR)).setCell ⟨q + 1 + 1, 1, none⟩ (.string nR)).setCell ⟨q + 1 + 1, 2, none⟩ (.string dR))) := ((HB3.out.setCell (by show w.heap.size ≤ q + 1 + 1; omega) _).setCell (by show w.heap.size ≤ q + 1 + 1; omega) _).setCell (by show w.heap.size ≤ q + 1 + 1; omega) _
        refine hK.out _ _ hS4 (fun _ => ?_)
        clear hK K
        refine wpAnyH_done (by kernel_rfl) ?_ _
        clear hS4
        go_wp2_with fail
        go_roundw
        case measure => simp [intOf] <;> omega
        case rel => exact ⟨j + 1, by omega, by go_num, by rw [HSA.out, ← HRR.out.1, ← HRR.out.2.1, ← HRR.out.2.2]; exact HV4, HG4, HX4, HB4⟩
       ·
        go_simp
        refine (HFX.out _).mono ?_
        rintro e W2 ⟨rfl, hb⟩
        have hS2 := hS.next hb
        have HX2 := Lib.hid (HX1.out.next hb)
        have HG2 := Lib.hid (blk_next HG1.out hb)
        have HV2 := Lib.hid (HV1.out.next hb)
        have HB2 : Hid (Below w.heap.size w W2) := HB1.out.trans (hb.mono HB1.out.size)
        clear hb hS HX1 HG1 HV1 HB1
        refine hK.out _ _ hS2 (fun _ => ?_)
        clear hK K
        refine wpAnyH_ready (rs := [0]) (by kernel_rfl) (by simp) ?_
        refine AllReadyH.cons rfl (fun K hK => ?_) AllReadyH.nil
        obtain ⟨q0, q1, q2⟩ := HV2.out.cells
        go_simp
        clear q0 q1 q2
        refine hK.out _ _ hS2 (fun _ => ?_)
        clear hK K
        refine wpAnyH_ready (rs := [4]) (by kernel_rfl) (by simp) ?_
        refine AllReadyH.cons rfl (fun K hK => ?_) AllReadyH.nil
        go_simp
        refine (HPL.out _).mono ?_
        rintro e W3 ⟨rfl, hb⟩
        have hS3 := hS2.next hb
        have HX3 := Lib.hid (HX2.out.next hb)
        have HG3 := Lib.hid (blk_next HG2.out hb)
        have HV3 := Lib.hid (HV2.out.next hb)
        have HB3 : Hid (Below w.heap.size w W3) := HB2.out.trans (hb.mono HB2.out.size)
        clear hb hS2 HX2 HG2 HV2 HB2
        refine hK.out _ _ hS3 (fun _ => ?_)
        clear hK K
        refine wpAnyH_ready (rs := [5]) (by kernel_rfl) (by simp) ?_
        refine AllReadyH.cons rfl (fun K hK => ?_) AllReadyH.nil
        obtain ⟨sR, hsR⟩ : ∃ x, x = rneg R := ⟨_, rfl⟩
        obtain ⟨nR, hnR⟩ : ∃ x, x = rnum R := ⟨_, rfl⟩
        obtain ⟨dR, hdR⟩ : ∃ x, x = rden R := ⟨_, rfl⟩
        rw [← hsR, ← hnR, ← hdR]
        have HRR := Lib.hid (And.intro hsR (And.intro hnR hdR))
        clear hsR hnR hdR
        obtain ⟨c0, c1, c2, f0, f1, f2, hz⟩ := three_of HV3.out
        go_simp
        clear c0 c1 c2 f0 f1 f2 hz
        have hS4 : (SBox g ⟨o, c, vn, vu, vd⟩) (((W3.setCell ⟨q + 1 + 1, 0, none⟩ (.bool sR)).setCell ⟨q + 1 + 1, 1, none⟩ (.string nR)).setCell ⟨q + 1 + 1, 2, none⟩ (.string dR)) := (heap_setCell_other _ ⟨q + 1 + 1, 2, none⟩ g _ hgq).trans ((heap_setCell_other _ ⟨q + 1 + 1, 1, none⟩ g _ hgq).trans ((heap_setCell_other _ ⟨q + 1 + 1, 0, none⟩ g _ hgq).trans hS3))
        have HX4 : Hid (PBox q Ak nk ck (some ⟨b, off, none⟩) ns cs At nt ct (((W3.setCell ⟨q + 1 + 1, 0, none⟩ (.bool sR)).setCell ⟨q + 1 + 1, 1, none⟩ (.string nR)).setCell ⟨q + 1 + 1, 2, none⟩ (.string dR))) := (heap_setCell_other _ ⟨q + 1 + 1, 2, none⟩ q _ (by show q ≠ q + 1 + 1; omega)).trans ((heap_setCell_other _ ⟨q + 1 + 1, 1, none⟩ q _ (by show q ≠ q + 1 + 1; omega)).trans ((heap_setCell_other _ ⟨q + 1 + 1, 0, none⟩ q _ (by show q ≠ q + 1 + 1; omega)).trans HX3.out))
        have HG4 : Hid ((((W3.setCell ⟨q + 1 + 1, 0, none⟩ (.bool sR)).setCell ⟨q + 1 + 1, 1, none⟩ (.string nR)).setCell ⟨q + 1 + 1, 2, none⟩ (.string dR)).heap[q + 1]? = some (.cells #[.bool false, .string ⟨#[]⟩, .string ⟨#[]⟩] 70 (0, 0))) := (heap_setCell_other _ ⟨q + 1 + 1, 2, none⟩ (q + 1) _ (by show q + 1 ≠ q + 1 + 1; omega)).trans ((heap_setCell_other _ ⟨q + 1 + 1, 1, none⟩ (q + 1) _ (by show q + 1 ≠ q + 1 + 1; omega)).trans ((heap_setCell_other _ ⟨q + 1 + 1, 0, none⟩ (q + 1) _ (by show q + 1 ≠ q + 1 + 1; omega)).trans HG3.out))
        have HV4 := Lib.hid (HV3.out.set sR nR dR)
        have HB4 : Hid (Below w.heap.size w (((W3.setCell ⟨q + 1 + 1, 0, none⟩ (.bool sR)).setCell ⟨q + 1 + 1, 1, none⟩ (.string nR)).setCell ⟨q + 1 + 1, 2, none⟩ (.string dR))) := ((HB3.out.setCell (by show w.heap.size ≤ q + 1 + 1; omega) _).setCell (by show w.heap.size ≤ q + 1 + 1; omega) _).setCell (by show w.heap.size ≤ q + 1 + 1; omega) _
        refine hK.out _ _ hS4 (fun _ => ?_)
        clear hK K
        refine wpAnyH_done (by kernel_rfl) ?_ _
        clear hS4
        go_wp2_with fail
        go_roundw
        case measure => simp [intOf] <;> omega
        case rel => exact ⟨j + 1, by omega, by go_num, by rw [HSA.out, ← HRR.out.1, ← HRR.out.2.1, ← HRR.out.2.2]; exact HV4, HG4, HX4, HB4⟩
   ·
    have hcb : (c == company) = false := beq_eq_false_iff_ne.2 hc1
    have HSK : Hid (vs F (P.stakes.take (j + 1)) = v) := by show _ = _; rw [HTK.out, if_neg (by rw [HFE.out]; unfold vF; dsimp only; rw [hcb]; simp)]
    clear hc1
    go_wp2_with fail
    rw [← HW.out.1]
    clear HW p0 p1 p2 p3 p4 s0 s1 s2 s3 s4 k0 k1 k2 HXwp HGwp HVwp HBwp
    go_roundw
    case measure => simp [intOf] <;> omega
    case rel => exact ⟨j + 1, by omega, by go_num, by rw [HSK.out, ← HLT.out.1, ← HLT.out.2.1, ← HLT.out.2.2]; exact HVwa, HGwa, HXwa, HBwa⟩
  ·
   have HEND : Hid (v = vs F P.stakes) := by
    have := HVE.out
    rwa [List.take_of_length_le (by rw [← HNS.out]; omega)] at this
   obtain ⟨c0, c1, c2, f0, f1, f2, hz⟩ := three_of HGwp.out
   obtain ⟨a0, a1, a2, _⟩ := three_of HVwp.out
   go_wp2_with fail
   refine bodyPost_ret (v := .agg #[.bool sv, .string nv, .string dv]) (by simp [results, Tryz.results65, go_sem, c0, c1, c2]) rfl ⟨?_, ((HBwp.out.setCell (by show w.heap.size ≤ q + 1; omega) _).setCell (by show w.heap.size ≤ q + 1; omega) _).setCell (by show w.heap.size ≤ q + 1; omega) _⟩
   rw [← HEND.out, ratV, HLT.out.1, HLT.out.2.1, HLT.out.2.2]

end Go.Proofs.YtomfcmlomfcghaaGreatDoor

/- The definition's list of a set: plain laws. -/
set_option linter.unusedVariables false
set_option linter.unusedSimpArgs false
namespace Go.Proofs.YtomfcmlomfcghaaGreatDoor
open Go.RowKit

/-! the definition's list of a set -/
def setS (l : List Int) (c : Nat) : Bool := l.any (· == (c : Int))
theorem setS_snoc (l : List Int) (k : Nat) : setS (l ++ [(k : Int)]) = addS (setS l) k := by
  funext d
  unfold setS addS
  rw [List.any_append]
  congr 1
  rw [List.any_cons, List.any_nil, Bool.or_false]
  by_cases h : d = k
  · subst h; simp
  · rw [beq_eq_false_iff_ne.2 h, beq_eq_false_iff_ne]; omega
theorem cnt_nil (n : Nat) : cnt (setS []) n = 0 := by
  induction n with
  | zero => rfl
  | succ n ih => rw [cnt_succ, ih]; rfl
theorem vF_vt {P : Prt} (h : Good P) (l : List Int) {own : Int} (ho : 0 ≤ own) (c : Nat) : vs (vF l own (c : Int)) P.stakes = vt P own (setS l) c := by
  unfold vt
  refine vs_congr (fun s hs => ?_)
  obtain ⟨h1, _, _⟩ := fine_parts (h.s s hs).1
  unfold vF hold setS
  rw [decide_eq_false (show ¬ own < 0 by omega), Bool.false_or, show ((s.o.toNat : Nat) : Int) = s.o by omega]
theorem vF_all (P : Prt) (c : Nat) : vs (vF [] (-1) (c : Int)) P.stakes = vs (fun s => s.c == (c : Int)) P.stakes := by
  refine vs_congr (fun s _ => ?_)
  unfold vF
  rw [decide_eq_true (show (-1 : Int) < 0 by decide), Bool.true_or, Bool.and_true]
theorem half_pos : (0 : Rat) ≤ halfR := by unfold halfR; decide +kernel
theorem vt_kind {P : Prt} (h : Good P) {own : Int} {S : Nat → Bool} {c : Nat} (hk : kindAt P.kinds (c : Int) ≠ 2) : ¬ halfR < vt P own S c := by
  have : vt P own S c = 0 := by
    unfold vt
    refine vs_none (fun s hs => ?_)
    obtain ⟨_, _, h2, _⟩ := fine_parts (h.s s hs).1
    unfold hold
    rw [beq_eq_false_iff_ne.2 (fun e => hk (by rw [← e]; exact h2)), Bool.false_and]
  rw [this]
  exact Rat.not_lt.2 half_pos


end Go.Proofs.YtomfcmlomfcghaaGreatDoor

/- insolvencyref1.CheckParties. -/
set_option linter.unusedVariables false
set_option linter.unusedSimpArgs false
namespace Go.Proofs.YtomfcmlomfcghaaGreatDoor
open Go.RowKit

set_option maxHeartbeats 8000000 in
set_option maxRecDepth 100000 in
theorem rchk_calls (Ak : Option Addr) (nk ck : Nat) (As : Option Addr) (ns cs : Nat) (At : Option Addr) (nt ct : Nat) (P : Prt) (m : Nat) (w : World) (hp : PRd Ak nk As ns At nt P w) (hb : PB m P) :
 Calls Tryz.prog 41 #[ptyVal Ak nk ck As ns cs At nt ct] w fun e w' => e = .returned (.int .i64 (chk P)) ∧ Below w.heap.size w w' := by
 have HP := Lib.hid hp
 have HPB := Lib.hid hb
 have HNK := Lib.hid hp.nk
 have HNS := Lib.hid hp.ns
 have HNT := Lib.hid hp.nt
 have gk : nk ≤ maxLen := by rw [hp.nk]; exact hb.kl
 have gs : ns ≤ maxLen := by rw [hp.ns]; exact hb.sl
 have gt : nt ≤ maxLen := by rw [hp.nt]; exact hb.tl
 have GK := Lib.hid gk
 unfold maxLen at gk gs gt
 clear hp hb
 obtain ⟨E, hE⟩ : ∃ E, E = chk P := ⟨_, rfl⟩
 rw [← hE]
 have HE := Lib.hid hE
 clear hE
 obtain ⟨w0, hw0⟩ : ∃ W, W = w.alloc (.cells #[.slice Ak nk ck, .slice As ns cs, .slice At nt ct] 26) := ⟨_, rfl⟩
 obtain ⟨q, hq⟩ : ∃ q, q = w.heap.size := ⟨_, rfl⟩
 have HB0 : Hid (Below w.heap.size w w0) := by rw [hw0]; exact bel_alloc _ _
 have HX0 : Hid (PBox q Ak nk ck As ns cs At nt ct w0) := by rw [hw0, hq]; exact blk_new _ _
 by_cases l0 : 32 < nk
 ·
  have d0 : decide ((32 : Int) < (nk : Int)) = true := decide_eq_true (by omega)
  obtain rfl : E = 2 := by rw [HE.out]; exact chk2 (by rw [← HNK.out, ← HNS.out, ← HNT.out]; omega)
  go_enter Tryz.func41, Tryz.ntmps41
  go_upto_region 1 with fail
  rw [← hw0, ← hq]
  have HQ := Lib.hid hq
  clear hw0 hq
  obtain ⟨k0, k1, k2⟩ := HX0.out.cells
  go_wp2_with fail
  go_ret
  exact ⟨rfl, HB0.out⟩
 ·
  have d0 : decide ((32 : Int) < (nk : Int)) = false := decide_eq_false (by omega)
  by_cases l1 : 64 < ns
  ·
   have d1 : decide ((64 : Int) < (ns : Int)) = true := decide_eq_true (by omega)
   obtain rfl : E = 2 := by rw [HE.out]; exact chk2 (by rw [← HNK.out, ← HNS.out, ← HNT.out]; omega)
   go_enter Tryz.func41, Tryz.ntmps41
   go_upto_region 1 with fail
   rw [← hw0, ← hq]
   have HQ := Lib.hid hq
   clear hw0 hq
   obtain ⟨k0, k1, k2⟩ := HX0.out.cells
   go_wp2_with fail
   go_ret
   exact ⟨rfl, HB0.out⟩
  ·
   have d1 : decide ((64 : Int) < (ns : Int)) = false := decide_eq_false (by omega)
   by_cases l2 : 64 < nt
   ·
    have d2 : decide ((64 : Int) < (nt : Int)) = true := decide_eq_true (by omega)
    obtain rfl : E = 2 := by rw [HE.out]; exact chk2 (by rw [← HNK.out, ← HNS.out, ← HNT.out]; omega)
    go_enter Tryz.func41, Tryz.ntmps41
    go_upto_region 1 with fail
    rw [← hw0, ← hq]
    have HQ := Lib.hid hq
    clear hw0 hq
    obtain ⟨k0, k1, k2⟩ := HX0.out.cells
    go_wp2_with fail
    go_ret
    exact ⟨rfl, HB0.out⟩
   ·
    have d2 : decide ((64 : Int) < (nt : Int)) = false := decide_eq_false (by omega)
    have HL : Hid (¬ (32 < P.kinds.length ∨ 64 < P.stakes.length ∨ 64 < P.ties.length)) := by show ¬ _; rw [← HNK.out, ← HNS.out, ← HNT.out]; omega
    go_enter Tryz.func41, Tryz.ntmps41
    go_upto_region 1 with fail
    rw [← hw0, ← hq]
    have HQ := Lib.hid hq
    clear hw0 hq
    obtain ⟨k0, k1, k2⟩ := HX0.out.cells
    go_wp2_with fail
    clear d0 d1 d2
    go_loop [4] (fun i => ∃ k : Nat, k ≤ nk ∧ i = .int .i64 (k : Int) ∧ Hid ((P.kinds.take k).any kindBad = false)) (fun i => nk - (intOf i).toNat)
    case atStart => exact ⟨0, Nat.zero_le _, rfl, rfl⟩
    case round =>
     obtain ⟨k, hk, rfl, HT⟩ := hrel
     by_cases hlt : k < nk
     ·
      have hlt2 : (k : Int) < (nk : Int) := by omega
      obtain ⟨x, hx⟩ := getElem?_of_lt (l := P.kinds) (k := k) (by rw [← HNK.out]; exact hlt)
      obtain ⟨b, off, hA, _, c1⟩ := rd_int (HP.out.k.next HB0.out) hx
      subst hA
      have HXX := Lib.hid hx
      clear hx
      by_cases h1 : x = 1
      ·
       subst h1
       have HNX : Hid ((P.kinds.take (k + 1)).any kindBad = false) := any_take HT.out HXX.out (by decide)
       clear HT HXX
       go_wp2_with fail
       go_round
       case measure => simp [intOf] <;> omega
       case rel => exact ⟨k + 1, by omega, by go_num, HNX⟩
      ·
       by_cases h2 : x = 2
       ·
        subst h2
        have HNX : Hid ((P.kinds.take (k + 1)).any kindBad = false) := any_take HT.out HXX.out (by decide)
        clear HT HXX
        go_wp2_with fail
        go_round
        case measure => simp [intOf] <;> omega
        case rel => exact ⟨k + 1, by omega, by go_num, HNX⟩
       ·
        have x1 : (x != 1) = true := bne_iff_ne.2 h1
        have x2 : (x != 2) = true := bne_iff_ne.2 h2
        obtain rfl : E = 1 := by rw [HE.out]; exact chk1 HL.out (List.any_eq_true.2 ⟨x, List.mem_of_getElem? HXX.out, by unfold kindBad; rw [decide_eq_true h1, decide_eq_true h2]; rfl⟩)
        clear HT HXX
        go_wp2_with fail
        go_ret
        exact ⟨rfl, HB0.out⟩
     ·
      have HK : Hid (P.kinds.any kindBad = false) := by
       have := HT.out
       rwa [List.take_of_length_le (by rw [← HNK.out]; omega)] at this
      clear HT
      go_wp2_with fail
      clear k0 k1 k2
      go_loopw [5] (fun i wr => ∃ k : Nat, k ≤ ns ∧ i = .int .i64 (k : Int) ∧ Hid (stksErr P.kinds (P.stakes.drop k) = stksErr P.kinds P.stakes) ∧ Hid (PBox q Ak nk ck As ns cs At nt ct wr) ∧ Hid (Below w.heap.size w wr)) (fun i _ => ns - (intOf i).toNat)
      case atStart => exact ⟨0, Nat.zero_le _, rfl, rfl, HX0, HB0⟩
      case round =>
       clear HX0 HB0
       obtain ⟨j, hj, rfl, HD, HXwo, HBwo⟩ := hrel
       rename World => wo
       obtain ⟨j0, j1, j2⟩ := HXwo.out.cells
       by_cases hjl : j < ns
       ·
        have hjl2 : (j : Int) < (ns : Int) := by omega
        obtain ⟨s, hs⟩ := getElem?_of_lt (l := P.stakes) (k := j) (by rw [← HNS.out]; exact hjl)
        have HDS := Lib.hid (stks_drop HD.out hs)
        have HBS := Lib.hid (HPB.out.s s (List.mem_of_getElem? hs))
        obtain ⟨b, off, hA, _, hc⟩ := Rd.at_ (enc := stkV) (fun _ => rfl) (HP.out.s.next HBwo.out) hs
        subst hA
        have p0 := hc 0 _ rfl
        have p1 := hc 1 _ rfl
        have p2 := hc 2 _ rfl
        have p3 := hc 3 _ rfl
        have p4 := hc 4 _ rfl
        rw [Nat.add_zero] at p0
        rw [← Nat.add_assoc] at p1 p2 p3 p4
        clear hc hs
        obtain ⟨o, c, vn, vu, vd⟩ := s
        dsimp only at p0 p1 p2 p3 p4
        obtain ⟨g, hg⟩ : ∃ g, g = wo.heap.size := ⟨_, rfl⟩
        obtain ⟨wa, hwa⟩ : ∃ W, W = wo.alloc (.cells #[.int .i64 o, .int .i64 c, .bool vn, .string vu, .string vd] 72) := ⟨_, rfl⟩
        have HSwa : Hid (SBox g ⟨o, c, vn, vu, vd⟩ wa) := by rw [hwa, hg]; exact blk_new _ _
        have HXwa : Hid (PBox q Ak nk ck (some ⟨b, off, none⟩) ns cs At nt ct wa) := by rw [hwa]; exact HXwo.out.next (bel_alloc _ _)
        have HBwa : Hid (Below w.heap.size w wa) := by rw [hwa]; exact HBwo.out.alloc HBwo.out.size _
        have HW := Lib.hid (And.intro hwa hg)
        have hxa := HXwa.out
        have hsa := HSwa.out
        rw [hwa] at hxa hsa
        rw [hg] at hsa
        obtain ⟨k0, k1, k2⟩ := hxa.cells
        obtain ⟨s0, s1, s2, s3, s4⟩ := hsa.cells
        have hba := HBwa.out
        rw [hwa] at hba
        clear hwa hg HD hxa hsa
        rcases f1 : inN nk o with _ | _
        ·
         have F1 := Lib.hid f1
         clear f1
         obtain rfl : E = 14 := by
          have h14 := stkErr14 (ks := P.kinds) (s := ⟨o, c, vn, vu, vd⟩) (by unfold stkFine; dsimp only; rw [← HNK.out, F1.out]; rfl)
          have h2 := HDS.out.2 (by rw [h14]; decide)
          rw [HE.out, chkS HL.out HK.out (by rw [h2, h14]; decide), h2, h14]
         by_cases g1 : o < 0
         ·
          have d1 : decide (o < 0) = true := decide_eq_true g1
          have HBA := Lib.hid hba
          clear hba
          go_wp2_with fail
          go_ret
          exact ⟨rfl, HBA.out⟩
         ·
          have d1 : decide (o < 0) = false := decide_eq_false g1
          have d2 : decide ((nk : Int) ≤ o) = true := decide_eq_true (by have := mt inN_iff.2 (by rw [F1.out]; decide); omega)
          clear g1
          have HBA := Lib.hid hba
          clear hba
          go_wp2_with fail
          go_ret
          exact ⟨rfl, HBA.out⟩
        ·
         have ho := inN_true f1
         have d1 : decide (o < 0) = false := decide_eq_false (by omega)
         have d2 : decide ((nk : Int) ≤ o) = false := decide_eq_false (by omega)
         have F1 := Lib.hid f1
         clear f1 ho
         rcases f2 : inN nk c with _ | _
         ·
          have F2 := Lib.hid f2
          clear f2
          obtain rfl : E = 14 := by
           have h14 := stkErr14 (ks := P.kinds) (s := ⟨o, c, vn, vu, vd⟩) (by unfold stkFine; dsimp only; rw [← HNK.out, F1.out, F2.out]; rfl)
           have h2 := HDS.out.2 (by rw [h14]; decide)
           rw [HE.out, chkS HL.out HK.out (by rw [h2, h14]; decide), h2, h14]
          by_cases g1 : c < 0
          ·
           have d3 : decide (c < 0) = true := decide_eq_true g1
           have HBA := Lib.hid hba
           clear hba
           go_wp2_with fail
           go_ret
           exact ⟨rfl, HBA.out⟩
          ·
           have d3 : decide (c < 0) = false := decide_eq_false g1
           have d4 : decide ((nk : Int) ≤ c) = true := decide_eq_true (by have := mt inN_iff.2 (by rw [F2.out]; decide); omega)
           clear g1
           have HBA := Lib.hid hba
           clear hba
           go_wp2_with fail
           go_ret
           exact ⟨rfl, HBA.out⟩
         ·
          have hc := inN_true f2
          obtain ⟨i, hi⟩ : ∃ i : Nat, c = (i : Int) := ⟨c.toNat, by omega⟩
          subst hi
          have d3 : decide ((i : Int) < 0) = false := decide_eq_false (by omega)
          have d4 : decide ((nk : Int) ≤ (i : Int)) = false := decide_eq_false (by omega)
          have hil : i < nk := by omega
          have hil2 : (i : Int) < (nk : Int) := by omega
          have F2 := Lib.hid f2
          clear f2 hc
          obtain ⟨y, hy⟩ := getElem?_of_lt (l := P.kinds) (k := i) (by rw [← HNK.out]; exact hil)
          have hky : kindAt P.kinds (i : Int) = y := by unfold kindAt; rw [Int.toNat_natCast, List.getD, hy]; rfl
          obtain ⟨bk, ok, hA, _, ky⟩ := rd_int (HP.out.k.next hba) hy
          subst hA
          clear hy
          have HBA := Lib.hid hba
          clear hba
          by_cases f3 : y = 2
          ·
           subst f3
           by_cases f4 : o = (i : Int)
           ·
            have F4 := Lib.hid f4
            have HKY := Lib.hid hky
            clear hky
            obtain rfl : E = 14 := by
             have h14 := stkErr14 (ks := P.kinds) (s := ⟨o, (i : Int), vn, vu, vd⟩) (by unfold stkFine; dsimp only; rw [← HNK.out, F1.out, F2.out, HKY.out, decide_eq_false (show ¬ o ≠ (i : Int) from fun h => h F4.out)]; rfl)
             have h2 := HDS.out.2 (by rw [h14]; decide)
             rw [HE.out, chkS HL.out HK.out (by rw [h2, h14]; decide), h2, h14]
            have hoe : (o == (i : Int)) = true := beq_iff_eq.2 f4
            clear f4
            go_wp2_with fail
            go_ret
            exact ⟨rfl, HBA.out⟩
           ·
            have hob : (o == (i : Int)) = false := beq_eq_false_iff_ne.2 f4
            have HFI : Hid (stkFine P.kinds ⟨o, (i : Int), vn, vu, vd⟩ = true) := by show _ = _; unfold stkFine; dsimp only; rw [← HNK.out, F1.out, F2.out, hky, decide_eq_true f4]; rfl
            have HSG' := fun W => refSign_calls ⟨vn, vu, vd⟩ m W HBS.out.2.2 (by have := HPB.out.m2; omega)
            obtain ⟨sg, hsg⟩ : ∃ x, x = sgnR (fixR ⟨vn, vu, vd⟩) := ⟨_, rfl⟩
            rw [← hsg] at HSG'
            unfold FQ.val at HSG'
            dsimp only at HSG'
            have HSG := Lib.hid HSG'
            have HSE := Lib.hid hsg
            clear HSG' hsg hky f4
            by_cases hs0 : sg ≤ 0
            ·
             have t0 : decide (sg ≤ 0) = true := decide_eq_true hs0
             obtain rfl : E = 1 := by
              have h1 := stkErr1 HFI.out (fun h => by have := sgnR_pos.2 h; rw [← HSE.out] at this; omega)
              have h2 := HDS.out.2 (by rw [h1]; decide)
              rw [HE.out, chkS HL.out HK.out (by rw [h2, h1]; decide), h2, h1]
             clear hs0
             go_wp2_with fail
             rw [← HW.out.1]
             clear HW p0 p1 p2 p3 p4 k0 k1 k2 s0 s1 s2 s3 s4 j0 j1 j2 ky HXwo HBwo HBA
             refine (HSG.out _).mono ?_
             rintro e w3 ⟨rfl, hb⟩
             have HXw3 := Lib.hid (HXwa.out.next hb)
             have HBw3 : Hid (Below w.heap.size w w3) := HBwa.out.trans (hb.mono HBwa.out.size)
             clear hb HXwa HSwa HBwa
             go_wp2_with fail
             go_ret
             exact ⟨rfl, HBw3.out⟩
            ·
             have t0 : decide (sg ≤ 0) = false := decide_eq_false hs0
             have HNX := Lib.hid (HDS.out.1 (stkErr_of HFI.out (sgnR_pos.1 (by rw [← HSE.out]; omega))))
             clear hs0
             go_wp2_with fail
             rw [← HW.out.1]
             clear HW p0 p1 p2 p3 p4 k0 k1 k2 s0 s1 s2 s3 s4 j0 j1 j2 ky HXwo HBwo HBA
             refine (HSG.out _).mono ?_
             rintro e w3 ⟨rfl, hb⟩
             have HXw3 := Lib.hid (HXwa.out.next hb)
             have HBw3 : Hid (Below w.heap.size w w3) := HBwa.out.trans (hb.mono HBwa.out.size)
             clear hb HXwa HSwa HBwa
             go_wp2_with fail
             go_roundw
             case measure => simp [intOf] <;> omega
             case rel => exact ⟨j + 1, by omega, by go_num, HNX, HXw3, HBw3⟩
          ·
           have F3 := Lib.hid f3
           have hyb : (y != 2) = true := bne_iff_ne.2 f3
           have HKY := Lib.hid hky
           clear f3 hky
           obtain rfl : E = 14 := by
            have h14 := stkErr14 (ks := P.kinds) (s := ⟨o, (i : Int), vn, vu, vd⟩) (by unfold stkFine; dsimp only; rw [← HNK.out, F1.out, F2.out, HKY.out, decide_eq_false F3.out]; rfl)
            have h2 := HDS.out.2 (by rw [h14]; decide)
            rw [HE.out, chkS HL.out HK.out (by rw [h2, h14]; decide), h2, h14]
           go_wp2_with fail
           go_ret
           exact ⟨rfl, HBA.out⟩
       ·
        have HS0 : Hid (stksErr P.kinds P.stakes = 0) := by
         have := HD.out
         rw [show P.stakes.drop j = [] from List.drop_eq_nil_of_le (by rw [← HNS.out]; omega)] at this
         exact this.symm
        clear HD
        go_wp2_with fail
        clear j0 j1 j2 hjl hj
        go_loopw [7] (fun i wr => ∃ k : Nat, k ≤ nk ∧ i = .int .i64 (k : Int) ∧ Hid (∀ c : Nat, c < k → vs (fun s => s.c == (c : Int)) P.stakes ≤ 1) ∧ Hid (PBox q Ak nk ck As ns cs At nt ct wr) ∧ Hid (Below w.heap.size w wr)) (fun i _ => nk - (intOf i).toNat)
        case atStart => exact ⟨0, Nat.zero_le _, rfl, (fun c hc => absurd hc (Nat.not_lt_zero _)), HXwo, HBwo⟩
        case round =>
         clear HXwo HBwo
         obtain ⟨j, hj, rfl, HOV, HXwq, HBwq⟩ := hrel
         rename World => wq
         by_cases hjl : j < nk
         ·
          have hjl2 : (j : Int) < (nk : Int) := by omega
          obtain ⟨qv, hqv⟩ : ∃ x, x = vs (fun s => s.c == (j : Int)) P.stakes := ⟨_, rfl⟩
          have hszq := vs_sz (f := fun s => s.c == (j : Int)) (l := P.stakes) (m := m) (fun s hs => HPB.out.sz s hs)
          rw [← hqv] at hszq
          have hm2 := HPB.out.m2
          have hlen : P.stakes.length ≤ 64 := by rw [← HNS.out]; omega
          have hmul : (m + 1) * P.stakes.length ≤ 1001 * 64 := Nat.mul_le_mul (by omega) hlen
          have HVT' := fun (W : World) (hW : Below w.heap.size w W) => rvotes_calls Ak nk ck As ns cs At nt ct none 0 0 P [] (-1) (j : Int) m W (HP.out.next hW) HPB.out (by omega) rfl Rd.nil (Nat.zero_le _)
          rw [vF_all, ← hqv] at HVT'
          have HLS' := fun W => refLess_calls 1 qv 1 64065 W ⟨by decide, by decide⟩ (hszq.mono (by omega)) (by decide)
          obtain ⟨lb, hlb⟩ : ∃ b, b = decide (1 < qv) := ⟨_, rfl⟩
          rw [← hlb] at HLS'
          have HON' := refOne_calls
          unfold ratV at HVT' HLS' HON'
          obtain ⟨sv, hsv⟩ : ∃ x, x = rneg qv := ⟨_, rfl⟩
          obtain ⟨nv, hnv⟩ : ∃ x, x = rnum qv := ⟨_, rfl⟩
          obtain ⟨dv, hdv⟩ : ∃ x, x = rden qv := ⟨_, rfl⟩
          rw [← hsv, ← hnv, ← hdv] at HVT' HLS'
          obtain ⟨s1, hs1⟩ : ∃ x, x = rneg 1 := ⟨_, rfl⟩
          obtain ⟨n1, hn1⟩ : ∃ x, x = rnum 1 := ⟨_, rfl⟩
          obtain ⟨e1, he1⟩ : ∃ x, x = rden 1 := ⟨_, rfl⟩
          rw [← hs1, ← hn1, ← he1] at HLS' HON'
          have HVT := Lib.hid HVT'
          have HLS := Lib.hid HLS'
          have HON := Lib.hid HON'
          have HQV := Lib.hid (And.intro hqv hlb)
          clear HVT' HLS' HON' hs1 hn1 he1 hsv hnv hdv hszq hm2 hlen hmul hqv hlb
          go_wp2_with fail
          obtain ⟨W1, hW1⟩ : ∃ W, W = wq.drew := ⟨_, rfl⟩
          have hS : (PBox q Ak nk ck As ns cs At nt ct) W1 := by rw [hW1]; exact HXwq.out
          have HB1 : Hid (Below w.heap.size w W1) := by rw [hW1]; exact HBwq.out.drew
          refine wp_region_held_drew (S := (PBox q Ak nk ck As ns cs At nt ct)) (by kernel_rfl) (by rw [← hW1]; exact hS) ?_
          rw [← hW1]
          intro _
          clear hW1 HXwq HBwq
          refine wpAnyH_take (i := 1) (v := ptyVal Ak nk ck As ns cs At nt ct) rfl (by kernel_rfl) (by kernel_rfl) (by kernel_rfl) (fun _ _ _ h => h) (Or.inl ⟨by kernel_rfl, (by intro w' hw'; obtain ⟨q0, q1, q2⟩ := hw'.cells; go_simp)⟩) hS ?_
          go_simp
          refine wpAnyH_take (i := 2) rfl (by kernel_rfl) (by kernel_rfl) (by kernel_rfl) (fun _ _ _ h => h) (Or.inl ⟨by kernel_rfl, (by intro w' _; go_simp; with_reducible rfl)⟩) hS ?_
          go_simp
          refine wpAnyH_ready (rs := [0]) (by kernel_rfl) (by simp) ?_
          refine AllReadyH.cons rfl (fun K hK => ?_) AllReadyH.nil
          go_simp
          refine (HON.out _).mono ?_
          rintro e W2 ⟨rfl, hb⟩
          have hS2 := hS.next hb
          have HB2 : Hid (Below w.heap.size w W2) := HB1.out.trans (hb.mono HB1.out.size)
          clear hb hS HB1
          refine hK.out _ _ hS2 (fun _ => ?_)
          clear hK K
          refine wpAnyH_ready (rs := [3]) (by kernel_rfl) (by simp) ?_
          refine AllReadyH.cons rfl (fun K hK => ?_) AllReadyH.nil
          go_simp
          refine (HVT.out _ HB2.out).mono ?_
          rintro e W3 ⟨rfl, hb⟩
          have hS3 := hS2.next hb
          have HB3 : Hid (Below w.heap.size w W3) := HB2.out.trans (hb.mono HB2.out.size)
          clear hb hS2 HB2
          refine hK.out _ _ hS3 (fun _ => ?_)
          clear hK K
          refine wpAnyH_ready (rs := [4]) (by kernel_rfl) (by simp) ?_
          refine AllReadyH.cons rfl (fun K hK => ?_) AllReadyH.nil
          go_simp
          refine (HLS.out _).mono ?_
          rintro e W4 ⟨rfl, hb⟩
          have hS4 := hS3.next hb
          have HB4 : Hid (Below w.heap.size w W4) := HB3.out.trans (hb.mono HB3.out.size)
          clear hb hS3 HB3
          refine hK.out _ _ hS4 (fun _ => ?_)
          clear hK K
          cases lb
          ·
           have HNX : Hid (∀ c : Nat, c < j + 1 → vs (fun s => s.c == (c : Int)) P.stakes ≤ 1) := fun c hc => by
            by_cases e : c = j
            ·
             subst e
             rw [← HQV.out.1]
             exact Rat.not_lt.1 (of_decide_eq_false HQV.out.2.symm)
            ·
             exact HOV.out c (by omega)
           clear HQV HOV
           refine wpAnyH_done (by kernel_rfl) ?_ _
           have HX4 := Lib.hid hS4
           clear hS4
           go_wp2_with fail
           go_roundw
           case measure => simp [intOf] <;> omega
           case rel => exact ⟨j + 1, by omega, by go_num, HNX, HX4, HB4⟩
          ·
           obtain rfl : E = 6 := by
            have h1 : 1 < qv := of_decide_eq_true HQV.out.2.symm
            rw [HQV.out.1] at h1
            rw [HE.out]; exact chk6 HL.out HK.out HS0.out (over_one (by rw [← HNK.out]; exact hjl) h1)
           clear HQV
           refine wpAnyH_done (by kernel_rfl) ?_ _
           go_wp2_with fail
           go_ret
           exact ⟨rfl, HB4.out⟩
         ·
          have HOF : Hid (overs P.kinds.length P.stakes = false) := overs_false.2 (fun c hc => HOV.out c (by rw [← HNK.out] at hc; omega))
          have HEE : Hid (E = if P.ties.all (tieFine P.kinds.length) = true then 0 else 14) := HE.out.trans (chkT HL.out HK.out HS0.out HOF.out)
          go_wp2_with fail
          clear hjl hj HOV
          go_loopw [8] (fun i wr => ∃ k : Nat, k ≤ nt ∧ i = .int .i64 (k : Int) ∧ Hid ((P.ties.take k).all (tieFine P.kinds.length) = true) ∧ Hid (PBox q Ak nk ck As ns cs At nt ct wr) ∧ Hid (Below w.heap.size w wr)) (fun i _ => nt - (intOf i).toNat)
          case atStart => exact ⟨0, Nat.zero_le _, rfl, rfl, HXwq, HBwq⟩
          case round =>
           clear HXwq HBwq
           obtain ⟨j, hj, rfl, HTT, HXwr, HBwr⟩ := hrel
           rename World => wr
           obtain ⟨j0, j1, j2⟩ := HXwr.out.cells
           by_cases hjl : j < nt
           ·
            have hjl2 : (j : Int) < (nt : Int) := by omega
            obtain ⟨t, ht⟩ := getElem?_of_lt (l := P.ties) (k := j) (by rw [← HNT.out]; exact hjl)
            have HMT := Lib.hid (And.intro (List.mem_of_getElem? ht) ht)
            obtain ⟨b, off, hA, _, hc⟩ := Rd.at_ (enc := tieV) (fun _ => rfl) (HP.out.t.next HBwr.out) ht
            subst hA
            have p0 := hc 0 _ rfl
            have p1 := hc 1 _ rfl
            rw [Nat.add_zero] at p0
            rw [← Nat.add_assoc] at p1
            clear hc ht
            obtain ⟨x, y⟩ := t
            dsimp only at p0 p1
            have HBA : Hid (Below w.heap.size w (wr.alloc (.cells #[.int .i64 x, .int .i64 y] 87))) := HBwr.out.alloc HBwr.out.size _
            have HXA : Hid (PBox q Ak nk ck As ns cs (some ⟨b, off, none⟩) nt ct (wr.alloc (.cells #[.int .i64 x, .int .i64 y] 87))) := HXwr.out.next (bel_alloc _ _)
            have hsa : TBox wr.heap.size x y (wr.alloc (.cells #[.int .i64 x, .int .i64 y] 87)) := blk_new _ _
            obtain ⟨s0, s1⟩ := hsa.cells
            clear hsa HXwr HBwr
            rcases f1 : inN nk x with _ | _
            ·
             have F1 := Lib.hid f1
             clear f1
             obtain rfl : E = 14 := by rw [HEE.out]; exact tie_bad HMT.out.1 (by unfold tieFine; dsimp only; rw [← HNK.out, F1.out]; rfl)
             by_cases g1 : x < 0
             ·
              have d1 : decide (x < 0) = true := decide_eq_true g1
              go_wp2_with fail
              go_ret
              exact ⟨rfl, HBA.out⟩
             ·
              have d1 : decide (x < 0) = false := decide_eq_false g1
              have d2 : decide ((nk : Int) ≤ x) = true := decide_eq_true (by have := mt inN_iff.2 (by rw [F1.out]; decide); omega)
              clear g1
              go_wp2_with fail
              go_ret
              exact ⟨rfl, HBA.out⟩
            ·
             have ho := inN_true f1
             have d1 : decide (x < 0) = false := decide_eq_false (by omega)
             have d2 : decide ((nk : Int) ≤ x) = false := decide_eq_false (by omega)
             have F1 := Lib.hid f1
             clear f1 ho
             rcases f2 : inN nk y with _ | _
             ·
              have F2 := Lib.hid f2
              clear f2
              obtain rfl : E = 14 := by rw [HEE.out]; exact tie_bad HMT.out.1 (by unfold tieFine; dsimp only; rw [← HNK.out, F1.out, F2.out]; rfl)
              by_cases g1 : y < 0
              ·
               have d3 : decide (y < 0) = true := decide_eq_true g1
               go_wp2_with fail
               go_ret
               exact ⟨rfl, HBA.out⟩
              ·
               have d3 : decide (y < 0) = false := decide_eq_false g1
               have d4 : decide ((nk : Int) ≤ y) = true := decide_eq_true (by have := mt inN_iff.2 (by rw [F2.out]; decide); omega)
               clear g1
               go_wp2_with fail
               go_ret
               exact ⟨rfl, HBA.out⟩
             ·
              have ho := inN_true f2
              have d3 : decide (y < 0) = false := decide_eq_false (by omega)
              have d4 : decide ((nk : Int) ≤ y) = false := decide_eq_false (by omega)
              have F2 := Lib.hid f2
              clear f2 ho
              by_cases f4 : x = y
              ·
               have F4 := Lib.hid f4
               obtain rfl : E = 14 := by rw [HEE.out]; exact tie_bad HMT.out.1 (by unfold tieFine; dsimp only; rw [← HNK.out, F1.out, F2.out, decide_eq_false (show ¬ x ≠ y from fun h => h F4.out)]; rfl)
               have hoe : (x == y) = true := beq_iff_eq.2 f4
               clear f4
               go_wp2_with fail
               go_ret
               exact ⟨rfl, HBA.out⟩
              ·
               have hob : (x == y) = false := beq_eq_false_iff_ne.2 f4
               have HNX : Hid ((P.ties.take (j + 1)).all (tieFine P.kinds.length) = true) := all_take HTT.out HMT.out.2 (by unfold tieFine; dsimp only; rw [← HNK.out, F1.out, F2.out, decide_eq_true f4]; rfl)
               clear f4 HTT HMT
               go_wp2_with fail
               go_roundw
               case measure => simp [intOf] <;> omega
               case rel => exact ⟨j + 1, by omega, by go_num, HNX, HXA, HBA⟩
           ·
            obtain rfl : E = 0 := by
             have := HTT.out
             rw [List.take_of_length_le (by rw [← HNT.out]; omega)] at this
             rw [HEE.out]; exact if_pos this
            go_wp2_with fail
            go_ret
            exact ⟨rfl, HBwr.out⟩

end Go.Proofs.YtomfcmlomfcghaaGreatDoor

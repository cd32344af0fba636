/- insolvencyref1.votes. -/
import Derived.Test.YtomfcmlomfcghaaGreatDoorPChkM
import Derived.Test.YtomfcmlomfcghaaGreatDoorSameI
import Derived.Test.YtomfcmlomfcghaaGreatDoorRefFix
import Derived.Test.YtomfcmlomfcghaaGreatDoorPtyC
import Derived.Test.YtomfcmlomfcghaaGreatDoorPRatC
set_option linter.unusedVariables false
set_option linter.unusedSimpArgs false
namespace Go.Proofs.YtomfcmlomfcghaaGreatDoor
open Go.RowKit

theorem Q3.set {g : Nat} {a : Bool} {b c : ByteArray} {W : World} (h : Q3 g a b c W) (a' : Bool) (b' c' : ByteArray) : Q3 g a' b' c' (((W.setCell ⟨g, 0, none⟩ (.bool a')).setCell ⟨g, 1, none⟩ (.string b')).setCell ⟨g, 2, none⟩ (.string c')) := by
  have e0 := heap_setCell_same W g 0 _ _ (.bool a') h
  have e1 := heap_setCell_same _ g 1 _ _ (.string b') e0
  exact heap_setCell_same _ g 2 _ _ (.string c') e1
def vF (set : List Int) (owner company : Int) (s : Stk) : Bool := (s.c == company) && (decide (owner < 0) || ((s.o == owner) || set.any (· == s.o)))

set_option maxHeartbeats 8000000 in
set_option maxRecDepth 100000 in
theorem rvotes_calls (Ak : Option Addr) (nk ck : Nat) (As : Option Addr) (ns cs : Nat) (At : Option Addr) (nt ct : Nat) (Al : Option Addr) (nl cl : Nat) (P : Prt) (set : List Int) (owner company : Int) (m : Nat) (w : World) (hp : PRd Ak nk As ns At nt P w) (hb : PB m P) (h64 : ns ≤ 64) (hl : nl = set.length) (rl : Rd w w.heap.size 1 Al set.length (set.flatMap intV)) (gl : nl ≤ maxLen) :
    Calls Tryz.prog 65 #[ptyVal Ak nk ck As ns cs At nt ct, .slice Al nl cl, .int .i64 owner, .int .i64 company] w fun e w' => e = .returned (ratV (vs (vF set owner company) P.stakes)) ∧ Below w.heap.size w w' := by
  obtain ⟨F, hF⟩ : ∃ F, F = vF set owner company := ⟨_, rfl⟩
  rw [← hF]
  have HFE := Lib.hid hF
  clear hF
  have HP := Lib.hid hp
  have HPB := Lib.hid hb
  have HNS := Lib.hid hp.ns
  have HLL := Lib.hid (And.intro hl (And.intro rl gl))
  clear hp hb hl rl gl
  obtain ⟨w0, hw0⟩ : ∃ W, W = ((w.alloc (.cells #[.slice Ak nk ck, .slice As ns cs, .slice At nt ct] 26)).alloc (.cells #[.bool false, .string ⟨#[]⟩, .string ⟨#[]⟩] 70)).alloc (.cells #[.bool false, .string ⟨#[]⟩, .string ⟨#[]⟩] 70) := ⟨_, rfl⟩
  obtain ⟨q, hq⟩ : ∃ q, q = w.heap.size := ⟨_, rfl⟩
  have HB0 : Hid (Below w.heap.size w w0) := by rw [hw0]; exact ((bel_alloc _ _).alloc (by simp) _).alloc (by simp <;> omega) _
  have HX0 : Hid (PBox q Ak nk ck As ns cs At nt ct w0) := by rw [hw0, hq]; exact blk_alloc (blk_alloc (blk_new _ _))
  have HG0 : Hid (w0.heap[q + 1]? = some (.cells #[.bool false, .string ⟨#[]⟩, .string ⟨#[]⟩] 70 (0, 0))) := by
    have := blk_new (w.alloc (.cells #[.slice Ak nk ck, .slice As ns cs, .slice At nt ct] 26)) (.cells #[.bool false, .string ⟨#[]⟩, .string ⟨#[]⟩] 70)
    rw [World.size_alloc, ← hq] at this
    rw [hw0]; exact blk_alloc this
  have HV0 : Hid (Q3 (q + 1 + 1) (rneg (vs F (P.stakes.take 0))) (rnum (vs F (P.stakes.take 0))) (rden (vs F (P.stakes.take 0))) w0) := by
    have := blk_new ((w.alloc (.cells #[.slice Ak nk ck, .slice As ns cs, .slice At nt ct] 26)).alloc (.cells #[.bool false, .string ⟨#[]⟩, .string ⟨#[]⟩] 70)) (.cells #[.bool false, .string ⟨#[]⟩, .string ⟨#[]⟩] 70)
    rw [World.size_alloc, World.size_alloc, ← hq] at this
    rw [hw0, show vs F (P.stakes.take 0) = 0 from rfl, rneg_zero, rnum_zero, rden_zero]
    exact this
  go_enter Tryz.func65, Tryz.ntmps65
  go_upto_region 2 with fail
  rw [← hw0, ← hq]
  have HQ := Lib.hid hq
  have hqw : w.heap.size ≤ q := by omega
  clear hw0 hq
  obtain ⟨k0, k1, k2⟩ := HX0.out.cells
  go_wp2_with fail
  clear k0 k1 k2
  go_loopw [10] (fun i wr => ∃ k : Nat, k ≤ ns ∧ i = .int .i64 (k : Int) ∧ Hid (Q3 (q + 1 + 1) (rneg (vs F (P.stakes.take k))) (rnum (vs F (P.stakes.take k))) (rden (vs F (P.stakes.take k))) wr) ∧ Hid (wr.heap[q + 1]? = some (.cells #[.bool false, .string ⟨#[]⟩, .string ⟨#[]⟩] 70 (0, 0))) ∧ Hid (PBox q Ak nk ck As ns cs At nt ct wr) ∧ Hid (Below w.heap.size w wr)) (fun i _ => ns - (intOf i).toNat)
  case atStart => exact ⟨0, Nat.zero_le _, rfl, HV0, HG0, HX0, HB0⟩
  case round =>
    clear HV0 HG0 HX0 HB0
    obtain ⟨j, hj, rfl, HVwp, HGwp, HXwp, HBwp⟩ := hrel
    rename World => wp
    obtain ⟨v, hv⟩ : ∃ v, v = vs F (P.stakes.take j) := ⟨_, rfl⟩
    rw [← hv] at HVwp
    have HVE := Lib.hid hv
    clear hv
    obtain ⟨sv, hsv⟩ : ∃ x, x = rneg v := ⟨_, rfl⟩
    obtain ⟨nv, hnv⟩ : ∃ x, x = rnum v := ⟨_, rfl⟩
    obtain ⟨dv, hdv⟩ : ∃ x, x = rden v := ⟨_, rfl⟩
    rw [← hsv, ← hnv, ← hdv] at HVwp
    have HLT := Lib.hid (And.intro hsv (And.intro hnv hdv))
    clear hsv hnv hdv
    obtain ⟨k0, k1, k2⟩ := HXwp.out.cells
    by_cases hjl : j < ns
    · obtain ⟨s, hs⟩ := getElem?_of_lt (l := P.stakes) (k := j) (by rw [← HNS.out]; exact hjl)
      have HTK := Lib.hid (vs_take (f := F) hs)
      have HBS := Lib.hid (HPB.out.s s (List.mem_of_getElem? hs))
      obtain ⟨b, off, hA, _, hc⟩ := Rd.at_ (enc := stkV) (fun _ => rfl) (HP.out.s.next HBwp.out) hs
      subst hA
      have p0 := hc 0 _ rfl
      have p1 := hc 1 _ rfl
      have p2 := hc 2 _ rfl
      have p3 := hc 3 _ rfl
      have p4 := hc 4 _ rfl
      rw [Nat.add_zero] at p0
      rw [← Nat.add_assoc] at p1 p2 p3 p4
      clear hc hs
      obtain ⟨o, c, vn, vu, vd⟩ := s
      dsimp only at p0 p1 p2 p3 p4
      rw [← HVE.out] at HTK
      obtain ⟨g, hg⟩ : ∃ g, g = wp.heap.size := ⟨_, rfl⟩
      obtain ⟨wa, hwa⟩ : ∃ W, W = wp.alloc (.cells #[.int .i64 o, .int .i64 c, .bool vn, .string vu, .string vd] 72) := ⟨_, rfl⟩
      have hsa : SBox wp.heap.size ⟨o, c, vn, vu, vd⟩ (wp.alloc (.cells #[.int .i64 o, .int .i64 c, .bool vn, .string vu, .string vd] 72)) := blk_new _ _
      have HSwa : Hid (SBox g ⟨o, c, vn, vu, vd⟩ wa) := by rw [hwa, hg]; exact hsa
      have HXwa : Hid (PBox q Ak nk ck (some ⟨b, off, none⟩) ns cs At nt ct wa) := by rw [hwa]; exact HXwp.out.next (bel_alloc _ _)
      have HGwa : Hid (wa.heap[q + 1]? = some (.cells #[.bool false, .string ⟨#[]⟩, .string ⟨#[]⟩] 70 (0, 0))) := by rw [hwa]; exact blk_alloc HGwp.out
      have HVwa : Hid (Q3 (q + 1 + 1) sv nv dv wa) := by rw [hwa]; exact blk_alloc HVwp.out
      have HBwa : Hid (Below w.heap.size w wa) := by rw [hwa]; exact HBwp.out.alloc HBwp.out.size _
      have hgq : g ≠ q + 1 + 1 := by rw [hg]; intro e; have := (Array.getElem?_eq_some_iff.1 HVwp.out).1; omega
      obtain ⟨s0, s1, s2, s3, s4⟩ := hsa.cells
      have HW := Lib.hid (And.intro hwa hg)
      clear hwa hg hsa
      by_cases hc1 : c = company
      · have hcb : (c == company) = true := beq_iff_eq.2 hc1
        have HCB := Lib.hid hcb
        clear hc1
        by_cases h0 : owner < 0
        · have d0 : decide (owner < 0) = true := decide_eq_true h0
          have HFT : Hid (F ⟨o, c, vn, vu, vd⟩ = true) := by show _ = _; rw [HFE.out]; unfold vF; dsimp only; rw [hcb, d0]; rfl
          have hszv := vs_sz (f := F) (l := P.stakes.take j) (m := m) (fun s hs => HPB.out.sz s (List.mem_of_mem_take hs))
          rw [← HVE.out] at hszv
          have hm2 := HPB.out.m2
          have hm1 := HPB.out.m1
          have hlen : (P.stakes.take j).length ≤ 64 := by rw [List.length_take, ← HNS.out]; omega
          have hmul : (m + 1) * (P.stakes.take j).length ≤ 1001 * 64 := Nat.mul_le_mul (by omega) hlen
          obtain ⟨y, hy⟩ : ∃ y, y = fixR ⟨vn, vu, vd⟩ := ⟨_, rfl⟩
          have HFX' := fun W => refFix_calls ⟨vn, vu, vd⟩ m W HBS.out.2.2 (by omega)
          have hszy := fix_sz HBS.out.2.2 hm1
          dsimp only at hszy
          rw [← hy] at HFX' hszy
          unfold FQ.val at HFX'
          dsimp only at HFX'
          have HPL' := fun W => refPlus_calls v y 64065 m W (hszv.mono (by omega)) hszy (by omega)
          have HSA : Hid (vs F (P.stakes.take (j + 1)) = v + y) := by show _ = _; rw [HTK.out, if_pos HFT.out, hy]
          obtain ⟨R, hR⟩ : ∃ R, R = v + y := ⟨_, rfl⟩
          rw [← hR] at HPL' HSA
          unfold ratV at HFX' HPL'
          rw [← HLT.out.1, ← HLT.out.2.1, ← HLT.out.2.2] at HPL'
          obtain ⟨sy, hsy⟩ : ∃ x, x = rneg y := ⟨_, rfl⟩
          obtain ⟨ny, hny⟩ : ∃ x, x = rnum y := ⟨_, rfl⟩
          obtain ⟨dy, hdy⟩ : ∃ x, x = rden y := ⟨_, rfl⟩
          rw [← hsy, ← hny, ← hdy] at HFX' HPL'
          have HFX := Lib.hid HFX'
          have HPL := Lib.hid HPL'
          clear hszv hm1 hm2 hlen hmul HFX' HPL' hszy hy hR hsy hny hdy
          go_wp2_with fail
          rw [← HW.out.1, ← HW.out.2]
          clear HW p0 p1 p2 p3 p4 s0 s1 s2 s3 s4 k0 k1 k2 HXwp HGwp HVwp HBwp
          obtain ⟨W1, hW1⟩ : ∃ W, W = wa.drew := ⟨_, rfl⟩
          have hS : (SBox g ⟨o, c, vn, vu, vd⟩) W1 := by rw [hW1]; exact HSwa.out
          have HX1 : Hid (PBox q Ak nk ck (some ⟨b, off, none⟩) ns cs At nt ct W1) := by rw [hW1]; exact HXwa.out
          have HG1 : Hid (W1.heap[q + 1]? = some (.cells #[.bool false, .string ⟨#[]⟩, .string ⟨#[]⟩] 70 (0, 0))) := by rw [hW1]; exact HGwa.out
          have HV1 : Hid (Q3 (q + 1 + 1) sv nv dv W1) := by rw [hW1]; exact HVwa.out
          have HB1 : Hid (Below w.heap.size w W1) := by rw [hW1]; exact HBwa.out.drew
          refine wp_region_held_drew (S := (SBox g ⟨o, c, vn, vu, vd⟩)) (by kernel_rfl) (by rw [← hW1]; exact hS) ?_
          rw [← hW1]
          intro _
          clear hW1 HSwa HXwa HGwa HVwa HBwa
          refine wpAnyH_take (i := 1) rfl (by kernel_rfl) (by kernel_rfl) (by kernel_rfl) (fun _ _ _ h => h) (Or.inl ⟨by kernel_rfl, (by intro w' _; go_simp; with_reducible rfl)⟩) hS ?_
          go_simp
          refine wpAnyH_take (i := 2) (v := .agg #[.bool vn, .string vu, .string vd]) rfl (by kernel_rfl) (by kernel_rfl) (by kernel_rfl) (fun _ _ _ h => h) (Or.inl ⟨by kernel_rfl, (by intro w' hw'; obtain ⟨s0, s1, s2, s3, s4⟩ := hw'.cells; go_simp)⟩) hS ?_
          go_simp
          refine wpAnyH_ready (rs := [0, 3]) (by kernel_rfl) (by simp) ?_
          refine AllReadyH.cons rfl (fun K hK => ?_) (AllReadyH.cons rfl (fun K hK => ?_) AllReadyH.nil)
          · obtain ⟨q0, q1, q2⟩ := HV1.out.cells
            go_simp
            clear q0 q1 q2
            refine hK.out _ _ hS (fun _ => ?_)
            clear hK K
            refine wpAnyH_ready (rs := [3]) (by kernel_rfl) (by simp) ?_
            refine AllReadyH.cons rfl (fun K hK => ?_) AllReadyH.nil
            go_simp
            refine (HFX.out _).mono ?_
            rintro e W2 ⟨rfl, hb⟩
            have hS2 := hS.next hb
            have HX2 := Lib.hid (HX1.out.next hb)
            have HG2 := Lib.hid (blk_next HG1.out hb)
            have HV2 := Lib.hid (HV1.out.next hb)
            have HB2 : Hid (Below w.heap.size w W2) := HB1.out.trans (hb.mono HB1.out.size)
            clear hb hS HX1 HG1 HV1 HB1
            refine hK.out _ _ hS2 (fun _ => ?_)
            clear hK K
            refine wpAnyH_ready (rs := [4]) (by kernel_rfl) (by simp) ?_
            refine AllReadyH.cons rfl (fun K hK => ?_) AllReadyH.nil
            go_simp
            refine (HPL.out _).mono ?_
            rintro e W3 ⟨rfl, hb⟩
            have hS3 := hS2.next hb
            have HX3 := Lib.hid (HX2.out.next hb)
            have HG3 := Lib.hid (blk_next HG2.out hb)
            have HV3 := Lib.hid (HV2.out.next hb)
            have HB3 : Hid (Below w.heap.size w W3) := HB2.out.trans (hb.mono HB2.out.size)
            clear hb hS2 HX2 HG2 HV2 HB2
            refine hK.out _ _ hS3 (fun _ => ?_)
            clear hK K
            refine wpAnyH_ready (rs := [5]) (by kernel_rfl) (by simp) ?_
            refine AllReadyH.cons rfl (fun K hK => ?_) AllReadyH.nil
            obtain ⟨sR, hsR⟩ : ∃ x, x = rneg R := ⟨_, rfl⟩
            obtain ⟨nR, hnR⟩ : ∃ x, x = rnum R := ⟨_, rfl⟩
            obtain ⟨dR, hdR⟩ : ∃ x, x = rden R := ⟨_, rfl⟩
            rw [← hsR, ← hnR, ← hdR]
            have HRR := Lib.hid (And.intro hsR (And.intro hnR hdR))
            clear hsR hnR hdR
            obtain ⟨c0, c1, c2, f0, f1, f2, hz⟩ := three_of HV3.out
            go_simp
            clear c0 c1 c2 f0 f1 f2 hz
            have hS4 : (SBox g ⟨o, c, vn, vu, vd⟩) (((W3.setCell ⟨q + 1 + 1, 0, none⟩ (.bool sR)).setCell ⟨q + 1 + 1, 1, none⟩ (.string nR)).setCell ⟨q + 1 + 1, 2, none⟩ (.string dR)) := (heap_setCell_other _ ⟨q + 1 + 1, 2, none⟩ g _ hgq).trans ((heap_setCell_other _ ⟨q + 1 + 1, 1, none⟩ g _ hgq).trans ((heap_setCell_other _ ⟨q + 1 + 1, 0, none⟩ g _ hgq).trans hS3))
            have HX4 : Hid (PBox q Ak nk ck (some ⟨b, off, none⟩) ns cs At nt ct (((W3.setCell ⟨q + 1 + 1, 0, none⟩ (.bool sR)).setCell ⟨q + 1 + 1, 1, none⟩ (.string nR)).setCell ⟨q + 1 + 1, 2, none⟩ (.string dR))) := (heap_setCell_other _ ⟨q + 1 + 1, 2, none⟩ q _ (by show q ≠ q + 1 + 1; omega)).trans ((heap_setCell_other _ ⟨q + 1 + 1, 1, none⟩ q _ (by show q ≠ q + 1 + 1; omega)).trans ((heap_setCell_other _ ⟨q + 1 + 1, 0, none⟩ q _ (by show q ≠ q + 1 + 1; omega)).trans HX3.out))
            have HG4 : Hid ((((W3.setCell ⟨q + 1 + 1, 0, none⟩ (.bool sR)).setCell ⟨q + 1 + 1, 1, none⟩ (.string nR)).setCell ⟨q + 1 + 1, 2, none⟩ (.string dR)).heap[q + 1]? = some (.cells #[.bool false, .string ⟨#[]⟩, .string ⟨#[]⟩] 70 (0, 0))) := (heap_setCell_other _ ⟨q + 1 + 1, 2, none⟩ (q + 1) _ (by show q + 1 ≠ q + 1 + 1; omega)).trans ((heap_setCell_other _ ⟨q + 1 + 1, 1, none⟩ (q + 1) _ (by show q + 1 ≠ q + 1 + 1; omega)).trans ((heap_setCell_other _ ⟨q + 1 + 1, 0, none⟩ (q + 1) _ (by show q + 1 ≠ q + 1 + 1; omega)).trans HG3.out))
            have HV4 := Lib.hid (HV3.out.set sR nR dR)
            have HB4 : Hid (Below w.heap.size w (((W3.setCell ⟨q + 1 + 1, 0, none⟩ (.bool sR)).setCell ⟨q + 1 + 1, 1, none⟩ (.string nR)).setCell ⟨q + 1 + 1, 2, none⟩ (.string dR))) := ((HB3.out.setCell (by show w.heap.size ≤ q + 1 + 1; omega) _).setCell (by show w.heap.size ≤ q + 1 + 1; omega) _).setCell (by show w.heap.size ≤ q + 1 + 1; omega) _
            refine hK.out _ _ hS4 (fun _ => ?_)
            clear hK K
            refine wpAnyH_done (by kernel_rfl) ?_ _
            clear hS4
            go_wp2_with fail
            go_roundw
            case measure => simp [intOf] <;> omega
            case rel => exact ⟨j + 1, by omega, by go_num, by rw [HSA.out, ← HRR.out.1, ← HRR.out.2.1, ← HRR.out.2.2]; exact HV4, HG4, HX4, HB4⟩
          · go_simp
            refine (HFX.out _).mono ?_
            rintro e W2 ⟨rfl, hb⟩
            have hS2 := hS.next hb
            have HX2 := Lib.hid (HX1.out.next hb)
            have HG2 := Lib.hid (blk_next HG1.out hb)
            have HV2 := Lib.hid (HV1.out.next hb)
            have HB2 : Hid (Below w.heap.size w W2) := HB1.out.trans (hb.mono HB1.out.size)
            clear hb hS HX1 HG1 HV1 HB1
            refine hK.out _ _ hS2 (fun _ => ?_)
            clear hK K
            refine wpAnyH_ready (rs := [0]) (by kernel_rfl) (by simp) ?_
            refine AllReadyH.cons rfl (fun K hK => ?_) AllReadyH.nil
            obtain ⟨q0, q1, q2⟩ := HV2.out.cells
            go_simp
            clear q0 q1 q2
            refine hK.out _ _ hS2 (fun _ => ?_)
            clear hK K
            refine wpAnyH_ready (rs := [4]) (by kernel_rfl) (by simp) ?_
            refine AllReadyH.cons rfl (fun K hK => ?_) AllReadyH.nil
            go_simp
            refine (HPL.out _).mono ?_
            rintro e W3 ⟨rfl, hb⟩
            have hS3 := hS2.next hb
            have HX3 := Lib.hid (HX2.out.next hb)
            have HG3 := Lib.hid (blk_next HG2.out hb)
            have HV3 := Lib.hid (HV2.out.next hb)
            have HB3 : Hid (Below w.heap.size w W3) := HB2.out.trans (hb.mono HB2.out.size)
            clear hb hS2 HX2 HG2 HV2 HB2
            refine hK.out _ _ hS3 (fun _ => ?_)
            clear hK K
            refine wpAnyH_ready (rs := [5]) (by kernel_rfl) (by simp) ?_
            refine AllReadyH.cons rfl (fun K hK => ?_) AllReadyH.nil
            obtain ⟨sR, hsR⟩ : ∃ x, x = rneg R := ⟨_, rfl⟩
            obtain ⟨nR, hnR⟩ : ∃ x, x = rnum R := ⟨_, rfl⟩
            obtain ⟨dR, hdR⟩ : ∃ x, x = rden R := ⟨_, rfl⟩
            rw [← hsR, ← hnR, ← hdR]
            have HRR := Lib.hid (And.intro hsR (And.intro hnR hdR))
            clear hsR hnR hdR
            obtain ⟨c0, c1, c2, f0, f1, f2, hz⟩ := three_of HV3.out
            go_simp
            clear c0 c1 c2 f0 f1 f2 hz
            have hS4 : (SBox g ⟨o, c, vn, vu, vd⟩) (((W3.setCell ⟨q + 1 + 1, 0, none⟩ (.bool sR)).setCell ⟨q + 1 + 1, 1, none⟩ (.string nR)).setCell ⟨q + 1 + 1, 2, none⟩ (.string dR)) := (heap_setCell_other _ ⟨q + 1 + 1, 2, none⟩ g _ hgq).trans ((heap_setCell_other _ ⟨q + 1 + 1, 1, none⟩ g _ hgq).trans ((heap_setCell_other _ ⟨q + 1 + 1, 0, none⟩ g _ hgq).trans hS3))
            have HX4 : Hid (PBox q Ak nk ck (some ⟨b, off, none⟩) ns cs At nt ct (((W3.setCell ⟨q + 1 + 1, 0, none⟩ (.bool sR)).setCell ⟨q + 1 + 1, 1, none⟩ (.string nR)).setCell ⟨q + 1 + 1, 2, none⟩ (.string dR))) := (heap_setCell_other _ ⟨q + 1 + 1, 2, none⟩ q _ (by show q ≠ q + 1 + 1; omega)).trans ((heap_setCell_other _ ⟨q + 1 + 1, 1, none⟩ q _ (by show q ≠ q + 1 + 1; omega)).trans ((heap_setCell_other _ ⟨q + 1 + 1, 0, none⟩ q _ (by show q ≠ q + 1 + 1; omega)).trans HX3.out))
            have HG4 : Hid ((((W3.setCell ⟨q + 1 + 1, 0, none⟩ (.bool sR)).setCell ⟨q + 1 + 1, 1, none⟩ (.string nR)).setCell ⟨q + 1 + 1, 2, none⟩ (.string dR)).heap[q + 1]? = some (.cells #[.bool false, .string ⟨#[]⟩, .string ⟨#[]⟩] 70 (0, 0))) := (heap_setCell_other _ ⟨q + 1 + 1, 2, none⟩ (q + 1) _ (by show q + 1 ≠ q + 1 + 1; omega)).trans ((heap_setCell_other _ ⟨q + 1 + 1, 1, none⟩ (q + 1) _ (by show q + 1 ≠ q + 1 + 1; omega)).trans ((heap_setCell_other _ ⟨q + 1 + 1, 0, none⟩ (q + 1) _ (by show q + 1 ≠ q + 1 + 1; omega)).trans HG3.out))
            have HV4 := Lib.hid (HV3.out.set sR nR dR)
            have HB4 : Hid (Below w.heap.size w (((W3.setCell ⟨q + 1 + 1, 0, none⟩ (.bool sR)).setCell ⟨q + 1 + 1, 1, none⟩ (.string nR)).setCell ⟨q + 1 + 1, 2, none⟩ (.string dR))) := ((HB3.out.setCell (by show w.heap.size ≤ q + 1 + 1; omega) _).setCell (by show w.heap.size ≤ q + 1 + 1; omega) _).setCell (by show w.heap.size ≤ q + 1 + 1; omega) _
            refine hK.out _ _ hS4 (fun _ => ?_)
            clear hK K
            refine wpAnyH_done (by kernel_rfl) ?_ _
            clear hS4
            go_wp2_with fail
            go_roundw
            case measure => simp [intOf] <;> omega
            case rel => exact ⟨j + 1, by omega, by go_num, by rw [HSA.out, ← HRR.out.1, ← HRR.out.2.1, ← HRR.out.2.2]; exact HV4, HG4, HX4, HB4⟩
        · have d0 : decide (owner < 0) = false := decide_eq_false h0
          by_cases h1 : o = owner
          · have hoe : (o == owner) = true := beq_iff_eq.2 h1
            clear h1
            have HFT : Hid (F ⟨o, c, vn, vu, vd⟩ = true) := by show _ = _; rw [HFE.out]; unfold vF; dsimp only; rw [hcb, d0, hoe]; rfl
            have hszv := vs_sz (f := F) (l := P.stakes.take j) (m := m) (fun s hs => HPB.out.sz s (List.mem_of_mem_take hs))
            rw [← HVE.out] at hszv
            have hm2 := HPB.out.m2
            have hm1 := HPB.out.m1
            have hlen : (P.stakes.take j).length ≤ 64 := by rw [List.length_take, ← HNS.out]; omega
            have hmul : (m + 1) * (P.stakes.take j).length ≤ 1001 * 64 := Nat.mul_le_mul (by omega) hlen
            obtain ⟨y, hy⟩ : ∃ y, y = fixR ⟨vn, vu, vd⟩ := ⟨_, rfl⟩
            have HFX' := fun W => refFix_calls ⟨vn, vu, vd⟩ m W HBS.out.2.2 (by omega)
            have hszy := fix_sz HBS.out.2.2 hm1
            dsimp only at hszy
            rw [← hy] at HFX' hszy
            unfold FQ.val at HFX'
            dsimp only at HFX'
            have HPL' := fun W => refPlus_calls v y 64065 m W (hszv.mono (by omega)) hszy (by omega)
            have HSA : Hid (vs F (P.stakes.take (j + 1)) = v + y) := by show _ = _; rw [HTK.out, if_pos HFT.out, hy]
            obtain ⟨R, hR⟩ : ∃ R, R = v + y := ⟨_, rfl⟩
            rw [← hR] at HPL' HSA
            unfold ratV at HFX' HPL'
            rw [← HLT.out.1, ← HLT.out.2.1, ← HLT.out.2.2] at HPL'
            obtain ⟨sy, hsy⟩ : ∃ x, x = rneg y := ⟨_, rfl⟩
            obtain ⟨ny, hny⟩ : ∃ x, x = rnum y := ⟨_, rfl⟩
            obtain ⟨dy, hdy⟩ : ∃ x, x = rden y := ⟨_, rfl⟩
            rw [← hsy, ← hny, ← hdy] at HFX' HPL'
            have HFX := Lib.hid HFX'
            have HPL := Lib.hid HPL'
            clear hszv hm1 hm2 hlen hmul HFX' HPL' hszy hy hR hsy hny hdy
            go_wp2_with fail
            rw [← HW.out.1, ← HW.out.2]
            clear HW p0 p1 p2 p3 p4 s0 s1 s2 s3 s4 k0 k1 k2 HXwp HGwp HVwp HBwp
            obtain ⟨W1, hW1⟩ : ∃ W, W = wa.drew := ⟨_, rfl⟩
            have hS : (SBox g ⟨o, c, vn, vu, vd⟩) W1 := by rw [hW1]; exact HSwa.out
            have HX1 : Hid (PBox q Ak nk ck (some ⟨b, off, none⟩) ns cs At nt ct W1) := by rw [hW1]; exact HXwa.out
            have HG1 : Hid (W1.heap[q + 1]? = some (.cells #[.bool false, .string ⟨#[]⟩, .string ⟨#[]⟩] 70 (0, 0))) := by rw [hW1]; exact HGwa.out
            have HV1 : Hid (Q3 (q + 1 + 1) sv nv dv W1) := by rw [hW1]; exact HVwa.out
            have HB1 : Hid (Below w.heap.size w W1) := by rw [hW1]; exact HBwa.out.drew
            refine wp_region_held_drew (S := (SBox g ⟨o, c, vn, vu, vd⟩)) (by kernel_rfl) (by rw [← hW1]; exact hS) ?_
            rw [← hW1]
            intro _
            clear hW1 HSwa HXwa HGwa HVwa HBwa
            refine wpAnyH_take (i := 1) rfl (by kernel_rfl) (by kernel_rfl) (by kernel_rfl) (fun _ _ _ h => h) (Or.inl ⟨by kernel_rfl, (by intro w' _; go_simp; with_reducible rfl)⟩) hS ?_
            go_simp
            refine wpAnyH_take (i := 2) (v := .agg #[.bool vn, .string vu, .string vd]) rfl (by kernel_rfl) (by kernel_rfl) (by kernel_rfl) (fun _ _ _ h => h) (Or.inl ⟨by kernel_rfl, (by intro w' hw'; obtain ⟨s0, s1, s2, s3, s4⟩ := hw'.cells; go_simp)⟩) hS ?_
            go_simp
            refine wpAnyH_ready (rs := [0, 3]) (by kernel_rfl) (by simp) ?_
            refine AllReadyH.cons rfl (fun K hK => ?_) (AllReadyH.cons rfl (fun K hK => ?_) AllReadyH.nil)
            · obtain ⟨q0, q1, q2⟩ := HV1.out.cells
              go_simp
              clear q0 q1 q2
              refine hK.out _ _ hS (fun _ => ?_)
              clear hK K
              refine wpAnyH_ready (rs := [3]) (by kernel_rfl) (by simp) ?_
              refine AllReadyH.cons rfl (fun K hK => ?_) AllReadyH.nil
              go_simp
              refine (HFX.out _).mono ?_
              rintro e W2 ⟨rfl, hb⟩
              have hS2 := hS.next hb
              have HX2 := Lib.hid (HX1.out.next hb)
              have HG2 := Lib.hid (blk_next HG1.out hb)
              have HV2 := Lib.hid (HV1.out.next hb)
              have HB2 : Hid (Below w.heap.size w W2) := HB1.out.trans (hb.mono HB1.out.size)
              clear hb hS HX1 HG1 HV1 HB1
              refine hK.out _ _ hS2 (fun _ => ?_)
              clear hK K
              refine wpAnyH_ready (rs := [4]) (by kernel_rfl) (by simp) ?_
              refine AllReadyH.cons rfl (fun K hK => ?_) AllReadyH.nil
              go_simp
              refine (HPL.out _).mono ?_
              rintro e W3 ⟨rfl, hb⟩
              have hS3 := hS2.next hb
              have HX3 := Lib.hid (HX2.out.next hb)
              have HG3 := Lib.hid (blk_next HG2.out hb)
              have HV3 := Lib.hid (HV2.out.next hb)
              have HB3 : Hid (Below w.heap.size w W3) := HB2.out.trans (hb.mono HB2.out.size)
              clear hb hS2 HX2 HG2 HV2 HB2
              refine hK.out _ _ hS3 (fun _ => ?_)
              clear hK K
              refine wpAnyH_ready (rs := [5]) (by kernel_rfl) (by simp) ?_
              refine AllReadyH.cons rfl (fun K hK => ?_) AllReadyH.nil
              obtain ⟨sR, hsR⟩ : ∃ x, x = rneg R := ⟨_, rfl⟩
              obtain ⟨nR, hnR⟩ : ∃ x, x = rnum R := ⟨_, rfl⟩
              obtain ⟨dR, hdR⟩ : ∃ x, x = rden R := ⟨_, rfl⟩
              rw [← hsR, ← hnR, ← hdR]
              have HRR := Lib.hid (And.intro hsR (And.intro hnR hdR))
              clear hsR hnR hdR
              obtain ⟨c0, c1, c2, f0, f1, f2, hz⟩ := three_of HV3.out
              go_simp
              clear c0 c1 c2 f0 f1 f2 hz
              have hS4 : (SBox g ⟨o, c, vn, vu, vd⟩) (((W3.setCell ⟨q + 1 + 1, 0, none⟩ (.bool sR)).setCell ⟨q + 1 + 1, 1, none⟩ (.string nR)).setCell ⟨q + 1 + 1, 2, none⟩ (.string dR)) := (heap_setCell_other _ ⟨q + 1 + 1, 2, none⟩ g _ hgq).trans ((heap_setCell_other _ ⟨q + 1 + 1, 1, none⟩ g _ hgq).trans ((heap_setCell_other _ ⟨q + 1 + 1, 0, none⟩ g _ hgq).trans hS3))
              have HX4 : Hid (PBox q Ak nk ck (some ⟨b, off, none⟩) ns cs At nt ct (((W3.setCell ⟨q + 1 + 1, 0, none⟩ (.bool sR)).setCell ⟨q + 1 + 1, 1, none⟩ (.string nR)).setCell ⟨q + 1 + 1, 2, none⟩ (.string dR))) := (heap_setCell_other _ ⟨q + 1 + 1, 2, none⟩ q _ (by show q ≠ q + 1 + 1; omega)).trans ((heap_setCell_other _ ⟨q + 1 + 1, 1, none⟩ q _ (by show q ≠ q + 1 + 1; omega)).trans ((heap_setCell_other _ ⟨q + 1 + 1, 0, none⟩ q _ (by show q ≠ q + 1 + 1; omega)).trans HX3.out))
              have HG4 : Hid ((((W3.setCell ⟨q + 1 + 1, 0, none⟩ (.bool sR)).setCell ⟨q + 1 + 1, 1, none⟩ (.string nR)).setCell ⟨q + 1 + 1, 2, none⟩ (.string dR)).heap[q + 1]? = some (.cells #[.bool false, .string ⟨#[]⟩, .string ⟨#[]⟩] 70 (0, 0))) := (heap_setCell_other _ ⟨q + 1 + 1, 2, none⟩ (q + 1) _ (by show q + 1 ≠ q + 1 + 1; omega)).trans ((heap_setCell_other _ ⟨q + 1 + 1, 1, none⟩ (q + 1) _ (by show q + 1 ≠ q + 1 + 1; omega)).trans ((heap_setCell_other _ ⟨q + 1 + 1, 0, none⟩ (q + 1) _ (by show q + 1 ≠ q + 1 + 1; omega)).trans HG3.out))
              have HV4 := Lib.hid (HV3.out.set sR nR dR)
              have HB4 : Hid (Below w.heap.size w (((W3.setCell ⟨q + 1 + 1, 0, none⟩ (.bool sR)).setCell ⟨q + 1 + 1, 1, none⟩ (.string nR)).setCell ⟨q + 1 + 1, 2, none⟩ (.string dR))) := ((HB3.out.setCell (by show w.heap.size ≤ q + 1 + 1; omega) _).setCell (by show w.heap.size ≤ q + 1 + 1; omega) _).setCell (by show w.heap.size ≤ q + 1 + 1; omega) _
              refine hK.out _ _ hS4 (fun _ => ?_)
              clear hK K
              refine wpAnyH_done (by kernel_rfl) ?_ _
              clear hS4
              go_wp2_with fail
              go_roundw
              case measure => simp [intOf] <;> omega
              case rel => exact ⟨j + 1, by omega, by go_num, by rw [HSA.out, ← HRR.out.1, ← HRR.out.2.1, ← HRR.out.2.2]; exact HV4, HG4, HX4, HB4⟩
            · go_simp
              refine (HFX.out _).mono ?_
              rintro e W2 ⟨rfl, hb⟩
              have hS2 := hS.next hb
              have HX2 := Lib.hid (HX1.out.next hb)
              have HG2 := Lib.hid (blk_next HG1.out hb)
              have HV2 := Lib.hid (HV1.out.next hb)
              have HB2 : Hid (Below w.heap.size w W2) := HB1.out.trans (hb.mono HB1.out.size)
              clear hb hS HX1 HG1 HV1 HB1
              refine hK.out _ _ hS2 (fun _ => ?_)
              clear hK K
              refine wpAnyH_ready (rs := [0]) (by kernel_rfl) (by simp) ?_
              refine AllReadyH.cons rfl (fun K hK => ?_) AllReadyH.nil
              obtain ⟨q0, q1, q2⟩ := HV2.out.cells
              go_simp
              clear q0 q1 q2
              refine hK.out _ _ hS2 (fun _ => ?_)
              clear hK K
              refine wpAnyH_ready (rs := [4]) (by kernel_rfl) (by simp) ?_
              refine AllReadyH.cons rfl (fun K hK => ?_) AllReadyH.nil
              go_simp
              refine (HPL.out _).mono ?_
              rintro e W3 ⟨rfl, hb⟩
              have hS3 := hS2.next hb
              have HX3 := Lib.hid (HX2.out.next hb)
              have HG3 := Lib.hid (blk_next HG2.out hb)
              have HV3 := Lib.hid (HV2.out.next hb)
              have HB3 : Hid (Below w.heap.size w W3) := HB2.out.trans (hb.mono HB2.out.size)
              clear hb hS2 HX2 HG2 HV2 HB2
              refine hK.out _ _ hS3 (fun _ => ?_)
              clear hK K
              refine wpAnyH_ready (rs := [5]) (by kernel_rfl) (by simp) ?_
              refine AllReadyH.cons rfl (fun K hK => ?_) AllReadyH.nil
              obtain ⟨sR, hsR⟩ : ∃ x, x = rneg R := ⟨_, rfl⟩
              obtain ⟨nR, hnR⟩ : ∃ x, x = rnum R := ⟨_, rfl⟩
              obtain ⟨dR, hdR⟩ : ∃ x, x = rden R := ⟨_, rfl⟩
              rw [← hsR, ← hnR, ← hdR]
              have HRR := Lib.hid (And.intro hsR (And.intro hnR hdR))
              clear hsR hnR hdR
              obtain ⟨c0, c1, c2, f0, f1, f2, hz⟩ := three_of HV3.out
              go_simp
              clear c0 c1 c2 f0 f1 f2 hz
              have hS4 : (SBox g ⟨o, c, vn, vu, vd⟩) (((W3.setCell ⟨q + 1 + 1, 0, none⟩ (.bool sR)).setCell ⟨q + 1 + 1, 1, none⟩ (.string nR)).setCell ⟨q + 1 + 1, 2, none⟩ (.string dR)) := (heap_setCell_other _ ⟨q + 1 + 1, 2, none⟩ g _ hgq).trans ((heap_setCell_other _ ⟨q + 1 + 1, 1, none⟩ g _ hgq).trans ((heap_setCell_other _ ⟨q + 1 + 1, 0, none⟩ g _ hgq).trans hS3))
              have HX4 : Hid (PBox q Ak nk ck (some ⟨b, off, none⟩) ns cs At nt ct (((W3.setCell ⟨q + 1 + 1, 0, none⟩ (.bool sR)).setCell ⟨q + 1 + 1, 1, none⟩ (.string nR)).setCell ⟨q + 1 + 1, 2, none⟩ (.string dR))) := (heap_setCell_other _ ⟨q + 1 + 1, 2, none⟩ q _ (by show q ≠ q + 1 + 1; omega)).trans ((heap_setCell_other _ ⟨q + 1 + 1, 1, none⟩ q _ (by show q ≠ q + 1 + 1; omega)).trans ((heap_setCell_other _ ⟨q + 1 + 1, 0, none⟩ q _ (by show q ≠ q + 1 + 1; omega)).trans HX3.out))
              have HG4 : Hid ((((W3.setCell ⟨q + 1 + 1, 0, none⟩ (.bool sR)).setCell ⟨q + 1 + 1, 1, none⟩ (.string nR)).setCell ⟨q + 1 + 1, 2, none⟩ (.string dR)).heap[q + 1]? = some (.cells #[.bool false, .string ⟨#[]⟩, .string ⟨#[]⟩] 70 (0, 0))) := (heap_setCell_other _ ⟨q + 1 + 1, 2, none⟩ (q + 1) _ (by show q + 1 ≠ q + 1 + 1; omega)).trans ((heap_setCell_other _ ⟨q + 1 + 1, 1, none⟩ (q + 1) _ (by show q + 1 ≠ q + 1 + 1; omega)).trans ((heap_setCell_other _ ⟨q + 1 + 1, 0, none⟩ (q + 1) _ (by show q + 1 ≠ q + 1 + 1; omega)).trans HG3.out))
              have HV4 := Lib.hid (HV3.out.set sR nR dR)
              have HB4 : Hid (Below w.heap.size w (((W3.setCell ⟨q + 1 + 1, 0, none⟩ (.bool sR)).setCell ⟨q + 1 + 1, 1, none⟩ (.string nR)).setCell ⟨q + 1 + 1, 2, none⟩ (.string dR))) := ((HB3.out.setCell (by show w.heap.size ≤ q + 1 + 1; omega) _).setCell (by show w.heap.size ≤ q + 1 + 1; omega) _).setCell (by show w.heap.size ≤ q + 1 + 1; omega) _
              refine hK.out _ _ hS4 (fun _ => ?_)
              clear hK K
              refine wpAnyH_done (by kernel_rfl) ?_ _
              clear hS4
              go_wp2_with fail
              go_roundw
              case measure => simp [intOf] <;> omega
              case rel => exact ⟨j + 1, by omega, by go_num, by rw [HSA.out, ← HRR.out.1, ← HRR.out.2.1, ← HRR.out.2.2]; exact HV4, HG4, HX4, HB4⟩
          · have hob : (o == owner) = false := beq_eq_false_iff_ne.2 h1
            clear h1
            obtain ⟨h, hh⟩ : ∃ h, h = set.any (· == o) := ⟨_, rfl⟩
            have HHC := Lib.hid (has_calls Al nl cl set o wa HLL.out.1 (HLL.out.2.1.next HBwa.out) HLL.out.2.2 h hh)
            have HHE := Lib.hid hh
            clear hh
            cases h
            · have HSK : Hid (vs F (P.stakes.take (j + 1)) = v) := by show _ = _; rw [HTK.out, if_neg (by rw [HFE.out]; unfold vF; dsimp only; rw [hcb, d0, hob, ← HHE.out]; simp)]
              go_wp2_with fail
              rw [← HW.out.1, ← HW.out.2]
              clear HW p0 p1 p2 p3 p4 s0 s1 s2 s3 s4 k0 k1 k2 HXwp HGwp HVwp HBwp
              refine HHC.out.mono ?_
              rintro e wb ⟨rfl, hbw⟩
              rw [hbw]
              clear hbw HHC
              go_wp2_with fail
              go_roundw
              case measure => simp [intOf] <;> omega
              case rel => exact ⟨j + 1, by omega, by go_num, by rw [HSK.out, ← HLT.out.1, ← HLT.out.2.1, ← HLT.out.2.2]; exact HVwa, HGwa, HXwa, HBwa⟩
            · have HFT : Hid (F ⟨o, c, vn, vu, vd⟩ = true) := by show _ = _; rw [HFE.out]; unfold vF; dsimp only; rw [hcb, d0, hob, ← HHE.out]; rfl
              have hszv := vs_sz (f := F) (l := P.stakes.take j) (m := m) (fun s hs => HPB.out.sz s (List.mem_of_mem_take hs))
              rw [← HVE.out] at hszv
              have hm2 := HPB.out.m2
              have hm1 := HPB.out.m1
              have hlen : (P.stakes.take j).length ≤ 64 := by rw [List.length_take, ← HNS.out]; omega
              have hmul : (m + 1) * (P.stakes.take j).length ≤ 1001 * 64 := Nat.mul_le_mul (by omega) hlen
              obtain ⟨y, hy⟩ : ∃ y, y = fixR ⟨vn, vu, vd⟩ := ⟨_, rfl⟩
              have HFX' := fun W => refFix_calls ⟨vn, vu, vd⟩ m W HBS.out.2.2 (by omega)
              have hszy := fix_sz HBS.out.2.2 hm1
              dsimp only at hszy
              rw [← hy] at HFX' hszy
              unfold FQ.val at HFX'
              dsimp only at HFX'
              have HPL' := fun W => refPlus_calls v y 64065 m W (hszv.mono (by omega)) hszy (by omega)
              have HSA : Hid (vs F (P.stakes.take (j + 1)) = v + y) := by show _ = _; rw [HTK.out, if_pos HFT.out, hy]
              obtain ⟨R, hR⟩ : ∃ R, R = v + y := ⟨_, rfl⟩
              rw [← hR] at HPL' HSA
              unfold ratV at HFX' HPL'
              rw [← HLT.out.1, ← HLT.out.2.1, ← HLT.out.2.2] at HPL'
              obtain ⟨sy, hsy⟩ : ∃ x, x = rneg y := ⟨_, rfl⟩
              obtain ⟨ny, hny⟩ : ∃ x, x = rnum y := ⟨_, rfl⟩
              obtain ⟨dy, hdy⟩ : ∃ x, x = rden y := ⟨_, rfl⟩
              rw [← hsy, ← hny, ← hdy] at HFX' HPL'
              have HFX := Lib.hid HFX'
              have HPL := Lib.hid HPL'
              clear hszv hm1 hm2 hlen hmul HFX' HPL' hszy hy hR hsy hny hdy
              go_wp2_with fail
              rw [← HW.out.1, ← HW.out.2]
              clear HW p0 p1 p2 p3 p4 s0 s1 s2 s3 s4 k0 k1 k2 HXwp HGwp HVwp HBwp
              refine HHC.out.mono ?_
              rintro e wb ⟨rfl, hbw⟩
              rw [hbw]
              clear hbw HHC
              obtain ⟨s0, s1, s2, s3, s4⟩ := HSwa.out.cells
              go_wp2_with fail
              clear s0 s1 s2 s3 s4
              obtain ⟨W1, hW1⟩ : ∃ W, W = wa.drew := ⟨_, rfl⟩
              have hS : (SBox g ⟨o, c, vn, vu, vd⟩) W1 := by rw [hW1]; exact HSwa.out
              have HX1 : Hid (PBox q Ak nk ck (some ⟨b, off, none⟩) ns cs At nt ct W1) := by rw [hW1]; exact HXwa.out
              have HG1 : Hid (W1.heap[q + 1]? = some (.cells #[.bool false, .string ⟨#[]⟩, .string ⟨#[]⟩] 70 (0, 0))) := by rw [hW1]; exact HGwa.out
              have HV1 : Hid (Q3 (q + 1 + 1) sv nv dv W1) := by rw [hW1]; exact HVwa.out
              have HB1 : Hid (Below w.heap.size w W1) := by rw [hW1]; exact HBwa.out.drew
              refine wp_region_held_drew (S := (SBox g ⟨o, c, vn, vu, vd⟩)) (by kernel_rfl) (by rw [← hW1]; exact hS) ?_
              rw [← hW1]
              intro _
              clear hW1 HSwa HXwa HGwa HVwa HBwa
              refine wpAnyH_take (i := 1) rfl (by kernel_rfl) (by kernel_rfl) (by kernel_rfl) (fun _ _ _ h => h) (Or.inl ⟨by kernel_rfl, (by intro w' _; go_simp; with_reducible rfl)⟩) hS ?_
              go_simp
              refine wpAnyH_take (i := 2) (v := .agg #[.bool vn, .string vu, .string vd]) rfl (by kernel_rfl) (by kernel_rfl) (by kernel_rfl) (fun _ _ _ h => h) (Or.inl ⟨by kernel_rfl, (by intro w' hw'; obtain ⟨s0, s1, s2, s3, s4⟩ := hw'.cells; go_simp)⟩) hS ?_
              go_simp
              refine wpAnyH_ready (rs := [0, 3]) (by kernel_rfl) (by simp) ?_
              refine AllReadyH.cons rfl (fun K hK => ?_) (AllReadyH.cons rfl (fun K hK => ?_) AllReadyH.nil)
              · obtain ⟨q0, q1, q2⟩ := HV1.out.cells
                go_simp
                clear q0 q1 q2
                refine hK.out _ _ hS (fun _ => ?_)
                clear hK K
                refine wpAnyH_ready (rs := [3]) (by kernel_rfl) (by simp) ?_
                refine AllReadyH.cons rfl (fun K hK => ?_) AllReadyH.nil
                go_simp
                refine (HFX.out _).mono ?_
                rintro e W2 ⟨rfl, hb⟩
                have hS2 := hS.next hb
                have HX2 := Lib.hid (HX1.out.next hb)
                have HG2 := Lib.hid (blk_next HG1.out hb)
                have HV2 := Lib.hid (HV1.out.next hb)
                have HB2 : Hid (Below w.heap.size w W2) := HB1.out.trans (hb.mono HB1.out.size)
                clear hb hS HX1 HG1 HV1 HB1
                refine hK.out _ _ hS2 (fun _ => ?_)
                clear hK K
                refine wpAnyH_ready (rs := [4]) (by kernel_rfl) (by simp) ?_
                refine AllReadyH.cons rfl (fun K hK => ?_) AllReadyH.nil
                go_simp
                refine (HPL.out _).mono ?_
                rintro e W3 ⟨rfl, hb⟩
                have hS3 := hS2.next hb
                have HX3 := Lib.hid (HX2.out.next hb)
                have HG3 := Lib.hid (blk_next HG2.out hb)
                have HV3 := Lib.hid (HV2.out.next hb)
                have HB3 : Hid (Below w.heap.size w W3) := HB2.out.trans (hb.mono HB2.out.size)
                clear hb hS2 HX2 HG2 HV2 HB2
                refine hK.out _ _ hS3 (fun _ => ?_)
                clear hK K
                refine wpAnyH_ready (rs := [5]) (by kernel_rfl) (by simp) ?_
                refine AllReadyH.cons rfl (fun K hK => ?_) AllReadyH.nil
                obtain ⟨sR, hsR⟩ : ∃ x, x = rneg R := ⟨_, rfl⟩
                obtain ⟨nR, hnR⟩ : ∃ x, x = rnum R := ⟨_, rfl⟩
                obtain ⟨dR, hdR⟩ : ∃ x, x = rden R := ⟨_, rfl⟩
                rw [← hsR, ← hnR, ← hdR]
                have HRR := Lib.hid (And.intro hsR (And.intro hnR hdR))
                clear hsR hnR hdR
                obtain ⟨c0, c1, c2, f0, f1, f2, hz⟩ := three_of HV3.out
                go_simp
                clear c0 c1 c2 f0 f1 f2 hz
                have hS4 : (SBox g ⟨o, c, vn, vu, vd⟩) (((W3.setCell ⟨q + 1 + 1, 0, none⟩ (.bool sR)).setCell ⟨q + 1 + 1, 1, none⟩ (.string nR)).setCell ⟨q + 1 + 1, 2, none⟩ (.string dR)) := (heap_setCell_other _ ⟨q + 1 + 1, 2, none⟩ g _ hgq).trans ((heap_setCell_other _ ⟨q + 1 + 1, 1, none⟩ g _ hgq).trans ((heap_setCell_other _ ⟨q + 1 + 1, 0, none⟩ g _ hgq).trans hS3))
                have HX4 : Hid (PBox q Ak nk ck (some ⟨b, off, none⟩) ns cs At nt ct (((W3.setCell ⟨q + 1 + 1, 0, none⟩ (.bool sR)).setCell ⟨q + 1 + 1, 1, none⟩ (.string nR)).setCell ⟨q + 1 + 1, 2, none⟩ (.string dR))) := (heap_setCell_other _ ⟨q + 1 + 1, 2, none⟩ q _ (by show q ≠ q + 1 + 1; omega)).trans ((heap_setCell_other _ ⟨q + 1 + 1, 1, none⟩ q _ (by show q ≠ q + 1 + 1; omega)).trans ((heap_setCell_other _ ⟨q + 1 + 1, 0, none⟩ q _ (by show q ≠ q + 1 + 1; omega)).trans HX3.out))
                have HG4 : Hid ((((W3.setCell ⟨q + 1 + 1, 0, none⟩ (.bool sR)).setCell ⟨q + 1 + 1, 1, none⟩ (.string nR)).setCell ⟨q + 1 + 1, 2, none⟩ (.string dR)).heap[q + 1]? = some (.cells #[.bool false, .string ⟨#[]⟩, .string ⟨#[]⟩] 70 (0, 0))) := (heap_setCell_other _ ⟨q + 1 + 1, 2, none⟩ (q + 1) _ (by show q + 1 ≠ q + 1 + 1; omega)).trans ((heap_setCell_other _ ⟨q + 1 + 1, 1, none⟩ (q + 1) _ (by show q + 1 ≠ q + 1 + 1; omega)).trans ((heap_setCell_other _ ⟨q + 1 + 1, 0, none⟩ (q + 1) _ (by show q + 1 ≠ q + 1 + 1; omega)).trans HG3.out))
                have HV4 := Lib.hid (HV3.out.set sR nR dR)
                have HB4 : Hid (Below w.heap.size w (((W3.setCell ⟨q + 1 + 1, 0, none⟩ (.bool sR)).setCell ⟨q + 1 + 1, 1, none⟩ (.string nR)).setCell ⟨q + 1 + 1, 2, none⟩ (.string dR))) := ((HB3.out.setCell (by show w.heap.size ≤ q + 1 + 1; omega) _).setCell (by show w.heap.size ≤ q + 1 + 1; omega) _).setCell (by show w.heap.size ≤ q + 1 + 1; omega) _
                refine hK.out _ _ hS4 (fun _ => ?_)
                clear hK K
                refine wpAnyH_done (by kernel_rfl) ?_ _
                clear hS4
                go_wp2_with fail
                go_roundw
                case measure => simp [intOf] <;> omega
                case rel => exact ⟨j + 1, by omega, by go_num, by rw [HSA.out, ← HRR.out.1, ← HRR.out.2.1, ← HRR.out.2.2]; exact HV4, HG4, HX4, HB4⟩
              · go_simp
                refine (HFX.out _).mono ?_
                rintro e W2 ⟨rfl, hb⟩
                have hS2 := hS.next hb
                have HX2 := Lib.hid (HX1.out.next hb)
                have HG2 := Lib.hid (blk_next HG1.out hb)
                have HV2 := Lib.hid (HV1.out.next hb)
                have HB2 : Hid (Below w.heap.size w W2) := HB1.out.trans (hb.mono HB1.out.size)
                clear hb hS HX1 HG1 HV1 HB1
                refine hK.out _ _ hS2 (fun _ => ?_)
                clear hK K
                refine wpAnyH_ready (rs := [0]) (by kernel_rfl) (by simp) ?_
                refine AllReadyH.cons rfl (fun K hK => ?_) AllReadyH.nil
                obtain ⟨q0, q1, q2⟩ := HV2.out.cells
                go_simp
                clear q0 q1 q2
                refine hK.out _ _ hS2 (fun _ => ?_)
                clear hK K
                refine wpAnyH_ready (rs := [4]) (by kernel_rfl) (by simp) ?_
                refine AllReadyH.cons rfl (fun K hK => ?_) AllReadyH.nil
                go_simp
                refine (HPL.out _).mono ?_
                rintro e W3 ⟨rfl, hb⟩
                have hS3 := hS2.next hb
                have HX3 := Lib.hid (HX2.out.next hb)
                have HG3 := Lib.hid (blk_next HG2.out hb)
                have HV3 := Lib.hid (HV2.out.next hb)
                have HB3 : Hid (Below w.heap.size w W3) := HB2.out.trans (hb.mono HB2.out.size)
                clear hb hS2 HX2 HG2 HV2 HB2
                refine hK.out _ _ hS3 (fun _ => ?_)
                clear hK K
                refine wpAnyH_ready (rs := [5]) (by kernel_rfl) (by simp) ?_
                refine AllReadyH.cons rfl (fun K hK => ?_) AllReadyH.nil
                obtain ⟨sR, hsR⟩ : ∃ x, x = rneg R := ⟨_, rfl⟩
                obtain ⟨nR, hnR⟩ : ∃ x, x = rnum R := ⟨_, rfl⟩
                obtain ⟨dR, hdR⟩ : ∃ x, x = rden R := ⟨_, rfl⟩
                rw [← hsR, ← hnR, ← hdR]
                have HRR := Lib.hid (And.intro hsR (And.intro hnR hdR))
                clear hsR hnR hdR
                obtain ⟨c0, c1, c2, f0, f1, f2, hz⟩ := three_of HV3.out
                go_simp
                clear c0 c1 c2 f0 f1 f2 hz
                have hS4 : (SBox g ⟨o, c, vn, vu, vd⟩) (((W3.setCell ⟨q + 1 + 1, 0, none⟩ (.bool sR)).setCell ⟨q + 1 + 1, 1, none⟩ (.string nR)).setCell ⟨q + 1 + 1, 2, none⟩ (.string dR)) := (heap_setCell_other _ ⟨q + 1 + 1, 2, none⟩ g _ hgq).trans ((heap_setCell_other _ ⟨q + 1 + 1, 1, none⟩ g _ hgq).trans ((heap_setCell_other _ ⟨q + 1 + 1, 0, none⟩ g _ hgq).trans hS3))
                have HX4 : Hid (PBox q Ak nk ck (some ⟨b, off, none⟩) ns cs At nt ct (((W3.setCell ⟨q + 1 + 1, 0, none⟩ (.bool sR)).setCell ⟨q + 1 + 1, 1, none⟩ (.string nR)).setCell ⟨q + 1 + 1, 2, none⟩ (.string dR))) := (heap_setCell_other _ ⟨q + 1 + 1, 2, none⟩ q _ (by show q ≠ q + 1 + 1; omega)).trans ((heap_setCell_other _ ⟨q + 1 + 1, 1, none⟩ q _ (by show q ≠ q + 1 + 1; omega)).trans ((heap_setCell_other _ ⟨q + 1 + 1, 0, none⟩ q _ (by show q ≠ q + 1 + 1; omega)).trans HX3.out))
                have HG4 : Hid ((((W3.setCell ⟨q + 1 + 1, 0, none⟩ (.bool sR)).setCell ⟨q + 1 + 1, 1, none⟩ (.string nR)).setCell ⟨q + 1 + 1, 2, none⟩ (.string dR)).heap[q + 1]? = some (.cells #[.bool false, .string ⟨#[]⟩, .string ⟨#[]⟩] 70 (0, 0))) := (heap_setCell_other _ ⟨q + 1 + 1, 2, none⟩ (q + 1) _ (by show q + 1 ≠ q + 1 + 1; omega)).trans ((heap_setCell_other _ ⟨q + 1 + 1, 1, none⟩ (q + 1) _ (by show q + 1 ≠ q + 1 + 1; omega)).trans ((heap_setCell_other _ ⟨q + 1 + 1, 0, none⟩ (q + 1) _ (by show q + 1 ≠ q + 1 + 1; omega)).trans HG3.out))
                have HV4 := Lib.hid (HV3.out.set sR nR dR)
                have HB4 : Hid (Below w.heap.size w (((W3.setCell ⟨q + 1 + 1, 0, none⟩ (.bool sR)).setCell ⟨q + 1 + 1, 1, none⟩ (.string nR)).setCell ⟨q + 1 + 1, 2, none⟩ (.string dR))) := ((HB3.out.setCell (by show w.heap.size ≤ q + 1 + 1; omega) _).setCell (by show w.heap.size ≤ q + 1 + 1; omega) _).setCell (by show w.heap.size ≤ q + 1 + 1; omega) _
                refine hK.out _ _ hS4 (fun _ => ?_)
                clear hK K
                refine wpAnyH_done (by kernel_rfl) ?_ _
                clear hS4
                go_wp2_with fail
                go_roundw
                case measure => simp [intOf] <;> omega
                case rel => exact ⟨j + 1, by omega, by go_num, by rw [HSA.out, ← HRR.out.1, ← HRR.out.2.1, ← HRR.out.2.2]; exact HV4, HG4, HX4, HB4⟩
      · have hcb : (c == company) = false := beq_eq_false_iff_ne.2 hc1
        have HSK : Hid (vs F (P.stakes.take (j + 1)) = v) := by show _ = _; rw [HTK.out, if_neg (by rw [HFE.out]; unfold vF; dsimp only; rw [hcb]; simp)]
        clear hc1
        go_wp2_with fail
        rw [← HW.out.1]
        clear HW p0 p1 p2 p3 p4 s0 s1 s2 s3 s4 k0 k1 k2 HXwp HGwp HVwp HBwp
        go_roundw
        case measure => simp [intOf] <;> omega
        case rel => exact ⟨j + 1, by omega, by go_num, by rw [HSK.out, ← HLT.out.1, ← HLT.out.2.1, ← HLT.out.2.2]; exact HVwa, HGwa, HXwa, HBwa⟩
    · have HEND : Hid (v = vs F P.stakes) := by
        have := HVE.out
        rwa [List.take_of_length_le (by rw [← HNS.out]; omega)] at this
      obtain ⟨c0, c1, c2, f0, f1, f2, hz⟩ := three_of HGwp.out
      obtain ⟨a0, a1, a2, _⟩ := three_of HVwp.out
      go_wp2_with fail
      refine bodyPost_ret (v := .agg #[.bool sv, .string nv, .string dv]) (by simp [results, Tryz.results65, go_sem, c0, c1, c2]) rfl ⟨?_, ((HBwp.out.setCell (by show w.heap.size ≤ q + 1; omega) _).setCell (by show w.heap.size ≤ q + 1; omega) _).setCell (by show w.heap.size ≤ q + 1; omega) _⟩
      rw [← HEND.out, ratV, HLT.out.1, HLT.out.2.1, HLT.out.2.2]

end Go.Proofs.YtomfcmlomfcghaaGreatDoor

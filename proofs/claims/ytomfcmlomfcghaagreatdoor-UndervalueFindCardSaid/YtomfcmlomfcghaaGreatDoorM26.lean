/- Merged of PCtl PCtlB. -/
import Derived.Test.YtomfcmlomfcghaaGreatDoorPtyE
import Derived.Test.YtomfcmlomfcghaaGreatDoorPChk
import Derived.Deep.RegionHeld3
/- party.controlled. -/
set_option linter.unusedVariables false
set_option linter.unusedSimpArgs false
namespace Go.Proofs.YtomfcmlomfcghaaGreatDoor
open Go.RowKit

/-- a fresh row of flags that a function returns -/
def FlagsPost (n : Nat) (S : Nat → Bool) (w : World) (e : Ending) (w' : World) : Prop := ∃ g, e = .returned (.slice (some ⟨g, 0, none⟩) n n) ∧ w.heap.size ≤ g ∧ FRow g (flags S n) w' ∧ Below w.heap.size w w'
def QF (g : Nat) (a : Bool) (b c : ByteArray) (I : Nat) (fl : List Bool) (W : World) : Prop := Q3 g a b c W ∧ FRow I fl W
theorem QF.next {g : Nat} {a : Bool} {b c : ByteArray} {I : Nat} {fl : List Bool} {W W' : World} (h : QF g a b c I fl W) (hb : Below W.heap.size W W') : QF g a b c I fl W' := ⟨h.1.next hb, h.2.next hb⟩
theorem sz_half : Sz 1 halfR := frac_sz (d := 2) (k := 1) (by decide) (by decide) (by decide)

set_option maxHeartbeats 8000000 in
set_option maxRecDepth 100000 in
theorem pctl_calls (Ak : Option Addr) (nk ck : Nat) (As : Option Addr) (ns cs : Nat) (At : Option Addr) (nt ct : Nat) (P : Prt) (m : Nat) (own : Int) (w : World) (hp : PRd Ak nk As ns At nt P w) (hb : PB m P) (hgo : Good P) :
 Calls Tryz.prog 40 #[ptyVal Ak nk ck As ns cs At nt ct, .int .i64 own] w (FlagsPost nk (ctl P own) w) := by
 have HP := Lib.hid hp
 have HPB := Lib.hid hb
 have HGO := Lib.hid hgo
 have HNK := Lib.hid hp.nk
 have HNS := Lib.hid hp.ns
 have gk : nk ≤ 32 := by rw [hp.nk]; exact hgo.kl
 have gs : ns ≤ 64 := by rw [hp.ns]; exact hgo.sl
 clear hp hb hgo
 obtain ⟨w0, hw0⟩ : ∃ W, W = w.alloc (.cells #[.slice Ak nk ck, .slice As ns cs, .slice At nt ct] 26) := ⟨_, rfl⟩
 obtain ⟨q, hq⟩ : ∃ q, q = w.heap.size := ⟨_, rfl⟩
 have HB0 : Hid (Below w.heap.size w w0) := by rw [hw0]; exact bel_alloc _ _
 have HX0 : Hid (PBox q Ak nk ck As ns cs At nt ct w0) := by rw [hw0, hq]; exact blk_new _ _
 obtain ⟨wi, hwi⟩ : ∃ W, W = w0.alloc (.cells (madeCells (boolV false).toArray (nk * 1)) 4) := ⟨_, rfl⟩
 obtain ⟨I, hI⟩ : ∃ I, I = w0.heap.size := ⟨_, rfl⟩
 have HFi : Hid (FRow I (flags (fun _ => false) nk) wi) := by rw [hwi, hI]; exact FRow.made w0 nk
 have HXi : Hid (PBox q Ak nk ck As ns cs At nt ct wi) := by rw [hwi]; exact HX0.out.next (bel_alloc _ _)
 have HBi : Hid (Below w.heap.size w wi) := by rw [hwi]; exact HB0.out.alloc HB0.out.size _
 have hIw : w.heap.size ≤ I := by rw [hI]; exact HB0.out.size
 have hIq : I ≠ q := by rw [hI]; intro e; have := (Array.getElem?_eq_some_iff.1 HX0.out).1; omega
 have hmk := make_flags nk (by omega) w0
 rw [← hwi, ← hI] at hmk
 go_enter Tryz.func40, Tryz.ntmps40
 go_upto_region 1 with fail
 rw [← hw0, ← hq]
 have HQ := Lib.hid (And.intro hq hI)
 have hqw : w.heap.size ≤ q := by omega
 clear hw0 hq
 obtain ⟨k0, k1, k2⟩ := HX0.out.cells
 clear hwi hI
 go_wp2_with fail
 clear hmk k0 k1 k2 HX0 HB0
 go_loopw [6] (fun ch wr => ∃ (S : Nat → Bool) (b : Bool), ch = .bool b ∧ Hid (Sound P own S) ∧ Hid (b = false → Cls P own S) ∧ Hid (FRow I (flags S nk) wr) ∧ Hid (PBox q Ak nk ck As ns cs At nt ct wr) ∧ Hid (Below w.heap.size w wr)) (fun ch wr => 2 * (nk - cntW I nk wr) + bOf ch)
 case atStart => exact ⟨fun _ => false, true, rfl, (fun c h => by cases h), (fun h => by cases h), HFi, HXi, HBi⟩
 case round =>
  clear HFi HXi HBi
  obtain ⟨S, b, rfl, HSD, HCL, HFwo, HXwo, HBwo⟩ := hrel
  rename World => wo
  cases b
  ·
   go_wp2_with fail
   go_ret
   exact ⟨I, rfl, hIw, by rw [← ctl_flags HSD.out (HCL.out (by simp))]; exact HFwo.out, HBwo.out⟩
  ·
   clear HCL
   have HCW := Lib.hid (cntW_eq HFwo.out)
   have hmk := make_votes nk (by omega) wo
   obtain ⟨V, hV⟩ : ∃ V, V = wo.heap.size := ⟨_, rfl⟩
   obtain ⟨wv, hwv⟩ : ∃ W, W = wo.alloc (.cells (madeCells zc3.toArray (nk * 3)) 70) := ⟨_, rfl⟩
   have HVwv : Hid (VRow V (votesW nk (inP own S) (P.stakes.take 0)) wv) := by rw [hwv, hV]; exact VRow.madeW wo nk _
   have HXwv : Hid (PBox q Ak nk ck As ns cs At nt ct wv) := by rw [hwv]; exact HXwo.out.next (bel_alloc _ _)
   have HFwv : Hid (FRow I (flags S nk) wv) := by rw [hwv]; exact HFwo.out.next (bel_alloc _ _)
   have HBwv : Hid (Below w.heap.size w wv) := by rw [hwv]; exact HBwo.out.alloc HBwo.out.size _
   have hVw : w.heap.size ≤ V := by rw [hV]; exact HBwo.out.size
   have hVq : V ≠ q := by rw [hV]; intro e; have := (Array.getElem?_eq_some_iff.1 HXwo.out).1; omega
   have hVI : V ≠ I := by rw [hV]; intro e; have := HFwo.out.lt; omega
   rw [← hwv, ← hV] at hmk
   obtain ⟨k0, k1, k2⟩ := HXwo.out.cells
   obtain ⟨j0, j1, j2⟩ := HXwv.out.cells
   have HW := Lib.hid (And.intro hwv hV)
   clear hwv hV
   go_wp2_with fail
   clear HW k0 k1 k2 j0 j1 j2 hmk HXwo HBwo HFwo
   go_loopw [24] (fun i wr => ∃ k : Nat, k ≤ ns ∧ i = .int .i64 (k : Int) ∧ Hid (VRow V (votesW nk (inP own S) (P.stakes.take k)) wr) ∧ Hid (FRow I (flags S nk) wr) ∧ Hid (PBox q Ak nk ck As ns cs At nt ct wr) ∧ Hid (Below w.heap.size w wr)) (fun i _ => ns - (intOf i).toNat)
   case atStart => exact ⟨0, Nat.zero_le _, rfl, HVwv, HFwv, HXwv, HBwv⟩
   case round =>
    clear HVwv HXwv HBwv HFwv
    obtain ⟨j, hj, rfl, HVwp, HFwp, HXwp, HBwp⟩ := hrel
    rename World => wp
    by_cases hjl : j < ns
    ·
     obtain ⟨s, hs⟩ := getElem?_of_lt (l := P.stakes) (k := j) (by rw [← HNS.out]; exact hjl)
     have HTK := Lib.hid (show P.stakes.take (j + 1) = P.stakes.take j ++ [s] by rw [List.take_add_one, hs]; rfl)
     have HBS := Lib.hid (HPB.out.s s (List.mem_of_getElem? hs))
     have hfine := fine_parts (HGO.out.s s (List.mem_of_getElem? hs)).1
     obtain ⟨b, off, hA, _, hc⟩ := Rd.at_ (enc := stkV) (fun _ => rfl) (HP.out.s.next HBwp.out) hs
     subst hA
     have p0 := hc 0 _ rfl
     have p1 := hc 1 _ rfl
     have p2 := hc 2 _ rfl
     have p3 := hc 3 _ rfl
     have p4 := hc 4 _ rfl
     rw [Nat.add_zero] at p0
     rw [← Nat.add_assoc] at p1 p2 p3 p4
     clear hc hs
     obtain ⟨o, c, vn, vu, vd⟩ := s
     dsimp only at p0 p1 p2 p3 p4 hfine
     obtain ⟨i, hi⟩ : ∃ i : Nat, c = (i : Int) := ⟨c.toNat, by omega⟩
     obtain ⟨oi, hoi⟩ : ∃ i : Nat, o = (i : Int) := ⟨o.toNat, by omega⟩
     subst hi
     subst hoi
     have hil : i < nk := by rw [HNK.out]; omega
     have hil2 : (i : Int) < (nk : Int) := by omega
     have hol : oi < nk := by rw [HNK.out]; omega
     have hol2 : (oi : Int) < (nk : Int) := by omega
     clear hfine
     obtain ⟨g, hg⟩ : ∃ g, g = wp.heap.size := ⟨_, rfl⟩
     obtain ⟨wa, hwa⟩ : ∃ W, W = wp.alloc (.cells #[.int .i64 (oi : Int), .int .i64 (i : Int), .bool vn, .string vu, .string vd] 72) := ⟨_, rfl⟩
     have HSwa : Hid (SBox g ⟨(oi : Int), (i : Int), vn, vu, vd⟩ wa) := by rw [hwa, hg]; exact blk_new _ _
     have HXwa : Hid (PBox q Ak nk ck (some ⟨b, off, none⟩) ns cs At nt ct wa) := by rw [hwa]; exact HXwp.out.next (bel_alloc _ _)
     have HVwa : Hid (VRow V (votesW nk (inP own S) (P.stakes.take j)) wa) := by rw [hwa]; exact HVwp.out.next (bel_alloc _ _)
     have HFwa : Hid (FRow I (flags S nk) wa) := by rw [hwa]; exact HFwp.out.next (bel_alloc _ _)
     have HBwa : Hid (Below w.heap.size w wa) := by rw [hwa]; exact HBwp.out.alloc HBwp.out.size _
     have hVg : g ≠ V := by rw [hg]; intro e; have := (Array.getElem?_eq_some_iff.1 HVwp.out).1; omega
     have hsa := HSwa.out
     have hfa := HFwa.out.cell (flags_at hol)
     rw [hwa] at hsa hfa
     rw [hg] at hsa
     obtain ⟨s0, s1, s2, s3, s4⟩ := hsa.cells
     have HW := Lib.hid (And.intro hwa hg)
     clear hwa hg hsa
     by_cases hoo : (oi : Int) = own
     ·
      have hoe : ((oi : Int) == own) = true := beq_iff_eq.2 hoo
      have HYS : Hid (inP own S ⟨(oi : Int), (i : Int), vn, vu, vd⟩ = true) := by show _ = _; unfold inP; dsimp only; rw [hoe]; rfl
      clear hoo
      go_wp2_with fail
      rw [← HW.out.1, ← HW.out.2]
      clear HW p0 p1 p2 p3 p4 s0 s1 s2 s3 s4 hfa HXwp HBwp HVwp HFwp
      obtain ⟨W1, hW1⟩ : ∃ W, W = wa.drew := ⟨_, rfl⟩
      have hS : (SBox g ⟨(oi : Int), (i : Int), vn, vu, vd⟩) W1 := by rw [hW1]; exact HSwa.out
      have HX1 : Hid (PBox q Ak nk ck (some ⟨b, off, none⟩) ns cs At nt ct W1) := by rw [hW1]; exact HXwa.out
      have HV1 : Hid (VRow V (votesW nk (inP own S) (P.stakes.take j)) W1) := by rw [hW1]; exact HVwa.out
      have HF1 : Hid (FRow I (flags S nk) W1) := by rw [hW1]; exact HFwa.out
      have HB1 : Hid (Below w.heap.size w W1) := by rw [hW1]; exact HBwa.out.drew
      refine wp_region_held_drew (S := (SBox g ⟨(oi : Int), (i : Int), vn, vu, vd⟩)) (by kernel_rfl) (by rw [← hW1]; exact hS) ?_
      rw [← hW1]
      intro _
      clear hW1 HSwa HXwa HVwa HBwa HFwa
      refine wpAnyH_take (i := 0) rfl (by kernel_rfl) (by kernel_rfl) (by kernel_rfl) (fun _ _ _ h => h) (Or.inl ⟨by kernel_rfl, (by intro w' _; go_simp; with_reducible rfl)⟩) hS ?_
      go_simp
      refine wpAnyH_take (i := 1) rfl (by kernel_rfl) (by kernel_rfl) (by kernel_rfl) (fun _ _ _ h => h) (Or.inl ⟨by kernel_rfl, (by intro w' _; go_simp; with_reducible rfl)⟩) hS ?_
      go_simp
      refine wpAnyH_take (i := 2) (v := .int .i64 (i : Int)) rfl (by kernel_rfl) (by kernel_rfl) (by kernel_rfl) (fun _ _ _ h => h) (Or.inl ⟨by kernel_rfl, (by intro w' hw'; obtain ⟨s0, s1, s2, s3, s4⟩ := hw'.cells; go_simp)⟩) hS ?_
      go_simp
      refine wpAnyH_take (i := 3) rfl (by kernel_rfl) (by kernel_rfl) (by kernel_rfl) (fun _ _ _ h => h) (Or.inl ⟨by kernel_rfl, (by intro w' _; go_simp; with_reducible rfl)⟩) hS ?_
      go_simp
      refine wpAnyH_take (i := 4) rfl (by kernel_rfl) (by kernel_rfl) (by kernel_rfl) (fun _ _ _ h => h) (Or.inl ⟨by kernel_rfl, (by intro w' _; go_simp; with_reducible rfl)⟩) hS ?_
      go_simp
      refine wpAnyH_take (i := 5) (v := .int .i64 (i : Int)) rfl (by kernel_rfl) (by kernel_rfl) (by kernel_rfl) (fun _ _ _ h => h) (Or.inl ⟨by kernel_rfl, (by intro w' hw'; obtain ⟨s0, s1, s2, s3, s4⟩ := hw'.cells; go_simp)⟩) hS ?_
      go_simp
      refine wpAnyH_take (i := 6) (v := .pointer (some ⟨V, i * 3, none⟩)) rfl (by kernel_rfl) (by kernel_rfl) (by kernel_rfl) (fun _ _ _ h => h) (Or.inl ⟨by kernel_rfl, (by intro w' _; go_simp)⟩) hS ?_
      go_simp
      refine wpAnyH_take (i := 8) rfl (by kernel_rfl) (by kernel_rfl) (by kernel_rfl) (fun _ _ _ h => h) (Or.inl ⟨by kernel_rfl, (by intro w' _; go_simp; with_reducible rfl)⟩) hS ?_
      go_simp
      refine wpAnyH_take (i := 9) (v := .agg #[.bool vn, .string vu, .string vd]) rfl (by kernel_rfl) (by kernel_rfl) (by kernel_rfl) (fun _ _ _ h => h) (Or.inl ⟨by kernel_rfl, (by intro w' hw'; obtain ⟨s0, s1, s2, s3, s4⟩ := hw'.cells; go_simp)⟩) hS ?_
      go_simp
      obtain ⟨qv, hqv⟩ : ∃ x, x = vs (fun s => (s.c == (i : Int)) && inP own S s) (P.stakes.take j) := ⟨_, rfl⟩
      have hat := votesW_at hil (inP own S) (P.stakes.take j)
      rw [← hqv] at hat
      have hszq := vs_sz (f := fun s => (s.c == (i : Int)) && inP own S s) (l := P.stakes.take j) (m := m) (fun s hs => HPB.out.sz s (List.mem_of_mem_take hs))
      rw [← hqv] at hszq
      have hm2 := HPB.out.m2
      have hm1 := HPB.out.m1
      have hlen : (P.stakes.take j).length ≤ 64 := by rw [List.length_take, ← HNS.out]; omega
      have hmul : (m + 1) * (P.stakes.take j).length ≤ 1001 * 64 := Nat.mul_le_mul (by omega) hlen
      have HAD' := fun W => pAddF_calls (fqOf qv) ⟨vn, vu, vd⟩ 64065 m W (sz_fits (hszq.mono (by omega))) HBS.out.2.2 (by decide) hm1 (by omega)
      rw [fixR_of] at HAD'
      obtain ⟨R, hR⟩ : ∃ R, R = qv + fixR ⟨vn, vu, vd⟩ := ⟨_, rfl⟩
      rw [← hR] at HAD'
      unfold FQ.val fqOf ratV at HAD'
      dsimp only at HAD'
      have HAD := Lib.hid HAD'
      have HNX : Hid (votesW nk (inP own S) (P.stakes.take (j + 1)) = (votesW nk (inP own S) (P.stakes.take j)).set i R) := by show _ = _; rw [HTK.out, votesW_snoc hil _ _ _ HYS.out, ← hqv, ← hR]
      have HAT := Lib.hid hat
      clear hqv hat hszq hm1 hm2 hlen hmul HAD' hR
      refine wpAnyH_ready (rs := [7]) (by kernel_rfl) (by simp) ?_
      refine AllReadyH.cons rfl (fun K hK => ?_) AllReadyH.nil
      obtain ⟨v0, v1, v2, _⟩ := HV1.out.three HAT.out
      go_simp
      clear v0 v1 v2
      refine hK.out _ _ hS (fun _ => ?_)
      clear hK K
      refine wpAnyH_ready (rs := [10]) (by kernel_rfl) (by simp) ?_
      refine AllReadyH.cons rfl (fun K hK => ?_) AllReadyH.nil
      go_simp
      refine (HAD.out _).mono ?_
      rintro e w2 ⟨rfl, hb⟩
      have hS2 := hS.next hb
      have HX2 := Lib.hid (HX1.out.next hb)
      have HV2 := Lib.hid (HV1.out.next hb)
      have HF2 := Lib.hid (HF1.out.next hb)
      have HB2 : Hid (Below w.heap.size w w2) := HB1.out.trans (hb.mono HB1.out.size)
      clear hb hS HX1 HV1 HB1 HF1
      refine hK.out _ _ hS2 (fun _ => ?_)
      clear hK K
      refine wpAnyH_take (i := 11) (v := .pointer (some ⟨V, i * 3, none⟩)) rfl (by kernel_rfl) (by kernel_rfl) (by kernel_rfl) (fun _ _ _ h => h) (Or.inl ⟨by kernel_rfl, (by intro w' _; go_simp)⟩) hS2 ?_
      go_simp
      have hS3 : (SBox g ⟨(oi : Int), (i : Int), vn, vu, vd⟩) (((w2.setCell ⟨V, i * 3, none⟩ (.bool (rneg R))).setCell ⟨V, i * 3 + 1, none⟩ (.string (rnum R))).setCell ⟨V, i * 3 + 2, none⟩ (.string (rden R))) := (heap_setCell_other _ ⟨V, i * 3 + 2, none⟩ g _ hVg).trans ((heap_setCell_other _ ⟨V, i * 3 + 1, none⟩ g _ hVg).trans ((heap_setCell_other _ ⟨V, i * 3, none⟩ g _ hVg).trans hS2))
      have HX3 : Hid (PBox q Ak nk ck (some ⟨b, off, none⟩) ns cs At nt ct (((w2.setCell ⟨V, i * 3, none⟩ (.bool (rneg R))).setCell ⟨V, i * 3 + 1, none⟩ (.string (rnum R))).setCell ⟨V, i * 3 + 2, none⟩ (.string (rden R)))) := (heap_setCell_other _ ⟨V, i * 3 + 2, none⟩ q _ (Ne.symm hVq)).trans ((heap_setCell_other _ ⟨V, i * 3 + 1, none⟩ q _ (Ne.symm hVq)).trans ((heap_setCell_other _ ⟨V, i * 3, none⟩ q _ (Ne.symm hVq)).trans HX2.out))
      have HF3 : Hid (FRow I (flags S nk) (((w2.setCell ⟨V, i * 3, none⟩ (.bool (rneg R))).setCell ⟨V, i * 3 + 1, none⟩ (.string (rnum R))).setCell ⟨V, i * 3 + 2, none⟩ (.string (rden R)))) := (heap_setCell_other _ ⟨V, i * 3 + 2, none⟩ I _ (Ne.symm hVI)).trans ((heap_setCell_other _ ⟨V, i * 3 + 1, none⟩ I _ (Ne.symm hVI)).trans ((heap_setCell_other _ ⟨V, i * 3, none⟩ I _ (Ne.symm hVI)).trans HF2.out))
      have HV3 : Hid (VRow V (votesW nk (inP own S) (P.stakes.take (j + 1))) (((w2.setCell ⟨V, i * 3, none⟩ (.bool (rneg R))).setCell ⟨V, i * 3 + 1, none⟩ (.string (rnum R))).setCell ⟨V, i * 3 + 2, none⟩ (.string (rden R)))) := by show VRow _ _ _; rw [HNX.out]; exact HV2.out.set HAT.out R
      have HB3 : Hid (Below w.heap.size w (((w2.setCell ⟨V, i * 3, none⟩ (.bool (rneg R))).setCell ⟨V, i * 3 + 1, none⟩ (.string (rnum R))).setCell ⟨V, i * 3 + 2, none⟩ (.string (rden R)))) := ((HB2.out.setCell hVw _).setCell hVw _).setCell hVw _
      refine wpAnyH_ready (rs := [12]) (by kernel_rfl) (by simp) ?_
      refine AllReadyH.cons rfl (fun K hK => ?_) AllReadyH.nil
      obtain ⟨v0, v1, v2, f0, f1, f2, hz⟩ := HV2.out.three HAT.out
      go_simp
      clear v0 v1 v2 f0 f1 f2 hz
      refine hK.out _ _ hS3 (fun _ => ?_)
      clear hK K hS2 HX2 HV2 HB2 HF2
      refine wpAnyH_done (by kernel_rfl) ?_ _
      clear hS3
      go_wp2_with fail
      go_roundw
      case measure => simp [intOf] <;> omega
      case rel => exact ⟨j + 1, by omega, by go_num, HV3, HF3, HX3, HB3⟩
     ·
      have hob : ((oi : Int) == own) = false := beq_eq_false_iff_ne.2 hoo
      clear hoo
      rcases hso : S oi with _ | _
      ·
       rw [hso] at hfa
       have HSO := Lib.hid hso
       clear hso
       have HNX : Hid (votesW nk (inP own S) (P.stakes.take (j + 1)) = votesW nk (inP own S) (P.stakes.take j)) := by
        show _ = _
        rw [HTK.out]
        refine votesW_skip _ ?_
        unfold inP
        dsimp only
        rw [hob, Int.toNat_natCast, HSO.out]; rfl
       go_wp2_with fail
       rw [← HW.out.1]
       clear HW p0 p1 p2 p3 p4 s0 s1 s2 s3 s4 hfa HXwp HBwp HVwp HFwp
       go_roundw
       case measure => simp [intOf] <;> omega
       case rel => exact ⟨j + 1, by omega, by go_num, by rw [HNX.out]; exact HVwa, HFwa, HXwa, HBwa⟩
      ·
       rw [hso] at hfa
       have HSO := Lib.hid hso
       clear hso
       have HYS : Hid (inP own S ⟨(oi : Int), (i : Int), vn, vu, vd⟩ = true) := by show _ = _; unfold inP; dsimp only; rw [hob, Int.toNat_natCast, HSO.out]; rfl
       go_wp2_with fail
       rw [← HW.out.1, ← HW.out.2]
       clear HW p0 p1 p2 p3 p4 s0 s1 s2 s3 s4 hfa HXwp HBwp HVwp HFwp
       obtain ⟨W1, hW1⟩ : ∃ W, W = wa.drew := ⟨_, rfl⟩
       have hS : (SBox g ⟨(oi : Int), (i : Int), vn, vu, vd⟩) W1 := by rw [hW1]; exact HSwa.out
       have HX1 : Hid (PBox q Ak nk ck (some ⟨b, off, none⟩) ns cs At nt ct W1) := by rw [hW1]; exact HXwa.out
       have HV1 : Hid (VRow V (votesW nk (inP own S) (P.stakes.take j)) W1) := by rw [hW1]; exact HVwa.out
       have HF1 : Hid (FRow I (flags S nk) W1) := by rw [hW1]; exact HFwa.out
       have HB1 : Hid (Below w.heap.size w W1) := by rw [hW1]; exact HBwa.out.drew
       refine wp_region_held_drew (S := (SBox g ⟨(oi : Int), (i : Int), vn, vu, vd⟩)) (by kernel_rfl) (by rw [← hW1]; exact hS) ?_
       rw [← hW1]
       intro _
       clear hW1 HSwa HXwa HVwa HBwa HFwa
       refine wpAnyH_take (i := 0) rfl (by kernel_rfl) (by kernel_rfl) (by kernel_rfl) (fun _ _ _ h => h) (Or.inl ⟨by kernel_rfl, (by intro w' _; go_simp; with_reducible rfl)⟩) hS ?_
       go_simp
       refine wpAnyH_take (i := 1) rfl (by kernel_rfl) (by kernel_rfl) (by kernel_rfl) (fun _ _ _ h => h) (Or.inl ⟨by kernel_rfl, (by intro w' _; go_simp; with_reducible rfl)⟩) hS ?_
       go_simp
       refine wpAnyH_take (i := 2) (v := .int .i64 (i : Int)) rfl (by kernel_rfl) (by kernel_rfl) (by kernel_rfl) (fun _ _ _ h => h) (Or.inl ⟨by kernel_rfl, (by intro w' hw'; obtain ⟨s0, s1, s2, s3, s4⟩ := hw'.cells; go_simp)⟩) hS ?_
       go_simp
       refine wpAnyH_take (i := 3) rfl (by kernel_rfl) (by kernel_rfl) (by kernel_rfl) (fun _ _ _ h => h) (Or.inl ⟨by kernel_rfl, (by intro w' _; go_simp; with_reducible rfl)⟩) hS ?_
       go_simp
       refine wpAnyH_take (i := 4) rfl (by kernel_rfl) (by kernel_rfl) (by kernel_rfl) (fun _ _ _ h => h) (Or.inl ⟨by kernel_rfl, (by intro w' _; go_simp; with_reducible rfl)⟩) hS ?_
       go_simp
       refine wpAnyH_take (i := 5) (v := .int .i64 (i : Int)) rfl (by kernel_rfl) (by kernel_rfl) (by kernel_rfl) (fun _ _ _ h => h) (Or.inl ⟨by kernel_rfl, (by intro w' hw'; obtain ⟨s0, s1, s2, s3, s4⟩ := hw'.cells; go_simp)⟩) hS ?_
       go_simp
       refine wpAnyH_take (i := 6) (v := .pointer (some ⟨V, i * 3, none⟩)) rfl (by kernel_rfl) (by kernel_rfl) (by kernel_rfl) (fun _ _ _ h => h) (Or.inl ⟨by kernel_rfl, (by intro w' _; go_simp)⟩) hS ?_
       go_simp
       refine wpAnyH_take (i := 8) rfl (by kernel_rfl) (by kernel_rfl) (by kernel_rfl) (fun _ _ _ h => h) (Or.inl ⟨by kernel_rfl, (by intro w' _; go_simp; with_reducible rfl)⟩) hS ?_
       go_simp
       refine wpAnyH_take (i := 9) (v := .agg #[.bool vn, .string vu, .string vd]) rfl (by kernel_rfl) (by kernel_rfl) (by kernel_rfl) (fun _ _ _ h => h) (Or.inl ⟨by kernel_rfl, (by intro w' hw'; obtain ⟨s0, s1, s2, s3, s4⟩ := hw'.cells; go_simp)⟩) hS ?_
       go_simp
       obtain ⟨qv, hqv⟩ : ∃ x, x = vs (fun s => (s.c == (i : Int)) && inP own S s) (P.stakes.take j) := ⟨_, rfl⟩
       have hat := votesW_at hil (inP own S) (P.stakes.take j)
       rw [← hqv] at hat
       have hszq := vs_sz (f := fun s => (s.c == (i : Int)) && inP own S s) (l := P.stakes.take j) (m := m) (fun s hs => HPB.out.sz s (List.mem_of_mem_take hs))
       rw [← hqv] at hszq
       have hm2 := HPB.out.m2
       have hm1 := HPB.out.m1
       have hlen : (P.stakes.take j).length ≤ 64 := by rw [List.length_take, ← HNS.out]; omega
       have hmul : (m + 1) * (P.stakes.take j).length ≤ 1001 * 64 := Nat.mul_le_mul (by omega) hlen
       have HAD' := fun W => pAddF_calls (fqOf qv) ⟨vn, vu, vd⟩ 64065 m W (sz_fits (hszq.mono (by omega))) HBS.out.2.2 (by decide) hm1 (by omega)
       rw [fixR_of] at HAD'
       obtain ⟨R, hR⟩ : ∃ R, R = qv + fixR ⟨vn, vu, vd⟩ := ⟨_, rfl⟩
       rw [← hR] at HAD'
       unfold FQ.val fqOf ratV at HAD'
       dsimp only at HAD'
       have HAD := Lib.hid HAD'
       have HNX : Hid (votesW nk (inP own S) (P.stakes.take (j + 1)) = (votesW nk (inP own S) (P.stakes.take j)).set i R) := by show _ = _; rw [HTK.out, votesW_snoc hil _ _ _ HYS.out, ← hqv, ← hR]
       have HAT := Lib.hid hat
       clear hqv hat hszq hm1 hm2 hlen hmul HAD' hR
       refine wpAnyH_ready (rs := [7]) (by kernel_rfl) (by simp) ?_
       refine AllReadyH.cons rfl (fun K hK => ?_) AllReadyH.nil
       obtain ⟨v0, v1, v2, _⟩ := HV1.out.three HAT.out
       go_simp
       clear v0 v1 v2
       refine hK.out _ _ hS (fun _ => ?_)
       clear hK K
       refine wpAnyH_ready (rs := [10]) (by kernel_rfl) (by simp) ?_
       refine AllReadyH.cons rfl (fun K hK => ?_) AllReadyH.nil
       go_simp
       refine (HAD.out _).mono ?_
       rintro e w2 ⟨rfl, hb⟩
       have hS2 := hS.next hb
       have HX2 := Lib.hid (HX1.out.next hb)
       have HV2 := Lib.hid (HV1.out.next hb)
       have HF2 := Lib.hid (HF1.out.next hb)
       have HB2 : Hid (Below w.heap.size w w2) := HB1.out.trans (hb.mono HB1.out.size)
       clear hb hS HX1 HV1 HB1 HF1
       refine hK.out _ _ hS2 (fun _ => ?_)
       clear hK K
       refine wpAnyH_take (i := 11) (v := .pointer (some ⟨V, i * 3, none⟩)) rfl (by kernel_rfl) (by kernel_rfl) (by kernel_rfl) (fun _ _ _ h => h) (Or.inl ⟨by kernel_rfl, (by intro w' _; go_simp)⟩) hS2 ?_
       go_simp
       have hS3 : (SBox g ⟨(oi : Int), (i : Int), vn, vu, vd⟩) (((w2.setCell ⟨V, i * 3, none⟩ (.bool (rneg R))).setCell ⟨V, i * 3 + 1, none⟩ (.string (rnum R))).setCell ⟨V, i * 3 + 2, none⟩ (.string (rden R))) := (heap_setCell_other _ ⟨V, i * 3 + 2, none⟩ g _ hVg).trans ((heap_setCell_other _ ⟨V, i * 3 + 1, none⟩ g _ hVg).trans ((heap_setCell_other _ ⟨V, i * 3, none⟩ g _ hVg).trans hS2))
       have HX3 : Hid (PBox q Ak nk ck (some ⟨b, off, none⟩) ns cs At nt ct (((w2.setCell ⟨V, i * 3, none⟩ (.bool (rneg R))).setCell ⟨V, i * 3 + 1, none⟩ (.string (rnum R))).setCell ⟨V, i * 3 + 2, none⟩ (.string (rden R)))) := (heap_setCell_other _ ⟨V, i * 3 + 2, none⟩ q _ (Ne.symm hVq)).trans ((heap_setCell_other _ ⟨V, i * 3 + 1, none⟩ q _ (Ne.symm hVq)).trans ((heap_setCell_other _ ⟨V, i * 3, none⟩ q _ (Ne.symm hVq)).trans HX2.out))
       have HF3 : Hid (FRow I (flags S nk) (((w2.setCell ⟨V, i * 3, none⟩ (.bool (rneg R))).setCell ⟨V, i * 3 + 1, none⟩ (.string (rnum R))).setCell ⟨V, i * 3 + 2, none⟩ (.string (rden R)))) := (heap_setCell_other _ ⟨V, i * 3 + 2, none⟩ I _ (Ne.symm hVI)).trans ((heap_setCell_other _ ⟨V, i * 3 + 1, none⟩ I _ (Ne.symm hVI)).trans ((heap_setCell_other _ ⟨V, i * 3, none⟩ I _ (Ne.symm hVI)).trans HF2.out))
       have HV3 : Hid (VRow V (votesW nk (inP own S) (P.stakes.take (j + 1))) (((w2.setCell ⟨V, i * 3, none⟩ (.bool (rneg R))).setCell ⟨V, i * 3 + 1, none⟩ (.string (rnum R))).setCell ⟨V, i * 3 + 2, none⟩ (.string (rden R)))) := by show VRow _ _ _; rw [HNX.out]; exact HV2.out.set HAT.out R
       have HB3 : Hid (Below w.heap.size w (((w2.setCell ⟨V, i * 3, none⟩ (.bool (rneg R))).setCell ⟨V, i * 3 + 1, none⟩ (.string (rnum R))).setCell ⟨V, i * 3 + 2, none⟩ (.string (rden R)))) := ((HB2.out.setCell hVw _).setCell hVw _).setCell hVw _
       refine wpAnyH_ready (rs := [12]) (by kernel_rfl) (by simp) ?_
       refine AllReadyH.cons rfl (fun K hK => ?_) AllReadyH.nil
       obtain ⟨v0, v1, v2, f0, f1, f2, hz⟩ := HV2.out.three HAT.out
       go_simp
       clear v0 v1 v2 f0 f1 f2 hz
       refine hK.out _ _ hS3 (fun _ => ?_)
       clear hK K hS2 HX2 HV2 HB2 HF2
       refine wpAnyH_done (by kernel_rfl) ?_ _
       clear hS3
       go_wp2_with fail
       go_roundw
       case measure => simp [intOf] <;> omega
       case rel => exact ⟨j + 1, by omega, by go_num, HV3, HF3, HX3, HB3⟩
    ·
     have HVS : Hid (VRow V (votesW nk (inP own S) P.stakes) wp) := by
      have := HVwp.out
      rwa [List.take_of_length_le (by rw [← HNS.out]; omega)] at this
     go_wp2_with fail
     clear HVwp hjl hj
     go_loopw [6, 54] (fun ch i wr => ∃ (k : Nat) (S' : Nat → Bool) (b : Bool), k ≤ nk ∧ i = .int .i64 (k : Int) ∧ ch = .bool b ∧ Hid (RoundS P own S S' b k) ∧ Hid (VRow V (votesW nk (inP own S) P.stakes) wr) ∧ Hid (FRow I (flags S' nk) wr) ∧ Hid (PBox q Ak nk ck As ns cs At nt ct wr) ∧ Hid (Below w.heap.size w wr)) (fun _ i _ => nk - (intOf i).toNat)
     case atStart => exact ⟨0, S, false, Nat.zero_le _, rfl, rfl, RoundS.start HSD.out, HVS, HFwp, HXwp, HBwp⟩
     case round =>
      clear HVS HXwp HBwp HFwp
      obtain ⟨j, S', b, hj, rfl, rfl, HRS, HVwq, HFwq, HXwq, HBwq⟩ := hrel
      rename World => wq
      by_cases hjl : j < nk
      ·
       have hjl2 : (j : Int) < (nk : Int) := by omega
       obtain ⟨qv, hqv⟩ : ∃ x, x = vs (fun s => (s.c == (j : Int)) && inP own S s) P.stakes := ⟨_, rfl⟩
       have hat := votesW_at hjl (inP own S) P.stakes
       rw [← hqv] at hat
       have hszq := vs_sz (f := fun s => (s.c == (j : Int)) && inP own S s) (l := P.stakes) (m := m) (fun s hs => HPB.out.sz s hs)
       rw [← hqv] at hszq
       have hm2 := HPB.out.m2
       have hlen : P.stakes.length ≤ 64 := by rw [← HNS.out]; omega
       have hmul : (m + 1) * P.stakes.length ≤ 1001 * 64 := Nat.mul_le_mul (by omega) hlen
       have HCM' := fun W => pCompare_calls (fqOf qv) (fqOf halfR) 64065 1 W (sz_fits (hszq.mono (by omega))) (sz_fits sz_half) (by decide) (by decide) (by decide)
       rw [fixR_of, fixR_of] at HCM'
       obtain ⟨cv, hcv⟩ : ∃ x, x = cmpR qv halfR := ⟨_, rfl⟩
       rw [← hcv] at HCM'
       unfold FQ.val at HCM'
       unfold fqOf at HCM'
       dsimp only at HCM'
       have HIN' := pHalf_calls
       unfold ratV at HIN'
       obtain ⟨v0, v1, v2, _⟩ := HVwq.out.three hat
       obtain ⟨sv, hsv⟩ : ∃ x, x = rneg qv := ⟨_, rfl⟩
       obtain ⟨nv, hnv⟩ : ∃ x, x = rnum qv := ⟨_, rfl⟩
       obtain ⟨dv, hdv⟩ : ∃ x, x = rden qv := ⟨_, rfl⟩
       rw [← hsv, ← hnv, ← hdv] at HCM'
       rw [← hsv] at v0
       rw [← hnv] at v1
       rw [← hdv] at v2
       obtain ⟨s1, hs1⟩ : ∃ x, x = rneg halfR := ⟨_, rfl⟩
       obtain ⟨n1, hn1⟩ : ∃ x, x = rnum halfR := ⟨_, rfl⟩
       obtain ⟨e1, he1⟩ : ∃ x, x = rden halfR := ⟨_, rfl⟩
       rw [← hs1, ← hn1, ← he1] at HCM' HIN'
       have HCM := Lib.hid HCM'
       have HIN := Lib.hid HIN'
       have HQV : Hid (0 < cv ↔ halfR < vt P own S j) := by show _ ↔ _; rw [hcv, cmpR_pos, hqv]; exact Iff.rfl
       clear HCM' HIN' hs1 hn1 he1 hsv hnv hdv hat hszq hm2 hlen hmul hqv hcv
       obtain ⟨g, hg⟩ : ∃ g, g = wq.heap.size := ⟨_, rfl⟩
       obtain ⟨wa, hwa⟩ : ∃ W, W = wq.alloc (.cells #[.bool sv, .string nv, .string dv] 70) := ⟨_, rfl⟩
       have HQwa : Hid (QF g sv nv dv I (flags S' nk) wa) := by rw [hwa, hg]; exact ⟨blk_new _ _, HFwq.out.next (bel_alloc _ _)⟩
       have HXwa : Hid (PBox q Ak nk ck As ns cs At nt ct wa) := by rw [hwa]; exact HXwq.out.next (bel_alloc _ _)
       have HVwa : Hid (VRow V (votesW nk (inP own S) P.stakes) wa) := by rw [hwa]; exact HVwq.out.next (bel_alloc _ _)
       have HBwa : Hid (Below w.heap.size w wa) := by rw [hwa]; exact HBwq.out.alloc HBwq.out.size _
       have HW := Lib.hid (And.intro hwa hg)
       clear hwa hg
       go_wp2_with fail
       rw [← HW.out.1, ← HW.out.2]
       clear HW v0 v1 v2 HXwq HBwq HVwq HFwq
       obtain ⟨W1, hW1⟩ : ∃ W, W = wa.drew := ⟨_, rfl⟩
       have hS : (QF g sv nv dv I (flags S' nk)) W1 := by rw [hW1]; exact HQwa.out
       have HX1 : Hid (PBox q Ak nk ck As ns cs At nt ct W1) := by rw [hW1]; exact HXwa.out
       have HV1 : Hid (VRow V (votesW nk (inP own S) P.stakes) W1) := by rw [hW1]; exact HVwa.out
       have HB1 : Hid (Below w.heap.size w W1) := by rw [hW1]; exact HBwa.out.drew
       by_cases hoo : (j : Int) = own
       ·
        have hne : ((j : Int) != own) = false := by rw [hoo]; simp
        have HNX : Hid (RoundS P own S S' b (j + 1)) := HRS.out.skip (.inl hoo)
        clear hoo HRS HQV
        refine wp_region_held_drew (S := (QF g sv nv dv I (flags S' nk))) (by kernel_rfl) (by rw [← hW1]; exact hS) ?_
        rw [← hW1]
        intro _
        clear hW1 HQwa HXwa HVwa HBwa
        refine wpAnyH_take (i := 0) rfl (by kernel_rfl) (by kernel_rfl) (by kernel_rfl) (fun _ _ _ h => h) (Or.inl ⟨by kernel_rfl, (by intro w' _; go_simp; with_reducible rfl)⟩) hS ?_
        go_simp
        refine wpAnyH_take (i := 1) rfl (by kernel_rfl) (by kernel_rfl) (by kernel_rfl) (fun _ _ _ h => h) (Or.inl ⟨by kernel_rfl, (by intro w' _; go_simp; with_reducible rfl)⟩) hS ?_
        go_simp
        refine wpAnyH_take (i := 2) rfl (by kernel_rfl) (by kernel_rfl) (by kernel_rfl) (fun _ _ _ h => h) (Or.inl ⟨by kernel_rfl, (by intro w' _; go_simp; with_reducible rfl)⟩) hS ?_
        go_simp
        refine wpAnyH_take (i := 3) rfl (by kernel_rfl) (by kernel_rfl) (by kernel_rfl) (fun _ _ _ h => h) (Or.inl ⟨by kernel_rfl, (by intro w' _; go_simp; with_reducible rfl)⟩) hS ?_
        go_simp
        refine wpAnyH_take (i := 4) (v := undef) rfl (by kernel_rfl) (by kernel_rfl) (by kernel_rfl) (fun _ _ _ h => h) (Or.inr ⟨by kernel_rfl, rfl⟩) hS ?_
        go_simp
        refine wpAnyH_take (i := 5) (v := undef) rfl (by kernel_rfl) (by kernel_rfl) (by kernel_rfl) (fun _ _ _ h => h) (Or.inr ⟨by kernel_rfl, rfl⟩) hS ?_
        go_simp
        refine wpAnyH_take (i := 6) (v := undef) rfl (by kernel_rfl) (by kernel_rfl) (by kernel_rfl) (fun _ _ _ h => h) (Or.inr ⟨by kernel_rfl, rfl⟩) hS ?_
        go_simp
        refine wpAnyH_take (i := 7) (v := undef) rfl (by kernel_rfl) (by kernel_rfl) (by kernel_rfl) (fun _ _ _ h => h) (Or.inr ⟨by kernel_rfl, rfl⟩) hS ?_
        go_simp
        refine wpAnyH_take (i := 8) (v := undef) rfl (by kernel_rfl) (by kernel_rfl) (by kernel_rfl) (fun _ _ _ h => h) (Or.inr ⟨by kernel_rfl, rfl⟩) hS ?_
        go_simp
        refine wpAnyH_take (i := 9) rfl (by kernel_rfl) (by kernel_rfl) (by kernel_rfl) (fun _ _ _ h => h) (Or.inl ⟨by kernel_rfl, (by intro w' _; go_simp; with_reducible rfl)⟩) hS ?_
        go_simp
        refine wpAnyH_take (i := 10) rfl (by kernel_rfl) (by kernel_rfl) (by kernel_rfl) (fun _ _ _ h => h) (Or.inl ⟨by kernel_rfl, (by intro w' _; go_simp; with_reducible rfl)⟩) hS ?_
        go_simp
        refine wpAnyH_take (i := 11) (v := undef) rfl (by kernel_rfl) (by kernel_rfl) (by kernel_rfl) (fun _ _ _ h => h) (Or.inr ⟨by kernel_rfl, rfl⟩) hS ?_
        go_simp
        refine wpAnyH_take (i := 12) (v := undef) rfl (by kernel_rfl) (by kernel_rfl) (by kernel_rfl) (fun _ _ _ h => h) (Or.inr ⟨by kernel_rfl, rfl⟩) hS ?_
        go_simp
        refine wpAnyH_take (i := 13) (v := undef) rfl (by kernel_rfl) (by kernel_rfl) (by kernel_rfl) (fun _ _ _ h => h) (Or.inr ⟨by kernel_rfl, rfl⟩) hS ?_
        go_simp
        refine wpAnyH_take (i := 14) (v := undef) rfl (by kernel_rfl) (by kernel_rfl) (by kernel_rfl) (fun _ _ _ h => h) (Or.inr ⟨by kernel_rfl, rfl⟩) hS ?_
        go_simp
        refine wpAnyH_take (i := 15) rfl (by kernel_rfl) (by kernel_rfl) (by kernel_rfl) (fun _ _ _ h => h) (Or.inl ⟨by kernel_rfl, (by intro w' _; go_simp; with_reducible rfl)⟩) hS ?_
        go_simp
        refine wpAnyH_done (by kernel_rfl) ?_ _
        have HF1 : Hid (FRow I (flags S' nk) W1) := hS.2
        clear hS
        go_wp2_with fail
        go_roundw
        case measure => simp [intOf] <;> omega
        case rel => exact ⟨j + 1, S', b, by omega, by go_num, rfl, HNX, HV1, HF1, HX1, HB1⟩
       ·
        have hne : ((j : Int) != own) = true := bne_iff_ne.2 hoo
        rcases hsj : S' j with _ | _
        ·
         refine wp_region_held_drew (S := (QF g sv nv dv I (flags S' nk))) (by kernel_rfl) (by rw [← hW1]; exact hS) ?_
         rw [← hW1]
         intro _
         clear hW1 HQwa HXwa HVwa HBwa
         refine wpAnyH_take (i := 0) rfl (by kernel_rfl) (by kernel_rfl) (by kernel_rfl) (fun _ _ _ h => h) (Or.inl ⟨by kernel_rfl, (by intro w' _; go_simp; with_reducible rfl)⟩) hS ?_
         go_simp
         refine wpAnyH_take (i := 1) rfl (by kernel_rfl) (by kernel_rfl) (by kernel_rfl) (fun _ _ _ h => h) (Or.inl ⟨by kernel_rfl, (by intro w' _; go_simp; with_reducible rfl)⟩) hS ?_
         go_simp
         refine wpAnyH_take (i := 2) rfl (by kernel_rfl) (by kernel_rfl) (by kernel_rfl) (fun _ _ _ h => h) (Or.inl ⟨by kernel_rfl, (by intro w' _; go_simp; with_reducible rfl)⟩) hS ?_
         go_simp
         refine wpAnyH_take (i := 3) rfl (by kernel_rfl) (by kernel_rfl) (by kernel_rfl) (fun _ _ _ h => h) (Or.inl ⟨by kernel_rfl, (by intro w' _; go_simp; with_reducible rfl)⟩) hS ?_
         go_simp
         refine wpAnyH_take (i := 4) rfl (by kernel_rfl) (by kernel_rfl) (by kernel_rfl) (fun _ _ _ h => h) (Or.inl ⟨by kernel_rfl, (by intro w' _; go_simp; with_reducible rfl)⟩) hS ?_
         go_simp
         refine wpAnyH_take (i := 5) rfl (by kernel_rfl) (by kernel_rfl) (by kernel_rfl) (fun _ _ _ h => h) (Or.inl ⟨by kernel_rfl, (by intro w' _; go_simp; with_reducible rfl)⟩) hS ?_
         go_simp
         refine wpAnyH_take (i := 6) (v := .pointer (some ⟨I, j, none⟩)) rfl (by kernel_rfl) (by kernel_rfl) (by kernel_rfl) (fun _ _ _ h => h) (Or.inl ⟨by kernel_rfl, (by intro w' _; go_simp)⟩) hS ?_
         go_simp
         refine wpAnyH_take (i := 7) (v := .bool false) rfl (by kernel_rfl) (by kernel_rfl) (by kernel_rfl) (fun _ _ _ h => h) (Or.inl ⟨by kernel_rfl, (by intro w' hw'; have c7 := hw'.2.cell (flags_at hjl); rw [hsj] at c7; go_simp)⟩) hS ?_
         go_simp
         have HSJ := Lib.hid hsj
         clear hsj
         refine wpAnyH_take (i := 8) rfl (by kernel_rfl) (by kernel_rfl) (by kernel_rfl) (fun _ _ _ h => h) (Or.inl ⟨by kernel_rfl, (by intro w' _; go_simp; with_reducible rfl)⟩) hS ?_
         go_simp
         refine wpAnyH_take (i := 9) rfl (by kernel_rfl) (by kernel_rfl) (by kernel_rfl) (fun _ _ _ h => h) (Or.inl ⟨by kernel_rfl, (by intro w' _; go_simp; with_reducible rfl)⟩) hS ?_
         go_simp
         refine wpAnyH_take (i := 10) rfl (by kernel_rfl) (by kernel_rfl) (by kernel_rfl) (fun _ _ _ h => h) (Or.inl ⟨by kernel_rfl, (by intro w' _; go_simp; with_reducible rfl)⟩) hS ?_
         go_simp
         refine wpAnyH_take (i := 11) (v := .agg #[.bool sv, .string nv, .string dv]) rfl (by kernel_rfl) (by kernel_rfl) (by kernel_rfl) (fun _ _ _ h => h) (Or.inl ⟨by kernel_rfl, (by intro w' hw'; obtain ⟨q0, q1, q2⟩ := hw'.1.cells; go_simp)⟩) hS ?_
         go_simp
         refine wpAnyH_ready (rs := [12]) (by kernel_rfl) (by simp) ?_
         refine AllReadyH.cons rfl (fun K hK => ?_) AllReadyH.nil
         go_simp
         refine (HIN.out _).mono ?_
         rintro e W2 ⟨rfl, hb⟩
         have hS2 := hS.next hb
         have HX2 := Lib.hid (HX1.out.next hb)
         have HV2 := Lib.hid (HV1.out.next hb)
         have HB2 : Hid (Below w.heap.size w W2) := HB1.out.trans (hb.mono HB1.out.size)
         clear hb hS HX1 HV1 HB1
         refine hK.out _ _ hS2 (fun _ => ?_)
         clear hK K
         refine wpAnyH_ready (rs := [13]) (by kernel_rfl) (by simp) ?_
         refine AllReadyH.cons rfl (fun K hK => ?_) AllReadyH.nil
         go_simp
         refine (HCM.out _).mono ?_
         rintro e W3 ⟨rfl, hb⟩
         have hS3 := hS2.next hb
         have HX3 := Lib.hid (HX2.out.next hb)
         have HV3 := Lib.hid (HV2.out.next hb)
         have HB3 : Hid (Below w.heap.size w W3) := HB2.out.trans (hb.mono HB2.out.size)
         clear hb hS2 HX2 HV2 HB2
         refine hK.out _ _ hS3 (fun _ => ?_)
         clear hK K
         by_cases hc0 : 0 < cv
         ·
          have t0 : decide (0 < cv) = true := decide_eq_true hc0
          have HNX : Hid (RoundS P own S (addS S' j) true (j + 1)) := HRS.out.put HGO.out.pos (by rw [← HNK.out]; exact hjl) hoo HSJ.out (HRS.out.more HGO.out.pos (HQV.out.1 hc0))
          clear hc0 HQV HRS
          refine wpAnyH_take (i := 14) (v := .bool true) rfl (by kernel_rfl) (by kernel_rfl) (by kernel_rfl) (fun _ _ _ h => h) (Or.inl ⟨by kernel_rfl, (by intro w' _; go_simp)⟩) hS3 ?_
          go_simp
          refine wpAnyH_take (i := 15) rfl (by kernel_rfl) (by kernel_rfl) (by kernel_rfl) (fun _ _ _ h => h) (Or.inl ⟨by kernel_rfl, (by intro w' _; go_simp; with_reducible rfl)⟩) hS3 ?_
          go_simp
          refine wpAnyH_done (by kernel_rfl) ?_ _
          have hf3 := hS3.2
          have HF4 : Hid (FRow I (flags (addS S' j) nk) (W3.setCell ⟨I, j, none⟩ (.bool true))) := by have := hf3.set j true; rwa [flags_set] at this
          have HX4 : Hid (PBox q Ak nk ck As ns cs At nt ct (W3.setCell ⟨I, j, none⟩ (.bool true))) := HX3.out.other (Ne.symm hIq) _
          have HV4 : Hid (VRow V (votesW nk (inP own S) P.stakes) (W3.setCell ⟨I, j, none⟩ (.bool true))) := HV3.out.other hVI _
          have HB4 : Hid (Below w.heap.size w (W3.setCell ⟨I, j, none⟩ (.bool true))) := HB3.out.setCell hIw _
          have c7 := hf3.cell (flags_at hjl)
          have f7 := hf3.frozen j
          have z7 := hf3.lt
          clear hS3 hf3 hoo
          go_wp2_with fail
          go_roundw
          case measure => simp [intOf] <;> omega
          case rel => exact ⟨j + 1, _, true, by omega, by go_num, rfl, HNX, HV4, HF4, HX4, HB4⟩
         ·
          have t0 : decide (0 < cv) = false := decide_eq_false hc0
          have HNX : Hid (RoundS P own S S' b (j + 1)) := HRS.out.skip (.inr (.inr (fun h => hc0 (HQV.out.2 h))))
          clear hc0 HQV HRS hoo
          refine wpAnyH_take (i := 14) (v := .bool false) rfl (by kernel_rfl) (by kernel_rfl) (by kernel_rfl) (fun _ _ _ h => h) (Or.inl ⟨by kernel_rfl, (by intro w' _; go_simp)⟩) hS3 ?_
          go_simp
          refine wpAnyH_take (i := 15) rfl (by kernel_rfl) (by kernel_rfl) (by kernel_rfl) (fun _ _ _ h => h) (Or.inl ⟨by kernel_rfl, (by intro w' _; go_simp; with_reducible rfl)⟩) hS3 ?_
          go_simp
          refine wpAnyH_done (by kernel_rfl) ?_ _
          have HF3 : Hid (FRow I (flags S' nk) W3) := hS3.2
          clear hS3
          go_wp2_with fail
          go_roundw
          case measure => simp [intOf] <;> omega
          case rel => exact ⟨j + 1, S', b, by omega, by go_num, rfl, HNX, HV3, HF3, HX3, HB3⟩
        ·
         clear hoo
         have hsj' := Lib.hid hsj
         have HNX : Hid (RoundS P own S S' b (j + 1)) := HRS.out.skip (.inr (.inl hsj))
         clear HRS HQV
         refine wp_region_held_drew (S := (QF g sv nv dv I (flags S' nk))) (by kernel_rfl) (by rw [← hW1]; exact hS) ?_
         rw [← hW1]
         intro _
         clear hW1 HQwa HXwa HVwa HBwa
         refine wpAnyH_take (i := 0) rfl (by kernel_rfl) (by kernel_rfl) (by kernel_rfl) (fun _ _ _ h => h) (Or.inl ⟨by kernel_rfl, (by intro w' _; go_simp; with_reducible rfl)⟩) hS ?_
         go_simp
         refine wpAnyH_take (i := 1) rfl (by kernel_rfl) (by kernel_rfl) (by kernel_rfl) (fun _ _ _ h => h) (Or.inl ⟨by kernel_rfl, (by intro w' _; go_simp; with_reducible rfl)⟩) hS ?_
         go_simp
         refine wpAnyH_take (i := 2) rfl (by kernel_rfl) (by kernel_rfl) (by kernel_rfl) (fun _ _ _ h => h) (Or.inl ⟨by kernel_rfl, (by intro w' _; go_simp; with_reducible rfl)⟩) hS ?_
         go_simp
         refine wpAnyH_take (i := 3) rfl (by kernel_rfl) (by kernel_rfl) (by kernel_rfl) (fun _ _ _ h => h) (Or.inl ⟨by kernel_rfl, (by intro w' _; go_simp; with_reducible rfl)⟩) hS ?_
         go_simp
         refine wpAnyH_take (i := 4) rfl (by kernel_rfl) (by kernel_rfl) (by kernel_rfl) (fun _ _ _ h => h) (Or.inl ⟨by kernel_rfl, (by intro w' _; go_simp; with_reducible rfl)⟩) hS ?_
         go_simp
         refine wpAnyH_take (i := 5) rfl (by kernel_rfl) (by kernel_rfl) (by kernel_rfl) (fun _ _ _ h => h) (Or.inl ⟨by kernel_rfl, (by intro w' _; go_simp; with_reducible rfl)⟩) hS ?_
         go_simp
         refine wpAnyH_take (i := 6) (v := .pointer (some ⟨I, j, none⟩)) rfl (by kernel_rfl) (by kernel_rfl) (by kernel_rfl) (fun _ _ _ h => h) (Or.inl ⟨by kernel_rfl, (by intro w' _; go_simp)⟩) hS ?_
         go_simp
         refine wpAnyH_take (i := 7) (v := .bool true) rfl (by kernel_rfl) (by kernel_rfl) (by kernel_rfl) (fun _ _ _ h => h) (Or.inl ⟨by kernel_rfl, (by intro w' hw'; have c7 := hw'.2.cell (flags_at hjl); rw [hsj] at c7; go_simp)⟩) hS ?_
         go_simp
         refine wpAnyH_take (i := 8) rfl (by kernel_rfl) (by kernel_rfl) (by kernel_rfl) (fun _ _ _ h => h) (Or.inl ⟨by kernel_rfl, (by intro w' _; go_simp; with_reducible rfl)⟩) hS ?_
         go_simp
         refine wpAnyH_take (i := 9) rfl (by kernel_rfl) (by kernel_rfl) (by kernel_rfl) (fun _ _ _ h => h) (Or.inl ⟨by kernel_rfl, (by intro w' _; go_simp; with_reducible rfl)⟩) hS ?_
         go_simp
         refine wpAnyH_take (i := 10) rfl (by kernel_rfl) (by kernel_rfl) (by kernel_rfl) (fun _ _ _ h => h) (Or.inl ⟨by kernel_rfl, (by intro w' _; go_simp; with_reducible rfl)⟩) hS ?_
         go_simp
         refine wpAnyH_take (i := 11) (v := undef) rfl (by kernel_rfl) (by kernel_rfl) (by kernel_rfl) (fun _ _ _ h => h) (Or.inr ⟨by kernel_rfl, rfl⟩) hS ?_
         go_simp
         refine wpAnyH_take (i := 12) (v := undef) rfl (by kernel_rfl) (by kernel_rfl) (by kernel_rfl) (fun _ _ _ h => h) (Or.inr ⟨by kernel_rfl, rfl⟩) hS ?_
         go_simp
         refine wpAnyH_take (i := 13) (v := undef) rfl (by kernel_rfl) (by kernel_rfl) (by kernel_rfl) (fun _ _ _ h => h) (Or.inr ⟨by kernel_rfl, rfl⟩) hS ?_
         go_simp
         refine wpAnyH_take (i := 14) (v := undef) rfl (by kernel_rfl) (by kernel_rfl) (by kernel_rfl) (fun _ _ _ h => h) (Or.inr ⟨by kernel_rfl, rfl⟩) hS ?_
         go_simp
         refine wpAnyH_take (i := 15) rfl (by kernel_rfl) (by kernel_rfl) (by kernel_rfl) (fun _ _ _ h => h) (Or.inl ⟨by kernel_rfl, (by intro w' _; go_simp; with_reducible rfl)⟩) hS ?_
         go_simp
         clear hsj
         refine wpAnyH_done (by kernel_rfl) ?_ _
         have HF1 : Hid (FRow I (flags S' nk) W1) := hS.2
         clear hS
         go_wp2_with fail
         go_roundw
         case measure => simp [intOf] <;> omega
         case rel => exact ⟨j + 1, S', b, by omega, by go_num, rfl, HNX, HV1, HF1, HX1, HB1⟩
      ·
       obtain rfl : j = nk := by omega
       go_wp2_with fail
       go_roundw
       case measure =>
        rw [cntW_eq HFwq.out, HCW.out]
        have h1 := HRS.out.ch
        have h2 := cnt_le S' j
        rw [← HNK.out] at h1
        show 2 * (j - cnt S' j) + bOf (.bool b) < 2 * (j - cnt S j) + 1
        rcases h1 with ⟨rfl, rfl⟩ | ⟨rfl, h1⟩
        ·
         show _ + 0 < _; omega
        ·
         show _ + 1 < _; omega
       case rel => exact ⟨S', b, rfl, HRS.out.sound, (fun e => by have := HRS.out; rw [e, HNK.out] at this; exact this.closed), HFwq, HXwq, HBwq⟩

end Go.Proofs.YtomfcmlomfcghaaGreatDoor

/- party.Controlled, Controls. -/
set_option linter.unusedVariables false
set_option linter.unusedSimpArgs false
namespace Go.Proofs.YtomfcmlomfcghaaGreatDoor
open Go.RowKit

def twoErr (P : Prt) (a b : Int) : Int := if chk P ≠ 0 then chk P else if inN P.kinds.length a = false then 14 else if inN P.kinds.length b = false then 14 else 0
noncomputable def ctlB (P : Prt) (a b : Int) : Bool := if twoErr P a b = 0 then ctl P a b.toNat else false
theorem twoErr_of {P : Prt} {a b : Int} (h1 : chk P = 0) (h2 : inN P.kinds.length a = true) (h3 : inN P.kinds.length b = true) : twoErr P a b = 0 := by unfold twoErr; rw [if_neg (by rw [h1]; decide), if_neg (by rw [h2]; decide), if_neg (by rw [h3]; decide)]
set_option maxHeartbeats 4000000 in
set_option maxRecDepth 100000 in
theorem pControls_calls (Ak : Option Addr) (nk ck : Nat) (As : Option Addr) (ns cs : Nat) (At : Option Addr) (nt ct : Nat) (P : Prt) (m : Nat) (a b : Int) (w : World) (hp : PRd Ak nk As ns At nt P w) (hb : PB m P) :
    Calls Tryz.prog 14 #[ptyVal Ak nk ck As ns cs At nt ct, .int .i64 a, .int .i64 b] w fun e w' => e = .returned (.tuple #[.bool (ctlB P a b), .int .i64 (twoErr P a b)]) ∧ Below w.heap.size w w' := by
  have HP := Lib.hid hp
  have HPB := Lib.hid hb
  have HNK := Lib.hid hp.nk
  have gk : nk ≤ maxLen := by rw [hp.nk]; exact hb.kl
  have GK := Lib.hid gk
  unfold maxLen at gk
  clear hp hb
  obtain ⟨E, hE⟩ : ∃ E, E = chk P := ⟨_, rfl⟩
  have HCK' := fun (W : World) (hW : Below w.heap.size w W) => check_calls Ak nk ck As ns cs At nt ct P m W (HP.out.next hW) HPB.out
  rw [← hE] at HCK'
  have HE := Lib.hid hE
  have HCK := Lib.hid HCK'
  clear hE HCK'
  obtain ⟨w0, hw0⟩ : ∃ W, W = w.alloc (.cells #[.slice Ak nk ck, .slice As ns cs, .slice At nt ct] 26) := ⟨_, rfl⟩
  obtain ⟨q, hq⟩ : ∃ q, q = w.heap.size := ⟨_, rfl⟩
  have HB0 : Hid (Below w.heap.size w w0) := by rw [hw0]; exact bel_alloc _ _
  have HX0 : Hid (PBox q Ak nk ck As ns cs At nt ct w0) := by rw [hw0, hq]; exact blk_new _ _
  by_cases h0 : E = 0
  · subst h0
    rcases f1 : inN nk a with _ | _
    · have F1 := Lib.hid f1
      clear f1
      go_enter Tryz.func14, Tryz.ntmps14
      go_upto_region 1 with fail
      rw [← hw0, ← hq]
      have HQ := Lib.hid hq
      clear hw0 hq
      obtain ⟨k0, k1, k2⟩ := HX0.out.cells
      go_wp2_with fail
      clear k0 k1 k2
      refine (HCK.out _ HB0.out).mono ?_
      rintro e w1 ⟨rfl, hb⟩
      have HXw1 := Lib.hid (HX0.out.next hb)
      have HBw1 : Hid (Below w.heap.size w w1) := HB0.out.trans (hb.mono HB0.out.size)
      clear hb HX0 HB0
      obtain ⟨k0, k1, k2⟩ := HXw1.out.cells
      go_wp2_with fail
      clear k0 k1 k2
      refine (is_calls Ak nk ck As ns cs At nt ct a _ GK.out).mono ?_
      rintro e w2 ⟨rfl, hb⟩
      have HXw2 := Lib.hid (HXw1.out.next hb)
      have HBw2 : Hid (Below w.heap.size w w2) := HBw1.out.trans (hb.mono HBw1.out.size)
      clear hb HXw1 HBw1
      rw [F1.out]
      go_wp2_with fail
      go_ret2
      have e1 : twoErr P a b = 14 := by unfold twoErr; rw [← HE.out, ← HNK.out, F1.out]; rfl
      have e2 : ctlB P a b = false := by unfold ctlB; rw [e1, if_neg (by decide)]
      rw [e1, e2]
      exact ⟨rfl, HBw2.out⟩
    · have F1 := Lib.hid f1
      clear f1
      rcases f2 : inN nk b with _ | _
      · have F2 := Lib.hid f2
        clear f2
        go_enter Tryz.func14, Tryz.ntmps14
        go_upto_region 1 with fail
        rw [← hw0, ← hq]
        have HQ := Lib.hid hq
        clear hw0 hq
        obtain ⟨k0, k1, k2⟩ := HX0.out.cells
        go_wp2_with fail
        clear k0 k1 k2
        refine (HCK.out _ HB0.out).mono ?_
        rintro e w1 ⟨rfl, hb⟩
        have HXw1 := Lib.hid (HX0.out.next hb)
        have HBw1 : Hid (Below w.heap.size w w1) := HB0.out.trans (hb.mono HB0.out.size)
        clear hb HX0 HB0
        obtain ⟨k0, k1, k2⟩ := HXw1.out.cells
        go_wp2_with fail
        clear k0 k1 k2
        refine (is_calls Ak nk ck As ns cs At nt ct a _ GK.out).mono ?_
        rintro e w2 ⟨rfl, hb⟩
        have HXw2 := Lib.hid (HXw1.out.next hb)
        have HBw2 : Hid (Below w.heap.size w w2) := HBw1.out.trans (hb.mono HBw1.out.size)
        clear hb HXw1 HBw1
        rw [F1.out]
        obtain ⟨k0, k1, k2⟩ := HXw2.out.cells
        go_wp2_with fail
        clear k0 k1 k2
        refine (is_calls Ak nk ck As ns cs At nt ct b _ GK.out).mono ?_
        rintro e w3 ⟨rfl, hb⟩
        have HXw3 := Lib.hid (HXw2.out.next hb)
        have HBw3 : Hid (Below w.heap.size w w3) := HBw2.out.trans (hb.mono HBw2.out.size)
        clear hb HXw2 HBw2
        rw [F2.out]
        go_wp2_with fail
        go_ret2
        have e1 : twoErr P a b = 14 := by unfold twoErr; rw [← HE.out, ← HNK.out, F1.out, F2.out]; rfl
        have e2 : ctlB P a b = false := by unfold ctlB; rw [e1, if_neg (by decide)]
        rw [e1, e2]
        exact ⟨rfl, HBw3.out⟩
      · have hbb := inN_true f2
        obtain ⟨bn, hbn⟩ : ∃ i : Nat, b = (i : Int) := ⟨b.toNat, by omega⟩
        subst hbn
        have hbl : bn < nk := by omega
        have hbl2 : (bn : Int) < (nk : Int) := by omega
        clear hbb
        have HGO := Lib.hid (Good.of_chk HE.out.symm)
        have F2 := Lib.hid f2
        clear f2
        go_enter Tryz.func14, Tryz.ntmps14
        go_upto_region 1 with fail
        rw [← hw0, ← hq]
        have HQ := Lib.hid hq
        clear hw0 hq
        obtain ⟨k0, k1, k2⟩ := HX0.out.cells
        go_wp2_with fail
        clear k0 k1 k2
        refine (HCK.out _ HB0.out).mono ?_
        rintro e w1 ⟨rfl, hb⟩
        have HXw1 := Lib.hid (HX0.out.next hb)
        have HBw1 : Hid (Below w.heap.size w w1) := HB0.out.trans (hb.mono HB0.out.size)
        clear hb HX0 HB0
        obtain ⟨k0, k1, k2⟩ := HXw1.out.cells
        go_wp2_with fail
        clear k0 k1 k2
        refine (is_calls Ak nk ck As ns cs At nt ct a _ GK.out).mono ?_
        rintro e w2 ⟨rfl, hb⟩
        have HXw2 := Lib.hid (HXw1.out.next hb)
        have HBw2 : Hid (Below w.heap.size w w2) := HBw1.out.trans (hb.mono HBw1.out.size)
        clear hb HXw1 HBw1
        rw [F1.out]
        obtain ⟨k0, k1, k2⟩ := HXw2.out.cells
        go_wp2_with fail
        clear k0 k1 k2
        refine (is_calls Ak nk ck As ns cs At nt ct (bn : Int) _ GK.out).mono ?_
        rintro e w3 ⟨rfl, hb⟩
        have HXw3 := Lib.hid (HXw2.out.next hb)
        have HBw3 : Hid (Below w.heap.size w w3) := HBw2.out.trans (hb.mono HBw2.out.size)
        clear hb HXw2 HBw2
        rw [F2.out]
        obtain ⟨k0, k1, k2⟩ := HXw3.out.cells
        go_wp2_with fail
        clear k0 k1 k2
        refine (pctl_calls Ak nk ck As ns cs At nt ct P m a _ (HP.out.next HBw3.out) HPB.out HGO.out).mono ?_
        rintro e w4 ⟨g, rfl, _, hf, hb⟩
        have HBw4 : Hid (Below w.heap.size w w4) := HBw3.out.trans (hb.mono HBw3.out.size)
        have c7 := hf.cell (flags_at hbl)
        clear hf hb HBw3
        have e1 : twoErr P a (bn : Int) = 0 := twoErr_of HE.out.symm (by rw [← HNK.out]; exact F1.out) (by rw [← HNK.out]; exact F2.out)
        have e2 : ctlB P a (bn : Int) = ctl P a bn := by unfold ctlB; rw [if_pos e1, Int.toNat_natCast]
        obtain ⟨r, hr⟩ : ∃ r, r = ctl P a bn := ⟨_, rfl⟩
        rw [← hr] at c7 e2
        have E12 := Lib.hid (And.intro e1 e2)
        clear e1 e2 hr
        go_wp2_with fail
        go_ret2
        rw [E12.out.1, E12.out.2]
        exact ⟨rfl, HBw4.out⟩
  · have hE0 : (E != 0) = true := bne_iff_ne.2 h0
    have H0 := Lib.hid h0
    clear h0
    go_enter Tryz.func14, Tryz.ntmps14
    go_upto_region 1 with fail
    rw [← hw0, ← hq]
    have HQ := Lib.hid hq
    clear hw0 hq
    obtain ⟨k0, k1, k2⟩ := HX0.out.cells
    go_wp2_with fail
    clear k0 k1 k2
    refine (HCK.out _ HB0.out).mono ?_
    rintro e w1 ⟨rfl, hb⟩
    have HXw1 := Lib.hid (HX0.out.next hb)
    have HBw1 : Hid (Below w.heap.size w w1) := HB0.out.trans (hb.mono HB0.out.size)
    clear hb HX0 HB0
    go_wp2_with fail
    go_ret2
    have e1 : twoErr P a b = E := by unfold twoErr; rw [← HE.out, if_pos H0.out]
    have e2 : ctlB P a b = false := by unfold ctlB; rw [e1, if_neg H0.out]
    rw [e1, e2]
    exact ⟨rfl, HBw1.out⟩

end Go.Proofs.YtomfcmlomfcghaaGreatDoor

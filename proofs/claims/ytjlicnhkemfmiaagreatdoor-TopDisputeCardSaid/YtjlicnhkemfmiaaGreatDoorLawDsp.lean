/- TopDispute: the law returns true for every input. -/
import Derived.Test.YtjlicnhkemfmiaaGreatDoorM22
import Derived.Test.YtjlicnhkemfmiaaGreatDoorSq
import Derived.Test.YtjlicnhkemfmiaaGreatDoorDspQ
set_option linter.unusedVariables false
set_option linter.unusedSimpArgs false
set_option maxHeartbeats 8000000
set_option maxRecDepth 100000
namespace Go.Proofs.YtjlicnhkemfmiaaGreatDoor
open Go.RowKit
theorem szn_amtD (x : Nat) : SzN (amtD x) := by
 unfold amtD
 split
 ·
  exact szn_quo (by omega) (by omega) (by omega) (by omega)
 ·
  split
  ·
   exact szn_int (by omega) (by omega)
  ·
   exact szn_int (by omega) (by omega)
theorem v3_ok {P : Rat → Prop} {a b c : Rat} (h0 : P a) (h1 : P b) (h2 : P c) (k : Nat) : P (v3 a b c k) := by
 unfold v3
 split
 ·
  exact h0
 ·
  exact h1
 ·
  exact h2
theorem rd_take {W : World} {A : Option Addr} {n m : Nat} {l : List Rat} (h : Rd W W.heap.size 3 A n (l.flatMap rtV)) (hm : m ≤ n) : Rd W W.heap.size 3 A m ((l.take m).flatMap rtV) := by
 have hl : l.length = n := by have h1 := h.1; rw [flat_len rtV 3 rtV_len] at h1; omega
 have he : l = l.take m ++ l.drop m := (List.take_append_drop m l).symm
 refine ⟨by rw [flat_len rtV 3 rtV_len, List.length_take, hl, Nat.min_eq_left hm], fun h0 => ?_⟩
 obtain ⟨b, off, e, hb, hc⟩ := h.2 (by omega)
 refine ⟨b, off, e, hb, fun j u hu => hc j u ?_⟩
 have hj := (List.getElem?_eq_some_iff.1 hu).1
 rw [he, List.flatMap_append, List.getElem?_append_left hj]
 exact hu
theorem topDisputeLaw (A0 : Option Addr) (n0 c0 : Nat) (l0 : List W6) (a1 a2 a3 a4 : Nat) (w : World) (hn0 : n0 = l0.length) (r0 : Rd w w.heap.size 6 A0 l0.length (l0.flatMap u16V6)) (o0 : ∀ a ∈ l0, u16ok6 a) (g0 : n0 ≤ maxLen) (b1 : a1 ≤ 255) (b2 : a2 ≤ 255) (b3 : a3 ≤ 255) (b4 : a4 ≤ 65535) :
 Calls Tryz.prog 4 #[.slice A0 n0 c0, .int .u8 (a1 : Int), .int .u8 (a2 : Int), .int .u8 (a3 : Int), .int .u16 (a4 : Int)] w fun e w' => e = .returned (.bool true) ∧ Below w.heap.size w w' := by
 have HDO := Lib.hid (documents_calls A0 n0 c0 l0 w hn0 r0 o0 g0)
 unfold DocsPost at HDO
 have HAW := Lib.hid (fun W => awakeC_calls W)
 have HAM := Lib.hid (fun W => amountD_calls a4 W b4)
 unfold AmtD at HAM
 have HMZ : Hid (SzN (amtD a4)) := szn_amtD a4
 clear hn0 r0 o0 g0
 go_enter Tryz.func4, Tryz.ntmps4
 go_wp2_with fail
 have HB0 : Hid (Below w.heap.size w w) := Below.refl _ _
 refine (HDO.out).mono ?_
 rintro e w1 ⟨A, c, ds, rfl, hrd, hlen, hD, hcap, hb⟩
 have HB1 := ben HB0 hb
 have HD1 : Hid (Rd w1 w1.heap.size 14 A ds.length (ds.flatMap Dc.cells)) := hrd
 have HDD := Lib.hid hD
 have HCAP := Lib.hid hcap
 have hlen8 : ds.length ≤ 8 := hlen.1
 clear hrd hlen hD hcap HDO
 clear hb HB0
 have HBW : Hid (Below w.heap.size w w1) := HB1
 obtain ⟨n, hn⟩ : ∃ n, n = ds.length := ⟨_, rfl⟩
 have HN := Lib.hid hn
 rw [← hn]
 have hn8 : n ≤ 8 := by omega
 clear hn hlen8
 by_cases hz : n = 0
 ·
  subst hz
  go_wp2_with fail
  refine (HAW.out _).mono ?_
  rintro e w2 ⟨rfl, hb⟩
  have HB2 := ben HB1 hb
  clear hb HB1
  go_wp2_with fail
  go_ret
  exact ⟨rfl, HB2.out⟩
 ·
  have dz : ((n : Int) == 0) = false := beq_eq_false_iff_ne.2 (by omega)
  obtain ⟨i, e1, hi⟩ : ∃ i : Nat, ((a1 : Int)).tmod (n : Int) = (i : Int) ∧ i < n := ⟨a1 % n, by rw [Int.tmod_eq_emod_of_nonneg (by omega)]; exact (Int.natCast_emod a1 n).symm, Nat.mod_lt _ (by omega)⟩
  have u1 : IntKind.i64.wrap (a1 : Int) = (a1 : Int) := IntWalk.i64_in _ (by omega)
  have u2_ : IntKind.i64.wrap (i : Int) = (i : Int) := IntWalk.i64_in _ (by omega)
  go_upto_region 5 with fail
  clear dz e1 u1 u2_ b1
  obtain ⟨m, hm⟩ : ∃ m, m = n - 1 := ⟨_, rfl⟩
  have HMN : Hid (m + 1 = n) := by show _ = _; omega
  have hm7 : m ≤ 7 := by omega
  clear hm hz
  obtain ⟨d, hd⟩ := getElem?_of_lt (l := ds) (k := i) (by rw [← HN.out]; exact hi)
  have HDK : Hid (DcD i d) := HDD.out i d hd
  obtain ⟨b, off, hA, hbl, hc⟩ := Rd.at_ (enc := Dc.cells) Dc.len HD1.out hd
  subst hA
  have HDR1 : Hid (DRg b (off + i * 14) d w1) := ⟨fun j v hv => by rw [Nat.add_assoc]; exact hc j v hv, hbl⟩
  have HDL : Hid (b < w1.heap.size) := hbl
  clear hc hbl
  have HRO : Hid (DcsOk (ds.take i ++ ds.drop (i + 1))) := (DcsOk.of HDD.out (by rw [← HN.out]; exact hn8)).erase i
  have HFR : Hid (∀ z ∈ ds.take i ++ ds.drop (i + 1), z.id ≠ d.id) := eraseIdx_mem HDD.out (by rw [← HN.out]; exact hn8) hd
  have HLT : Hid ((ds.take i).length = i) := by show _ = _; rw [List.length_take]; have := HN.out; omega
  have HLD : Hid ((ds.drop (i + 1)).length = n - (i + 1)) := by show _ = _; rw [List.length_drop]; have := HN.out; omega
  have HRM : Hid ((ds.take i ++ ds.drop (i + 1)).length = m) := by show _ = _; rw [List.length_append, HLT.out, HLD.out]; have := HMN.out; omega
  obtain ⟨rest, hrest⟩ : ∃ r, r = ds.take i ++ ds.drop (i + 1) := ⟨_, rfl⟩
  have HRE := Lib.hid hrest
  rw [← hrest] at HRO HFR HRM
  clear hrest hd HDD
  obtain ⟨iq, hi1, hz0, hz1, hz2⟩ := info_parts Tryz.info_proof
  have HIQ := Lib.hid (And.intro hi1 (And.intro hz0 (And.intro hz1 hz2)))
  clear hi1 hz0 hz1 hz2
  have had' := fun A2 c2 W (h : Rd W W.heap.size 14 A2 m (rest.flatMap Dc.cells)) => admitted_calls A2 m c2 rest W HRM.out.symm (by rw [HRM.out]; exact h) HRO.out
  unfold AdmPost at had'
  have HADM := Lib.hid had'
  clear had'
  have HBa : Hid (Below w1.heap.size w1 w1) := Below.refl _ _
  have HTa : Hid (TrueW w1) := trivial
  go_cut [13, 14] from 29 (fun s13 s14 wx => DspM w1 rest m s13 s14 wx)
  case first =>
   as_aux_lemma =>
    obtain ⟨a11, hw_a11⟩ : ∃ W, W = w1.drew := ⟨_, rfl⟩
    have HB11 := bed HBa hw_a11
    have HT11 : Hid (TrueW a11) := by rw [hw_a11]; exact HTa.out.drew
    have hS1 : (TrueW) a11 := HT11.out
    refine wp_region_held_drew (S := (TrueW)) (by kernel_rfl) (by rw [← hw_a11]; exact hS1) ?_
    rw [← hw_a11]
    intro _
    clear hw_a11 HBa HTa
    refine tk 0 hS1 ?_
    go_simp
    refine tk 1 hS1 ?_
    go_simp
    have hkc : (i : Int) ≤ (c : Int) := by have := HCAP.out; have := HN.out; omega
    have hkc0 : (0 : Int) ≤ (i : Int) := by omega
    have hk1 : (i : Int) + 1 ≤ (n : Int) := by omega
    have hk2 : (n : Int) ≤ (c : Int) := by have := HCAP.out; have := HN.out; omega
    have HWR : Hid (IntKind.i64.wrap ((i : Int) + 1) = (i : Int) + 1) := IntWalk.i64_in _ (by omega)
    refine tv 2 (.slice (some ⟨b, off, none⟩) i c) rfl (by intro w' _; go_simp) hS1 ?_
    go_simp
    refine tk 4 hS1 ?_
    go_simp
    refine tk 5 hS1 ?_
    go_simp
    refine tv 6 (.int .i64 ((i + 1 : Nat) : Int)) rfl (by intro w' hw'; have wr_ := HWR.out; go_simp) hS1 ?_
    go_simp
    obtain ⟨ad, had, hnw⟩ := tail_addrD (k := i + 1) (cs := c) (by rw [← HN.out]; omega) HCAP.out HD1.out
    have hk3 : ((i + 1 : Nat) : Int) ≤ (n : Int) := by omega
    have hk4 : (0 : Int) ≤ (i : Int) + 1 := by omega
    have HNW := Lib.hid hnw
    clear hnw
    refine tv 7 (.slice (some ad) (n - (i + 1)) (c - (i + 1))) rfl (by intro w' _; go_simp) hS1 ?_
    go_simp
    clear had hkc hkc0 hk1 hk2 hk3 hk4 HWR
    refine wpAnyH_ready (rs := [3, 13]) (by kernel_rfl) (by simp) ?_
    refine AllReadyH.cons rfl (fun K hK => ?_) (AllReadyH.cons rfl (fun K hK => ?_) AllReadyH.nil)
    ·
     rw [if_pos (by rfl)]
     refine wp_append_own _ (.const (.slice none 0 0)) (.tmp 43) 53 rfl w1.heap.size 63 iq _ 14 160 Tryz.underlying53 HIQ.out.1 HIQ.out.2.1 HIQ.out.2.2.1 HIQ.out.2.2.2 rfl (by decide) (.slice none 0 0) 0 [] (by simp [Act.eval, Act.put]) (World.ownsRow_nil _ _ _ _) ⟨b, off, none⟩ i c ((ds.take i).flatMap Dc.cells) (by simp [Act.eval, Act.put]) (by rw [flat_len Dc.cells 14 Dc.len, HLT.out]) (dc_take (HD1.out.next HB11.out) i) (Dc.one _) (by simp only [maxLen]; omega) (by omega) HB11.out.size ?_
     intro va a12 hown hgr _
     have HB12 : Hid (Below w1.heap.size w1 a12) := HB11.out.grown hgr HB11.out.size (fun q hq => by cases hq)
     have HT12 : Hid (TrueW a12) := trivial
     have HO12 : Hid (a12.ownsRow w1.heap.size 63 14 va (0 + i) ([] ++ (ds.take i).flatMap Dc.cells)) := hown
     clear hgr hown HB11 HT11
     have hS2 : (TrueW) a12 := HT12.out
     refine hK.out _ _ hS2 (fun _ => ?_)
     clear hK K
     refine wpAnyH_ready (rs := [8, 13]) (by kernel_rfl) (by simp) ?_
     refine AllReadyH.cons rfl (fun K hK => ?_) (AllReadyH.cons rfl (fun K hK => ?_) AllReadyH.nil)
     ·
      rw [if_pos (by rfl)]
      refine wp_append_own _ (.tmp 44) (.tmp 48) 53 rfl w1.heap.size 63 iq _ 14 160 Tryz.underlying53 HIQ.out.1 HIQ.out.2.1 HIQ.out.2.2.1 HIQ.out.2.2.2 rfl (by decide) va (0 + i) ([] ++ (ds.take i).flatMap Dc.cells) (by simp [Act.eval, Act.put]) HO12.out ad (n - (i + 1)) (c - (i + 1)) ((ds.drop (i + 1)).flatMap Dc.cells) (by simp [Act.eval, Act.put]) (by rw [flat_len Dc.cells 14 Dc.len, HLD.out]) (HNW.out _ (fun p hp => HB12.out.cell hp)) (Dc.one _) (by simp only [maxLen]; omega) (by omega) HB12.out.size ?_
      intro vb a13 hown hgr _
      have HB13 : Hid (Below w1.heap.size w1 a13) := HB12.out.grown hgr HB12.out.size (fun q hq => (HO12.out.lt q hq).1)
      have HT13 : Hid (TrueW a13) := trivial
      obtain ⟨A2, c2, hv2, hrd2, _⟩ := own_shape hown
      subst hv2
      have HNB : Hid (0 + i + (n - (i + 1)) = m) := by show _ = _; have := HMN.out; omega
      rw [HNB.out] at hrd2 ⊢
      rw [List.nil_append, ← List.flatMap_append, ← HRE.out] at hrd2
      have HA13 : Hid (Rd a13 a13.heap.size 14 A2 m (rest.flatMap Dc.cells)) := hrd2
      clear hrd2 HNB
      clear hgr hown HB12 HT12 HO12
      have hS3 : (TrueW) a13 := HT13.out
      refine hK.out _ _ hS3 (fun _ => ?_)
      clear hK K
      refine wpAnyH_ready (rs := [9, 13]) (by kernel_rfl) (by simp) ?_
      refine AllReadyH.cons rfl (fun K hK => ?_) (AllReadyH.cons rfl (fun K hK => ?_) AllReadyH.nil)
      ·
       go_simp
       refine (HADM.out A2 c2 _ HA13.out).mono ?_
       rintro e a14 ⟨day, A3, c3, rfl, hday, hen, hb⟩
       have HB14 := ben HB13 hb
       have HT14 : Hid (TrueW a14) := HT13.out.next hb
       have HDY := Lib.hid hday
       have HEa : Hid (EnR w1.heap.size A3 m c3 (rest.map adm) a14) := own_mono hen HB13.out.size
       clear hday hen
       clear hb HB13 HT13
       have hS4 : (TrueW) a14 := HT14.out
       refine hK.out _ _ hS4 (fun _ => ?_)
       clear hK K
       refine tk 10 hS4 ?_
       go_simp
       refine tk 11 hS4 ?_
       go_simp
       refine tk 12 hS4 ?_
       go_simp
       refine tr 13 (fun K hK => ?_)
       go_simp
       obtain ⟨gr, hg_gr⟩ : ∃ g, g = a14.heap.size := ⟨_, rfl⟩
       obtain ⟨a15, hw_a15⟩ : ∃ W, W = a14.alloc (.cells #[.int .i64 0, .int .i64 0, .int .i64 0, .slice none 0 0] 57) := ⟨_, rfl⟩
       have HL_gr := Lib.hid ((by have := HB14.out.size; omega : w1.heap.size ≤ gr))
       have HB15 := bea HB14 hw_a15
       have HT15 : Hid (TrueW a15) := by rw [hw_a15]; exact HT14.out.next (bel_alloc _ _)
       have HE15 : Hid (EnR w1.heap.size A3 m c3 (rest.map adm) a15) := by rw [hw_a15]; exact HEa.out.next (bel_alloc _ _)
       have HR15 : Hid (Bk gr (.cells #[.int .i64 0, .int .i64 0, .int .i64 0, .slice none 0 0] 57) a15) := by rw [hw_a15, hg_gr]; exact blk_new _ _
       rw [← hw_a15]
       (try rw [← hg_gr])
       clear hw_a15 hg_gr HB14 HT14 HEa
       have hS5 : (TrueW) a15 := HT15.out
       refine hK.out _ _ hS5 (fun _ => ?_)
       clear hK K
       have HBLK := HR15
       refine tr 14 (fun K hK => ?_)
       obtain ⟨r0, r1, r2, r3, rf0, rf1, rf2, rf3, rz⟩ := four_of HR15.out
       go_simp
       clear r0 r1 r2 r3 rf0 rf1 rf2 rf3 rz
       obtain ⟨a16, hw_a16⟩ : ∃ W, W = ((((a15.setCell ⟨gr, 0, none⟩ (.int .i64 100)).setCell ⟨gr, 1, none⟩ (.int .i64 200)).setCell ⟨gr, 2, none⟩ (.int .i64 day)).setCell ⟨gr, 3, none⟩ (.slice A3 m c3)) := ⟨_, rfl⟩
       have ho : Only gr a15 a16 := by rw [hw_a16]; exact ((((Only.refl _ _).setC _ _).setC _ _).setC _ _).setC _ _
       have HB16 := beo HB15 ho (by have := HL_gr.out; omega)
       have HT16 : Hid (TrueW a16) := HT15.out.only ho trivial
       have HE16 : Hid (EnR w1.heap.size A3 m c3 (rest.map adm) a16) := own_onlyT HE15.out ho HBLK.out (by decide)
       have HR16 : Hid (Bk gr (.cells #[.int .i64 100, .int .i64 200, .int .i64 day, .slice A3 m c3] 57) a16) := by rw [hw_a16]; exact heap_setCell_same _ gr 3 _ _ (.slice A3 m c3) (heap_setCell_same _ gr 2 _ _ (.int .i64 day) (heap_setCell_same _ gr 1 _ _ (.int .i64 200) (heap_setCell_same _ gr 0 _ _ (.int .i64 100) (HR15.out))))
       rw [← hw_a16]
       clear hw_a16 ho HR15 HB15 HT15 HE15
       clear HBLK
       have hS6 : (TrueW) a16 := HT16.out
       refine hK.out _ _ hS6 (fun _ => ?_)
       clear hK K
       refine tk 15 hS6 ?_
       go_simp
       refine wpAnyH_done (by kernel_rfl) ?_ _
       (try go_wp2_with fail)
       go_meet
       exact ⟨gr, day, A3, c3, rfl, rfl, HDY.out, HR16.out, HE16.out, HB16.out, (by have := HL_gr.out; omega)⟩
      ·
       go_simp
       obtain ⟨gr, hg_gr⟩ : ∃ g, g = a13.heap.size := ⟨_, rfl⟩
       obtain ⟨a14, hw_a14⟩ : ∃ W, W = a13.alloc (.cells #[.int .i64 0, .int .i64 0, .int .i64 0, .slice none 0 0] 57) := ⟨_, rfl⟩
       have HL_gr := Lib.hid ((by have := HB13.out.size; omega : w1.heap.size ≤ gr))
       have HB14 := bea HB13 hw_a14
       have HT14 : Hid (TrueW a14) := by rw [hw_a14]; exact HT13.out.next (bel_alloc _ _)
       have HA14 : Hid (Rd a14 a14.heap.size 14 A2 m (rest.flatMap Dc.cells)) := by rw [hw_a14]; exact HA13.out.next (bel_alloc _ _)
       have HR14 : Hid (Bk gr (.cells #[.int .i64 0, .int .i64 0, .int .i64 0, .slice none 0 0] 57) a14) := by rw [hw_a14, hg_gr]; exact blk_new _ _
       rw [← hw_a14]
       (try rw [← hg_gr])
       clear hw_a14 hg_gr HB13 HT13 HA13
       have hS4 : (TrueW) a14 := HT14.out
       refine hK.out _ _ hS4 (fun _ => ?_)
       clear hK K
       refine tr 9 (fun K hK => ?_)
       go_simp
       refine (HADM.out A2 c2 _ HA14.out).mono ?_
       rintro e a15 ⟨day, A3, c3, rfl, hday, hen, hb⟩
       have HB15 := ben HB14 hb
       have HT15 : Hid (TrueW a15) := HT14.out.next hb
       have HR15 := bkn HR14 hb
       have HDY := Lib.hid hday
       have HEa : Hid (EnR w1.heap.size A3 m c3 (rest.map adm) a15) := own_mono hen HB14.out.size
       clear hday hen
       clear hb HB14 HT14 HR14
       have hS5 : (TrueW) a15 := HT15.out
       refine hK.out _ _ hS5 (fun _ => ?_)
       clear hK K
       refine tk 10 hS5 ?_
       go_simp
       refine tk 11 hS5 ?_
       go_simp
       refine tk 12 hS5 ?_
       go_simp
       have HBLK := HR15
       refine tr 14 (fun K hK => ?_)
       obtain ⟨r0, r1, r2, r3, rf0, rf1, rf2, rf3, rz⟩ := four_of HR15.out
       go_simp
       clear r0 r1 r2 r3 rf0 rf1 rf2 rf3 rz
       obtain ⟨a16, hw_a16⟩ : ∃ W, W = ((((a15.setCell ⟨gr, 0, none⟩ (.int .i64 100)).setCell ⟨gr, 1, none⟩ (.int .i64 200)).setCell ⟨gr, 2, none⟩ (.int .i64 day)).setCell ⟨gr, 3, none⟩ (.slice A3 m c3)) := ⟨_, rfl⟩
       have ho : Only gr a15 a16 := by rw [hw_a16]; exact ((((Only.refl _ _).setC _ _).setC _ _).setC _ _).setC _ _
       have HB16 := beo HB15 ho (by have := HL_gr.out; omega)
       have HT16 : Hid (TrueW a16) := HT15.out.only ho trivial
       have HE16 : Hid (EnR w1.heap.size A3 m c3 (rest.map adm) a16) := own_onlyT HEa.out ho HBLK.out (by decide)
       have HR16 : Hid (Bk gr (.cells #[.int .i64 100, .int .i64 200, .int .i64 day, .slice A3 m c3] 57) a16) := by rw [hw_a16]; exact heap_setCell_same _ gr 3 _ _ (.slice A3 m c3) (heap_setCell_same _ gr 2 _ _ (.int .i64 day) (heap_setCell_same _ gr 1 _ _ (.int .i64 200) (heap_setCell_same _ gr 0 _ _ (.int .i64 100) (HR15.out))))
       rw [← hw_a16]
       clear hw_a16 ho HR15 HB15 HT15 HEa
       clear HBLK
       have hS6 : (TrueW) a16 := HT16.out
       refine hK.out _ _ hS6 (fun _ => ?_)
       clear hK K
       refine tk 15 hS6 ?_
       go_simp
       refine wpAnyH_done (by kernel_rfl) ?_ _
       (try go_wp2_with fail)
       go_meet
       exact ⟨gr, day, A3, c3, rfl, rfl, HDY.out, HR16.out, HE16.out, HB16.out, (by have := HL_gr.out; omega)⟩
     ·
      go_simp
      obtain ⟨gr, hg_gr⟩ : ∃ g, g = a12.heap.size := ⟨_, rfl⟩
      obtain ⟨a13, hw_a13⟩ : ∃ W, W = a12.alloc (.cells #[.int .i64 0, .int .i64 0, .int .i64 0, .slice none 0 0] 57) := ⟨_, rfl⟩
      have HL_gr := Lib.hid ((by have := HB12.out.size; omega : w1.heap.size ≤ gr))
      have HB13 := bea HB12 hw_a13
      have HT13 : Hid (TrueW a13) := by rw [hw_a13]; exact HT12.out.next (bel_alloc _ _)
      have HO13 : Hid (a13.ownsRow w1.heap.size 63 14 va (0 + i) ([] ++ (ds.take i).flatMap Dc.cells)) := by rw [hw_a13]; exact own_belowQ HO12.out (bel_alloc _ _)
      have HR13 : Hid (Bk gr (.cells #[.int .i64 0, .int .i64 0, .int .i64 0, .slice none 0 0] 57) a13) := by rw [hw_a13, hg_gr]; exact blk_new _ _
      rw [← hw_a13]
      (try rw [← hg_gr])
      clear hw_a13 hg_gr HB12 HT12 HO12
      have hS3 : (TrueW) a13 := HT13.out
      refine hK.out _ _ hS3 (fun _ => ?_)
      clear hK K
      refine tr 8 (fun K hK => ?_)
      rw [if_pos (by rfl)]
      refine wp_append_own _ (.tmp 44) (.tmp 48) 53 rfl w1.heap.size 63 iq _ 14 160 Tryz.underlying53 HIQ.out.1 HIQ.out.2.1 HIQ.out.2.2.1 HIQ.out.2.2.2 rfl (by decide) va (0 + i) ([] ++ (ds.take i).flatMap Dc.cells) (by simp [Act.eval, Act.put]) HO13.out ad (n - (i + 1)) (c - (i + 1)) ((ds.drop (i + 1)).flatMap Dc.cells) (by simp [Act.eval, Act.put]) (by rw [flat_len Dc.cells 14 Dc.len, HLD.out]) (HNW.out _ (fun p hp => HB13.out.cell hp)) (Dc.one _) (by simp only [maxLen]; omega) (by omega) HB13.out.size ?_
      intro vb a14 hown hgr _
      have HB14 : Hid (Below w1.heap.size w1 a14) := HB13.out.grown hgr HB13.out.size (fun q hq => (HO13.out.lt q hq).1)
      have HR14 : Hid (Bk gr (.cells #[.int .i64 0, .int .i64 0, .int .i64 0, .slice none 0 0] 57) a14) := blk_grownT HO13.out HR13.out (by decide) hgr
      have HT14 : Hid (TrueW a14) := trivial
      obtain ⟨A2, c2, hv2, hrd2, _⟩ := own_shape hown
      subst hv2
      have HNB : Hid (0 + i + (n - (i + 1)) = m) := by show _ = _; have := HMN.out; omega
      rw [HNB.out] at hrd2 ⊢
      rw [List.nil_append, ← List.flatMap_append, ← HRE.out] at hrd2
      have HA14 : Hid (Rd a14 a14.heap.size 14 A2 m (rest.flatMap Dc.cells)) := hrd2
      clear hrd2 HNB
      clear hgr hown HB13 HT13 HO13 HR13
      have hS4 : (TrueW) a14 := HT14.out
      refine hK.out _ _ hS4 (fun _ => ?_)
      clear hK K
      refine tr 9 (fun K hK => ?_)
      go_simp
      refine (HADM.out A2 c2 _ HA14.out).mono ?_
      rintro e a15 ⟨day, A3, c3, rfl, hday, hen, hb⟩
      have HB15 := ben HB14 hb
      have HT15 : Hid (TrueW a15) := HT14.out.next hb
      have HR15 := bkn HR14 hb
      have HDY := Lib.hid hday
      have HEa : Hid (EnR w1.heap.size A3 m c3 (rest.map adm) a15) := own_mono hen HB14.out.size
      clear hday hen
      clear hb HB14 HT14 HR14
      have hS5 : (TrueW) a15 := HT15.out
      refine hK.out _ _ hS5 (fun _ => ?_)
      clear hK K
      refine tk 10 hS5 ?_
      go_simp
      refine tk 11 hS5 ?_
      go_simp
      refine tk 12 hS5 ?_
      go_simp
      have HBLK := HR15
      refine tr 14 (fun K hK => ?_)
      obtain ⟨r0, r1, r2, r3, rf0, rf1, rf2, rf3, rz⟩ := four_of HR15.out
      go_simp
      clear r0 r1 r2 r3 rf0 rf1 rf2 rf3 rz
      obtain ⟨a16, hw_a16⟩ : ∃ W, W = ((((a15.setCell ⟨gr, 0, none⟩ (.int .i64 100)).setCell ⟨gr, 1, none⟩ (.int .i64 200)).setCell ⟨gr, 2, none⟩ (.int .i64 day)).setCell ⟨gr, 3, none⟩ (.slice A3 m c3)) := ⟨_, rfl⟩
      have ho : Only gr a15 a16 := by rw [hw_a16]; exact ((((Only.refl _ _).setC _ _).setC _ _).setC _ _).setC _ _
      have HB16 := beo HB15 ho (by have := HL_gr.out; omega)
      have HT16 : Hid (TrueW a16) := HT15.out.only ho trivial
      have HE16 : Hid (EnR w1.heap.size A3 m c3 (rest.map adm) a16) := own_onlyT HEa.out ho HBLK.out (by decide)
      have HR16 : Hid (Bk gr (.cells #[.int .i64 100, .int .i64 200, .int .i64 day, .slice A3 m c3] 57) a16) := by rw [hw_a16]; exact heap_setCell_same _ gr 3 _ _ (.slice A3 m c3) (heap_setCell_same _ gr 2 _ _ (.int .i64 day) (heap_setCell_same _ gr 1 _ _ (.int .i64 200) (heap_setCell_same _ gr 0 _ _ (.int .i64 100) (HR15.out))))
      rw [← hw_a16]
      clear hw_a16 ho HR15 HB15 HT15 HEa
      clear HBLK
      have hS6 : (TrueW) a16 := HT16.out
      refine hK.out _ _ hS6 (fun _ => ?_)
      clear hK K
      refine tk 15 hS6 ?_
      go_simp
      refine wpAnyH_done (by kernel_rfl) ?_ _
      (try go_wp2_with fail)
      go_meet
      exact ⟨gr, day, A3, c3, rfl, rfl, HDY.out, HR16.out, HE16.out, HB16.out, (by have := HL_gr.out; omega)⟩
    ·
     go_simp
     obtain ⟨gr, hg_gr⟩ : ∃ g, g = a11.heap.size := ⟨_, rfl⟩
     obtain ⟨a12, hw_a12⟩ : ∃ W, W = a11.alloc (.cells #[.int .i64 0, .int .i64 0, .int .i64 0, .slice none 0 0] 57) := ⟨_, rfl⟩
     have HL_gr := Lib.hid ((by have := HB11.out.size; omega : w1.heap.size ≤ gr))
     have HB12 := bea HB11 hw_a12
     have HT12 : Hid (TrueW a12) := by rw [hw_a12]; exact HT11.out.next (bel_alloc _ _)
     have HR12 : Hid (Bk gr (.cells #[.int .i64 0, .int .i64 0, .int .i64 0, .slice none 0 0] 57) a12) := by rw [hw_a12, hg_gr]; exact blk_new _ _
     rw [← hw_a12]
     (try rw [← hg_gr])
     clear hw_a12 hg_gr HB11 HT11
     have hS2 : (TrueW) a12 := HT12.out
     refine hK.out _ _ hS2 (fun _ => ?_)
     clear hK K
     refine tr 3 (fun K hK => ?_)
     rw [if_pos (by rfl)]
     refine wp_append_own _ (.const (.slice none 0 0)) (.tmp 43) 53 rfl w1.heap.size 63 iq _ 14 160 Tryz.underlying53 HIQ.out.1 HIQ.out.2.1 HIQ.out.2.2.1 HIQ.out.2.2.2 rfl (by decide) (.slice none 0 0) 0 [] (by simp [Act.eval, Act.put]) (World.ownsRow_nil _ _ _ _) ⟨b, off, none⟩ i c ((ds.take i).flatMap Dc.cells) (by simp [Act.eval, Act.put]) (by rw [flat_len Dc.cells 14 Dc.len, HLT.out]) (dc_take (HD1.out.next HB12.out) i) (Dc.one _) (by simp only [maxLen]; omega) (by omega) HB12.out.size ?_
     intro va a13 hown hgr _
     have HB13 : Hid (Below w1.heap.size w1 a13) := HB12.out.grown hgr HB12.out.size (fun q hq => by cases hq)
     have HR13 : Hid (Bk gr (.cells #[.int .i64 0, .int .i64 0, .int .i64 0, .slice none 0 0] 57) a13) := blk_grownT (World.ownsRow_nil a12 w1.heap.size 63 14) HR12.out (by decide) hgr
     have HT13 : Hid (TrueW a13) := trivial
     have HO13 : Hid (a13.ownsRow w1.heap.size 63 14 va (0 + i) ([] ++ (ds.take i).flatMap Dc.cells)) := hown
     clear hgr hown HB12 HT12 HR12
     have hS3 : (TrueW) a13 := HT13.out
     refine hK.out _ _ hS3 (fun _ => ?_)
     clear hK K
     refine tr 8 (fun K hK => ?_)
     rw [if_pos (by rfl)]
     refine wp_append_own _ (.tmp 44) (.tmp 48) 53 rfl w1.heap.size 63 iq _ 14 160 Tryz.underlying53 HIQ.out.1 HIQ.out.2.1 HIQ.out.2.2.1 HIQ.out.2.2.2 rfl (by decide) va (0 + i) ([] ++ (ds.take i).flatMap Dc.cells) (by simp [Act.eval, Act.put]) HO13.out ad (n - (i + 1)) (c - (i + 1)) ((ds.drop (i + 1)).flatMap Dc.cells) (by simp [Act.eval, Act.put]) (by rw [flat_len Dc.cells 14 Dc.len, HLD.out]) (HNW.out _ (fun p hp => HB13.out.cell hp)) (Dc.one _) (by simp only [maxLen]; omega) (by omega) HB13.out.size ?_
     intro vb a14 hown hgr _
     have HB14 : Hid (Below w1.heap.size w1 a14) := HB13.out.grown hgr HB13.out.size (fun q hq => (HO13.out.lt q hq).1)
     have HR14 : Hid (Bk gr (.cells #[.int .i64 0, .int .i64 0, .int .i64 0, .slice none 0 0] 57) a14) := blk_grownT HO13.out HR13.out (by decide) hgr
     have HT14 : Hid (TrueW a14) := trivial
     obtain ⟨A2, c2, hv2, hrd2, _⟩ := own_shape hown
     subst hv2
     have HNB : Hid (0 + i + (n - (i + 1)) = m) := by show _ = _; have := HMN.out; omega
     rw [HNB.out] at hrd2 ⊢
     rw [List.nil_append, ← List.flatMap_append, ← HRE.out] at hrd2
     have HA14 : Hid (Rd a14 a14.heap.size 14 A2 m (rest.flatMap Dc.cells)) := hrd2
     clear hrd2 HNB
     clear hgr hown HB13 HT13 HR13 HO13
     have hS4 : (TrueW) a14 := HT14.out
     refine hK.out _ _ hS4 (fun _ => ?_)
     clear hK K
     refine tr 9 (fun K hK => ?_)
     go_simp
     refine (HADM.out A2 c2 _ HA14.out).mono ?_
     rintro e a15 ⟨day, A3, c3, rfl, hday, hen, hb⟩
     have HB15 := ben HB14 hb
     have HT15 : Hid (TrueW a15) := HT14.out.next hb
     have HR15 := bkn HR14 hb
     have HDY := Lib.hid hday
     have HEa : Hid (EnR w1.heap.size A3 m c3 (rest.map adm) a15) := own_mono hen HB14.out.size
     clear hday hen
     clear hb HB14 HT14 HR14
     have hS5 : (TrueW) a15 := HT15.out
     refine hK.out _ _ hS5 (fun _ => ?_)
     clear hK K
     refine tk 10 hS5 ?_
     go_simp
     refine tk 11 hS5 ?_
     go_simp
     refine tk 12 hS5 ?_
     go_simp
     have HBLK := HR15
     refine tr 14 (fun K hK => ?_)
     obtain ⟨r0, r1, r2, r3, rf0, rf1, rf2, rf3, rz⟩ := four_of HR15.out
     go_simp
     clear r0 r1 r2 r3 rf0 rf1 rf2 rf3 rz
     obtain ⟨a16, hw_a16⟩ : ∃ W, W = ((((a15.setCell ⟨gr, 0, none⟩ (.int .i64 100)).setCell ⟨gr, 1, none⟩ (.int .i64 200)).setCell ⟨gr, 2, none⟩ (.int .i64 day)).setCell ⟨gr, 3, none⟩ (.slice A3 m c3)) := ⟨_, rfl⟩
     have ho : Only gr a15 a16 := by rw [hw_a16]; exact ((((Only.refl _ _).setC _ _).setC _ _).setC _ _).setC _ _
     have HB16 := beo HB15 ho (by have := HL_gr.out; omega)
     have HT16 : Hid (TrueW a16) := HT15.out.only ho trivial
     have HE16 : Hid (EnR w1.heap.size A3 m c3 (rest.map adm) a16) := own_onlyT HEa.out ho HBLK.out (by decide)
     have HR16 : Hid (Bk gr (.cells #[.int .i64 100, .int .i64 200, .int .i64 day, .slice A3 m c3] 57) a16) := by rw [hw_a16]; exact heap_setCell_same _ gr 3 _ _ (.slice A3 m c3) (heap_setCell_same _ gr 2 _ _ (.int .i64 day) (heap_setCell_same _ gr 1 _ _ (.int .i64 200) (heap_setCell_same _ gr 0 _ _ (.int .i64 100) (HR15.out))))
     rw [← hw_a16]
     clear hw_a16 ho HR15 HB15 HT15 HEa
     clear HBLK
     have hS6 : (TrueW) a16 := HT16.out
     refine hK.out _ _ hS6 (fun _ => ?_)
     clear hK K
     refine tk 15 hS6 ?_
     go_simp
     refine wpAnyH_done (by kernel_rfl) ?_ _
     (try go_wp2_with fail)
     go_meet
     exact ⟨gr, day, A3, c3, rfl, rfl, HDY.out, HR16.out, HE16.out, HB16.out, (by have := HL_gr.out; omega)⟩
  obtain ⟨gr, day, A3, c3, rfl, rfl, hday, hr, he, hb, hgr⟩ := hcut
  rename World => wa
  have HDY := Lib.hid hday
  have HR1 := Lib.hid hr
  have HE1 := Lib.hid he
  have HB1 := Lib.hid hb
  have HLr := Lib.hid hgr
  clear hday hr he hb hgr HBa HTa HADM HLT HLD HRE
  have HDa : Hid (DRg b (off + i * 14) d wa) := HDR1.out.next HB1.out
  obtain ⟨q0, hq0⟩ : ∃ q, q = valD d := ⟨_, rfl⟩
  have HQ0 := Lib.hid hq0
  have hfl' := fun A c day0 W (h : EnR w1.heap.size A m c (rest.map adm) W) h0 => dspF_calls rest HRO.out m n HRM.out HMN.out hn8 i d HDK.out q0 hq0 HFR.out A c day0 w1.heap.size W h h0
  unfold APost at hfl'
  have HFL := Lib.hid hfl'
  clear hfl' hq0
  have HSZ : Hid (Sz 39 q0 ∧ 0 ≤ q0) := by rw [HQ0.out]; exact ⟨valD_sz HDK.out, valD_nn HDK.out⟩
  have hin : (i : Int) < (n : Int) := by omega
  go_upto_region 6 with fail
  obtain ⟨b31, hw_b31⟩ : ∃ W, W = wa.drew := ⟨_, rfl⟩
  have HB31 := bed HB1 hw_b31
  have HR31 := bkd HR1 hw_b31
  have HE31 : Hid (EnR w1.heap.size A3 m c3 (rest.map adm) b31) := by rw [hw_b31]; exact HE1.out
  have HD31 : Hid (DRg b (off + i * 14) d b31) := by rw [hw_b31]; exact HDa.out.drew
  have hS1 : (DRg b (off + i * 14) d) b31 := HD31.out
  refine wp_region_held_drew (S := (DRg b (off + i * 14) d)) (by kernel_rfl) (by rw [← hw_b31]; exact hS1) ?_
  rw [← hw_b31]
  intro _
  clear hw_b31 HB1 HR1 HE1 HDa
  refine tk 1 hS1 ?_
  go_simp
  refine tk 2 hS1 ?_
  go_simp
  refine tv 3 (.pointer (some ⟨b, off + i * 14, none⟩)) rfl (by intro w' hw'; skip; go_simp) hS1 ?_
  go_simp
  refine wpAnyH_take (i := 4) (v := .agg #[.string d.id, .int .i64 d.est, .int .i64 d.cred, .string d.code, .bool (rneg d.amt), .string (rnum d.amt), .string (rden d.amt), .int .i64 d.inc, .int .i64 d.rank, .bool (rneg d.rate), .string (rnum d.rate), .string (rden d.rate), .int .i64 d.frm, .int .i64 d.sec]) rfl (by kernel_rfl) (by kernel_rfl) (by kernel_rfl) (fun _ _ _ h => h) (yieldsIf_load_mid (by kernel_rfl) 63 (.tmp 57) rfl b (off + i * 14) rfl [.string d.id, .int .i64 d.est, .int .i64 d.cred, .string d.code, .bool (rneg d.amt), .string (rnum d.amt), .string (rden d.amt), .int .i64 d.inc, .int .i64 d.rank, .bool (rneg d.rate), .string (rnum d.rate), .string (rden d.rate), .int .i64 d.frm, .int .i64 d.sec] _ (fun w' hw' => hw'.1) Tryz.underlying63 rfl (by kernel_rfl)) hS1 ?_
  go_simp
  refine tk 5 hS1 ?_
  go_simp
  refine tr 0 (fun K hK => ?_)
  obtain ⟨r0, r1, r2, r3, _, _, _, _, _⟩ := four_of HR31.out
  go_simp
  clear r0 r1 r2 r3
  have hS2 : (DRg b (off + i * 14) d) b31 := HD31.out
  refine hK.out _ _ hS2 (fun _ => ?_)
  clear hK K
  refine tr 6 (fun K hK => ?_)
  go_simp
  refine (HFL.out A3 c3 day _ HE31.out HDY.out.2).mono ?_
  rintro e b32 ⟨A4, c4, rfl, hen, hb⟩
  have HB32 := ben HB31 hb
  have HR32 := bkn HR31 hb
  have HD32 : Hid (DRg b (off + i * 14) d b32) := HD31.out.next hb
  have HEb : Hid (EnR w1.heap.size A4 n c4 (rest.map adm ++ [enF d q0]) b32) := own_mono hen HB31.out.size
  clear hen
  clear hb HB31 HR31 HE31 HD31
  have hS3 : (DRg b (off + i * 14) d) b32 := HD32.out
  refine hK.out _ _ hS3 (fun _ => ?_)
  clear hK K
  refine tk 7 hS3 ?_
  go_simp
  refine tk 8 hS3 ?_
  go_simp
  refine tk 9 hS3 ?_
  go_simp
  have HBLK := HR32
  refine tr 10 (fun K hK => ?_)
  obtain ⟨r0, r1, r2, r3, rf0, rf1, rf2, rf3, rz⟩ := four_of HR32.out
  go_simp
  clear r0 r1 r2 r3 rf0 rf1 rf2 rf3 rz
  obtain ⟨b33, hw_b33⟩ : ∃ W, W = ((((b32.setCell ⟨gr, 0, none⟩ (.int .i64 100)).setCell ⟨gr, 1, none⟩ (.int .i64 200)).setCell ⟨gr, 2, none⟩ (.int .i64 160)).setCell ⟨gr, 3, none⟩ (.slice A4 n c4)) := ⟨_, rfl⟩
  have ho : Only gr b32 b33 := by rw [hw_b33]; exact ((((Only.refl _ _).setC _ _).setC _ _).setC _ _).setC _ _
  have HB33 := beo HB32 ho (by have := HLr.out; have := HDL.out; omega)
  have HD33 : Hid (DRg b (off + i * 14) d b33) := HD32.out.only ho (by have := HLr.out; have := HDL.out; omega)
  have HE33 : Hid (EnR w1.heap.size A4 n c4 (rest.map adm ++ [enF d q0]) b33) := own_onlyT HEb.out ho HBLK.out (by decide)
  have HR33 : Hid (Bk gr (.cells #[.int .i64 100, .int .i64 200, .int .i64 160, .slice A4 n c4] 57) b33) := by rw [hw_b33]; exact heap_setCell_same _ gr 3 _ _ (.slice A4 n c4) (heap_setCell_same _ gr 2 _ _ (.int .i64 160) (heap_setCell_same _ gr 1 _ _ (.int .i64 200) (heap_setCell_same _ gr 0 _ _ (.int .i64 100) (HR32.out))))
  rw [← hw_b33]
  clear hw_b33 ho HR32 HB32 HD32 HEb
  clear HBLK
  have hS4 : (DRg b (off + i * 14) d) b33 := HD33.out
  refine hK.out _ _ hS4 (fun _ => ?_)
  clear hK K
  refine tk 11 hS4 ?_
  go_simp
  refine wpAnyH_done (by kernel_rfl) ?_ _
  obtain ⟨C, hA4, hEC⟩ := EnR.last HE33.out (by rw [List.length_map]; exact HRM.out) HMN.out
  subst hA4
  have HEc := Lib.hid hEC
  clear hEC HE33
  have hmn2 : (m : Int) < (n : Int) := by have := HMN.out; omega
  have hw1 : IntKind.i64.wrap ((n : Int) - 1) = (m : Int) := by rw [IntWalk.i64_in _ (by omega)]; have := HMN.out; omega
  have r3 := blk_at (j := 3) HR33.out rfl
  go_upto_region 9 with fail
  have e25 := HEc.out.at (j := 25) (v := .bool (rneg q0)) rfl
  have e26 := HEc.out.at (j := 26) (v := .string (rnum q0)) rfl
  have e27 := HEc.out.at (j := 27) (v := .string (rden q0)) rfl
  go_upto_region 10 with fail
  clear e25 e26 e27 r3
  obtain ⟨gc, hg_gc⟩ : ∃ g, g = b33.heap.size := ⟨_, rfl⟩
  obtain ⟨b34, hw_b34⟩ : ∃ W, W = b33.alloc (.cells #[.bool (rneg q0), .string (rnum q0), .string (rden q0)] 33) := ⟨_, rfl⟩
  have HL_gc := Lib.hid (And.intro (by have := HB33.out.size; omega : w1.heap.size ≤ gc) (And.intro (by have := blk_lt HR33.out; omega : gr < gc) ((by have := HEc.out.lt; omega : C < gc))))
  have HB34 := bea HB33 hw_b34
  have HR34 := bka HR33 hw_b34
  have HD34 : Hid (DRg b (off + i * 14) d b34) := by rw [hw_b34]; exact HD33.out.next (bel_alloc _ _)
  have HE34 : Hid (EnE w1.heap.size C c4 n (m * 30) ((rest.map adm).flatMap En.cells) (enF d q0) [] b34) := by rw [hw_b34]; exact HEc.out.next (bel_alloc _ _)
  have HQ34 : Hid (Bk gc (.cells #[.bool (rneg q0), .string (rnum q0), .string (rden q0)] 33) b34) := by rw [hw_b34, hg_gc]; exact blk_new _ _
  rw [← hw_b34]
  (try rw [← hg_gc])
  clear hw_b34 hg_gc HB33 HR33 HD33 HEc
  obtain ⟨a, ea, ha⟩ : ∃ a : Nat, ((a2 : Int)).tmod 11 = (a : Int) ∧ a < 11 := ⟨a2 % 11, by rw [Int.tmod_eq_emod_of_nonneg (by omega)]; omega, by omega⟩
  obtain ⟨a', ea', ha'⟩ : ∃ a : Nat, ((a3 : Int)).tmod 11 = (a : Int) ∧ a < 11 := ⟨a3 % 11, by rw [Int.tmod_eq_emod_of_nonneg (by omega)]; omega, by omega⟩
  have ua : IntKind.u8.wrap (a : Int) = (a : Int) := IntWalk.u8_in _ (by omega)
  have ub : IntKind.i64.wrap (a : Int) = (a : Int) := IntWalk.i64_in _ (by omega)
  have ua' : IntKind.u8.wrap (a' : Int) = (a' : Int) := IntWalk.u8_in _ (by omega)
  have ub' : IntKind.i64.wrap (a' : Int) = (a' : Int) := IntWalk.i64_in _ (by omega)
  have hbd := flD_bd (c := q0) (a := a) HSZ.out.2 ha
  have hbd2 := deD_bd (c := q0) (a := a) (b := a') HSZ.out.2 ha ha'
  have hfz := flD_sz (c := q0) (a := a) HSZ.out.1 ha
  have hez := deD_sz (c := q0) (a := a) (b := a') HSZ.out.1 ha ha'
  have hrt' := fun W => ratio_calls (a : Int) 10 W (by omega) (by omega) (by omega) (by omega) (by omega) (tenth a) rfl
  have hru' := fun W => ratio_calls (a' : Int) 10 W (by omega) (by omega) (by omega) (by omega) (by omega) (tenth a') rfl
  have hml' := fun W => pMulQ_calls q0 (tenth a) 39 8 W HSZ.out.1 (tenth_sz ha) (by decide)
  have hgz : Sz 87 (q0 - flD q0 a) := (Sz.sub HSZ.out.1 hfz).mono (by omega)
  have hsb' := fun W => pSubQ_calls q0 (flD q0 a) 39 47 W HSZ.out.1 hfz (by decide)
  have hmm' := fun W => pMulQ_calls (q0 - flD q0 a) (tenth a') 87 8 W hgz (tenth_sz ha') (by decide)
  have had' := fun W => pAddQ_calls (flD q0 a) ((q0 - flD q0 a) * tenth a') 47 95 W hfz (Sz.mono (Sz.mul hgz (tenth_sz ha')) (by omega)) (by decide) (by decide) (by decide)
  obtain ⟨f, hf⟩ : ∃ f, f = flD q0 a := ⟨_, rfl⟩
  have hf2 : q0 * tenth a = f := by rw [hf]; rfl
  rw [hf2] at hml'
  rw [← hf] at hbd hbd2 hfz hsb' hmm' had' hgz
  obtain ⟨e, he⟩ : ∃ e, e = deD q0 a a' := ⟨_, rfl⟩
  have he2 : f + (q0 - f) * tenth a' = e := by rw [he, hf]; rfl
  rw [he2] at had'
  rw [← he] at hbd2 hez
  obtain ⟨g1, hg1⟩ : ∃ g, g = q0 - f := ⟨_, rfl⟩
  rw [← hg1] at hsb' hmm' had'
  obtain ⟨g2, hg2⟩ : ∃ g, g = g1 * tenth a' := ⟨_, rfl⟩
  rw [← hg2] at hmm' had'
  obtain ⟨ta, hta⟩ : ∃ g, g = tenth a := ⟨_, rfl⟩
  rw [← hta] at hrt' hml'
  obtain ⟨tb, htb⟩ : ∃ g, g = tenth a' := ⟨_, rfl⟩
  rw [← htb] at hru' hmm'
  have HFE : Hid ((0 ≤ f ∧ f ≤ e ∧ e ≤ q0) ∧ Sz 143 f ∧ Sz 143 e ∧ Sz 143 q0) := ⟨⟨hbd.1, hbd2.1, hbd2.2⟩, hfz.mono (by decide), hez, HSZ.out.1.mono (by decide)⟩
  unfold ratV at hrt' hru' hml' hsb' hmm' had'
  have HRT := Lib.hid hrt'
  have HRU := Lib.hid hru'
  have HML := Lib.hid hml'
  have HSB := Lib.hid hsb'
  have HMM := Lib.hid hmm'
  have HAD := Lib.hid had'
  clear hrt' hru' hml' hsb' hmm' had' hbd hbd2 hfz hez hgz hf hf2 he he2 hg1 hg2 hta htb ha ha'
  have HDb : Hid (DRg b (off + i * 14) d w1) := HDR1
  clear HD34
  go_cut [17] from 29 (fun s17 wx => DspN w1 gr C c4 n (m * 30) gc (rest.map adm) (enF d q0) q0 f s17 wx)
  case first =>
   as_aux_lemma =>
    obtain ⟨c51, hw_c51⟩ : ∃ W, W = b34.drew := ⟨_, rfl⟩
    have HB51 := bed HB34 hw_c51
    have HR51 := bkd HR34 hw_c51
    have HE51 : Hid (EnE w1.heap.size C c4 n (m * 30) ((rest.map adm).flatMap En.cells) (enF d q0) [] c51) := by rw [hw_c51]; exact HE34.out.drew
    have HQ51 := bkd HQ34 hw_c51
    have hS5 := HQ51.out
    refine wp_region_held_drew (S := (Bk gc (.cells #[.bool (rneg q0), .string (rnum q0), .string (rden q0)] 33))) (by kernel_rfl) (by rw [← hw_c51]; exact hS5) ?_
    rw [← hw_c51]
    intro _
    clear hw_c51 HB34 HR34 HE34 HQ34
    refine tv 0 (.agg #[.bool (rneg q0), .string (rnum q0), .string (rden q0)]) rfl (by intro w' hw'; obtain ⟨k0, k1, k2, fk0, fk1, fk2, hzk⟩ := three_of hw'; go_simp) hS5 ?_
    go_simp
    refine tk 1 hS5 ?_
    go_simp
    refine tv 2 (.int .u8 (a : Int)) rfl (by intro w' _; go_simp) hS5 ?_
    go_simp
    refine tv 3 (.int .i64 (a : Int)) rfl (by intro w' _; go_simp) hS5 ?_
    go_simp
    refine wpAnyH_ready (rs := [4, 6]) (by kernel_rfl) (by simp) ?_
    refine AllReadyH.cons rfl (fun K hK => ?_) (AllReadyH.cons rfl (fun K hK => ?_) AllReadyH.nil)
    ·
     go_simp
     refine (HRT.out _).mono ?_
     rintro e c52 ⟨rfl, hb⟩
     have HB52 := ben HB51 hb
     have HR52 := bkn HR51 hb
     have HE52 : Hid (EnE w1.heap.size C c4 n (m * 30) ((rest.map adm).flatMap En.cells) (enF d q0) [] c52) := HE51.out.next hb
     have HQ52 := bkn HQ51 hb
     clear hb HB51 HR51 HE51 HQ51
     have hS6 := HQ52.out
     refine hK.out _ _ hS6 (fun _ => ?_)
     clear hK K
     refine wpAnyH_ready (rs := [5, 6]) (by kernel_rfl) (by simp) ?_
     refine AllReadyH.cons rfl (fun K hK => ?_) (AllReadyH.cons rfl (fun K hK => ?_) AllReadyH.nil)
     ·
      go_simp
      refine (HML.out _).mono ?_
      rintro e c53 ⟨rfl, hb⟩
      have HB53 := ben HB52 hb
      have HR53 := bkn HR52 hb
      have HE53 : Hid (EnE w1.heap.size C c4 n (m * 30) ((rest.map adm).flatMap En.cells) (enF d q0) [] c53) := HE52.out.next hb
      have HQ53 := bkn HQ52 hb
      clear hb HB52 HR52 HE52 HQ52
      have hS7 := HQ53.out
      refine hK.out _ _ hS7 (fun _ => ?_)
      clear hK K
      refine tr 6 (fun K hK => ?_)
      go_simp
      obtain ⟨gf, hg_gf⟩ : ∃ g, g = c53.heap.size := ⟨_, rfl⟩
      obtain ⟨c54, hw_c54⟩ : ∃ W, W = c53.alloc (.cells #[.bool false, .string ⟨#[]⟩, .string ⟨#[]⟩] 33) := ⟨_, rfl⟩
      have HL_gf := Lib.hid (And.intro (by have := HB53.out.size; omega : w1.heap.size ≤ gf) (And.intro (by have := blk_lt HR53.out; omega : gr < gf) (And.intro (by have := HE53.out.lt; omega : C < gf) ((by have := blk_lt HQ53.out; omega : gc < gf)))))
      have HB54 := bea HB53 hw_c54
      have HR54 := bka HR53 hw_c54
      have HE54 : Hid (EnE w1.heap.size C c4 n (m * 30) ((rest.map adm).flatMap En.cells) (enF d q0) [] c54) := by rw [hw_c54]; exact HE53.out.next (bel_alloc _ _)
      have HQ54 := bka HQ53 hw_c54
      have HN54 : Hid (Bk gf (.cells #[.bool false, .string ⟨#[]⟩, .string ⟨#[]⟩] 33) c54) := by rw [hw_c54, hg_gf]; exact blk_new _ _
      rw [← hw_c54]
      (try rw [← hg_gf])
      clear hw_c54 hg_gf HB53 HR53 HE53 HQ53
      have hS8 := HQ54.out
      refine hK.out _ _ hS8 (fun _ => ?_)
      clear hK K
      refine tr 7 (fun K hK => ?_)
      obtain ⟨c0, c1, c2, fc0, fc1, fc2, hzc⟩ := three_of HN54.out
      go_simp
      clear c0 c1 c2 fc0 fc1 fc2 hzc
      obtain ⟨c55, hw_c55⟩ : ∃ W, W = (((c54.setCell ⟨gf, 0, none⟩ (.bool (rneg f))).setCell ⟨gf, 1, none⟩ (.string (rnum f))).setCell ⟨gf, 2, none⟩ (.string (rden f))) := ⟨_, rfl⟩
      have ho : Only gf c54 c55 := by rw [hw_c55]; exact (((Only.refl _ _).setC _ _).setC _ _).setC _ _
      have HB55 := beo HB54 ho (by have := HLr.out; have := HDL.out; have := HL_gc.out; have := HL_gf.out; omega)
      have HR55 := bko HR54 ho (by have := HLr.out; have := HDL.out; have := HL_gc.out; have := HL_gf.out; omega)
      have HE55 : Hid (EnE w1.heap.size C c4 n (m * 30) ((rest.map adm).flatMap En.cells) (enF d q0) [] c55) := HE54.out.only ho (by have := HLr.out; have := HDL.out; have := HL_gc.out; have := HL_gf.out; omega)
      have HQ55 := bko HQ54 ho (by have := HLr.out; have := HDL.out; have := HL_gc.out; have := HL_gf.out; omega)
      have HN55 : Hid (Bk gf (.cells #[.bool (rneg f), .string (rnum f), .string (rden f)] 33) c55) := by rw [hw_c55]; exact heap_setCell_same _ gf 2 _ _ (.string (rden f)) (heap_setCell_same _ gf 1 _ _ (.string (rnum f)) (heap_setCell_same _ gf 0 _ _ (.bool (rneg f)) (HN54.out)))
      rw [← hw_c55]
      clear hw_c55 ho HN54 HB54 HR54 HE54 HQ54
      have hS9 := HQ55.out
      refine hK.out _ _ hS9 (fun _ => ?_)
      clear hK K
      refine wpAnyH_done (by kernel_rfl) ?_ _
      (try go_wp2_with fail)
      go_meet
      exact ⟨gf, rfl, HN55.out, HQ55.out, HR55.out, HE55.out, HB55.out, (by have := HL_gf.out; omega), (by have := HL_gf.out; omega), (by have := HL_gf.out; omega), (by have := HL_gf.out; omega)⟩
     ·
      go_simp
      obtain ⟨gf, hg_gf⟩ : ∃ g, g = c52.heap.size := ⟨_, rfl⟩
      obtain ⟨c53, hw_c53⟩ : ∃ W, W = c52.alloc (.cells #[.bool false, .string ⟨#[]⟩, .string ⟨#[]⟩] 33) := ⟨_, rfl⟩
      have HL_gf := Lib.hid (And.intro (by have := HB52.out.size; omega : w1.heap.size ≤ gf) (And.intro (by have := blk_lt HR52.out; omega : gr < gf) (And.intro (by have := HE52.out.lt; omega : C < gf) ((by have := blk_lt HQ52.out; omega : gc < gf)))))
      have HB53 := bea HB52 hw_c53
      have HR53 := bka HR52 hw_c53
      have HE53 : Hid (EnE w1.heap.size C c4 n (m * 30) ((rest.map adm).flatMap En.cells) (enF d q0) [] c53) := by rw [hw_c53]; exact HE52.out.next (bel_alloc _ _)
      have HQ53 := bka HQ52 hw_c53
      have HN53 : Hid (Bk gf (.cells #[.bool false, .string ⟨#[]⟩, .string ⟨#[]⟩] 33) c53) := by rw [hw_c53, hg_gf]; exact blk_new _ _
      rw [← hw_c53]
      (try rw [← hg_gf])
      clear hw_c53 hg_gf HB52 HR52 HE52 HQ52
      have hS7 := HQ53.out
      refine hK.out _ _ hS7 (fun _ => ?_)
      clear hK K
      refine tr 5 (fun K hK => ?_)
      go_simp
      refine (HML.out _).mono ?_
      rintro e c54 ⟨rfl, hb⟩
      have HB54 := ben HB53 hb
      have HR54 := bkn HR53 hb
      have HE54 : Hid (EnE w1.heap.size C c4 n (m * 30) ((rest.map adm).flatMap En.cells) (enF d q0) [] c54) := HE53.out.next hb
      have HQ54 := bkn HQ53 hb
      have HN54 := bkn HN53 hb
      clear hb HB53 HR53 HE53 HQ53 HN53
      have hS8 := HQ54.out
      refine hK.out _ _ hS8 (fun _ => ?_)
      clear hK K
      refine tr 7 (fun K hK => ?_)
      obtain ⟨c0, c1, c2, fc0, fc1, fc2, hzc⟩ := three_of HN54.out
      go_simp
      clear c0 c1 c2 fc0 fc1 fc2 hzc
      obtain ⟨c55, hw_c55⟩ : ∃ W, W = (((c54.setCell ⟨gf, 0, none⟩ (.bool (rneg f))).setCell ⟨gf, 1, none⟩ (.string (rnum f))).setCell ⟨gf, 2, none⟩ (.string (rden f))) := ⟨_, rfl⟩
      have ho : Only gf c54 c55 := by rw [hw_c55]; exact (((Only.refl _ _).setC _ _).setC _ _).setC _ _
      have HB55 := beo HB54 ho (by have := HLr.out; have := HDL.out; have := HL_gc.out; have := HL_gf.out; omega)
      have HR55 := bko HR54 ho (by have := HLr.out; have := HDL.out; have := HL_gc.out; have := HL_gf.out; omega)
      have HE55 : Hid (EnE w1.heap.size C c4 n (m * 30) ((rest.map adm).flatMap En.cells) (enF d q0) [] c55) := HE54.out.only ho (by have := HLr.out; have := HDL.out; have := HL_gc.out; have := HL_gf.out; omega)
      have HQ55 := bko HQ54 ho (by have := HLr.out; have := HDL.out; have := HL_gc.out; have := HL_gf.out; omega)
      have HN55 : Hid (Bk gf (.cells #[.bool (rneg f), .string (rnum f), .string (rden f)] 33) c55) := by rw [hw_c55]; exact heap_setCell_same _ gf 2 _ _ (.string (rden f)) (heap_setCell_same _ gf 1 _ _ (.string (rnum f)) (heap_setCell_same _ gf 0 _ _ (.bool (rneg f)) (HN54.out)))
      rw [← hw_c55]
      clear hw_c55 ho HN54 HB54 HR54 HE54 HQ54
      have hS9 := HQ55.out
      refine hK.out _ _ hS9 (fun _ => ?_)
      clear hK K
      refine wpAnyH_done (by kernel_rfl) ?_ _
      (try go_wp2_with fail)
      go_meet
      exact ⟨gf, rfl, HN55.out, HQ55.out, HR55.out, HE55.out, HB55.out, (by have := HL_gf.out; omega), (by have := HL_gf.out; omega), (by have := HL_gf.out; omega), (by have := HL_gf.out; omega)⟩
    ·
     go_simp
     obtain ⟨gf, hg_gf⟩ : ∃ g, g = c51.heap.size := ⟨_, rfl⟩
     obtain ⟨c52, hw_c52⟩ : ∃ W, W = c51.alloc (.cells #[.bool false, .string ⟨#[]⟩, .string ⟨#[]⟩] 33) := ⟨_, rfl⟩
     have HL_gf := Lib.hid (And.intro (by have := HB51.out.size; omega : w1.heap.size ≤ gf) (And.intro (by have := blk_lt HR51.out; omega : gr < gf) (And.intro (by have := HE51.out.lt; omega : C < gf) ((by have := blk_lt HQ51.out; omega : gc < gf)))))
     have HB52 := bea HB51 hw_c52
     have HR52 := bka HR51 hw_c52
     have HE52 : Hid (EnE w1.heap.size C c4 n (m * 30) ((rest.map adm).flatMap En.cells) (enF d q0) [] c52) := by rw [hw_c52]; exact HE51.out.next (bel_alloc _ _)
     have HQ52 := bka HQ51 hw_c52
     have HN52 : Hid (Bk gf (.cells #[.bool false, .string ⟨#[]⟩, .string ⟨#[]⟩] 33) c52) := by rw [hw_c52, hg_gf]; exact blk_new _ _
     rw [← hw_c52]
     (try rw [← hg_gf])
     clear hw_c52 hg_gf HB51 HR51 HE51 HQ51
     have hS6 := HQ52.out
     refine hK.out _ _ hS6 (fun _ => ?_)
     clear hK K
     refine tr 4 (fun K hK => ?_)
     go_simp
     refine (HRT.out _).mono ?_
     rintro e c53 ⟨rfl, hb⟩
     have HB53 := ben HB52 hb
     have HR53 := bkn HR52 hb
     have HE53 : Hid (EnE w1.heap.size C c4 n (m * 30) ((rest.map adm).flatMap En.cells) (enF d q0) [] c53) := HE52.out.next hb
     have HQ53 := bkn HQ52 hb
     have HN53 := bkn HN52 hb
     clear hb HB52 HR52 HE52 HQ52 HN52
     have hS7 := HQ53.out
     refine hK.out _ _ hS7 (fun _ => ?_)
     clear hK K
     refine tr 5 (fun K hK => ?_)
     go_simp
     refine (HML.out _).mono ?_
     rintro e c54 ⟨rfl, hb⟩
     have HB54 := ben HB53 hb
     have HR54 := bkn HR53 hb
     have HE54 : Hid (EnE w1.heap.size C c4 n (m * 30) ((rest.map adm).flatMap En.cells) (enF d q0) [] c54) := HE53.out.next hb
     have HQ54 := bkn HQ53 hb
     have HN54 := bkn HN53 hb
     clear hb HB53 HR53 HE53 HQ53 HN53
     have hS8 := HQ54.out
     refine hK.out _ _ hS8 (fun _ => ?_)
     clear hK K
     refine tr 7 (fun K hK => ?_)
     obtain ⟨c0, c1, c2, fc0, fc1, fc2, hzc⟩ := three_of HN54.out
     go_simp
     clear c0 c1 c2 fc0 fc1 fc2 hzc
     obtain ⟨c55, hw_c55⟩ : ∃ W, W = (((c54.setCell ⟨gf, 0, none⟩ (.bool (rneg f))).setCell ⟨gf, 1, none⟩ (.string (rnum f))).setCell ⟨gf, 2, none⟩ (.string (rden f))) := ⟨_, rfl⟩
     have ho : Only gf c54 c55 := by rw [hw_c55]; exact (((Only.refl _ _).setC _ _).setC _ _).setC _ _
     have HB55 := beo HB54 ho (by have := HLr.out; have := HDL.out; have := HL_gc.out; have := HL_gf.out; omega)
     have HR55 := bko HR54 ho (by have := HLr.out; have := HDL.out; have := HL_gc.out; have := HL_gf.out; omega)
     have HE55 : Hid (EnE w1.heap.size C c4 n (m * 30) ((rest.map adm).flatMap En.cells) (enF d q0) [] c55) := HE54.out.only ho (by have := HLr.out; have := HDL.out; have := HL_gc.out; have := HL_gf.out; omega)
     have HQ55 := bko HQ54 ho (by have := HLr.out; have := HDL.out; have := HL_gc.out; have := HL_gf.out; omega)
     have HN55 : Hid (Bk gf (.cells #[.bool (rneg f), .string (rnum f), .string (rden f)] 33) c55) := by rw [hw_c55]; exact heap_setCell_same _ gf 2 _ _ (.string (rden f)) (heap_setCell_same _ gf 1 _ _ (.string (rnum f)) (heap_setCell_same _ gf 0 _ _ (.bool (rneg f)) (HN54.out)))
     rw [← hw_c55]
     clear hw_c55 ho HN54 HB54 HR54 HE54 HQ54
     have hS9 := HQ55.out
     refine hK.out _ _ hS9 (fun _ => ?_)
     clear hK K
     refine wpAnyH_done (by kernel_rfl) ?_ _
     (try go_wp2_with fail)
     go_meet
     exact ⟨gf, rfl, HN55.out, HQ55.out, HR55.out, HE55.out, HB55.out, (by have := HL_gf.out; omega), (by have := HL_gf.out; omega), (by have := HL_gf.out; omega), (by have := HL_gf.out; omega)⟩
  obtain ⟨gf, rfl, hn, hq, hr, he, hb, l1, l2, l3, l4⟩ := hcut
  clear HB34 HR34 HE34 HQ34
  rename World => wb
  have HN1 := Lib.hid hn
  have HQ1 := Lib.hid hq
  have HR1 := Lib.hid hr
  have HE1 := Lib.hid he
  have HB1 := Lib.hid hb
  have HLf := Lib.hid (And.intro l1 (And.intro l2 (And.intro l3 l4)))
  clear hn hq hr he hb l1 l2 l3 l4 HRT HML
  go_upto_region 11 with fail
  go_cut [18] from 29 (fun s18 wx => DspO w1 gr C c4 n (m * 30) gf (rest.map adm) (enF d q0) f e s18 wx)
  case first =>
   as_aux_lemma =>
    obtain ⟨d71, hw_d71⟩ : ∃ W, W = wb.drew := ⟨_, rfl⟩
    have HB71 := bed HB1 hw_d71
    have HR71 := bkd HR1 hw_d71
    have HE71 : Hid (EnE w1.heap.size C c4 n (m * 30) ((rest.map adm).flatMap En.cells) (enF d q0) [] d71) := by rw [hw_d71]; exact HE1.out.drew
    have HQ71 := bkd HQ1 hw_d71
    have HF71 := bkd HN1 hw_d71
    have hS1 := And.intro HF71.out HQ71.out
    refine wp_region_held_drew (S := (AndW (Bk gf (.cells #[.bool (rneg f), .string (rnum f), .string (rden f)] 33)) (Bk gc (.cells #[.bool (rneg q0), .string (rnum q0), .string (rden q0)] 33)))) (by kernel_rfl) (by rw [← hw_d71]; exact hS1) ?_
    rw [← hw_d71]
    intro _
    clear hw_d71 HB1 HR1 HE1 HQ1 HN1
    refine tv 0 (.agg #[.bool (rneg f), .string (rnum f), .string (rden f)]) rfl (by intro w' hw'; obtain ⟨k0, k1, k2, fk0, fk1, fk2, hzk⟩ := three_of hw'.1; go_simp) hS1 ?_
    go_simp
    refine tv 1 (.agg #[.bool (rneg q0), .string (rnum q0), .string (rden q0)]) rfl (by intro w' hw'; obtain ⟨k0, k1, k2, fk0, fk1, fk2, hzk⟩ := three_of hw'.2; go_simp) hS1 ?_
    go_simp
    refine tv 2 (.agg #[.bool (rneg f), .string (rnum f), .string (rden f)]) rfl (by intro w' hw'; obtain ⟨k0, k1, k2, fk0, fk1, fk2, hzk⟩ := three_of hw'.1; go_simp) hS1 ?_
    go_simp
    refine tk 4 hS1 ?_
    go_simp
    refine tv 5 (.int .u8 (a' : Int)) rfl (by intro w' _; go_simp) hS1 ?_
    go_simp
    refine tv 6 (.int .i64 (a' : Int)) rfl (by intro w' _; go_simp) hS1 ?_
    go_simp
    refine wpAnyH_ready (rs := [3, 10]) (by kernel_rfl) (by simp) ?_
    refine AllReadyH.cons rfl (fun K hK => ?_) (AllReadyH.cons rfl (fun K hK => ?_) AllReadyH.nil)
    ·
     go_simp
     refine (HSB.out _).mono ?_
     rintro ee d72 ⟨rfl, hb⟩
     have HB72 := ben HB71 hb
     have HR72 := bkn HR71 hb
     have HE72 : Hid (EnE w1.heap.size C c4 n (m * 30) ((rest.map adm).flatMap En.cells) (enF d q0) [] d72) := HE71.out.next hb
     have HQ72 := bkn HQ71 hb
     have HF72 := bkn HF71 hb
     clear hb HB71 HR71 HE71 HQ71 HF71
     have hS2 := And.intro HF72.out HQ72.out
     refine hK.out _ _ hS2 (fun _ => ?_)
     clear hK K
     refine wpAnyH_ready (rs := [7, 10]) (by kernel_rfl) (by simp) ?_
     refine AllReadyH.cons rfl (fun K hK => ?_) (AllReadyH.cons rfl (fun K hK => ?_) AllReadyH.nil)
     ·
      go_simp
      refine (HRU.out _).mono ?_
      rintro ee d73 ⟨rfl, hb⟩
      have HB73 := ben HB72 hb
      have HR73 := bkn HR72 hb
      have HE73 : Hid (EnE w1.heap.size C c4 n (m * 30) ((rest.map adm).flatMap En.cells) (enF d q0) [] d73) := HE72.out.next hb
      have HQ73 := bkn HQ72 hb
      have HF73 := bkn HF72 hb
      clear hb HB72 HR72 HE72 HQ72 HF72
      have hS3 := And.intro HF73.out HQ73.out
      refine hK.out _ _ hS3 (fun _ => ?_)
      clear hK K
      refine wpAnyH_ready (rs := [8, 10]) (by kernel_rfl) (by simp) ?_
      refine AllReadyH.cons rfl (fun K hK => ?_) (AllReadyH.cons rfl (fun K hK => ?_) AllReadyH.nil)
      ·
       go_simp
       refine (HMM.out _).mono ?_
       rintro ee d74 ⟨rfl, hb⟩
       have HB74 := ben HB73 hb
       have HR74 := bkn HR73 hb
       have HE74 : Hid (EnE w1.heap.size C c4 n (m * 30) ((rest.map adm).flatMap En.cells) (enF d q0) [] d74) := HE73.out.next hb
       have HQ74 := bkn HQ73 hb
       have HF74 := bkn HF73 hb
       clear hb HB73 HR73 HE73 HQ73 HF73
       have hS4 := And.intro HF74.out HQ74.out
       refine hK.out _ _ hS4 (fun _ => ?_)
       clear hK K
       refine wpAnyH_ready (rs := [9, 10]) (by kernel_rfl) (by simp) ?_
       refine AllReadyH.cons rfl (fun K hK => ?_) (AllReadyH.cons rfl (fun K hK => ?_) AllReadyH.nil)
       ·
        go_simp
        refine (HAD.out _).mono ?_
        rintro ee d75 ⟨rfl, hb⟩
        have HB75 := ben HB74 hb
        have HR75 := bkn HR74 hb
        have HE75 : Hid (EnE w1.heap.size C c4 n (m * 30) ((rest.map adm).flatMap En.cells) (enF d q0) [] d75) := HE74.out.next hb
        have HQ75 := bkn HQ74 hb
        have HF75 := bkn HF74 hb
        clear hb HB74 HR74 HE74 HQ74 HF74
        have hS5 := And.intro HF75.out HQ75.out
        refine hK.out _ _ hS5 (fun _ => ?_)
        clear hK K
        refine tr 10 (fun K hK => ?_)
        go_simp
        obtain ⟨ge, hg_ge⟩ : ∃ g, g = d75.heap.size := ⟨_, rfl⟩
        obtain ⟨d76, hw_d76⟩ : ∃ W, W = d75.alloc (.cells #[.bool false, .string ⟨#[]⟩, .string ⟨#[]⟩] 33) := ⟨_, rfl⟩
        have HL_ge := Lib.hid (And.intro (by have := HB75.out.size; omega : w1.heap.size ≤ ge) (And.intro (by have := blk_lt HR75.out; omega : gr < ge) (And.intro (by have := HE75.out.lt; omega : C < ge) (And.intro (by have := blk_lt HQ75.out; omega : gc < ge) ((by have := blk_lt HF75.out; omega : gf < ge))))))
        have HB76 := bea HB75 hw_d76
        have HR76 := bka HR75 hw_d76
        have HE76 : Hid (EnE w1.heap.size C c4 n (m * 30) ((rest.map adm).flatMap En.cells) (enF d q0) [] d76) := by rw [hw_d76]; exact HE75.out.next (bel_alloc _ _)
        have HQ76 := bka HQ75 hw_d76
        have HF76 := bka HF75 hw_d76
        have HN76 : Hid (Bk ge (.cells #[.bool false, .string ⟨#[]⟩, .string ⟨#[]⟩] 33) d76) := by rw [hw_d76, hg_ge]; exact blk_new _ _
        rw [← hw_d76]
        (try rw [← hg_ge])
        clear hw_d76 hg_ge HB75 HR75 HE75 HQ75 HF75
        have hS6 := And.intro HF76.out HQ76.out
        refine hK.out _ _ hS6 (fun _ => ?_)
        clear hK K
        refine tr 11 (fun K hK => ?_)
        obtain ⟨c0, c1, c2, fc0, fc1, fc2, hzc⟩ := three_of HN76.out
        go_simp
        clear c0 c1 c2 fc0 fc1 fc2 hzc
        obtain ⟨d77, hw_d77⟩ : ∃ W, W = (((d76.setCell ⟨ge, 0, none⟩ (.bool (rneg e))).setCell ⟨ge, 1, none⟩ (.string (rnum e))).setCell ⟨ge, 2, none⟩ (.string (rden e))) := ⟨_, rfl⟩
        have ho : Only ge d76 d77 := by rw [hw_d77]; exact (((Only.refl _ _).setC _ _).setC _ _).setC _ _
        have HB77 := beo HB76 ho (by have := HLf.out; have := HLr.out; have := HL_ge.out; omega)
        have HR77 := bko HR76 ho (by have := HLf.out; have := HLr.out; have := HL_ge.out; omega)
        have HE77 : Hid (EnE w1.heap.size C c4 n (m * 30) ((rest.map adm).flatMap En.cells) (enF d q0) [] d77) := HE76.out.only ho (by have := HLf.out; have := HLr.out; have := HL_ge.out; omega)
        have HQ77 := bko HQ76 ho (by have := HLf.out; have := HLr.out; have := HL_ge.out; omega)
        have HF77 := bko HF76 ho (by have := HLf.out; have := HLr.out; have := HL_ge.out; omega)
        have HN77 : Hid (Bk ge (.cells #[.bool (rneg e), .string (rnum e), .string (rden e)] 33) d77) := by rw [hw_d77]; exact heap_setCell_same _ ge 2 _ _ (.string (rden e)) (heap_setCell_same _ ge 1 _ _ (.string (rnum e)) (heap_setCell_same _ ge 0 _ _ (.bool (rneg e)) (HN76.out)))
        rw [← hw_d77]
        clear hw_d77 ho HN76 HB76 HR76 HE76 HQ76 HF76
        have hS7 := And.intro HF77.out HQ77.out
        refine hK.out _ _ hS7 (fun _ => ?_)
        clear hK K
        refine wpAnyH_done (by kernel_rfl) ?_ _
        (try go_wp2_with fail)
        go_meet
        exact ⟨ge, rfl, HN77.out, HF77.out, HR77.out, HE77.out, HB77.out, (by have := HL_ge.out; omega), (by have := HL_ge.out; omega), (by have := HL_ge.out; omega), (by have := HL_ge.out; omega)⟩
       ·
        go_simp
        obtain ⟨ge, hg_ge⟩ : ∃ g, g = d74.heap.size := ⟨_, rfl⟩
        obtain ⟨d75, hw_d75⟩ : ∃ W, W = d74.alloc (.cells #[.bool false, .string ⟨#[]⟩, .string ⟨#[]⟩] 33) := ⟨_, rfl⟩
        have HL_ge := Lib.hid (And.intro (by have := HB74.out.size; omega : w1.heap.size ≤ ge) (And.intro (by have := blk_lt HR74.out; omega : gr < ge) (And.intro (by have := HE74.out.lt; omega : C < ge) (And.intro (by have := blk_lt HQ74.out; omega : gc < ge) ((by have := blk_lt HF74.out; omega : gf < ge))))))
        have HB75 := bea HB74 hw_d75
        have HR75 := bka HR74 hw_d75
        have HE75 : Hid (EnE w1.heap.size C c4 n (m * 30) ((rest.map adm).flatMap En.cells) (enF d q0) [] d75) := by rw [hw_d75]; exact HE74.out.next (bel_alloc _ _)
        have HQ75 := bka HQ74 hw_d75
        have HF75 := bka HF74 hw_d75
        have HN75 : Hid (Bk ge (.cells #[.bool false, .string ⟨#[]⟩, .string ⟨#[]⟩] 33) d75) := by rw [hw_d75, hg_ge]; exact blk_new _ _
        rw [← hw_d75]
        (try rw [← hg_ge])
        clear hw_d75 hg_ge HB74 HR74 HE74 HQ74 HF74
        have hS5 := And.intro HF75.out HQ75.out
        refine hK.out _ _ hS5 (fun _ => ?_)
        clear hK K
        refine tr 9 (fun K hK => ?_)
        go_simp
        refine (HAD.out _).mono ?_
        rintro ee d76 ⟨rfl, hb⟩
        have HB76 := ben HB75 hb
        have HR76 := bkn HR75 hb
        have HE76 : Hid (EnE w1.heap.size C c4 n (m * 30) ((rest.map adm).flatMap En.cells) (enF d q0) [] d76) := HE75.out.next hb
        have HQ76 := bkn HQ75 hb
        have HF76 := bkn HF75 hb
        have HN76 := bkn HN75 hb
        clear hb HB75 HR75 HE75 HQ75 HF75 HN75
        have hS6 := And.intro HF76.out HQ76.out
        refine hK.out _ _ hS6 (fun _ => ?_)
        clear hK K
        refine tr 11 (fun K hK => ?_)
        obtain ⟨c0, c1, c2, fc0, fc1, fc2, hzc⟩ := three_of HN76.out
        go_simp
        clear c0 c1 c2 fc0 fc1 fc2 hzc
        obtain ⟨d77, hw_d77⟩ : ∃ W, W = (((d76.setCell ⟨ge, 0, none⟩ (.bool (rneg e))).setCell ⟨ge, 1, none⟩ (.string (rnum e))).setCell ⟨ge, 2, none⟩ (.string (rden e))) := ⟨_, rfl⟩
        have ho : Only ge d76 d77 := by rw [hw_d77]; exact (((Only.refl _ _).setC _ _).setC _ _).setC _ _
        have HB77 := beo HB76 ho (by have := HLf.out; have := HLr.out; have := HL_ge.out; omega)
        have HR77 := bko HR76 ho (by have := HLf.out; have := HLr.out; have := HL_ge.out; omega)
        have HE77 : Hid (EnE w1.heap.size C c4 n (m * 30) ((rest.map adm).flatMap En.cells) (enF d q0) [] d77) := HE76.out.only ho (by have := HLf.out; have := HLr.out; have := HL_ge.out; omega)
        have HQ77 := bko HQ76 ho (by have := HLf.out; have := HLr.out; have := HL_ge.out; omega)
        have HF77 := bko HF76 ho (by have := HLf.out; have := HLr.out; have := HL_ge.out; omega)
        have HN77 : Hid (Bk ge (.cells #[.bool (rneg e), .string (rnum e), .string (rden e)] 33) d77) := by rw [hw_d77]; exact heap_setCell_same _ ge 2 _ _ (.string (rden e)) (heap_setCell_same _ ge 1 _ _ (.string (rnum e)) (heap_setCell_same _ ge 0 _ _ (.bool (rneg e)) (HN76.out)))
        rw [← hw_d77]
        clear hw_d77 ho HN76 HB76 HR76 HE76 HQ76 HF76
        have hS7 := And.intro HF77.out HQ77.out
        refine hK.out _ _ hS7 (fun _ => ?_)
        clear hK K
        refine wpAnyH_done (by kernel_rfl) ?_ _
        (try go_wp2_with fail)
        go_meet
        exact ⟨ge, rfl, HN77.out, HF77.out, HR77.out, HE77.out, HB77.out, (by have := HL_ge.out; omega), (by have := HL_ge.out; omega), (by have := HL_ge.out; omega), (by have := HL_ge.out; omega)⟩
      ·
       go_simp
       obtain ⟨ge, hg_ge⟩ : ∃ g, g = d73.heap.size := ⟨_, rfl⟩
       obtain ⟨d74, hw_d74⟩ : ∃ W, W = d73.alloc (.cells #[.bool false, .string ⟨#[]⟩, .string ⟨#[]⟩] 33) := ⟨_, rfl⟩
       have HL_ge := Lib.hid (And.intro (by have := HB73.out.size; omega : w1.heap.size ≤ ge) (And.intro (by have := blk_lt HR73.out; omega : gr < ge) (And.intro (by have := HE73.out.lt; omega : C < ge) (And.intro (by have := blk_lt HQ73.out; omega : gc < ge) ((by have := blk_lt HF73.out; omega : gf < ge))))))
       have HB74 := bea HB73 hw_d74
       have HR74 := bka HR73 hw_d74
       have HE74 : Hid (EnE w1.heap.size C c4 n (m * 30) ((rest.map adm).flatMap En.cells) (enF d q0) [] d74) := by rw [hw_d74]; exact HE73.out.next (bel_alloc _ _)
       have HQ74 := bka HQ73 hw_d74
       have HF74 := bka HF73 hw_d74
       have HN74 : Hid (Bk ge (.cells #[.bool false, .string ⟨#[]⟩, .string ⟨#[]⟩] 33) d74) := by rw [hw_d74, hg_ge]; exact blk_new _ _
       rw [← hw_d74]
       (try rw [← hg_ge])
       clear hw_d74 hg_ge HB73 HR73 HE73 HQ73 HF73
       have hS4 := And.intro HF74.out HQ74.out
       refine hK.out _ _ hS4 (fun _ => ?_)
       clear hK K
       refine tr 8 (fun K hK => ?_)
       go_simp
       refine (HMM.out _).mono ?_
       rintro ee d75 ⟨rfl, hb⟩
       have HB75 := ben HB74 hb
       have HR75 := bkn HR74 hb
       have HE75 : Hid (EnE w1.heap.size C c4 n (m * 30) ((rest.map adm).flatMap En.cells) (enF d q0) [] d75) := HE74.out.next hb
       have HQ75 := bkn HQ74 hb
       have HF75 := bkn HF74 hb
       have HN75 := bkn HN74 hb
       clear hb HB74 HR74 HE74 HQ74 HF74 HN74
       have hS5 := And.intro HF75.out HQ75.out
       refine hK.out _ _ hS5 (fun _ => ?_)
       clear hK K
       refine tr 9 (fun K hK => ?_)
       go_simp
       refine (HAD.out _).mono ?_
       rintro ee d76 ⟨rfl, hb⟩
       have HB76 := ben HB75 hb
       have HR76 := bkn HR75 hb
       have HE76 : Hid (EnE w1.heap.size C c4 n (m * 30) ((rest.map adm).flatMap En.cells) (enF d q0) [] d76) := HE75.out.next hb
       have HQ76 := bkn HQ75 hb
       have HF76 := bkn HF75 hb
       have HN76 := bkn HN75 hb
       clear hb HB75 HR75 HE75 HQ75 HF75 HN75
       have hS6 := And.intro HF76.out HQ76.out
       refine hK.out _ _ hS6 (fun _ => ?_)
       clear hK K
       refine tr 11 (fun K hK => ?_)
       obtain ⟨c0, c1, c2, fc0, fc1, fc2, hzc⟩ := three_of HN76.out
       go_simp
       clear c0 c1 c2 fc0 fc1 fc2 hzc
       obtain ⟨d77, hw_d77⟩ : ∃ W, W = (((d76.setCell ⟨ge, 0, none⟩ (.bool (rneg e))).setCell ⟨ge, 1, none⟩ (.string (rnum e))).setCell ⟨ge, 2, none⟩ (.string (rden e))) := ⟨_, rfl⟩
       have ho : Only ge d76 d77 := by rw [hw_d77]; exact (((Only.refl _ _).setC _ _).setC _ _).setC _ _
       have HB77 := beo HB76 ho (by have := HLf.out; have := HLr.out; have := HL_ge.out; omega)
       have HR77 := bko HR76 ho (by have := HLf.out; have := HLr.out; have := HL_ge.out; omega)
       have HE77 : Hid (EnE w1.heap.size C c4 n (m * 30) ((rest.map adm).flatMap En.cells) (enF d q0) [] d77) := HE76.out.only ho (by have := HLf.out; have := HLr.out; have := HL_ge.out; omega)
       have HQ77 := bko HQ76 ho (by have := HLf.out; have := HLr.out; have := HL_ge.out; omega)
       have HF77 := bko HF76 ho (by have := HLf.out; have := HLr.out; have := HL_ge.out; omega)
       have HN77 : Hid (Bk ge (.cells #[.bool (rneg e), .string (rnum e), .string (rden e)] 33) d77) := by rw [hw_d77]; exact heap_setCell_same _ ge 2 _ _ (.string (rden e)) (heap_setCell_same _ ge 1 _ _ (.string (rnum e)) (heap_setCell_same _ ge 0 _ _ (.bool (rneg e)) (HN76.out)))
       rw [← hw_d77]
       clear hw_d77 ho HN76 HB76 HR76 HE76 HQ76 HF76
       have hS7 := And.intro HF77.out HQ77.out
       refine hK.out _ _ hS7 (fun _ => ?_)
       clear hK K
       refine wpAnyH_done (by kernel_rfl) ?_ _
       (try go_wp2_with fail)
       go_meet
       exact ⟨ge, rfl, HN77.out, HF77.out, HR77.out, HE77.out, HB77.out, (by have := HL_ge.out; omega), (by have := HL_ge.out; omega), (by have := HL_ge.out; omega), (by have := HL_ge.out; omega)⟩
     ·
      go_simp
      obtain ⟨ge, hg_ge⟩ : ∃ g, g = d72.heap.size := ⟨_, rfl⟩
      obtain ⟨d73, hw_d73⟩ : ∃ W, W = d72.alloc (.cells #[.bool false, .string ⟨#[]⟩, .string ⟨#[]⟩] 33) := ⟨_, rfl⟩
      have HL_ge := Lib.hid (And.intro (by have := HB72.out.size; omega : w1.heap.size ≤ ge) (And.intro (by have := blk_lt HR72.out; omega : gr < ge) (And.intro (by have := HE72.out.lt; omega : C < ge) (And.intro (by have := blk_lt HQ72.out; omega : gc < ge) ((by have := blk_lt HF72.out; omega : gf < ge))))))
      have HB73 := bea HB72 hw_d73
      have HR73 := bka HR72 hw_d73
      have HE73 : Hid (EnE w1.heap.size C c4 n (m * 30) ((rest.map adm).flatMap En.cells) (enF d q0) [] d73) := by rw [hw_d73]; exact HE72.out.next (bel_alloc _ _)
      have HQ73 := bka HQ72 hw_d73
      have HF73 := bka HF72 hw_d73
      have HN73 : Hid (Bk ge (.cells #[.bool false, .string ⟨#[]⟩, .string ⟨#[]⟩] 33) d73) := by rw [hw_d73, hg_ge]; exact blk_new _ _
      rw [← hw_d73]
      (try rw [← hg_ge])
      clear hw_d73 hg_ge HB72 HR72 HE72 HQ72 HF72
      have hS3 := And.intro HF73.out HQ73.out
      refine hK.out _ _ hS3 (fun _ => ?_)
      clear hK K
      refine tr 7 (fun K hK => ?_)
      go_simp
      refine (HRU.out _).mono ?_
      rintro ee d74 ⟨rfl, hb⟩
      have HB74 := ben HB73 hb
      have HR74 := bkn HR73 hb
      have HE74 : Hid (EnE w1.heap.size C c4 n (m * 30) ((rest.map adm).flatMap En.cells) (enF d q0) [] d74) := HE73.out.next hb
      have HQ74 := bkn HQ73 hb
      have HF74 := bkn HF73 hb
      have HN74 := bkn HN73 hb
      clear hb HB73 HR73 HE73 HQ73 HF73 HN73
      have hS4 := And.intro HF74.out HQ74.out
      refine hK.out _ _ hS4 (fun _ => ?_)
      clear hK K
      refine tr 8 (fun K hK => ?_)
      go_simp
      refine (HMM.out _).mono ?_
      rintro ee d75 ⟨rfl, hb⟩
      have HB75 := ben HB74 hb
      have HR75 := bkn HR74 hb
      have HE75 : Hid (EnE w1.heap.size C c4 n (m * 30) ((rest.map adm).flatMap En.cells) (enF d q0) [] d75) := HE74.out.next hb
      have HQ75 := bkn HQ74 hb
      have HF75 := bkn HF74 hb
      have HN75 := bkn HN74 hb
      clear hb HB74 HR74 HE74 HQ74 HF74 HN74
      have hS5 := And.intro HF75.out HQ75.out
      refine hK.out _ _ hS5 (fun _ => ?_)
      clear hK K
      refine tr 9 (fun K hK => ?_)
      go_simp
      refine (HAD.out _).mono ?_
      rintro ee d76 ⟨rfl, hb⟩
      have HB76 := ben HB75 hb
      have HR76 := bkn HR75 hb
      have HE76 : Hid (EnE w1.heap.size C c4 n (m * 30) ((rest.map adm).flatMap En.cells) (enF d q0) [] d76) := HE75.out.next hb
      have HQ76 := bkn HQ75 hb
      have HF76 := bkn HF75 hb
      have HN76 := bkn HN75 hb
      clear hb HB75 HR75 HE75 HQ75 HF75 HN75
      have hS6 := And.intro HF76.out HQ76.out
      refine hK.out _ _ hS6 (fun _ => ?_)
      clear hK K
      refine tr 11 (fun K hK => ?_)
      obtain ⟨c0, c1, c2, fc0, fc1, fc2, hzc⟩ := three_of HN76.out
      go_simp
      clear c0 c1 c2 fc0 fc1 fc2 hzc
      obtain ⟨d77, hw_d77⟩ : ∃ W, W = (((d76.setCell ⟨ge, 0, none⟩ (.bool (rneg e))).setCell ⟨ge, 1, none⟩ (.string (rnum e))).setCell ⟨ge, 2, none⟩ (.string (rden e))) := ⟨_, rfl⟩
      have ho : Only ge d76 d77 := by rw [hw_d77]; exact (((Only.refl _ _).setC _ _).setC _ _).setC _ _
      have HB77 := beo HB76 ho (by have := HLf.out; have := HLr.out; have := HL_ge.out; omega)
      have HR77 := bko HR76 ho (by have := HLf.out; have := HLr.out; have := HL_ge.out; omega)
      have HE77 : Hid (EnE w1.heap.size C c4 n (m * 30) ((rest.map adm).flatMap En.cells) (enF d q0) [] d77) := HE76.out.only ho (by have := HLf.out; have := HLr.out; have := HL_ge.out; omega)
      have HQ77 := bko HQ76 ho (by have := HLf.out; have := HLr.out; have := HL_ge.out; omega)
      have HF77 := bko HF76 ho (by have := HLf.out; have := HLr.out; have := HL_ge.out; omega)
      have HN77 : Hid (Bk ge (.cells #[.bool (rneg e), .string (rnum e), .string (rden e)] 33) d77) := by rw [hw_d77]; exact heap_setCell_same _ ge 2 _ _ (.string (rden e)) (heap_setCell_same _ ge 1 _ _ (.string (rnum e)) (heap_setCell_same _ ge 0 _ _ (.bool (rneg e)) (HN76.out)))
      rw [← hw_d77]
      clear hw_d77 ho HN76 HB76 HR76 HE76 HQ76 HF76
      have hS7 := And.intro HF77.out HQ77.out
      refine hK.out _ _ hS7 (fun _ => ?_)
      clear hK K
      refine wpAnyH_done (by kernel_rfl) ?_ _
      (try go_wp2_with fail)
      go_meet
      exact ⟨ge, rfl, HN77.out, HF77.out, HR77.out, HE77.out, HB77.out, (by have := HL_ge.out; omega), (by have := HL_ge.out; omega), (by have := HL_ge.out; omega), (by have := HL_ge.out; omega)⟩
    ·
     go_simp
     obtain ⟨ge, hg_ge⟩ : ∃ g, g = d71.heap.size := ⟨_, rfl⟩
     obtain ⟨d72, hw_d72⟩ : ∃ W, W = d71.alloc (.cells #[.bool false, .string ⟨#[]⟩, .string ⟨#[]⟩] 33) := ⟨_, rfl⟩
     have HL_ge := Lib.hid (And.intro (by have := HB71.out.size; omega : w1.heap.size ≤ ge) (And.intro (by have := blk_lt HR71.out; omega : gr < ge) (And.intro (by have := HE71.out.lt; omega : C < ge) (And.intro (by have := blk_lt HQ71.out; omega : gc < ge) ((by have := blk_lt HF71.out; omega : gf < ge))))))
     have HB72 := bea HB71 hw_d72
     have HR72 := bka HR71 hw_d72
     have HE72 : Hid (EnE w1.heap.size C c4 n (m * 30) ((rest.map adm).flatMap En.cells) (enF d q0) [] d72) := by rw [hw_d72]; exact HE71.out.next (bel_alloc _ _)
     have HQ72 := bka HQ71 hw_d72
     have HF72 := bka HF71 hw_d72
     have HN72 : Hid (Bk ge (.cells #[.bool false, .string ⟨#[]⟩, .string ⟨#[]⟩] 33) d72) := by rw [hw_d72, hg_ge]; exact blk_new _ _
     rw [← hw_d72]
     (try rw [← hg_ge])
     clear hw_d72 hg_ge HB71 HR71 HE71 HQ71 HF71
     have hS2 := And.intro HF72.out HQ72.out
     refine hK.out _ _ hS2 (fun _ => ?_)
     clear hK K
     refine tr 3 (fun K hK => ?_)
     go_simp
     refine (HSB.out _).mono ?_
     rintro ee d73 ⟨rfl, hb⟩
     have HB73 := ben HB72 hb
     have HR73 := bkn HR72 hb
     have HE73 : Hid (EnE w1.heap.size C c4 n (m * 30) ((rest.map adm).flatMap En.cells) (enF d q0) [] d73) := HE72.out.next hb
     have HQ73 := bkn HQ72 hb
     have HF73 := bkn HF72 hb
     have HN73 := bkn HN72 hb
     clear hb HB72 HR72 HE72 HQ72 HF72 HN72
     have hS3 := And.intro HF73.out HQ73.out
     refine hK.out _ _ hS3 (fun _ => ?_)
     clear hK K
     refine tr 7 (fun K hK => ?_)
     go_simp
     refine (HRU.out _).mono ?_
     rintro ee d74 ⟨rfl, hb⟩
     have HB74 := ben HB73 hb
     have HR74 := bkn HR73 hb
     have HE74 : Hid (EnE w1.heap.size C c4 n (m * 30) ((rest.map adm).flatMap En.cells) (enF d q0) [] d74) := HE73.out.next hb
     have HQ74 := bkn HQ73 hb
     have HF74 := bkn HF73 hb
     have HN74 := bkn HN73 hb
     clear hb HB73 HR73 HE73 HQ73 HF73 HN73
     have hS4 := And.intro HF74.out HQ74.out
     refine hK.out _ _ hS4 (fun _ => ?_)
     clear hK K
     refine tr 8 (fun K hK => ?_)
     go_simp
     refine (HMM.out _).mono ?_
     rintro ee d75 ⟨rfl, hb⟩
     have HB75 := ben HB74 hb
     have HR75 := bkn HR74 hb
     have HE75 : Hid (EnE w1.heap.size C c4 n (m * 30) ((rest.map adm).flatMap En.cells) (enF d q0) [] d75) := HE74.out.next hb
     have HQ75 := bkn HQ74 hb
     have HF75 := bkn HF74 hb
     have HN75 := bkn HN74 hb
     clear hb HB74 HR74 HE74 HQ74 HF74 HN74
     have hS5 := And.intro HF75.out HQ75.out
     refine hK.out _ _ hS5 (fun _ => ?_)
     clear hK K
     refine tr 9 (fun K hK => ?_)
     go_simp
     refine (HAD.out _).mono ?_
     rintro ee d76 ⟨rfl, hb⟩
     have HB76 := ben HB75 hb
     have HR76 := bkn HR75 hb
     have HE76 : Hid (EnE w1.heap.size C c4 n (m * 30) ((rest.map adm).flatMap En.cells) (enF d q0) [] d76) := HE75.out.next hb
     have HQ76 := bkn HQ75 hb
     have HF76 := bkn HF75 hb
     have HN76 := bkn HN75 hb
     clear hb HB75 HR75 HE75 HQ75 HF75 HN75
     have hS6 := And.intro HF76.out HQ76.out
     refine hK.out _ _ hS6 (fun _ => ?_)
     clear hK K
     refine tr 11 (fun K hK => ?_)
     obtain ⟨c0, c1, c2, fc0, fc1, fc2, hzc⟩ := three_of HN76.out
     go_simp
     clear c0 c1 c2 fc0 fc1 fc2 hzc
     obtain ⟨d77, hw_d77⟩ : ∃ W, W = (((d76.setCell ⟨ge, 0, none⟩ (.bool (rneg e))).setCell ⟨ge, 1, none⟩ (.string (rnum e))).setCell ⟨ge, 2, none⟩ (.string (rden e))) := ⟨_, rfl⟩
     have ho : Only ge d76 d77 := by rw [hw_d77]; exact (((Only.refl _ _).setC _ _).setC _ _).setC _ _
     have HB77 := beo HB76 ho (by have := HLf.out; have := HLr.out; have := HL_ge.out; omega)
     have HR77 := bko HR76 ho (by have := HLf.out; have := HLr.out; have := HL_ge.out; omega)
     have HE77 : Hid (EnE w1.heap.size C c4 n (m * 30) ((rest.map adm).flatMap En.cells) (enF d q0) [] d77) := HE76.out.only ho (by have := HLf.out; have := HLr.out; have := HL_ge.out; omega)
     have HQ77 := bko HQ76 ho (by have := HLf.out; have := HLr.out; have := HL_ge.out; omega)
     have HF77 := bko HF76 ho (by have := HLf.out; have := HLr.out; have := HL_ge.out; omega)
     have HN77 : Hid (Bk ge (.cells #[.bool (rneg e), .string (rnum e), .string (rden e)] 33) d77) := by rw [hw_d77]; exact heap_setCell_same _ ge 2 _ _ (.string (rden e)) (heap_setCell_same _ ge 1 _ _ (.string (rnum e)) (heap_setCell_same _ ge 0 _ _ (.bool (rneg e)) (HN76.out)))
     rw [← hw_d77]
     clear hw_d77 ho HN76 HB76 HR76 HE76 HQ76 HF76
     have hS7 := And.intro HF77.out HQ77.out
     refine hK.out _ _ hS7 (fun _ => ?_)
     clear hK K
     refine wpAnyH_done (by kernel_rfl) ?_ _
     (try go_wp2_with fail)
     go_meet
     exact ⟨ge, rfl, HN77.out, HF77.out, HR77.out, HE77.out, HB77.out, (by have := HL_ge.out; omega), (by have := HL_ge.out; omega), (by have := HL_ge.out; omega), (by have := HL_ge.out; omega)⟩
  obtain ⟨ge, rfl, hn, hq, hr, he, hb, l1, l2, l3, l4⟩ := hcut
  clear HB1 HR1 HE1 HQ1 HN1
  rename World => wc0
  have HG1 := Lib.hid hn
  have HF1 := Lib.hid hq
  have HR1 := Lib.hid hr
  have HB1 := Lib.hid hb
  have HE1 : Hid (EnR w1.heap.size (some ⟨C, 0, none⟩) n c4 (rest.map adm ++ [enF d q0]) wc0) := he.row
  have HLe := Lib.hid (And.intro l1 (And.intro l2 (And.intro l3 l4)))
  clear hn hq hr he hb l1 l2 l3 l4 HRU HSB HMM HAD ea ea' ua ua' ub ub'
  have HDa : Hid (DRg b (off + i * 14) d wc0) := HDR1.out.next HB1.out
  have HLM : Hid ((rest.map adm).length = m) := by show _ = _; rw [List.length_map]; exact HRM.out
  have HF9 : Hid (∀ z ∈ rest.map adm, z.doc.id ≠ d.id) := fun x hx => by obtain ⟨z, hz, rfl⟩ := List.mem_map.1 hx; exact HFR.out z hz
  have h3' := fun A c W (h : EnR w1.heap.size A n c (rest.map adm ++ [enF d q0]) W) => dspC_calls (rest.map adm) (enF d q0) (enP d q0 f) m n HLM.out HMN.out hn8 HF9.out 3 160 161 d.id f A c w1.heap.size W rfl h (by decide) (by decide) (by decide) (by decide) (by decide) (fun C c1 W K0 pre post h => change3_calls _ C c1 n K0 pre post (enF d q0) 161 d.id f 143 W h HFE.out.2.1 rfl HFE.out.2.2.2 HFE.out.1.1 (by have := HFE.out.1; exact Rat.le_trans this.2.1 this.2.2) (by decide) (by decide))
  have h4' := fun A c W (h : EnR w1.heap.size A n c (rest.map adm ++ [enP d q0 f]) W) => dspC_calls (rest.map adm) (enP d q0 f) (enD d q0 f e) m n HLM.out HMN.out hn8 HF9.out 4 161 162 d.id e A c w1.heap.size W rfl h (by decide) (by decide) (by decide) (by decide) (by decide) (fun C c1 W K0 pre post h => change4_calls _ C c1 n K0 pre post (enP d q0 f) 162 d.id e 143 W h HFE.out.2.2.1 rfl HFE.out.2.1 HFE.out.2.2.2 HFE.out.1.2.1 HFE.out.1.2.2 (by decide) (by decide))
  unfold APost at h3' h4'
  have H3 := Lib.hid h3'
  have H4 := Lib.hid h4'
  clear h3' h4'
  go_upto_region 12 with fail
  obtain ⟨f91, hw_f91⟩ : ∃ W, W = wc0.drew := ⟨_, rfl⟩
  have HB91 := bed HB1 hw_f91
  have HR91 := bkd HR1 hw_f91
  have HE91 : Hid (EnR w1.heap.size (some ⟨C, 0, none⟩) n c4 (rest.map adm ++ [enF d q0]) f91) := by rw [hw_f91]; exact HE1.out
  have HF91 := bkd HF1 hw_f91
  have HG91 := bkd HG1 hw_f91
  have HD91 : Hid (DRg b (off + i * 14) d f91) := by rw [hw_f91]; exact HDa.out.drew
  have hS1 := And.intro HD91.out HF91.out
  refine wp_region_held_drew (S := (AndW (DRg b (off + i * 14) d) (Bk gf (.cells #[.bool (rneg f), .string (rnum f), .string (rden f)] 33)))) (by kernel_rfl) (by rw [← hw_f91]; exact hS1) ?_
  rw [← hw_f91]
  intro _
  clear hw_f91 HB1 HR1 HE1 HF1 HG1 HDa
  refine tk 1 hS1 ?_
  go_simp
  refine tk 2 hS1 ?_
  go_simp
  refine tv 3 (.pointer (some ⟨b, off + i * 14, none⟩)) rfl (by intro w' hw'; skip; go_simp) hS1 ?_
  go_simp
  refine tk 4 hS1 ?_
  go_simp
  refine tv 5 (.string d.id) rfl (by intro w' hw'; have k0 := hw'.1.id; go_simp) hS1 ?_
  go_simp
  refine tv 6 (.agg #[.bool (rneg f), .string (rnum f), .string (rden f)]) rfl (by intro w' hw'; obtain ⟨k0, k1, k2, fk0, fk1, fk2, hzk⟩ := three_of hw'.2; go_simp) hS1 ?_
  go_simp
  refine tk 7 hS1 ?_
  go_simp
  refine tr 0 (fun K hK => ?_)
  obtain ⟨r0, r1, r2, r3, _, _, _, _, _⟩ := four_of HR91.out
  go_simp
  clear r0 r1 r2 r3
  have hS2 := And.intro HD91.out HF91.out
  refine hK.out _ _ hS2 (fun _ => ?_)
  clear hK K
  refine tr 8 (fun K hK => ?_)
  go_simp
  refine (H3.out (some ⟨C, 0, none⟩) c4 _ HE91.out).mono ?_
  rintro ee f92 ⟨A5, c5, rfl, hen, hb⟩
  have HB92 := ben HB91 hb
  have HR92 := bkn HR91 hb
  have HF92 := bkn HF91 hb
  have HG92 := bkn HG91 hb
  have HD92 : Hid (DRg b (off + i * 14) d f92) := HD91.out.next hb
  have HE3 : Hid (EnR w1.heap.size A5 n c5 (rest.map adm ++ [enP d q0 f]) f92) := own_mono hen HB91.out.size
  clear hen
  clear hb HB91 HR91 HE91 HF91 HG91 HD91
  have hS3 := And.intro HD92.out HF92.out
  refine hK.out _ _ hS3 (fun _ => ?_)
  clear hK K
  refine tk 9 hS3 ?_
  go_simp
  refine tk 10 hS3 ?_
  go_simp
  refine tk 11 hS3 ?_
  go_simp
  have HBLK := HR92
  refine tr 12 (fun K hK => ?_)
  obtain ⟨r0, r1, r2, r3, rf0, rf1, rf2, rf3, rz⟩ := four_of HR92.out
  go_simp
  clear r0 r1 r2 r3 rf0 rf1 rf2 rf3 rz
  obtain ⟨f93, hw_f93⟩ : ∃ W, W = ((((f92.setCell ⟨gr, 0, none⟩ (.int .i64 100)).setCell ⟨gr, 1, none⟩ (.int .i64 200)).setCell ⟨gr, 2, none⟩ (.int .i64 161)).setCell ⟨gr, 3, none⟩ (.slice A5 n c5)) := ⟨_, rfl⟩
  have ho : Only gr f92 f93 := by rw [hw_f93]; exact ((((Only.refl _ _).setC _ _).setC _ _).setC _ _).setC _ _
  have HB93 := beo HB92 ho (by have := HLe.out; have := HLf.out; have := HLr.out; have := HDL.out; omega)
  have HF93 := bko HF92 ho (by have := HLe.out; have := HLf.out; have := HLr.out; have := HDL.out; omega)
  have HG93 := bko HG92 ho (by have := HLe.out; have := HLf.out; have := HLr.out; have := HDL.out; omega)
  have HD93 : Hid (DRg b (off + i * 14) d f93) := HD92.out.only ho (by have := HLe.out; have := HLf.out; have := HLr.out; have := HDL.out; omega)
  have HE93 : Hid (EnR w1.heap.size A5 n c5 (rest.map adm ++ [enP d q0 f]) f93) := own_onlyT HE3.out ho HBLK.out (by decide)
  have HR93 : Hid (Bk gr (.cells #[.int .i64 100, .int .i64 200, .int .i64 161, .slice A5 n c5] 57) f93) := by rw [hw_f93]; exact heap_setCell_same _ gr 3 _ _ (.slice A5 n c5) (heap_setCell_same _ gr 2 _ _ (.int .i64 161) (heap_setCell_same _ gr 1 _ _ (.int .i64 200) (heap_setCell_same _ gr 0 _ _ (.int .i64 100) (HR92.out))))
  rw [← hw_f93]
  clear hw_f93 ho HR92 HB92 HF92 HG92 HD92 HE3
  clear HBLK
  have hS4 := And.intro HD93.out HF93.out
  refine hK.out _ _ hS4 (fun _ => ?_)
  clear hK K
  refine tk 13 hS4 ?_
  go_simp
  refine wpAnyH_done (by kernel_rfl) ?_ _
  go_upto_region 13 with fail
  obtain ⟨f94, hw_f94⟩ : ∃ W, W = f93.drew := ⟨_, rfl⟩
  have HB94 := bed HB93 hw_f94
  have HR94 := bkd HR93 hw_f94
  have HF94 := bkd HF93 hw_f94
  have HG94 := bkd HG93 hw_f94
  have HD94 : Hid (DRg b (off + i * 14) d f94) := by rw [hw_f94]; exact HD93.out.drew
  have HE94 : Hid (EnR w1.heap.size A5 n c5 (rest.map adm ++ [enP d q0 f]) f94) := by rw [hw_f94]; exact HE93.out
  have hS5 := And.intro HD94.out HG94.out
  refine wp_region_held_drew (S := (AndW (DRg b (off + i * 14) d) (Bk ge (.cells #[.bool (rneg e), .string (rnum e), .string (rden e)] 33)))) (by kernel_rfl) (by rw [← hw_f94]; exact hS5) ?_
  rw [← hw_f94]
  intro _
  clear hw_f94 HB93 HR93 HF93 HG93 HD93 HE93
  refine tk 1 hS5 ?_
  go_simp
  refine tk 2 hS5 ?_
  go_simp
  refine tv 3 (.pointer (some ⟨b, off + i * 14, none⟩)) rfl (by intro w' hw'; skip; go_simp) hS5 ?_
  go_simp
  refine tk 4 hS5 ?_
  go_simp
  refine tv 5 (.string d.id) rfl (by intro w' hw'; have k0 := hw'.1.id; go_simp) hS5 ?_
  go_simp
  refine tv 6 (.agg #[.bool (rneg e), .string (rnum e), .string (rden e)]) rfl (by intro w' hw'; obtain ⟨k0, k1, k2, fk0, fk1, fk2, hzk⟩ := three_of hw'.2; go_simp) hS5 ?_
  go_simp
  refine tk 7 hS5 ?_
  go_simp
  refine tr 0 (fun K hK => ?_)
  obtain ⟨r0, r1, r2, r3, _, _, _, _, _⟩ := four_of HR94.out
  go_simp
  clear r0 r1 r2 r3
  have hS6 := And.intro HD94.out HG94.out
  refine hK.out _ _ hS6 (fun _ => ?_)
  clear hK K
  refine tr 8 (fun K hK => ?_)
  go_simp
  refine (H4.out A5 c5 _ HE94.out).mono ?_
  rintro ee f95 ⟨A6, c6, rfl, hen, hb⟩
  have HB95 := ben HB94 hb
  have HR95 := bkn HR94 hb
  have HF95 := bkn HF94 hb
  have HG95 := bkn HG94 hb
  have HD95 : Hid (DRg b (off + i * 14) d f95) := HD94.out.next hb
  have HE4 : Hid (EnR w1.heap.size A6 n c6 (rest.map adm ++ [enD d q0 f e]) f95) := own_mono hen HB94.out.size
  clear hen
  clear hb HB94 HR94 HF94 HG94 HD94 HE94
  have hS7 := And.intro HD95.out HG95.out
  refine hK.out _ _ hS7 (fun _ => ?_)
  clear hK K
  refine tk 9 hS7 ?_
  go_simp
  refine tk 10 hS7 ?_
  go_simp
  refine tk 11 hS7 ?_
  go_simp
  have HBLK := HR95
  refine tr 12 (fun K hK => ?_)
  obtain ⟨r0, r1, r2, r3, rf0, rf1, rf2, rf3, rz⟩ := four_of HR95.out
  go_simp
  clear r0 r1 r2 r3 rf0 rf1 rf2 rf3 rz
  obtain ⟨f96, hw_f96⟩ : ∃ W, W = ((((f95.setCell ⟨gr, 0, none⟩ (.int .i64 100)).setCell ⟨gr, 1, none⟩ (.int .i64 200)).setCell ⟨gr, 2, none⟩ (.int .i64 162)).setCell ⟨gr, 3, none⟩ (.slice A6 n c6)) := ⟨_, rfl⟩
  have ho : Only gr f95 f96 := by rw [hw_f96]; exact ((((Only.refl _ _).setC _ _).setC _ _).setC _ _).setC _ _
  have HB96 := beo HB95 ho (by have := HLe.out; have := HLf.out; have := HLr.out; have := HDL.out; omega)
  have HF96 := bko HF95 ho (by have := HLe.out; have := HLf.out; have := HLr.out; have := HDL.out; omega)
  have HG96 := bko HG95 ho (by have := HLe.out; have := HLf.out; have := HLr.out; have := HDL.out; omega)
  have HD96 : Hid (DRg b (off + i * 14) d f96) := HD95.out.only ho (by have := HLe.out; have := HLf.out; have := HLr.out; have := HDL.out; omega)
  have HE96 : Hid (EnR w1.heap.size A6 n c6 (rest.map adm ++ [enD d q0 f e]) f96) := own_onlyT HE4.out ho HBLK.out (by decide)
  have HR96 : Hid (Bk gr (.cells #[.int .i64 100, .int .i64 200, .int .i64 162, .slice A6 n c6] 57) f96) := by rw [hw_f96]; exact heap_setCell_same _ gr 3 _ _ (.slice A6 n c6) (heap_setCell_same _ gr 2 _ _ (.int .i64 162) (heap_setCell_same _ gr 1 _ _ (.int .i64 200) (heap_setCell_same _ gr 0 _ _ (.int .i64 100) (HR95.out))))
  rw [← hw_f96]
  clear hw_f96 ho HR95 HB95 HF95 HG95 HD95 HE4
  clear HBLK
  have hS8 := And.intro HD96.out HG96.out
  refine hK.out _ _ hS8 (fun _ => ?_)
  clear hK K
  refine tk 13 hS8 ?_
  go_simp
  refine wpAnyH_done (by kernel_rfl) ?_ _
  clear H3 H4 HFL
  obtain ⟨y, hy⟩ : ∃ y, y = enD d q0 f e := ⟨_, rfl⟩
  have HY := Lib.hid hy
  rw [← hy] at HE96
  clear hy
  obtain ⟨C2, hA6, hEC⟩ := EnR.last HE96.out HLM.out HMN.out
  subst hA6
  have HEd := Lib.hid hEC
  clear hEC HE96
  have r3 := blk_at (j := 3) HR96.out rfl
  go_upto_region 16 with fail
  clear HF96
  clear HG96
  clear HD96
  have hsc := store_entry f96 y
  have HRA := Lib.hid HEd.out.range
  go_upto_region 17 with (refine wpList_load_mid rfl 67 (.tmp 144) rfl C2 (m * 30) rfl y.cells _ HRA.out Tryz.underlying67 rfl (by kernel_rfl) ?_)
  clear hsc HRA r3
  obtain ⟨gx, hg_gx⟩ : ∃ g, g = f96.heap.size := ⟨_, rfl⟩
  obtain ⟨f97, hw_f97⟩ : ∃ W, W = f96.alloc (.cells y.cells.toArray 67) := ⟨_, rfl⟩
  have HL_gx := Lib.hid (And.intro (by have := HB96.out.size; omega : w1.heap.size ≤ gx) (And.intro (by have := blk_lt HR96.out; omega : gr < gx) ((by have := HEd.out.lt; omega : C2 < gx))))
  have HB97 := bea HB96 hw_f97
  have HR97 := bka HR96 hw_f97
  have HE97 : Hid (EnE w1.heap.size C2 c6 n (m * 30) ((rest.map adm).flatMap En.cells) y [] f97) := by rw [hw_f97]; exact HEd.out.next (bel_alloc _ _)
  have HX97 : Hid (Bk gx (.cells y.cells.toArray 67) f97) := by rw [hw_f97, hg_gx]; exact blk_new _ _
  rw [← hw_f97]
  (try rw [← hg_gx])
  clear hw_f97 hg_gx HB96 HR96 HEd
  go_upto_region 18 with fail
  obtain ⟨gg, hg_gg⟩ : ∃ g, g = f97.heap.size := ⟨_, rfl⟩
  obtain ⟨f98, hw_f98⟩ : ∃ W, W = f97.alloc (.cells #[.slice none 0 0, .slice none 0 0, .slice none 0 0] 69) := ⟨_, rfl⟩
  have HL_gg := Lib.hid (And.intro (by have := HB97.out.size; omega : w1.heap.size ≤ gg) (And.intro (by have := blk_lt HR97.out; omega : gr < gg) (And.intro (by have := HE97.out.lt; omega : C2 < gg) ((by have := blk_lt HX97.out; omega : gx < gg)))))
  have HB98 := bea HB97 hw_f98
  have HR98 := bka HR97 hw_f98
  have HE98 : Hid (EnE w1.heap.size C2 c6 n (m * 30) ((rest.map adm).flatMap En.cells) y [] f98) := by rw [hw_f98]; exact HE97.out.next (bel_alloc _ _)
  have HX98 := bka HX97 hw_f98
  have HG98 : Hid (Bk gg (.cells #[.slice none 0 0, .slice none 0 0, .slice none 0 0] 69) f98) := by rw [hw_f98, hg_gg]; exact blk_new _ _
  rw [← hw_f98]
  (try rw [← hg_gg])
  clear hw_f98 hg_gg HB97 HR97 HE97 HX97
  have HYC : Hid (y.ce = q0 ∧ y.ad = e ∧ y.fl = f) := by rw [HY.out]; exact ⟨rfl, rfl, rfl⟩
  have x25 : f98.cell? ⟨gx, 25, none⟩ = some (.bool (rneg q0)) := by have h := blk_at (j := 25) (v := .bool (rneg y.ce)) HX98.out rfl; rw [HYC.out.1] at h; exact h
  have x26 : f98.cell? ⟨gx, 26, none⟩ = some (.string (rnum q0)) := by have h := blk_at (j := 26) (v := .string (rnum y.ce)) HX98.out rfl; rw [HYC.out.1] at h; exact h
  have x27 : f98.cell? ⟨gx, 27, none⟩ = some (.string (rden q0)) := by have h := blk_at (j := 27) (v := .string (rden y.ce)) HX98.out rfl; rw [HYC.out.1] at h; exact h
  have x22 : f98.cell? ⟨gx, 22, none⟩ = some (.bool (rneg e)) := by have h := blk_at (j := 22) (v := .bool (rneg y.ad)) HX98.out rfl; rw [HYC.out.2.1] at h; exact h
  have x23 : f98.cell? ⟨gx, 23, none⟩ = some (.string (rnum e)) := by have h := blk_at (j := 23) (v := .string (rnum y.ad)) HX98.out rfl; rw [HYC.out.2.1] at h; exact h
  have x24 : f98.cell? ⟨gx, 24, none⟩ = some (.string (rden e)) := by have h := blk_at (j := 24) (v := .string (rden y.ad)) HX98.out rfl; rw [HYC.out.2.1] at h; exact h
  have x19 : f98.cell? ⟨gx, 19, none⟩ = some (.bool (rneg f)) := by have h := blk_at (j := 19) (v := .bool (rneg y.fl)) HX98.out rfl; rw [HYC.out.2.2] at h; exact h
  have x20 : f98.cell? ⟨gx, 20, none⟩ = some (.string (rnum f)) := by have h := blk_at (j := 20) (v := .string (rnum y.fl)) HX98.out rfl; rw [HYC.out.2.2] at h; exact h
  have x21 : f98.cell? ⟨gx, 21, none⟩ = some (.string (rden f)) := by have h := blk_at (j := 21) (v := .string (rden y.fl)) HX98.out rfl; rw [HYC.out.2.2] at h; exact h
  go_wp2_with fail
  clear x25 x26 x27 x22 x23 x24 x19 x20 x21
  obtain ⟨gV, hg_gV⟩ : ∃ g, g = f98.heap.size := ⟨_, rfl⟩
  obtain ⟨f99, hw_f99⟩ : ∃ W, W = f98.alloc (.cells #[.bool (rneg q0), .string (rnum q0), .string (rden q0), .bool (rneg e), .string (rnum e), .string (rden e), .bool (rneg f), .string (rnum f), .string (rden f)] 33) := ⟨_, rfl⟩
  have HL_gV := Lib.hid (And.intro (by have := HB98.out.size; omega : w1.heap.size ≤ gV) (And.intro (by have := blk_lt HR98.out; omega : gr < gV) (And.intro (by have := HE98.out.lt; omega : C2 < gV) (And.intro (by have := blk_lt HX98.out; omega : gx < gV) ((by have := blk_lt HG98.out; omega : gg < gV))))))
  have HB99 := bea HB98 hw_f99
  have HR99 := bka HR98 hw_f99
  have HE99 : Hid (EnE w1.heap.size C2 c6 n (m * 30) ((rest.map adm).flatMap En.cells) y [] f99) := by rw [hw_f99]; exact HE98.out.next (bel_alloc _ _)
  have HX99 := bka HX98 hw_f99
  have HG99 := bka HG98 hw_f99
  have HV99 : Hid (Bk gV (.cells #[.bool (rneg q0), .string (rnum q0), .string (rden q0), .bool (rneg e), .string (rnum e), .string (rden e), .bool (rneg f), .string (rnum f), .string (rden f)] 33) f99) := by rw [hw_f99, hg_gV]; exact blk_new _ _
  rw [← hw_f99]
  (try rw [← hg_gV])
  clear hw_f99 hg_gV HB98 HR98 HE98 HX98 HG98
  clear HX99
  have HYE : Hid (∀ x ∈ rest.map adm ++ [y], x.doc.est = 0 ∧ (x.st != 7) = true ∧ x.late = false) := fun x hx => by
   rcases List.mem_append.1 hx with hx | hx
   ·
    obtain ⟨z, hz, rfl⟩ := List.mem_map.1 hx
    obtain ⟨j, hj⟩ := HRO.out.each z hz
    exact ⟨hj.est, rfl, rfl⟩
   ·
    rw [List.mem_singleton.1 hx, HY.out]
    exact ⟨HDK.out.est, rfl, rfl⟩
  have HL9 : Hid (gr < gg ∧ gg < gV ∧ w1.heap.size ≤ gr) := ⟨by have := HL_gg.out; omega, by have := HL_gV.out; omega, HLr.out⟩
  have HGZ : Hid (GotOk gg m (fun j => othD rest d.rank.toNat (amtD a4) (v3 q0 e f j)) 0 (.slice none 0 0) (.slice none 0 0) (.slice none 0 0) f99) := ⟨fun h => by omega, fun h => by omega, fun h => by omega⟩
  go_loopw [154] (fun s wr => ∃ (k : Nat) (G0 G1 G2 : Value), k ≤ 3 ∧ s = .int .i64 (k : Int) ∧ Hid (GotOk gg m (fun j => othD rest d.rank.toNat (amtD a4) (v3 q0 e f j)) k G0 G1 G2 wr) ∧ Hid (Bk gg (.cells #[G0, G1, G2] 69) wr) ∧ Hid (Bk gr (.cells #[.int .i64 100, .int .i64 200, .int .i64 162, .slice (some ⟨C2, 0, none⟩) n c6] 57) wr) ∧ Hid (EnE w1.heap.size C2 c6 n (m * 30) ((rest.map adm).flatMap En.cells) y [] wr) ∧ Hid (Bk gV (.cells #[.bool (rneg q0), .string (rnum q0), .string (rden q0), .bool (rneg e), .string (rnum e), .string (rden e), .bool (rneg f), .string (rnum f), .string (rden f)] 33) wr) ∧ Hid (Below w1.heap.size w1 wr)) (fun s _ => 3 - (intOf s).toNat)
  case atStart => exact ⟨0, _, _, _, by decide, rfl, HGZ, HG99, HR99, HE99, HV99, HB99⟩
  case round =>
   clear HGZ HG99 HR99 HE99 HV99 HB99
   obtain ⟨k, G0, G1, G2, hk, rfl, HGO, HG, HR, HE, HV1, HB⟩ := hrel
   rename World => wo
   by_cases hlt : k < 3
   ·
    as_aux_lemma =>
     have hlt2 : (k : Int) < 3 := by omega
     obtain ⟨v, hv⟩ : ∃ v, v = v3 q0 e f k := ⟨_, rfl⟩
     have HV := Lib.hid hv
     have hqd := v3_cells HV1.out hlt
     rw [← hv] at hqd
     have HVZ : Hid (Sz 143 v ∧ 0 ≤ v) := by rw [hv]; exact v3_ok (P := fun x => Sz 143 x ∧ 0 ≤ x) ⟨HFE.out.2.2.2, HSZ.out.2⟩ ⟨HFE.out.2.2.1, Rat.le_trans HFE.out.1.1 HFE.out.1.2.1⟩ ⟨HFE.out.2.1, HFE.out.1.1⟩ k
     clear hv
     obtain ⟨p0, p1, p2, _⟩ := hqd
     have HBo : Hid (Below wo.heap.size wo wo) := Below.refl _ _
     go_upto_region 21 with fail
     clear p0 p1 p2
     obtain ⟨gv, hg_gv⟩ : ∃ g, g = wo.heap.size := ⟨_, rfl⟩
     obtain ⟨l121, hw_l121⟩ : ∃ W, W = wo.alloc (.cells #[.bool (rneg v), .string (rnum v), .string (rden v)] 33) := ⟨_, rfl⟩
     have HL_gv := Lib.hid ((by have := HBo.out.size; omega : wo.heap.size ≤ gv))
     have HB121 := bea HBo hw_l121
     have HV121 : Hid (Bk gv (.cells #[.bool (rneg v), .string (rnum v), .string (rden v)] 33) l121) := by rw [hw_l121, hg_gv]; exact blk_new _ _
     rw [← hw_l121]
     (try rw [← hg_gv])
     clear hw_l121 hg_gv HBo
     have HRn : Hid (Bk gr (.cells #[.int .i64 100, .int .i64 200, .int .i64 162, .slice (some ⟨C2, 0, none⟩) n c6] 57) l121) := blk_next HR.out HB121.out
     obtain ⟨r0, r1, r2, r3, _, _, _, _, _⟩ := four_of HRn.out
     have hnm' := fun W (h : EnE w1.heap.size C2 c6 n (m * 30) ((rest.map adm).flatMap En.cells) y [] W) => named_calls 100 200 162 (some ⟨C2, 0, none⟩) n c6 (rest.map adm ++ [y]) W (by rw [List.length_append, HLM.out]; exact HMN.out.symm) ((h.row).rd (by rw [List.length_append, HLM.out]; exact HMN.out.symm)) HYE.out (by omega)
     unfold NmPost at hnm'
     have HNM := Lib.hid hnm'
     clear hnm'
     go_wp2_with fail
     clear HRn
     clear r0 r1 r2 r3
     refine (HNM.out _ (HE.out.next HB121.out)).mono ?_
     rintro ee l122 ⟨A7, c7, rfl, hown, hb⟩
     have HB122 := ben HB121 hb
     have HV122 := bkn HV121 hb
     have hown2 := own_monoD hown HB121.out.size
     obtain ⟨C3, c8, hA7, hC3, hC4⟩ := World.ownsRow.form hown2 (by omega)
     injection hA7 with hA7 _ hc8
     subst hA7; subst hc8
     rw [List.map_append] at hown2
     have HO1 : Hid (NmO wo.heap.size C3 n c7 ((rest.map adm).map nmE ++ [(⟨y.doc.id, y.doc.rank, y.ad⟩ : Nm)]) l122) := hown2
     have HC3 : Hid (wo.heap.size ≤ C3) := hC3
     clear hown hown2 hC3 hC4 HNM
     clear hb HB121 HV121
     obtain ⟨⟨n2, n3, n4, hcl⟩, hfr⟩ := nm_cells (m := m) HO1.out (by rw [List.length_map]; exact HLM.out)
     dsimp only at n2 n3 n4
     rw [show m * 5 + 2 + 1 = m * 5 + 3 from rfl] at n3
     rw [show m * 5 + 2 + 2 = m * 5 + 4 from rfl] at n4
     have f2 := hfr (m * 5 + 2)
     have f3 := hfr (m * 5 + 3)
     have f4 := hfr (m * 5 + 4)
     clear hfr
     obtain ⟨q0, q1, q2, fq0, fq1, fq2, hzq⟩ := three_of HV122.out
     go_upto_region 23 with fail
     clear n2 n3 n4 f2 f3 f4 hcl
     clear q0 q1 q2 fq0 fq1 fq2 hzq
     obtain ⟨l123, hw_l123⟩ : ∃ W, W = (((l122.setCell ⟨C3, m * 5 + 2, none⟩ (.bool (rneg v))).setCell ⟨C3, m * 5 + 3, none⟩ (.string (rnum v))).setCell ⟨C3, m * 5 + 4, none⟩ (.string (rden v))) := ⟨_, rfl⟩
     have ho : Only C3 l122 l123 := by rw [hw_l123]; exact (((Only.refl _ _).setC _ _).setC _ _).setC _ _
     have HO2 : Hid (NmO wo.heap.size C3 n c7 ((rest.map adm).map nmE ++ [(⟨y.doc.id, y.doc.rank, v⟩ : Nm)]) l123) := by rw [hw_l123]; exact nm_set (m := m) HO1.out (by rw [List.length_map]; exact HLM.out) v
     have HB2 : Hid (Below wo.heap.size wo l123) := HB122.out.trans (ho.at_ _ HB122.out.size HC3.out)
     rw [← hw_l123]
     clear hw_l123 ho HO1 HB122 HV122
     obtain ⟨nl, hnl⟩ : ∃ l, l = ((rest.map adm).map nmE ++ [(⟨y.doc.id, y.doc.rank, v⟩ : Nm)]) := ⟨_, rfl⟩
     have HNL := Lib.hid hnl
     rw [← hnl] at HO2
     clear hnl
     have HNN : Hid (n = nl.length) := by show _ = _; rw [HNL.out, List.length_append, List.length_map, HLM.out]; exact HMN.out.symm
     have HCL : Hid (nl.map clN = clsD rest ++ [(⟨d.rank.toNat, v⟩ : Cl)]) := by show _ = _; rw [HNL.out, List.map_append, HY.out]; unfold clsD; rw [List.map_map]; rfl
     have HRK : Hid (∀ x ∈ nl, 0 ≤ x.rank) := fun x hx => by
      rw [HNL.out] at hx
      rcases List.mem_append.1 hx with hx | hx
      ·
       obtain ⟨z, hz, rfl⟩ := List.mem_map.1 hx
       obtain ⟨u, hu, rfl⟩ := List.mem_map.1 hz
       obtain ⟨j, hj⟩ := HRO.out.each u hu
       have := hj.rank
       show 0 ≤ u.rank; omega
      ·
       rw [List.mem_singleton.1 hx]
       have := HDK.out.rank
       show 0 ≤ y.doc.rank
       rw [HY.out]; show 0 ≤ d.rank; omega
     have hpg' := fun W (h : NmO wo.heap.size C3 n c7 nl W) => program_calls (some ⟨C3, 0, none⟩) n c7 nl W HNN.out (by rw [← HNN.out]; exact Rd.of_own h) (by omega)
     have hes' := fun A2 c2 W (h : NmO wo.heap.size C3 n c7 nl W) (h2 : Rd W W.heap.size 1 A2 n (nl.flatMap rkV)) => estate_calls (some ⟨C3, 0, none⟩) A2 n c7 c2 nl W HNN.out (by rw [← HNN.out]; exact Rd.of_own h) (by rw [← HNN.out]; exact h2) HRK.out (by omega)
     have hdl' := fun A c W (h : Rd W W.heap.size 5 A n ((nl.map clN).flatMap clV)) => deliver_calls A n c (nl.map clN) (amtD a4) 143 8 W (by rw [List.length_map]; exact HNN.out) hn8 (by rw [List.length_map, ← HNN.out]; exact h) (by rw [HCL.out]; exact cls_ok1 (clsD_ok HRO.out) (by have := HDK.out.rank; omega) HVZ.out.2) (by rw [HCL.out]; exact cls_sz1 (clsD_sz HRO.out) HVZ.out.1) HMZ.out.1 HMZ.out.2 (by decide) (by decide) (by decide) (by rw [List.length_map, ← HNN.out]; omega) (by rw [List.length_map, ← HNN.out]; omega)
     unfold ProgPost at hpg'
     unfold EstPost at hes'
     unfold DelPost at hdl'
     rw [ratV_zero] at hdl'
     rw [HCL.out] at hdl' hes'
     have HPG := Lib.hid hpg'
     have HES := Lib.hid hes'
     have HDV := Lib.hid hdl'
     clear hpg' hes' hdl'
     go_wp2_with fail
     refine (HPG.out _ HO2.out).mono ?_
     rintro ee l124 ⟨A8, c8, rfl, hrd, hb⟩
     have HB124 := ben HB2 hb
     have HO124 : Hid (NmO wo.heap.size C3 n c7 nl l124) := own_belowQ HO2.out hb
     have HP1 : Hid (Rd l124 l124.heap.size 1 A8 n (nl.flatMap rkV)) := hrd
     clear hrd HPG
     clear hb HB2 HO2
     go_wp2_with fail
     refine (HES.out A8 c8 _ HO124.out HP1.out).mono ?_
     rintro ee l125 ⟨A9, c9, rfl, hrd, hb⟩
     have HB125 := ben HB124 hb
     have HO125 : Hid (NmO wo.heap.size C3 n c7 nl l125) := own_belowQ HO124.out hb
     have HQ1 : Hid (Rd l125 l125.heap.size 5 A9 n ((clsD rest ++ [(⟨d.rank.toNat, v⟩ : Cl)]).flatMap clV)) := hrd
     clear hrd HES HP1
     clear hb HB124 HO124
     go_wp2_with fail
     refine (HAM.out _).mono ?_
     rintro ee l126 ⟨rfl, _, hb⟩
     have HB126 := ben HB125 hb
     have HO126 : Hid (NmO wo.heap.size C3 n c7 nl l126) := own_belowQ HO125.out hb
     have HQ126 : Hid (Rd l126 l126.heap.size 5 A9 n ((clsD rest ++ [(⟨d.rank.toNat, v⟩ : Cl)]).flatMap clV)) := HQ1.out.next hb
     clear hb HB125 HO125 HQ1
     unfold ratV at HDV
     unfold ratV
     go_wp2_with fail
     refine (HDV.out A9 c9 _ HQ126.out).mono ?_
     rintro ee l127 ⟨Ad, cd, rfl, hrd, hab, hb⟩
     have HB127 := ben HB126 hb
     have HO127 : Hid (NmO wo.heap.size C3 n c7 nl l127) := own_belowQ HO126.out hb
     have HD1' : Hid (Rd l127 l127.heap.size 3 Ad n ((deliv (clsD rest ++ [(⟨d.rank.toNat, v⟩ : Cl)]) (amtD a4)).flatMap rtV)) := hrd
     have HAB : Hid ((∀ b off, Ad = some ⟨b, off, none⟩ → wo.heap.size ≤ b) ∧ n ≤ cd) := ⟨fun b off e => Nat.le_trans HB126.out.size (hab.1 b off e), hab.2⟩
     clear hrd hab HDV
     clear hb HB126 HO126 HQ126
     go_upto_region 24 with fail
     obtain ⟨gt, hg_gt⟩ : ∃ g, g = l127.heap.size := ⟨_, rfl⟩
     obtain ⟨l128, hw_l128⟩ : ∃ W, W = l127.alloc (.cells #[.bool false, .string ⟨#[]⟩, .string ⟨#[]⟩] 33) := ⟨_, rfl⟩
     have HL_gt := Lib.hid ((by have := HB127.out.size; omega : wo.heap.size ≤ gt))
     have HB128 := bea HB127 hw_l128
     have HO128 : Hid (NmO wo.heap.size C3 n c7 nl l128) := by rw [hw_l128]; exact own_belowQ HO127.out (bel_alloc _ _)
     have HD128 : Hid (Rd l128 l128.heap.size 3 Ad n ((deliv (clsD rest ++ [(⟨d.rank.toNat, v⟩ : Cl)]) (amtD a4)).flatMap rtV)) := by rw [hw_l128]; exact HD1'.out.next (bel_alloc _ _)
     have HT128 : Hid (Bk gt (.cells #[.bool false, .string ⟨#[]⟩, .string ⟨#[]⟩] 33) l128) := by rw [hw_l128, hg_gt]; exact blk_new _ _
     rw [← hw_l128]
     (try rw [← hg_gt])
     clear hw_l128 hg_gt HB127 HO127 HD1'
     have hmc : (m : Int) ≤ (cd : Int) := by have := HAB.out.2; have := HMN.out; omega
     have hm0 : (0 : Int) ≤ (m : Int) := by omega
     go_upto_region 26 with fail
     have HGb : Hid (Bk gg (.cells #[G0, G1, G2] 69) l128) := blk_next HG.out HB128.out
     obtain ⟨u, hu⟩ := got_cell hlt HGb.out
     have fg := frozen_of_row _ _ k _ _ HGb.out
     have lg := blk_lt HGb.out
     go_wp2_with fail
     clear hu fg lg
     have HGa : Hid (GotA gg m (othD rest d.rank.toNat (amtD a4) v) (.slice Ad m cd) l128) := by
      refine ⟨Ad, cd, rfl, ?_, fun b off e => by have h1 := HAB.out.1 b off e; have h2 := blk_lt HG.out; omega⟩
      have h1 := rd_take HD128.out (m := m) (l := deliv (clsD rest ++ [(⟨d.rank.toNat, v⟩ : Cl)]) (amtD a4)) (by have := HMN.out; omega)
      unfold othD
      rw [HRM.out]
      exact h1
     rw [HV.out] at HGa
     obtain ⟨H0, H1, H2, hgo, hgb⟩ := GotOk.step (P := (fun j => othD rest d.rank.toNat (amtD a4) (v3 q0 e f j))) hlt (HGO.out.next HB128.out) HGb.out HGa.out
     obtain ⟨wz, hwz⟩ : ∃ W, W = l128.setCell ⟨gg, k, none⟩ (.slice Ad m cd) := ⟨_, rfl⟩
     rw [← hwz] at hgo hgb ⊢
     have ho : Only gg l128 wz := by rw [hwz]; exact (Only.refl _ _).setC _ _
     have HGOz := Lib.hid hgo
     have HGz := Lib.hid hgb
     have HRz : Hid (Bk gr (.cells #[.int .i64 100, .int .i64 200, .int .i64 162, .slice (some ⟨C2, 0, none⟩) n c6] 57) wz) := blk_onlyW (blk_next HR.out HB128.out) ho (by have := HL9.out; omega)
     have HVz : Hid (Bk gV (.cells #[.bool (rneg q0), .string (rnum q0), .string (rden q0), .bool (rneg e), .string (rnum e), .string (rden e), .bool (rneg f), .string (rnum f), .string (rden f)] 33) wz) := blk_onlyW (blk_next HV1.out HB128.out) ho (by have := HL9.out; omega)
     have HEz : Hid (EnE w1.heap.size C2 c6 n (m * 30) ((rest.map adm).flatMap En.cells) y [] wz) := (HE.out.next HB128.out).only ho (fun h => (HE.out.ne HG.out (by decide)) h.symm)
     have HBz : Hid (Below w1.heap.size w1 wz) := (HB.out.trans (HB128.out.mono HB.out.size)).trans (ho.at_ _ (Nat.le_trans HB.out.size HB128.out.size) (by have := HL9.out; omega))
     clear hgo hgb hwz ho HGa HGb
     go_roundw
     case measure => simp [intOf] <;> omega
     case rel => exact ⟨k + 1, H0, H1, H2, by omega, by go_num, HGOz, HGz, HRz, HEz, HVz, HBz⟩
   ·
    as_aux_lemma =>
     obtain rfl : k = 3 := by omega
     have HG9 : Hid (GotOk gg m (fun j => othD rest d.rank.toNat (amtD a4) (v3 q0 e f j)) 3 G0 G1 G2 wo) := HGO
     obtain ⟨A10, c10, e10, hd0, _⟩ := HGO.out.1 (by decide)
     obtain ⟨A11, c11, e11, hd1, _⟩ := HGO.out.2.1 (by decide)
     obtain ⟨A12, c12, e12, hd2, _⟩ := HGO.out.2.2 (by decide)
     subst e10; subst e11; subst e12
     have HD0 := Lib.hid hd0
     have HD1_ := Lib.hid hd1
     have HD2 := Lib.hid hd2
     clear hd0 hd1 hd2 HG9 HGO
     have hol : ∀ x, (othD rest d.rank.toNat (amtD a4) x).length = m := fun x => by rw [othD_len, HRM.out]
     have hz0 : ∀ x, Sz 143 x → ∀ q ∈ othD rest d.rank.toNat (amtD a4) x, Sz 10600 q := fun x hx => othD_sz HRO.out HRM.out hm7 HMZ.out.1 hx
     have HL0 := Lib.hid (fun W (h1 : Below wo.heap.size wo W) => below_calls A10 A11 m c10 c11 10600 (othD rest d.rank.toNat (amtD a4) q0) (othD rest d.rank.toNat (amtD a4) e) W (hol _).symm (hol _).symm (by rw [hol]; exact HD0.out.next h1) (by rw [hol]; exact HD1_.out.next h1) (hz0 _ HFE.out.2.2.2) (hz0 _ HFE.out.2.2.1) (by decide) (by decide) (othD_less HRO.out HFE.out.1.2.2) (by omega))
     have HL1 := Lib.hid (fun W (h1 : Below wo.heap.size wo W) => below_calls A11 A12 m c11 c12 10600 (othD rest d.rank.toNat (amtD a4) e) (othD rest d.rank.toNat (amtD a4) f) W (hol _).symm (hol _).symm (by rw [hol]; exact HD1_.out.next h1) (by rw [hol]; exact HD2.out.next h1) (hz0 _ HFE.out.2.2.1) (hz0 _ HFE.out.2.1) (by decide) (by decide) (othD_less HRO.out HFE.out.1.2.1) (by omega))
     clear hol hz0 HD0 HD1_ HD2
     have HBo : Hid (Below wo.heap.size wo wo) := Below.refl _ _
     go_wp2_with fail
     refine (HAW.out _).mono ?_
     rintro ee z161 ⟨rfl, hb⟩
     have HB161 := ben HBo hb
     have HG161 := bkn HG hb
     clear hb HBo HG
     have g0 := blk_at (j := 0) HG161.out rfl
     have g1 := blk_at (j := 1) HG161.out rfl
     go_wp2_with fail
     clear g0 g1
     refine (HL0.out _ HB161.out).mono ?_
     rintro ee z162 ⟨rfl, hb⟩
     have HB162 := ben HB161 hb
     have HG162 := bkn HG161 hb
     clear hb HB161 HG161
     have g0 := blk_at (j := 1) HG162.out rfl
     have g1 := blk_at (j := 2) HG162.out rfl
     go_wp2_with fail
     clear g0 g1
     refine (HL1.out _ HB162.out).mono ?_
     rintro ee z163 ⟨rfl, hb⟩
     have HB163 := ben HB162 hb
     have HG163 := bkn HG162 hb
     clear hb HB162 HG162
     go_wp2_with fail
     go_ret
     exact ⟨rfl, HBW.out.trans ((HB.out.trans (HB163.out.mono HB.out.size)).mono HBW.out.size)⟩

end Go.Proofs.YtjlicnhkemfmiaaGreatDoor

/- insolvencytop.admitted. -/
import Derived.Test.YtjlicnhkemfmiaaGreatDoorM22
import Derived.Test.YtjlicnhkemfmiaaGreatDoorSq
import Derived.Test.YtjlicnhkemfmiaaGreatDoorM24
import Derived.Test.YtjlicnhkemfmiaaGreatDoorDsp6
set_option linter.unusedVariables false
set_option linter.unusedSimpArgs false
set_option maxHeartbeats 8000000
set_option maxRecDepth 100000
namespace Go.Proofs.YtjlicnhkemfmiaaGreatDoor
open Go.RowKit

theorem DcsOk.fresh {l : List Dc} (h : DcsOk l) {i : Nat} {d : Dc} (hd : l[i]? = some d) : ∀ x ∈ (l.take i).map adm, x.doc.id ≠ d.id := by
 intro x hx
 obtain ⟨d', hd', rfl⟩ := List.mem_map.1 hx
 obtain ⟨j, hj⟩ := List.getElem?_of_mem hd'
 rw [List.getElem?_take] at hj
 by_cases hji : j < i
 ·
  rw [if_pos hji] at hj
  obtain ⟨hjl, rfl⟩ := List.getElem?_eq_some_iff.1 hj
  obtain ⟨hil, rfl⟩ := List.getElem?_eq_some_iff.1 hd
  exact List.pairwise_iff_getElem.1 h.apart j i hjl hil hji
 ·
  rw [if_neg hji] at hj; cases hj
theorem adm_len {l : List Dc} {i : Nat} (h : i ≤ l.length) : ((l.take i).map adm).length = i := by
 rw [List.length_map, List.length_take]; omega
theorem snoc_at {α : Type} (l : List α) (x : α) {i : Nat} (h : l.length = i) : (l ++ [x])[i]? = some x := by
 rw [List.getElem?_append_right (by omega), h]; simp
theorem set_lastD {α : Type} (l : List α) (x y : α) {i : Nat} (h : l.length = i) : (l ++ [x]).set i y = l ++ [y] := by
 rw [← h]; exact set_last l x y
/-- a document is filed and admitted behind others -/
theorem admF_calls (l : List Dc) (hl : DcsOk l) (i : Nat) (d : Dc) (hd : l[i]? = some d) (A : Option Addr) (c : Nat) (day0 : Int) (B : Nat) (w : World) (he : EnR B A i c ((l.take i).map adm) w) (h0 : day0 ≤ 150) :
 Calls Tryz.prog 19 #[regV 100 200 day0 A i c, .agg #[.int .i64 1, .int .i64 150, .string ⟨#[]⟩, .bool false, .string ⟨#[]⟩, .string ⟨#[]⟩, .int .i64 0, .string d.id, .int .i64 d.est, .int .i64 d.cred, .string d.code, .bool (rneg d.amt), .string (rnum d.amt), .string (rden d.amt), .int .i64 d.inc, .int .i64 d.rank, .bool (rneg d.rate), .string (rnum d.rate), .string (rden d.rate), .int .i64 d.frm, .int .i64 d.sec], .slice none 0 0] w (APost 150 (i + 1) ((l.take i).map adm ++ [filed d 150]) w) := by
 have hil := (List.getElem?_eq_some_iff.1 hd).1
 have hlen := adm_len (l := l) (i := i) (by omega)
 obtain ⟨j, hj⟩ := hl.each d (List.mem_of_getElem? hd)
 have h8 := hl.len
 exact applyF_calls A i c day0 150 _ j d w (he.rd hlen.symm) hlen.symm he.nil (by omega) h0 (by decide) (by decide) hj (findE_none (hl.fresh hd))
theorem admC_calls (l : List Dc) (hl : DcsOk l) (i : Nat) (d : Dc) (hd : l[i]? = some d) (A : Option Addr) (c : Nat) (B : Nat) (w : World) (he : EnR B A (i + 1) c ((l.take i).map adm ++ [filed d 150]) w) :
 Calls Tryz.prog 19 #[regV 100 200 150 A (i + 1) c, .agg #[.int .i64 2, .int .i64 150, .string d.id, .bool false, .string ⟨#[]⟩, .string ⟨#[]⟩, .int .i64 0, .string ⟨#[]⟩, .int .i64 0, .int .i64 0, .string ⟨#[]⟩, .bool false, .string ⟨#[]⟩, .string ⟨#[]⟩, .int .i64 0, .int .i64 0, .bool false, .string ⟨#[]⟩, .string ⟨#[]⟩, .int .i64 0, .int .i64 0], .slice none 0 0] w (APost 150 (i + 1) ((l.take (i + 1)).map adm) w) := by
 have hil := (List.getElem?_eq_some_iff.1 hd).1
 have hlen := adm_len (l := l) (i := i) (by omega)
 obtain ⟨j, hj⟩ := hl.each d (List.mem_of_getElem? hd)
 have h8 := hl.len
 have hl2 : ((l.take i).map adm ++ [filed d 150]).length = i + 1 := by rw [List.length_append, hlen]; rfl
 have hf : findE ((l.take i).map adm ++ [filed d 150]) d.id = i := by rw [findE_snoc (hl.fresh hd) rfl, hlen]
 have h := applyC_calls A (i + 1) c 150 150 ((l.take i).map adm ++ [filed d 150]) 2 d.id 0 i (filed d 150) (adm d) w (he.rd hl2.symm) hl2.symm he.nil (by omega) (by decide) (by decide) (by decide) (by decide) (by decide) hf (snoc_at _ _ hlen)
  (fun C c1 W h => change2_calls _ C c1 (i + 1) _ _ _ (filed d 150) 150 d.id 0 39 W h (sz_zero1 39 (by decide)) rfl (valD_sz hj) (by decide) (by decide))
 rw [rneg_zero, rnum_zero, rden_zero, set_lastD _ _ _ hlen] at h
 rw [take_mapD hd]
 exact h
def AdmPost (l : List Dc) (n : Nat) (w : World) (e : Ending) (w' : World) : Prop := ∃ (day : Int) (A' : Option Addr) (c' : Nat), e = .returned (.tuple #[regV 100 200 day A' n c', .bool true]) ∧ (0 ≤ day ∧ day ≤ 150) ∧ EnR w.heap.size A' n c' (l.map adm) w' ∧ Below w.heap.size w w'
theorem admitted_calls (A : Option Addr) (n c : Nat) (l : List Dc) (w : World) (hn : n = l.length) (hr : Rd w w.heap.size 14 A l.length (l.flatMap Dc.cells)) (hl : DcsOk l) :
 Calls Tryz.prog 18 #[.slice A n c, .int .u16 0] w (AdmPost l n w) := by
 have HRL := Lib.hid (And.intro hn hr)
 have HOK := Lib.hid hl
 have hn8 : n ≤ 8 := by rw [hn]; exact hl.len
 have HNW := Lib.hid (fun W => new_calls W)
 clear hn hr hl
 go_enter Tryz.func18, Tryz.ntmps18
 go_upto_region 1 with fail
 obtain ⟨gz, hg_gz⟩ : ∃ g, g = w.heap.size := ⟨_, rfl⟩
 obtain ⟨w0, hw_w0⟩ : ∃ W, W = (w.alloc (.cells #[.int .i64 0, .int .i64 0, .int .i64 0, .slice none 0 0] 57)) := ⟨_, rfl⟩
 have HZ0 : Hid (Bk gz (.cells #[.int .i64 0, .int .i64 0, .int .i64 0, .slice none 0 0] 57) w0) := by rw [hw_w0, hg_gz]; exact blk_new _ _
 have HB0 : Hid (Below w.heap.size w w0) := by rw [hw_w0]; exact bel_alloc _ _
 have HL_0 := Lib.hid ((by omega : w.heap.size ≤ gz))
 rw [← hw_w0]
 (try rw [← hg_gz])
 clear hw_w0 hg_gz
 go_wp2_with fail
 refine (HNW.out _).mono ?_
 rintro e w1 ⟨rfl, hb⟩
 have HZ1 := bkn HZ0 hb
 have HB1 := ben HB0 hb
 clear hb HZ0 HB0
 go_upto_region 2 with fail
 obtain ⟨gr, hg_gr⟩ : ∃ g, g = w1.heap.size := ⟨_, rfl⟩
 obtain ⟨w2, hw_w2⟩ : ∃ W, W = w1.alloc (.cells #[.int .i64 100, .int .i64 200, .int .i64 0, .slice none 0 0] 57) := ⟨_, rfl⟩
 have HL_gr := Lib.hid (And.intro (by have := blk_lt HZ1.out; omega : gz < gr) ((by have := HB1.out.size; omega : w.heap.size ≤ gr)))
 have HZ2 := bka HZ1 hw_w2
 have HB2 := bea HB1 hw_w2
 have HR2 : Hid (Bk gr (.cells #[.int .i64 100, .int .i64 200, .int .i64 0, .slice none 0 0] 57) w2) := by rw [hw_w2, hg_gr]; exact blk_new _ _
 rw [← hw_w2]
 (try rw [← hg_gr])
 clear hw_w2 hg_gr HZ1 HB1
 go_wp2_with fail
 have HLz : Hid (w.heap.size ≤ gz ∧ gz < gr) := by have h0 := HL_0.out; have h1 := HL_gr.out; exact ⟨by omega, by omega⟩
 go_loopw [8, 9] (fun s8 s9 wr => ∃ (j i : Nat) (day : Int) (A' : Option Addr) (c' : Nat), j ≤ 2 ∧ ((j = 0 ∧ i = 0) ∨ (j ≠ 0 ∧ i = n)) ∧ s8 = .bool true ∧ s9 = .int .i64 (j : Int) ∧ Hid (0 ≤ day ∧ day ≤ 150) ∧ Hid (EnR w.heap.size A' i c' ((l.take i).map adm) wr) ∧ Hid (Bk gr (.cells #[.int .i64 100, .int .i64 200, .int .i64 day, .slice A' i c'] 57) wr) ∧ Hid (Bk gz (.cells #[.int .i64 0, .int .i64 0, .int .i64 0, .slice none 0 0] 57) wr) ∧ Hid (Below w.heap.size w wr)) (fun _ s9 _ => 2 - (intOf s9).toNat)
 case atStart => exact ⟨0, 0, 0, none, 0, by decide, .inl ⟨rfl, rfl⟩, rfl, rfl, ⟨by decide, by decide⟩, World.ownsRow_nil _ _ _ _, HR2, HZ2, HB2⟩
 case round =>
  clear HR2 HZ2 HB2
  obtain ⟨j, i, day, A', c', hj, hji, rfl, rfl, HDY, HE, HR, HZ, HB⟩ := hrel
  rename World => wo
  rcases (by omega : j = 0 ∨ j = 1 ∨ j = 2) with rfl | rfl | rfl
  ·
   obtain rfl : i = 0 := by omega
   go_wp2_with fail
   go_loopw [8, 29] (fun s8 s29 wr => ∃ (i : Nat) (day : Int) (A' : Option Addr) (c' : Nat), i ≤ n ∧ s8 = .bool true ∧ s29 = .int .i64 (i : Int) ∧ Hid (0 ≤ day ∧ day ≤ 150) ∧ Hid (EnR w.heap.size A' i c' ((l.take i).map adm) wr) ∧ Hid (Bk gr (.cells #[.int .i64 100, .int .i64 200, .int .i64 day, .slice A' i c'] 57) wr) ∧ Hid (Bk gz (.cells #[.int .i64 0, .int .i64 0, .int .i64 0, .slice none 0 0] 57) wr) ∧ Hid (Below w.heap.size w wr)) (fun _ s29 _ => n - (intOf s29).toNat)
   case atStart => exact ⟨0, day, A', c', Nat.zero_le _, rfl, rfl, HDY, HE, HR, HZ, HB⟩
   case round =>
    clear HDY HE HR HZ HB
    obtain ⟨i, day, A', c', hi, rfl, rfl, HDY, HE, HR, HZ, HB⟩ := hrel
    rename World => wi
    by_cases hlt : i < n
    ·
     have hlt2 : (i : Int) < (n : Int) := by omega
     obtain ⟨d, hd⟩ := getElem?_of_lt (l := l) (k := i) (by rw [← HRL.out.1]; exact hlt)
     obtain ⟨b, off, hA, _, hc⟩ := Rd.at_ (enc := Dc.cells) Dc.len (HRL.out.2.next HB.out) hd
     subst hA
     have hra : wi.rangeAt b (off + i * 14) d.cells := fun j v hv => by rw [Nat.add_assoc]; exact hc j v hv
     unfold Dc.cells at hra
     have HRA := Lib.hid hra
     clear hc hra
     have HAF := Lib.hid (fun A c day0 W (h1 : EnR w.heap.size A i c ((l.take i).map adm) W) h2 => admF_calls l HOK.out i d hd A c day0 w.heap.size W h1 h2)
     have HAC := Lib.hid (fun A c W (h1 : EnR w.heap.size A (i + 1) c (((l.take i).map adm) ++ [filed d 150]) W) => admC_calls l HOK.out i d hd A c w.heap.size W h1)
     unfold APost at HAF HAC
     clear hd
     go_upto_region 9 with (refine wpList_load_mid rfl 63 (.tmp 32) rfl b (off + i * 14) rfl [.string d.id, .int .i64 d.est, .int .i64 d.cred, .string d.code, .bool (rneg d.amt), .string (rnum d.amt), .string (rden d.amt), .int .i64 d.inc, .int .i64 d.rank, .bool (rneg d.rate), .string (rnum d.rate), .string (rden d.rate), .int .i64 d.frm, .int .i64 d.sec] _ HRA.out Tryz.underlying63 rfl (by kernel_rfl) ?_)
     clear HRA
     obtain ⟨gd, hg_gd⟩ : ∃ g, g = wi.heap.size := ⟨_, rfl⟩
     obtain ⟨x_1, hw_x_1⟩ : ∃ W, W = wi.alloc (.cells #[.string d.id, .int .i64 d.est, .int .i64 d.cred, .string d.code, .bool (rneg d.amt), .string (rnum d.amt), .string (rden d.amt), .int .i64 d.inc, .int .i64 d.rank, .bool (rneg d.rate), .string (rnum d.rate), .string (rden d.rate), .int .i64 d.frm, .int .i64 d.sec] 63) := ⟨_, rfl⟩
     have HL_gd := Lib.hid (And.intro (by have := blk_lt HR.out; omega : gr < gd) (And.intro (by have := blk_lt HZ.out; omega : gz < gd) ((by have := HB.out.size; omega : w.heap.size ≤ gd))))
     have HR1 := bka HR hw_x_1
     have HZ1 := bka HZ hw_x_1
     have HB1 := bea HB hw_x_1
     have HE1 : Hid (EnR w.heap.size A' i c' ((l.take i).map adm) x_1) := by rw [hw_x_1]; exact HE.out.next (bel_alloc _ _)
     have HD1 : Hid (Bk gd (.cells #[.string d.id, .int .i64 d.est, .int .i64 d.cred, .string d.code, .bool (rneg d.amt), .string (rnum d.amt), .string (rden d.amt), .int .i64 d.inc, .int .i64 d.rank, .bool (rneg d.rate), .string (rnum d.rate), .string (rden d.rate), .int .i64 d.frm, .int .i64 d.sec] 63) x_1) := by rw [hw_x_1, hg_gd]; exact blk_new _ _
     rw [← hw_x_1]
     (try rw [← hg_gd])
     clear hw_x_1 hg_gd HR HZ HB HE
     go_upto_region 13 with fail
     obtain ⟨r0, r1, r2, r3, _, _, _, _, _⟩ := four_of HR1.out
     have v0 := blk_at (j := 0) HD1.out rfl
     have v1 := blk_at (j := 1) HD1.out rfl
     have v2 := blk_at (j := 2) HD1.out rfl
     have v3 := blk_at (j := 3) HD1.out rfl
     have v4 := blk_at (j := 4) HD1.out rfl
     have v5 := blk_at (j := 5) HD1.out rfl
     have v6 := blk_at (j := 6) HD1.out rfl
     have v7 := blk_at (j := 7) HD1.out rfl
     have v8 := blk_at (j := 8) HD1.out rfl
     have v9 := blk_at (j := 9) HD1.out rfl
     have v10 := blk_at (j := 10) HD1.out rfl
     have v11 := blk_at (j := 11) HD1.out rfl
     have v12 := blk_at (j := 12) HD1.out rfl
     have v13 := blk_at (j := 13) HD1.out rfl
     go_wp2_with fail
     clear v0 v1 v2 v3 v4 v5 v6 v7 v8 v9 v10 v11 v12 v13
     clear r0 r1 r2 r3
     refine (HAF.out A' c' day _ HE1.out HDY.out.2).mono ?_
     rintro e x_2 ⟨A1, c1, rfl, hrd, hb⟩
     have HR2 := bkn HR1 hb
     have HZ2 := bkn HZ1 hb
     have HB2 := ben HB1 hb
     have HD2 := bkn HD1 hb
     have HEa : Hid (EnR w.heap.size A1 (i + 1) c1 (((l.take i).map adm) ++ [filed d 150]) x_2) := own_mono hrd HB1.out.size
     clear hrd
     clear hb HR1 HZ1 HB1 HE1 HD1
     go_upto_region 14 with fail
     obtain ⟨gs, hg_gs⟩ : ∃ g, g = x_2.heap.size := ⟨_, rfl⟩
     obtain ⟨x_3, hw_x_3⟩ : ∃ W, W = x_2.alloc (.cells #[.int .i64 100, .int .i64 200, .int .i64 150, .slice A1 (i + 1) c1] 57) := ⟨_, rfl⟩
     have HL_gs := Lib.hid (And.intro (by have := blk_lt HR2.out; omega : gr < gs) (And.intro (by have := blk_lt HZ2.out; omega : gz < gs) (And.intro (by have := HB2.out.size; omega : w.heap.size ≤ gs) ((by have := blk_lt HD2.out; omega : gd < gs)))))
     have HR3 := bka HR2 hw_x_3
     have HZ3 := bka HZ2 hw_x_3
     have HB3 := bea HB2 hw_x_3
     have HD3 := bka HD2 hw_x_3
     have HE3 : Hid (EnR w.heap.size A1 (i + 1) c1 (((l.take i).map adm) ++ [filed d 150]) x_3) := by rw [hw_x_3]; exact HEa.out.next (bel_alloc _ _)
     have HS3 : Hid (Bk gs (.cells #[.int .i64 100, .int .i64 200, .int .i64 150, .slice A1 (i + 1) c1] 57) x_3) := by rw [hw_x_3, hg_gs]; exact blk_new _ _
     rw [← hw_x_3]
     (try rw [← hg_gs])
     clear hw_x_3 hg_gs HR2 HZ2 HB2 HD2 HEa
     obtain ⟨r0, r1, r2, r3, _, _, _, _, _⟩ := four_of HS3.out
     have v0 := blk_at (j := 0) HD3.out rfl
     go_wp2_with fail
     clear v0
     clear r0 r1 r2 r3
     refine (HAC.out A1 c1 _ HE3.out).mono ?_
     rintro e x_4 ⟨A2, c2, rfl, hrd, hb⟩
     have HR4 := bkn HR3 hb
     have HZ4 := bkn HZ3 hb
     have HB4 := ben HB3 hb
     have HD4 := bkn HD3 hb
     have HS4 := bkn HS3 hb
     have HEb : Hid (EnR w.heap.size A2 (i + 1) c2 ((l.take (i + 1)).map adm) x_4) := own_mono hrd HB3.out.size
     clear hrd
     clear hb HR3 HZ3 HB3 HD3 HE3 HS3
     go_upto_region 15 with fail
     obtain ⟨gt, hg_gt⟩ : ∃ g, g = x_4.heap.size := ⟨_, rfl⟩
     obtain ⟨x_5, hw_x_5⟩ : ∃ W, W = x_4.alloc (.cells #[.int .i64 100, .int .i64 200, .int .i64 150, .slice A2 (i + 1) c2] 57) := ⟨_, rfl⟩
     have HL_gt := Lib.hid (And.intro (by have := blk_lt HR4.out; omega : gr < gt) (And.intro (by have := blk_lt HZ4.out; omega : gz < gt) (And.intro (by have := HB4.out.size; omega : w.heap.size ≤ gt) (And.intro (by have := blk_lt HD4.out; omega : gd < gt) ((by have := blk_lt HS4.out; omega : gs < gt))))))
     have HR5 := bka HR4 hw_x_5
     have HZ5 := bka HZ4 hw_x_5
     have HB5 := bea HB4 hw_x_5
     have HD5 := bka HD4 hw_x_5
     have HS5 := bka HS4 hw_x_5
     have HE5 : Hid (EnR w.heap.size A2 (i + 1) c2 ((l.take (i + 1)).map adm) x_5) := by rw [hw_x_5]; exact HEb.out.next (bel_alloc _ _)
     have HT5 : Hid (Bk gt (.cells #[.int .i64 100, .int .i64 200, .int .i64 150, .slice A2 (i + 1) c2] 57) x_5) := by rw [hw_x_5, hg_gt]; exact blk_new _ _
     rw [← hw_x_5]
     (try rw [← hg_gt])
     clear hw_x_5 hg_gt HR4 HZ4 HB4 HD4 HS4 HEb
     obtain ⟨t0, t1, t2, t3, _, _, _, _, _⟩ := four_of HT5.out
     obtain ⟨r0, r1, r2, r3, rf0, rf1, rf2, rf3, rz⟩ := four_of HR5.out
     go_wp2_with fail
     clear t0 t1 t2 t3
     clear r0 r1 r2 r3 rf0 rf1 rf2 rf3 rz
     have HBLK := HR5
     obtain ⟨x_6, hw_x_6⟩ : ∃ W, W = ((((x_5.setCell ⟨gr, 0, none⟩ (.int .i64 100)).setCell ⟨gr, 1, none⟩ (.int .i64 200)).setCell ⟨gr, 2, none⟩ (.int .i64 150)).setCell ⟨gr, 3, none⟩ (.slice A2 (i + 1) c2)) := ⟨_, rfl⟩
     have ho : Only gr x_5 x_6 := by rw [hw_x_6]; exact ((((Only.refl _ _).setC _ _).setC _ _).setC _ _).setC _ _
     have HZ6 := bko HZ5 ho (by have := HLz.out; have := HL_gd.out; have := HL_gs.out; have := HL_gt.out; omega)
     have HB6 := beo HB5 ho (by have := HLz.out; have := HL_gd.out; have := HL_gs.out; have := HL_gt.out; omega)
     have HD6 := bko HD5 ho (by have := HLz.out; have := HL_gd.out; have := HL_gs.out; have := HL_gt.out; omega)
     have HS6 := bko HS5 ho (by have := HLz.out; have := HL_gd.out; have := HL_gs.out; have := HL_gt.out; omega)
     have HE6 : Hid (EnR w.heap.size A2 (i + 1) c2 ((l.take (i + 1)).map adm) x_6) := own_onlyT HE5.out ho HBLK.out (by decide)
     have HT6 := bko HT5 ho (by have := HLz.out; have := HL_gd.out; have := HL_gs.out; have := HL_gt.out; omega)
     have HR6 : Hid (Bk gr (.cells #[.int .i64 100, .int .i64 200, .int .i64 150, .slice A2 (i + 1) c2] 57) x_6) := by rw [hw_x_6]; exact heap_setCell_same _ gr 3 _ _ (.slice A2 (i + 1) c2) (heap_setCell_same _ gr 2 _ _ (.int .i64 150) (heap_setCell_same _ gr 1 _ _ (.int .i64 200) (heap_setCell_same _ gr 0 _ _ (.int .i64 100) (HR5.out))))
     rw [← hw_x_6]
     clear hw_x_6 ho HR5 HZ5 HB5 HD5 HS5 HE5 HT5
     clear HBLK
     go_roundw
     case measure => simp [intOf] <;> omega
     case rel => exact ⟨i + 1, 150, A2, c2, by omega, rfl, by go_num, ⟨by decide, by decide⟩, HE6, HR6, HZ6, HB6⟩
    ·
     have hge : ¬ (i : Int) < (n : Int) := by omega
     have hin : i = n := by omega
     subst hin
     go_wp2_with fail
     go_roundw
     case measure => simp [intOf] <;> omega
     case rel => exact ⟨1, i, day, A', c', by decide, .inr ⟨by decide, rfl⟩, rfl, rfl, HDY, HE, HR, HZ, HB⟩
  ·
   obtain rfl : i = n := by omega
   obtain ⟨n, hnn⟩ : ∃ x, x = i := ⟨_, rfl⟩
   subst hnn
   go_wp2_with fail
   go_loopw [8, 29] (fun s8 s29 wr => ∃ q : Nat, q ≤ n ∧ s8 = .bool true ∧ s29 = .int .i64 (q : Int) ∧ Hid (EnR w.heap.size A' n c' ((l.take n).map adm) wr) ∧ Hid (Bk gr (.cells #[.int .i64 100, .int .i64 200, .int .i64 day, .slice A' n c'] 57) wr) ∧ Hid (Bk gz (.cells #[.int .i64 0, .int .i64 0, .int .i64 0, .slice none 0 0] 57) wr) ∧ Hid (Below w.heap.size w wr)) (fun _ s29 _ => n - (intOf s29).toNat)
   case atStart => exact ⟨0, Nat.zero_le _, rfl, rfl, HE, HR, HZ, HB⟩
   case round =>
    clear HE HR HZ HB
    obtain ⟨q, hq, rfl, rfl, HE, HR, HZ, HB⟩ := hrel
    rename World => wi
    by_cases hlt : q < n
    ·
     have hlt2 : (q : Int) < (n : Int) := by omega
     obtain ⟨d, hd⟩ := getElem?_of_lt (l := l) (k := q) (by rw [← HRL.out.1]; exact hlt)
     obtain ⟨b, off, hA, _, hc⟩ := Rd.at_ (enc := Dc.cells) Dc.len (HRL.out.2.next HB.out) hd
     subst hA
     have hra : wi.rangeAt b (off + q * 14) d.cells := fun j v hv => by rw [Nat.add_assoc]; exact hc j v hv
     unfold Dc.cells at hra
     have HRA := Lib.hid hra
     clear hc hra
     go_upto_region 9 with (refine wpList_load_mid rfl 63 (.tmp 32) rfl b (off + q * 14) rfl [.string d.id, .int .i64 d.est, .int .i64 d.cred, .string d.code, .bool (rneg d.amt), .string (rnum d.amt), .string (rden d.amt), .int .i64 d.inc, .int .i64 d.rank, .bool (rneg d.rate), .string (rnum d.rate), .string (rden d.rate), .int .i64 d.frm, .int .i64 d.sec] _ HRA.out Tryz.underlying63 rfl (by kernel_rfl) ?_)
     clear HRA hd
     obtain ⟨gd, hg_gd⟩ : ∃ g, g = wi.heap.size := ⟨_, rfl⟩
     obtain ⟨x_1, hw_x_1⟩ : ∃ W, W = wi.alloc (.cells #[.string d.id, .int .i64 d.est, .int .i64 d.cred, .string d.code, .bool (rneg d.amt), .string (rnum d.amt), .string (rden d.amt), .int .i64 d.inc, .int .i64 d.rank, .bool (rneg d.rate), .string (rnum d.rate), .string (rden d.rate), .int .i64 d.frm, .int .i64 d.sec] 63) := ⟨_, rfl⟩
     have HL_gd := Lib.hid (And.intro (by have := blk_lt HR.out; omega : gr < gd) (And.intro (by have := blk_lt HZ.out; omega : gz < gd) ((by have := HB.out.size; omega : w.heap.size ≤ gd))))
     have HR1 := bka HR hw_x_1
     have HZ1 := bka HZ hw_x_1
     have HB1 := bea HB hw_x_1
     have HE1 : Hid (EnR w.heap.size A' n c' ((l.take n).map adm) x_1) := by rw [hw_x_1]; exact HE.out.next (bel_alloc _ _)
     have HD1 : Hid (Bk gd (.cells #[.string d.id, .int .i64 d.est, .int .i64 d.cred, .string d.code, .bool (rneg d.amt), .string (rnum d.amt), .string (rden d.amt), .int .i64 d.inc, .int .i64 d.rank, .bool (rneg d.rate), .string (rnum d.rate), .string (rden d.rate), .int .i64 d.frm, .int .i64 d.sec] 63) x_1) := by rw [hw_x_1, hg_gd]; exact blk_new _ _
     rw [← hw_x_1]
     (try rw [← hg_gd])
     clear hw_x_1 hg_gd HR HZ HB HE
     go_wp2_with fail
     go_roundw
     case measure => simp [intOf] <;> omega
     case rel => exact ⟨q + 1, by omega, rfl, by go_num, HE1, HR1, HZ1, HB1⟩
    ·
     have hge : ¬ (q : Int) < (n : Int) := by omega
     go_wp2_with fail
     go_roundw
     case measure => simp [intOf] <;> omega
     case rel => exact ⟨2, n, day, A', c', by decide, .inr ⟨by decide, rfl⟩, rfl, rfl, HDY, HE, HR, HZ, HB⟩
  ·
   obtain rfl : i = n := by omega
   obtain ⟨n, hnn⟩ : ∃ x, x = i := ⟨_, rfl⟩
   subst hnn
   obtain ⟨r0, r1, r2, r3, _, _, _, _, _⟩ := four_of HR.out
   obtain ⟨z0, z1, z2, z3, zf0, zf1, zf2, zf3, zz⟩ := four_of HZ.out
   go_wp2_with fail
   clear r0 r1 r2 r3
   clear z0 z1 z2 z3 zf0 zf1 zf2 zf3 zz
   have HBLK := HZ
   obtain ⟨x_1, hw_x_1⟩ : ∃ W, W = ((((wo.setCell ⟨gz, 0, none⟩ (.int .i64 100)).setCell ⟨gz, 1, none⟩ (.int .i64 200)).setCell ⟨gz, 2, none⟩ (.int .i64 day)).setCell ⟨gz, 3, none⟩ (.slice A' n c')) := ⟨_, rfl⟩
   have ho : Only gz wo x_1 := by rw [hw_x_1]; exact ((((Only.refl _ _).setC _ _).setC _ _).setC _ _).setC _ _
   have HR1 := bko HR ho (by have := HLz.out; omega)
   have HB1 := beo HB ho (by have := HLz.out; omega)
   have HE1 : Hid (EnR w.heap.size A' n c' ((l.take n).map adm) x_1) := own_onlyT HE.out ho HBLK.out (by decide)
   have HZ1 : Hid (Bk gz (.cells #[.int .i64 100, .int .i64 200, .int .i64 day, .slice A' n c'] 57) x_1) := by rw [hw_x_1]; exact heap_setCell_same _ gz 3 _ _ (.slice A' n c') (heap_setCell_same _ gz 2 _ _ (.int .i64 day) (heap_setCell_same _ gz 1 _ _ (.int .i64 200) (heap_setCell_same _ gz 0 _ _ (.int .i64 100) (HZ.out))))
   rw [← hw_x_1]
   clear hw_x_1 ho HZ HR HB HE
   obtain ⟨z0, z1, z2, z3, _, _, _, _, _⟩ := four_of HZ1.out
   clear HBLK
   exact bodyPost_ret (v := .tuple #[.agg #[.int .i64 100, .int .i64 200, .int .i64 day, .slice A' n c'], .bool true]) (by simp [results, Tryz.results18, go_sem, z0, z1, z2, z3]) rfl ⟨day, A', c', rfl, HDY.out, by have h1 := HE1.out; rw [List.take_of_length_le (by rw [← HRL.out.1]; exact Nat.le_refl _)] at h1; exact h1, HB1.out⟩

end Go.Proofs.YtjlicnhkemfmiaaGreatDoor

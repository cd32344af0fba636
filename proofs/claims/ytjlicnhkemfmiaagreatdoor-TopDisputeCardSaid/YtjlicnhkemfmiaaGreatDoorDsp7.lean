/- register.Against; insolvencytop.named. -/
import Derived.Test.YtjlicnhkemfmiaaGreatDoorM22
import Derived.Test.YtjlicnhkemfmiaaGreatDoorSq
import Derived.Test.YtjlicnhkemfmiaaGreatDoorDsp6
import Derived.Deep.WholeRow
set_option linter.unusedVariables false
set_option linter.unusedSimpArgs false
set_option maxHeartbeats 8000000
set_option maxRecDepth 100000
namespace Go.Proofs.YtjlicnhkemfmiaaGreatDoor
open Go.RowKit

/-- an entry is stored into a box that has just been made -/
theorem store_entry (w : World) (x : En) : (storeCells ⟨w.heap.size, 0, none⟩ x.cells 0).run Tryz.prog (w.alloc (.cells #[.string ⟨#[]⟩, .int .i64 0, .int .i64 0, .string ⟨#[]⟩, .bool false, .string ⟨#[]⟩, .string ⟨#[]⟩, .int .i64 0, .int .i64 0, .bool false, .string ⟨#[]⟩, .string ⟨#[]⟩, .int .i64 0, .int .i64 0, .int .i64 0, .bool false, .bool false, .string ⟨#[]⟩, .string ⟨#[]⟩, .bool false, .string ⟨#[]⟩, .string ⟨#[]⟩, .bool false, .string ⟨#[]⟩, .string ⟨#[]⟩, .bool false, .string ⟨#[]⟩, .string ⟨#[]⟩, .int .i64 0, .int .i64 0] 67)) = .ok () (w.alloc (.cells x.cells.toArray 67)) := by
 have h := run_storeCells_new (P := Tryz.prog) w 67 #[.string ⟨#[]⟩, .int .i64 0, .int .i64 0, .string ⟨#[]⟩, .bool false, .string ⟨#[]⟩, .string ⟨#[]⟩, .int .i64 0, .int .i64 0, .bool false, .string ⟨#[]⟩, .string ⟨#[]⟩, .int .i64 0, .int .i64 0, .int .i64 0, .bool false, .bool false, .string ⟨#[]⟩, .string ⟨#[]⟩, .bool false, .string ⟨#[]⟩, .string ⟨#[]⟩, .bool false, .string ⟨#[]⟩, .string ⟨#[]⟩, .bool false, .string ⟨#[]⟩, .string ⟨#[]⟩, .int .i64 0, .int .i64 0] x.cells.toArray (by kernel_rfl) rfl (all_oneCell_toArray (fun v hv => En.one [x] v (by simpa using hv)))
 simpa using h
def AgPost (n : Nat) (w : World) (e : Ending) (w' : World) : Prop := ∃ A' c', e = .returned (.slice A' n c') ∧ Rd w' w'.heap.size 1 A' (List.range n).length ((List.range n).flatMap idV) ∧ Below w.heap.size w w'
theorem against_calls (cut bar day : Int) (A : Option Addr) (n c : Nat) (es : List En) (w : World) (hn : n = es.length) (hr : Rd w w.heap.size 30 A es.length (es.flatMap En.cells)) (hes : ∀ x ∈ es, x.doc.est = 0 ∧ (x.st != 7) = true ∧ x.late = false) (h8 : n ≤ 1000) :
 Calls Tryz.prog 53 #[regV cut bar day A n c, .int .i64 0] w (AgPost n w) := by
 have HRL := Lib.hid (And.intro hn hr)
 have HES := Lib.hid hes
 have hn1000 : n ≤ 1000 := h8
 obtain ⟨iq, hi, hz0, hz1, hz2⟩ := info_parts Tryz.info_intD
 have HIQ := Lib.hid (And.intro hi (And.intro hz0 (And.intro hz1 hz2)))
 clear hn hr hes h8 hi hz0 hz1 hz2
 go_enter Tryz.func53, Tryz.ntmps53
 go_upto_region 1 with fail
 obtain ⟨gr, hg_gr⟩ : ∃ g, g = w.heap.size := ⟨_, rfl⟩
 obtain ⟨w0, hw_w0⟩ : ∃ W, W = (w.alloc (.cells #[.int .i64 cut, .int .i64 bar, .int .i64 day, .slice A n c] 57)) := ⟨_, rfl⟩
 have HR0 : Hid (Bk gr (.cells #[.int .i64 cut, .int .i64 bar, .int .i64 day, .slice A n c] 57) w0) := by rw [hw_w0, hg_gr]; exact blk_new _ _
 have HB0 : Hid (Below w.heap.size w w0) := by rw [hw_w0]; exact bel_alloc _ _
 have HL_0 := Lib.hid ((by omega : w.heap.size ≤ gr))
 rw [← hw_w0]
 (try rw [← hg_gr])
 clear hw_w0 hg_gr
 obtain ⟨k0, k1, k2, k3, _, _, _, _, _⟩ := four_of HR0.out
 go_wp2_with fail
 clear k0 k1 k2 k3
 go_loopw [5, 11] (fun tw j wr => ∃ (k : Nat) (A' : Option Addr) (c' : Nat), k ≤ n ∧ tw = .slice A' k c' ∧ j = .int .i64 (k : Int) ∧ Hid (wr.ownsRow w.heap.size 3 1 (.slice A' k c') k (((List.range k).flatMap idV))) ∧ Hid (Below w.heap.size w wr)) (fun _ j _ => n - (intOf j).toNat)
 case atStart => exact ⟨0, none, 0, Nat.zero_le _, rfl, rfl, World.ownsRow_nil _ _ _ _, HB0⟩
 case round =>
  clear HR0 HB0
  obtain ⟨k, A', c', hk, rfl, rfl, HO, HB⟩ := hrel
  rename World => wo
  by_cases hlt : k < n
  ·
   have hlt2 : (k : Int) < (n : Int) := by omega
   obtain ⟨x, hx⟩ := getElem?_of_lt (l := es) (k := k) (by rw [← HRL.out.1]; exact hlt)
   have HX3 := Lib.hid (HES.out x (List.mem_of_getElem? hx))
   obtain ⟨b, off, hA, _, hc⟩ := Rd.at_ (enc := En.cells) En.len (HRL.out.2.next HB.out) hx
   subst hA
   have hra : wo.rangeAt b (off + k * 30) x.cells := fun j v hv => by rw [Nat.add_assoc]; exact hc j v hv
   have HXX := Lib.hid hx
   have HRA := Lib.hid hra
   clear hc hra hx
   have hsc := store_entry wo x
   go_upto_region 5 with (refine wpList_load_mid rfl 67 (.tmp 14) rfl b (off + k * 30) rfl x.cells _ HRA.out Tryz.underlying67 rfl (by kernel_rfl) ?_)
   clear hsc HRA
   obtain ⟨gx, hg_gx⟩ : ∃ g, g = wo.heap.size := ⟨_, rfl⟩
   obtain ⟨x_1, hw_x_1⟩ : ∃ W, W = wo.alloc (.cells x.cells.toArray 67) := ⟨_, rfl⟩
   have HL_gx := Lib.hid ((by have := HB.out.size; omega : w.heap.size ≤ gx))
   have HB1 := bea HB hw_x_1
   have HO1 : Hid (x_1.ownsRow w.heap.size 3 1 (.slice A' k c') k (((List.range k).flatMap idV))) := by rw [hw_x_1]; exact own_belowQ HO.out (bel_alloc _ _)
   have HX1 : Hid (Bk gx (.cells x.cells.toArray 67) x_1) := by rw [hw_x_1, hg_gx]; exact blk_new _ _
   rw [← hw_x_1]
   (try rw [← hg_gx])
   clear hw_x_1 hg_gx HB HO
   have c1 := blk_at (j := 1) (v := .int .i64 x.doc.est) HX1.out rfl
   have c14 := blk_at (j := 14) (v := .int .i64 x.st) HX1.out rfl
   rw [HX3.out.1] at c1
   have hx7 := HX3.out.2.1
   go_wp2_with (at_builtin; refine wpList_append_own _ rfl (.tmp 26) (.tmp 28) 75 rfl w.heap.size 3 iq _ 1 8 Tryz.underlying75 HIQ.out.1 HIQ.out.2.1 HIQ.out.2.2.1 HIQ.out.2.2.2 rfl (by decide) _ k ((List.range k).flatMap idV) rfl (HO1.out.alloc _) ⟨x_1.heap.size, 0, none⟩ 1 1 [.int .i64 (k : Int)] rfl rfl (World.news_of_block (blk_new x_1 (.cells #[.int .i64 (k : Int)] 3))) (by simp [Value.oneCell']) (by simp only [maxLen]; omega) (by omega) (by have := HB1.out.size; simp; omega) ?_)
   intro v' w' hown hgr hnil
   obtain ⟨g', cap, rfl, _, _⟩ := hown.form (by omega)
   have HO2 : Hid (w'.ownsRow w.heap.size 3 1 (.slice (some ⟨g', 0, none⟩) (k + 1) cap) (k + 1) ((List.range (k + 1)).flatMap idV)) := by rw [List.range_succ, List.flatMap_append]; exact hown
   have HB2 : Hid (Below w.heap.size w w') := (HB1.out.alloc HB1.out.size _).grown hgr (by have := HB1.out.size; simp; omega) (fun j hj => (HO1.out.lt j hj).1)
   clear hx7 c1 c14 hown hgr hnil HB1 HO1 HX1
   go_wp2_with fail
   go_roundw
   case measure => simp [intOf] <;> omega
   case rel => exact ⟨k + 1, _, _, by omega, rfl, by go_num, HO2, HB2⟩
  ·
   have hge : ¬ (k : Int) < (n : Int) := by omega
   have hkn : k = n := by omega
   subst hkn
   go_wp2_with fail
   go_ret
   exact ⟨A', c', rfl, by rw [List.length_range]; exact Rd.of_own HO.out, HB.out⟩
def NmPost (es : List En) (n : Nat) (w : World) (e : Ending) (w' : World) : Prop := ∃ A' c', e = .returned (.slice A' n c') ∧ w'.ownsRow w.heap.size 73 5 (.slice A' n c') n ((es.map nmE).flatMap nmV) ∧ Below w.heap.size w w'
theorem named_calls (cut bar day : Int) (A : Option Addr) (n c : Nat) (es : List En) (w : World) (hn : n = es.length) (hr : Rd w w.heap.size 30 A es.length (es.flatMap En.cells)) (hes : ∀ x ∈ es, x.doc.est = 0 ∧ (x.st != 7) = true ∧ x.late = false) (h8 : n ≤ 1000) :
 Calls Tryz.prog 22 #[regV cut bar day A n c] w (NmPost es n w) := by
 have HRL := Lib.hid (And.intro hn hr)
 have HES := Lib.hid hes
 have hn1000 : n ≤ 1000 := h8
 have HAG := Lib.hid (fun W (h : Below w.heap.size w W) => against_calls cut bar day A n c es W hn (hr.next h) hes h8)
 unfold AgPost at HAG
 obtain ⟨iq, hi, hz0, hz1, hz2⟩ := info_parts Tryz.info_named
 have HIQ := Lib.hid (And.intro hi (And.intro hz0 (And.intro hz1 hz2)))
 clear hn hr hes h8 hi hz0 hz1 hz2
 go_enter Tryz.func22, Tryz.ntmps22
 go_upto_region 1 with fail
 obtain ⟨gr, hg_gr⟩ : ∃ g, g = w.heap.size := ⟨_, rfl⟩
 obtain ⟨w0, hw_w0⟩ : ∃ W, W = (w.alloc (.cells #[.int .i64 cut, .int .i64 bar, .int .i64 day, .slice A n c] 57)) := ⟨_, rfl⟩
 have HR0 : Hid (Bk gr (.cells #[.int .i64 cut, .int .i64 bar, .int .i64 day, .slice A n c] 57) w0) := by rw [hw_w0, hg_gr]; exact blk_new _ _
 have HB0 : Hid (Below w.heap.size w w0) := by rw [hw_w0]; exact bel_alloc _ _
 have HL_0 := Lib.hid ((by omega : w.heap.size ≤ gr))
 rw [← hw_w0]
 (try rw [← hg_gr])
 clear hw_w0 hg_gr
 obtain ⟨k0, k1, k2, k3, _, _, _, _, _⟩ := four_of HR0.out
 go_wp2_with fail
 clear k0 k1 k2 k3
 refine (HAG.out _ HB0.out).mono ?_
 rintro e w1 ⟨A1, c1, rfl, hrd, hb⟩
 have HR1 := bkn HR0 hb
 have HB1 := ben HB0 hb
 have HI1 : Hid (Rd w1 w1.heap.size 1 A1 (List.range n).length ((List.range n).flatMap idV)) := hrd
 clear hrd HAG
 clear hb HR0 HB0
 go_wp2_with fail
 have HBW := HB1
 go_loopw [3, 10] (fun tw j wr => ∃ (k : Nat) (A' : Option Addr) (c' : Nat), k ≤ n ∧ tw = .slice A' k c' ∧ j = .int .i64 (k : Int) ∧ Hid (wr.ownsRow w1.heap.size 73 5 (.slice A' k c') k (((es.take k).map nmE).flatMap nmV)) ∧ Hid (Bk gr (.cells #[.int .i64 cut, .int .i64 bar, .int .i64 day, .slice A n c] 57) wr) ∧ Hid (Below w1.heap.size w1 wr)) (fun _ j _ => n - (intOf j).toNat)
 case atStart => exact ⟨0, none, 0, Nat.zero_le _, rfl, rfl, World.ownsRow_nil _ _ _ _, HR1, Below.refl _ _⟩
 case round =>
  clear HR1
  obtain ⟨k, A', c', hk, rfl, rfl, HO, HR, HB⟩ := hrel
  rename World => wo
  by_cases hlt : k < n
  ·
   have hlt2 : (k : Int) < (n : Int) := by omega
   obtain ⟨x, hx⟩ := getElem?_of_lt (l := es) (k := k) (by rw [← HRL.out.1]; exact hlt)
   have HX3 := Lib.hid (HES.out x (List.mem_of_getElem? hx))
   obtain ⟨b, off, hA, _, hc⟩ := Rd.at_ (enc := En.cells) En.len (HRL.out.2.next (HBW.out.trans (HB.out.mono HBW.out.size))) hx
   subst hA
   have hra : wo.rangeAt b (off + k * 30) x.cells := fun j v hv => by rw [Nat.add_assoc]; exact hc j v hv
   have HXX := Lib.hid hx
   have HRA := Lib.hid hra
   clear hc hra hx
   have hsc := store_entry wo x
   obtain ⟨ib, io, hA, _, hic⟩ := Rd.at_ (enc := idV) (fun _ => rfl) (HI1.out.next HB.out) (List.getElem?_range hlt)
   subst hA
   have p0 := hic 0 _ rfl
   rw [Nat.add_zero, Nat.mul_one] at p0
   have HTK : Hid ((((es.take (k + 1)).map nmE).flatMap nmV) = (((es.take k).map nmE).flatMap nmV) ++ [.string x.doc.id, .int .i64 x.doc.rank, .bool (rneg x.ad), .string (rnum x.ad), .string (rden x.ad)]) := by show _ = _; rw [take_mapD HXX.out, List.flatMap_append]; rfl
   have HRK := Lib.hid (fun W => rank_calls x W HX3.out.2.2)
   clear hic HXX
   have r3 := blk_at (j := 3) HR.out rfl
   go_upto_region 6 with (refine wpList_load_mid rfl 67 (.tmp 17) rfl b (off + k * 30) rfl x.cells _ HRA.out Tryz.underlying67 rfl (by kernel_rfl) ?_)
   clear p0 r3 HRA hsc
   obtain ⟨gx, hg_gx⟩ : ∃ g, g = wo.heap.size := ⟨_, rfl⟩
   obtain ⟨x_1, hw_x_1⟩ : ∃ W, W = wo.alloc (.cells x.cells.toArray 67) := ⟨_, rfl⟩
   have HL_gx := Lib.hid (And.intro (by have := HB.out.size; omega : w1.heap.size ≤ gx) ((by have := blk_lt HR.out; omega : gr < gx)))
   have HB1 := bea HB hw_x_1
   have HR1 := bka HR hw_x_1
   have HO1 : Hid (x_1.ownsRow w1.heap.size 73 5 (.slice A' k c') k (((es.take k).map nmE).flatMap nmV)) := by rw [hw_x_1]; exact own_belowQ HO.out (bel_alloc _ _)
   have HX1 : Hid (Bk gx (.cells x.cells.toArray 67) x_1) := by rw [hw_x_1, hg_gx]; exact blk_new _ _
   rw [← hw_x_1]
   (try rw [← hg_gx])
   clear hw_x_1 hg_gx HB HR HO
   obtain ⟨x_2, hw_x_2⟩ : ∃ W, W = x_1.drew := ⟨_, rfl⟩
   have HB2 := bed HB1 hw_x_2
   have HR2 := bkd HR1 hw_x_2
   have HO2 : Hid (x_2.ownsRow w1.heap.size 73 5 (.slice A' k c') k (((es.take k).map nmE).flatMap nmV)) := by rw [hw_x_2]; exact HO1.out
   have HX2 := bkd HX1 hw_x_2
   have hS1 := HX2.out
   refine wp_region_held_drew (S := (Bk gx (.cells x.cells.toArray 67))) (by kernel_rfl) (by rw [← hw_x_2]; exact hS1) ?_
   rw [← hw_x_2]
   intro _
   clear hw_x_2 HB1 HR1 HO1 HX1
   refine tk 0 hS1 ?_
   go_simp
   refine tk 1 hS1 ?_
   go_simp
   refine tk 2 hS1 ?_
   go_simp
   refine tv 3 (.string x.doc.id) rfl (by intro w' hw'; have k0 := blk_at (j := 0) (v := .string x.doc.id) hw' rfl; go_simp) hS1 ?_
   go_simp
   refine wpAnyH_take (i := 4) (v := .agg x.cells.toArray) rfl (by kernel_rfl) (by kernel_rfl) (by kernel_rfl) (fun _ _ _ h => h) (yieldsIf_load_mid (by kernel_rfl) 67 (.tmp 6) rfl gx 0 rfl x.cells _ (fun w' hw' j v hv => by rw [Nat.zero_add]; exact blk_at hw' (by simpa using hv)) Tryz.underlying67 rfl (by kernel_rfl)) hS1 ?_
   go_simp
   refine tk 6 hS1 ?_
   go_simp
   refine tv 7 (.agg #[.bool (rneg x.ad), .string (rnum x.ad), .string (rden x.ad)]) rfl (by intro w' hw'; have k0 := blk_at (j := 22) (v := .bool (rneg x.ad)) hw' rfl; have k1 := blk_at (j := 23) (v := .string (rnum x.ad)) hw' rfl; have k2 := blk_at (j := 24) (v := .string (rden x.ad)) hw' rfl; go_simp) hS1 ?_
   go_simp
   refine tr 5 (fun K hK => ?_)
   go_simp
   refine (HRK.out _).mono ?_
   rintro e x_3 ⟨rfl, hb⟩
   have HB3 := ben HB2 hb
   have HR3 := bkn HR2 hb
   have HO3 : Hid (x_3.ownsRow w1.heap.size 73 5 (.slice A' k c') k (((es.take k).map nmE).flatMap nmV)) := own_belowQ HO2.out hb
   have HX3 := bkn HX2 hb
   clear hb HB2 HR2 HO2 HX2
   have hS2 := HX3.out
   refine hK.out _ _ hS2 (fun _ => ?_)
   clear hK K
   refine tk 8 hS2 ?_
   go_simp
   refine tr 9 (fun K hK => ?_)
   go_simp
   obtain ⟨gn, hg_gn⟩ : ∃ g, g = x_3.heap.size := ⟨_, rfl⟩
   obtain ⟨x_4, hw_x_4⟩ : ∃ W, W = x_3.alloc (.cells #[.string x.doc.id, .int .i64 x.doc.rank, .bool (rneg x.ad), .string (rnum x.ad), .string (rden x.ad)] 73) := ⟨_, rfl⟩
   have HL_gn := Lib.hid (And.intro (by have := HB3.out.size; omega : w1.heap.size ≤ gn) (And.intro (by have := blk_lt HR3.out; omega : gr < gn) ((by have := blk_lt HX3.out; omega : gx < gn))))
   have HB4 := bea HB3 hw_x_4
   have HR4 := bka HR3 hw_x_4
   have HO4 : Hid (x_4.ownsRow w1.heap.size 73 5 (.slice A' k c') k (((es.take k).map nmE).flatMap nmV)) := by rw [hw_x_4]; exact own_belowQ HO3.out (bel_alloc _ _)
   have HX4 := bka HX3 hw_x_4
   have HN4 : Hid (Bk gn (.cells #[.string x.doc.id, .int .i64 x.doc.rank, .bool (rneg x.ad), .string (rnum x.ad), .string (rden x.ad)] 73) x_4) := by rw [hw_x_4, hg_gn]; exact blk_new _ _
   rw [← hw_x_4]
   (try rw [← hg_gn])
   clear hw_x_4 hg_gn HB3 HR3 HO3 HX3
   have hS3 := HX4.out
   refine hK.out _ _ hS3 (fun _ => ?_)
   clear hK K
   refine tr 10 (fun K hK => ?_)
   refine step_append_lies _ rfl (.tmp 19) (.tmp 28) 70 rfl w1.heap.size 73 iq _ 5 64 Tryz.underlying70 HIQ.out.1 HIQ.out.2.1 HIQ.out.2.2.1 HIQ.out.2.2.2 rfl (by decide) (.slice A' k c') k (((es.take k).map nmE).flatMap nmV) (by simp [Act.eval, Act.put]) HO4.out ⟨gn, 0, none⟩ 1 1 [.string x.doc.id, .int .i64 x.doc.rank, .bool (rneg x.ad), .string (rnum x.ad), .string (rden x.ad)] (by simp [Act.eval, Act.put]) rfl (World.news_of_block HN4.out) (by simp [Value.oneCell']) (by decide) (by simp only [maxLen]; omega) (by omega) HB4.out.size _ rfl ?_
   intro g' cap wp hown hgr hor hlt3
   have HRp : Hid (Bk gr (.cells #[.int .i64 cut, .int .i64 bar, .int .i64 day, .slice (some ⟨b, off, none⟩) n c] 57) wp) := blk_grownT HO4.out HR4.out (by decide) hgr
   have HXp : Hid (Bk gx (.cells x.cells.toArray 67) wp) := blk_grownT HO4.out HX4.out (by decide) hgr
   have HBp : Hid (Below w1.heap.size w1 wp) := HB4.out.grown hgr HB4.out.size (fun j hj => (HO4.out.lt j hj).1)
   have HOp : Hid (wp.ownsRow w1.heap.size 73 5 (.slice (some ⟨g', 0, none⟩) (k + 1) cap) (k + 1) (((es.take (k + 1)).map nmE).flatMap nmV)) := by rw [HTK.out]; exact hown
   clear hown hgr hor hlt3 HB4 HR4 HO4 HX4 HN4
   have hS4 := HXp.out
   refine hK.out _ _ hS4 (fun _ => ?_)
   clear hK K
   refine tk 11 hS4 ?_
   go_simp
   refine wpAnyH_done (by kernel_rfl) ?_ _
   (try go_wp2_with fail)
   go_roundw
   case measure => simp [intOf] <;> omega
   case rel => exact ⟨k + 1, _, _, by omega, rfl, by go_num, HOp, HRp, HBp⟩
  ·
   have hge : ¬ (k : Int) < (n : Int) := by omega
   have hkn : k = n := by omega
   subst hkn
   go_wp2_with fail
   go_ret
   exact ⟨A', c', rfl, by have h1 := own_monoD HO.out HBW.out.size; rw [List.take_of_length_le (by rw [← HRL.out.1]; exact Nat.le_refl _)] at h1; exact h1, HBW.out.trans (HB.out.mono HBW.out.size)⟩

end Go.Proofs.YtjlicnhkemfmiaaGreatDoor

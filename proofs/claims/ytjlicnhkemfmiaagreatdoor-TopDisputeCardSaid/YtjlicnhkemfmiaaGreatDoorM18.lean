/- Merged of WSpl WRes WPay WDel. -/
import Derived.Test.YtjlicnhkemfmiaaGreatDoorM22
import Derived.Test.YtjlicnhkemfmiaaGreatDoorSq
import Derived.Test.YtjlicnhkemfmiaaGreatDoorWLay
/- (waterfall.ladder).split. -/
set_option linter.unusedVariables false
set_option linter.unusedSimpArgs false
set_option maxHeartbeats 8000000
set_option maxRecDepth 100000
namespace Go.Proofs.YtjlicnhkemfmiaaGreatDoor
open Go.RowKit

theorem map_get {α β : Type} {f : α → β} {l : List α} {k : Nat} {x : α} (h : l[k]? = some x) : (l.map f)[k]? = some (f x) := by rw [List.getElem?_map, h]; rfl
def SplPost (m : Rat) (S : List Rat) (zl : Nat) (w : World) (e : Ending) (w' : World) : Prop :=
 ∃ k : Nat, e = .returned (.tuple #[.int .i64 (k : Int), .agg #[.bool (rneg (leftK m S k)), .string (rnum (leftK m S k)), .string (rden (leftK m S k))]]) ∧ SplitR m S k ∧ (∀ s, S[k]? = some s → leftK m S k < s) ∧ Sz zl (leftK m S k) ∧ Below w.heap.size w w'
theorem four_of {w2 : World} {g : Nat} {a b c d : Value} {T : TypeId} (hg : w2.heap[g]? = some (.cells #[a, b, c, d] T (0, 0))) :
 w2.cell? ⟨g, 0, none⟩ = some a ∧ w2.cell? ⟨g, 1, none⟩ = some b ∧ w2.cell? ⟨g, 2, none⟩ = some c ∧ w2.cell? ⟨g, 3, none⟩ = some d ∧
 w2.frozen? ⟨g, 0, none⟩ = false ∧ w2.frozen? ⟨g, 1, none⟩ = false ∧ w2.frozen? ⟨g, 2, none⟩ = false ∧ w2.frozen? ⟨g, 3, none⟩ = false ∧ g < w2.heap.size := by
 refine ⟨?_, ?_, ?_, ?_, frozen_of_row w2 _ 0 _ _ hg, frozen_of_row w2 _ 1 _ _ hg, frozen_of_row w2 _ 2 _ _ hg, frozen_of_row w2 _ 3 _ _ hg, (Array.getElem?_eq_some_iff.1 hg).1⟩
 ·
  rw [cell_of_row w2 g 0 _ _ (0, 0) hg]; rfl
 ·
  rw [cell_of_row w2 g 1 _ _ (0, 0) hg]; rfl
 ·
  rw [cell_of_row w2 g 2 _ _ (0, 0) hg]; rfl
 ·
  rw [cell_of_row w2 g 3 _ _ (0, 0) hg]; rfl
/-- a number's box is written: the ladder stays -/
theorem LadM.onlyT {B R : Nat} {ts : List Tr} {W W' : World} (h : LadM B R ts W) {g : Nat} (ho : Only g W W') {cur : Array Value} {f : Nat × Nat} (hg : W.heap[g]? = some (.cells cur 33 f)) : LadM B R ts W' := h.onlyB ho hg (by decide) (by decide)
theorem split_calls (B R : Nat) (ts : List Tr) (m : Rat) (zm Y : Nat) (w : World) (h : LadM B R ts w) (h8 : ts.length = 8) (hz : ∀ t ∈ ts, Sz Y t.sum) (hm : Sz zm m) (hm0 : 0 ≤ m) (hzm : 0 < zm) (hY : 0 < Y) (hY8 : zm + 8 * (Y + 1) ≤ 90000) :
 Calls Tryz.prog 102 #[.slice (some ⟨R, 0, none⟩) 8 8, ratV m] w (SplPost m (ts.map (·.sum)) (zm + 8 * (Y + 1)) w) := by
 obtain ⟨S, hS⟩ : ∃ S, S = ts.map (·.sum) := ⟨_, rfl⟩
 have HSS := Lib.hid (And.intro hS (And.intro h8 (And.intro hz hm)))
 have HLm : Hid (LadM B R ts w) := h
 have HNN0 := Lib.hid hm0
 rw [← hS]
 clear hS h8 hz hm h hm0
 unfold ratV
 go_enter Tryz.func102, Tryz.ntmps102
 go_wp2_with fail
 obtain ⟨gm, hg_gm⟩ : ∃ g, g = w.heap.size := ⟨_, rfl⟩
 obtain ⟨gr, hg_gr⟩ : ∃ g, g = w.heap.size + 1 := ⟨_, rfl⟩
 obtain ⟨w0, hw_w0⟩ : ∃ W, W = ((w.alloc (.cells #[.bool (rneg m), .string (rnum m), .string (rden m)] 33)).alloc (.cells #[.bool false, .string ⟨#[]⟩, .string ⟨#[]⟩] 33)) := ⟨_, rfl⟩
 have HM0 : Hid (Bk gm (.cells #[.bool (rneg m), .string (rnum m), .string (rden m)] 33) w0) := by rw [hw_w0, hg_gm]; exact blk_alloc (blk_new _ _)
 have HR0 : Hid (Bk gr (.cells #[.bool false, .string ⟨#[]⟩, .string ⟨#[]⟩] 33) w0) := by rw [hw_w0, hg_gr]; exact blk_new1 _ _ _
 have HL0 : Hid (LadM B R ts w0) := by rw [hw_w0]; exact (HLm.out.next (bel_alloc _ _)).next (bel_alloc _ _)
 have HB0 : Hid (Below w.heap.size w w0) := by rw [hw_w0]; exact (bel_alloc _ _).alloc (by simp) _
 have HL_0 := Lib.hid (And.intro (by omega : w.heap.size ≤ gm) ((by omega : gm < gr)))
 rw [← hw_w0]
 (try rw [← hg_gr]); (try rw [← hg_gm])
 clear hw_w0 hg_gm hg_gr
 clear HLm
 go_loopw [10] (fun i wr => ∃ j : Nat, j ≤ 8 ∧ i = .int .i64 (j : Int) ∧ Hid (SplitR m S j) ∧ Hid (Sz (zm + j * (Y + 1)) (leftK m S j)) ∧ Hid (LadM B R ts wr) ∧ Hid (Bk gm (.cells #[.bool (rneg (leftK m S j)), .string (rnum (leftK m S j)), .string (rden (leftK m S j))] 33) wr) ∧ Hid (Bk gr (.cells #[.bool false, .string ⟨#[]⟩, .string ⟨#[]⟩] 33) wr) ∧ Hid (Below w.heap.size w wr)) (fun i _ => 8 - (intOf i).toNat)
 case atStart => exact ⟨0, by omega, rfl, SplitR.start HNN0.out, HSS.out.2.2.2.mono (by omega), HL0, HM0, HR0, HB0⟩
 case round =>
  clear HL0 HM0 HR0 HB0
  obtain ⟨j, hj, rfl, HP, HZ, HLm, HM, HG, HB⟩ := hrel
  rename World => wo
  obtain ⟨lk, hlk⟩ : ∃ x, x = leftK m S j := ⟨_, rfl⟩
  have HLK := Lib.hid hlk
  rw [← hlk] at HM HZ
  clear hlk
  by_cases hlt : j < 8
  ·
   have hlt2 : (j : Int) < 8 := by omega
   obtain ⟨t, ht⟩ := getElem?_of_lt (l := ts) (k := j) (by rw [HSS.out.2.1]; exact hlt)
   have HTT := Lib.hid ht
   have hsz := HSS.out.2.2.1 t (List.mem_of_getElem? ht)
   have hsj : Hid (S[j]? = some t.sum) := by rw [HSS.out.1]; exact map_get ht
   clear ht
   have hC' := fun W => pCmpQ_calls lk t.sum (zm + j * (Y + 1)) Y W HZ.out hsz (by omega) hY (by have : j * (Y + 1) ≤ 7 * (Y + 1) := Nat.mul_le_mul_right _ (by omega); omega)
   have hU' := fun W => pSubQ_calls lk t.sum (zm + j * (Y + 1)) Y W HZ.out hsz (by have : j * (Y + 1) ≤ 7 * (Y + 1) := Nat.mul_le_mul_right _ (by omega); omega)
   have hzn := Sz.sub HZ.out hsz
   obtain ⟨ln, hln⟩ : ∃ x, x = lk - t.sum := ⟨_, rfl⟩
   rw [← hln] at hU' hzn
   have HLN : Hid (ln = leftK m S (j + 1)) := by show ln = _; rw [hln, leftK_next hsj.out, HLK.out]
   have HZN : Hid (Sz (zm + (j + 1) * (Y + 1)) ln) := hzn.mono (by have e : (j + 1) * (Y + 1) = j * (Y + 1) + (Y + 1) := Nat.succ_mul _ _; omega)
   clear hln hzn hsz
   obtain ⟨cc, hcc⟩ : ∃ c, c = cmpR lk t.sum := ⟨_, rfl⟩
   have HCC := Lib.hid hcc
   rw [← hcc] at hC'
   clear hcc
   unfold ratV at hC' hU'
   have HC := Lib.hid hC'
   have HU := Lib.hid hU'
   clear hC' hU'
   obtain ⟨l0, l1, l2, l3⟩ := HLm.out.cells HTT.out
   obtain ⟨c0, c1, c2, fc0, fc1, fc2, hzc⟩ := three_of (blk_alloc (o' := (.cells #[.slice t.A t.ps.length t.c, .bool (rneg t.sum), .string (rnum t.sum), .string (rden t.sum)] 136)) HM.out)
   go_wp2_with fail
   clear l0 l1 l2 l3
   clear c0 c1 c2 fc0 fc1 fc2 hzc
   obtain ⟨gt, hg_gt⟩ : ∃ g, g = wo.heap.size := ⟨_, rfl⟩
   obtain ⟨x1, hw_x1⟩ : ∃ W, W = wo.alloc (.cells #[.slice t.A t.ps.length t.c, .bool (rneg t.sum), .string (rnum t.sum), .string (rden t.sum)] 136) := ⟨_, rfl⟩
   have HL_gt := Lib.hid (And.intro (by have := blk_lt HM.out; omega : gm < gt) (And.intro (by have := blk_lt HG.out; omega : gr < gt) ((by have := HB.out.size; omega : w.heap.size ≤ gt))))
   have HL1 : Hid (LadM B R ts x1) := by rw [hw_x1]; exact HLm.out.next (bel_alloc _ _)
   have HM1 := bka HM hw_x1
   have HR1 := bka HG hw_x1
   have HB1 := bea HB hw_x1
   have HT1 : Hid (Bk gt (.cells #[.slice t.A t.ps.length t.c, .bool (rneg t.sum), .string (rnum t.sum), .string (rden t.sum)] 136) x1) := by rw [hw_x1, hg_gt]; exact blk_new _ _
   rw [← hw_x1]
   (try rw [← hg_gt])
   clear hw_x1 hg_gt HLm HM HG HB
   refine (HC.out _).mono ?_
   rintro e x2 ⟨rfl, hb⟩
   have HL2 : Hid (LadM B R ts x2) := HL1.out.next hb
   have HM2 := bkn HM1 hb
   have HR2 := bkn HR1 hb
   have HB2 := ben HB1 hb
   have HT2 := bkn HT1 hb
   clear hb HL1 HM1 HR1 HB1 HT1
   by_cases hneg : cc < 0
   ·
    have d1 : decide (cc < 0) = true := decide_eq_true hneg
    have HX : Hid (∀ s, S[j]? = some s → leftK m S j < s) := by
     intro s hs
     rw [hsj.out] at hs
     obtain rfl := Option.some.inj hs
     rw [← HLK.out]
     exact cmpR_neg.1 (by rw [← HCC.out]; exact hneg)
    clear hneg
    go_upto_region 5 with fail
    obtain ⟨x3, hw_x3⟩ : ∃ W, W = x2.drew := ⟨_, rfl⟩
    have HL3 : Hid (LadM B R ts x3) := by rw [hw_x3]; exact HL2.out.drew
    have HM3 := bkd HM2 hw_x3
    have HR3 := bkd HR2 hw_x3
    have HB3 := bed HB2 hw_x3
    have HT3 := bkd HT2 hw_x3
    have hS1 := HM3.out
    refine wp_region_held_drew (S := (Bk gm (.cells #[.bool (rneg lk), .string (rnum lk), .string (rden lk)] 33))) (by kernel_rfl) (by rw [← hw_x3]; exact hS1) ?_
    rw [← hw_x3]
    intro _
    clear hw_x3 HL2 HM2 HR2 HB2 HT2
    refine tk 0 hS1 ?_
    go_simp
    refine tv 1 (.agg #[.bool (rneg lk), .string (rnum lk), .string (rden lk)]) rfl (by intro w' hw'; obtain ⟨k0, k1, k2, fk0, fk1, fk2, hzk⟩ := three_of hw'; go_simp) hS1 ?_
    go_simp
    refine tk 2 hS1 ?_
    go_simp
    refine tr 3 (fun K hK => ?_)
    obtain ⟨c0, c1, c2, fc0, fc1, fc2, hzc⟩ := three_of HR3.out
    go_simp
    clear c0 c1 c2 fc0 fc1 fc2 hzc
    have HBLK := HR3
    obtain ⟨x4, hw_x4⟩ : ∃ W, W = (((x3.setCell ⟨gr, 0, none⟩ (.bool (rneg lk))).setCell ⟨gr, 1, none⟩ (.string (rnum lk))).setCell ⟨gr, 2, none⟩ (.string (rden lk))) := ⟨_, rfl⟩
    have ho : Only gr x3 x4 := by rw [hw_x4]; exact (((Only.refl _ _).setC _ _).setC _ _).setC _ _
    have HL4 : Hid (LadM B R ts x4) := HL3.out.onlyT ho HBLK.out
    have HM4 := bko HM3 ho (by have := HL_0.out; have := HL_gt.out; omega)
    have HB4 := beo HB3 ho (by have := HL_0.out; have := HL_gt.out; omega)
    have HT4 := bko HT3 ho (by have := HL_0.out; have := HL_gt.out; omega)
    have HR4 : Hid (Bk gr (.cells #[.bool (rneg lk), .string (rnum lk), .string (rden lk)] 33) x4) := by rw [hw_x4]; exact heap_setCell_same _ gr 2 _ _ (.string (rden lk)) (heap_setCell_same _ gr 1 _ _ (.string (rnum lk)) (heap_setCell_same _ gr 0 _ _ (.bool (rneg lk)) (HR3.out)))
    rw [← hw_x4]
    clear hw_x4 ho HR3 HL3 HM3 HB3 HT3
    have hS2 := HM4.out
    refine hK.out _ _ hS2 (fun _ => ?_)
    clear hK K
    refine wpAnyH_done (by kernel_rfl) ?_ _
    obtain ⟨c0, c1, c2, fc0, fc1, fc2, hzc⟩ := three_of HR4.out
    go_wp2_with fail
    exact bodyPost_ret (v := .tuple #[.int .i64 (j : Int), .agg #[.bool (rneg lk), .string (rnum lk), .string (rden lk)]]) (by simp [results, Tryz.results102, go_sem, c0, c1, c2]) rfl ⟨j, by rw [← HLK.out], HP.out, HX.out, by rw [← HLK.out]; exact HZ.out.mono (by have : j * (Y + 1) ≤ 8 * (Y + 1) := Nat.mul_le_mul_right _ (by omega); omega), HB4.out⟩
   ·
    have d1 : decide (cc < 0) = false := decide_eq_false hneg
    have HX : Hid (SplitR m S (j + 1)) := by
     refine HP.out.next hsj.out ?_
     rw [← HLK.out]
     exact cmpR_nn.1 (by rw [← HCC.out]; omega)
    clear hneg
    obtain ⟨c0, c1, c2, fc0, fc1, fc2, hzc⟩ := three_of HM2.out
    obtain ⟨t0, t1, t2, t3, ft0, ft1, ft2, ft3, tz⟩ := four_of HT2.out
    go_wp2_with fail
    clear c0 c1 c2 fc0 fc1 fc2 hzc
    clear t0 t1 t2 t3 ft0 ft1 ft2 ft3 tz
    refine (HU.out _).mono ?_
    rintro e x3 ⟨rfl, hb⟩
    have HL3 : Hid (LadM B R ts x3) := HL2.out.next hb
    have HM3 := bkn HM2 hb
    have HR3 := bkn HR2 hb
    have HB3 := ben HB2 hb
    have HT3 := bkn HT2 hb
    clear hb HL2 HM2 HR2 HB2 HT2
    obtain ⟨c0, c1, c2, fc0, fc1, fc2, hzc⟩ := three_of HM3.out
    go_wp2_with fail
    clear c0 c1 c2 fc0 fc1 fc2 hzc
    have HBLK := Lib.hid HM3.out
    obtain ⟨x4, hw_x4⟩ : ∃ W, W = (((x3.setCell ⟨gm, 0, none⟩ (.bool (rneg ln))).setCell ⟨gm, 1, none⟩ (.string (rnum ln))).setCell ⟨gm, 2, none⟩ (.string (rden ln))) := ⟨_, rfl⟩
    have ho : Only gm x3 x4 := by rw [hw_x4]; exact (((Only.refl _ _).setC _ _).setC _ _).setC _ _
    have HL4 : Hid (LadM B R ts x4) := HL3.out.onlyT ho HBLK.out
    have HR4 := bko HR3 ho (by have := HL_0.out; have := HL_gt.out; omega)
    have HB4 := beo HB3 ho (by have := HL_0.out; have := HL_gt.out; omega)
    have HT4 := bko HT3 ho (by have := HL_0.out; have := HL_gt.out; omega)
    have HM4 : Hid (Bk gm (.cells #[.bool (rneg ln), .string (rnum ln), .string (rden ln)] 33) x4) := by rw [hw_x4]; exact heap_setCell_same _ gm 2 _ _ (.string (rden ln)) (heap_setCell_same _ gm 1 _ _ (.string (rnum ln)) (heap_setCell_same _ gm 0 _ _ (.bool (rneg ln)) (HM3.out)))
    rw [← hw_x4]
    clear hw_x4 ho HM3 HL3 HR3 HB3 HT3
    go_roundw
    case measure => simp [intOf] <;> omega
    case rel => exact ⟨j + 1, by omega, by go_num, HX, by rw [← HLN.out]; exact HZN, HL4, by rw [← HLN.out]; exact HM4, HR4, HB4⟩
  ·
   have hlt2 : ¬ (j : Int) < 8 := by omega
   have HX : Hid (∀ s, S[j]? = some s → leftK m S j < s) := by
    intro s hs
    rw [List.getElem?_eq_none (by rw [HSS.out.1, List.length_map, HSS.out.2.1]; omega)] at hs
    cases hs
   have h8j : j = 8 := by omega
   have H8 := Lib.hid h8j
   clear h8j
   go_upto_region 8 with fail
   obtain ⟨y1, hw_y1⟩ : ∃ W, W = wo.drew := ⟨_, rfl⟩
   have HL1 : Hid (LadM B R ts y1) := by rw [hw_y1]; exact HLm.out.drew
   have HM1 := bkd HM hw_y1
   have HR1 := bkd HG hw_y1
   have HB1 := bed HB hw_y1
   have hS1 := HM1.out
   refine wp_region_held_drew (S := (Bk gm (.cells #[.bool (rneg lk), .string (rnum lk), .string (rden lk)] 33))) (by kernel_rfl) (by rw [← hw_y1]; exact hS1) ?_
   rw [← hw_y1]
   intro _
   clear hw_y1 HLm HM HG HB
   refine tk 0 hS1 ?_
   go_simp
   refine tk 1 hS1 ?_
   go_simp
   refine tv 2 (.agg #[.bool (rneg lk), .string (rnum lk), .string (rden lk)]) rfl (by intro w' hw'; obtain ⟨k0, k1, k2, fk0, fk1, fk2, hzk⟩ := three_of hw'; go_simp) hS1 ?_
   go_simp
   refine tk 3 hS1 ?_
   go_simp
   refine tr 4 (fun K hK => ?_)
   obtain ⟨c0, c1, c2, fc0, fc1, fc2, hzc⟩ := three_of HR1.out
   go_simp
   clear c0 c1 c2 fc0 fc1 fc2 hzc
   have HBLK := HR1
   obtain ⟨y2, hw_y2⟩ : ∃ W, W = (((y1.setCell ⟨gr, 0, none⟩ (.bool (rneg lk))).setCell ⟨gr, 1, none⟩ (.string (rnum lk))).setCell ⟨gr, 2, none⟩ (.string (rden lk))) := ⟨_, rfl⟩
   have ho : Only gr y1 y2 := by rw [hw_y2]; exact (((Only.refl _ _).setC _ _).setC _ _).setC _ _
   have HL2 : Hid (LadM B R ts y2) := HL1.out.onlyT ho HBLK.out
   have HM2 := bko HM1 ho (by have := HL_0.out; omega)
   have HB2 := beo HB1 ho (by have := HL_0.out; omega)
   have HR2 : Hid (Bk gr (.cells #[.bool (rneg lk), .string (rnum lk), .string (rden lk)] 33) y2) := by rw [hw_y2]; exact heap_setCell_same _ gr 2 _ _ (.string (rden lk)) (heap_setCell_same _ gr 1 _ _ (.string (rnum lk)) (heap_setCell_same _ gr 0 _ _ (.bool (rneg lk)) (HR1.out)))
   rw [← hw_y2]
   clear hw_y2 ho HR1 HL1 HM1 HB1
   have hS2 := HM2.out
   refine hK.out _ _ hS2 (fun _ => ?_)
   clear hK K
   refine wpAnyH_done (by kernel_rfl) ?_ _
   obtain ⟨c0, c1, c2, fc0, fc1, fc2, hzc⟩ := three_of HR2.out
   go_wp2_with fail
   exact bodyPost_ret (v := .tuple #[.int .i64 8, .agg #[.bool (rneg lk), .string (rnum lk), .string (rden lk)]]) (by simp [results, Tryz.results102, go_sem, c0, c1, c2]) rfl ⟨j, by rw [← HLK.out, H8.out]; rfl, HP.out, HX.out, by rw [← HLK.out]; exact HZ.out.mono (by have : j * (Y + 1) ≤ 8 * (Y + 1) := Nat.mul_le_mul_right _ (by omega); omega), HB2.out⟩

end Go.Proofs.YtjlicnhkemfmiaaGreatDoor

/- (*waterfall.result).add, share. -/
namespace Go.Proofs.YtjlicnhkemfmiaaGreatDoor
open Go.RowKit

def rtV (q : Rat) : List Value := [.bool (rneg q), .string (rnum q), .string (rden q)]
theorem rtV_len (q : Rat) : (rtV q).length = 3 := rfl
/-- a block of numbers -/
def RatsB (C : Nat) (qs : List Rat) (W : World) : Prop := W.heap[C]? = some (.cells (qs.flatMap rtV).toArray 33 (0, 0))
section
variable {C : Nat} {qs : List Rat} {W W' : World} {i : Nat} {q : Rat}
theorem RatsB.lt (h : RatsB C qs W) : C < W.heap.size := blk_lt h
theorem RatsB.cell (h : RatsB C qs W) (hr : qs[i]? = some q) {j : Nat} {v : Value} (hv : (rtV q)[j]? = some v) : W.cell? ⟨C, i * 3 + j, none⟩ = some v :=
 cell_of_list h (by rw [flat_get rtV 3 rtV_len qs i j q hr (by have := (List.getElem?_eq_some_iff.1 hv).1; exact this)]; exact hv)
theorem RatsB.cells (h : RatsB C qs W) (hr : qs[i]? = some q) : W.cell? ⟨C, i * 3, none⟩ = some (.bool (rneg q)) ∧ W.cell? ⟨C, i * 3 + 1, none⟩ = some (.string (rnum q)) ∧ W.cell? ⟨C, i * 3 + 2, none⟩ = some (.string (rden q)) :=
 ⟨h.cell (j := 0) hr rfl, h.cell hr rfl, h.cell hr rfl⟩
theorem RatsB.free (h : RatsB C qs W) (j : Nat) : W.frozen? ⟨C, j, none⟩ = false := frozen_of_row W C j _ _ h
theorem flat_set3 {α : Type} (f : α → List Value) (hS : ∀ x, (f x).length = 3) {l : List α} {k : Nat} {x y : α} {a b c : Value} (h : l[k]? = some x) (e : f y = [a, b, c]) : (((l.flatMap f).set (k * 3) a).set (k * 3 + 1) b).set (k * 3 + 2) c = (l.set k y).flatMap f := by
 have hl := flat_len f 3 hS l
 have hrl := (List.getElem?_eq_some_iff.1 h).1
 have e2 := flat_len f 3 hS (l.set k y)
 rw [List.length_set] at e2
 refine List.ext_getElem? fun i => ?_
 by_cases hi : i < l.length * 3
 ·
  obtain ⟨z, hz⟩ := getElem?_of_lt (l := l) (k := i / 3) (by omega)
  have g1 := flat_get f 3 hS l (i / 3) (i % 3) z hz (by omega)
  rw [show i / 3 * 3 + i % 3 = i by omega] at g1
  simp only [List.getElem?_set, List.length_set, hl]
  by_cases hir : i / 3 = k
  ·
   have g2 := flat_get f 3 hS (l.set k y) k (i % 3) y (by rw [List.getElem?_set, if_pos rfl, if_pos hrl]) (by omega)
   rw [show k * 3 + i % 3 = i by omega, e] at g2
   rw [g2]
   have h4 : i % 3 = 0 ∨ i % 3 = 1 ∨ i % 3 = 2 := by omega
   rcases h4 with h4 | h4 | h4
   ·
    rw [if_neg (by omega), if_neg (by omega), if_pos (by omega), if_pos (by omega), h4]; rfl
   ·
    rw [if_neg (by omega), if_pos (by omega), if_pos (by omega), h4]; rfl
   ·
    rw [if_pos (by omega), if_pos (by omega), h4]; rfl
  ·
   have g2 := flat_get f 3 hS (l.set k y) (i / 3) (i % 3) z (by rw [List.getElem?_set, if_neg (fun e => hir e.symm)]; exact hz) (by omega)
   rw [show i / 3 * 3 + i % 3 = i by omega] at g2
   rw [if_neg (by omega), if_neg (by omega), if_neg (by omega), g1, g2]
 ·
  rw [List.getElem?_eq_none (by simp only [List.length_set]; omega), List.getElem?_eq_none (by omega)]
theorem RatsB.set (h : RatsB C qs W) (hi : qs[i]? = some q) (x : Rat) : RatsB C (qs.set i x) (((W.setCell ⟨C, i * 3, none⟩ (.bool (rneg x))).setCell ⟨C, i * 3 + 1, none⟩ (.string (rnum x))).setCell ⟨C, i * 3 + 2, none⟩ (.string (rden x))) := by
 have b1 := blk_set_list (j := i * 3) h (.bool (rneg x))
 have b2 := blk_set_list (j := i * 3 + 1) b1 (.string (rnum x))
 have b3 := blk_set_list (j := i * 3 + 2) b2 (.string (rden x))
 unfold RatsB
 rw [← flat_set3 rtV rtV_len (y := x) hi rfl]
 exact b3
end
/-- a block of the call's own is written besides -/
theorem Only.own {C g : Nat} {w W W' : World} (h : Only C w W) (ho : Only g W W') (hg : w.heap.size ≤ g) : Only C w W' :=
 ⟨ho.os.trans h.os, ho.tape.trans h.tape, ho.output.trans h.output, Nat.le_trans h.size ho.size, fun k hk hne => (ho.block k (Nat.lt_of_lt_of_le hk h.size) (by omega)).trans (h.block k hk hne)⟩
theorem own_onlyT {B n S : Nat} {v : Value} {xs : List Value} {W W' : World} {T : TypeId} (h : W.ownsRow B T S v n xs) {g : Nat} (ho : Only g W W') {cur : Array Value} {T1 : TypeId} {f : Nat × Nat} (hg : W.heap[g]? = some (.cells cur T1 f)) (hT : T1 ≠ T) : W'.ownsRow B T S v n xs := by
 refine ⟨h.1, ?_⟩
 rcases h.2 with hn | ⟨q, cap, cur2, e1, hb2, hgg, rest⟩
 ·
  exact .inl hn
 ·
  refine .inr ⟨q, cap, cur2, e1, hb2, blk_onlyW hgg ho (fun e => ?_), rest⟩
  rw [e, hg] at hgg
  injection hgg with hgg
  injection hgg with _ hgg
  exact hT hgg
theorem blk_ne {g q : Nat} {W : World} {c1 c2 : Array Value} {T1 T2 : TypeId} {f1 f2 : Nat × Nat} (h1 : W.heap[g]? = some (.cells c1 T1 f1)) (h2 : W.heap[q]? = some (.cells c2 T2 f2)) (hT : T1 ≠ T2) : g ≠ q := by
 intro e
 rw [e, h2] at h1
 injection h1 with h1
 injection h1 with _ h1
 exact hT h1.symm
theorem rAdd_calls (rb C cap i : Nat) (rs q x : Rat) (qs : List Rat) (k m : Nat) (w : World) (hb : Bk rb (.cells #[.slice (some ⟨C, 0, none⟩) qs.length cap, .bool (rneg rs), .string (rnum rs), .string (rden rs)] 146) w) (hc : RatsB C qs w) (hi : qs[i]? = some q) (hq : Sz k q) (hx : Sz m x) (k0 : 0 < k) (m0 : 0 < m) (hkm : k + m ≤ 99999) :
 Calls Tryz.prog 103 #[.pointer (some ⟨rb, 0, none⟩), .int .i64 (i : Int), ratV x] w fun e w' => e = .returned (.tuple #[]) ∧ RatsB C (qs.set i (q + x)) w' ∧ Only C w w' := by
 have hA' := fun W => pAddQ_calls q x k m W hq hx k0 m0 hkm
 obtain ⟨s, hs⟩ : ∃ s, s = q + x := ⟨_, rfl⟩
 rw [← hs] at hA' ⊢
 clear hs
 unfold ratV at hA' ⊢
 have HA := Lib.hid hA'
 have HI := Lib.hid hi
 have HR00 := Lib.hid hb
 have HC00 := Lib.hid hc
 have hil : (i : Int) < (qs.length : Int) := by have := (List.getElem?_eq_some_iff.1 hi).1; omega
 have d1 : ((i : Int) == -1) = false := by simp <;> omega
 have HCl : Hid (C < w.heap.size) := hc.lt
 have HRC : Hid (rb ≠ C) := blk_ne hb hc (by decide)
 clear hA' hi hb hc hq hx k0 m0 hkm
 go_enter Tryz.func103, Tryz.ntmps103
 go_wp2_with fail
 obtain ⟨ga, hga⟩ : ∃ g, g = w.heap.size := ⟨_, rfl⟩
 obtain ⟨w0, hw0⟩ : ∃ W, W = w.alloc (.cells #[.bool (rneg x), .string (rnum x), .string (rden x)] 33) := ⟨_, rfl⟩
 have HX0 : Hid (Bk ga (.cells #[.bool (rneg x), .string (rnum x), .string (rden x)] 33) w0) := by rw [hw0, hga]; exact blk_new _ _
 have HR0 : Hid (Bk rb (.cells #[.slice (some ⟨C, 0, none⟩) qs.length cap, .bool (rneg rs), .string (rnum rs), .string (rden rs)] 146) w0) := by rw [hw0]; exact blk_alloc HR00.out
 have HC0 : Hid (RatsB C qs w0) := by rw [hw0]; exact blk_alloc HC00.out
 have HO0 : Hid (Only C w w0) := by rw [hw0]; exact Only.of_below (bel_alloc _ _)
 have HL_a : Hid (C < ga ∧ w.heap.size ≤ ga) := by rw [hga]; exact ⟨HCl.out, Nat.le_refl _⟩
 rw [← hw0]
 (try rw [← hga])
 clear hw0 hga HR00 HC00
 obtain ⟨w1, hw_w1⟩ : ∃ W, W = w0.drew := ⟨_, rfl⟩
 have HX1 := bkd HX0 hw_w1
 have HR1 := bkd HR0 hw_w1
 have HC1 : Hid (RatsB C qs w1) := by rw [hw_w1]; exact HC0.out
 have HO1 : Hid (Only C w w1) := by rw [hw_w1]; exact HO0.out.drew
 have hS1 := And.intro HX1.out HR1.out
 refine wp_region_held_drew (S := (AndW (Bk ga (.cells #[.bool (rneg x), .string (rnum x), .string (rden x)] 33)) (Bk rb (.cells #[.slice (some ⟨C, 0, none⟩) qs.length cap, .bool (rneg rs), .string (rnum rs), .string (rden rs)] 146)))) (by kernel_rfl) (by rw [← hw_w1]; exact hS1) ?_
 rw [← hw_w1]
 intro _
 clear hw_w1 HX0 HR0 HC0 HO0
 refine tk 0 hS1 ?_
 go_simp
 refine tk 1 hS1 ?_
 go_simp
 refine tk 2 hS1 ?_
 go_simp
 refine tv 3 (.slice (some ⟨C, 0, none⟩) qs.length cap) rfl (by intro w' hw'; obtain ⟨k0, k1, k2, k3, _, _, _, _, _⟩ := four_of hw'.2; go_simp) hS1 ?_
 go_simp
 refine tk 4 hS1 ?_
 go_simp
 refine tk 5 hS1 ?_
 go_simp
 refine tk 6 hS1 ?_
 go_simp
 refine tk 7 hS1 ?_
 go_simp
 refine tv 8 (.slice (some ⟨C, 0, none⟩) qs.length cap) rfl (by intro w' hw'; obtain ⟨k0, k1, k2, k3, _, _, _, _, _⟩ := four_of hw'.2; go_simp) hS1 ?_
 go_simp
 refine tk 9 hS1 ?_
 go_simp
 refine tk 10 hS1 ?_
 go_simp
 refine tv 12 (.agg #[.bool (rneg x), .string (rnum x), .string (rden x)]) rfl (by intro w' hw'; obtain ⟨k0, k1, k2, fk0, fk1, fk2, hzk⟩ := three_of hw'.1; go_simp) hS1 ?_
 go_simp
 refine tr 11 (fun K hK => ?_)
 obtain ⟨l0, l1, l2⟩ := HC1.out.cells HI.out
 go_simp
 clear l0 l1 l2
 have hS2 := And.intro HX1.out HR1.out
 refine hK.out _ _ hS2 (fun _ => ?_)
 clear hK K
 refine tr 13 (fun K hK => ?_)
 go_simp
 refine (HA.out _).mono ?_
 rintro e w2 ⟨rfl, hb⟩
 have HX2 := bkn HX1 hb
 have HR2 := bkn HR1 hb
 have HC2 : Hid (RatsB C qs w2) := blk_next HC1.out hb
 have HO2 : Hid (Only C w w2) := HO1.out.trans (Only.of_below hb)
 clear hb HX1 HR1 HC1 HO1
 have hS3 := And.intro HX2.out HR2.out
 refine hK.out _ _ hS3 (fun _ => ?_)
 clear hK K
 refine tk 14 hS3 ?_
 go_simp
 refine tr 15 (fun K hK => ?_)
 obtain ⟨l0, l1, l2⟩ := HC2.out.cells HI.out
 have f0 := HC2.out.free (i * 3)
 have f1 := HC2.out.free (i * 3 + 1)
 have f2 := HC2.out.free (i * 3 + 2)
 have lf := HC2.out.lt
 go_simp
 clear l0 l1 l2 f0 f1 f2 lf
 obtain ⟨wz, hwz⟩ : ∃ W, W = ((w2.setCell ⟨C, i * 3, none⟩ (.bool (rneg s))).setCell ⟨C, i * 3 + 1, none⟩ (.string (rnum s))).setCell ⟨C, i * 3 + 2, none⟩ (.string (rden s)) := ⟨_, rfl⟩
 have ho : Only C w2 wz := by rw [hwz]; exact (((Only.refl _ _).setC _ _).setC _ _).setC _ _
 have HCz : Hid (RatsB C (qs.set i s) wz) := by rw [hwz]; exact HC2.out.set HI.out s
 have HXz := bko HX2 ho (by have := HL_a.out; omega)
 have HRz := bko HR2 ho HRC.out
 have HOz : Hid (Only C w wz) := HO2.out.trans ho
 rw [← hwz]
 clear hwz ho
 have hSz := And.intro HXz.out HRz.out
 refine hK.out _ _ hSz (fun _ => ?_)
 clear hK K
 refine wpAnyH_done (by kernel_rfl) ?_ _
 (try go_wp2_with fail)
 go_end0
 exact ⟨rfl, HCz.out, HOz.out⟩
theorem rShare_calls (B rb C cap n : Nat) (rs x : Rat) (A : Option Addr) (c : Nat) (ps : List Pt) (S : Rat) (qs : List Rat) (z zl Y : Nat) (w : World) (hb : Bk rb (.cells #[.slice (some ⟨C, 0, none⟩) n cap, .bool (rneg rs), .string (rnum rs), .string (rden rs)] 146) w) (hc : RatsB C qs w) (hn : qs.length = n) (ho : ownP B ⟨A, c, ps, S⟩ w) (hs : Sz Y S) (hs0 : S ≠ 0) (hx : Sz zl x) (hzp : ∀ p ∈ ps, Sz z p.2) (hz : ∀ (j : Nat) (p : Pt), ps[j]? = some p → (addP (x / S) qs (ps.take j))[p.1]? = some 0) (hz0 : 0 < z) (hY0 : 0 < Y) (hbd : z + (zl + Y) ≤ 99000) (hpl : ps.length ≤ 1000) :
 Calls Tryz.prog 104 #[.pointer (some ⟨rb, 0, none⟩), .agg #[.slice A ps.length c, .bool (rneg S), .string (rnum S), .string (rden S)], ratV x] w fun e w' => e = .returned (.tuple #[]) ∧ RatsB C (addP (x / S) qs ps) w' ∧ Only C w w' := by
 have hD' := fun W => pDivQ_calls x S zl Y W hx hs hs0 (by omega)
 have hqs := Sz.div hx hs hs0
 obtain ⟨f, hf⟩ : ∃ f, f = x / S := ⟨_, rfl⟩
 rw [← hf] at hD' hqs hz ⊢
 clear hf
 have HP0' := Lib.hid (And.intro hz (And.intro hqs (And.intro hzp hn)))
 unfold ratV at hD' ⊢
 have HD := Lib.hid hD'
 have HR00 := Lib.hid hb
 have HC00 := Lib.hid hc
 have HP00 := Lib.hid ho
 have HCl : Hid (C < w.heap.size) := hc.lt
 have HRl : Hid (rb < w.heap.size) := blk_lt hb
 have HRC : Hid (rb ≠ C) := blk_ne hb hc (by decide)
 clear hD' hqs hz hb hc ho hs hs0 hx hzp hn
 go_enter Tryz.func104, Tryz.ntmps104
 go_wp2_with fail
 obtain ⟨gt, hg_gt⟩ : ∃ g, g = w.heap.size := ⟨_, rfl⟩
 obtain ⟨gx, hg_gx⟩ : ∃ g, g = w.heap.size + 1 := ⟨_, rfl⟩
 obtain ⟨w0, hw_w0⟩ : ∃ W, W = ((w.alloc (.cells #[.slice A ps.length c, .bool (rneg S), .string (rnum S), .string (rden S)] 136)).alloc (.cells #[.bool (rneg x), .string (rnum x), .string (rden x)] 33)) := ⟨_, rfl⟩
 have HT0 : Hid (Bk gt (.cells #[.slice A ps.length c, .bool (rneg S), .string (rnum S), .string (rden S)] 136) w0) := by rw [hw_w0, hg_gt]; exact blk_alloc (blk_new _ _)
 have HX0 : Hid (Bk gx (.cells #[.bool (rneg x), .string (rnum x), .string (rden x)] 33) w0) := by rw [hw_w0, hg_gx]; exact blk_new1 _ _ _
 have HL_c : Hid (C < gt ∧ rb < gt) := by rw [hg_gt]; exact ⟨HCl.out, HRl.out⟩
 have HP0 : Hid (ownP B ⟨A, c, ps, S⟩ w0) := by rw [hw_w0]; exact (HP00.out.alloc _).alloc _
 have HC0 : Hid (RatsB C qs w0) := by rw [hw_w0]; exact blk_alloc (blk_alloc HC00.out)
 have HR0 : Hid (Bk rb (.cells #[.slice (some ⟨C, 0, none⟩) n cap, .bool (rneg rs), .string (rnum rs), .string (rden rs)] 146) w0) := by rw [hw_w0]; exact blk_alloc (blk_alloc HR00.out)
 have HO0 : Hid (Only C w w0) := by rw [hw_w0]; exact Only.of_below <| (bel_alloc _ _).alloc (by simp) _
 have HL_0 := Lib.hid (And.intro (by omega : w.heap.size ≤ gt) ((by omega : gt < gx)))
 rw [← hw_w0]
 (try rw [← hg_gx]); (try rw [← hg_gt])
 clear hw_w0 hg_gt hg_gx
 clear HR00 HC00 HP00
 refine (HD.out _).mono ?_
 rintro e w1 ⟨rfl, hb⟩
 have HT1 := bkn HT0 hb
 have HX1 := bkn HX0 hb
 have HR1 := bkn HR0 hb
 have HC1 : Hid (RatsB C qs w1) := blk_next HC0.out hb
 have HP1 : Hid (ownP B ⟨A, c, ps, S⟩ w1) := own_belowQ HP0.out hb
 have HO1 : Hid (Only C w w1) := HO0.out.trans (Only.of_below hb)
 clear hb HT0 HX0 HR0 HC0 HP0 HO0
 obtain ⟨t0, t1, t2, t3, ft0, ft1, ft2, ft3, tz⟩ := four_of (blk_alloc (o' := (.cells #[.bool (rneg f), .string (rnum f), .string (rden f)] 33)) HT1.out)
 go_wp2_with fail
 clear t0 t1 t2 t3 ft0 ft1 ft2 ft3 tz
 obtain ⟨gq, hg_gq⟩ : ∃ g, g = w1.heap.size := ⟨_, rfl⟩
 obtain ⟨w2, hw_w2⟩ : ∃ W, W = w1.alloc (.cells #[.bool (rneg f), .string (rnum f), .string (rden f)] 33) := ⟨_, rfl⟩
 have HL_gq := Lib.hid (And.intro (by have := blk_lt HT1.out; omega : gt < gq) (And.intro (by have := blk_lt HX1.out; omega : gx < gq) (And.intro (by have := blk_lt HR1.out; omega : rb < gq) (And.intro (by have := blk_lt HC1.out; omega : C < gq) ((by have := HO1.out.size; omega : w.heap.size ≤ gq))))))
 have HT2 := bka HT1 hw_w2
 have HX2 := bka HX1 hw_w2
 have HR2 := bka HR1 hw_w2
 have HC2 : Hid (RatsB C qs w2) := by rw [hw_w2]; exact blk_next HC1.out (bel_alloc _ _)
 have HP2 : Hid (ownP B ⟨A, c, ps, S⟩ w2) := by rw [hw_w2]; exact own_belowQ HP1.out (bel_alloc _ _)
 have HO2 : Hid (Only C w w2) := by rw [hw_w2]; exact HO1.out.trans (Only.of_below (bel_alloc _ _))
 have HQ2 : Hid (Bk gq (.cells #[.bool (rneg f), .string (rnum f), .string (rden f)] 33) w2) := by rw [hw_w2, hg_gq]; exact blk_new _ _
 rw [← hw_w2]
 (try rw [← hg_gq])
 clear hw_w2 hg_gq HT1 HX1 HR1 HC1 HP1 HO1
 go_loopw [20] (fun i wr => ∃ j : Nat, j ≤ ps.length ∧ i = .int .i64 (j : Int) ∧ Hid (RatsB C (addP f qs (ps.take j)) wr) ∧ Hid (Bk gt (.cells #[.slice A ps.length c, .bool (rneg S), .string (rnum S), .string (rden S)] 136) wr) ∧ Hid (Bk gq (.cells #[.bool (rneg f), .string (rnum f), .string (rden f)] 33) wr) ∧ Hid (Bk rb (.cells #[.slice (some ⟨C, 0, none⟩) n cap, .bool (rneg rs), .string (rnum rs), .string (rden rs)] 146) wr) ∧ Hid (ownP B ⟨A, c, ps, S⟩ wr) ∧ Hid (Only C w wr)) (fun i _ => ps.length - (intOf i).toNat)
 case atStart => exact ⟨0, Nat.zero_le _, rfl, HC2, HT2, HQ2, HR2, HP2, HO2⟩
 case round =>
  clear HT2 HX2 HR2 HC2 HP2 HO2 HQ2
  obtain ⟨j, hj, rfl, HC, HT, HQ, HR, HP, HO⟩ := hrel
  rename World => wo
  by_cases hlt : j < ps.length
  ·
   have hlt2 : (j : Int) < (ps.length : Int) := by omega
   obtain ⟨p, hp⟩ := getElem?_of_lt (l := ps) (k := j) hlt
   have hat := HP0'.out.1 j p hp
   have hap := HP0'.out.2.2.1 p (List.mem_of_getElem? hp)
   have HNX := Lib.hid (addP_next (f := f) (qs := qs) hp)
   obtain ⟨b, off, hA, hbb, hc⟩ := Rd.at_ (enc := ptV) (fun _ => rfl) (Rd.of_own HP.out) hp
   subst hA
   have p0 := hc 0 _ rfl
   have p1 := hc 1 _ rfl
   have p2 := hc 2 _ rfl
   have p3 := hc 3 _ rfl
   rw [Nat.add_zero] at p0
   rw [← Nat.add_assoc] at p1 p2 p3
   clear hc hp hbb
   obtain ⟨ci, am⟩ := p
   dsimp only at p0 p1 p2 p3 hat hap
   have hM' := fun W => pMulQ_calls am f z (zl + Y) W hap HP0'.out.2.1 (by omega)
   have hpz := Sz.mul hap HP0'.out.2.1
   obtain ⟨pr, hpr⟩ : ∃ x, x = am * f := ⟨_, rfl⟩
   rw [← hpr] at hM' hpz
   have hR' := fun W (h1 : Bk rb (.cells #[.slice (some ⟨C, 0, none⟩) n cap, .bool (rneg rs), .string (rnum rs), .string (rden rs)] 146) W) (h2 : RatsB C (addP f qs (ps.take j)) W) => rAdd_calls rb C cap ci rs 0 pr (addP f qs (ps.take j)) 1 (z + (zl + Y)) W (by rw [addP_len, HP0'.out.2.2.2]; exact h1) h2 hat (sz_zero1 1 (by omega)) hpz (by omega) (by omega) (by omega)
   have HST : Hid ((addP f qs (ps.take j)).set ci (0 + pr) = addP f qs (ps.take (j + 1))) := by
    show _ = _
    rw [HNX.out]
    unfold addQ
    dsimp only
    rw [List.getD_eq_getElem?_getD, hat, hpr]; rfl
   unfold ratV at hM' hR'
   have HM := Lib.hid hM'
   have HRA := Lib.hid hR'
   clear hM' hR' hat hap hpz hpr HNX
   obtain ⟨t0, t1, t2, t3, ft0, ft1, ft2, ft3, tz⟩ := four_of HT.out
   go_upto_region 5 with fail
   clear p0 p1 p2 p3 t0 t1 t2 t3 ft0 ft1 ft2 ft3 tz
   obtain ⟨gp, hg_gp⟩ : ∃ g, g = wo.heap.size := ⟨_, rfl⟩
   obtain ⟨x1, hw_x1⟩ : ∃ W, W = wo.alloc (.cells #[.int .i64 (ci : Int), .bool (rneg am), .string (rnum am), .string (rden am)] 184) := ⟨_, rfl⟩
   have HL_gp := Lib.hid (And.intro (by have := blk_lt HT.out; omega : gt < gp) (And.intro (by have := blk_lt HQ.out; omega : gq < gp) (And.intro (by have := blk_lt HR.out; omega : rb < gp) (And.intro (by have := blk_lt HC.out; omega : C < gp) ((by have := HO.out.size; omega : w.heap.size ≤ gp))))))
   have HT1 := bka HT hw_x1
   have HQ1 := bka HQ hw_x1
   have HR1 := bka HR hw_x1
   have HC1 : Hid (RatsB C (addP f qs (ps.take j)) x1) := by rw [hw_x1]; exact blk_next HC.out (bel_alloc _ _)
   have HP1 : Hid (ownP B ⟨some ⟨b, off, none⟩, c, ps, S⟩ x1) := by rw [hw_x1]; exact own_belowQ HP.out (bel_alloc _ _)
   have HO1 : Hid (Only C w x1) := by rw [hw_x1]; exact HO.out.trans (Only.of_below (bel_alloc _ _))
   have HE1 : Hid (Bk gp (.cells #[.int .i64 (ci : Int), .bool (rneg am), .string (rnum am), .string (rden am)] 184) x1) := by rw [hw_x1, hg_gp]; exact blk_new _ _
   rw [← hw_x1]
   (try rw [← hg_gp])
   clear hw_x1 hg_gp HT HQ HR HC HP HO
   obtain ⟨x2, hw_x2⟩ : ∃ W, W = x1.drew := ⟨_, rfl⟩
   have HT2 := bkd HT1 hw_x2
   have HQ2 := bkd HQ1 hw_x2
   have HR2 := bkd HR1 hw_x2
   have HC2 : Hid (RatsB C (addP f qs (ps.take j)) x2) := by rw [hw_x2]; exact HC1.out
   have HP2 : Hid (ownP B ⟨some ⟨b, off, none⟩, c, ps, S⟩ x2) := by rw [hw_x2]; exact HP1.out
   have HO2 : Hid (Only C w x2) := by rw [hw_x2]; exact HO1.out.drew
   have HE2 := bkd HE1 hw_x2
   have hS1 := And.intro HE2.out HQ2.out
   refine wp_region_held_drew (S := (AndW (Bk gp (.cells #[.int .i64 (ci : Int), .bool (rneg am), .string (rnum am), .string (rden am)] 184)) (Bk gq (.cells #[.bool (rneg f), .string (rnum f), .string (rden f)] 33)))) (by kernel_rfl) (by rw [← hw_x2]; exact hS1) ?_
   rw [← hw_x2]
   intro _
   clear hw_x2 HT1 HQ1 HR1 HC1 HP1 HO1 HE1
   refine tk 0 hS1 ?_
   go_simp
   refine tk 1 hS1 ?_
   go_simp
   refine tv 2 (.int .i64 (ci : Int)) rfl (by intro w' hw'; obtain ⟨k0, k1, k2, k3, _, _, _, _, _⟩ := four_of hw'.1; go_simp) hS1 ?_
   go_simp
   refine tk 3 hS1 ?_
   go_simp
   refine tv 4 (.agg #[.bool (rneg am), .string (rnum am), .string (rden am)]) rfl (by intro w' hw'; obtain ⟨k0, k1, k2, k3, _, _, _, _, _⟩ := four_of hw'.1; go_simp) hS1 ?_
   go_simp
   refine tv 5 (.agg #[.bool (rneg f), .string (rnum f), .string (rden f)]) rfl (by intro w' hw'; obtain ⟨k0, k1, k2, fk0, fk1, fk2, hzk⟩ := three_of hw'.2; go_simp) hS1 ?_
   go_simp
   refine tr 6 (fun K hK => ?_)
   go_simp
   refine (HM.out _).mono ?_
   rintro e x3 ⟨rfl, hb⟩
   have HT3 := bkn HT2 hb
   have HQ3 := bkn HQ2 hb
   have HR3 := bkn HR2 hb
   have HC3 : Hid (RatsB C (addP f qs (ps.take j)) x3) := blk_next HC2.out hb
   have HP3 : Hid (ownP B ⟨some ⟨b, off, none⟩, c, ps, S⟩ x3) := own_belowQ HP2.out hb
   have HO3 : Hid (Only C w x3) := HO2.out.trans (Only.of_below hb)
   have HE3 := bkn HE2 hb
   clear hb HT2 HQ2 HR2 HC2 HP2 HO2 HE2
   have hS2 := And.intro HE3.out HQ3.out
   refine hK.out _ _ hS2 (fun _ => ?_)
   clear hK K
   refine tr 7 (fun K hK => ?_)
   go_simp
   have HBLK := HC3
   refine (HRA.out _ HR3.out HC3.out).mono ?_
   rintro e x4 ⟨rfl, hrats, ho⟩
   have HT4 := bko HT3 ho (by have := HL_0.out; have := HL_c.out; have := HL_gq.out; have := HL_gp.out; omega)
   have HQ4 := bko HQ3 ho (by have := HL_0.out; have := HL_c.out; have := HL_gq.out; have := HL_gp.out; omega)
   have HP4 : Hid (ownP B ⟨some ⟨b, off, none⟩, c, ps, S⟩ x4) := own_onlyT HP3.out ho HBLK.out (by decide)
   have HO4 : Hid (Only C w x4) := HO3.out.trans ho
   have HE4 := bko HE3 ho (by have := HL_0.out; have := HL_c.out; have := HL_gq.out; have := HL_gp.out; omega)
   have HC4 : Hid (RatsB C (addP f qs (ps.take (j + 1))) x4) := by rw [HST.out] at hrats; exact hrats
   have HR4 := bko HR3 ho HRC.out
   clear hrats HBLK ho HT3 HQ3 HP3 HO3 HE3 HC3 HR3
   have hS3 := And.intro HE4.out HQ4.out
   refine hK.out _ _ hS3 (fun _ => ?_)
   clear hK K
   refine wpAnyH_done (by kernel_rfl) ?_ _
   (try go_wp2_with fail)
   go_roundw
   case measure => simp [intOf] <;> omega
   case rel => exact ⟨j + 1, by omega, by go_num, HC4, HT4, HQ4, HR4, HP4, HO4⟩
  ·
   have hlt2 : ¬ (j : Int) < (ps.length : Int) := by omega
   have HCn : Hid (RatsB C (addP f qs ps) wo) := by
    have h1 := HC.out
    rw [List.take_of_length_le (by omega)] at h1
    exact h1
   go_wp2_with fail
   go_end0
   exact ⟨rfl, HCn.out, HO.out⟩

end Go.Proofs.YtjlicnhkemfmiaaGreatDoor

/- (waterfall.ladder).pay. -/
namespace Go.Proofs.YtjlicnhkemfmiaaGreatDoor
open Go.RowKit

theorem TrsOk.sums {z : Nat} {l : List Cl} {ts : List Tr} (h : TrsOk z l ts) (hl : ClsOk l) : ts.map (·.sum) = tiersL l := by
 have h8 := (tiers_ok hl).1
 refine List.ext_getElem? fun i => ?_
 rw [List.getElem?_map]
 rcases hi : ts[i]? with _ | t
 ·
  have := List.getElem?_eq_none_iff.1 hi
  rw [List.getElem?_eq_none (by rw [h8, ← h.len]; exact this)]; rfl
 ·
  have h1 := (h.each i t hi).2.1
  have hlt := (List.getElem?_eq_some_iff.1 hi).1
  rw [h.len] at hlt
  show some t.sum = _
  rw [h1, List.getD_eq_getElem?_getD]
  obtain ⟨x, hx⟩ := getElem?_of_lt (l := tiersL l) (k := i) (by rw [h8]; exact hlt)
  rw [hx]; rfl
/-- what the split of the money says of the parts of the tiers -/
structure SpF (m : Rat) (l : List Cl) (k : Nat) (lf : Rat) (F : Nat → Rat) : Prop where
 le : k ≤ 8
 one : ∀ j, j < k → F j = 1
 part : ∀ s, (tiersL l)[k]? = some s → F k = lf / s ∧ s ≠ 0
 none : k < 8 → ∀ r, k < r → F r = 0
 all : paidK F l 8 = deliv l m
theorem SplitR.spf {m : Rat} {l : List Cl} (hl : ClsOk l) {k : Nat} (h : SplitR m (tiersL l) k) (hx : ∀ s, (tiersL l)[k]? = some s → leftK m (tiersL l) k < s) : SpF m l k (leftK m (tiersL l) k) (fun r => (frs m (tiersL l)).getD r 0) := by
 obtain ⟨h8, hS, _, _⟩ := tiers_ok hl
 refine ⟨by have := h.le; omega, fun j hj => h.one hS j hj, fun s hs => ⟨frs_part hs h.nn (hx s hs), ?_⟩, fun hk r hr => ?_, paidK_all (fun c hc => (hl.each c hc).1) m⟩
 ·
  have h1 := h.nn
  have h2 := hx s hs
  grind
 ·
  obtain ⟨s, hs⟩ := getElem?_of_lt (l := tiersL l) (k := k) (by omega)
  exact frs_behind hS hs (hx s hs) r hr
theorem wPay_calls (B R rb C cap n : Nat) (rs : Rat) (ts : List Tr) (l : List Cl) (m : Rat) (z zm : Nat) (w : World) (h : LadM B R ts w) (hT : TrsOk z l ts) (hok : ClsOk l) (hz : ∀ c ∈ l, Sz z c.amt) (hn : l.length = n) (h8 : n ≤ 8) (hb : Bk rb (.cells #[.slice (some ⟨C, 0, none⟩) n cap, .bool (rneg rs), .string (rnum rs), .string (rden rs)] 146) w) (hc : RatsB C (List.replicate n 0) w) (hm : Sz zm m) (hm0 : 0 ≤ m) (hz0 : 0 < z) (hzm : 0 < zm) (hbd : zm + 8 * (1 + l.length * (z + 1) + 1) ≤ 90000) (hbd2 : z + (zm + 8 * (1 + l.length * (z + 1) + 1) + (1 + l.length * (z + 1))) ≤ 99000) :
 Calls Tryz.prog 70 #[.slice (some ⟨R, 0, none⟩) 8 8, ratV m, .pointer (some ⟨rb, 0, none⟩)] w fun e w' => e = .returned (.tuple #[]) ∧ RatsB C (deliv l m) w' ∧ Only C w w' := by
 have hSS := hT.sums hok
 have hS' := fun W (h : LadM B R ts W) => split_calls B R ts m zm (1 + l.length * (z + 1)) W h hT.len (fun t ht => by obtain ⟨r, hr⟩ := List.getElem?_of_mem ht; exact (hT.each r t hr).2.2) hm hm0 hzm (by omega) hbd
 rw [hSS] at hS'
 unfold ratV at hS' ⊢
 have HSP := Lib.hid hS'
 have HRL := Lib.hid (And.intro hT (And.intro hok (And.intro hz hn)))
 have HLm : Hid (LadM B R ts w) := h
 have HR00 := Lib.hid hb
 have HC00 := Lib.hid hc
 have HCl : Hid (C < w.heap.size) := blk_lt hc
 have HRl : Hid (rb < w.heap.size) := blk_lt hb
 have HRC : Hid (rb ≠ C) := blk_ne hb hc (by decide)
 have hnl : l.length = n := hn
 have hl8 : n ≤ 8 := h8
 have HNL := Lib.hid hnl
 clear hSS hS' hT hok hz hn h hb hc hm hm0 hnl h8
 go_enter Tryz.func70, Tryz.ntmps70
 go_wp2_with fail
 obtain ⟨gm, hg_gm⟩ : ∃ g, g = w.heap.size := ⟨_, rfl⟩
 obtain ⟨w0, hw_w0⟩ : ∃ W, W = (w.alloc (.cells #[.bool (rneg m), .string (rnum m), .string (rden m)] 33)) := ⟨_, rfl⟩
 have HM0 : Hid (Bk gm (.cells #[.bool (rneg m), .string (rnum m), .string (rden m)] 33) w0) := by rw [hw_w0, hg_gm]; exact blk_new _ _
 have HL_c : Hid (C < gm ∧ rb < gm) := by rw [hg_gm]; exact ⟨HCl.out, HRl.out⟩
 have HC0 : Hid (RatsB C (List.replicate n 0) w0) := by rw [hw_w0]; exact blk_alloc HC00.out
 have HR0 : Hid (Bk rb (.cells #[.slice (some ⟨C, 0, none⟩) n cap, .bool (rneg rs), .string (rnum rs), .string (rden rs)] 146) w0) := by rw [hw_w0]; exact blk_alloc HR00.out
 have HL0 : Hid (LadM B R ts w0) := by rw [hw_w0]; exact HLm.out.next (bel_alloc _ _)
 have HO0 : Hid (Only C w w0) := by rw [hw_w0]; exact Only.of_below <| bel_alloc _ _
 have HL_0 := Lib.hid ((by omega : w.heap.size ≤ gm))
 rw [← hw_w0]
 (try rw [← hg_gm])
 clear hw_w0 hg_gm
 clear HR00 HC00 HLm
 refine (HSP.out _ HL0.out).mono ?_
 rintro e w1 ⟨kk, rfl, hsp, hlt, hsz, hb⟩
 have HM1 := bkn HM0 hb
 have HL1 : Hid (LadM B R ts w1) := HL0.out.next hb
 have HR1 := bkn HR0 hb
 have HC1 : Hid (RatsB C (List.replicate n 0) w1) := blk_next HC0.out hb
 have HO1 : Hid (Only C w w1) := HO0.out.trans (Only.of_below hb)
 have HF := Lib.hid (hsp.spf HRL.out.2.1 hlt)
 have HZ := Lib.hid hsz
 have hk8 : (kk : Int) ≤ 8 := by have := HF.out.le; omega
 have hk8n : kk ≤ 8 := HF.out.le
 clear hsp hlt hsz HSP
 clear hb HM0 HL0 HR0 HC0 HO0
 obtain ⟨lf, hlf⟩ : ∃ x, x = leftK m (tiersL l) kk := ⟨_, rfl⟩
 rw [← hlf] at HF HZ ⊢
 obtain ⟨F, hF⟩ : ∃ F : Nat → Rat, F = fun r => (frs m (tiersL l)).getD r 0 := ⟨_, rfl⟩
 rw [← hF] at HF
 clear hlf hF
 go_wp2_with fail
 obtain ⟨gl, hg_gl⟩ : ∃ g, g = w1.heap.size := ⟨_, rfl⟩
 obtain ⟨w2, hw_w2⟩ : ∃ W, W = w1.alloc (.cells #[.bool (rneg lf), .string (rnum lf), .string (rden lf)] 33) := ⟨_, rfl⟩
 have HL_gl := Lib.hid (And.intro (by have := blk_lt HM1.out; omega : gm < gl) (And.intro (by have := blk_lt HR1.out; omega : rb < gl) (And.intro (by have := blk_lt HC1.out; omega : C < gl) ((by have := HO1.out.size; omega : w.heap.size ≤ gl)))))
 have HM2 := bka HM1 hw_w2
 have HL2 : Hid (LadM B R ts w2) := by rw [hw_w2]; exact HL1.out.next (bel_alloc _ _)
 have HR2 := bka HR1 hw_w2
 have HC2 : Hid (RatsB C (List.replicate n 0) w2) := by rw [hw_w2]; exact blk_next HC1.out (bel_alloc _ _)
 have HO2 : Hid (Only C w w2) := by rw [hw_w2]; exact HO1.out.trans (Only.of_below (bel_alloc _ _))
 have HV2 : Hid (Bk gl (.cells #[.bool (rneg lf), .string (rnum lf), .string (rden lf)] 33) w2) := by rw [hw_w2, hg_gl]; exact blk_new _ _
 rw [← hw_w2]
 (try rw [← hg_gl])
 clear hw_w2 hg_gl HM1 HL1 HR1 HC1 HO1
 have HCs : Hid (RatsB C (paidK F l 0) w2) := by rw [paidK_zero, HNL.out]; exact HC2
 go_loopw [22] (fun i wr => ∃ j : Nat, j ≤ kk ∧ i = .int .i64 (j : Int) ∧ Hid (RatsB C (paidK F l j) wr) ∧ Hid (LadM B R ts wr) ∧ Hid (Bk gl (.cells #[.bool (rneg lf), .string (rnum lf), .string (rden lf)] 33) wr) ∧ Hid (Bk rb (.cells #[.slice (some ⟨C, 0, none⟩) n cap, .bool (rneg rs), .string (rnum rs), .string (rden rs)] 146) wr) ∧ Hid (Only C w wr)) (fun i _ => kk - (intOf i).toNat)
 case atStart => exact ⟨0, Nat.zero_le _, rfl, HCs, HL2, HV2, HR2, HO2⟩
 case round =>
  clear HCs HM2 HL2 HR2 HC2 HO2 HV2
  obtain ⟨j, hj, rfl, HC, HLm, HV, HR, HO⟩ := hrel
  rename World => wo
  by_cases hlt : j < kk
  ·
   have hlt2 : (j : Int) < (kk : Int) := by omega
   obtain ⟨t, ht⟩ := getElem?_of_lt (l := ts) (k := j) (by rw [HRL.out.1.len]; omega)
   have hte := HRL.out.1.each j t ht
   obtain ⟨l0, l1, l2, l3⟩ := HLm.out.cells ht
   obtain ⟨tA, tc, tps, tS⟩ := t
   dsimp only at l0 l1 l2 l3 hte
   have HTT := Lib.hid (And.intro ht (And.intro hte.1 (HF.out.one j hlt)))
   have hpl : tps.length ≤ 8 := by rw [hte.1]; have := partsF_len j l 0; have := HNL.out; omega
   clear ht hte
   go_wp2_with fail
   clear l0 l1 l2 l3
   obtain ⟨gt, hg_gt⟩ : ∃ g, g = wo.heap.size := ⟨_, rfl⟩
   obtain ⟨x1, hw_x1⟩ : ∃ W, W = wo.alloc (.cells #[.slice tA tps.length tc, .bool (rneg tS), .string (rnum tS), .string (rden tS)] 136) := ⟨_, rfl⟩
   have HL_gt := Lib.hid (And.intro (by have := blk_lt HV.out; omega : gl < gt) (And.intro (by have := blk_lt HR.out; omega : rb < gt) (And.intro (by have := blk_lt HC.out; omega : C < gt) ((by have := HO.out.size; omega : w.heap.size ≤ gt)))))
   have HL1 : Hid (LadM B R ts x1) := by rw [hw_x1]; exact HLm.out.next (bel_alloc _ _)
   have HV1 := bka HV hw_x1
   have HR1 := bka HR hw_x1
   have HC1 : Hid (RatsB C (paidK F l j) x1) := by rw [hw_x1]; exact blk_next HC.out (bel_alloc _ _)
   have HO1 : Hid (Only C w x1) := by rw [hw_x1]; exact HO.out.trans (Only.of_below (bel_alloc _ _))
   rw [← hw_x1]
   (try rw [← hg_gt])
   clear hw_x1 hg_gt HLm HV HR HC HO
   go_loopw [29] (fun i2 wr => ∃ q : Nat, q ≤ tps.length ∧ i2 = .int .i64 (q : Int) ∧ Hid (RatsB C (addP (F j) (paidK F l j) (tps.take q)) wr) ∧ Hid (LadM B R ts wr) ∧ Hid (Bk gl (.cells #[.bool (rneg lf), .string (rnum lf), .string (rden lf)] 33) wr) ∧ Hid (Bk rb (.cells #[.slice (some ⟨C, 0, none⟩) n cap, .bool (rneg rs), .string (rnum rs), .string (rden rs)] 146) wr) ∧ Hid (Only C w wr)) (fun i2 _ => tps.length - (intOf i2).toNat)
   case atStart => exact ⟨0, Nat.zero_le _, rfl, HC1, HL1, HV1, HR1, HO1⟩
   case round =>
    clear HL1 HV1 HR1 HC1 HO1
    obtain ⟨q, hq, rfl, HC, HLm, HV, HR, HO⟩ := hrel
    rename World => wi
    by_cases hql : q < tps.length
    ·
     have hlt3 : (q : Int) < (tps.length : Int) := by omega
     obtain ⟨p, hp⟩ := getElem?_of_lt (l := tps) (k := q) hql
     have hat := paidK_at (f := F) (l := l) (k := j) (j := q) (p := p) (by rw [← HTT.out.2.1]; exact hp)
     rw [← HTT.out.2.1] at hat
     have hap : Sz z p.2 := by
      obtain ⟨_, c, hc, _, hca⟩ := partsF_get j l 0 q p (by rw [← HTT.out.2.1]; exact hp)
      rw [← hca]
      exact HRL.out.2.2.1 c (List.mem_of_getElem? hc)
     have HNX := Lib.hid (addP_next (f := F j) (qs := paidK F l j) hp)
     obtain ⟨b, off, hA, hbb, hc⟩ := Rd.at_ (enc := ptV) (fun _ => rfl) (Rd.of_own (HLm.out.rows _ _ HTT.out.1)) hp
     dsimp only at hA
     subst hA
     have p0 := hc 0 _ rfl
     have p1 := hc 1 _ rfl
     have p2 := hc 2 _ rfl
     have p3 := hc 3 _ rfl
     rw [Nat.add_zero] at p0
     rw [← Nat.add_assoc] at p1 p2 p3
     clear hc hp hbb
     obtain ⟨ci, am⟩ := p
     dsimp only at p0 p1 p2 p3 hat hap
     have hR' := fun W (h1 : Bk rb (.cells #[.slice (some ⟨C, 0, none⟩) n cap, .bool (rneg rs), .string (rnum rs), .string (rden rs)] 146) W) (h2 : RatsB C (addP (F j) (paidK F l j) (tps.take q)) W) => rAdd_calls rb C cap ci rs 0 am (addP (F j) (paidK F l j) (tps.take q)) 1 z W (by rw [addP_len, paidK_len, HNL.out]; exact h1) h2 hat (sz_zero1 1 (by omega)) hap (by omega) hz0 (by omega)
     have HST : Hid ((addP (F j) (paidK F l j) (tps.take q)).set ci (0 + am) = addP (F j) (paidK F l j) (tps.take (q + 1))) := by
      show _ = _
      rw [HNX.out]
      unfold addQ
      dsimp only
      rw [List.getD_eq_getElem?_getD, hat, HTT.out.2.2, Rat.mul_one]; rfl
     unfold ratV at hR'
     have HRA := Lib.hid hR'
     clear hR' hat hap HNX
     go_wp2_with fail
     clear p0 p1 p2 p3
     obtain ⟨gp, hg_gp⟩ : ∃ g, g = wi.heap.size := ⟨_, rfl⟩
     obtain ⟨y1, hw_y1⟩ : ∃ W, W = wi.alloc (.cells #[.int .i64 (ci : Int), .bool (rneg am), .string (rnum am), .string (rden am)] 184) := ⟨_, rfl⟩
     have HL_gp := Lib.hid (And.intro (by have := blk_lt HV.out; omega : gl < gp) (And.intro (by have := blk_lt HR.out; omega : rb < gp) (And.intro (by have := blk_lt HC.out; omega : C < gp) ((by have := HO.out.size; omega : w.heap.size ≤ gp)))))
     have HL1 : Hid (LadM B R ts y1) := by rw [hw_y1]; exact HLm.out.next (bel_alloc _ _)
     have HV1 := bka HV hw_y1
     have HR1 := bka HR hw_y1
     have HC1 : Hid (RatsB C (addP (F j) (paidK F l j) (tps.take q)) y1) := by rw [hw_y1]; exact blk_next HC.out (bel_alloc _ _)
     have HO1 : Hid (Only C w y1) := by rw [hw_y1]; exact HO.out.trans (Only.of_below (bel_alloc _ _))
     rw [← hw_y1]
     (try rw [← hg_gp])
     clear hw_y1 hg_gp HLm HV HR HC HO
     have HBLK := HC1
     refine (HRA.out _ HR1.out HC1.out).mono ?_
     rintro e y2 ⟨rfl, hrats, ho⟩
     have HL2 : Hid (LadM B R ts y2) := HL1.out.onlyT ho HBLK.out
     have HV2 := bko HV1 ho (by have := HL_0.out; have := HL_c.out; have := HL_gl.out; have := HL_gt.out; have := HL_gp.out; omega)
     have HO2 : Hid (Only C w y2) := HO1.out.trans ho
     have HC2 : Hid (RatsB C (addP (F j) (paidK F l j) (tps.take (q + 1))) y2) := by rw [HST.out] at hrats; exact hrats
     have HR2 := bko HR1 ho HRC.out
     clear hrats HBLK ho HL1 HV1 HO1 HC1 HR1
     go_wp2_with fail
     go_roundw
     case measure => simp [intOf] <;> omega
     case rel => exact ⟨q + 1, by omega, by go_num, HC2, HL2, HV2, HR2, HO2⟩
    ·
     have hlt3 : ¬ (q : Int) < (tps.length : Int) := by omega
     have HCn : Hid (RatsB C (paidK F l (j + 1)) wi) := by
      have h1 := HC.out
      rw [List.take_of_length_le (by omega), HTT.out.2.1, paidK_next] at h1
      exact h1
     clear HC
     go_wp2_with fail
     go_roundw
     case measure => simp [intOf] <;> omega
     case rel => exact ⟨j + 1, by omega, by go_num, HCn, HLm, HV, HR, HO⟩
  ·
   have hlt2 : ¬ (j : Int) < (kk : Int) := by omega
   obtain rfl : j = kk := by omega
   by_cases hk : j < 8
   ·
    have hk2 : (j : Int) < 8 := by omega
    obtain ⟨t, ht⟩ := getElem?_of_lt (l := ts) (k := j) (by rw [HRL.out.1.len]; omega)
    have hte := HRL.out.1.each j t ht
    have hts : (tiersL l)[j]? = some t.sum := by rw [← HRL.out.1.sums HRL.out.2.1]; exact map_get ht
    have hpf := HF.out.part _ hts
    obtain ⟨tA, tc, tps, tS⟩ := t
    dsimp only at hte hts hpf
    have HTT := Lib.hid ht
    have hpl : tps.length ≤ 8 := by rw [hte.1]; have := partsF_len j l 0; have := HNL.out; omega
    have hR' := fun W (h1 : Bk rb (.cells #[.slice (some ⟨C, 0, none⟩) n cap, .bool (rneg rs), .string (rnum rs), .string (rden rs)] 146) W) (h2 : RatsB C (paidK F l j) W) (h3 : LadM B R ts W) => rShare_calls B rb C cap n rs lf tA tc tps tS (paidK F l j) z (zm + 8 * (1 + l.length * (z + 1) + 1)) (1 + l.length * (z + 1)) W h1 h2 (by rw [paidK_len, HNL.out]) (h3.rows _ _ HTT.out) hte.2.2 hpf.2 HZ.out (fun p hp => by obtain ⟨i, hi⟩ := List.getElem?_of_mem hp; obtain ⟨_, c, hc, _, hca⟩ := partsF_get j l 0 i p (by rw [← hte.1]; exact hi); rw [← hca]; exact HRL.out.2.2.1 c (List.mem_of_getElem? hc)) (fun i p hp => by rw [← hpf.1, hte.1]; exact paidK_at (by rw [← hte.1]; exact hp)) hz0 (by omega) (by omega) (by omega)
    have HST : Hid (addP (lf / tS) (paidK F l j) tps = deliv l m) := by
     show _ = _
     rw [← hpf.1, hte.1, paidK_next, paidK_more (fun r hr => HF.out.none hk r (by omega)) 8 (by omega), HF.out.all]
    unfold ratV at hR'
    have HRA := Lib.hid hR'
    clear hR' ht hte hts hpf
    go_wp2_with fail
    obtain ⟨v1, hw_v1⟩ : ∃ W, W = wo.drew := ⟨_, rfl⟩
    have HL1 : Hid (LadM B R ts v1) := by rw [hw_v1]; exact HLm.out.drew
    have HV1 := bkd HV hw_v1
    have HR1 := bkd HR hw_v1
    have HC1 : Hid (RatsB C (paidK F l j) v1) := by rw [hw_v1]; exact HC.out
    have HO1 : Hid (Only C w v1) := by rw [hw_v1]; exact HO.out.drew
    have hS1 := And.intro HL1.out HV1.out
    refine wp_region_held_drew (S := (AndW (LadM B R ts) (Bk gl (.cells #[.bool (rneg lf), .string (rnum lf), .string (rden lf)] 33)))) (by kernel_rfl) (by rw [← hw_v1]; exact hS1) ?_
    rw [← hw_v1]
    intro _
    clear hw_v1 HLm HV HR HC HO
    refine tk 0 hS1 ?_
    go_simp
    refine tk 1 hS1 ?_
    go_simp
    refine tk 2 hS1 ?_
    go_simp
    refine tk 3 hS1 ?_
    go_simp
    refine tv 4 (.agg #[.slice tA tps.length tc, .bool (rneg tS), .string (rnum tS), .string (rden tS)]) rfl (by intro w' hw'; obtain ⟨l0, l1, l2, l3⟩ := LadM.cells (W := w') hw'.1 HTT.out; dsimp only at l0 l1 l2 l3; go_simp) hS1 ?_
    go_simp
    refine tv 5 (.agg #[.bool (rneg lf), .string (rnum lf), .string (rden lf)]) rfl (by intro w' hw'; obtain ⟨k0, k1, k2, fk0, fk1, fk2, hzk⟩ := three_of hw'.2; go_simp) hS1 ?_
    go_simp
    refine tr 6 (fun K hK => ?_)
    go_simp
    have HBLK := HC1
    refine (HRA.out _ HR1.out HC1.out HL1.out).mono ?_
    rintro e v2 ⟨rfl, hrats, ho⟩
    have HL2 : Hid (LadM B R ts v2) := HL1.out.onlyT ho HBLK.out
    have HV2 := bko HV1 ho (by have := HL_0.out; have := HL_c.out; have := HL_gl.out; omega)
    have HO2 : Hid (Only C w v2) := HO1.out.trans ho
    have HC2 : Hid (RatsB C (deliv l m) v2) := by rw [HST.out] at hrats; exact hrats
    have HR2 := bko HR1 ho HRC.out
    clear hrats HBLK ho HL1 HV1 HO1 HC1 HR1
    have hS2 := And.intro HL2.out HV2.out
    refine hK.out _ _ hS2 (fun _ => ?_)
    clear hK K
    refine wpAnyH_done (by kernel_rfl) ?_ _
    (try go_wp2_with fail)
    go_end0
    exact ⟨rfl, HC2.out, HO2.out⟩
   ·
    have hk2 : ¬ (j : Int) < 8 := by omega
    have HCn : Hid (RatsB C (deliv l m) wo) := by
     show RatsB _ _ _
     rw [← HF.out.all, show (8 : Nat) = j by omega]
     exact HC.out
    go_wp2_with fail
    go_end0
    exact ⟨rfl, HCn.out, HO.out⟩

end Go.Proofs.YtjlicnhkemfmiaaGreatDoor

/- slices.Clone of numbers; (waterfall.Layout).Gross, take, Deliver; waterfall.Deliver. -/
namespace Go.Proofs.YtjlicnhkemfmiaaGreatDoor
open Go.RowKit

theorem Tryz.info_ratW : (Tryz.prog.info? 33).map (fun i => (i.zero, i.size, i.bytes)) = some (some (.agg #[.bool false, .string ⟨#[]⟩, .string ⟨#[]⟩]), 3, 40) := by kernel_rfl
theorem made3_get (a b c : Value) (n i : Nat) (h : i < n * 3) : (madeCells #[a, b, c] (n * 3)).toList[i]? = [a, b, c][i % 3]? := by
 have h4 : i % 3 = 0 ∨ i % 3 = 1 ∨ i % 3 = 2 := by omega
 unfold madeCells
 rw [Array.toList_map, List.getElem?_map, Array.toList_range, List.getElem?_range h]
 show some (#[a, b, c][i % 3]!) = _
 rcases h4 with h4 | h4 | h4 <;> rw [h4] <;> rfl
theorem made_rats (n : Nat) : madeCells #[.bool false, .string ⟨#[]⟩, .string ⟨#[]⟩] (n * 3) = ((List.replicate n (0 : Rat)).flatMap rtV).toArray := by
 have e : rtV 0 = [.bool false, .string ⟨#[]⟩, .string ⟨#[]⟩] := by
  show [Value.bool (rneg 0), .string (rnum 0), .string (rden 0)] = _
  rw [rneg_zero, rnum_zero, rden_zero]
 apply Array.ext'
 refine List.ext_getElem? fun i => ?_
 have hl := flat_len rtV 3 rtV_len (List.replicate n (0 : Rat))
 rw [List.length_replicate] at hl
 by_cases hi : i < n * 3
 ·
  rw [made3_get _ _ _ _ _ hi]
  have g := flat_get rtV 3 rtV_len (List.replicate n (0 : Rat)) (i / 3) (i % 3) 0 (by rw [List.getElem?_replicate, if_pos (by omega)]) (by omega)
  rw [show i / 3 * 3 + i % 3 = i by omega, e] at g
  exact g.symm
 ·
  rw [List.getElem?_eq_none (by rw [Array.length_toList, size_madeCells]; omega), List.getElem?_eq_none (by show ((List.replicate n (0 : Rat)).flatMap rtV).length ≤ i; omega)]
theorem make_rats (n : Nat) (hn : n ≤ 1000) (W : World) : (Instr.makeSlice 25 (.int .i64 (n : Int)) (.int .i64 (n : Int))).run Tryz.prog W = .ok (.slice (some ⟨W.heap.size, 0, none⟩) n n) (W.alloc (.cells (madeCells #[.bool false, .string ⟨#[]⟩, .string ⟨#[]⟩] (n * 3)) 33)) := by
 obtain ⟨i, hi, hz, hs, hb⟩ := info_parts Tryz.info_ratW
 have := run_make (P := Tryz.prog) W 25 33 i _ Tryz.underlying25 hi hz .i64 .i64 n n (by omega) (Int.le_refl _) (by rw [hb]; omega) (by omega)
 simp only [Int.toNat_natCast, hs] at this
 exact this
theorem RatsB.rd {C : Nat} {qs : List Rat} {W : World} (h : RatsB C qs W) : Rd W W.heap.size 3 (some ⟨C, 0, none⟩) qs.length (qs.flatMap rtV) := by
 refine ⟨flat_len rtV 3 rtV_len qs, fun _ => ⟨C, 0, rfl, blk_lt h, fun j u hu => ?_⟩⟩
 rw [Nat.zero_add]
 exact cell_of_list h hu
theorem rtV_one : ∀ (qs : List Rat), ∀ u ∈ qs.flatMap rtV, u.oneCell' = true := by
 intro qs u hu
 obtain ⟨q, _, hq⟩ := List.mem_flatMap.1 hu
 simp only [rtV, List.mem_cons, List.not_mem_nil, or_false] at hq
 rcases hq with rfl | rfl | rfl <;> rfl
/-- a slice of numbers is returned -/
def RatsPost (qs : List Rat) (w : World) (e : Ending) (w' : World) : Prop := ∃ A c, e = .returned (.slice A qs.length c) ∧ Rd w' w'.heap.size 3 A qs.length (qs.flatMap rtV) ∧ ((∀ b off, A = some ⟨b, off, none⟩ → w.heap.size ≤ b) ∧ qs.length ≤ c) ∧ Below w.heap.size w w'
theorem own_base {w : World} {base S n c : Nat} {T : TypeId} {A : Option Addr} {xs : List Value} (h : w.ownsRow base T S (.slice A n c) n xs) : ∀ b off, A = some ⟨b, off, none⟩ → base ≤ b := by
 intro b off e
 exact (h.lt b (by rw [e]; rfl)).1
theorem clone_calls (C : Nat) (qs : List Rat) (w : World) (hc : RatsB C qs w) (h8 : qs.length ≤ 1000) :
 Calls Tryz.prog 101 #[.slice (some ⟨C, 0, none⟩) qs.length qs.length] w (RatsPost qs w) := by
 have HC := Lib.hid hc
 obtain ⟨iq, hi, hz0, hz1, hz2⟩ := info_parts Tryz.info_ratW
 have HIQ := Lib.hid (And.intro hi (And.intro hz0 (And.intro hz1 hz2)))
 clear hi hz0 hz1 hz2 hc
 obtain ⟨n, hn⟩ : ∃ n, n = qs.length := ⟨_, rfl⟩
 rw [← hn] at h8 ⊢
 have HN := Lib.hid hn
 clear hn
 have heq : ∀ W : World, (binOp .eql 25 (.slice (some ⟨C, 0, none⟩) n n) (.slice none 0 0)).run Tryz.prog W = .ok (.bool false) W := fun _ => rfl
 go_enter Tryz.func101, Tryz.ntmps101
 go_wp2_with (at_builtin; refine wpList_append_own _ rfl (.tmp 5) (.tmp 6) 25 rfl w.heap.size 33 iq _ 3 40 Tryz.underlying25 HIQ.out.1 HIQ.out.2.1 HIQ.out.2.2.1 HIQ.out.2.2.2 rfl (by decide) _ 0 [] rfl (World.ownsRow_made w #[] 0 (Nat.le_refl _) (by decide) rfl) ⟨C, 0, none⟩ n n (qs.flatMap rtV) rfl (by rw [HN.out]; exact flat_len rtV 3 rtV_len qs) (World.news_of_block (blk_alloc (o' := (.cells #[] 33)) HC.out)) (rtV_one qs) (by simp only [maxLen]; omega) (by omega) (by simp) ?_)
 intro v' w' hown hgr _
 obtain ⟨A, c, rfl, hrd, hnc⟩ := own_shape hown
 have HRD := Lib.hid (And.intro hrd (And.intro (own_base hown) hnc))
 have HB : Hid (Below w.heap.size w w') := (bel_alloc w (.cells #[] 33)).grown hgr (by simp) (fun j hj => Nat.le_of_eq (Option.some.inj hj))
 clear hown hgr hrd hnc
 go_wp2_with fail
 go_ret
 exact ⟨A, c, by rw [← HN.out]; rfl, by rw [← HN.out]; exact HRD.out.1, ⟨HRD.out.2.1, by rw [← HN.out]; have := HRD.out.2.2; omega⟩, HB.out⟩
def GrossPost (l : List Cl) (m : Rat) (n : Nat) (w : World) (e : Ending) (w' : World) : Prop := ∃ C, e = .returned (.slice (some ⟨C, 0, none⟩) n n) ∧ RatsB C (deliv l m) w' ∧ Below w.heap.size w w'
theorem gross_calls (B R n : Nat) (tot : Rat) (ts : List Tr) (l : List Cl) (m : Rat) (z zm : Nat) (w : World) (h : LadM B R ts w) (hT : TrsOk z l ts) (hok : ClsOk l) (hz : ∀ c ∈ l, Sz z c.amt) (hn : l.length = n) (h8 : n ≤ 8) (hm : Sz zm m) (hm0 : 0 ≤ m) (hz0 : 0 < z) (hzm : 0 < zm) (hbd : zm + 8 * (1 + l.length * (z + 1) + 1) ≤ 90000) (hbd2 : z + (zm + 8 * (1 + l.length * (z + 1) + 1) + (1 + l.length * (z + 1))) ≤ 99000) :
 Calls Tryz.prog 68 #[.agg #[.int .i64 (n : Int), .slice (some ⟨R, 0, none⟩) 8 8, .slice none 0 0, .bool (rneg tot), .string (rnum tot), .string (rden tot)], ratV m] w (GrossPost l m n w) := by
 have hP' := fun W C rb (h : LadM B R ts W) (hb : Bk rb (.cells #[.slice (some ⟨C, 0, none⟩) n n, .bool false, .string ⟨#[]⟩, .string ⟨#[]⟩] 146) W) (hc : RatsB C (List.replicate n 0) W) => wPay_calls B R rb C n n 0 ts l m z zm W h hT hok hz hn h8 (by unfold Bk; rw [rneg_zero, rnum_zero, rden_zero]; exact hb) hc hm hm0 hz0 hzm hbd hbd2
 unfold ratV at hP' ⊢
 have HP := Lib.hid hP'
 have HLm : Hid (LadM B R ts w) := h
 have hmk := make_rats n (by omega)
 have HMK := Lib.hid hmk
 clear hP' h hT hok hz hn hm hm0 hz0 hzm hbd hbd2 hmk
 go_enter Tryz.func68, Tryz.ntmps68
 go_upto_region 1 with fail
 obtain ⟨gy, hg_gy⟩ : ∃ g, g = w.heap.size := ⟨_, rfl⟩
 obtain ⟨gm, hg_gm⟩ : ∃ g, g = w.heap.size + 1 := ⟨_, rfl⟩
 obtain ⟨w0, hw_w0⟩ : ∃ W, W = ((w.alloc (.cells #[.int .i64 (n : Int), .slice (some ⟨R, 0, none⟩) 8 8, .slice none 0 0, .bool (rneg tot), .string (rnum tot), .string (rden tot)] 98)).alloc (.cells #[.bool (rneg m), .string (rnum m), .string (rden m)] 33)) := ⟨_, rfl⟩
 have HY0 : Hid (Bk gy (.cells #[.int .i64 (n : Int), .slice (some ⟨R, 0, none⟩) 8 8, .slice none 0 0, .bool (rneg tot), .string (rnum tot), .string (rden tot)] 98) w0) := by rw [hw_w0, hg_gy]; exact blk_alloc (blk_new _ _)
 have HM0 : Hid (Bk gm (.cells #[.bool (rneg m), .string (rnum m), .string (rden m)] 33) w0) := by rw [hw_w0, hg_gm]; exact blk_new1 _ _ _
 have HL0 : Hid (LadM B R ts w0) := by rw [hw_w0]; exact (HLm.out.next (bel_alloc _ _)).next (bel_alloc _ _)
 have HB0 : Hid (Below w.heap.size w w0) := by rw [hw_w0]; exact (bel_alloc _ _).alloc (by simp) _
 have HL_0 := Lib.hid (And.intro (by omega : w.heap.size ≤ gy) ((by omega : gy < gm)))
 rw [← hw_w0]
 (try rw [← hg_gm]); (try rw [← hg_gy])
 clear hw_w0 hg_gy hg_gm
 clear HLm
 obtain ⟨g0, g1, g2, g3, g4, g5, u0, u1, u2, u3, u4, u5, gz⟩ := six_of HY0.out
 have hmk := HMK.out w0
 have hyy := HY0.out
 obtain ⟨x0, x1, x2, x3, x4, x5, _, _, _, _, _, _, _⟩ := six_of (blk_alloc (o' := (.cells #[.slice (some ⟨w0.heap.size, 0, none⟩) n n, .bool false, .string ⟨#[]⟩, .string ⟨#[]⟩] 146)) (blk_alloc (o' := (.cells (madeCells #[.bool false, .string ⟨#[]⟩, .string ⟨#[]⟩] (n * 3)) 33)) hyy))
 obtain ⟨y0, y1, y2, _, _, _, _⟩ := three_of (blk_alloc (o' := (.cells #[.slice (some ⟨w0.heap.size, 0, none⟩) n n, .bool false, .string ⟨#[]⟩, .string ⟨#[]⟩] 146)) (blk_alloc (o' := (.cells (madeCells #[.bool false, .string ⟨#[]⟩, .string ⟨#[]⟩] (n * 3)) 33)) HM0.out))
 clear hyy
 go_wp2_with fail
 clear g0 g1 g2 g3 g4 g5 u0 u1 u2 u3 u4 u5 gz
 clear hmk x0 x1 x2 x3 x4 x5 y0 y1 y2
 obtain ⟨C, hC⟩ : ∃ g, g = w0.heap.size := ⟨_, rfl⟩
 obtain ⟨rb, hrb⟩ : ∃ g, g = w0.heap.size + 1 := ⟨_, rfl⟩
 (try rw [← hrb])
 (try rw [← hC])
 obtain ⟨w1, hw1⟩ : ∃ W, W = (w0.alloc (.cells (madeCells #[.bool false, .string ⟨#[]⟩, .string ⟨#[]⟩] (n * 3)) 33)).alloc (.cells #[.slice (some ⟨C, 0, none⟩) n n, .bool false, .string ⟨#[]⟩, .string ⟨#[]⟩] 146) := ⟨_, rfl⟩
 have HC1 : Hid (RatsB C (List.replicate n 0) w1) := by rw [hw1, hC]; unfold RatsB; rw [← made_rats]; exact blk_alloc (blk_new _ _)
 have HR1 : Hid (Bk rb (.cells #[.slice (some ⟨C, 0, none⟩) n n, .bool false, .string ⟨#[]⟩, .string ⟨#[]⟩] 146) w1) := by rw [hw1, hrb]; exact blk_new1 _ _ _
 have HL1 : Hid (LadM B R ts w1) := by rw [hw1]; exact (HL0.out.next (bel_alloc _ _)).next (bel_alloc _ _)
 have HB1 : Hid (Below w.heap.size w w1) := by rw [hw1]; exact (HB0.out.alloc HB0.out.size _).alloc (by have := HB0.out.size; simp; omega) _
 have HCw : Hid (w.heap.size ≤ C) := by rw [hC]; exact HB0.out.size
 rw [← hw1]
 clear hw1 hC hrb HL0 HB0 HY0 HM0 HMK
 have HRC : Hid (rb ≠ C) := blk_ne HR1.out HC1.out (by decide)
 refine (HP.out _ C rb HL1.out HR1.out HC1.out).mono ?_
 rintro e w2 ⟨rfl, hrats, ho⟩
 have HC2 := Lib.hid hrats
 have HR2 := bko HR1 ho HRC.out
 have HB2 : Hid (Below w.heap.size w w2) := HB1.out.trans (ho.at_ _ HB1.out.size HCw.out)
 clear hrats ho HC1 HR1 HB1 HL1
 obtain ⟨k0, k1, k2, k3, _, _, _, _, _⟩ := four_of HR2.out
 go_wp2_with fail
 go_ret
 exact ⟨C, rfl, HC2.out, HB2.out⟩
def TakePost (qs : List Rat) (n : Nat) (w : World) (e : Ending) (w' : World) : Prop := ∃ rb A c, e = .returned (.pointer (some ⟨rb, 0, none⟩)) ∧ Bk rb (.cells #[.slice A n c, .bool false, .string ⟨#[]⟩, .string ⟨#[]⟩] 146) w' ∧ Rd w' w'.heap.size 3 A n (qs.flatMap rtV) ∧ ((∀ b off, A = some ⟨b, off, none⟩ → w.heap.size ≤ b) ∧ n ≤ c) ∧ Below w.heap.size w w'
theorem take_calls (R n C : Nat) (tot : Rat) (qs : List Rat) (w : World) (hc : RatsB C qs w) (hN : qs.length = n) (h8 : qs.length ≤ 1000) :
 Calls Tryz.prog 69 #[.agg #[.int .i64 (n : Int), .slice (some ⟨R, 0, none⟩) 8 8, .slice none 0 0, .bool (rneg tot), .string (rnum tot), .string (rden tot)], .slice (some ⟨C, 0, none⟩) n n] w (TakePost qs n w) := by
 have hP' := fun W (h : RatsB C qs W) => clone_calls C qs W h h8
 unfold RatsPost at hP'
 have HCR := Lib.hid hc
 have HN := Lib.hid hN
 rw [hN] at hP'
 have HP := Lib.hid hP'
 clear hP' hc h8 hN
 go_enter Tryz.func69, Tryz.ntmps69
 go_wp2_with fail
 obtain ⟨gy, hg_gy⟩ : ∃ g, g = w.heap.size := ⟨_, rfl⟩
 obtain ⟨w0, hw_w0⟩ : ∃ W, W = (w.alloc (.cells #[.int .i64 (n : Int), .slice (some ⟨R, 0, none⟩) 8 8, .slice none 0 0, .bool (rneg tot), .string (rnum tot), .string (rden tot)] 98)) := ⟨_, rfl⟩
 have HY0 : Hid (Bk gy (.cells #[.int .i64 (n : Int), .slice (some ⟨R, 0, none⟩) 8 8, .slice none 0 0, .bool (rneg tot), .string (rnum tot), .string (rden tot)] 98) w0) := by rw [hw_w0, hg_gy]; exact blk_new _ _
 have HC0 : Hid (RatsB C qs w0) := by rw [hw_w0]; exact blk_alloc HCR.out
 have HB0 : Hid (Below w.heap.size w w0) := by rw [hw_w0]; exact bel_alloc _ _
 have HL_0 := Lib.hid ((by omega : w.heap.size ≤ gy))
 rw [← hw_w0]
 (try rw [← hg_gy])
 clear hw_w0 hg_gy
 clear HCR
 refine (HP.out _ HC0.out).mono ?_
 rintro e w1 ⟨A, c, rfl, hrd, hab, hb⟩
 have HY1 := bkn HY0 hb
 have HB1 := ben HB0 hb
 have HRD : Hid (Rd w1 w1.heap.size 3 A n (qs.flatMap rtV)) := hrd
 have HAB : Hid (∀ b off, A = some ⟨b, off, none⟩ → w.heap.size ≤ b) := fun b off e => Nat.le_trans HB0.out.size (hab.1 b off e)
 have HNC := Lib.hid hab.2
 clear hrd hab HP
 clear hb HY0 HB0 HC0
 obtain ⟨g0, g1, g2, g3, g4, g5, u0, u1, u2, u3, u4, u5, gz⟩ := six_of (blk_alloc (o' := (.cells #[.slice A n c, .bool false, .string ⟨#[]⟩, .string ⟨#[]⟩] 146)) HY1.out)
 go_wp2_with fail
 clear g0 g1 g2 g3 g4 g5 u0 u1 u2 u3 u4 u5 gz
 obtain ⟨rb, hg_rb⟩ : ∃ g, g = w1.heap.size := ⟨_, rfl⟩
 obtain ⟨w2, hw_w2⟩ : ∃ W, W = w1.alloc (.cells #[.slice A n c, .bool false, .string ⟨#[]⟩, .string ⟨#[]⟩] 146) := ⟨_, rfl⟩
 have HL_rb := Lib.hid (And.intro (by have := blk_lt HY1.out; omega : gy < rb) ((by have := HB1.out.size; omega : w.heap.size ≤ rb)))
 have HY2 := bka HY1 hw_w2
 have HB2 := bea HB1 hw_w2
 have HR2 : Hid (Bk rb (.cells #[.slice A n c, .bool false, .string ⟨#[]⟩, .string ⟨#[]⟩] 146) w2) := by rw [hw_w2, hg_rb]; exact blk_new _ _
 have HRD2 : Hid (Rd w2 w2.heap.size 3 A n (qs.flatMap rtV)) := by rw [hw_w2]; exact HRD.out.next (bel_alloc _ _)
 rw [← hw_w2]
 (try rw [← hg_rb])
 clear hw_w2 hg_rb HY1 HB1
 clear HRD
 go_loopw [17] (fun i wr => i = .int .i64 0 ∧ Hid (Bk rb (.cells #[.slice A n c, .bool false, .string ⟨#[]⟩, .string ⟨#[]⟩] 146) wr) ∧ Hid (Rd wr wr.heap.size 3 A n (qs.flatMap rtV)) ∧ Hid (Below w.heap.size w wr)) (fun _ _ => 0)
 case atStart => exact ⟨rfl, HR2, HRD2, HB2⟩
 case round =>
  clear HRD2 HY2 HB2 HR2
  obtain ⟨rfl, HR, HRD, HB⟩ := hrel
  go_wp2_with fail
  go_ret
  exact ⟨rb, A, c, rfl, HR.out, HRD.out, ⟨HAB.out, HNC.out⟩, HB.out⟩
def LDelPost (qs : List Rat) (n : Nat) (w : World) (e : Ending) (w' : World) : Prop := ∃ A c, e = .returned (.tuple #[.slice A n c, ratV 0]) ∧ Rd w' w'.heap.size 3 A n (qs.flatMap rtV) ∧ ((∀ b off, A = some ⟨b, off, none⟩ → w.heap.size ≤ b) ∧ n ≤ c) ∧ Below w.heap.size w w'
theorem ldeliver_calls (B R n : Nat) (tot : Rat) (ts : List Tr) (l : List Cl) (m : Rat) (z zm : Nat) (w : World) (h : LadM B R ts w) (hT : TrsOk z l ts) (hok : ClsOk l) (hz : ∀ c ∈ l, Sz z c.amt) (hn : l.length = n) (h8 : n ≤ 8) (hm : Sz zm m) (hm0 : 0 ≤ m) (hz0 : 0 < z) (hzm : 0 < zm) (hbd : zm + 8 * (1 + l.length * (z + 1) + 1) ≤ 90000) (hbd2 : z + (zm + 8 * (1 + l.length * (z + 1) + 1) + (1 + l.length * (z + 1))) ≤ 99000) :
 Calls Tryz.prog 35 #[.agg #[.int .i64 (n : Int), .slice (some ⟨R, 0, none⟩) 8 8, .slice none 0 0, .bool (rneg tot), .string (rnum tot), .string (rden tot)], ratV m] w (LDelPost (deliv l m) n w) := by
 have hG' := fun W (h : LadM B R ts W) => gross_calls B R n tot ts l m z zm W h hT hok hz hn h8 hm hm0 hz0 hzm hbd hbd2
 have hT' := fun C W (hc : RatsB C (deliv l m) W) => take_calls R n C tot (deliv l m) W hc (by rw [deliv_len]; exact hn) (by rw [deliv_len]; omega)
 unfold GrossPost at hG'
 unfold TakePost at hT'
 unfold ratV at hG' ⊢
 have HG := Lib.hid hG'
 have HT := Lib.hid hT'
 have HN : Hid (l.length = n) := hn
 have HLm : Hid (LadM B R ts w) := h
 clear hG' hT' h hT hok hz hn h8 hm hm0 hz0 hzm hbd hbd2
 go_enter Tryz.func35, Tryz.ntmps35
 go_wp2_with fail
 obtain ⟨gy, hg_gy⟩ : ∃ g, g = w.heap.size := ⟨_, rfl⟩
 obtain ⟨gm, hg_gm⟩ : ∃ g, g = w.heap.size + 1 := ⟨_, rfl⟩
 obtain ⟨gr, hg_gr⟩ : ∃ g, g = w.heap.size + 1 + 1 := ⟨_, rfl⟩
 obtain ⟨w0, hw_w0⟩ : ∃ W, W = (((w.alloc (.cells #[.int .i64 (n : Int), .slice (some ⟨R, 0, none⟩) 8 8, .slice none 0 0, .bool (rneg tot), .string (rnum tot), .string (rden tot)] 98)).alloc (.cells #[.bool (rneg m), .string (rnum m), .string (rden m)] 33)).alloc (.cells #[.bool false, .string ⟨#[]⟩, .string ⟨#[]⟩] 33)) := ⟨_, rfl⟩
 have HY0 : Hid (Bk gy (.cells #[.int .i64 (n : Int), .slice (some ⟨R, 0, none⟩) 8 8, .slice none 0 0, .bool (rneg tot), .string (rnum tot), .string (rden tot)] 98) w0) := by rw [hw_w0, hg_gy]; exact blk_alloc (blk_alloc (blk_new _ _))
 have HM0 : Hid (Bk gm (.cells #[.bool (rneg m), .string (rnum m), .string (rden m)] 33) w0) := by rw [hw_w0, hg_gm]; exact blk_alloc (blk_new1 _ _ _)
 have HG0 : Hid (Bk gr (.cells #[.bool false, .string ⟨#[]⟩, .string ⟨#[]⟩] 33) w0) := by rw [hw_w0, hg_gr]; exact blk_new2 _ _ _ _
 have HL0 : Hid (LadM B R ts w0) := by rw [hw_w0]; exact ((HLm.out.next (bel_alloc _ _)).next (bel_alloc _ _)).next (bel_alloc _ _)
 have HB0 : Hid (Below w.heap.size w w0) := by rw [hw_w0]; exact ((bel_alloc _ _).alloc (by simp) _).alloc (by simp <;> omega) _
 have HL_0 := Lib.hid (And.intro (by omega : w.heap.size ≤ gy) (And.intro (by omega : gy < gm) ((by omega : gm < gr))))
 rw [← hw_w0]
 (try rw [← hg_gr]); (try rw [← hg_gm]); (try rw [← hg_gy])
 clear hw_w0 hg_gy hg_gm hg_gr
 clear HLm
 refine (HG.out _ HL0.out).mono ?_
 rintro e w1 ⟨C, rfl, hrats, hb⟩
 have HY1 := bkn HY0 hb
 have HM1 := bkn HM0 hb
 have HG1 := bkn HG0 hb
 have HB1 := ben HB0 hb
 have HC1 : Hid (RatsB C (deliv l m) w1) := hrats
 clear hrats HG
 clear hb HY0 HM0 HG0 HB0 HL0
 obtain ⟨g0, g1, g2, g3, g4, g5, u0, u1, u2, u3, u4, u5, gz⟩ := six_of HY1.out
 go_wp2_with fail
 clear g0 g1 g2 g3 g4 g5 u0 u1 u2 u3 u4 u5 gz
 refine (HT.out C _ HC1.out).mono ?_
 rintro e w2 ⟨rb, A, c, rfl, hrb, hrd, hab, hb⟩
 have HY2 := bkn HY1 hb
 have HM2 := bkn HM1 hb
 have HG2 := bkn HG1 hb
 have HB2 := ben HB1 hb
 have HAG : Hid (∀ b off, A = some ⟨b, off, none⟩ → b ≠ gr ∧ w.heap.size ≤ b) := fun b off e => by have h1 := hab.1 b off e; have h2 := blk_lt HG1.out; have h3 := HB1.out.size; exact ⟨by omega, by omega⟩
 have HNC := Lib.hid hab.2
 clear hab
 have HR2 : Hid (Bk rb (.cells #[.slice A n c, .bool false, .string ⟨#[]⟩, .string ⟨#[]⟩] 146) w2) := hrb
 have HRD2 : Hid (Rd w2 w2.heap.size 3 A n ((deliv l m).flatMap rtV)) := hrd
 clear hrb hrd HT
 clear hb HY1 HM1 HG1 HB1 HC1
 obtain ⟨g0, g1, g2, g3, g4, g5, u0, u1, u2, u3, u4, u5, gz⟩ := six_of HY2.out
 go_wp2_with fail
 clear g0 g1 g2 g3 g4 g5 u0 u1 u2 u3 u4 u5 gz
 go_loopw [19] (fun i wr => i = .int .i64 0 ∧ Hid (Bk gr (.cells #[.bool false, .string ⟨#[]⟩, .string ⟨#[]⟩] 33) wr) ∧ Hid (Bk rb (.cells #[.slice A n c, .bool false, .string ⟨#[]⟩, .string ⟨#[]⟩] 146) wr) ∧ Hid (Rd wr wr.heap.size 3 A n ((deliv l m).flatMap rtV)) ∧ Hid (Below w.heap.size w wr)) (fun _ _ => 0)
 case atStart => exact ⟨rfl, HG2, HR2, HRD2, HB2⟩
 case round =>
  clear HRD2 HY2 HM2 HG2 HB2 HR2
  obtain ⟨rfl, HGo, HRo, HD, HBo⟩ := hrel
  rename World => wo
  have HRG : Hid (rb ≠ gr) := blk_ne HRo.out HGo.out (by decide)
  go_wp2_with fail
  obtain ⟨x1, hw_x1⟩ : ∃ W, W = wo.drew := ⟨_, rfl⟩
  have HG1 := bkd HGo hw_x1
  have HR1 := bkd HRo hw_x1
  have HD1 : Hid (Rd x1 x1.heap.size 3 A n ((deliv l m).flatMap rtV)) := by rw [hw_x1]; exact HD.out
  have HB1 := bed HBo hw_x1
  have hS1 := HR1.out
  refine wp_region_held_drew (S := (Bk rb (.cells #[.slice A n c, .bool false, .string ⟨#[]⟩, .string ⟨#[]⟩] 146))) (by kernel_rfl) (by rw [← hw_x1]; exact hS1) ?_
  rw [← hw_x1]
  intro _
  clear hw_x1 HGo HRo HD HBo
  refine tk 0 hS1 ?_
  go_simp
  refine tk 1 hS1 ?_
  go_simp
  refine tk 2 hS1 ?_
  go_simp
  refine tv 3 (.slice A n c) rfl (by intro w' hw'; obtain ⟨k0, k1, k2, k3, _, _, _, _, _⟩ := four_of hw'; go_simp) hS1 ?_
  go_simp
  refine tk 4 hS1 ?_
  go_simp
  refine tk 5 hS1 ?_
  go_simp
  refine tk 6 hS1 ?_
  go_simp
  refine tv 7 (.agg #[.bool false, .string ⟨#[]⟩, .string ⟨#[]⟩]) rfl (by intro w' hw'; obtain ⟨k0, k1, k2, k3, _, _, _, _, _⟩ := four_of hw'; go_simp) hS1 ?_
  go_simp
  refine tk 8 hS1 ?_
  go_simp
  refine tr 9 (fun K hK => ?_)
  obtain ⟨c0, c1, c2, fc0, fc1, fc2, hzc⟩ := three_of HG1.out
  go_simp
  clear c0 c1 c2 fc0 fc1 fc2 hzc
  obtain ⟨wz, hwz⟩ : ∃ W, W = (((x1.setCell ⟨gr, 0, none⟩ (.bool false)).setCell ⟨gr, 1, none⟩ (.string ⟨#[]⟩)).setCell ⟨gr, 2, none⟩ (.string ⟨#[]⟩)) := ⟨_, rfl⟩
  have ho : Only gr x1 wz := by rw [hwz]; exact (((Only.refl _ _).setC _ _).setC _ _).setC _ _
  have HGz : Hid (Bk gr (.cells #[.bool false, .string ⟨#[]⟩, .string ⟨#[]⟩] 33) wz) := by rw [hwz]; exact heap_setCell_same _ gr 2 _ _ _ (heap_setCell_same _ gr 1 _ _ _ (heap_setCell_same _ gr 0 _ _ _ HG1.out))
  have HRz := bko HR1 ho HRG.out
  have HBz := beo HB1 ho (by have := HL_0.out; omega)
  have HDz : Hid (Rd wz wz.heap.size 3 A n ((deliv l m).flatMap rtV)) := by
   refine Rd.more (B := x1.heap.size) ?_ ho.size
   have hD := HD1.out
   refine ⟨hD.1, fun hn => ?_⟩
   obtain ⟨b, off, e, hb, hc⟩ := hD.2 hn
   refine ⟨b, off, e, hb, fun j u hu => ?_⟩
   have h1 := hc j u hu
   by_cases hbg : b = gr
   ·
    exact absurd hbg (fun e2 => (HAG.out b off e).1 e2)
   ·
    exact (World.cell?_of_block (w := x1) (ho.block b hb hbg)).trans h1
  rw [← hwz]
  clear hwz ho
  have hSz := HRz.out
  refine hK.out _ _ hSz (fun _ => ?_)
  clear hK K
  refine wpAnyH_done (by kernel_rfl) ?_ _
  obtain ⟨c0, c1, c2, fc0, fc1, fc2, hzc⟩ := three_of HGz.out
  go_wp2_with fail
  exact bodyPost_ret (v := .tuple #[.slice A n c, .agg #[.bool false, .string ⟨#[]⟩, .string ⟨#[]⟩]]) (by simp [results, Tryz.results35, go_sem, c0, c1, c2]) rfl ⟨A, c, by rw [ratV_zero], HDz.out, ⟨fun b off e => (HAG.out b off e).2, HNC.out⟩, HBz.out⟩

end Go.Proofs.YtjlicnhkemfmiaaGreatDoor

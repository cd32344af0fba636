/- (*codec.reader).act. -/
import Derived.Test.YtcljkdjmmolfoaaDoorActA
set_option linter.unusedVariables false
set_option linter.unusedSimpArgs false
namespace Go.Proofs.YtcljkdjmmolfoaaDoor
open Go.RowKit

theorem size_sets (b : Nat) : ∀ (vs : List Value) (o : Nat) (w : World), (w.setCells b o vs).heap.size = w.heap.size
  | [], _, _ => rfl
  | v :: r, o, w => by rw [World.setCells, size_sets b r (o + 1)]; simp
theorem rd_sets {T : TypeId} {g Bk q : Nat} {s : St} {w : World} (h : RdS T g Bk s w) (hq : g ≠ q) (hBq : Bk ≤ q) : ∀ (vs : List Value) (o : Nat), RdS T g Bk s (w.setCells q o vs) := by
  intro vs
  induction vs generalizing w with
  | nil => intro o; exact h
  | cons v r ih => intro o; rw [World.setCells]; exact ih (h.far hq hBq) (o + 1)
def BoxQ (q : Nat) (x : RQ) (W : World) : Prop := W.heap[q]? = some (.cells #[.bool x.neg, .string x.num, .string x.den] 30 (0, 0))

set_option maxHeartbeats 16000000 in
set_option maxRecDepth 100000 in
theorem pAct_calls (g Bk : Nat) (s : St) (w : World) (h : RdS 81 g Bk s w) :
    Calls Tryd.prog 28 #[.pointer (some ⟨g, 0, none⟩)] w (ActPost 81 g Bk (rAct pNum pRat s) w) := by
  have hgw := h.lt
  have HR0 := Lib.hid (h.next h.le (bel_alloc w zeroAct))
  have hbk : Bk ≤ g := by obtain ⟨_, _, _, _, h3, _⟩ := h; exact h3
  obtain ⟨r1, hr1⟩ : ∃ r, r = pNum s := ⟨_, rfl⟩
  obtain ⟨z1, s1⟩ := r1
  obtain ⟨r2, hr2⟩ : ∃ r, r = pNum s1 := ⟨_, rfl⟩
  obtain ⟨z2, s2⟩ := r2
  obtain ⟨r3, hr3⟩ : ∃ r, r = pNum s2 := ⟨_, rfl⟩
  obtain ⟨z3, s3⟩ := r3
  obtain ⟨r4, hr4⟩ : ∃ r, r = pNum s3 := ⟨_, rfl⟩
  obtain ⟨z4, s4⟩ := r4
  obtain ⟨r5, hr5⟩ : ∃ r, r = pNum s4 := ⟨_, rfl⟩
  obtain ⟨z5, s5⟩ := r5
  obtain ⟨r6, hr6⟩ : ∃ r, r = pNum s5 := ⟨_, rfl⟩
  obtain ⟨z6, s6⟩ := r6
  obtain ⟨ra, hra⟩ : ∃ r, r = pRat s6 := ⟨_, rfl⟩
  obtain ⟨a, sa⟩ := ra
  obtain ⟨rc, hrc⟩ : ∃ r, r = pRat sa := ⟨_, rfl⟩
  obtain ⟨c, sc⟩ := rc
  obtain ⟨rm, hrm⟩ : ∃ r, r = rCount pNum 8 sc := ⟨_, rfl⟩
  have hm8 : rm.1 ≤ 8 := by rw [hrm]; exact rCount_le _ _ _
  obtain ⟨m1, t1⟩ := rm
  dsimp only at hm8
  obtain ⟨rl, hrl⟩ : ∃ r, r = rList (rPair pNum) m1 t1 := ⟨_, rfl⟩
  obtain ⟨legs, sl⟩ := rl
  obtain ⟨rn, hrn⟩ : ∃ r, r = rCount pNum 4 sl := ⟨_, rfl⟩
  have hm4 : rn.1 ≤ 4 := by rw [hrn]; exact rCount_le _ _ _
  obtain ⟨m2, t2⟩ := rn
  dsimp only at hm4
  obtain ⟨ro, hro⟩ : ∃ r, r = rList (rOpt pNum pRat) m2 t2 := ⟨_, rfl⟩
  obtain ⟨opts, so⟩ := ro
  have HP : Hid (rAct pNum pRat s = (⟨z1, z2, z3, z4, z5, z6, a, c, legs, opts⟩, so)) := by
    show _ = _
    unfold rAct
    simp only [← hr1, ← hr2, ← hr3, ← hr4, ← hr5, ← hr6, ← hra, ← hrc, ← hrm, ← hrl, ← hrn, ← hro]
  have E1 := Lib.hid hr1
  have E2 := Lib.hid hr2
  have E3 := Lib.hid hr3
  have E4 := Lib.hid hr4
  have E5 := Lib.hid hr5
  have E6 := Lib.hid hr6
  have EA := Lib.hid hra
  have EC := Lib.hid hrc
  have EM := Lib.hid hrm
  have EL := Lib.hid hrl
  have EN := Lib.hid hrn
  have EO := Lib.hid hro
  have HG0 : Hid ((w.alloc zeroAct).heap[w.heap.size]? = some zeroAct) := blk_new _ _
  have HO0 : Hid (Only g w (w.alloc zeroAct)) := (Only.refl g w).alloc _
  clear h hr1 hr2 hr3 hr4 hr5 hr6 hra hrc hrm hrl hrn hro
  have H1 := Lib.hid (pInteger_calls g Bk s _ HR0.out HR0.out.le)
  rw [← E1.out] at H1
  unfold zeroAct at H1 HO0
  clear HR0
  go_enter Tryd.func28, Tryd.ntmps28
  go_wp2_with fail
  refine H1.out.mono ?_
  rintro e w1 ⟨rfl, hr, ho⟩
  have HO1 := Lib.hid (HO0.out.trans ho)
  have HG1 := Lib.hid (blk_only HG0.out ho (by omega))
  have H2 := Lib.hid (pInteger_calls g Bk s1 w1 hr hr.le)
  rw [← E2.out] at H2
  clear hr ho H1 HO0 HG0
  go_wp2_with fail
  refine H2.out.mono ?_
  rintro e w2 ⟨rfl, hr, ho⟩
  have HO2 := Lib.hid (HO1.out.trans ho)
  have HG2 := Lib.hid (blk_only HG1.out ho (by omega))
  have H3 := Lib.hid (pInteger_calls g Bk s2 w2 hr hr.le)
  rw [← E3.out] at H3
  clear hr ho H2 HO1 HG1
  go_wp2_with fail
  refine H3.out.mono ?_
  rintro e w3 ⟨rfl, hr, ho⟩
  have HO3 := Lib.hid (HO2.out.trans ho)
  have HG3 := Lib.hid (blk_only HG2.out ho (by omega))
  have H4 := Lib.hid (pInteger_calls g Bk s3 w3 hr hr.le)
  rw [← E4.out] at H4
  clear hr ho H3 HO2 HG2
  go_wp2_with fail
  refine H4.out.mono ?_
  rintro e w4 ⟨rfl, hr, ho⟩
  have HO4 := Lib.hid (HO3.out.trans ho)
  have HG4 := Lib.hid (blk_only HG3.out ho (by omega))
  have H5 := Lib.hid (pInteger_calls g Bk s4 w4 hr hr.le)
  rw [← E5.out] at H5
  clear hr ho H4 HO3 HG3
  go_wp2_with fail
  refine H5.out.mono ?_
  rintro e w5 ⟨rfl, hr, ho⟩
  have HO5 := Lib.hid (HO4.out.trans ho)
  have HG5 := Lib.hid (blk_only HG4.out ho (by omega))
  have H6 := Lib.hid (pInteger_calls g Bk s5 w5 hr hr.le)
  rw [← E6.out] at H6
  clear hr ho H5 HO4 HG4
  go_wp2_with fail
  refine H6.out.mono ?_
  rintro e w6 ⟨rfl, hr, ho⟩
  have HO6 := Lib.hid (HO5.out.trans ho)
  have HG6 := Lib.hid (blk_only HG5.out ho (by omega))
  have HD6 := Lib.hid hr
  clear hr ho H6 HO5 HG5
  go_wp2_with fail
  obtain ⟨qa, hqa⟩ : ∃ q, q = w6.heap.size := ⟨_, rfl⟩
  have hwq : w.heap.size < qa := by rw [hqa]; exact (Array.getElem?_eq_some_iff.1 HG6.out).1
  obtain ⟨w7, hw7⟩ : ∃ W, W = w6.alloc (.cells #[.int .i64 z1, .int .i64 z2, .int .i64 z3, .int .i64 z4, .int .i64 z5, .int .i64 z6, .bool false, .string ⟨#[]⟩, .string ⟨#[]⟩, .bool false, .string ⟨#[]⟩, .string ⟨#[]⟩, .slice none 0 0, .slice none 0 0] 34) := ⟨_, rfl⟩
  have HK7 : Hid (w7.heap[qa]? = some (.cells #[.int .i64 z1, .int .i64 z2, .int .i64 z3, .int .i64 z4, .int .i64 z5, .int .i64 z6, .bool false, .string ⟨#[]⟩, .string ⟨#[]⟩, .bool false, .string ⟨#[]⟩, .string ⟨#[]⟩, .slice none 0 0, .slice none 0 0] 34 (0, 0))) := by rw [hw7, hqa]; exact blk_new _ _
  have HD7 : Hid (RdS 81 g Bk s6 w7) := by rw [hw7]; exact HD6.out.next HD6.out.le (bel_alloc _ _)
  have HO7 : Hid (Only g w w7) := by rw [hw7]; exact HO6.out.alloc _
  have HG7 : Hid (w7.heap[w.heap.size]? = some zeroAct) := by rw [hw7]; exact blk_alloc HG6.out
  rw [← hw7, ← hqa]
  clear hw7 hqa HD6 HO6 HG6
  have H7 := Lib.hid (pRat_calls g Bk s6 w7 HD7.out)
  rw [← EA.out] at H7
  refine H7.out.mono ?_
  rintro e w8 ⟨rfl, hr, ho⟩
  dsimp only
  have HK7_ := Lib.hid (blk_only HK7.out ho (by omega))
  have HO7_ := Lib.hid (HO7.out.trans ho)
  have HG7_ := Lib.hid (blk_only HG7.out ho (by omega))
  have HD7_ := Lib.hid hr
  have lq : qa < w8.heap.size := (Array.getElem?_eq_some_iff.1 HK7_.out).1
  have k0 : w8.cell? ⟨qa, 6, none⟩ = some (.bool false) := by rw [cell_of_row w8 qa 6 _ _ (0, 0) HK7_.out]; rfl
  have f0 : w8.frozen? ⟨qa, 6, none⟩ = false := frozen_of_row w8 qa 6 _ _ HK7_.out
  have k1 : w8.cell? ⟨qa, 7, none⟩ = some (.string ⟨#[]⟩) := by rw [cell_of_row w8 qa 7 _ _ (0, 0) HK7_.out]; rfl
  have f1 : w8.frozen? ⟨qa, 7, none⟩ = false := frozen_of_row w8 qa 7 _ _ HK7_.out
  have k2 : w8.cell? ⟨qa, 8, none⟩ = some (.string ⟨#[]⟩) := by rw [cell_of_row w8 qa 8 _ _ (0, 0) HK7_.out]; rfl
  have f2 : w8.frozen? ⟨qa, 8, none⟩ = false := frozen_of_row w8 qa 8 _ _ HK7_.out
  clear hr ho HK7 HO7 HG7 HD7 H7
  go_wp2_with fail
  obtain ⟨w9, hW⟩ : ∃ W, W = (((w8.setCell ⟨qa, 6, none⟩ (.bool a.neg)).setCell ⟨qa, 7, none⟩ (.string a.num)).setCell ⟨qa, 8, none⟩ (.string a.den)) := ⟨_, rfl⟩
  have HK9 : Hid (w9.heap[qa]? = some (.cells #[.int .i64 z1, .int .i64 z2, .int .i64 z3, .int .i64 z4, .int .i64 z5, .int .i64 z6, .bool a.neg, .string a.num, .string a.den, .bool false, .string ⟨#[]⟩, .string ⟨#[]⟩, .slice none 0 0, .slice none 0 0] 34 (0, 0))) := by
    rw [hW]
    have e0 := heap_setCell_same w8 qa 6 _ _ (.bool a.neg) HK7_.out
    have e1 := heap_setCell_same _ qa 7 _ _ (.string a.num) e0
    exact heap_setCell_same _ qa 8 _ _ (.string a.den) e1
  have HO9 : Hid (Only g w w9) := by rw [hW]; exact ((HO7_.out.setNew (by omega) _).setNew (by omega) _).setNew (by omega) _
  have HG9 : Hid (w9.heap[w.heap.size]? = some zeroAct) := by
    rw [hW]
    rw [heap_setCell_other _ _ _ _ (by show w.heap.size ≠ qa; omega), heap_setCell_other _ _ _ _ (by show w.heap.size ≠ qa; omega), heap_setCell_other _ _ _ _ (by show w.heap.size ≠ qa; omega)]
    exact HG7_.out
  have HD9 : Hid (RdS 81 g Bk sa w9) := by rw [hW]; exact ((HD7_.out.far (by omega) (by omega)).far (by omega) (by omega)).far (by omega) (by omega)
  rw [← hW]
  clear hW k0 k1 k2 f0 f1 f2 lq HK7_ HO7_ HG7_ HD7_
  have H9 := Lib.hid (pRat_calls g Bk sa w9 HD9.out)
  rw [← EC.out] at H9
  refine H9.out.mono ?_
  rintro e w10 ⟨rfl, hr, ho⟩
  dsimp only
  have HK9_ := Lib.hid (blk_only HK9.out ho (by omega))
  have HO9_ := Lib.hid (HO9.out.trans ho)
  have HG9_ := Lib.hid (blk_only HG9.out ho (by omega))
  have HD9_ := Lib.hid hr
  have lq : qa < w10.heap.size := (Array.getElem?_eq_some_iff.1 HK9_.out).1
  have k0 : w10.cell? ⟨qa, 9, none⟩ = some (.bool false) := by rw [cell_of_row w10 qa 9 _ _ (0, 0) HK9_.out]; rfl
  have f0 : w10.frozen? ⟨qa, 9, none⟩ = false := frozen_of_row w10 qa 9 _ _ HK9_.out
  have k1 : w10.cell? ⟨qa, 10, none⟩ = some (.string ⟨#[]⟩) := by rw [cell_of_row w10 qa 10 _ _ (0, 0) HK9_.out]; rfl
  have f1 : w10.frozen? ⟨qa, 10, none⟩ = false := frozen_of_row w10 qa 10 _ _ HK9_.out
  have k2 : w10.cell? ⟨qa, 11, none⟩ = some (.string ⟨#[]⟩) := by rw [cell_of_row w10 qa 11 _ _ (0, 0) HK9_.out]; rfl
  have f2 : w10.frozen? ⟨qa, 11, none⟩ = false := frozen_of_row w10 qa 11 _ _ HK9_.out
  clear hr ho HK9 HO9 HG9 HD9 H9
  go_wp2_with fail
  obtain ⟨w11, hW⟩ : ∃ W, W = (((w10.setCell ⟨qa, 9, none⟩ (.bool c.neg)).setCell ⟨qa, 10, none⟩ (.string c.num)).setCell ⟨qa, 11, none⟩ (.string c.den)) := ⟨_, rfl⟩
  have HK11 : Hid (w11.heap[qa]? = some (.cells #[.int .i64 z1, .int .i64 z2, .int .i64 z3, .int .i64 z4, .int .i64 z5, .int .i64 z6, .bool a.neg, .string a.num, .string a.den, .bool c.neg, .string c.num, .string c.den, .slice none 0 0, .slice none 0 0] 34 (0, 0))) := by
    rw [hW]
    have e0 := heap_setCell_same w10 qa 9 _ _ (.bool c.neg) HK9_.out
    have e1 := heap_setCell_same _ qa 10 _ _ (.string c.num) e0
    exact heap_setCell_same _ qa 11 _ _ (.string c.den) e1
  have HO11 : Hid (Only g w w11) := by rw [hW]; exact ((HO9_.out.setNew (by omega) _).setNew (by omega) _).setNew (by omega) _
  have HG11 : Hid (w11.heap[w.heap.size]? = some zeroAct) := by
    rw [hW]
    rw [heap_setCell_other _ _ _ _ (by show w.heap.size ≠ qa; omega), heap_setCell_other _ _ _ _ (by show w.heap.size ≠ qa; omega), heap_setCell_other _ _ _ _ (by show w.heap.size ≠ qa; omega)]
    exact HG9_.out
  have HD11 : Hid (RdS 81 g Bk sc w11) := by rw [hW]; exact ((HD9_.out.far (by omega) (by omega)).far (by omega) (by omega)).far (by omega) (by omega)
  rw [← hW]
  clear hW k0 k1 k2 f0 f1 f2 lq HK9_ HO9_ HG9_ HD9_
  have H11 := Lib.hid (pCount_calls g Bk 8 sc w11 HD11.out HD11.out.le (by unfold maxLen; omega))
  rw [← EM.out] at H11
  refine H11.out.mono ?_
  rintro e w12 ⟨rfl, hr, ho⟩
  dsimp only
  obtain ⟨B, hB⟩ : ∃ B, B = w12.heap.size := ⟨_, rfl⟩
  have HI : Hid (ActI w g Bk qa B z1 z2 z3 z4 z5 z6 a c none 0 [] none 0 [] t1 w12) := ⟨blk_only HK11.out ho (by omega), blk_only HG11.out ho (by omega), World.ownsRow_nil _ _ _ _, World.ownsRow_nil _ _ _ _, hr, HO11.out.trans ho, by rw [hB]; exact Nat.le_refl _, hgw, hwq, by rw [hB]; exact (Array.getElem?_eq_some_iff.1 (blk_only HK11.out ho (by omega))).1⟩
  clear hr ho H11 HK11 HO11 HG11 HD11 hB
  obtain ⟨i1, hi1, hz1_, hs1_, hbt1⟩ := info_parts Tryd.rec_info_leg
  have HF1 := Lib.hid (And.intro hi1 (And.intro hz1_ (And.intro hs1_ hbt1)))
  obtain ⟨i2, hi2, hz2_, hs2_, hbt2⟩ := info_parts Tryd.rec_info_opt
  have HF2 := Lib.hid (And.intro hi2 (And.intro hz2_ (And.intro hs2_ hbt2)))
  clear hi1 hz1_ hs1_ hbt1 hi2 hz2_ hs2_ hbt2
  go_wp2_with fail
  go_loopw [26] (fun vi wr => ∃ (k : Nat) (A1 : Option Addr) (c1 : Nat), k ≤ m1 ∧ vi = .int .i64 (k : Int) ∧ Hid (ActI w g Bk qa B z1 z2 z3 z4 z5 z6 a c A1 c1 (rList (rPair pNum) k t1).1 none 0 [] (rList (rPair pNum) k t1).2 wr)) (fun vi _ => m1 - (intOf vi).toNat)
  case atStart => exact ⟨0, none, 0, Nat.zero_le _, rfl, HI⟩
  case round =>
    clear HI
    obtain ⟨k, A1, c1_, hk, rfl, HI⟩ := hrel
    rename World => wo
    obtain ⟨R, hR⟩ : ∃ R, R = rList (rPair pNum) k t1 := ⟨_, rfl⟩
    rw [← hR] at HI
    have hll : R.1.length = k := by rw [hR]; exact rList_len _ _ _
    obtain ⟨legs_, sk⟩ := R
    dsimp only at HI hll
    have HRK := Lib.hid hR
    have HLL := Lib.hid hll
    clear hR hll
    by_cases hlt : k < m1
    · obtain ⟨rx, hrx⟩ : ∃ r, r = pNum sk := ⟨_, rfl⟩
      obtain ⟨x, sx⟩ := rx
      obtain ⟨ry, hry⟩ : ∃ r, r = pNum sx := ⟨_, rfl⟩
      obtain ⟨y, sy⟩ := ry
      have HNX : Hid (rList (rPair pNum) (k + 1) t1 = (legs_ ++ [(x, y)], sy)) := by
        show _ = _
        rw [rList, ← HRK.out]
        simp only [rPair, ← hrx, ← hry]
      have EX := Lib.hid hrx
      have EY := Lib.hid hry
      clear hrx hry
      go_wp2_with fail
      obtain ⟨W0, hW0⟩ : ∃ W0, W0 = wo.drew := ⟨_, rfl⟩
      have HI0 : Hid (ActI w g Bk qa B z1 z2 z3 z4 z5 z6 a c A1 c1_ legs_ none 0 [] sk W0) := by rw [hW0]; exact HI.out.drew
      refine wp_region_held_drew (S := fun _ => True) (by kernel_rfl) trivial ?_
      rw [← hW0]
      intro _
      clear hW0 HI
      refine wpAnyH_take (i := 0) rfl (by kernel_rfl) (by kernel_rfl) (by kernel_rfl) (fun _ _ _ h => h) (Or.inl ⟨by kernel_rfl, (by intro w' _; go_simp; with_reducible rfl)⟩) trivial ?_
      go_simp
      refine wpAnyH_take (i := 2) rfl (by kernel_rfl) (by kernel_rfl) (by kernel_rfl) (fun _ _ _ h => h) (Or.inl ⟨by kernel_rfl, (by intro w' _; go_simp; with_reducible rfl)⟩) trivial ?_
      go_simp
      refine wpAnyH_take (i := 4) rfl (by kernel_rfl) (by kernel_rfl) (by kernel_rfl) (fun _ _ _ h => h) (Or.inl ⟨by kernel_rfl, (by intro w' _; go_simp; with_reducible rfl)⟩) trivial ?_
      go_simp
      refine wpAnyH_ready (rs := [1, 3]) (by kernel_rfl) (by simp) ?_
      refine AllReadyH.cons rfl (fun K hK => ?_) (AllReadyH.cons rfl (fun K hK => ?_) AllReadyH.nil)
      · have kf := HI0.out.cells.1
        go_simp
        clear kf
        refine hK.out _ _ trivial (fun _ => ?_)
        clear hK K
        refine wpAnyH_ready (rs := [3]) (by kernel_rfl) (by simp) ?_
        refine AllReadyH.cons rfl (fun K hK => ?_) AllReadyH.nil
        go_simp
        have HC := Lib.hid (pInteger_calls g Bk sk W0 HI0.out.d HI0.out.d.le)
        rw [← EX.out] at HC
        refine HC.out.mono ?_
        rintro e wc_1_3 ⟨rfl, hr, ho⟩
        dsimp only
        have HI_1_3 := Lib.hid (HI0.out.next hr ho)
        clear hr ho HC
        refine hK.out _ _ trivial (fun _ => ?_)
        clear hK K
        refine wpAnyH_ready (rs := [5]) (by kernel_rfl) (by simp) ?_
        refine AllReadyH.cons rfl (fun K hK => ?_) AllReadyH.nil
        go_simp
        have HC := Lib.hid (pInteger_calls g Bk sx wc_1_3 HI_1_3.out.d HI_1_3.out.d.le)
        rw [← EY.out] at HC
        refine HC.out.mono ?_
        rintro e wc_1_3_5 ⟨rfl, hr, ho⟩
        dsimp only
        have HI_1_3_5 := Lib.hid (HI_1_3.out.next hr ho)
        clear hr ho HC
        refine hK.out _ _ trivial (fun _ => ?_)
        clear hK K
        refine wpAnyH_take (i := 6) (v := .agg #[.int .i64 x, .int .i64 y]) rfl (by kernel_rfl) (by kernel_rfl) (by kernel_rfl) (fun _ _ _ h => h) (Or.inl ⟨by kernel_rfl, (by intro w' _; go_simp)⟩) trivial ?_
        go_simp
        refine wpAnyH_ready (rs := [7]) (by kernel_rfl) (by simp) ?_
        refine AllReadyH.cons rfl (fun K hK => ?_) AllReadyH.nil
        go_simp
        have HI_1_3_5_7 := Lib.hid (HI_1_3_5.out.alloc (.cells #[.int .i64 x, .int .i64 y] 49))
        have HK_1_3_5_7 := Lib.hid (blk_new wc_1_3_5 (.cells #[.int .i64 x, .int .i64 y] 49))
        refine hK.out _ _ trivial (fun _ => ?_)
        clear hK K
        refine wpAnyH_ready (rs := [8]) (by kernel_rfl) (by simp) ?_
        refine AllReadyH.cons rfl (fun K hK => ?_) AllReadyH.nil
        have hsz_ := HI_1_3_5_7.out.sz
        refine step_append_lies _ rfl (.tmp 29) (.tmp 35) 31 rfl B 49 i1 _ 2 16 Tryd.underlying31 HF1.out.1 HF1.out.2.1 HF1.out.2.2.1 HF1.out.2.2.2 rfl (by decide) (.slice A1 legs_.length c1_) legs_.length (legs_.flatMap legV) (by simp [Act.eval, Act.put]) HI_1_3_5_7.out.l ⟨wc_1_3_5.heap.size, 0, none⟩ 1 1 [.int .i64 x, .int .i64 y] (by simp [Act.eval, Act.put]) rfl (World.news_of_block HK_1_3_5_7.out) (by simp [Value.oneCell']) (by decide) (by have := HLL.out; simp only [maxLen]; omega) (by have := HLL.out; omega) hsz_ _ rfl ?_
        intro g' cap w' hown hgr hor hlt3
        have hg1 := blk_grown HI_1_3_5_7.out.l HI_1_3_5_7.out.r (by decide) hgr
        have HG1 := Lib.hid hg1
        have HN9 := Lib.hid (HI_1_3_5_7.out.leg hown hgr)
        refine hK.out _ _ trivial (fun _ => ?_)
        clear hK K hown hgr hor hg1
        refine wpAnyH_take (i := 9) rfl (by kernel_rfl) (by kernel_rfl) (by kernel_rfl) (fun _ _ _ h => h) (Or.inl ⟨by kernel_rfl, (by intro w' _; go_simp; with_reducible rfl)⟩) trivial ?_
        go_simp
        have kf : w'.cell? ⟨qa, 12, none⟩ = some (.slice A1 legs_.length c1_) := by rw [cell_of_row w' qa 12 _ _ (0, 0) HG1.out]; rfl
        have ff : w'.frozen? ⟨qa, 12, none⟩ = false := frozen_of_row w' qa 12 _ _ HG1.out
        have lf : qa < w'.heap.size := (Array.getElem?_eq_some_iff.1 HG1.out).1
        refine wpAnyH_ready (rs := [10]) (by kernel_rfl) (by simp) ?_
        refine AllReadyH.cons rfl (fun K hK => ?_) AllReadyH.nil
        go_simp
        clear kf ff lf
        refine hK.out _ _ trivial (fun _ => ?_)
        clear hK K
        refine wpAnyH_done (by kernel_rfl) ?_ _
        clear HG1
        go_wp2_with fail
        go_roundw
        case measure => simp [intOf]; omega
        case rel => exact ⟨k + 1, _, _, by omega, by go_num, by rw [HNX.out]; exact HN9⟩
      · go_simp
        have HC := Lib.hid (pInteger_calls g Bk sk W0 HI0.out.d HI0.out.d.le)
        rw [← EX.out] at HC
        refine HC.out.mono ?_
        rintro e wc_3 ⟨rfl, hr, ho⟩
        dsimp only
        have HI_3 := Lib.hid (HI0.out.next hr ho)
        clear hr ho HC
        refine hK.out _ _ trivial (fun _ => ?_)
        clear hK K
        refine wpAnyH_ready (rs := [1, 5]) (by kernel_rfl) (by simp) ?_
        refine AllReadyH.cons rfl (fun K hK => ?_) (AllReadyH.cons rfl (fun K hK => ?_) AllReadyH.nil)
        · have kf := HI_3.out.cells.1
          go_simp
          clear kf
          refine hK.out _ _ trivial (fun _ => ?_)
          clear hK K
          refine wpAnyH_ready (rs := [5]) (by kernel_rfl) (by simp) ?_
          refine AllReadyH.cons rfl (fun K hK => ?_) AllReadyH.nil
          go_simp
          have HC := Lib.hid (pInteger_calls g Bk sx wc_3 HI_3.out.d HI_3.out.d.le)
          rw [← EY.out] at HC
          refine HC.out.mono ?_
          rintro e wc_3_1_5 ⟨rfl, hr, ho⟩
          dsimp only
          have HI_3_1_5 := Lib.hid (HI_3.out.next hr ho)
          clear hr ho HC
          refine hK.out _ _ trivial (fun _ => ?_)
          clear hK K
          refine wpAnyH_take (i := 6) (v := .agg #[.int .i64 x, .int .i64 y]) rfl (by kernel_rfl) (by kernel_rfl) (by kernel_rfl) (fun _ _ _ h => h) (Or.inl ⟨by kernel_rfl, (by intro w' _; go_simp)⟩) trivial ?_
          go_simp
          refine wpAnyH_ready (rs := [7]) (by kernel_rfl) (by simp) ?_
          refine AllReadyH.cons rfl (fun K hK => ?_) AllReadyH.nil
          go_simp
          have HI_3_1_5_7 := Lib.hid (HI_3_1_5.out.alloc (.cells #[.int .i64 x, .int .i64 y] 49))
          have HK_3_1_5_7 := Lib.hid (blk_new wc_3_1_5 (.cells #[.int .i64 x, .int .i64 y] 49))
          refine hK.out _ _ trivial (fun _ => ?_)
          clear hK K
          refine wpAnyH_ready (rs := [8]) (by kernel_rfl) (by simp) ?_
          refine AllReadyH.cons rfl (fun K hK => ?_) AllReadyH.nil
          have hsz_ := HI_3_1_5_7.out.sz
          refine step_append_lies _ rfl (.tmp 29) (.tmp 35) 31 rfl B 49 i1 _ 2 16 Tryd.underlying31 HF1.out.1 HF1.out.2.1 HF1.out.2.2.1 HF1.out.2.2.2 rfl (by decide) (.slice A1 legs_.length c1_) legs_.length (legs_.flatMap legV) (by simp [Act.eval, Act.put]) HI_3_1_5_7.out.l ⟨wc_3_1_5.heap.size, 0, none⟩ 1 1 [.int .i64 x, .int .i64 y] (by simp [Act.eval, Act.put]) rfl (World.news_of_block HK_3_1_5_7.out) (by simp [Value.oneCell']) (by decide) (by have := HLL.out; simp only [maxLen]; omega) (by have := HLL.out; omega) hsz_ _ rfl ?_
          intro g' cap w' hown hgr hor hlt3
          have hg1 := blk_grown HI_3_1_5_7.out.l HI_3_1_5_7.out.r (by decide) hgr
          have HG1 := Lib.hid hg1
          have HN9 := Lib.hid (HI_3_1_5_7.out.leg hown hgr)
          refine hK.out _ _ trivial (fun _ => ?_)
          clear hK K hown hgr hor hg1
          refine wpAnyH_take (i := 9) rfl (by kernel_rfl) (by kernel_rfl) (by kernel_rfl) (fun _ _ _ h => h) (Or.inl ⟨by kernel_rfl, (by intro w' _; go_simp; with_reducible rfl)⟩) trivial ?_
          go_simp
          have kf : w'.cell? ⟨qa, 12, none⟩ = some (.slice A1 legs_.length c1_) := by rw [cell_of_row w' qa 12 _ _ (0, 0) HG1.out]; rfl
          have ff : w'.frozen? ⟨qa, 12, none⟩ = false := frozen_of_row w' qa 12 _ _ HG1.out
          have lf : qa < w'.heap.size := (Array.getElem?_eq_some_iff.1 HG1.out).1
          refine wpAnyH_ready (rs := [10]) (by kernel_rfl) (by simp) ?_
          refine AllReadyH.cons rfl (fun K hK => ?_) AllReadyH.nil
          go_simp
          clear kf ff lf
          refine hK.out _ _ trivial (fun _ => ?_)
          clear hK K
          refine wpAnyH_done (by kernel_rfl) ?_ _
          clear HG1
          go_wp2_with fail
          go_roundw
          case measure => simp [intOf]; omega
          case rel => exact ⟨k + 1, _, _, by omega, by go_num, by rw [HNX.out]; exact HN9⟩
        · go_simp
          have HC := Lib.hid (pInteger_calls g Bk sx wc_3 HI_3.out.d HI_3.out.d.le)
          rw [← EY.out] at HC
          refine HC.out.mono ?_
          rintro e wc_3_5 ⟨rfl, hr, ho⟩
          dsimp only
          have HI_3_5 := Lib.hid (HI_3.out.next hr ho)
          clear hr ho HC
          refine hK.out _ _ trivial (fun _ => ?_)
          clear hK K
          refine wpAnyH_take (i := 6) (v := .agg #[.int .i64 x, .int .i64 y]) rfl (by kernel_rfl) (by kernel_rfl) (by kernel_rfl) (fun _ _ _ h => h) (Or.inl ⟨by kernel_rfl, (by intro w' _; go_simp)⟩) trivial ?_
          go_simp
          refine wpAnyH_ready (rs := [1, 7]) (by kernel_rfl) (by simp) ?_
          refine AllReadyH.cons rfl (fun K hK => ?_) (AllReadyH.cons rfl (fun K hK => ?_) AllReadyH.nil)
          · have kf := HI_3_5.out.cells.1
            go_simp
            clear kf
            refine hK.out _ _ trivial (fun _ => ?_)
            clear hK K
            refine wpAnyH_ready (rs := [7]) (by kernel_rfl) (by simp) ?_
            refine AllReadyH.cons rfl (fun K hK => ?_) AllReadyH.nil
            go_simp
            have HI_3_5_1_7 := Lib.hid (HI_3_5.out.alloc (.cells #[.int .i64 x, .int .i64 y] 49))
            have HK_3_5_1_7 := Lib.hid (blk_new wc_3_5 (.cells #[.int .i64 x, .int .i64 y] 49))
            refine hK.out _ _ trivial (fun _ => ?_)
            clear hK K
            refine wpAnyH_ready (rs := [8]) (by kernel_rfl) (by simp) ?_
            refine AllReadyH.cons rfl (fun K hK => ?_) AllReadyH.nil
            have hsz_ := HI_3_5_1_7.out.sz
            refine step_append_lies _ rfl (.tmp 29) (.tmp 35) 31 rfl B 49 i1 _ 2 16 Tryd.underlying31 HF1.out.1 HF1.out.2.1 HF1.out.2.2.1 HF1.out.2.2.2 rfl (by decide) (.slice A1 legs_.length c1_) legs_.length (legs_.flatMap legV) (by simp [Act.eval, Act.put]) HI_3_5_1_7.out.l ⟨wc_3_5.heap.size, 0, none⟩ 1 1 [.int .i64 x, .int .i64 y] (by simp [Act.eval, Act.put]) rfl (World.news_of_block HK_3_5_1_7.out) (by simp [Value.oneCell']) (by decide) (by have := HLL.out; simp only [maxLen]; omega) (by have := HLL.out; omega) hsz_ _ rfl ?_
            intro g' cap w' hown hgr hor hlt3
            have hg1 := blk_grown HI_3_5_1_7.out.l HI_3_5_1_7.out.r (by decide) hgr
            have HG1 := Lib.hid hg1
            have HN9 := Lib.hid (HI_3_5_1_7.out.leg hown hgr)
            refine hK.out _ _ trivial (fun _ => ?_)
            clear hK K hown hgr hor hg1
            refine wpAnyH_take (i := 9) rfl (by kernel_rfl) (by kernel_rfl) (by kernel_rfl) (fun _ _ _ h => h) (Or.inl ⟨by kernel_rfl, (by intro w' _; go_simp; with_reducible rfl)⟩) trivial ?_
            go_simp
            have kf : w'.cell? ⟨qa, 12, none⟩ = some (.slice A1 legs_.length c1_) := by rw [cell_of_row w' qa 12 _ _ (0, 0) HG1.out]; rfl
            have ff : w'.frozen? ⟨qa, 12, none⟩ = false := frozen_of_row w' qa 12 _ _ HG1.out
            have lf : qa < w'.heap.size := (Array.getElem?_eq_some_iff.1 HG1.out).1
            refine wpAnyH_ready (rs := [10]) (by kernel_rfl) (by simp) ?_
            refine AllReadyH.cons rfl (fun K hK => ?_) AllReadyH.nil
            go_simp
            clear kf ff lf
            refine hK.out _ _ trivial (fun _ => ?_)
            clear hK K
            refine wpAnyH_done (by kernel_rfl) ?_ _
            clear HG1
            go_wp2_with fail
            go_roundw
            case measure => simp [intOf]; omega
            case rel => exact ⟨k + 1, _, _, by omega, by go_num, by rw [HNX.out]; exact HN9⟩
          · go_simp
            have HI_3_5_7 := Lib.hid (HI_3_5.out.alloc (.cells #[.int .i64 x, .int .i64 y] 49))
            have HK_3_5_7 := Lib.hid (blk_new wc_3_5 (.cells #[.int .i64 x, .int .i64 y] 49))
            refine hK.out _ _ trivial (fun _ => ?_)
            clear hK K
            refine wpAnyH_ready (rs := [1]) (by kernel_rfl) (by simp) ?_
            refine AllReadyH.cons rfl (fun K hK => ?_) AllReadyH.nil
            have kf := HI_3_5_7.out.cells.1
            go_simp
            clear kf
            refine hK.out _ _ trivial (fun _ => ?_)
            clear hK K
            refine wpAnyH_ready (rs := [8]) (by kernel_rfl) (by simp) ?_
            refine AllReadyH.cons rfl (fun K hK => ?_) AllReadyH.nil
            have hsz_ := HI_3_5_7.out.sz
            refine step_append_lies _ rfl (.tmp 29) (.tmp 35) 31 rfl B 49 i1 _ 2 16 Tryd.underlying31 HF1.out.1 HF1.out.2.1 HF1.out.2.2.1 HF1.out.2.2.2 rfl (by decide) (.slice A1 legs_.length c1_) legs_.length (legs_.flatMap legV) (by simp [Act.eval, Act.put]) HI_3_5_7.out.l ⟨wc_3_5.heap.size, 0, none⟩ 1 1 [.int .i64 x, .int .i64 y] (by simp [Act.eval, Act.put]) rfl (World.news_of_block HK_3_5_7.out) (by simp [Value.oneCell']) (by decide) (by have := HLL.out; simp only [maxLen]; omega) (by have := HLL.out; omega) hsz_ _ rfl ?_
            intro g' cap w' hown hgr hor hlt3
            have hg1 := blk_grown HI_3_5_7.out.l HI_3_5_7.out.r (by decide) hgr
            have HG1 := Lib.hid hg1
            have HN9 := Lib.hid (HI_3_5_7.out.leg hown hgr)
            refine hK.out _ _ trivial (fun _ => ?_)
            clear hK K hown hgr hor hg1
            refine wpAnyH_take (i := 9) rfl (by kernel_rfl) (by kernel_rfl) (by kernel_rfl) (fun _ _ _ h => h) (Or.inl ⟨by kernel_rfl, (by intro w' _; go_simp; with_reducible rfl)⟩) trivial ?_
            go_simp
            have kf : w'.cell? ⟨qa, 12, none⟩ = some (.slice A1 legs_.length c1_) := by rw [cell_of_row w' qa 12 _ _ (0, 0) HG1.out]; rfl
            have ff : w'.frozen? ⟨qa, 12, none⟩ = false := frozen_of_row w' qa 12 _ _ HG1.out
            have lf : qa < w'.heap.size := (Array.getElem?_eq_some_iff.1 HG1.out).1
            refine wpAnyH_ready (rs := [10]) (by kernel_rfl) (by simp) ?_
            refine AllReadyH.cons rfl (fun K hK => ?_) AllReadyH.nil
            go_simp
            clear kf ff lf
            refine hK.out _ _ trivial (fun _ => ?_)
            clear hK K
            refine wpAnyH_done (by kernel_rfl) ?_ _
            clear HG1
            go_wp2_with fail
            go_roundw
            case measure => simp [intOf]; omega
            case rel => exact ⟨k + 1, _, _, by omega, by go_num, by rw [HNX.out]; exact HN9⟩
    · have hkm : k = m1 := by omega
      have hE := HRK.out
      rw [hkm] at hE
      rw [← EL.out] at hE
      obtain ⟨e1, e2⟩ : legs_ = legs ∧ sk = sl := by simpa using hE
      subst e1 e2
      clear hE HRK HLL hkm
      have H13 := Lib.hid (pCount_calls g Bk 4 sk wo HI.out.d HI.out.d.le (by unfold maxLen; omega))
      rw [← EN.out] at H13
      go_wp2_with fail
      refine H13.out.mono ?_
      rintro e w13 ⟨rfl, hr, ho⟩
      dsimp only
      have HI2 := Lib.hid (HI.out.next hr ho)
      clear hr ho H13 HI
      have HI := HI2
      clear HI2
      go_wp2_with fail
      go_loopw [41] (fun vi wr => ∃ (k : Nat) (A2 : Option Addr) (c2 : Nat), k ≤ m2 ∧ vi = .int .i64 (k : Int) ∧ Hid (ActI w g Bk qa B z1 z2 z3 z4 z5 z6 a c A1 c1_ legs_ A2 c2 (rList (rOpt pNum pRat) k t2).1 (rList (rOpt pNum pRat) k t2).2 wr)) (fun vi _ => m2 - (intOf vi).toNat)
      case atStart => exact ⟨0, none, 0, Nat.zero_le _, rfl, HI⟩
      case round =>
        clear HI
        obtain ⟨k, A2, c2_, hk, rfl, HI⟩ := hrel
        rename World => wo
        obtain ⟨R, hR⟩ : ∃ R, R = rList (rOpt pNum pRat) k t2 := ⟨_, rfl⟩
        rw [← hR] at HI
        have hll : R.1.length = k := by rw [hR]; exact rList_len _ _ _
        obtain ⟨opts_, sk⟩ := R
        dsimp only at HI hll
        have HRK := Lib.hid hR
        have HLL := Lib.hid hll
        clear hR hll
        by_cases hlt : k < m2
        · obtain ⟨rx, hrx⟩ : ∃ r, r = pRat sk := ⟨_, rfl⟩
          obtain ⟨x, sx⟩ := rx
          obtain ⟨ry, hry⟩ : ∃ r, r = pNum sx := ⟨_, rfl⟩
          obtain ⟨y, sy⟩ := ry
          have HNX : Hid (rList (rOpt pNum pRat) (k + 1) t2 = (opts_ ++ [(x, y)], sy)) := by
            show _ = _
            rw [rList, ← HRK.out]
            simp only [rOpt, ← hrx, ← hry]
          have EX := Lib.hid hrx
          have EY := Lib.hid hry
          clear hrx hry
          have HQ := Lib.hid (pRat_calls g Bk sk wo HI.out.d)
          rw [← EX.out] at HQ
          go_wp2_with fail
          refine HQ.out.mono ?_
          rintro e wq_ ⟨rfl, hr, ho⟩
          dsimp only
          have HIq := Lib.hid (HI.out.next hr ho)
          clear hr ho HQ HI
          go_wp2_with fail
          obtain ⟨W0, hW0⟩ : ∃ W0, W0 = (wq_.alloc (.cells #[.bool x.neg, .string x.num, .string x.den] 30)).drew := ⟨_, rfl⟩
          have hS : BoxQ wq_.heap.size x W0 := by rw [hW0]; exact blk_new _ _
          have HI0 : Hid (ActI w g Bk qa B z1 z2 z3 z4 z5 z6 a c A1 c1_ legs_ A2 c2_ opts_ sx W0) := by rw [hW0]; exact (HIq.out.alloc _).drew
          have hqg : wq_.heap.size ≠ g := by have := HIq.out.d.lt; omega
          have hqa : wq_.heap.size ≠ qa := by have := (Array.getElem?_eq_some_iff.1 HIq.out.r).1; omega
          obtain ⟨q4, hq4⟩ : ∃ q, q = wq_.heap.size := ⟨_, rfl⟩
          rw [← hq4] at hS hqg hqa
          refine wp_region_held_drew (S := BoxQ q4 x) (by kernel_rfl) (by rw [← hW0]; exact hS) ?_
          rw [← hW0, ← hq4]
          intro _
          clear hW0 HIq hq4
          refine wpAnyH_take (i := 0) rfl (by kernel_rfl) (by kernel_rfl) (by kernel_rfl) (fun _ _ _ h => h) (Or.inl ⟨by kernel_rfl, (by intro w' _; go_simp; with_reducible rfl)⟩) hS ?_
          go_simp
          refine wpAnyH_take (i := 2) (v := .agg #[.bool x.neg, .string x.num, .string x.den]) rfl (by kernel_rfl) (by kernel_rfl) (by kernel_rfl) (fun _ _ _ h => h) (Or.inl ⟨by kernel_rfl, (by intro w' hw'; obtain ⟨b0, b1, b2, _⟩ := three_of hw'; go_simp)⟩) hS ?_
          go_simp
          refine wpAnyH_take (i := 3) rfl (by kernel_rfl) (by kernel_rfl) (by kernel_rfl) (fun _ _ _ h => h) (Or.inl ⟨by kernel_rfl, (by intro w' _; go_simp; with_reducible rfl)⟩) hS ?_
          go_simp
          refine wpAnyH_ready (rs := [1, 4]) (by kernel_rfl) (by simp) ?_
          refine AllReadyH.cons rfl (fun K hK => ?_) (AllReadyH.cons rfl (fun K hK => ?_) AllReadyH.nil)
          · have kf := HI0.out.cells.2
            go_simp
            clear kf
            refine hK.out _ _ hS (fun _ => ?_)
            clear hK K
            refine wpAnyH_ready (rs := [4]) (by kernel_rfl) (by simp) ?_
            refine AllReadyH.cons rfl (fun K hK => ?_) AllReadyH.nil
            go_simp
            have HC := Lib.hid (pInteger_calls g Bk sx W0 HI0.out.d HI0.out.d.le)
            rw [← EY.out] at HC
            refine HC.out.mono ?_
            rintro e wc_1_4 ⟨rfl, hr, ho⟩
            dsimp only
            have HI_1_4 := Lib.hid (HI0.out.next hr ho)
            have hS_1_4 : BoxQ q4 x wc_1_4 := blk_only hS ho hqg
            clear hr ho HC
            refine hK.out _ _ hS_1_4 (fun _ => ?_)
            clear hK K
            refine wpAnyH_take (i := 5) (v := .agg #[.bool x.neg, .string x.num, .string x.den, .int .i64 y]) rfl (by kernel_rfl) (by kernel_rfl) (by kernel_rfl) (fun _ _ _ h => h) (Or.inl ⟨by kernel_rfl, (by intro w' _; go_simp)⟩) hS_1_4 ?_
            go_simp
            refine wpAnyH_ready (rs := [6]) (by kernel_rfl) (by simp) ?_
            refine AllReadyH.cons rfl (fun K hK => ?_) AllReadyH.nil
            go_simp
            have hS_1_4_6 : BoxQ q4 x (wc_1_4.alloc (.cells #[.bool x.neg, .string x.num, .string x.den, .int .i64 y] 51)) := blk_alloc hS_1_4
            have HI_1_4_6 := Lib.hid (HI_1_4.out.alloc (.cells #[.bool x.neg, .string x.num, .string x.den, .int .i64 y] 51))
            have HK_1_4_6 := Lib.hid (blk_new wc_1_4 (.cells #[.bool x.neg, .string x.num, .string x.den, .int .i64 y] 51))
            refine hK.out _ _ hS_1_4_6 (fun _ => ?_)
            clear hK K
            refine wpAnyH_ready (rs := [7]) (by kernel_rfl) (by simp) ?_
            refine AllReadyH.cons rfl (fun K hK => ?_) AllReadyH.nil
            have hsz_ := HI_1_4_6.out.sz
            refine step_append_lies _ rfl (.tmp 46) (.tmp 51) 32 rfl B 51 i2 _ 4 48 Tryd.underlying32 HF2.out.1 HF2.out.2.1 HF2.out.2.2.1 HF2.out.2.2.2 rfl (by decide) (.slice A2 opts_.length c2_) opts_.length (opts_.flatMap optV) (by simp [Act.eval, Act.put]) HI_1_4_6.out.o ⟨wc_1_4.heap.size, 0, none⟩ 1 1 [.bool x.neg, .string x.num, .string x.den, .int .i64 y] (by simp [Act.eval, Act.put]) rfl (World.news_of_block HK_1_4_6.out) (by simp [Value.oneCell']) (by decide) (by have := HLL.out; simp only [maxLen]; omega) (by have := HLL.out; omega) hsz_ _ rfl ?_
            intro g' cap w' hown hgr hor hlt3
            have hg1 := blk_grown HI_1_4_6.out.o HI_1_4_6.out.r (by decide) hgr
            have HG1 := Lib.hid hg1
            have hS9 : BoxQ q4 x w' := blk_grown HI_1_4_6.out.o hS_1_4_6 (by decide) hgr
            have HN9 := Lib.hid (HI_1_4_6.out.opt hown hgr)
            refine hK.out _ _ hS9 (fun _ => ?_)
            clear hK K hown hgr hor hg1
            refine wpAnyH_take (i := 8) rfl (by kernel_rfl) (by kernel_rfl) (by kernel_rfl) (fun _ _ _ h => h) (Or.inl ⟨by kernel_rfl, (by intro w' _; go_simp; with_reducible rfl)⟩) hS9 ?_
            go_simp
            have kf : w'.cell? ⟨qa, 13, none⟩ = some (.slice A2 opts_.length c2_) := by rw [cell_of_row w' qa 13 _ _ (0, 0) HG1.out]; rfl
            have ff : w'.frozen? ⟨qa, 13, none⟩ = false := frozen_of_row w' qa 13 _ _ HG1.out
            have lf : qa < w'.heap.size := (Array.getElem?_eq_some_iff.1 HG1.out).1
            refine wpAnyH_ready (rs := [9]) (by kernel_rfl) (by simp) ?_
            refine AllReadyH.cons rfl (fun K hK => ?_) AllReadyH.nil
            go_simp
            clear kf ff lf
            refine hK.out _ _ ((heap_setCell_other w' ⟨qa, 13, none⟩ q4 _ (by show q4 ≠ qa; exact hqa)).trans hS9) (fun _ => ?_)
            clear hK K
            refine wpAnyH_done (by kernel_rfl) ?_ _
            clear HG1 hS9
            go_wp2_with fail
            go_roundw
            case measure => simp [intOf]; omega
            case rel => exact ⟨k + 1, _, _, by omega, by go_num, by rw [HNX.out]; exact HN9⟩
          · go_simp
            have HC := Lib.hid (pInteger_calls g Bk sx W0 HI0.out.d HI0.out.d.le)
            rw [← EY.out] at HC
            refine HC.out.mono ?_
            rintro e wc_4 ⟨rfl, hr, ho⟩
            dsimp only
            have HI_4 := Lib.hid (HI0.out.next hr ho)
            have hS_4 : BoxQ q4 x wc_4 := blk_only hS ho hqg
            clear hr ho HC
            refine hK.out _ _ hS_4 (fun _ => ?_)
            clear hK K
            refine wpAnyH_take (i := 5) (v := .agg #[.bool x.neg, .string x.num, .string x.den, .int .i64 y]) rfl (by kernel_rfl) (by kernel_rfl) (by kernel_rfl) (fun _ _ _ h => h) (Or.inl ⟨by kernel_rfl, (by intro w' _; go_simp)⟩) hS_4 ?_
            go_simp
            refine wpAnyH_ready (rs := [1, 6]) (by kernel_rfl) (by simp) ?_
            refine AllReadyH.cons rfl (fun K hK => ?_) (AllReadyH.cons rfl (fun K hK => ?_) AllReadyH.nil)
            · have kf := HI_4.out.cells.2
              go_simp
              clear kf
              refine hK.out _ _ hS_4 (fun _ => ?_)
              clear hK K
              refine wpAnyH_ready (rs := [6]) (by kernel_rfl) (by simp) ?_
              refine AllReadyH.cons rfl (fun K hK => ?_) AllReadyH.nil
              go_simp
              have hS_4_1_6 : BoxQ q4 x (wc_4.alloc (.cells #[.bool x.neg, .string x.num, .string x.den, .int .i64 y] 51)) := blk_alloc hS_4
              have HI_4_1_6 := Lib.hid (HI_4.out.alloc (.cells #[.bool x.neg, .string x.num, .string x.den, .int .i64 y] 51))
              have HK_4_1_6 := Lib.hid (blk_new wc_4 (.cells #[.bool x.neg, .string x.num, .string x.den, .int .i64 y] 51))
              refine hK.out _ _ hS_4_1_6 (fun _ => ?_)
              clear hK K
              refine wpAnyH_ready (rs := [7]) (by kernel_rfl) (by simp) ?_
              refine AllReadyH.cons rfl (fun K hK => ?_) AllReadyH.nil
              have hsz_ := HI_4_1_6.out.sz
              refine step_append_lies _ rfl (.tmp 46) (.tmp 51) 32 rfl B 51 i2 _ 4 48 Tryd.underlying32 HF2.out.1 HF2.out.2.1 HF2.out.2.2.1 HF2.out.2.2.2 rfl (by decide) (.slice A2 opts_.length c2_) opts_.length (opts_.flatMap optV) (by simp [Act.eval, Act.put]) HI_4_1_6.out.o ⟨wc_4.heap.size, 0, none⟩ 1 1 [.bool x.neg, .string x.num, .string x.den, .int .i64 y] (by simp [Act.eval, Act.put]) rfl (World.news_of_block HK_4_1_6.out) (by simp [Value.oneCell']) (by decide) (by have := HLL.out; simp only [maxLen]; omega) (by have := HLL.out; omega) hsz_ _ rfl ?_
              intro g' cap w' hown hgr hor hlt3
              have hg1 := blk_grown HI_4_1_6.out.o HI_4_1_6.out.r (by decide) hgr
              have HG1 := Lib.hid hg1
              have hS9 : BoxQ q4 x w' := blk_grown HI_4_1_6.out.o hS_4_1_6 (by decide) hgr
              have HN9 := Lib.hid (HI_4_1_6.out.opt hown hgr)
              refine hK.out _ _ hS9 (fun _ => ?_)
              clear hK K hown hgr hor hg1
              refine wpAnyH_take (i := 8) rfl (by kernel_rfl) (by kernel_rfl) (by kernel_rfl) (fun _ _ _ h => h) (Or.inl ⟨by kernel_rfl, (by intro w' _; go_simp; with_reducible rfl)⟩) hS9 ?_
              go_simp
              have kf : w'.cell? ⟨qa, 13, none⟩ = some (.slice A2 opts_.length c2_) := by rw [cell_of_row w' qa 13 _ _ (0, 0) HG1.out]; rfl
              have ff : w'.frozen? ⟨qa, 13, none⟩ = false := frozen_of_row w' qa 13 _ _ HG1.out
              have lf : qa < w'.heap.size := (Array.getElem?_eq_some_iff.1 HG1.out).1
              refine wpAnyH_ready (rs := [9]) (by kernel_rfl) (by simp) ?_
              refine AllReadyH.cons rfl (fun K hK => ?_) AllReadyH.nil
              go_simp
              clear kf ff lf
              refine hK.out _ _ ((heap_setCell_other w' ⟨qa, 13, none⟩ q4 _ (by show q4 ≠ qa; exact hqa)).trans hS9) (fun _ => ?_)
              clear hK K
              refine wpAnyH_done (by kernel_rfl) ?_ _
              clear HG1 hS9
              go_wp2_with fail
              go_roundw
              case measure => simp [intOf]; omega
              case rel => exact ⟨k + 1, _, _, by omega, by go_num, by rw [HNX.out]; exact HN9⟩
            · go_simp
              have hS_4_6 : BoxQ q4 x (wc_4.alloc (.cells #[.bool x.neg, .string x.num, .string x.den, .int .i64 y] 51)) := blk_alloc hS_4
              have HI_4_6 := Lib.hid (HI_4.out.alloc (.cells #[.bool x.neg, .string x.num, .string x.den, .int .i64 y] 51))
              have HK_4_6 := Lib.hid (blk_new wc_4 (.cells #[.bool x.neg, .string x.num, .string x.den, .int .i64 y] 51))
              refine hK.out _ _ hS_4_6 (fun _ => ?_)
              clear hK K
              refine wpAnyH_ready (rs := [1]) (by kernel_rfl) (by simp) ?_
              refine AllReadyH.cons rfl (fun K hK => ?_) AllReadyH.nil
              have kf := HI_4_6.out.cells.2
              go_simp
              clear kf
              refine hK.out _ _ hS_4_6 (fun _ => ?_)
              clear hK K
              refine wpAnyH_ready (rs := [7]) (by kernel_rfl) (by simp) ?_
              refine AllReadyH.cons rfl (fun K hK => ?_) AllReadyH.nil
              have hsz_ := HI_4_6.out.sz
              refine step_append_lies _ rfl (.tmp 46) (.tmp 51) 32 rfl B 51 i2 _ 4 48 Tryd.underlying32 HF2.out.1 HF2.out.2.1 HF2.out.2.2.1 HF2.out.2.2.2 rfl (by decide) (.slice A2 opts_.length c2_) opts_.length (opts_.flatMap optV) (by simp [Act.eval, Act.put]) HI_4_6.out.o ⟨wc_4.heap.size, 0, none⟩ 1 1 [.bool x.neg, .string x.num, .string x.den, .int .i64 y] (by simp [Act.eval, Act.put]) rfl (World.news_of_block HK_4_6.out) (by simp [Value.oneCell']) (by decide) (by have := HLL.out; simp only [maxLen]; omega) (by have := HLL.out; omega) hsz_ _ rfl ?_
              intro g' cap w' hown hgr hor hlt3
              have hg1 := blk_grown HI_4_6.out.o HI_4_6.out.r (by decide) hgr
              have HG1 := Lib.hid hg1
              have hS9 : BoxQ q4 x w' := blk_grown HI_4_6.out.o hS_4_6 (by decide) hgr
              have HN9 := Lib.hid (HI_4_6.out.opt hown hgr)
              refine hK.out _ _ hS9 (fun _ => ?_)
              clear hK K hown hgr hor hg1
              refine wpAnyH_take (i := 8) rfl (by kernel_rfl) (by kernel_rfl) (by kernel_rfl) (fun _ _ _ h => h) (Or.inl ⟨by kernel_rfl, (by intro w' _; go_simp; with_reducible rfl)⟩) hS9 ?_
              go_simp
              have kf : w'.cell? ⟨qa, 13, none⟩ = some (.slice A2 opts_.length c2_) := by rw [cell_of_row w' qa 13 _ _ (0, 0) HG1.out]; rfl
              have ff : w'.frozen? ⟨qa, 13, none⟩ = false := frozen_of_row w' qa 13 _ _ HG1.out
              have lf : qa < w'.heap.size := (Array.getElem?_eq_some_iff.1 HG1.out).1
              refine wpAnyH_ready (rs := [9]) (by kernel_rfl) (by simp) ?_
              refine AllReadyH.cons rfl (fun K hK => ?_) AllReadyH.nil
              go_simp
              clear kf ff lf
              refine hK.out _ _ ((heap_setCell_other w' ⟨qa, 13, none⟩ q4 _ (by show q4 ≠ qa; exact hqa)).trans hS9) (fun _ => ?_)
              clear hK K
              refine wpAnyH_done (by kernel_rfl) ?_ _
              clear HG1 hS9
              go_wp2_with fail
              go_roundw
              case measure => simp [intOf]; omega
              case rel => exact ⟨k + 1, _, _, by omega, by go_num, by rw [HNX.out]; exact HN9⟩
        · have hkm : k = m2 := by omega
          have hE := HRK.out
          rw [hkm] at hE
          rw [← EO.out] at hE
          obtain ⟨e1, e2⟩ : opts_ = opts ∧ sk = so := by simpa using hE
          subst e1 e2
          clear hE HRK HLL hkm
          have hra : wo.rangeAt qa 0 [.int .i64 z1, .int .i64 z2, .int .i64 z3, .int .i64 z4, .int .i64 z5, .int .i64 z6, .bool a.neg, .string a.num, .string a.den, .bool c.neg, .string c.num, .string c.den, .slice A1 legs_.length c1_, .slice A2 opts_.length c2_] := fun j v hv => by
            rw [Nat.zero_add, cell_of_row wo qa j _ _ (0, 0) HI.out.r, ← hv]; simp
          have hZ := HI.out.z
          unfold zeroAct at hZ
          have htb := there_block (n := 14) hZ (by decide)
          have HQ : Hid ((wo.setCells w.heap.size 0 [.int .i64 z1, .int .i64 z2, .int .i64 z3, .int .i64 z4, .int .i64 z5, .int .i64 z6, .bool a.neg, .string a.num, .string a.den, .bool c.neg, .string c.num, .string c.den, .slice A1 legs_.length c1_, .slice A2 opts_.length c2_]).heap[w.heap.size]? = some (.cells #[.int .i64 z1, .int .i64 z2, .int .i64 z3, .int .i64 z4, .int .i64 z5, .int .i64 z6, .bool a.neg, .string a.num, .string a.den, .bool c.neg, .string c.num, .string c.den, .slice A1 legs_.length c1_, .slice A2 opts_.length c2_] 34 (0, 0))) := setCells_whole hZ rfl
          have HOn : Hid (Only g w (wo.setCells w.heap.size 0 [.int .i64 z1, .int .i64 z2, .int .i64 z3, .int .i64 z4, .int .i64 z5, .int .i64 z6, .bool a.neg, .string a.num, .string a.den, .bool c.neg, .string c.num, .string c.den, .slice A1 legs_.length c1_, .slice A2 opts_.length c2_])) := only_sets (Nat.le_refl _) _ 0 _ HI.out.b
          have HDn : Hid (RdS 81 g Bk sk (wo.setCells w.heap.size 0 [.int .i64 z1, .int .i64 z2, .int .i64 z3, .int .i64 z4, .int .i64 z5, .int .i64 z6, .bool a.neg, .string a.num, .string a.den, .bool c.neg, .string c.num, .string c.den, .slice A1 legs_.length c1_, .slice A2 opts_.length c2_])) := rd_sets HI.out.d (by omega) (by omega) _ 0
          have HL1 := Lib.hid (own_sets (vs := [.int .i64 z1, .int .i64 z2, .int .i64 z3, .int .i64 z4, .int .i64 z5, .int .i64 z6, .bool a.neg, .string a.num, .string a.den, .bool c.neg, .string c.num, .string c.den, .slice A1 legs_.length c1_, .slice A2 opts_.length c2_]) HI.out.l hZ (by decide))
          have HL2 := Lib.hid (own_sets (vs := [.int .i64 z1, .int .i64 z2, .int .i64 z3, .int .i64 z4, .int .i64 z5, .int .i64 z6, .bool a.neg, .string a.num, .string a.den, .bool c.neg, .string c.num, .string c.den, .slice A1 legs_.length c1_, .slice A2 opts_.length c2_]) HI.out.o hZ (by decide))
          have HBB : Hid (w.heap.size ≤ B ∧ B ≤ (wo.setCells w.heap.size 0 [.int .i64 z1, .int .i64 z2, .int .i64 z3, .int .i64 z4, .int .i64 z5, .int .i64 z6, .bool a.neg, .string a.num, .string a.den, .bool c.neg, .string c.num, .string c.den, .slice A1 legs_.length c1_, .slice A2 opts_.length c2_]).heap.size) := ⟨by have := HI.out.wq; have := HI.out.qB; omega, by rw [size_sets]; exact HI.out.sz⟩
          clear hZ HI
          go_wp2_with (first | (refine wpList_load_mid rfl 34 (.tmp 3) rfl qa 0 rfl [.int .i64 z1, .int .i64 z2, .int .i64 z3, .int .i64 z4, .int .i64 z5, .int .i64 z6, .bool a.neg, .string a.num, .string a.den, .bool c.neg, .string c.num, .string c.den, .slice A1 legs_.length c1_, .slice A2 opts_.length c2_] _ hra Tryd.underlying34 rfl (by kernel_rfl) ?_) | (refine wpList_store_mid rfl 34 (.tmp 2) (.tmp 55) rfl w.heap.size 0 #[.int .i64 z1, .int .i64 z2, .int .i64 z3, .int .i64 z4, .int .i64 z5, .int .i64 z6, .bool a.neg, .string a.num, .string a.den, .bool c.neg, .string c.num, .string c.den, .slice A1 legs_.length c1_, .slice A2 opts_.length c2_] rfl rfl htb (by kernel_rfl) (by simp [Value.oneCell']) ?_))
          have v0_ : (wo.setCells w.heap.size 0 [.int .i64 z1, .int .i64 z2, .int .i64 z3, .int .i64 z4, .int .i64 z5, .int .i64 z6, .bool a.neg, .string a.num, .string a.den, .bool c.neg, .string c.num, .string c.den, .slice A1 legs_.length c1_, .slice A2 opts_.length c2_]).cell? ⟨w.heap.size, 0, none⟩ = some (.int .i64 z1) := by rw [cell_of_row _ w.heap.size 0 _ _ (0, 0) HQ.out]; rfl
          have v1_ : (wo.setCells w.heap.size 0 [.int .i64 z1, .int .i64 z2, .int .i64 z3, .int .i64 z4, .int .i64 z5, .int .i64 z6, .bool a.neg, .string a.num, .string a.den, .bool c.neg, .string c.num, .string c.den, .slice A1 legs_.length c1_, .slice A2 opts_.length c2_]).cell? ⟨w.heap.size, 1, none⟩ = some (.int .i64 z2) := by rw [cell_of_row _ w.heap.size 1 _ _ (0, 0) HQ.out]; rfl
          have v2_ : (wo.setCells w.heap.size 0 [.int .i64 z1, .int .i64 z2, .int .i64 z3, .int .i64 z4, .int .i64 z5, .int .i64 z6, .bool a.neg, .string a.num, .string a.den, .bool c.neg, .string c.num, .string c.den, .slice A1 legs_.length c1_, .slice A2 opts_.length c2_]).cell? ⟨w.heap.size, 2, none⟩ = some (.int .i64 z3) := by rw [cell_of_row _ w.heap.size 2 _ _ (0, 0) HQ.out]; rfl
          have v3_ : (wo.setCells w.heap.size 0 [.int .i64 z1, .int .i64 z2, .int .i64 z3, .int .i64 z4, .int .i64 z5, .int .i64 z6, .bool a.neg, .string a.num, .string a.den, .bool c.neg, .string c.num, .string c.den, .slice A1 legs_.length c1_, .slice A2 opts_.length c2_]).cell? ⟨w.heap.size, 3, none⟩ = some (.int .i64 z4) := by rw [cell_of_row _ w.heap.size 3 _ _ (0, 0) HQ.out]; rfl
          have v4_ : (wo.setCells w.heap.size 0 [.int .i64 z1, .int .i64 z2, .int .i64 z3, .int .i64 z4, .int .i64 z5, .int .i64 z6, .bool a.neg, .string a.num, .string a.den, .bool c.neg, .string c.num, .string c.den, .slice A1 legs_.length c1_, .slice A2 opts_.length c2_]).cell? ⟨w.heap.size, 4, none⟩ = some (.int .i64 z5) := by rw [cell_of_row _ w.heap.size 4 _ _ (0, 0) HQ.out]; rfl
          have v5_ : (wo.setCells w.heap.size 0 [.int .i64 z1, .int .i64 z2, .int .i64 z3, .int .i64 z4, .int .i64 z5, .int .i64 z6, .bool a.neg, .string a.num, .string a.den, .bool c.neg, .string c.num, .string c.den, .slice A1 legs_.length c1_, .slice A2 opts_.length c2_]).cell? ⟨w.heap.size, 5, none⟩ = some (.int .i64 z6) := by rw [cell_of_row _ w.heap.size 5 _ _ (0, 0) HQ.out]; rfl
          have v6_ : (wo.setCells w.heap.size 0 [.int .i64 z1, .int .i64 z2, .int .i64 z3, .int .i64 z4, .int .i64 z5, .int .i64 z6, .bool a.neg, .string a.num, .string a.den, .bool c.neg, .string c.num, .string c.den, .slice A1 legs_.length c1_, .slice A2 opts_.length c2_]).cell? ⟨w.heap.size, 6, none⟩ = some (.bool a.neg) := by rw [cell_of_row _ w.heap.size 6 _ _ (0, 0) HQ.out]; rfl
          have v7_ : (wo.setCells w.heap.size 0 [.int .i64 z1, .int .i64 z2, .int .i64 z3, .int .i64 z4, .int .i64 z5, .int .i64 z6, .bool a.neg, .string a.num, .string a.den, .bool c.neg, .string c.num, .string c.den, .slice A1 legs_.length c1_, .slice A2 opts_.length c2_]).cell? ⟨w.heap.size, 7, none⟩ = some (.string a.num) := by rw [cell_of_row _ w.heap.size 7 _ _ (0, 0) HQ.out]; rfl
          have v8_ : (wo.setCells w.heap.size 0 [.int .i64 z1, .int .i64 z2, .int .i64 z3, .int .i64 z4, .int .i64 z5, .int .i64 z6, .bool a.neg, .string a.num, .string a.den, .bool c.neg, .string c.num, .string c.den, .slice A1 legs_.length c1_, .slice A2 opts_.length c2_]).cell? ⟨w.heap.size, 8, none⟩ = some (.string a.den) := by rw [cell_of_row _ w.heap.size 8 _ _ (0, 0) HQ.out]; rfl
          have v9_ : (wo.setCells w.heap.size 0 [.int .i64 z1, .int .i64 z2, .int .i64 z3, .int .i64 z4, .int .i64 z5, .int .i64 z6, .bool a.neg, .string a.num, .string a.den, .bool c.neg, .string c.num, .string c.den, .slice A1 legs_.length c1_, .slice A2 opts_.length c2_]).cell? ⟨w.heap.size, 9, none⟩ = some (.bool c.neg) := by rw [cell_of_row _ w.heap.size 9 _ _ (0, 0) HQ.out]; rfl
          have v10_ : (wo.setCells w.heap.size 0 [.int .i64 z1, .int .i64 z2, .int .i64 z3, .int .i64 z4, .int .i64 z5, .int .i64 z6, .bool a.neg, .string a.num, .string a.den, .bool c.neg, .string c.num, .string c.den, .slice A1 legs_.length c1_, .slice A2 opts_.length c2_]).cell? ⟨w.heap.size, 10, none⟩ = some (.string c.num) := by rw [cell_of_row _ w.heap.size 10 _ _ (0, 0) HQ.out]; rfl
          have v11_ : (wo.setCells w.heap.size 0 [.int .i64 z1, .int .i64 z2, .int .i64 z3, .int .i64 z4, .int .i64 z5, .int .i64 z6, .bool a.neg, .string a.num, .string a.den, .bool c.neg, .string c.num, .string c.den, .slice A1 legs_.length c1_, .slice A2 opts_.length c2_]).cell? ⟨w.heap.size, 11, none⟩ = some (.string c.den) := by rw [cell_of_row _ w.heap.size 11 _ _ (0, 0) HQ.out]; rfl
          have v12_ : (wo.setCells w.heap.size 0 [.int .i64 z1, .int .i64 z2, .int .i64 z3, .int .i64 z4, .int .i64 z5, .int .i64 z6, .bool a.neg, .string a.num, .string a.den, .bool c.neg, .string c.num, .string c.den, .slice A1 legs_.length c1_, .slice A2 opts_.length c2_]).cell? ⟨w.heap.size, 12, none⟩ = some (.slice A1 legs_.length c1_) := by rw [cell_of_row _ w.heap.size 12 _ _ (0, 0) HQ.out]; rfl
          have v13_ : (wo.setCells w.heap.size 0 [.int .i64 z1, .int .i64 z2, .int .i64 z3, .int .i64 z4, .int .i64 z5, .int .i64 z6, .bool a.neg, .string a.num, .string a.den, .bool c.neg, .string c.num, .string c.den, .slice A1 legs_.length c1_, .slice A2 opts_.length c2_]).cell? ⟨w.heap.size, 13, none⟩ = some (.slice A2 opts_.length c2_) := by rw [cell_of_row _ w.heap.size 13 _ _ (0, 0) HQ.out]; rfl
          refine bodyPost_ret (v := .agg #[.int .i64 z1, .int .i64 z2, .int .i64 z3, .int .i64 z4, .int .i64 z5, .int .i64 z6, .bool a.neg, .string a.num, .string a.den, .bool c.neg, .string c.num, .string c.den, .slice A1 legs_.length c1_, .slice A2 opts_.length c2_]) (by simp [results, Tryd.results28, go_sem, v0_, v1_, v2_, v3_, v4_, v5_, v6_, v7_, v8_, v9_, v10_, v11_, v12_, v13_]) rfl ?_
          rw [HP.out]
          exact ⟨B, A1, c1_, A2, c2_, rfl, HBB.out.1, HL1.out, HL2.out, HDn.out, HOn.out, HBB.out.2⟩

end Go.Proofs.YtcljkdjmmolfoaaDoor

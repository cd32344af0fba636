/- marshal.build. -/
import Derived.Test.YtjlicnhkemfmiaaGreatDoorM20
set_option linter.unusedVariables false
set_option linter.unusedSimpArgs false
namespace Go.Proofs.YtjlicnhkemfmiaaGreatDoor
open Go.RowKit

theorem Tryz.info_uintM : (Tryz.prog.info? 108).map (fun i => (i.zero, i.size, i.bytes)) = some (some (.int .u64 0), 1, 8) := by kernel_rfl
theorem make_uints (n : Nat) (hn : n ≤ 1000) (W : World) : (Instr.makeSlice 86 (.int .i64 (n : Int)) (.int .i64 (n : Int))).run Tryz.prog W = .ok (.slice (some ⟨W.heap.size, 0, none⟩) n n) (W.alloc (.cells (madeCells #[.int .u64 0] n) 108)) := by
  obtain ⟨i, hi, hz, hs, hb⟩ := info_parts Tryz.info_uintM
  have := run_make (P := Tryz.prog) W 86 108 i _ Tryz.underlying86 hi hz .i64 .i64 n n (by omega) (Int.le_refl _) (by rw [hb]; omega) (by omega)
  simp only [Int.toNat_natCast, hs, Nat.mul_one] at this
  exact this
theorem KRow.grownT {k : IntKind} {T E : TypeId} {W W' : World} {g B n S : Nat} {xs : List Nat} {v : Value} {ys : List Value} (h : KRow k T W g xs) (ho : W.ownsRow B E S v n ys) (hT : T ≠ E) (hgr : W.grownBy W' v.ownBlock) : KRow k T W' g xs := by
  obtain ⟨cur, hg, r⟩ := h
  exact ⟨cur, blk_grownT ho hg hT hgr, r⟩
theorem own_new {W : World} {B S n : Nat} {E : TypeId} {v : Value} {xs : List Value} (h : W.ownsRow B E S v n xs) {g : Nat} (hg : g = W.heap.size) : some g ≠ v.ownBlock := by
  intro e
  have := (h.lt g e.symm).2
  omega
theorem own_onlyB {B n S : Nat} {v : Value} {xs : List Value} {W W' : World} {T : TypeId} (h : W.ownsRow B T S v n xs) {g : Nat} (ho : Only g W W') {cur : Array Value} {T1 : TypeId} {f : Nat × Nat} (hg : W.heap[g]? = some (.cells cur T1 f)) (hT : T1 ≠ T) : W'.ownsRow B T S v n xs := own_onlyT h ho hg hT
theorem KRow.onlyB {k : IntKind} {T T1 : TypeId} {W W' : World} {g q : Nat} {xs : List Nat} (h : KRow k T W g xs) (ho : Only q W W') {cur : Array Value} {f : Nat × Nat} (hg : W.heap[q]? = some (.cells cur T1 f)) (hT : T1 ≠ T) : KRow k T W' g xs := by
  obtain ⟨c2, h2, r⟩ := h
  exact ⟨c2, blk_onlyW h2 ho (blk_ne h2 hg (fun e => hT e.symm)), r⟩
def BuildPost (n m : Nat) (l : List It) (os : List Rat) (w : World) (e : Ending) (w' : World) : Prop :=
  ∃ P cp O co I ms, e = .returned (.agg #[.slice P n cp, .slice O m co, .slice (some ⟨I, 0, none⟩) m m]) ∧ NetM w'.heap.size P O I (l.map procQ) os ms w' ∧ ms.length = m ∧ (∀ x ∈ ms, x < 2 ^ n) ∧ Below w.heap.size w w'
set_option maxHeartbeats 8000000 in
set_option maxRecDepth 100000 in
theorem build_calls (A B : Option Addr) (n c m cb : Nat) (l : List It) (os : List Rat) (w : World) (hn : n = l.length) (h4 : n ≤ 4) (hM : ItemsM A l w) (hok : ∀ x ∈ l, ItOk m x) (hm : m = os.length) (h24 : m ≤ 24) (hro : Rd w w.heap.size 3 B os.length (os.flatMap rtV)) (hso : ∀ q ∈ os, SzN q) :
    Calls Tryz.prog 28 #[.slice A n c, .slice B m cb] w (BuildPost n m l os w) := by
  have hmk := make_uints m (by omega)
  have HMK := Lib.hid hmk
  have HRL := Lib.hid (And.intro hn (And.intro hM (And.intro hok (And.intro hm (And.intro hro hso)))))
  have hn4 : n ≤ 4 := h4
  have hm24 : m ≤ 24 := h24
  obtain ⟨iq, hi, hz0, hz1, hz2⟩ := info_parts Tryz.info_ratW
  have HIQ := Lib.hid (And.intro hi (And.intro hz0 (And.intro hz1 hz2)))
  have HAD := Lib.hid (fun (q : Rat) (hq : SzN q) W => pAddQ_calls q 0 8 8 W hq.1 sz_zero (by decide) (by decide) (by decide))
  have HPC := Lib.hid (fun (x : It) (hx : ItOk m x) W => proc_calls x.price x.costs x.A x.c x.chs W hx.price hx.costs)
  clear hmk hn hM hok hm hro hso h4 h24 hi hz0 hz1 hz2
  go_enter Tryz.func28, Tryz.ntmps28
  have hmk := HMK.out (w.alloc (.cells #[.slice none 0 0, .slice none 0 0, .slice none 0 0] 88))
  rw [World.size_alloc] at hmk
  go_wp2_with fail
  clear hmk
  obtain ⟨gz, hgz⟩ : ∃ g, g = w.heap.size := ⟨_, rfl⟩
  obtain ⟨I, hI⟩ : ∃ g, g = w.heap.size + 1 := ⟨_, rfl⟩
  obtain ⟨gn, hgn⟩ : ∃ g, g = w.heap.size + 1 + 1 := ⟨_, rfl⟩
  (try rw [← hgn])
  (try rw [← hI])
  (try rw [← hgz])
  obtain ⟨w0, hw0⟩ : ∃ W, W = ((w.alloc (.cells #[.slice none 0 0, .slice none 0 0, .slice none 0 0] 88)).alloc (.cells (madeCells #[.int .u64 0] m) 108)).alloc (.cells #[.slice none 0 0, .slice none 0 0, .slice (some ⟨I, 0, none⟩) m m] 88) := ⟨_, rfl⟩
  have HZ0 : Hid (Bk gz (.cells #[.slice none 0 0, .slice none 0 0, .slice none 0 0] 88) w0) := by rw [hw0, hgz]; exact blk_alloc (blk_alloc (blk_new _ _))
  have HI0 : Hid (KRow .u64 108 w0 I (List.replicate m 0)) := by rw [hw0]; exact (KRow.made _ m I (by rw [hI, World.size_alloc])).alloc _
  have HN0 : Hid (Bk gn (.cells #[.slice none 0 0, .slice none 0 0, .slice (some ⟨I, 0, none⟩) m m] 88) w0) := by rw [hw0, hgn]; exact blk_new2 _ _ _ _
  have HB0 : Hid (Below w.heap.size w w0) := by rw [hw0]; exact ((bel_alloc _ _).alloc (by simp) _).alloc (by simp <;> omega) _
  have HL_0 : Hid (w.heap.size ≤ gz ∧ gz < I ∧ I < gn) := by rw [hgz, hI, hgn]; exact ⟨by omega, by omega, by omega⟩
  rw [← hw0]
  clear hw0 hgz hI hgn HMK
  go_loopw [18] (fun i wr => ∃ (k : Nat) (O : Option Addr) (co : Nat), k ≤ m ∧ i = .int .i64 (k : Int) ∧ Hid (Bk gn (.cells #[.slice none 0 0, .slice O k co, .slice (some ⟨I, 0, none⟩) m m] 88) wr) ∧ Hid (wr.ownsRow w.heap.size 33 3 (.slice O k co) k ((os.take k).flatMap rtV)) ∧ Hid (KRow .u64 108 wr I (List.replicate m 0)) ∧ Hid (Bk gz (.cells #[.slice none 0 0, .slice none 0 0, .slice none 0 0] 88) wr) ∧ Hid (Below w.heap.size w wr)) (fun i _ => m - (intOf i).toNat)
  case atStart => exact ⟨0, none, 0, Nat.zero_le _, rfl, HN0, World.ownsRow_nil _ _ _ _, HI0, HZ0, HB0⟩
  case round =>
    clear HN0 HI0 HZ0 HB0
    obtain ⟨k, O, co, hk, rfl, HN, HO, HI, HZ, HB⟩ := hrel
    rename World => wo
    by_cases hlt : k < m
    · have hlt2 : (k : Int) < (m : Int) := by omega
      obtain ⟨q, hq⟩ := getElem?_of_lt (l := os) (k := k) (by rw [← HRL.out.2.2.2.1]; exact hlt)
      have hA' := HAD.out q (HRL.out.2.2.2.2.2 q (List.mem_of_getElem? hq))
      rw [Rat.add_zero, ratV_zero] at hA'
      obtain ⟨b, off, hA, _, hc⟩ := Rd.at_ (enc := rtV) rtV_len (HRL.out.2.2.2.2.1.next HB.out) hq
      have HX := Lib.hid (And.intro hq hA)
      subst hA
      have p0 := hc 0 _ rfl
      have p1 := hc 1 _ rfl
      have p2 := hc 2 _ rfl
      rw [Nat.add_zero] at p0
      rw [← Nat.add_assoc] at p1 p2
      unfold ratV at hA'
      have HA := Lib.hid hA'
      clear hc hq hA'
      go_upto_region 5 with fail
      clear p0 p1 p2
      obtain ⟨gx, hg_gx⟩ : ∃ g, g = wo.heap.size := ⟨_, rfl⟩
      obtain ⟨x1, hw_x1⟩ : ∃ W, W = wo.alloc (.cells #[.bool (rneg q), .string (rnum q), .string (rden q)] 33) := ⟨_, rfl⟩
      have HL_gx := Lib.hid (And.intro (by have := blk_lt HN.out; omega : gn < gx) (And.intro (by have := blk_lt HZ.out; omega : gz < gx) ((by have := HB.out.size; omega : w.heap.size ≤ gx))))
      have HN1 : Hid (Bk gn (.cells #[.slice none 0 0, .slice O k co, .slice (some ⟨I, 0, none⟩) m m] 88) x1) := by rw [hw_x1]; exact blk_next HN.out (bel_alloc _ _)
      have HW1 : Hid (x1.ownsRow w.heap.size 33 3 (.slice O k co) k ((os.take k).flatMap rtV)) := by rw [hw_x1]; exact own_belowQ HO.out (bel_alloc _ _)
      have HI1 : Hid (KRow .u64 108 x1 I (List.replicate m 0)) := by rw [hw_x1]; exact HI.out.next (bel_alloc _ _)
      have HZ1 : Hid (Bk gz (.cells #[.slice none 0 0, .slice none 0 0, .slice none 0 0] 88) x1) := by rw [hw_x1]; exact blk_next HZ.out (bel_alloc _ _)
      have HB1 : Hid (Below w.heap.size w x1) := by rw [hw_x1]; exact HB.out.trans ((bel_alloc _ _).mono HB.out.size)
      have HX1 : Hid (Bk gx (.cells #[.bool (rneg q), .string (rnum q), .string (rden q)] 33) x1) := by rw [hw_x1, hg_gx]; exact blk_new _ _
      have HXN : Hid (some gx ≠ (Value.slice O k co).ownBlock) := own_new HO.out hg_gx
      rw [← hw_x1]
      (try rw [← hg_gx])
      clear hw_x1 hg_gx HN HO HI HZ HB
      obtain ⟨x2, hw_x2⟩ : ∃ W, W = x1.drew := ⟨_, rfl⟩
      have HN2 : Hid (Bk gn (.cells #[.slice none 0 0, .slice O k co, .slice (some ⟨I, 0, none⟩) m m] 88) x2) := by rw [hw_x2]; exact HN1.out
      have HW2 : Hid (x2.ownsRow w.heap.size 33 3 (.slice O k co) k ((os.take k).flatMap rtV)) := by rw [hw_x2]; exact HW1.out
      have HI2 : Hid (KRow .u64 108 x2 I (List.replicate m 0)) := by rw [hw_x2]; exact HI1.out
      have HZ2 : Hid (Bk gz (.cells #[.slice none 0 0, .slice none 0 0, .slice none 0 0] 88) x2) := by rw [hw_x2]; exact HZ1.out
      have HB2 : Hid (Below w.heap.size w x2) := by rw [hw_x2]; exact HB1.out.drew
      have HX2 : Hid (Bk gx (.cells #[.bool (rneg q), .string (rnum q), .string (rden q)] 33) x2) := by rw [hw_x2]; exact HX1.out
      have hS1 : (Bk gx (.cells #[.bool (rneg q), .string (rnum q), .string (rden q)] 33)) x2 := HX2.out
      refine wp_region_held_drew (S := (Bk gx (.cells #[.bool (rneg q), .string (rnum q), .string (rden q)] 33))) (by kernel_rfl) (by rw [← hw_x2]; exact hS1) ?_
      rw [← hw_x2]
      intro _
      clear hw_x2 HN1 HW1 HI1 HZ1 HB1 HX1
      refine wpAnyH_take (i := 0) rfl (by kernel_rfl) (by kernel_rfl) (by kernel_rfl) (fun _ _ _ h => h) (Or.inl ⟨by kernel_rfl, (by intro w' _; go_simp; with_reducible rfl)⟩) hS1 ?_
      go_simp
      refine wpAnyH_take (i := 2) (v := .agg #[.bool (rneg q), .string (rnum q), .string (rden q)]) rfl (by kernel_rfl) (by kernel_rfl) (by kernel_rfl) (fun _ _ _ h => h) (Or.inl ⟨by kernel_rfl, (by intro w' hw'; obtain ⟨k0, k1, k2, fk0, fk1, fk2, hzk⟩ := three_of hw'; go_simp)⟩) hS1 ?_
      go_simp
      refine wpAnyH_take (i := 3) rfl (by kernel_rfl) (by kernel_rfl) (by kernel_rfl) (fun _ _ _ h => h) (Or.inl ⟨by kernel_rfl, (by intro w' _; go_simp; with_reducible rfl)⟩) hS1 ?_
      go_simp
      refine wpAnyH_ready (rs := [1, 4]) (by kernel_rfl) (by simp) ?_
      refine AllReadyH.cons rfl (fun K hK => ?_) (AllReadyH.cons rfl (fun K hK => ?_) AllReadyH.nil)
      · obtain ⟨l0, l1, l2, l3, l4, l5, l6⟩ := three_of HN2.out
        go_simp
        clear l0 l1 l2 l3 l4 l5 l6
        have hS2 : (Bk gx (.cells #[.bool (rneg q), .string (rnum q), .string (rden q)] 33)) x2 := HX2.out
        refine hK.out _ _ hS2 (fun _ => ?_)
        clear hK K
        refine wpAnyH_ready (rs := [4]) (by kernel_rfl) (by simp) ?_
        refine AllReadyH.cons rfl (fun K hK => ?_) AllReadyH.nil
        go_simp
        refine (HA.out _).mono ?_
        rintro e x3 ⟨rfl, hb⟩
        have HN3 : Hid (Bk gn (.cells #[.slice none 0 0, .slice O k co, .slice (some ⟨I, 0, none⟩) m m] 88) x3) := blk_next HN2.out hb
        have HW3 : Hid (x3.ownsRow w.heap.size 33 3 (.slice O k co) k ((os.take k).flatMap rtV)) := own_belowQ HW2.out hb
        have HI3 : Hid (KRow .u64 108 x3 I (List.replicate m 0)) := HI2.out.next hb
        have HZ3 : Hid (Bk gz (.cells #[.slice none 0 0, .slice none 0 0, .slice none 0 0] 88) x3) := blk_next HZ2.out hb
        have HB3 : Hid (Below w.heap.size w x3) := HB2.out.trans (hb.mono HB2.out.size)
        have HX3 : Hid (Bk gx (.cells #[.bool (rneg q), .string (rnum q), .string (rden q)] 33) x3) := blk_next HX2.out hb
        clear hb HN2 HW2 HI2 HZ2 HB2 HX2
        have hS3 : (Bk gx (.cells #[.bool (rneg q), .string (rnum q), .string (rden q)] 33)) x3 := HX3.out
        refine hK.out _ _ hS3 (fun _ => ?_)
        clear hK K
        refine wpAnyH_ready (rs := [5]) (by kernel_rfl) (by simp) ?_
        refine AllReadyH.cons rfl (fun K hK => ?_) AllReadyH.nil
        go_simp
        obtain ⟨gp, hg_gp⟩ : ∃ g, g = x3.heap.size := ⟨_, rfl⟩
        obtain ⟨x4, hw_x4⟩ : ∃ W, W = x3.alloc (.cells #[.bool (rneg q), .string (rnum q), .string (rden q)] 33) := ⟨_, rfl⟩
        have HL_gp := Lib.hid (And.intro (by have := blk_lt HN3.out; omega : gn < gp) (And.intro (by have := blk_lt HZ3.out; omega : gz < gp) (And.intro (by have := HB3.out.size; omega : w.heap.size ≤ gp) ((by have := blk_lt HX3.out; omega : gx < gp)))))
        have HN4 : Hid (Bk gn (.cells #[.slice none 0 0, .slice O k co, .slice (some ⟨I, 0, none⟩) m m] 88) x4) := by rw [hw_x4]; exact blk_next HN3.out (bel_alloc _ _)
        have HW4 : Hid (x4.ownsRow w.heap.size 33 3 (.slice O k co) k ((os.take k).flatMap rtV)) := by rw [hw_x4]; exact own_belowQ HW3.out (bel_alloc _ _)
        have HI4 : Hid (KRow .u64 108 x4 I (List.replicate m 0)) := by rw [hw_x4]; exact HI3.out.next (bel_alloc _ _)
        have HZ4 : Hid (Bk gz (.cells #[.slice none 0 0, .slice none 0 0, .slice none 0 0] 88) x4) := by rw [hw_x4]; exact blk_next HZ3.out (bel_alloc _ _)
        have HB4 : Hid (Below w.heap.size w x4) := by rw [hw_x4]; exact HB3.out.trans ((bel_alloc _ _).mono HB3.out.size)
        have HX4 : Hid (Bk gx (.cells #[.bool (rneg q), .string (rnum q), .string (rden q)] 33) x4) := by rw [hw_x4]; exact blk_next HX3.out (bel_alloc _ _)
        have HP4 : Hid (Bk gp (.cells #[.bool (rneg q), .string (rnum q), .string (rden q)] 33) x4) := by rw [hw_x4, hg_gp]; exact blk_new _ _
        rw [← hw_x4]
        (try rw [← hg_gp])
        clear hw_x4 hg_gp HN3 HW3 HI3 HZ3 HB3 HX3
        have hS4 : (Bk gx (.cells #[.bool (rneg q), .string (rnum q), .string (rden q)] 33)) x4 := HX4.out
        refine hK.out _ _ hS4 (fun _ => ?_)
        clear hK K
        refine wpAnyH_ready (rs := [6]) (by kernel_rfl) (by simp) ?_
        refine AllReadyH.cons rfl (fun K hK => ?_) AllReadyH.nil
        refine step_append_lies _ rfl (.tmp 23) (.tmp 27) 25 rfl w.heap.size 33 iq _ 3 40 Tryz.underlying25 HIQ.out.1 HIQ.out.2.1 HIQ.out.2.2.1 HIQ.out.2.2.2 rfl (by decide) (.slice O k co) k ((os.take k).flatMap rtV) (by simp [Act.eval, Act.put]) HW4.out ⟨gp, 0, none⟩ 1 1 (rtV q) (by simp [Act.eval, Act.put]) rfl (World.news_of_block HP4.out) (by simp [Value.oneCell', rtV]) (by decide) (by simp only [maxLen]; omega) (by omega) HB4.out.size _ rfl ?_
        intro g' cap wp hown hgr hor hlt3
        have HNp : Hid (Bk gn (.cells #[.slice none 0 0, .slice O k co, .slice (some ⟨I, 0, none⟩) m m] 88) wp) := blk_grownT HW4.out HN4.out (by decide) hgr
        have HZp : Hid (Bk gz (.cells #[.slice none 0 0, .slice none 0 0, .slice none 0 0] 88) wp) := blk_grownT HW4.out HZ4.out (by decide) hgr
        have HIp : Hid (KRow .u64 108 wp I (List.replicate m 0)) := HI4.out.grownT HW4.out (by decide) hgr
        have HXp : Hid (Bk gx (.cells #[.bool (rneg q), .string (rnum q), .string (rden q)] 33) wp) := (hgr.block gx (blk_lt HX4.out) HXN.out).trans HX4.out
        have HBp : Hid (Below w.heap.size w wp) := HB4.out.grown hgr HB4.out.size (fun j hj => (HW4.out.lt j hj).1)
        have HWp : Hid (wp.ownsRow w.heap.size 33 3 (.slice (some ⟨g', 0, none⟩) (k + 1) cap) (k + 1) ((os.take (k + 1)).flatMap rtV)) := by
          have e : (os.take (k + 1)).flatMap rtV = (os.take k).flatMap rtV ++ rtV q := by rw [List.take_add_one, HX.out.1]; simp
          rw [e]
          exact hown
        clear hown hgr hor hlt3 HN4 HW4 HI4 HZ4 HB4 HX4 HP4
        have hS97 : (Bk gx (.cells #[.bool (rneg q), .string (rnum q), .string (rden q)] 33)) wp := HXp.out
        refine hK.out _ _ hS97 (fun _ => ?_)
        clear hK K
        refine wpAnyH_take (i := 7) rfl (by kernel_rfl) (by kernel_rfl) (by kernel_rfl) (fun _ _ _ h => h) (Or.inl ⟨by kernel_rfl, (by intro w' _; go_simp; with_reducible rfl)⟩) hS97 ?_
        go_simp
        refine wpAnyH_ready (rs := [8]) (by kernel_rfl) (by simp) ?_
        refine AllReadyH.cons rfl (fun K hK => ?_) AllReadyH.nil
        obtain ⟨l0, l1, l2, l3, l4, l5, l6⟩ := three_of HNp.out
        go_simp
        clear l0 l1 l2 l3 l4 l5 l6
        obtain ⟨wz, hwz⟩ : ∃ W, W = wp.setCell ⟨gn, 1, none⟩ (.slice (some ⟨g', 0, none⟩) (k + 1) cap) := ⟨_, rfl⟩
        have ho : Only gn wp wz := by rw [hwz]; exact (Only.refl _ _).setC _ _
        have HNz : Hid (Bk gn (.cells #[.slice none 0 0, .slice (some ⟨g', 0, none⟩) (k + 1) cap, .slice (some ⟨I, 0, none⟩) m m] 88) wz) := by rw [hwz]; exact heap_setCell_same _ gn 1 _ _ _ HNp.out
        have HWz : Hid (wz.ownsRow w.heap.size 33 3 (.slice (some ⟨g', 0, none⟩) (k + 1) cap) (k + 1) ((os.take (k + 1)).flatMap rtV)) := own_onlyB HWp.out ho HNp.out (by decide)
        have HIz : Hid (KRow .u64 108 wz I (List.replicate m 0)) := HIp.out.onlyB ho HNp.out (by decide)
        have HZz : Hid (Bk gz (.cells #[.slice none 0 0, .slice none 0 0, .slice none 0 0] 88) wz) := blk_onlyW HZp.out ho (by have := HL_0.out; omega)
        have HXz : Hid (Bk gx (.cells #[.bool (rneg q), .string (rnum q), .string (rden q)] 33) wz) := blk_onlyW HXp.out ho (by have := HL_gx.out; omega)
        have HBz : Hid (Below w.heap.size w wz) := HBp.out.trans (ho.at_ _ HBp.out.size (by have := HL_0.out; omega))
        rw [← hwz]
        clear hwz ho HNp HWp HIp HZp HXp HBp
        have hS98 : (Bk gx (.cells #[.bool (rneg q), .string (rnum q), .string (rden q)] 33)) wz := HXz.out
        refine hK.out _ _ hS98 (fun _ => ?_)
        clear hK K
        refine wpAnyH_done (by kernel_rfl) ?_ _
        (try go_wp2_with fail)
        go_roundw
        case measure => simp [intOf] <;> omega
        case rel => exact ⟨k + 1, _, _, by omega, by go_num, HNz, HWz, HIz, HZz, HBz⟩
      · go_simp
        refine (HA.out _).mono ?_
        rintro e x3 ⟨rfl, hb⟩
        have HN3 : Hid (Bk gn (.cells #[.slice none 0 0, .slice O k co, .slice (some ⟨I, 0, none⟩) m m] 88) x3) := blk_next HN2.out hb
        have HW3 : Hid (x3.ownsRow w.heap.size 33 3 (.slice O k co) k ((os.take k).flatMap rtV)) := own_belowQ HW2.out hb
        have HI3 : Hid (KRow .u64 108 x3 I (List.replicate m 0)) := HI2.out.next hb
        have HZ3 : Hid (Bk gz (.cells #[.slice none 0 0, .slice none 0 0, .slice none 0 0] 88) x3) := blk_next HZ2.out hb
        have HB3 : Hid (Below w.heap.size w x3) := HB2.out.trans (hb.mono HB2.out.size)
        have HX3 : Hid (Bk gx (.cells #[.bool (rneg q), .string (rnum q), .string (rden q)] 33) x3) := blk_next HX2.out hb
        clear hb HN2 HW2 HI2 HZ2 HB2 HX2
        have hS2 : (Bk gx (.cells #[.bool (rneg q), .string (rnum q), .string (rden q)] 33)) x3 := HX3.out
        refine hK.out _ _ hS2 (fun _ => ?_)
        clear hK K
        refine wpAnyH_ready (rs := [1, 5]) (by kernel_rfl) (by simp) ?_
        refine AllReadyH.cons rfl (fun K hK => ?_) (AllReadyH.cons rfl (fun K hK => ?_) AllReadyH.nil)
        · obtain ⟨l0, l1, l2, l3, l4, l5, l6⟩ := three_of HN3.out
          go_simp
          clear l0 l1 l2 l3 l4 l5 l6
          have hS3 : (Bk gx (.cells #[.bool (rneg q), .string (rnum q), .string (rden q)] 33)) x3 := HX3.out
          refine hK.out _ _ hS3 (fun _ => ?_)
          clear hK K
          refine wpAnyH_ready (rs := [5]) (by kernel_rfl) (by simp) ?_
          refine AllReadyH.cons rfl (fun K hK => ?_) AllReadyH.nil
          go_simp
          obtain ⟨gp, hg_gp⟩ : ∃ g, g = x3.heap.size := ⟨_, rfl⟩
          obtain ⟨x4, hw_x4⟩ : ∃ W, W = x3.alloc (.cells #[.bool (rneg q), .string (rnum q), .string (rden q)] 33) := ⟨_, rfl⟩
          have HL_gp := Lib.hid (And.intro (by have := blk_lt HN3.out; omega : gn < gp) (And.intro (by have := blk_lt HZ3.out; omega : gz < gp) (And.intro (by have := HB3.out.size; omega : w.heap.size ≤ gp) ((by have := blk_lt HX3.out; omega : gx < gp)))))
          have HN4 : Hid (Bk gn (.cells #[.slice none 0 0, .slice O k co, .slice (some ⟨I, 0, none⟩) m m] 88) x4) := by rw [hw_x4]; exact blk_next HN3.out (bel_alloc _ _)
          have HW4 : Hid (x4.ownsRow w.heap.size 33 3 (.slice O k co) k ((os.take k).flatMap rtV)) := by rw [hw_x4]; exact own_belowQ HW3.out (bel_alloc _ _)
          have HI4 : Hid (KRow .u64 108 x4 I (List.replicate m 0)) := by rw [hw_x4]; exact HI3.out.next (bel_alloc _ _)
          have HZ4 : Hid (Bk gz (.cells #[.slice none 0 0, .slice none 0 0, .slice none 0 0] 88) x4) := by rw [hw_x4]; exact blk_next HZ3.out (bel_alloc _ _)
          have HB4 : Hid (Below w.heap.size w x4) := by rw [hw_x4]; exact HB3.out.trans ((bel_alloc _ _).mono HB3.out.size)
          have HX4 : Hid (Bk gx (.cells #[.bool (rneg q), .string (rnum q), .string (rden q)] 33) x4) := by rw [hw_x4]; exact blk_next HX3.out (bel_alloc _ _)
          have HP4 : Hid (Bk gp (.cells #[.bool (rneg q), .string (rnum q), .string (rden q)] 33) x4) := by rw [hw_x4, hg_gp]; exact blk_new _ _
          rw [← hw_x4]
          (try rw [← hg_gp])
          clear hw_x4 hg_gp HN3 HW3 HI3 HZ3 HB3 HX3
          have hS4 : (Bk gx (.cells #[.bool (rneg q), .string (rnum q), .string (rden q)] 33)) x4 := HX4.out
          refine hK.out _ _ hS4 (fun _ => ?_)
          clear hK K
          refine wpAnyH_ready (rs := [6]) (by kernel_rfl) (by simp) ?_
          refine AllReadyH.cons rfl (fun K hK => ?_) AllReadyH.nil
          refine step_append_lies _ rfl (.tmp 23) (.tmp 27) 25 rfl w.heap.size 33 iq _ 3 40 Tryz.underlying25 HIQ.out.1 HIQ.out.2.1 HIQ.out.2.2.1 HIQ.out.2.2.2 rfl (by decide) (.slice O k co) k ((os.take k).flatMap rtV) (by simp [Act.eval, Act.put]) HW4.out ⟨gp, 0, none⟩ 1 1 (rtV q) (by simp [Act.eval, Act.put]) rfl (World.news_of_block HP4.out) (by simp [Value.oneCell', rtV]) (by decide) (by simp only [maxLen]; omega) (by omega) HB4.out.size _ rfl ?_
          intro g' cap wp hown hgr hor hlt3
          have HNp : Hid (Bk gn (.cells #[.slice none 0 0, .slice O k co, .slice (some ⟨I, 0, none⟩) m m] 88) wp) := blk_grownT HW4.out HN4.out (by decide) hgr
          have HZp : Hid (Bk gz (.cells #[.slice none 0 0, .slice none 0 0, .slice none 0 0] 88) wp) := blk_grownT HW4.out HZ4.out (by decide) hgr
          have HIp : Hid (KRow .u64 108 wp I (List.replicate m 0)) := HI4.out.grownT HW4.out (by decide) hgr
          have HXp : Hid (Bk gx (.cells #[.bool (rneg q), .string (rnum q), .string (rden q)] 33) wp) := (hgr.block gx (blk_lt HX4.out) HXN.out).trans HX4.out
          have HBp : Hid (Below w.heap.size w wp) := HB4.out.grown hgr HB4.out.size (fun j hj => (HW4.out.lt j hj).1)
          have HWp : Hid (wp.ownsRow w.heap.size 33 3 (.slice (some ⟨g', 0, none⟩) (k + 1) cap) (k + 1) ((os.take (k + 1)).flatMap rtV)) := by
            have e : (os.take (k + 1)).flatMap rtV = (os.take k).flatMap rtV ++ rtV q := by rw [List.take_add_one, HX.out.1]; simp
            rw [e]
            exact hown
          clear hown hgr hor hlt3 HN4 HW4 HI4 HZ4 HB4 HX4 HP4
          have hS97 : (Bk gx (.cells #[.bool (rneg q), .string (rnum q), .string (rden q)] 33)) wp := HXp.out
          refine hK.out _ _ hS97 (fun _ => ?_)
          clear hK K
          refine wpAnyH_take (i := 7) rfl (by kernel_rfl) (by kernel_rfl) (by kernel_rfl) (fun _ _ _ h => h) (Or.inl ⟨by kernel_rfl, (by intro w' _; go_simp; with_reducible rfl)⟩) hS97 ?_
          go_simp
          refine wpAnyH_ready (rs := [8]) (by kernel_rfl) (by simp) ?_
          refine AllReadyH.cons rfl (fun K hK => ?_) AllReadyH.nil
          obtain ⟨l0, l1, l2, l3, l4, l5, l6⟩ := three_of HNp.out
          go_simp
          clear l0 l1 l2 l3 l4 l5 l6
          obtain ⟨wz, hwz⟩ : ∃ W, W = wp.setCell ⟨gn, 1, none⟩ (.slice (some ⟨g', 0, none⟩) (k + 1) cap) := ⟨_, rfl⟩
          have ho : Only gn wp wz := by rw [hwz]; exact (Only.refl _ _).setC _ _
          have HNz : Hid (Bk gn (.cells #[.slice none 0 0, .slice (some ⟨g', 0, none⟩) (k + 1) cap, .slice (some ⟨I, 0, none⟩) m m] 88) wz) := by rw [hwz]; exact heap_setCell_same _ gn 1 _ _ _ HNp.out
          have HWz : Hid (wz.ownsRow w.heap.size 33 3 (.slice (some ⟨g', 0, none⟩) (k + 1) cap) (k + 1) ((os.take (k + 1)).flatMap rtV)) := own_onlyB HWp.out ho HNp.out (by decide)
          have HIz : Hid (KRow .u64 108 wz I (List.replicate m 0)) := HIp.out.onlyB ho HNp.out (by decide)
          have HZz : Hid (Bk gz (.cells #[.slice none 0 0, .slice none 0 0, .slice none 0 0] 88) wz) := blk_onlyW HZp.out ho (by have := HL_0.out; omega)
          have HXz : Hid (Bk gx (.cells #[.bool (rneg q), .string (rnum q), .string (rden q)] 33) wz) := blk_onlyW HXp.out ho (by have := HL_gx.out; omega)
          have HBz : Hid (Below w.heap.size w wz) := HBp.out.trans (ho.at_ _ HBp.out.size (by have := HL_0.out; omega))
          rw [← hwz]
          clear hwz ho HNp HWp HIp HZp HXp HBp
          have hS98 : (Bk gx (.cells #[.bool (rneg q), .string (rnum q), .string (rden q)] 33)) wz := HXz.out
          refine hK.out _ _ hS98 (fun _ => ?_)
          clear hK K
          refine wpAnyH_done (by kernel_rfl) ?_ _
          (try go_wp2_with fail)
          go_roundw
          case measure => simp [intOf] <;> omega
          case rel => exact ⟨k + 1, _, _, by omega, by go_num, HNz, HWz, HIz, HZz, HBz⟩
        · go_simp
          obtain ⟨gp, hg_gp⟩ : ∃ g, g = x3.heap.size := ⟨_, rfl⟩
          obtain ⟨x4, hw_x4⟩ : ∃ W, W = x3.alloc (.cells #[.bool (rneg q), .string (rnum q), .string (rden q)] 33) := ⟨_, rfl⟩
          have HL_gp := Lib.hid (And.intro (by have := blk_lt HN3.out; omega : gn < gp) (And.intro (by have := blk_lt HZ3.out; omega : gz < gp) (And.intro (by have := HB3.out.size; omega : w.heap.size ≤ gp) ((by have := blk_lt HX3.out; omega : gx < gp)))))
          have HN4 : Hid (Bk gn (.cells #[.slice none 0 0, .slice O k co, .slice (some ⟨I, 0, none⟩) m m] 88) x4) := by rw [hw_x4]; exact blk_next HN3.out (bel_alloc _ _)
          have HW4 : Hid (x4.ownsRow w.heap.size 33 3 (.slice O k co) k ((os.take k).flatMap rtV)) := by rw [hw_x4]; exact own_belowQ HW3.out (bel_alloc _ _)
          have HI4 : Hid (KRow .u64 108 x4 I (List.replicate m 0)) := by rw [hw_x4]; exact HI3.out.next (bel_alloc _ _)
          have HZ4 : Hid (Bk gz (.cells #[.slice none 0 0, .slice none 0 0, .slice none 0 0] 88) x4) := by rw [hw_x4]; exact blk_next HZ3.out (bel_alloc _ _)
          have HB4 : Hid (Below w.heap.size w x4) := by rw [hw_x4]; exact HB3.out.trans ((bel_alloc _ _).mono HB3.out.size)
          have HX4 : Hid (Bk gx (.cells #[.bool (rneg q), .string (rnum q), .string (rden q)] 33) x4) := by rw [hw_x4]; exact blk_next HX3.out (bel_alloc _ _)
          have HP4 : Hid (Bk gp (.cells #[.bool (rneg q), .string (rnum q), .string (rden q)] 33) x4) := by rw [hw_x4, hg_gp]; exact blk_new _ _
          rw [← hw_x4]
          (try rw [← hg_gp])
          clear hw_x4 hg_gp HN3 HW3 HI3 HZ3 HB3 HX3
          have hS3 : (Bk gx (.cells #[.bool (rneg q), .string (rnum q), .string (rden q)] 33)) x4 := HX4.out
          refine hK.out _ _ hS3 (fun _ => ?_)
          clear hK K
          refine wpAnyH_ready (rs := [1]) (by kernel_rfl) (by simp) ?_
          refine AllReadyH.cons rfl (fun K hK => ?_) AllReadyH.nil
          obtain ⟨l0, l1, l2, l3, l4, l5, l6⟩ := three_of HN4.out
          go_simp
          clear l0 l1 l2 l3 l4 l5 l6
          have hS4 : (Bk gx (.cells #[.bool (rneg q), .string (rnum q), .string (rden q)] 33)) x4 := HX4.out
          refine hK.out _ _ hS4 (fun _ => ?_)
          clear hK K
          refine wpAnyH_ready (rs := [6]) (by kernel_rfl) (by simp) ?_
          refine AllReadyH.cons rfl (fun K hK => ?_) AllReadyH.nil
          refine step_append_lies _ rfl (.tmp 23) (.tmp 27) 25 rfl w.heap.size 33 iq _ 3 40 Tryz.underlying25 HIQ.out.1 HIQ.out.2.1 HIQ.out.2.2.1 HIQ.out.2.2.2 rfl (by decide) (.slice O k co) k ((os.take k).flatMap rtV) (by simp [Act.eval, Act.put]) HW4.out ⟨gp, 0, none⟩ 1 1 (rtV q) (by simp [Act.eval, Act.put]) rfl (World.news_of_block HP4.out) (by simp [Value.oneCell', rtV]) (by decide) (by simp only [maxLen]; omega) (by omega) HB4.out.size _ rfl ?_
          intro g' cap wp hown hgr hor hlt3
          have HNp : Hid (Bk gn (.cells #[.slice none 0 0, .slice O k co, .slice (some ⟨I, 0, none⟩) m m] 88) wp) := blk_grownT HW4.out HN4.out (by decide) hgr
          have HZp : Hid (Bk gz (.cells #[.slice none 0 0, .slice none 0 0, .slice none 0 0] 88) wp) := blk_grownT HW4.out HZ4.out (by decide) hgr
          have HIp : Hid (KRow .u64 108 wp I (List.replicate m 0)) := HI4.out.grownT HW4.out (by decide) hgr
          have HXp : Hid (Bk gx (.cells #[.bool (rneg q), .string (rnum q), .string (rden q)] 33) wp) := (hgr.block gx (blk_lt HX4.out) HXN.out).trans HX4.out
          have HBp : Hid (Below w.heap.size w wp) := HB4.out.grown hgr HB4.out.size (fun j hj => (HW4.out.lt j hj).1)
          have HWp : Hid (wp.ownsRow w.heap.size 33 3 (.slice (some ⟨g', 0, none⟩) (k + 1) cap) (k + 1) ((os.take (k + 1)).flatMap rtV)) := by
            have e : (os.take (k + 1)).flatMap rtV = (os.take k).flatMap rtV ++ rtV q := by rw [List.take_add_one, HX.out.1]; simp
            rw [e]
            exact hown
          clear hown hgr hor hlt3 HN4 HW4 HI4 HZ4 HB4 HX4 HP4
          have hS97 : (Bk gx (.cells #[.bool (rneg q), .string (rnum q), .string (rden q)] 33)) wp := HXp.out
          refine hK.out _ _ hS97 (fun _ => ?_)
          clear hK K
          refine wpAnyH_take (i := 7) rfl (by kernel_rfl) (by kernel_rfl) (by kernel_rfl) (fun _ _ _ h => h) (Or.inl ⟨by kernel_rfl, (by intro w' _; go_simp; with_reducible rfl)⟩) hS97 ?_
          go_simp
          refine wpAnyH_ready (rs := [8]) (by kernel_rfl) (by simp) ?_
          refine AllReadyH.cons rfl (fun K hK => ?_) AllReadyH.nil
          obtain ⟨l0, l1, l2, l3, l4, l5, l6⟩ := three_of HNp.out
          go_simp
          clear l0 l1 l2 l3 l4 l5 l6
          obtain ⟨wz, hwz⟩ : ∃ W, W = wp.setCell ⟨gn, 1, none⟩ (.slice (some ⟨g', 0, none⟩) (k + 1) cap) := ⟨_, rfl⟩
          have ho : Only gn wp wz := by rw [hwz]; exact (Only.refl _ _).setC _ _
          have HNz : Hid (Bk gn (.cells #[.slice none 0 0, .slice (some ⟨g', 0, none⟩) (k + 1) cap, .slice (some ⟨I, 0, none⟩) m m] 88) wz) := by rw [hwz]; exact heap_setCell_same _ gn 1 _ _ _ HNp.out
          have HWz : Hid (wz.ownsRow w.heap.size 33 3 (.slice (some ⟨g', 0, none⟩) (k + 1) cap) (k + 1) ((os.take (k + 1)).flatMap rtV)) := own_onlyB HWp.out ho HNp.out (by decide)
          have HIz : Hid (KRow .u64 108 wz I (List.replicate m 0)) := HIp.out.onlyB ho HNp.out (by decide)
          have HZz : Hid (Bk gz (.cells #[.slice none 0 0, .slice none 0 0, .slice none 0 0] 88) wz) := blk_onlyW HZp.out ho (by have := HL_0.out; omega)
          have HXz : Hid (Bk gx (.cells #[.bool (rneg q), .string (rnum q), .string (rden q)] 33) wz) := blk_onlyW HXp.out ho (by have := HL_gx.out; omega)
          have HBz : Hid (Below w.heap.size w wz) := HBp.out.trans (ho.at_ _ HBp.out.size (by have := HL_0.out; omega))
          rw [← hwz]
          clear hwz ho HNp HWp HIp HZp HXp HBp
          have hS98 : (Bk gx (.cells #[.bool (rneg q), .string (rnum q), .string (rden q)] 33)) wz := HXz.out
          refine hK.out _ _ hS98 (fun _ => ?_)
          clear hK K
          refine wpAnyH_done (by kernel_rfl) ?_ _
          (try go_wp2_with fail)
          go_roundw
          case measure => simp [intOf] <;> omega
          case rel => exact ⟨k + 1, _, _, by omega, by go_num, HNz, HWz, HIz, HZz, HBz⟩
    · have hlt2 : ¬ (k : Int) < (m : Int) := by omega
      have hkm : k = m := by omega
      have HWm : Hid (wo.ownsRow w.heap.size 33 3 (.slice O m co) m ((os).flatMap rtV)) := by
        have h1 := HO.out
        rw [hkm, List.take_of_length_le (by have := HRL.out.2.2.2.1; omega)] at h1
        exact h1
      have HNm : Hid (Bk gn (.cells #[.slice none 0 0, .slice O m co, .slice (some ⟨I, 0, none⟩) m m] 88) wo) := by
        have h1 := HN.out
        rw [hkm] at h1
        exact h1
      clear HO HN hkm
      go_wp2_with fail
      go_loopw [33] (fun i wr => ∃ (k : Nat) (P : Option Addr) (cp : Nat) (ms : List Nat), k ≤ n ∧ i = .int .i64 (k : Int) ∧ Hid (Bk gn (.cells #[.slice P k cp, .slice O m co, .slice (some ⟨I, 0, none⟩) m m] 88) wr) ∧ Hid (wr.ownsRow w.heap.size 33 3 (.slice P k cp) k (((l.take k).map procQ).flatMap rtV)) ∧ Hid (wr.ownsRow w.heap.size 33 3 (.slice O m co) m ((os).flatMap rtV)) ∧ Hid (ms.length = m ∧ ∀ x ∈ ms, x < 2 ^ k) ∧ Hid (KRow .u64 108 wr I ms) ∧ Hid (Bk gz (.cells #[.slice none 0 0, .slice none 0 0, .slice none 0 0] 88) wr) ∧ Hid (Below w.heap.size w wr) ∧ Hid (∀ g, (Value.slice O m co).ownBlock = some g → (Value.slice P k cp).ownBlock ≠ some g)) (fun i _ => n - (intOf i).toNat)
      case atStart => exact ⟨0, none, 0, _, Nat.zero_le _, rfl, HNm, World.ownsRow_nil _ _ _ _, HWm, ⟨by simp, fun x hx => by rw [List.eq_of_mem_replicate hx]; decide⟩, HI, HZ, HB, fun g _ e => by cases e⟩
      case round =>
        clear HNm HWm HI HZ HB
        obtain ⟨k, P, cp, ms, hk, rfl, HN, HP, HWm, HMS, HI, HZ, HB, HAP⟩ := hrel
        rename World => wq
        by_cases hlt : k < n
        · have hlt2 : (k : Int) < (n : Int) := by omega
          obtain ⟨x, hx⟩ := getElem?_of_lt (l := l) (k := k) (by rw [← HRL.out.1]; exact hlt)
          have hxo := HRL.out.2.2.1 x (List.mem_of_getElem? hx)
          have hxc := HRL.out.2.1.chs x (List.mem_of_getElem? hx)
          have hpc' := HPC.out x hxo
          have hpe : (l.take (k + 1)).map procQ = (l.take k).map procQ ++ [procQ x] := by rw [List.take_add_one, hx]; simp
          obtain ⟨b, off, hA, _, hc⟩ := Rd.at_ (enc := itV) (fun _ => rfl) (HRL.out.2.1.rd.next HB.out) hx
          subst hA
          have p0 := hc 0 _ rfl
          have p1 := hc 1 _ rfl
          have p2 := hc 2 _ rfl
          have p3 := hc 3 _ rfl
          have p4 := hc 4 _ rfl
          have p5 := hc 5 _ rfl
          have p6 := hc 6 _ rfl
          rw [Nat.add_zero] at p0
          rw [← Nat.add_assoc] at p1 p2 p3 p4 p5 p6
          obtain ⟨pr, co2, iA, ic, chs⟩ := x
          dsimp only at p0 p1 p2 p3 p4 p5 p6 hxc hpc'
          have HXO := Lib.hid (And.intro hxo (And.intro hxc hpe))
          have hl4 : chs.length ≤ 4 := hxo.len
          obtain ⟨v, hv⟩ : ∃ z, z = procQ ⟨pr, co2, iA, ic, chs⟩ := ⟨_, rfl⟩
          rw [← hv] at hpc'
          have HV := Lib.hid hv
          unfold ratV at hpc'
          have HPR := Lib.hid hpc'
          clear hc hx hxo hxc hpc' hpe hv
          go_upto_region 10 with fail
          clear p0 p1 p2 p3 p4 p5 p6
          obtain ⟨gi, hg_gi⟩ : ∃ g, g = wq.heap.size := ⟨_, rfl⟩
          obtain ⟨y1, hw_y1⟩ : ∃ W, W = wq.alloc (.cells #[.bool (rneg pr), .string (rnum pr), .string (rden pr), .bool (rneg co2), .string (rnum co2), .string (rden co2), .slice iA chs.length ic] 46) := ⟨_, rfl⟩
          have HL_gi := Lib.hid (And.intro (by have := blk_lt HN.out; omega : gn < gi) (And.intro (by have := blk_lt HZ.out; omega : gz < gi) ((by have := HB.out.size; omega : w.heap.size ≤ gi))))
          have HN1 : Hid (Bk gn (.cells #[.slice P k cp, .slice O m co, .slice (some ⟨I, 0, none⟩) m m] 88) y1) := by rw [hw_y1]; exact blk_next HN.out (bel_alloc _ _)
          have HP1 : Hid (y1.ownsRow w.heap.size 33 3 (.slice P k cp) k (((l.take k).map procQ).flatMap rtV)) := by rw [hw_y1]; exact own_belowQ HP.out (bel_alloc _ _)
          have HW1 : Hid (y1.ownsRow w.heap.size 33 3 (.slice O m co) m ((os).flatMap rtV)) := by rw [hw_y1]; exact own_belowQ HWm.out (bel_alloc _ _)
          have HI1 : Hid (KRow .u64 108 y1 I ms) := by rw [hw_y1]; exact HI.out.next (bel_alloc _ _)
          have HZ1 : Hid (Bk gz (.cells #[.slice none 0 0, .slice none 0 0, .slice none 0 0] 88) y1) := by rw [hw_y1]; exact blk_next HZ.out (bel_alloc _ _)
          have HB1 : Hid (Below w.heap.size w y1) := by rw [hw_y1]; exact HB.out.trans ((bel_alloc _ _).mono HB.out.size)
          have HT1 : Hid (Bk gi (.cells #[.bool (rneg pr), .string (rnum pr), .string (rden pr), .bool (rneg co2), .string (rnum co2), .string (rden co2), .slice iA chs.length ic] 46) y1) := by rw [hw_y1, hg_gi]; exact blk_new _ _
          rw [← hw_y1]
          (try rw [← hg_gi])
          clear hw_y1 hg_gi HN HP HWm HI HZ HB
          obtain ⟨y2, hw_y2⟩ : ∃ W, W = y1.drew := ⟨_, rfl⟩
          have HN2 : Hid (Bk gn (.cells #[.slice P k cp, .slice O m co, .slice (some ⟨I, 0, none⟩) m m] 88) y2) := by rw [hw_y2]; exact HN1.out
          have HP2 : Hid (y2.ownsRow w.heap.size 33 3 (.slice P k cp) k (((l.take k).map procQ).flatMap rtV)) := by rw [hw_y2]; exact HP1.out
          have HW2 : Hid (y2.ownsRow w.heap.size 33 3 (.slice O m co) m ((os).flatMap rtV)) := by rw [hw_y2]; exact HW1.out
          have HI2 : Hid (KRow .u64 108 y2 I ms) := by rw [hw_y2]; exact HI1.out
          have HZ2 : Hid (Bk gz (.cells #[.slice none 0 0, .slice none 0 0, .slice none 0 0] 88) y2) := by rw [hw_y2]; exact HZ1.out
          have HB2 : Hid (Below w.heap.size w y2) := by rw [hw_y2]; exact HB1.out.drew
          have HT2 : Hid (Bk gi (.cells #[.bool (rneg pr), .string (rnum pr), .string (rden pr), .bool (rneg co2), .string (rnum co2), .string (rden co2), .slice iA chs.length ic] 46) y2) := by rw [hw_y2]; exact HT1.out
          have hS1 : (Bk gi (.cells #[.bool (rneg pr), .string (rnum pr), .string (rden pr), .bool (rneg co2), .string (rnum co2), .string (rden co2), .slice iA chs.length ic] 46)) y2 := HT2.out
          refine wp_region_held_drew (S := (Bk gi (.cells #[.bool (rneg pr), .string (rnum pr), .string (rden pr), .bool (rneg co2), .string (rnum co2), .string (rden co2), .slice iA chs.length ic] 46))) (by kernel_rfl) (by rw [← hw_y2]; exact hS1) ?_
          rw [← hw_y2]
          intro _
          clear hw_y2 HN1 HP1 HW1 HI1 HZ1 HB1 HT1
          refine wpAnyH_take (i := 0) rfl (by kernel_rfl) (by kernel_rfl) (by kernel_rfl) (fun _ _ _ h => h) (Or.inl ⟨by kernel_rfl, (by intro w' _; go_simp; with_reducible rfl)⟩) hS1 ?_
          go_simp
          refine wpAnyH_take (i := 2) (v := .agg #[.bool (rneg pr), .string (rnum pr), .string (rden pr), .bool (rneg co2), .string (rnum co2), .string (rden co2), .slice iA chs.length ic]) rfl (by kernel_rfl) (by kernel_rfl) (by kernel_rfl) (fun _ _ _ h => h) (Or.inl ⟨by kernel_rfl, (by intro w' hw'; obtain ⟨k0, k1, k2, k3, k4, k5, k6⟩ := seven_of hw'; go_simp)⟩) hS1 ?_
          go_simp
          refine wpAnyH_ready (rs := [1, 3]) (by kernel_rfl) (by simp) ?_
          refine AllReadyH.cons rfl (fun K hK => ?_) (AllReadyH.cons rfl (fun K hK => ?_) AllReadyH.nil)
          · obtain ⟨l0, l1, l2, l3, l4, l5, l6⟩ := three_of HN2.out
            go_simp
            clear l0 l1 l2 l3 l4 l5 l6
            have hS2 : (Bk gi (.cells #[.bool (rneg pr), .string (rnum pr), .string (rden pr), .bool (rneg co2), .string (rnum co2), .string (rden co2), .slice iA chs.length ic] 46)) y2 := HT2.out
            refine hK.out _ _ hS2 (fun _ => ?_)
            clear hK K
            refine wpAnyH_ready (rs := [3]) (by kernel_rfl) (by simp) ?_
            refine AllReadyH.cons rfl (fun K hK => ?_) AllReadyH.nil
            go_simp
            refine (HPR.out _).mono ?_
            rintro e y3 ⟨rfl, hb⟩
            have HN3 : Hid (Bk gn (.cells #[.slice P k cp, .slice O m co, .slice (some ⟨I, 0, none⟩) m m] 88) y3) := blk_next HN2.out hb
            have HP3 : Hid (y3.ownsRow w.heap.size 33 3 (.slice P k cp) k (((l.take k).map procQ).flatMap rtV)) := own_belowQ HP2.out hb
            have HW3 : Hid (y3.ownsRow w.heap.size 33 3 (.slice O m co) m ((os).flatMap rtV)) := own_belowQ HW2.out hb
            have HI3 : Hid (KRow .u64 108 y3 I ms) := HI2.out.next hb
            have HZ3 : Hid (Bk gz (.cells #[.slice none 0 0, .slice none 0 0, .slice none 0 0] 88) y3) := blk_next HZ2.out hb
            have HB3 : Hid (Below w.heap.size w y3) := HB2.out.trans (hb.mono HB2.out.size)
            have HT3 : Hid (Bk gi (.cells #[.bool (rneg pr), .string (rnum pr), .string (rden pr), .bool (rneg co2), .string (rnum co2), .string (rden co2), .slice iA chs.length ic] 46) y3) := blk_next HT2.out hb
            clear hb HN2 HP2 HW2 HI2 HZ2 HB2 HT2
            have hS3 : (Bk gi (.cells #[.bool (rneg pr), .string (rnum pr), .string (rden pr), .bool (rneg co2), .string (rnum co2), .string (rden co2), .slice iA chs.length ic] 46)) y3 := HT3.out
            refine hK.out _ _ hS3 (fun _ => ?_)
            clear hK K
            refine wpAnyH_ready (rs := [4]) (by kernel_rfl) (by simp) ?_
            refine AllReadyH.cons rfl (fun K hK => ?_) AllReadyH.nil
            go_simp
            obtain ⟨gp, hg_gp⟩ : ∃ g, g = y3.heap.size := ⟨_, rfl⟩
            obtain ⟨y4, hw_y4⟩ : ∃ W, W = y3.alloc (.cells #[.bool (rneg v), .string (rnum v), .string (rden v)] 33) := ⟨_, rfl⟩
            have HL_gp := Lib.hid (And.intro (by have := blk_lt HN3.out; omega : gn < gp) (And.intro (by have := blk_lt HZ3.out; omega : gz < gp) (And.intro (by have := HB3.out.size; omega : w.heap.size ≤ gp) ((by have := blk_lt HT3.out; omega : gi < gp)))))
            have HN4 : Hid (Bk gn (.cells #[.slice P k cp, .slice O m co, .slice (some ⟨I, 0, none⟩) m m] 88) y4) := by rw [hw_y4]; exact blk_next HN3.out (bel_alloc _ _)
            have HP4 : Hid (y4.ownsRow w.heap.size 33 3 (.slice P k cp) k (((l.take k).map procQ).flatMap rtV)) := by rw [hw_y4]; exact own_belowQ HP3.out (bel_alloc _ _)
            have HW4 : Hid (y4.ownsRow w.heap.size 33 3 (.slice O m co) m ((os).flatMap rtV)) := by rw [hw_y4]; exact own_belowQ HW3.out (bel_alloc _ _)
            have HI4 : Hid (KRow .u64 108 y4 I ms) := by rw [hw_y4]; exact HI3.out.next (bel_alloc _ _)
            have HZ4 : Hid (Bk gz (.cells #[.slice none 0 0, .slice none 0 0, .slice none 0 0] 88) y4) := by rw [hw_y4]; exact blk_next HZ3.out (bel_alloc _ _)
            have HB4 : Hid (Below w.heap.size w y4) := by rw [hw_y4]; exact HB3.out.trans ((bel_alloc _ _).mono HB3.out.size)
            have HT4 : Hid (Bk gi (.cells #[.bool (rneg pr), .string (rnum pr), .string (rden pr), .bool (rneg co2), .string (rnum co2), .string (rden co2), .slice iA chs.length ic] 46) y4) := by rw [hw_y4]; exact blk_next HT3.out (bel_alloc _ _)
            have HQ4 : Hid (Bk gp (.cells #[.bool (rneg v), .string (rnum v), .string (rden v)] 33) y4) := by rw [hw_y4, hg_gp]; exact blk_new _ _
            rw [← hw_y4]
            (try rw [← hg_gp])
            clear hw_y4 hg_gp HN3 HP3 HW3 HI3 HZ3 HB3 HT3
            have hS4 : (Bk gi (.cells #[.bool (rneg pr), .string (rnum pr), .string (rden pr), .bool (rneg co2), .string (rnum co2), .string (rden co2), .slice iA chs.length ic] 46)) y4 := HT4.out
            refine hK.out _ _ hS4 (fun _ => ?_)
            clear hK K
            refine wpAnyH_ready (rs := [5]) (by kernel_rfl) (by simp) ?_
            refine AllReadyH.cons rfl (fun K hK => ?_) AllReadyH.nil
            have hdummy := True.intro
            refine step_append_lies _ rfl (.tmp 39) (.tmp 42) 25 rfl w.heap.size 33 iq _ 3 40 Tryz.underlying25 HIQ.out.1 HIQ.out.2.1 HIQ.out.2.2.1 HIQ.out.2.2.2 rfl (by decide) (.slice P k cp) k (((l.take k).map procQ).flatMap rtV) (by simp [Act.eval, Act.put]) HP4.out ⟨gp, 0, none⟩ 1 1 (rtV v) (by simp [Act.eval, Act.put]) rfl (World.news_of_block HQ4.out) (by simp [Value.oneCell', rtV]) (by decide) (by simp only [maxLen]; omega) (by omega) HB4.out.size _ rfl ?_
            intro g' cap wp hown hgr hor hlt3
            have HNp : Hid (Bk gn (.cells #[.slice P k cp, .slice O m co, .slice (some ⟨I, 0, none⟩) m m] 88) wp) := blk_grownT HP4.out HN4.out (by decide) hgr
            have HZp : Hid (Bk gz (.cells #[.slice none 0 0, .slice none 0 0, .slice none 0 0] 88) wp) := blk_grownT HP4.out HZ4.out (by decide) hgr
            have HTp : Hid (Bk gi (.cells #[.bool (rneg pr), .string (rnum pr), .string (rden pr), .bool (rneg co2), .string (rnum co2), .string (rden co2), .slice iA chs.length ic] 46) wp) := blk_grownT HP4.out HT4.out (by decide) hgr
            have HIp : Hid (KRow .u64 108 wp I ms) := HI4.out.grownT HP4.out (by decide) hgr
            have HWp : Hid (wp.ownsRow w.heap.size 33 3 (.slice O m co) m ((os).flatMap rtV)) := HW4.out.kept hgr (by
              rcases ho2 : (Value.slice O m co).ownBlock with _ | g2
              · exact Or.inl rfl
              · exact Or.inr (fun e => HAP.out g2 ho2 e.symm))
            have HAP2 : Hid (∀ g, (Value.slice O m co).ownBlock = some g → (Value.slice (some ⟨g', 0, none⟩) (k + 1) cap).ownBlock ≠ some g) := fun g hg e => by
              have e2 : g' = g := Option.some.inj e
              subst e2
              rcases hor with hor | hor
              · exact HAP.out g' hg hor
              · have := (HW4.out.lt g' hg).2
                omega
            have HBp : Hid (Below w.heap.size w wp) := HB4.out.grown hgr HB4.out.size (fun j hj => (HP4.out.lt j hj).1)
            have HPp : Hid (wp.ownsRow w.heap.size 33 3 (.slice (some ⟨g', 0, none⟩) (k + 1) cap) (k + 1) (((l.take (k + 1)).map procQ).flatMap rtV)) := by
              rw [HXO.out.2.2, ← HV.out, List.flatMap_append]
              exact hown
            clear hown hgr hor hlt3 hdummy HN4 HP4 HW4 HI4 HZ4 HB4 HT4 HQ4
            have hS97 : (Bk gi (.cells #[.bool (rneg pr), .string (rnum pr), .string (rden pr), .bool (rneg co2), .string (rnum co2), .string (rden co2), .slice iA chs.length ic] 46)) wp := HTp.out
            refine hK.out _ _ hS97 (fun _ => ?_)
            clear hK K
            refine wpAnyH_take (i := 6) rfl (by kernel_rfl) (by kernel_rfl) (by kernel_rfl) (fun _ _ _ h => h) (Or.inl ⟨by kernel_rfl, (by intro w' _; go_simp; with_reducible rfl)⟩) hS97 ?_
            go_simp
            refine wpAnyH_ready (rs := [7]) (by kernel_rfl) (by simp) ?_
            refine AllReadyH.cons rfl (fun K hK => ?_) AllReadyH.nil
            obtain ⟨l0, l1, l2, l3, l4, l5, l6⟩ := three_of HNp.out
            go_simp
            clear l0 l1 l2 l3 l4 l5 l6
            obtain ⟨wz, hwz⟩ : ∃ W, W = wp.setCell ⟨gn, 0, none⟩ (.slice (some ⟨g', 0, none⟩) (k + 1) cap) := ⟨_, rfl⟩
            have ho : Only gn wp wz := by rw [hwz]; exact (Only.refl _ _).setC _ _
            have HNz : Hid (Bk gn (.cells #[.slice (some ⟨g', 0, none⟩) (k + 1) cap, .slice O m co, .slice (some ⟨I, 0, none⟩) m m] 88) wz) := by rw [hwz]; exact heap_setCell_same _ gn 0 _ _ _ HNp.out
            have HPz : Hid (wz.ownsRow w.heap.size 33 3 (.slice (some ⟨g', 0, none⟩) (k + 1) cap) (k + 1) (((l.take (k + 1)).map procQ).flatMap rtV)) := own_onlyB HPp.out ho HNp.out (by decide)
            have HWz : Hid (wz.ownsRow w.heap.size 33 3 (.slice O m co) m ((os).flatMap rtV)) := own_onlyB HWp.out ho HNp.out (by decide)
            have HIz : Hid (KRow .u64 108 wz I ms) := HIp.out.onlyB ho HNp.out (by decide)
            have HZz : Hid (Bk gz (.cells #[.slice none 0 0, .slice none 0 0, .slice none 0 0] 88) wz) := blk_onlyW HZp.out ho (by have := HL_0.out; omega)
            have HTz : Hid (Bk gi (.cells #[.bool (rneg pr), .string (rnum pr), .string (rden pr), .bool (rneg co2), .string (rnum co2), .string (rden co2), .slice iA chs.length ic] 46) wz) := blk_onlyW HTp.out ho (by have := HL_gi.out; omega)
            have HBz : Hid (Below w.heap.size w wz) := HBp.out.trans (ho.at_ _ HBp.out.size (by have := HL_0.out; omega))
            rw [← hwz]
            clear hwz ho HNp HPp HWp HIp HZp HTp HBp
            have hS98 : (Bk gi (.cells #[.bool (rneg pr), .string (rnum pr), .string (rden pr), .bool (rneg co2), .string (rnum co2), .string (rden co2), .slice iA chs.length ic] 46)) wz := HTz.out
            refine hK.out _ _ hS98 (fun _ => ?_)
            clear hK K
            refine wpAnyH_done (by kernel_rfl) ?_ _
            obtain ⟨t0, t1, t2, t3, t4, t5, t6⟩ := seven_of HTz.out
            (try go_wp2_with fail)
            clear t0 t1 t2 t3 t4 t5 t6
            have HMS2 : Hid (ms.length = m ∧ ∀ x ∈ ms, x < 2 ^ (k + 1)) := ⟨HMS.out.1, fun x hx => by have := HMS.out.2 x hx; rw [Nat.pow_succ]; omega⟩
            go_loopw [48] (fun i2 wr => ∃ (q : Nat) (ms : List Nat), q ≤ chs.length ∧ i2 = .int .i64 (q : Int) ∧ Hid (Bk gn (.cells #[.slice (some ⟨g', 0, none⟩) (k + 1) cap, .slice O m co, .slice (some ⟨I, 0, none⟩) m m] 88) wr) ∧ Hid (wr.ownsRow w.heap.size 33 3 (.slice (some ⟨g', 0, none⟩) (k + 1) cap) (k + 1) (((l.take (k + 1)).map procQ).flatMap rtV)) ∧ Hid (wr.ownsRow w.heap.size 33 3 (.slice O m co) m ((os).flatMap rtV)) ∧ Hid (ms.length = m ∧ ∀ x ∈ ms, x < 2 ^ (k + 1)) ∧ Hid (KRow .u64 108 wr I ms) ∧ Hid (Bk gz (.cells #[.slice none 0 0, .slice none 0 0, .slice none 0 0] 88) wr) ∧ Hid (Below w.heap.size w wr)) (fun i2 _ => chs.length - (intOf i2).toNat)
            case atStart => exact ⟨0, ms, Nat.zero_le _, rfl, HNz, HPz, HWz, HMS2, HIz, HZz, HBz⟩
            case round =>
              clear HMS2 HMS HNz HPz HWz HIz HZz HTz HBz
              rename List Nat => ms0
              obtain ⟨q, ms, hq, rfl, HN, HP, HWm, HMS, HI, HZ, HB⟩ := hrel
              rename World => wi
              by_cases hql : q < chs.length
              · have hlt3 : (q : Int) < (chs.length : Int) := by omega
                obtain ⟨y, hy⟩ := getElem?_of_lt (l := chs) (k := q) hql
                have hyo := (HXO.out.1.chs y (List.mem_of_getElem? hy)).cl
                obtain ⟨b2, off2, hA2, _, hc2⟩ := Rd.at_ (enc := chV) (fun _ => rfl) (HXO.out.2.1.next HB.out) hy
                subst hA2
                have p0 := hc2 0 _ rfl
                have p1 := hc2 1 _ rfl
                have p2 := hc2 2 _ rfl
                have p3 := hc2 3 _ rfl
                have p4 := hc2 4 _ rfl
                have p5 := hc2 5 _ rfl
                rw [Nat.add_zero] at p0
                rw [← Nat.add_assoc] at p1 p2 p3 p4 p5
                obtain ⟨cl, cpr, lm, mx⟩ := y
                dsimp only at p0 p1 p2 p3 p4 p5 hyo
                have hclm : (cl : Int) < (m : Int) := by omega
                obtain ⟨mk, hmk⟩ := getElem?_of_lt (l := ms) (k := cl) (by rw [HMS.out.1]; exact hyo)
                have hmkb := HMS.out.2 mk (List.mem_of_getElem? hmk)
                have hor : bits .or .u64 (mk : Int) (((2 ^ k : Nat)) : Int) = (((mk ||| 2 ^ k : Nat)) : Int) := bits_or .u64 64 rfl rfl mk (2 ^ k) (by have : 2 ^ (k + 1) ≤ 2 ^ 5 := Nat.pow_le_pow_right (by decide) (by omega); omega) (by have : 2 ^ k ≤ 2 ^ 5 := Nat.pow_le_pow_right (by decide) (by omega); omega)
                have hob : mk ||| 2 ^ k < 2 ^ (k + 1) := Nat.or_lt_two_pow hmkb (Nat.pow_lt_pow_right (by decide) (by omega))
                obtain ⟨s2, hs2⟩ : ∃ z, z = 2 ^ k := ⟨_, rfl⟩
                have hsh : (2 : Int) ^ k = (s2 : Int) := by rw [hs2]; simp
                have hs32 : s2 ≤ 32 := by rw [hs2]; have : 2 ^ k ≤ 2 ^ 5 := Nat.pow_le_pow_right (by decide) (by omega); omega
                have hsw : IntKind.u64.wrap (s2 : Int) = (s2 : Int) := IntWalk.u64_in _ (by omega)
                rw [← hs2] at hor hob
                obtain ⟨nw, hnw⟩ : ∃ z, z = mk ||| s2 := ⟨_, rfl⟩
                rw [← hnw] at hor hob
                have HMK := Lib.hid (And.intro hmk hob)
                clear hc2 hy hyo hmk hmkb hob hs2 hnw
                go_upto_region 14 with fail
                clear p0 p1 p2 p3 p4 p5
                obtain ⟨gc, hg_gc⟩ : ∃ g, g = wi.heap.size := ⟨_, rfl⟩
                obtain ⟨v1, hw_v1⟩ : ∃ W, W = wi.alloc (.cells #[.int .i64 (cl : Int), .int .i64 cpr, .bool lm, .bool (rneg mx), .string (rnum mx), .string (rden mx)] 84) := ⟨_, rfl⟩
                have HL_gc := Lib.hid (And.intro (by have := blk_lt HN.out; omega : gn < gc) (And.intro (by have := blk_lt HZ.out; omega : gz < gc) ((by have := HB.out.size; omega : w.heap.size ≤ gc))))
                have HN1 : Hid (Bk gn (.cells #[.slice (some ⟨g', 0, none⟩) (k + 1) cap, .slice O m co, .slice (some ⟨I, 0, none⟩) m m] 88) v1) := by rw [hw_v1]; exact blk_next HN.out (bel_alloc _ _)
                have HP1 : Hid (v1.ownsRow w.heap.size 33 3 (.slice (some ⟨g', 0, none⟩) (k + 1) cap) (k + 1) (((l.take (k + 1)).map procQ).flatMap rtV)) := by rw [hw_v1]; exact own_belowQ HP.out (bel_alloc _ _)
                have HW1 : Hid (v1.ownsRow w.heap.size 33 3 (.slice O m co) m ((os).flatMap rtV)) := by rw [hw_v1]; exact own_belowQ HWm.out (bel_alloc _ _)
                have HI1 : Hid (KRow .u64 108 v1 I ms) := by rw [hw_v1]; exact HI.out.next (bel_alloc _ _)
                have HZ1 : Hid (Bk gz (.cells #[.slice none 0 0, .slice none 0 0, .slice none 0 0] 88) v1) := by rw [hw_v1]; exact blk_next HZ.out (bel_alloc _ _)
                have HB1 : Hid (Below w.heap.size w v1) := by rw [hw_v1]; exact HB.out.trans ((bel_alloc _ _).mono HB.out.size)
                have HC1 : Hid (Bk gc (.cells #[.int .i64 (cl : Int), .int .i64 cpr, .bool lm, .bool (rneg mx), .string (rnum mx), .string (rden mx)] 84) v1) := by rw [hw_v1, hg_gc]; exact blk_new _ _
                rw [← hw_v1]
                (try rw [← hg_gc])
                clear hw_v1 hg_gc HN HP HWm HI HZ HB
                obtain ⟨v2, hw_v2⟩ : ∃ W, W = v1.drew := ⟨_, rfl⟩
                have HN2 : Hid (Bk gn (.cells #[.slice (some ⟨g', 0, none⟩) (k + 1) cap, .slice O m co, .slice (some ⟨I, 0, none⟩) m m] 88) v2) := by rw [hw_v2]; exact HN1.out
                have HP2 : Hid (v2.ownsRow w.heap.size 33 3 (.slice (some ⟨g', 0, none⟩) (k + 1) cap) (k + 1) (((l.take (k + 1)).map procQ).flatMap rtV)) := by rw [hw_v2]; exact HP1.out
                have HW2 : Hid (v2.ownsRow w.heap.size 33 3 (.slice O m co) m ((os).flatMap rtV)) := by rw [hw_v2]; exact HW1.out
                have HI2 : Hid (KRow .u64 108 v2 I ms) := by rw [hw_v2]; exact HI1.out
                have HZ2 : Hid (Bk gz (.cells #[.slice none 0 0, .slice none 0 0, .slice none 0 0] 88) v2) := by rw [hw_v2]; exact HZ1.out
                have HB2 : Hid (Below w.heap.size w v2) := by rw [hw_v2]; exact HB1.out.drew
                have HC2 : Hid (Bk gc (.cells #[.int .i64 (cl : Int), .int .i64 cpr, .bool lm, .bool (rneg mx), .string (rnum mx), .string (rden mx)] 84) v2) := by rw [hw_v2]; exact HC1.out
                have hS1 : (AndW (Bk gn (.cells #[.slice (some ⟨g', 0, none⟩) (k + 1) cap, .slice O m co, .slice (some ⟨I, 0, none⟩) m m] 88)) (Bk gc (.cells #[.int .i64 (cl : Int), .int .i64 cpr, .bool lm, .bool (rneg mx), .string (rnum mx), .string (rden mx)] 84))) v2 := ⟨HN2.out, HC2.out⟩
                refine wp_region_held_drew (S := (AndW (Bk gn (.cells #[.slice (some ⟨g', 0, none⟩) (k + 1) cap, .slice O m co, .slice (some ⟨I, 0, none⟩) m m] 88)) (Bk gc (.cells #[.int .i64 (cl : Int), .int .i64 cpr, .bool lm, .bool (rneg mx), .string (rnum mx), .string (rden mx)] 84)))) (by kernel_rfl) (by rw [← hw_v2]; exact hS1) ?_
                rw [← hw_v2]
                intro _
                clear hw_v2 HN1 HP1 HW1 HI1 HZ1 HB1 HC1
                refine wpAnyH_take (i := 0) rfl (by kernel_rfl) (by kernel_rfl) (by kernel_rfl) (fun _ _ _ h => h) (Or.inl ⟨by kernel_rfl, (by intro w' _; go_simp; with_reducible rfl)⟩) hS1 ?_
                go_simp
                refine wpAnyH_take (i := 1) (v := .slice (some ⟨I, 0, none⟩) m m) rfl (by kernel_rfl) (by kernel_rfl) (by kernel_rfl) (fun _ _ _ h => h) (Or.inl ⟨by kernel_rfl, (by intro w' hw'; obtain ⟨k0, k1, k2, k3, k4, k5, k6⟩ := three_of hw'.1; go_simp)⟩) hS1 ?_
                go_simp
                refine wpAnyH_take (i := 2) rfl (by kernel_rfl) (by kernel_rfl) (by kernel_rfl) (fun _ _ _ h => h) (Or.inl ⟨by kernel_rfl, (by intro w' _; go_simp; with_reducible rfl)⟩) hS1 ?_
                go_simp
                refine wpAnyH_take (i := 3) (v := .int .i64 (cl : Int)) rfl (by kernel_rfl) (by kernel_rfl) (by kernel_rfl) (fun _ _ _ h => h) (Or.inl ⟨by kernel_rfl, (by intro w' hw'; obtain ⟨k0, k1, k2, k3, k4, k5⟩ := sixc_of hw'.2; go_simp)⟩) hS1 ?_
                go_simp
                refine wpAnyH_take (i := 4) rfl (by kernel_rfl) (by kernel_rfl) (by kernel_rfl) (fun _ _ _ h => h) (Or.inl ⟨by kernel_rfl, (by intro w' _; go_simp; with_reducible rfl)⟩) hS1 ?_
                go_simp
                refine wpAnyH_take (i := 6) rfl (by kernel_rfl) (by kernel_rfl) (by kernel_rfl) (fun _ _ _ h => h) (Or.inl ⟨by kernel_rfl, (by intro w' _; go_simp; with_reducible rfl)⟩) hS1 ?_
                go_simp
                refine wpAnyH_take (i := 7) (v := .int .u64 (s2 : Int)) rfl (by kernel_rfl) (by kernel_rfl) (by kernel_rfl) (fun _ _ _ h => h) (Or.inl ⟨by kernel_rfl, (by intro w' _; go_simp)⟩) hS1 ?_
                go_simp
                refine wpAnyH_ready (rs := [5]) (by kernel_rfl) (by simp) ?_
                refine AllReadyH.cons rfl (fun K hK => ?_) AllReadyH.nil
                have l0 := HI2.out.cell HMK.out.1
                go_simp
                clear l0
                have hS2 : (AndW (Bk gn (.cells #[.slice (some ⟨g', 0, none⟩) (k + 1) cap, .slice O m co, .slice (some ⟨I, 0, none⟩) m m] 88)) (Bk gc (.cells #[.int .i64 (cl : Int), .int .i64 cpr, .bool lm, .bool (rneg mx), .string (rnum mx), .string (rden mx)] 84))) v2 := ⟨HN2.out, HC2.out⟩
                refine hK.out _ _ hS2 (fun _ => ?_)
                clear hK K
                refine wpAnyH_take (i := 8) (v := .int .u64 (nw : Int)) rfl (by kernel_rfl) (by kernel_rfl) (by kernel_rfl) (fun _ _ _ h => h) (Or.inl ⟨by kernel_rfl, (by intro w' _; go_simp)⟩) hS2 ?_
                go_simp
                refine wpAnyH_take (i := 9) rfl (by kernel_rfl) (by kernel_rfl) (by kernel_rfl) (fun _ _ _ h => h) (Or.inl ⟨by kernel_rfl, (by intro w' _; go_simp; with_reducible rfl)⟩) hS2 ?_
                go_simp
                refine wpAnyH_ready (rs := [10]) (by kernel_rfl) (by simp) ?_
                refine AllReadyH.cons rfl (fun K hK => ?_) AllReadyH.nil
                have l0 := HI2.out.cell HMK.out.1
                have f0 := HI2.out.frozen cl
                have lf := HI2.out.lt
                go_simp
                clear l0 f0 lf
                obtain ⟨wz, hwz⟩ : ∃ W, W = v2.setCell ⟨I, cl, none⟩ (.int .u64 (nw : Int)) := ⟨_, rfl⟩
                have ho : Only I v2 wz := by rw [hwz]; exact (Only.refl _ _).setC _ _
                have HIz : Hid (KRow .u64 108 wz I (ms.set cl nw)) := by rw [hwz]; exact HI2.out.set_ cl nw
                obtain ⟨cI, hcI, _⟩ := HI2.out
                have HNz : Hid (Bk gn (.cells #[.slice (some ⟨g', 0, none⟩) (k + 1) cap, .slice O m co, .slice (some ⟨I, 0, none⟩) m m] 88) wz) := blk_onlyW HN2.out ho (by have := HL_0.out; omega)
                have HCz : Hid (Bk gc (.cells #[.int .i64 (cl : Int), .int .i64 cpr, .bool lm, .bool (rneg mx), .string (rnum mx), .string (rden mx)] 84) wz) := blk_onlyW HC2.out ho (blk_ne HC2.out hcI (by decide))
                have HPz : Hid (wz.ownsRow w.heap.size 33 3 (.slice (some ⟨g', 0, none⟩) (k + 1) cap) (k + 1) (((l.take (k + 1)).map procQ).flatMap rtV)) := own_onlyB HP2.out ho hcI (by decide)
                have HWz : Hid (wz.ownsRow w.heap.size 33 3 (.slice O m co) m ((os).flatMap rtV)) := own_onlyB HW2.out ho hcI (by decide)
                have HZz : Hid (Bk gz (.cells #[.slice none 0 0, .slice none 0 0, .slice none 0 0] 88) wz) := blk_onlyW HZ2.out ho (by have := HL_0.out; omega)
                have HBz : Hid (Below w.heap.size w wz) := HB2.out.trans (ho.at_ _ HB2.out.size (by have := HL_0.out; omega))
                have HMSz : Hid ((ms.set cl nw).length = m ∧ ∀ x ∈ ms.set cl nw, x < 2 ^ (k + 1)) := ⟨by rw [List.length_set]; exact HMS.out.1, fun x hx => by
                  rcases List.mem_or_eq_of_mem_set hx with h | h
                  · exact HMS.out.2 x h
                  · rw [h]; exact HMK.out.2⟩
                rw [← hwz]
                clear hwz ho hcI
                have hSz : (AndW (Bk gn (.cells #[.slice (some ⟨g', 0, none⟩) (k + 1) cap, .slice O m co, .slice (some ⟨I, 0, none⟩) m m] 88)) (Bk gc (.cells #[.int .i64 (cl : Int), .int .i64 cpr, .bool lm, .bool (rneg mx), .string (rnum mx), .string (rden mx)] 84))) wz := ⟨HNz.out, HCz.out⟩
                refine hK.out _ _ hSz (fun _ => ?_)
                clear hK K
                refine wpAnyH_done (by kernel_rfl) ?_ _
                (try go_wp2_with fail)
                go_roundw
                case measure => simp [intOf] <;> omega
                case rel => exact ⟨q + 1, ms.set cl nw, by omega, by go_num, HNz, HPz, HWz, HMSz, HIz, HZz, HBz⟩
              · have hlt3 : ¬ (q : Int) < (chs.length : Int) := by omega
                go_wp2_with fail
                go_roundw
                case measure => simp [intOf] <;> omega
                case rel => exact ⟨k + 1, _, _, ms, by omega, by go_num, HN, HP, HWm, HMS, HI, HZ, HB, HAP2⟩
          · go_simp
            refine (HPR.out _).mono ?_
            rintro e y3 ⟨rfl, hb⟩
            have HN3 : Hid (Bk gn (.cells #[.slice P k cp, .slice O m co, .slice (some ⟨I, 0, none⟩) m m] 88) y3) := blk_next HN2.out hb
            have HP3 : Hid (y3.ownsRow w.heap.size 33 3 (.slice P k cp) k (((l.take k).map procQ).flatMap rtV)) := own_belowQ HP2.out hb
            have HW3 : Hid (y3.ownsRow w.heap.size 33 3 (.slice O m co) m ((os).flatMap rtV)) := own_belowQ HW2.out hb
            have HI3 : Hid (KRow .u64 108 y3 I ms) := HI2.out.next hb
            have HZ3 : Hid (Bk gz (.cells #[.slice none 0 0, .slice none 0 0, .slice none 0 0] 88) y3) := blk_next HZ2.out hb
            have HB3 : Hid (Below w.heap.size w y3) := HB2.out.trans (hb.mono HB2.out.size)
            have HT3 : Hid (Bk gi (.cells #[.bool (rneg pr), .string (rnum pr), .string (rden pr), .bool (rneg co2), .string (rnum co2), .string (rden co2), .slice iA chs.length ic] 46) y3) := blk_next HT2.out hb
            clear hb HN2 HP2 HW2 HI2 HZ2 HB2 HT2
            have hS2 : (Bk gi (.cells #[.bool (rneg pr), .string (rnum pr), .string (rden pr), .bool (rneg co2), .string (rnum co2), .string (rden co2), .slice iA chs.length ic] 46)) y3 := HT3.out
            refine hK.out _ _ hS2 (fun _ => ?_)
            clear hK K
            refine wpAnyH_ready (rs := [1, 4]) (by kernel_rfl) (by simp) ?_
            refine AllReadyH.cons rfl (fun K hK => ?_) (AllReadyH.cons rfl (fun K hK => ?_) AllReadyH.nil)
            · obtain ⟨l0, l1, l2, l3, l4, l5, l6⟩ := three_of HN3.out
              go_simp
              clear l0 l1 l2 l3 l4 l5 l6
              have hS3 : (Bk gi (.cells #[.bool (rneg pr), .string (rnum pr), .string (rden pr), .bool (rneg co2), .string (rnum co2), .string (rden co2), .slice iA chs.length ic] 46)) y3 := HT3.out
              refine hK.out _ _ hS3 (fun _ => ?_)
              clear hK K
              refine wpAnyH_ready (rs := [4]) (by kernel_rfl) (by simp) ?_
              refine AllReadyH.cons rfl (fun K hK => ?_) AllReadyH.nil
              go_simp
              obtain ⟨gp, hg_gp⟩ : ∃ g, g = y3.heap.size := ⟨_, rfl⟩
              obtain ⟨y4, hw_y4⟩ : ∃ W, W = y3.alloc (.cells #[.bool (rneg v), .string (rnum v), .string (rden v)] 33) := ⟨_, rfl⟩
              have HL_gp := Lib.hid (And.intro (by have := blk_lt HN3.out; omega : gn < gp) (And.intro (by have := blk_lt HZ3.out; omega : gz < gp) (And.intro (by have := HB3.out.size; omega : w.heap.size ≤ gp) ((by have := blk_lt HT3.out; omega : gi < gp)))))
              have HN4 : Hid (Bk gn (.cells #[.slice P k cp, .slice O m co, .slice (some ⟨I, 0, none⟩) m m] 88) y4) := by rw [hw_y4]; exact blk_next HN3.out (bel_alloc _ _)
              have HP4 : Hid (y4.ownsRow w.heap.size 33 3 (.slice P k cp) k (((l.take k).map procQ).flatMap rtV)) := by rw [hw_y4]; exact own_belowQ HP3.out (bel_alloc _ _)
              have HW4 : Hid (y4.ownsRow w.heap.size 33 3 (.slice O m co) m ((os).flatMap rtV)) := by rw [hw_y4]; exact own_belowQ HW3.out (bel_alloc _ _)
              have HI4 : Hid (KRow .u64 108 y4 I ms) := by rw [hw_y4]; exact HI3.out.next (bel_alloc _ _)
              have HZ4 : Hid (Bk gz (.cells #[.slice none 0 0, .slice none 0 0, .slice none 0 0] 88) y4) := by rw [hw_y4]; exact blk_next HZ3.out (bel_alloc _ _)
              have HB4 : Hid (Below w.heap.size w y4) := by rw [hw_y4]; exact HB3.out.trans ((bel_alloc _ _).mono HB3.out.size)
              have HT4 : Hid (Bk gi (.cells #[.bool (rneg pr), .string (rnum pr), .string (rden pr), .bool (rneg co2), .string (rnum co2), .string (rden co2), .slice iA chs.length ic] 46) y4) := by rw [hw_y4]; exact blk_next HT3.out (bel_alloc _ _)
              have HQ4 : Hid (Bk gp (.cells #[.bool (rneg v), .string (rnum v), .string (rden v)] 33) y4) := by rw [hw_y4, hg_gp]; exact blk_new _ _
              rw [← hw_y4]
              (try rw [← hg_gp])
              clear hw_y4 hg_gp HN3 HP3 HW3 HI3 HZ3 HB3 HT3
              have hS4 : (Bk gi (.cells #[.bool (rneg pr), .string (rnum pr), .string (rden pr), .bool (rneg co2), .string (rnum co2), .string (rden co2), .slice iA chs.length ic] 46)) y4 := HT4.out
              refine hK.out _ _ hS4 (fun _ => ?_)
              clear hK K
              refine wpAnyH_ready (rs := [5]) (by kernel_rfl) (by simp) ?_
              refine AllReadyH.cons rfl (fun K hK => ?_) AllReadyH.nil
              have hdummy := True.intro
              refine step_append_lies _ rfl (.tmp 39) (.tmp 42) 25 rfl w.heap.size 33 iq _ 3 40 Tryz.underlying25 HIQ.out.1 HIQ.out.2.1 HIQ.out.2.2.1 HIQ.out.2.2.2 rfl (by decide) (.slice P k cp) k (((l.take k).map procQ).flatMap rtV) (by simp [Act.eval, Act.put]) HP4.out ⟨gp, 0, none⟩ 1 1 (rtV v) (by simp [Act.eval, Act.put]) rfl (World.news_of_block HQ4.out) (by simp [Value.oneCell', rtV]) (by decide) (by simp only [maxLen]; omega) (by omega) HB4.out.size _ rfl ?_
              intro g' cap wp hown hgr hor hlt3
              have HNp : Hid (Bk gn (.cells #[.slice P k cp, .slice O m co, .slice (some ⟨I, 0, none⟩) m m] 88) wp) := blk_grownT HP4.out HN4.out (by decide) hgr
              have HZp : Hid (Bk gz (.cells #[.slice none 0 0, .slice none 0 0, .slice none 0 0] 88) wp) := blk_grownT HP4.out HZ4.out (by decide) hgr
              have HTp : Hid (Bk gi (.cells #[.bool (rneg pr), .string (rnum pr), .string (rden pr), .bool (rneg co2), .string (rnum co2), .string (rden co2), .slice iA chs.length ic] 46) wp) := blk_grownT HP4.out HT4.out (by decide) hgr
              have HIp : Hid (KRow .u64 108 wp I ms) := HI4.out.grownT HP4.out (by decide) hgr
              have HWp : Hid (wp.ownsRow w.heap.size 33 3 (.slice O m co) m ((os).flatMap rtV)) := HW4.out.kept hgr (by
                rcases ho2 : (Value.slice O m co).ownBlock with _ | g2
                · exact Or.inl rfl
                · exact Or.inr (fun e => HAP.out g2 ho2 e.symm))
              have HAP2 : Hid (∀ g, (Value.slice O m co).ownBlock = some g → (Value.slice (some ⟨g', 0, none⟩) (k + 1) cap).ownBlock ≠ some g) := fun g hg e => by
                have e2 : g' = g := Option.some.inj e
                subst e2
                rcases hor with hor | hor
                · exact HAP.out g' hg hor
                · have := (HW4.out.lt g' hg).2
                  omega
              have HBp : Hid (Below w.heap.size w wp) := HB4.out.grown hgr HB4.out.size (fun j hj => (HP4.out.lt j hj).1)
              have HPp : Hid (wp.ownsRow w.heap.size 33 3 (.slice (some ⟨g', 0, none⟩) (k + 1) cap) (k + 1) (((l.take (k + 1)).map procQ).flatMap rtV)) := by
                rw [HXO.out.2.2, ← HV.out, List.flatMap_append]
                exact hown
              clear hown hgr hor hlt3 hdummy HN4 HP4 HW4 HI4 HZ4 HB4 HT4 HQ4
              have hS97 : (Bk gi (.cells #[.bool (rneg pr), .string (rnum pr), .string (rden pr), .bool (rneg co2), .string (rnum co2), .string (rden co2), .slice iA chs.length ic] 46)) wp := HTp.out
              refine hK.out _ _ hS97 (fun _ => ?_)
              clear hK K
              refine wpAnyH_take (i := 6) rfl (by kernel_rfl) (by kernel_rfl) (by kernel_rfl) (fun _ _ _ h => h) (Or.inl ⟨by kernel_rfl, (by intro w' _; go_simp; with_reducible rfl)⟩) hS97 ?_
              go_simp
              refine wpAnyH_ready (rs := [7]) (by kernel_rfl) (by simp) ?_
              refine AllReadyH.cons rfl (fun K hK => ?_) AllReadyH.nil
              obtain ⟨l0, l1, l2, l3, l4, l5, l6⟩ := three_of HNp.out
              go_simp
              clear l0 l1 l2 l3 l4 l5 l6
              obtain ⟨wz, hwz⟩ : ∃ W, W = wp.setCell ⟨gn, 0, none⟩ (.slice (some ⟨g', 0, none⟩) (k + 1) cap) := ⟨_, rfl⟩
              have ho : Only gn wp wz := by rw [hwz]; exact (Only.refl _ _).setC _ _
              have HNz : Hid (Bk gn (.cells #[.slice (some ⟨g', 0, none⟩) (k + 1) cap, .slice O m co, .slice (some ⟨I, 0, none⟩) m m] 88) wz) := by rw [hwz]; exact heap_setCell_same _ gn 0 _ _ _ HNp.out
              have HPz : Hid (wz.ownsRow w.heap.size 33 3 (.slice (some ⟨g', 0, none⟩) (k + 1) cap) (k + 1) (((l.take (k + 1)).map procQ).flatMap rtV)) := own_onlyB HPp.out ho HNp.out (by decide)
              have HWz : Hid (wz.ownsRow w.heap.size 33 3 (.slice O m co) m ((os).flatMap rtV)) := own_onlyB HWp.out ho HNp.out (by decide)
              have HIz : Hid (KRow .u64 108 wz I ms) := HIp.out.onlyB ho HNp.out (by decide)
              have HZz : Hid (Bk gz (.cells #[.slice none 0 0, .slice none 0 0, .slice none 0 0] 88) wz) := blk_onlyW HZp.out ho (by have := HL_0.out; omega)
              have HTz : Hid (Bk gi (.cells #[.bool (rneg pr), .string (rnum pr), .string (rden pr), .bool (rneg co2), .string (rnum co2), .string (rden co2), .slice iA chs.length ic] 46) wz) := blk_onlyW HTp.out ho (by have := HL_gi.out; omega)
              have HBz : Hid (Below w.heap.size w wz) := HBp.out.trans (ho.at_ _ HBp.out.size (by have := HL_0.out; omega))
              rw [← hwz]
              clear hwz ho HNp HPp HWp HIp HZp HTp HBp
              have hS98 : (Bk gi (.cells #[.bool (rneg pr), .string (rnum pr), .string (rden pr), .bool (rneg co2), .string (rnum co2), .string (rden co2), .slice iA chs.length ic] 46)) wz := HTz.out
              refine hK.out _ _ hS98 (fun _ => ?_)
              clear hK K
              refine wpAnyH_done (by kernel_rfl) ?_ _
              obtain ⟨t0, t1, t2, t3, t4, t5, t6⟩ := seven_of HTz.out
              (try go_wp2_with fail)
              clear t0 t1 t2 t3 t4 t5 t6
              have HMS2 : Hid (ms.length = m ∧ ∀ x ∈ ms, x < 2 ^ (k + 1)) := ⟨HMS.out.1, fun x hx => by have := HMS.out.2 x hx; rw [Nat.pow_succ]; omega⟩
              go_loopw [48] (fun i2 wr => ∃ (q : Nat) (ms : List Nat), q ≤ chs.length ∧ i2 = .int .i64 (q : Int) ∧ Hid (Bk gn (.cells #[.slice (some ⟨g', 0, none⟩) (k + 1) cap, .slice O m co, .slice (some ⟨I, 0, none⟩) m m] 88) wr) ∧ Hid (wr.ownsRow w.heap.size 33 3 (.slice (some ⟨g', 0, none⟩) (k + 1) cap) (k + 1) (((l.take (k + 1)).map procQ).flatMap rtV)) ∧ Hid (wr.ownsRow w.heap.size 33 3 (.slice O m co) m ((os).flatMap rtV)) ∧ Hid (ms.length = m ∧ ∀ x ∈ ms, x < 2 ^ (k + 1)) ∧ Hid (KRow .u64 108 wr I ms) ∧ Hid (Bk gz (.cells #[.slice none 0 0, .slice none 0 0, .slice none 0 0] 88) wr) ∧ Hid (Below w.heap.size w wr)) (fun i2 _ => chs.length - (intOf i2).toNat)
              case atStart => exact ⟨0, ms, Nat.zero_le _, rfl, HNz, HPz, HWz, HMS2, HIz, HZz, HBz⟩
              case round =>
                clear HMS2 HMS HNz HPz HWz HIz HZz HTz HBz
                rename List Nat => ms0
                obtain ⟨q, ms, hq, rfl, HN, HP, HWm, HMS, HI, HZ, HB⟩ := hrel
                rename World => wi
                by_cases hql : q < chs.length
                · have hlt3 : (q : Int) < (chs.length : Int) := by omega
                  obtain ⟨y, hy⟩ := getElem?_of_lt (l := chs) (k := q) hql
                  have hyo := (HXO.out.1.chs y (List.mem_of_getElem? hy)).cl
                  obtain ⟨b2, off2, hA2, _, hc2⟩ := Rd.at_ (enc := chV) (fun _ => rfl) (HXO.out.2.1.next HB.out) hy
                  subst hA2
                  have p0 := hc2 0 _ rfl
                  have p1 := hc2 1 _ rfl
                  have p2 := hc2 2 _ rfl
                  have p3 := hc2 3 _ rfl
                  have p4 := hc2 4 _ rfl
                  have p5 := hc2 5 _ rfl
                  rw [Nat.add_zero] at p0
                  rw [← Nat.add_assoc] at p1 p2 p3 p4 p5
                  obtain ⟨cl, cpr, lm, mx⟩ := y
                  dsimp only at p0 p1 p2 p3 p4 p5 hyo
                  have hclm : (cl : Int) < (m : Int) := by omega
                  obtain ⟨mk, hmk⟩ := getElem?_of_lt (l := ms) (k := cl) (by rw [HMS.out.1]; exact hyo)
                  have hmkb := HMS.out.2 mk (List.mem_of_getElem? hmk)
                  have hor : bits .or .u64 (mk : Int) (((2 ^ k : Nat)) : Int) = (((mk ||| 2 ^ k : Nat)) : Int) := bits_or .u64 64 rfl rfl mk (2 ^ k) (by have : 2 ^ (k + 1) ≤ 2 ^ 5 := Nat.pow_le_pow_right (by decide) (by omega); omega) (by have : 2 ^ k ≤ 2 ^ 5 := Nat.pow_le_pow_right (by decide) (by omega); omega)
                  have hob : mk ||| 2 ^ k < 2 ^ (k + 1) := Nat.or_lt_two_pow hmkb (Nat.pow_lt_pow_right (by decide) (by omega))
                  obtain ⟨s2, hs2⟩ : ∃ z, z = 2 ^ k := ⟨_, rfl⟩
                  have hsh : (2 : Int) ^ k = (s2 : Int) := by rw [hs2]; simp
                  have hs32 : s2 ≤ 32 := by rw [hs2]; have : 2 ^ k ≤ 2 ^ 5 := Nat.pow_le_pow_right (by decide) (by omega); omega
                  have hsw : IntKind.u64.wrap (s2 : Int) = (s2 : Int) := IntWalk.u64_in _ (by omega)
                  rw [← hs2] at hor hob
                  obtain ⟨nw, hnw⟩ : ∃ z, z = mk ||| s2 := ⟨_, rfl⟩
                  rw [← hnw] at hor hob
                  have HMK := Lib.hid (And.intro hmk hob)
                  clear hc2 hy hyo hmk hmkb hob hs2 hnw
                  go_upto_region 14 with fail
                  clear p0 p1 p2 p3 p4 p5
                  obtain ⟨gc, hg_gc⟩ : ∃ g, g = wi.heap.size := ⟨_, rfl⟩
                  obtain ⟨v1, hw_v1⟩ : ∃ W, W = wi.alloc (.cells #[.int .i64 (cl : Int), .int .i64 cpr, .bool lm, .bool (rneg mx), .string (rnum mx), .string (rden mx)] 84) := ⟨_, rfl⟩
                  have HL_gc := Lib.hid (And.intro (by have := blk_lt HN.out; omega : gn < gc) (And.intro (by have := blk_lt HZ.out; omega : gz < gc) ((by have := HB.out.size; omega : w.heap.size ≤ gc))))
                  have HN1 : Hid (Bk gn (.cells #[.slice (some ⟨g', 0, none⟩) (k + 1) cap, .slice O m co, .slice (some ⟨I, 0, none⟩) m m] 88) v1) := by rw [hw_v1]; exact blk_next HN.out (bel_alloc _ _)
                  have HP1 : Hid (v1.ownsRow w.heap.size 33 3 (.slice (some ⟨g', 0, none⟩) (k + 1) cap) (k + 1) (((l.take (k + 1)).map procQ).flatMap rtV)) := by rw [hw_v1]; exact own_belowQ HP.out (bel_alloc _ _)
                  have HW1 : Hid (v1.ownsRow w.heap.size 33 3 (.slice O m co) m ((os).flatMap rtV)) := by rw [hw_v1]; exact own_belowQ HWm.out (bel_alloc _ _)
                  have HI1 : Hid (KRow .u64 108 v1 I ms) := by rw [hw_v1]; exact HI.out.next (bel_alloc _ _)
                  have HZ1 : Hid (Bk gz (.cells #[.slice none 0 0, .slice none 0 0, .slice none 0 0] 88) v1) := by rw [hw_v1]; exact blk_next HZ.out (bel_alloc _ _)
                  have HB1 : Hid (Below w.heap.size w v1) := by rw [hw_v1]; exact HB.out.trans ((bel_alloc _ _).mono HB.out.size)
                  have HC1 : Hid (Bk gc (.cells #[.int .i64 (cl : Int), .int .i64 cpr, .bool lm, .bool (rneg mx), .string (rnum mx), .string (rden mx)] 84) v1) := by rw [hw_v1, hg_gc]; exact blk_new _ _
                  rw [← hw_v1]
                  (try rw [← hg_gc])
                  clear hw_v1 hg_gc HN HP HWm HI HZ HB
                  obtain ⟨v2, hw_v2⟩ : ∃ W, W = v1.drew := ⟨_, rfl⟩
                  have HN2 : Hid (Bk gn (.cells #[.slice (some ⟨g', 0, none⟩) (k + 1) cap, .slice O m co, .slice (some ⟨I, 0, none⟩) m m] 88) v2) := by rw [hw_v2]; exact HN1.out
                  have HP2 : Hid (v2.ownsRow w.heap.size 33 3 (.slice (some ⟨g', 0, none⟩) (k + 1) cap) (k + 1) (((l.take (k + 1)).map procQ).flatMap rtV)) := by rw [hw_v2]; exact HP1.out
                  have HW2 : Hid (v2.ownsRow w.heap.size 33 3 (.slice O m co) m ((os).flatMap rtV)) := by rw [hw_v2]; exact HW1.out
                  have HI2 : Hid (KRow .u64 108 v2 I ms) := by rw [hw_v2]; exact HI1.out
                  have HZ2 : Hid (Bk gz (.cells #[.slice none 0 0, .slice none 0 0, .slice none 0 0] 88) v2) := by rw [hw_v2]; exact HZ1.out
                  have HB2 : Hid (Below w.heap.size w v2) := by rw [hw_v2]; exact HB1.out.drew
                  have HC2 : Hid (Bk gc (.cells #[.int .i64 (cl : Int), .int .i64 cpr, .bool lm, .bool (rneg mx), .string (rnum mx), .string (rden mx)] 84) v2) := by rw [hw_v2]; exact HC1.out
                  have hS1 : (AndW (Bk gn (.cells #[.slice (some ⟨g', 0, none⟩) (k + 1) cap, .slice O m co, .slice (some ⟨I, 0, none⟩) m m] 88)) (Bk gc (.cells #[.int .i64 (cl : Int), .int .i64 cpr, .bool lm, .bool (rneg mx), .string (rnum mx), .string (rden mx)] 84))) v2 := ⟨HN2.out, HC2.out⟩
                  refine wp_region_held_drew (S := (AndW (Bk gn (.cells #[.slice (some ⟨g', 0, none⟩) (k + 1) cap, .slice O m co, .slice (some ⟨I, 0, none⟩) m m] 88)) (Bk gc (.cells #[.int .i64 (cl : Int), .int .i64 cpr, .bool lm, .bool (rneg mx), .string (rnum mx), .string (rden mx)] 84)))) (by kernel_rfl) (by rw [← hw_v2]; exact hS1) ?_
                  rw [← hw_v2]
                  intro _
                  clear hw_v2 HN1 HP1 HW1 HI1 HZ1 HB1 HC1
                  refine wpAnyH_take (i := 0) rfl (by kernel_rfl) (by kernel_rfl) (by kernel_rfl) (fun _ _ _ h => h) (Or.inl ⟨by kernel_rfl, (by intro w' _; go_simp; with_reducible rfl)⟩) hS1 ?_
                  go_simp
                  refine wpAnyH_take (i := 1) (v := .slice (some ⟨I, 0, none⟩) m m) rfl (by kernel_rfl) (by kernel_rfl) (by kernel_rfl) (fun _ _ _ h => h) (Or.inl ⟨by kernel_rfl, (by intro w' hw'; obtain ⟨k0, k1, k2, k3, k4, k5, k6⟩ := three_of hw'.1; go_simp)⟩) hS1 ?_
                  go_simp
                  refine wpAnyH_take (i := 2) rfl (by kernel_rfl) (by kernel_rfl) (by kernel_rfl) (fun _ _ _ h => h) (Or.inl ⟨by kernel_rfl, (by intro w' _; go_simp; with_reducible rfl)⟩) hS1 ?_
                  go_simp
                  refine wpAnyH_take (i := 3) (v := .int .i64 (cl : Int)) rfl (by kernel_rfl) (by kernel_rfl) (by kernel_rfl) (fun _ _ _ h => h) (Or.inl ⟨by kernel_rfl, (by intro w' hw'; obtain ⟨k0, k1, k2, k3, k4, k5⟩ := sixc_of hw'.2; go_simp)⟩) hS1 ?_
                  go_simp
                  refine wpAnyH_take (i := 4) rfl (by kernel_rfl) (by kernel_rfl) (by kernel_rfl) (fun _ _ _ h => h) (Or.inl ⟨by kernel_rfl, (by intro w' _; go_simp; with_reducible rfl)⟩) hS1 ?_
                  go_simp
                  refine wpAnyH_take (i := 6) rfl (by kernel_rfl) (by kernel_rfl) (by kernel_rfl) (fun _ _ _ h => h) (Or.inl ⟨by kernel_rfl, (by intro w' _; go_simp; with_reducible rfl)⟩) hS1 ?_
                  go_simp
                  refine wpAnyH_take (i := 7) (v := .int .u64 (s2 : Int)) rfl (by kernel_rfl) (by kernel_rfl) (by kernel_rfl) (fun _ _ _ h => h) (Or.inl ⟨by kernel_rfl, (by intro w' _; go_simp)⟩) hS1 ?_
                  go_simp
                  refine wpAnyH_ready (rs := [5]) (by kernel_rfl) (by simp) ?_
                  refine AllReadyH.cons rfl (fun K hK => ?_) AllReadyH.nil
                  have l0 := HI2.out.cell HMK.out.1
                  go_simp
                  clear l0
                  have hS2 : (AndW (Bk gn (.cells #[.slice (some ⟨g', 0, none⟩) (k + 1) cap, .slice O m co, .slice (some ⟨I, 0, none⟩) m m] 88)) (Bk gc (.cells #[.int .i64 (cl : Int), .int .i64 cpr, .bool lm, .bool (rneg mx), .string (rnum mx), .string (rden mx)] 84))) v2 := ⟨HN2.out, HC2.out⟩
                  refine hK.out _ _ hS2 (fun _ => ?_)
                  clear hK K
                  refine wpAnyH_take (i := 8) (v := .int .u64 (nw : Int)) rfl (by kernel_rfl) (by kernel_rfl) (by kernel_rfl) (fun _ _ _ h => h) (Or.inl ⟨by kernel_rfl, (by intro w' _; go_simp)⟩) hS2 ?_
                  go_simp
                  refine wpAnyH_take (i := 9) rfl (by kernel_rfl) (by kernel_rfl) (by kernel_rfl) (fun _ _ _ h => h) (Or.inl ⟨by kernel_rfl, (by intro w' _; go_simp; with_reducible rfl)⟩) hS2 ?_
                  go_simp
                  refine wpAnyH_ready (rs := [10]) (by kernel_rfl) (by simp) ?_
                  refine AllReadyH.cons rfl (fun K hK => ?_) AllReadyH.nil
                  have l0 := HI2.out.cell HMK.out.1
                  have f0 := HI2.out.frozen cl
                  have lf := HI2.out.lt
                  go_simp
                  clear l0 f0 lf
                  obtain ⟨wz, hwz⟩ : ∃ W, W = v2.setCell ⟨I, cl, none⟩ (.int .u64 (nw : Int)) := ⟨_, rfl⟩
                  have ho : Only I v2 wz := by rw [hwz]; exact (Only.refl _ _).setC _ _
                  have HIz : Hid (KRow .u64 108 wz I (ms.set cl nw)) := by rw [hwz]; exact HI2.out.set_ cl nw
                  obtain ⟨cI, hcI, _⟩ := HI2.out
                  have HNz : Hid (Bk gn (.cells #[.slice (some ⟨g', 0, none⟩) (k + 1) cap, .slice O m co, .slice (some ⟨I, 0, none⟩) m m] 88) wz) := blk_onlyW HN2.out ho (by have := HL_0.out; omega)
                  have HCz : Hid (Bk gc (.cells #[.int .i64 (cl : Int), .int .i64 cpr, .bool lm, .bool (rneg mx), .string (rnum mx), .string (rden mx)] 84) wz) := blk_onlyW HC2.out ho (blk_ne HC2.out hcI (by decide))
                  have HPz : Hid (wz.ownsRow w.heap.size 33 3 (.slice (some ⟨g', 0, none⟩) (k + 1) cap) (k + 1) (((l.take (k + 1)).map procQ).flatMap rtV)) := own_onlyB HP2.out ho hcI (by decide)
                  have HWz : Hid (wz.ownsRow w.heap.size 33 3 (.slice O m co) m ((os).flatMap rtV)) := own_onlyB HW2.out ho hcI (by decide)
                  have HZz : Hid (Bk gz (.cells #[.slice none 0 0, .slice none 0 0, .slice none 0 0] 88) wz) := blk_onlyW HZ2.out ho (by have := HL_0.out; omega)
                  have HBz : Hid (Below w.heap.size w wz) := HB2.out.trans (ho.at_ _ HB2.out.size (by have := HL_0.out; omega))
                  have HMSz : Hid ((ms.set cl nw).length = m ∧ ∀ x ∈ ms.set cl nw, x < 2 ^ (k + 1)) := ⟨by rw [List.length_set]; exact HMS.out.1, fun x hx => by
                    rcases List.mem_or_eq_of_mem_set hx with h | h
                    · exact HMS.out.2 x h
                    · rw [h]; exact HMK.out.2⟩
                  rw [← hwz]
                  clear hwz ho hcI
                  have hSz : (AndW (Bk gn (.cells #[.slice (some ⟨g', 0, none⟩) (k + 1) cap, .slice O m co, .slice (some ⟨I, 0, none⟩) m m] 88)) (Bk gc (.cells #[.int .i64 (cl : Int), .int .i64 cpr, .bool lm, .bool (rneg mx), .string (rnum mx), .string (rden mx)] 84))) wz := ⟨HNz.out, HCz.out⟩
                  refine hK.out _ _ hSz (fun _ => ?_)
                  clear hK K
                  refine wpAnyH_done (by kernel_rfl) ?_ _
                  (try go_wp2_with fail)
                  go_roundw
                  case measure => simp [intOf] <;> omega
                  case rel => exact ⟨q + 1, ms.set cl nw, by omega, by go_num, HNz, HPz, HWz, HMSz, HIz, HZz, HBz⟩
                · have hlt3 : ¬ (q : Int) < (chs.length : Int) := by omega
                  go_wp2_with fail
                  go_roundw
                  case measure => simp [intOf] <;> omega
                  case rel => exact ⟨k + 1, _, _, ms, by omega, by go_num, HN, HP, HWm, HMS, HI, HZ, HB, HAP2⟩
            · go_simp
              obtain ⟨gp, hg_gp⟩ : ∃ g, g = y3.heap.size := ⟨_, rfl⟩
              obtain ⟨y4, hw_y4⟩ : ∃ W, W = y3.alloc (.cells #[.bool (rneg v), .string (rnum v), .string (rden v)] 33) := ⟨_, rfl⟩
              have HL_gp := Lib.hid (And.intro (by have := blk_lt HN3.out; omega : gn < gp) (And.intro (by have := blk_lt HZ3.out; omega : gz < gp) (And.intro (by have := HB3.out.size; omega : w.heap.size ≤ gp) ((by have := blk_lt HT3.out; omega : gi < gp)))))
              have HN4 : Hid (Bk gn (.cells #[.slice P k cp, .slice O m co, .slice (some ⟨I, 0, none⟩) m m] 88) y4) := by rw [hw_y4]; exact blk_next HN3.out (bel_alloc _ _)
              have HP4 : Hid (y4.ownsRow w.heap.size 33 3 (.slice P k cp) k (((l.take k).map procQ).flatMap rtV)) := by rw [hw_y4]; exact own_belowQ HP3.out (bel_alloc _ _)
              have HW4 : Hid (y4.ownsRow w.heap.size 33 3 (.slice O m co) m ((os).flatMap rtV)) := by rw [hw_y4]; exact own_belowQ HW3.out (bel_alloc _ _)
              have HI4 : Hid (KRow .u64 108 y4 I ms) := by rw [hw_y4]; exact HI3.out.next (bel_alloc _ _)
              have HZ4 : Hid (Bk gz (.cells #[.slice none 0 0, .slice none 0 0, .slice none 0 0] 88) y4) := by rw [hw_y4]; exact blk_next HZ3.out (bel_alloc _ _)
              have HB4 : Hid (Below w.heap.size w y4) := by rw [hw_y4]; exact HB3.out.trans ((bel_alloc _ _).mono HB3.out.size)
              have HT4 : Hid (Bk gi (.cells #[.bool (rneg pr), .string (rnum pr), .string (rden pr), .bool (rneg co2), .string (rnum co2), .string (rden co2), .slice iA chs.length ic] 46) y4) := by rw [hw_y4]; exact blk_next HT3.out (bel_alloc _ _)
              have HQ4 : Hid (Bk gp (.cells #[.bool (rneg v), .string (rnum v), .string (rden v)] 33) y4) := by rw [hw_y4, hg_gp]; exact blk_new _ _
              rw [← hw_y4]
              (try rw [← hg_gp])
              clear hw_y4 hg_gp HN3 HP3 HW3 HI3 HZ3 HB3 HT3
              have hS3 : (Bk gi (.cells #[.bool (rneg pr), .string (rnum pr), .string (rden pr), .bool (rneg co2), .string (rnum co2), .string (rden co2), .slice iA chs.length ic] 46)) y4 := HT4.out
              refine hK.out _ _ hS3 (fun _ => ?_)
              clear hK K
              refine wpAnyH_ready (rs := [1]) (by kernel_rfl) (by simp) ?_
              refine AllReadyH.cons rfl (fun K hK => ?_) AllReadyH.nil
              obtain ⟨l0, l1, l2, l3, l4, l5, l6⟩ := three_of HN4.out
              go_simp
              clear l0 l1 l2 l3 l4 l5 l6
              have hS4 : (Bk gi (.cells #[.bool (rneg pr), .string (rnum pr), .string (rden pr), .bool (rneg co2), .string (rnum co2), .string (rden co2), .slice iA chs.length ic] 46)) y4 := HT4.out
              refine hK.out _ _ hS4 (fun _ => ?_)
              clear hK K
              refine wpAnyH_ready (rs := [5]) (by kernel_rfl) (by simp) ?_
              refine AllReadyH.cons rfl (fun K hK => ?_) AllReadyH.nil
              have hdummy := True.intro
              refine step_append_lies _ rfl (.tmp 39) (.tmp 42) 25 rfl w.heap.size 33 iq _ 3 40 Tryz.underlying25 HIQ.out.1 HIQ.out.2.1 HIQ.out.2.2.1 HIQ.out.2.2.2 rfl (by decide) (.slice P k cp) k (((l.take k).map procQ).flatMap rtV) (by simp [Act.eval, Act.put]) HP4.out ⟨gp, 0, none⟩ 1 1 (rtV v) (by simp [Act.eval, Act.put]) rfl (World.news_of_block HQ4.out) (by simp [Value.oneCell', rtV]) (by decide) (by simp only [maxLen]; omega) (by omega) HB4.out.size _ rfl ?_
              intro g' cap wp hown hgr hor hlt3
              have HNp : Hid (Bk gn (.cells #[.slice P k cp, .slice O m co, .slice (some ⟨I, 0, none⟩) m m] 88) wp) := blk_grownT HP4.out HN4.out (by decide) hgr
              have HZp : Hid (Bk gz (.cells #[.slice none 0 0, .slice none 0 0, .slice none 0 0] 88) wp) := blk_grownT HP4.out HZ4.out (by decide) hgr
              have HTp : Hid (Bk gi (.cells #[.bool (rneg pr), .string (rnum pr), .string (rden pr), .bool (rneg co2), .string (rnum co2), .string (rden co2), .slice iA chs.length ic] 46) wp) := blk_grownT HP4.out HT4.out (by decide) hgr
              have HIp : Hid (KRow .u64 108 wp I ms) := HI4.out.grownT HP4.out (by decide) hgr
              have HWp : Hid (wp.ownsRow w.heap.size 33 3 (.slice O m co) m ((os).flatMap rtV)) := HW4.out.kept hgr (by
                rcases ho2 : (Value.slice O m co).ownBlock with _ | g2
                · exact Or.inl rfl
                · exact Or.inr (fun e => HAP.out g2 ho2 e.symm))
              have HAP2 : Hid (∀ g, (Value.slice O m co).ownBlock = some g → (Value.slice (some ⟨g', 0, none⟩) (k + 1) cap).ownBlock ≠ some g) := fun g hg e => by
                have e2 : g' = g := Option.some.inj e
                subst e2
                rcases hor with hor | hor
                · exact HAP.out g' hg hor
                · have := (HW4.out.lt g' hg).2
                  omega
              have HBp : Hid (Below w.heap.size w wp) := HB4.out.grown hgr HB4.out.size (fun j hj => (HP4.out.lt j hj).1)
              have HPp : Hid (wp.ownsRow w.heap.size 33 3 (.slice (some ⟨g', 0, none⟩) (k + 1) cap) (k + 1) (((l.take (k + 1)).map procQ).flatMap rtV)) := by
                rw [HXO.out.2.2, ← HV.out, List.flatMap_append]
                exact hown
              clear hown hgr hor hlt3 hdummy HN4 HP4 HW4 HI4 HZ4 HB4 HT4 HQ4
              have hS97 : (Bk gi (.cells #[.bool (rneg pr), .string (rnum pr), .string (rden pr), .bool (rneg co2), .string (rnum co2), .string (rden co2), .slice iA chs.length ic] 46)) wp := HTp.out
              refine hK.out _ _ hS97 (fun _ => ?_)
              clear hK K
              refine wpAnyH_take (i := 6) rfl (by kernel_rfl) (by kernel_rfl) (by kernel_rfl) (fun _ _ _ h => h) (Or.inl ⟨by kernel_rfl, (by intro w' _; go_simp; with_reducible rfl)⟩) hS97 ?_
              go_simp
              refine wpAnyH_ready (rs := [7]) (by kernel_rfl) (by simp) ?_
              refine AllReadyH.cons rfl (fun K hK => ?_) AllReadyH.nil
              obtain ⟨l0, l1, l2, l3, l4, l5, l6⟩ := three_of HNp.out
              go_simp
              clear l0 l1 l2 l3 l4 l5 l6
              obtain ⟨wz, hwz⟩ : ∃ W, W = wp.setCell ⟨gn, 0, none⟩ (.slice (some ⟨g', 0, none⟩) (k + 1) cap) := ⟨_, rfl⟩
              have ho : Only gn wp wz := by rw [hwz]; exact (Only.refl _ _).setC _ _
              have HNz : Hid (Bk gn (.cells #[.slice (some ⟨g', 0, none⟩) (k + 1) cap, .slice O m co, .slice (some ⟨I, 0, none⟩) m m] 88) wz) := by rw [hwz]; exact heap_setCell_same _ gn 0 _ _ _ HNp.out
              have HPz : Hid (wz.ownsRow w.heap.size 33 3 (.slice (some ⟨g', 0, none⟩) (k + 1) cap) (k + 1) (((l.take (k + 1)).map procQ).flatMap rtV)) := own_onlyB HPp.out ho HNp.out (by decide)
              have HWz : Hid (wz.ownsRow w.heap.size 33 3 (.slice O m co) m ((os).flatMap rtV)) := own_onlyB HWp.out ho HNp.out (by decide)
              have HIz : Hid (KRow .u64 108 wz I ms) := HIp.out.onlyB ho HNp.out (by decide)
              have HZz : Hid (Bk gz (.cells #[.slice none 0 0, .slice none 0 0, .slice none 0 0] 88) wz) := blk_onlyW HZp.out ho (by have := HL_0.out; omega)
              have HTz : Hid (Bk gi (.cells #[.bool (rneg pr), .string (rnum pr), .string (rden pr), .bool (rneg co2), .string (rnum co2), .string (rden co2), .slice iA chs.length ic] 46) wz) := blk_onlyW HTp.out ho (by have := HL_gi.out; omega)
              have HBz : Hid (Below w.heap.size w wz) := HBp.out.trans (ho.at_ _ HBp.out.size (by have := HL_0.out; omega))
              rw [← hwz]
              clear hwz ho HNp HPp HWp HIp HZp HTp HBp
              have hS98 : (Bk gi (.cells #[.bool (rneg pr), .string (rnum pr), .string (rden pr), .bool (rneg co2), .string (rnum co2), .string (rden co2), .slice iA chs.length ic] 46)) wz := HTz.out
              refine hK.out _ _ hS98 (fun _ => ?_)
              clear hK K
              refine wpAnyH_done (by kernel_rfl) ?_ _
              obtain ⟨t0, t1, t2, t3, t4, t5, t6⟩ := seven_of HTz.out
              (try go_wp2_with fail)
              clear t0 t1 t2 t3 t4 t5 t6
              have HMS2 : Hid (ms.length = m ∧ ∀ x ∈ ms, x < 2 ^ (k + 1)) := ⟨HMS.out.1, fun x hx => by have := HMS.out.2 x hx; rw [Nat.pow_succ]; omega⟩
              go_loopw [48] (fun i2 wr => ∃ (q : Nat) (ms : List Nat), q ≤ chs.length ∧ i2 = .int .i64 (q : Int) ∧ Hid (Bk gn (.cells #[.slice (some ⟨g', 0, none⟩) (k + 1) cap, .slice O m co, .slice (some ⟨I, 0, none⟩) m m] 88) wr) ∧ Hid (wr.ownsRow w.heap.size 33 3 (.slice (some ⟨g', 0, none⟩) (k + 1) cap) (k + 1) (((l.take (k + 1)).map procQ).flatMap rtV)) ∧ Hid (wr.ownsRow w.heap.size 33 3 (.slice O m co) m ((os).flatMap rtV)) ∧ Hid (ms.length = m ∧ ∀ x ∈ ms, x < 2 ^ (k + 1)) ∧ Hid (KRow .u64 108 wr I ms) ∧ Hid (Bk gz (.cells #[.slice none 0 0, .slice none 0 0, .slice none 0 0] 88) wr) ∧ Hid (Below w.heap.size w wr)) (fun i2 _ => chs.length - (intOf i2).toNat)
              case atStart => exact ⟨0, ms, Nat.zero_le _, rfl, HNz, HPz, HWz, HMS2, HIz, HZz, HBz⟩
              case round =>
                clear HMS2 HMS HNz HPz HWz HIz HZz HTz HBz
                rename List Nat => ms0
                obtain ⟨q, ms, hq, rfl, HN, HP, HWm, HMS, HI, HZ, HB⟩ := hrel
                rename World => wi
                by_cases hql : q < chs.length
                · have hlt3 : (q : Int) < (chs.length : Int) := by omega
                  obtain ⟨y, hy⟩ := getElem?_of_lt (l := chs) (k := q) hql
                  have hyo := (HXO.out.1.chs y (List.mem_of_getElem? hy)).cl
                  obtain ⟨b2, off2, hA2, _, hc2⟩ := Rd.at_ (enc := chV) (fun _ => rfl) (HXO.out.2.1.next HB.out) hy
                  subst hA2
                  have p0 := hc2 0 _ rfl
                  have p1 := hc2 1 _ rfl
                  have p2 := hc2 2 _ rfl
                  have p3 := hc2 3 _ rfl
                  have p4 := hc2 4 _ rfl
                  have p5 := hc2 5 _ rfl
                  rw [Nat.add_zero] at p0
                  rw [← Nat.add_assoc] at p1 p2 p3 p4 p5
                  obtain ⟨cl, cpr, lm, mx⟩ := y
                  dsimp only at p0 p1 p2 p3 p4 p5 hyo
                  have hclm : (cl : Int) < (m : Int) := by omega
                  obtain ⟨mk, hmk⟩ := getElem?_of_lt (l := ms) (k := cl) (by rw [HMS.out.1]; exact hyo)
                  have hmkb := HMS.out.2 mk (List.mem_of_getElem? hmk)
                  have hor : bits .or .u64 (mk : Int) (((2 ^ k : Nat)) : Int) = (((mk ||| 2 ^ k : Nat)) : Int) := bits_or .u64 64 rfl rfl mk (2 ^ k) (by have : 2 ^ (k + 1) ≤ 2 ^ 5 := Nat.pow_le_pow_right (by decide) (by omega); omega) (by have : 2 ^ k ≤ 2 ^ 5 := Nat.pow_le_pow_right (by decide) (by omega); omega)
                  have hob : mk ||| 2 ^ k < 2 ^ (k + 1) := Nat.or_lt_two_pow hmkb (Nat.pow_lt_pow_right (by decide) (by omega))
                  obtain ⟨s2, hs2⟩ : ∃ z, z = 2 ^ k := ⟨_, rfl⟩
                  have hsh : (2 : Int) ^ k = (s2 : Int) := by rw [hs2]; simp
                  have hs32 : s2 ≤ 32 := by rw [hs2]; have : 2 ^ k ≤ 2 ^ 5 := Nat.pow_le_pow_right (by decide) (by omega); omega
                  have hsw : IntKind.u64.wrap (s2 : Int) = (s2 : Int) := IntWalk.u64_in _ (by omega)
                  rw [← hs2] at hor hob
                  obtain ⟨nw, hnw⟩ : ∃ z, z = mk ||| s2 := ⟨_, rfl⟩
                  rw [← hnw] at hor hob
                  have HMK := Lib.hid (And.intro hmk hob)
                  clear hc2 hy hyo hmk hmkb hob hs2 hnw
                  go_upto_region 14 with fail
                  clear p0 p1 p2 p3 p4 p5
                  obtain ⟨gc, hg_gc⟩ : ∃ g, g = wi.heap.size := ⟨_, rfl⟩
                  obtain ⟨v1, hw_v1⟩ : ∃ W, W = wi.alloc (.cells #[.int .i64 (cl : Int), .int .i64 cpr, .bool lm, .bool (rneg mx), .string (rnum mx), .string (rden mx)] 84) := ⟨_, rfl⟩
                  have HL_gc := Lib.hid (And.intro (by have := blk_lt HN.out; omega : gn < gc) (And.intro (by have := blk_lt HZ.out; omega : gz < gc) ((by have := HB.out.size; omega : w.heap.size ≤ gc))))
                  have HN1 : Hid (Bk gn (.cells #[.slice (some ⟨g', 0, none⟩) (k + 1) cap, .slice O m co, .slice (some ⟨I, 0, none⟩) m m] 88) v1) := by rw [hw_v1]; exact blk_next HN.out (bel_alloc _ _)
                  have HP1 : Hid (v1.ownsRow w.heap.size 33 3 (.slice (some ⟨g', 0, none⟩) (k + 1) cap) (k + 1) (((l.take (k + 1)).map procQ).flatMap rtV)) := by rw [hw_v1]; exact own_belowQ HP.out (bel_alloc _ _)
                  have HW1 : Hid (v1.ownsRow w.heap.size 33 3 (.slice O m co) m ((os).flatMap rtV)) := by rw [hw_v1]; exact own_belowQ HWm.out (bel_alloc _ _)
                  have HI1 : Hid (KRow .u64 108 v1 I ms) := by rw [hw_v1]; exact HI.out.next (bel_alloc _ _)
                  have HZ1 : Hid (Bk gz (.cells #[.slice none 0 0, .slice none 0 0, .slice none 0 0] 88) v1) := by rw [hw_v1]; exact blk_next HZ.out (bel_alloc _ _)
                  have HB1 : Hid (Below w.heap.size w v1) := by rw [hw_v1]; exact HB.out.trans ((bel_alloc _ _).mono HB.out.size)
                  have HC1 : Hid (Bk gc (.cells #[.int .i64 (cl : Int), .int .i64 cpr, .bool lm, .bool (rneg mx), .string (rnum mx), .string (rden mx)] 84) v1) := by rw [hw_v1, hg_gc]; exact blk_new _ _
                  rw [← hw_v1]
                  (try rw [← hg_gc])
                  clear hw_v1 hg_gc HN HP HWm HI HZ HB
                  obtain ⟨v2, hw_v2⟩ : ∃ W, W = v1.drew := ⟨_, rfl⟩
                  have HN2 : Hid (Bk gn (.cells #[.slice (some ⟨g', 0, none⟩) (k + 1) cap, .slice O m co, .slice (some ⟨I, 0, none⟩) m m] 88) v2) := by rw [hw_v2]; exact HN1.out
                  have HP2 : Hid (v2.ownsRow w.heap.size 33 3 (.slice (some ⟨g', 0, none⟩) (k + 1) cap) (k + 1) (((l.take (k + 1)).map procQ).flatMap rtV)) := by rw [hw_v2]; exact HP1.out
                  have HW2 : Hid (v2.ownsRow w.heap.size 33 3 (.slice O m co) m ((os).flatMap rtV)) := by rw [hw_v2]; exact HW1.out
                  have HI2 : Hid (KRow .u64 108 v2 I ms) := by rw [hw_v2]; exact HI1.out
                  have HZ2 : Hid (Bk gz (.cells #[.slice none 0 0, .slice none 0 0, .slice none 0 0] 88) v2) := by rw [hw_v2]; exact HZ1.out
                  have HB2 : Hid (Below w.heap.size w v2) := by rw [hw_v2]; exact HB1.out.drew
                  have HC2 : Hid (Bk gc (.cells #[.int .i64 (cl : Int), .int .i64 cpr, .bool lm, .bool (rneg mx), .string (rnum mx), .string (rden mx)] 84) v2) := by rw [hw_v2]; exact HC1.out
                  have hS1 : (AndW (Bk gn (.cells #[.slice (some ⟨g', 0, none⟩) (k + 1) cap, .slice O m co, .slice (some ⟨I, 0, none⟩) m m] 88)) (Bk gc (.cells #[.int .i64 (cl : Int), .int .i64 cpr, .bool lm, .bool (rneg mx), .string (rnum mx), .string (rden mx)] 84))) v2 := ⟨HN2.out, HC2.out⟩
                  refine wp_region_held_drew (S := (AndW (Bk gn (.cells #[.slice (some ⟨g', 0, none⟩) (k + 1) cap, .slice O m co, .slice (some ⟨I, 0, none⟩) m m] 88)) (Bk gc (.cells #[.int .i64 (cl : Int), .int .i64 cpr, .bool lm, .bool (rneg mx), .string (rnum mx), .string (rden mx)] 84)))) (by kernel_rfl) (by rw [← hw_v2]; exact hS1) ?_
                  rw [← hw_v2]
                  intro _
                  clear hw_v2 HN1 HP1 HW1 HI1 HZ1 HB1 HC1
                  refine wpAnyH_take (i := 0) rfl (by kernel_rfl) (by kernel_rfl) (by kernel_rfl) (fun _ _ _ h => h) (Or.inl ⟨by kernel_rfl, (by intro w' _; go_simp; with_reducible rfl)⟩) hS1 ?_
                  go_simp
                  refine wpAnyH_take (i := 1) (v := .slice (some ⟨I, 0, none⟩) m m) rfl (by kernel_rfl) (by kernel_rfl) (by kernel_rfl) (fun _ _ _ h => h) (Or.inl ⟨by kernel_rfl, (by intro w' hw'; obtain ⟨k0, k1, k2, k3, k4, k5, k6⟩ := three_of hw'.1; go_simp)⟩) hS1 ?_
                  go_simp
                  refine wpAnyH_take (i := 2) rfl (by kernel_rfl) (by kernel_rfl) (by kernel_rfl) (fun _ _ _ h => h) (Or.inl ⟨by kernel_rfl, (by intro w' _; go_simp; with_reducible rfl)⟩) hS1 ?_
                  go_simp
                  refine wpAnyH_take (i := 3) (v := .int .i64 (cl : Int)) rfl (by kernel_rfl) (by kernel_rfl) (by kernel_rfl) (fun _ _ _ h => h) (Or.inl ⟨by kernel_rfl, (by intro w' hw'; obtain ⟨k0, k1, k2, k3, k4, k5⟩ := sixc_of hw'.2; go_simp)⟩) hS1 ?_
                  go_simp
                  refine wpAnyH_take (i := 4) rfl (by kernel_rfl) (by kernel_rfl) (by kernel_rfl) (fun _ _ _ h => h) (Or.inl ⟨by kernel_rfl, (by intro w' _; go_simp; with_reducible rfl)⟩) hS1 ?_
                  go_simp
                  refine wpAnyH_take (i := 6) rfl (by kernel_rfl) (by kernel_rfl) (by kernel_rfl) (fun _ _ _ h => h) (Or.inl ⟨by kernel_rfl, (by intro w' _; go_simp; with_reducible rfl)⟩) hS1 ?_
                  go_simp
                  refine wpAnyH_take (i := 7) (v := .int .u64 (s2 : Int)) rfl (by kernel_rfl) (by kernel_rfl) (by kernel_rfl) (fun _ _ _ h => h) (Or.inl ⟨by kernel_rfl, (by intro w' _; go_simp)⟩) hS1 ?_
                  go_simp
                  refine wpAnyH_ready (rs := [5]) (by kernel_rfl) (by simp) ?_
                  refine AllReadyH.cons rfl (fun K hK => ?_) AllReadyH.nil
                  have l0 := HI2.out.cell HMK.out.1
                  go_simp
                  clear l0
                  have hS2 : (AndW (Bk gn (.cells #[.slice (some ⟨g', 0, none⟩) (k + 1) cap, .slice O m co, .slice (some ⟨I, 0, none⟩) m m] 88)) (Bk gc (.cells #[.int .i64 (cl : Int), .int .i64 cpr, .bool lm, .bool (rneg mx), .string (rnum mx), .string (rden mx)] 84))) v2 := ⟨HN2.out, HC2.out⟩
                  refine hK.out _ _ hS2 (fun _ => ?_)
                  clear hK K
                  refine wpAnyH_take (i := 8) (v := .int .u64 (nw : Int)) rfl (by kernel_rfl) (by kernel_rfl) (by kernel_rfl) (fun _ _ _ h => h) (Or.inl ⟨by kernel_rfl, (by intro w' _; go_simp)⟩) hS2 ?_
                  go_simp
                  refine wpAnyH_take (i := 9) rfl (by kernel_rfl) (by kernel_rfl) (by kernel_rfl) (fun _ _ _ h => h) (Or.inl ⟨by kernel_rfl, (by intro w' _; go_simp; with_reducible rfl)⟩) hS2 ?_
                  go_simp
                  refine wpAnyH_ready (rs := [10]) (by kernel_rfl) (by simp) ?_
                  refine AllReadyH.cons rfl (fun K hK => ?_) AllReadyH.nil
                  have l0 := HI2.out.cell HMK.out.1
                  have f0 := HI2.out.frozen cl
                  have lf := HI2.out.lt
                  go_simp
                  clear l0 f0 lf
                  obtain ⟨wz, hwz⟩ : ∃ W, W = v2.setCell ⟨I, cl, none⟩ (.int .u64 (nw : Int)) := ⟨_, rfl⟩
                  have ho : Only I v2 wz := by rw [hwz]; exact (Only.refl _ _).setC _ _
                  have HIz : Hid (KRow .u64 108 wz I (ms.set cl nw)) := by rw [hwz]; exact HI2.out.set_ cl nw
                  obtain ⟨cI, hcI, _⟩ := HI2.out
                  have HNz : Hid (Bk gn (.cells #[.slice (some ⟨g', 0, none⟩) (k + 1) cap, .slice O m co, .slice (some ⟨I, 0, none⟩) m m] 88) wz) := blk_onlyW HN2.out ho (by have := HL_0.out; omega)
                  have HCz : Hid (Bk gc (.cells #[.int .i64 (cl : Int), .int .i64 cpr, .bool lm, .bool (rneg mx), .string (rnum mx), .string (rden mx)] 84) wz) := blk_onlyW HC2.out ho (blk_ne HC2.out hcI (by decide))
                  have HPz : Hid (wz.ownsRow w.heap.size 33 3 (.slice (some ⟨g', 0, none⟩) (k + 1) cap) (k + 1) (((l.take (k + 1)).map procQ).flatMap rtV)) := own_onlyB HP2.out ho hcI (by decide)
                  have HWz : Hid (wz.ownsRow w.heap.size 33 3 (.slice O m co) m ((os).flatMap rtV)) := own_onlyB HW2.out ho hcI (by decide)
                  have HZz : Hid (Bk gz (.cells #[.slice none 0 0, .slice none 0 0, .slice none 0 0] 88) wz) := blk_onlyW HZ2.out ho (by have := HL_0.out; omega)
                  have HBz : Hid (Below w.heap.size w wz) := HB2.out.trans (ho.at_ _ HB2.out.size (by have := HL_0.out; omega))
                  have HMSz : Hid ((ms.set cl nw).length = m ∧ ∀ x ∈ ms.set cl nw, x < 2 ^ (k + 1)) := ⟨by rw [List.length_set]; exact HMS.out.1, fun x hx => by
                    rcases List.mem_or_eq_of_mem_set hx with h | h
                    · exact HMS.out.2 x h
                    · rw [h]; exact HMK.out.2⟩
                  rw [← hwz]
                  clear hwz ho hcI
                  have hSz : (AndW (Bk gn (.cells #[.slice (some ⟨g', 0, none⟩) (k + 1) cap, .slice O m co, .slice (some ⟨I, 0, none⟩) m m] 88)) (Bk gc (.cells #[.int .i64 (cl : Int), .int .i64 cpr, .bool lm, .bool (rneg mx), .string (rnum mx), .string (rden mx)] 84))) wz := ⟨HNz.out, HCz.out⟩
                  refine hK.out _ _ hSz (fun _ => ?_)
                  clear hK K
                  refine wpAnyH_done (by kernel_rfl) ?_ _
                  (try go_wp2_with fail)
                  go_roundw
                  case measure => simp [intOf] <;> omega
                  case rel => exact ⟨q + 1, ms.set cl nw, by omega, by go_num, HNz, HPz, HWz, HMSz, HIz, HZz, HBz⟩
                · have hlt3 : ¬ (q : Int) < (chs.length : Int) := by omega
                  go_wp2_with fail
                  go_roundw
                  case measure => simp [intOf] <;> omega
                  case rel => exact ⟨k + 1, _, _, ms, by omega, by go_num, HN, HP, HWm, HMS, HI, HZ, HB, HAP2⟩
        · have hlt2 : ¬ (k : Int) < (n : Int) := by omega
          obtain ⟨a0, a1, a2, af0, af1, af2, az⟩ := three_of HN.out
          obtain ⟨c0, c1, c2, fc0, fc1, fc2, hzc⟩ := three_of HZ.out
          have HK := Lib.hid (by omega : k = n)
          go_wp2_with fail
          have ho : Only gz wq (((wq.setCell ⟨gz, 0, none⟩ (.slice P k cp)).setCell ⟨gz, 1, none⟩ (.slice O m co)).setCell ⟨gz, 2, none⟩ (.slice (some ⟨I, 0, none⟩) m m)) := (((Only.refl _ _).setC _ _).setC _ _).setC _ _
          refine bodyPost_ret (v := .agg #[.slice P k cp, .slice O m co, .slice (some ⟨I, 0, none⟩) m m]) (by simp [results, Tryz.results28, go_sem, c0, c1, c2]) rfl ⟨P, cp, O, co, I, ms, by rw [HK.out], ?_, HMS.out.1, by rw [← HK.out]; exact HMS.out.2, HB.out.trans (ho.at_ _ HB.out.size (by have := HL_0.out; omega))⟩
          refine ⟨?_, ?_, HI.out.onlyB ho HZ.out (by decide), ?_⟩
          · have h1 := own_onlyB HP.out ho HZ.out (by decide)
            rw [List.take_of_length_le (by rw [← HRL.out.1]; omega)] at h1
            rw [show (l.map procQ).length = k by rw [List.length_map, ← HRL.out.1]; omega]
            exact Rd.of_own h1
          · have h1 := Rd.of_own (own_onlyB HWm.out ho HZ.out (by decide))
            rw [← HRL.out.2.2.2.1]
            exact h1
          · have h1 := HI.out.lt
            have h2 := ho.size
            exact Nat.lt_of_lt_of_le h1 h2

end Go.Proofs.YtjlicnhkemfmiaaGreatDoor

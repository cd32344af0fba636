/- TopSecured: the law returns true for every input, where the table of the trailing zeros is laid. -/
import Derived.Test.YtjlicnhkemfmiaaGreatDoorTsP
set_option linter.unusedVariables false
set_option linter.unusedSimpArgs false
namespace Go.Proofs.YtjlicnhkemfmiaaGreatDoor
open Go.RowKit

theorem Tryz.info_claim : (Tryz.prog.info? 40).map (fun i => (i.zero, i.size, i.bytes)) = some (some (.agg #[.int .i64 0, .int .i64 0, .bool false, .string ⟨#[]⟩, .string ⟨#[]⟩]), 5, 56) := by kernel_rfl
theorem blk_below {g B : Nat} {o : Obj} {W W' : World} (h : W.heap[g]? = some o) (hb : Below B W W') (hg : g < B) : W'.heap[g]? = some o := (hb.block g hg).trans h
theorem ItemsM.below {A : Option Addr} {l : List It} {W W' : World} (h : ItemsM A l W) (hb : Below W.heap.size W W') : ItemsM A l W' := h.next hb
theorem sum_addZ : ∀ (a b : List Rat), a.length = b.length → sumR (a.zipWith (· + ·) b) = sumR a + sumR b
  | [], [], _ => by simp only [List.zipWith_nil_left, sumR]; grind
  | [], _ :: _, h => by simp at h
  | _ :: _, [], h => by simp at h
  | x :: a, y :: b, h => by
    have := sum_addZ a b (by simpa using h)
    simp only [List.zipWith_cons_cons, sumR, this]; grind
def SumM (y3 : World) (gA gG : Nat) (u gt v : Rat) (s : Value) (W : World) : Prop :=
  ∃ gs, s = .pointer (some ⟨gs, 0, none⟩) ∧ Bk gs (.cells #[.bool (rneg v), .string (rnum v), .string (rden v)] 33) W ∧ Bk gA (.cells #[.bool (rneg u), .string (rnum u), .string (rden u)] 33) W ∧ Bk gG (.cells #[.bool (rneg gt), .string (rnum gt), .string (rden gt)] 33) W ∧ Below y3.heap.size y3 W ∧ gG < gs ∧ y3.heap.size ≤ gs
set_option maxHeartbeats 8000000 in
set_option maxRecDepth 100000 in
theorem topSecuredLaw (A1 : Option Addr) (c1 : Nat) (l1 : List W6) (A2 : Option Addr) (c2 : Nat) (l2 : List Int) (x3 : Nat) (w : World) (hT : TabW w) (r1 : Rd w w.heap.size 6 A1 l1.length (l1.flatMap u16V6)) (o1 : ∀ a ∈ l1, u16ok6 a) (g1 : l1.length ≤ maxLen) (r2 : Rd w w.heap.size 1 A2 l2.length (l2.flatMap u16W)) (o2 : ∀ a ∈ l2, u16b a) (g2 : l2.length ≤ maxLen) (b3 : x3 ≤ 65535) :
    Calls Tryz.prog 3 #[.slice A1 l1.length c1, .slice A2 l2.length c2, .int .u16 (x3 : Int)] w fun e w' => e = .returned (.bool true) ∧ Below w.heap.size w w' := by
  have HAM := Lib.hid (amounts_calls A2 l2.length c2 l2 w rfl r2 o2 g2)
  unfold AmsPost at HAM
  have HIT := Lib.hid (fun m W (hm : m ≤ 100) (hb : Below w.heap.size w W) => items_calls A1 l1.length c1 m l1 W rfl (r1.next hb) o1 g1 hm)
  unfold ItsPost at HIT
  have HTB : Hid (TabW w) := hT
  have HA9 := Lib.hid (fun W => amountN_calls x3 W b3)
  unfold AmtNN at HA9
  have HAW := Lib.hid (fun W => awakeC_calls W)
  obtain ⟨iq, hi, hz0, hz1, hz2⟩ := info_parts Tryz.info_claim
  have HIQ := Lib.hid (And.intro hi (And.intro hz0 (And.intro hz1 hz2)))
  obtain ⟨n1, hn1⟩ : ∃ n, n = l1.length := ⟨_, rfl⟩
  obtain ⟨n2, hn2⟩ : ∃ n, n = l2.length := ⟨_, rfl⟩
  rw [← hn1] at HIT ⊢
  rw [← hn2] at HAM ⊢
  clear r1 o1 g1 r2 o2 g2 b3 hT hi hz0 hz1 hz2 hn1 hn2
  go_enter Tryz.func3, Tryz.ntmps3
  go_wp2_with fail
  have HB0 : Hid (Below w.heap.size w w) := Below.refl _ _
  refine (HAM.out).mono ?_
  rintro e w1 ⟨Ao, co, os, rfl, hro, hol, hos, hb⟩
  have HB1 : Hid (Below w.heap.size w w1) := HB0.out.trans (hb.mono HB0.out.size)
  have HO1 : Hid (Rd w1 w1.heap.size 3 Ao os.length (os.flatMap rtV)) := hro
  have HOS := Lib.hid hos
  have hol6 : os.length ≤ 6 := hol
  clear hro hos hol HAM
  clear hb HB0
  obtain ⟨m, hm⟩ : ∃ m, m = os.length := ⟨_, rfl⟩
  have HM := Lib.hid hm
  rw [← hm]
  have hm6 : m ≤ 6 := by omega
  clear hm hol6
  go_wp2_with fail
  refine (HIT.out m _ (by omega) HB1.out).mono ?_
  rintro e w2 ⟨AI, cI, its, rfl, hmI, hil, hio, hb⟩
  have HB2 : Hid (Below w.heap.size w w2) := HB1.out.trans (hb.mono HB1.out.size)
  have HO2 : Hid (Rd w2 w2.heap.size 3 Ao os.length (os.flatMap rtV)) := HO1.out.next hb
  have HI2 : Hid (ItemsM AI its w2) := hmI
  have HIO := Lib.hid hio
  have hil4 : its.length ≤ 4 := hil
  clear hmI hio hil HIT
  clear hb HB1 HO1
  obtain ⟨n, hn⟩ : ∃ n, n = its.length := ⟨_, rfl⟩
  have HN := Lib.hid hn
  rw [← hn]
  have hn4 : n ≤ 4 := by omega
  clear hn hil4
  have HTO := Lib.hid (fun W (hT : TabW W) (h1 : ItemsM AI its W) (h2 : Rd W W.heap.size 3 Ao os.length (os.flatMap rtV)) => mTotals_calls AI Ao n cI m co its os W hT HN.out hn4 h1 HIO.out HM.out (by omega) h2 HOS.out)
  unfold TotalsPost at HTO
  go_wp2_with fail
  refine (HTO.out _ (HTB.out.next HB2.out) HI2.out HO2.out).mono ?_
  rintro e w3 ⟨T, ts, rfl, hrats, htl, htot, htz, hb⟩
  have HB3 : Hid (Below w.heap.size w w3) := HB2.out.trans (hb.mono HB2.out.size)
  have HO3 : Hid (Rd w3 w3.heap.size 3 Ao os.length (os.flatMap rtV)) := HO2.out.next hb
  have HI3 : Hid (ItemsM AI its w3) := HI2.out.next hb
  have HT3 : Hid (RatsB T ts w3) := hrats
  have HTS := Lib.hid (And.intro htl (And.intro htot htz))
  clear hrats htl htot htz HTO HTB
  clear hb HB2 HO2 HI2
  have HBW3 : Hid (Below w.heap.size w w3) := HB3
  go_wp2_with fail
  have HC0 : Hid (Below w3.heap.size w3 w3) := Below.refl _ _
  obtain ⟨gx, hg_gx⟩ : ∃ g, g = w3.heap.size := ⟨_, rfl⟩
  obtain ⟨v1, hw_v1⟩ : ∃ W, W = w3.alloc (.cells #[.bool false, .string ⟨#[]⟩, .string ⟨#[]⟩, .slice none 0 0, .slice none 0 0] 37) := ⟨_, rfl⟩
  have HL_gx := Lib.hid ((by have := HC0.out.size; omega : w3.heap.size ≤ gx))
  have HB1 : Hid (Below w3.heap.size w3 v1) := by rw [hw_v1]; exact HC0.out.trans ((bel_alloc _ _).mono HC0.out.size)
  have HE1 : Hid (Bk gx (.cells #[.bool false, .string ⟨#[]⟩, .string ⟨#[]⟩, .slice none 0 0, .slice none 0 0] 37) v1) := by rw [hw_v1, hg_gx]; exact blk_new _ _
  rw [← hw_v1]
  (try rw [← hg_gx])
  clear hw_v1 hg_gx HC0
  go_loopw [48] (fun i wr => ∃ (k : Nat) (cA : Option Addr) (cc : Nat), k ≤ m ∧ i = .int .i64 (k : Int) ∧ Hid (Bk gx (.cells #[.bool false, .string ⟨#[]⟩, .string ⟨#[]⟩, .slice cA k cc, .slice none 0 0] 37) wr) ∧ Hid (wr.ownsRow w3.heap.size 40 5 (.slice cA k cc) k ((((restL os ts).take k).map cl2).flatMap clV)) ∧ Hid (Below w3.heap.size w3 wr)) (fun i _ => m - (intOf i).toNat)
  case atStart => exact ⟨0, none, 0, Nat.zero_le _, rfl, HE1, World.ownsRow_nil _ _ _ _, HB1⟩
  case round =>
    clear HE1 HB1
    obtain ⟨k, cA, cc, hk, rfl, HE, HW, HB⟩ := hrel
    rename World => wo
    by_cases hlt : k < m
    · have hlt2 : (k : Int) < (m : Int) := by omega
      obtain ⟨o, ho⟩ := getElem?_of_lt (l := os) (k := k) (by rw [← HM.out]; exact hlt)
      obtain ⟨tt, htt⟩ := getElem?_of_lt (l := ts) (k := k) (by rw [HTS.out.1]; exact hlt)
      have hrk := restL_at ho htt
      have hs' := fun W => pSubQ_calls o tt 8 300 W (HOS.out o (List.mem_of_getElem? ho)).1 (HTS.out.2.2 tt (List.mem_of_getElem? htt)) (by decide)
      have htk : ((restL os ts).take (k + 1)).map cl2 = ((restL os ts).take k).map cl2 ++ [cl2 (o - tt)] := by rw [List.take_add_one, hrk]; simp
      obtain ⟨q, hq⟩ : ∃ q, q = o - tt := ⟨_, rfl⟩
      rw [← hq] at hs' htk
      unfold ratV at hs'
      have HSB := Lib.hid hs'
      have HTK := Lib.hid htk
      obtain ⟨ob, ooff, hO, hob, hoc⟩ := Rd.at_ (enc := rtV) rtV_len (HO3.out) ho
      have n0 := hoc 0 _ rfl
      have n1' := hoc 1 _ rfl
      have n2' := hoc 2 _ rfl
      rw [Nat.add_zero] at n0
      rw [← Nat.add_assoc] at n1' n2'
      have HQO : Hid (QC ob (ooff + k * 3) o w3) := ⟨n0, n1', n2', hob⟩
      obtain ⟨m0, m1, m2⟩ := HT3.out.cells htt
      have HQT : Hid (QC T (k * 3) tt w3) := ⟨m0, m1, m2, blk_lt HT3.out⟩
      have HOA := Lib.hid hO
      clear hoc hob n0 n1' n2' m0 m1 m2 hs' htk hrk hq ho htt
      subst hO
      have HQo : Hid (QC ob (ooff + k * 3) o wo) := HQO.out.next HB.out
      have HQt : Hid (QC T (k * 3) tt wo) := HQT.out.next HB.out
      go_upto_region 10 with fail
      obtain ⟨x1, hw_x1⟩ : ∃ W, W = wo.drew := ⟨_, rfl⟩
      have HE1 : Hid (Bk gx (.cells #[.bool false, .string ⟨#[]⟩, .string ⟨#[]⟩, .slice cA k cc, .slice none 0 0] 37) x1) := by rw [hw_x1]; exact HE.out
      have HW1 : Hid (x1.ownsRow w3.heap.size 40 5 (.slice cA k cc) k ((((restL os ts).take k).map cl2).flatMap clV)) := by rw [hw_x1]; exact HW.out
      have HB1 : Hid (Below w3.heap.size w3 x1) := by rw [hw_x1]; exact HB.out.drew
      have HP1 : Hid (QC ob (ooff + k * 3) o x1) := by rw [hw_x1]; exact HQo.out.drew
      have HQ1 : Hid (QC T (k * 3) tt x1) := by rw [hw_x1]; exact HQt.out.drew
      have hS1 : (AndW (QC ob (ooff + k * 3) o) (QC T (k * 3) tt)) x1 := ⟨HP1.out, HQ1.out⟩
      refine wp_region_held_drew (S := (AndW (QC ob (ooff + k * 3) o) (QC T (k * 3) tt))) (by kernel_rfl) (by rw [← hw_x1]; exact hS1) ?_
      rw [← hw_x1]
      intro _
      clear hw_x1 HE HW HB HQo HQt
      refine wpAnyH_take (i := 0) rfl (by kernel_rfl) (by kernel_rfl) (by kernel_rfl) (fun _ _ _ h => h) (Or.inl ⟨by kernel_rfl, (by intro w' _; go_simp; with_reducible rfl)⟩) hS1 ?_
      go_simp
      refine wpAnyH_take (i := 2) rfl (by kernel_rfl) (by kernel_rfl) (by kernel_rfl) (fun _ _ _ h => h) (Or.inl ⟨by kernel_rfl, (by intro w' _; go_simp; with_reducible rfl)⟩) hS1 ?_
      go_simp
      refine wpAnyH_take (i := 3) rfl (by kernel_rfl) (by kernel_rfl) (by kernel_rfl) (fun _ _ _ h => h) (Or.inl ⟨by kernel_rfl, (by intro w' _; go_simp; with_reducible rfl)⟩) hS1 ?_
      go_simp
      refine wpAnyH_take (i := 4) rfl (by kernel_rfl) (by kernel_rfl) (by kernel_rfl) (fun _ _ _ h => h) (Or.inl ⟨by kernel_rfl, (by intro w' _; go_simp; with_reducible rfl)⟩) hS1 ?_
      go_simp
      refine wpAnyH_take (i := 5) (v := .agg #[.bool (rneg o), .string (rnum o), .string (rden o)]) rfl (by kernel_rfl) (by kernel_rfl) (by kernel_rfl) (fun _ _ _ h => h) (Or.inl ⟨by kernel_rfl, (by intro w' hw'; obtain ⟨k0, k1, k2, _⟩ := hw'.1; go_simp)⟩) hS1 ?_
      go_simp
      refine wpAnyH_take (i := 6) rfl (by kernel_rfl) (by kernel_rfl) (by kernel_rfl) (fun _ _ _ h => h) (Or.inl ⟨by kernel_rfl, (by intro w' _; go_simp; with_reducible rfl)⟩) hS1 ?_
      go_simp
      refine wpAnyH_take (i := 7) rfl (by kernel_rfl) (by kernel_rfl) (by kernel_rfl) (fun _ _ _ h => h) (Or.inl ⟨by kernel_rfl, (by intro w' _; go_simp; with_reducible rfl)⟩) hS1 ?_
      go_simp
      refine wpAnyH_take (i := 8) rfl (by kernel_rfl) (by kernel_rfl) (by kernel_rfl) (fun _ _ _ h => h) (Or.inl ⟨by kernel_rfl, (by intro w' _; go_simp; with_reducible rfl)⟩) hS1 ?_
      go_simp
      refine wpAnyH_take (i := 9) (v := .agg #[.bool (rneg tt), .string (rnum tt), .string (rden tt)]) rfl (by kernel_rfl) (by kernel_rfl) (by kernel_rfl) (fun _ _ _ h => h) (Or.inl ⟨by kernel_rfl, (by intro w' hw'; obtain ⟨k0, k1, k2, _⟩ := hw'.2; go_simp)⟩) hS1 ?_
      go_simp
      refine wpAnyH_ready (rs := [1, 10]) (by kernel_rfl) (by simp) ?_
      refine AllReadyH.cons rfl (fun K hK => ?_) (AllReadyH.cons rfl (fun K hK => ?_) AllReadyH.nil)
      · obtain ⟨l0, l1, l2, l3, l4⟩ := EBox.cells (q := gx) HE1.out
        go_simp
        clear l0 l1 l2 l3 l4
        have hS2 : (AndW (QC ob (ooff + k * 3) o) (QC T (k * 3) tt)) x1 := ⟨HP1.out, HQ1.out⟩
        refine hK.out _ _ hS2 (fun _ => ?_)
        clear hK K
        refine wpAnyH_ready (rs := [10]) (by kernel_rfl) (by simp) ?_
        refine AllReadyH.cons rfl (fun K hK => ?_) AllReadyH.nil
        go_simp
        refine (HSB.out _).mono ?_
        rintro e x2 ⟨rfl, hb⟩
        have HE2 : Hid (Bk gx (.cells #[.bool false, .string ⟨#[]⟩, .string ⟨#[]⟩, .slice cA k cc, .slice none 0 0] 37) x2) := blk_next HE1.out hb
        have HW2 : Hid (x2.ownsRow w3.heap.size 40 5 (.slice cA k cc) k ((((restL os ts).take k).map cl2).flatMap clV)) := own_belowQ HW1.out hb
        have HB2 : Hid (Below w3.heap.size w3 x2) := HB1.out.trans (hb.mono HB1.out.size)
        have HP2 : Hid (QC ob (ooff + k * 3) o x2) := HP1.out.next hb
        have HQ2 : Hid (QC T (k * 3) tt x2) := HQ1.out.next hb
        clear hb HE1 HW1 HB1 HP1 HQ1
        have hS3 : (AndW (QC ob (ooff + k * 3) o) (QC T (k * 3) tt)) x2 := ⟨HP2.out, HQ2.out⟩
        refine hK.out _ _ hS3 (fun _ => ?_)
        clear hK K
        refine wpAnyH_take (i := 11) rfl (by kernel_rfl) (by kernel_rfl) (by kernel_rfl) (fun _ _ _ h => h) (Or.inl ⟨by kernel_rfl, (by intro w' _; go_simp; with_reducible rfl)⟩) hS3 ?_
        go_simp
        refine wpAnyH_ready (rs := [12]) (by kernel_rfl) (by simp) ?_
        refine AllReadyH.cons rfl (fun K hK => ?_) AllReadyH.nil
        go_simp
        obtain ⟨gp, hg_gp⟩ : ∃ g, g = x2.heap.size := ⟨_, rfl⟩
        obtain ⟨x3, hw_x3⟩ : ∃ W, W = x2.alloc (.cells #[.int .i64 (-1), .int .i64 2, .bool (rneg q), .string (rnum q), .string (rden q)] 40) := ⟨_, rfl⟩
        have HL_gp := Lib.hid (And.intro (by have := blk_lt HE2.out; omega : gx < gp) ((by have := HB2.out.size; omega : w3.heap.size ≤ gp)))
        have HE3 : Hid (Bk gx (.cells #[.bool false, .string ⟨#[]⟩, .string ⟨#[]⟩, .slice cA k cc, .slice none 0 0] 37) x3) := by rw [hw_x3]; exact blk_next HE2.out (bel_alloc _ _)
        have HW3 : Hid (x3.ownsRow w3.heap.size 40 5 (.slice cA k cc) k ((((restL os ts).take k).map cl2).flatMap clV)) := by rw [hw_x3]; exact own_belowQ HW2.out (bel_alloc _ _)
        have HB3 : Hid (Below w3.heap.size w3 x3) := by rw [hw_x3]; exact HB2.out.trans ((bel_alloc _ _).mono HB2.out.size)
        have HP3 : Hid (QC ob (ooff + k * 3) o x3) := by rw [hw_x3]; exact HP2.out.next (bel_alloc _ _)
        have HQ3 : Hid (QC T (k * 3) tt x3) := by rw [hw_x3]; exact HQ2.out.next (bel_alloc _ _)
        have HN3 : Hid (Bk gp (.cells #[.int .i64 (-1), .int .i64 2, .bool (rneg q), .string (rnum q), .string (rden q)] 40) x3) := by rw [hw_x3, hg_gp]; exact blk_new _ _
        rw [← hw_x3]
        (try rw [← hg_gp])
        clear hw_x3 hg_gp HE2 HW2 HB2 HP2 HQ2
        have hS4 : (AndW (QC ob (ooff + k * 3) o) (QC T (k * 3) tt)) x3 := ⟨HP3.out, HQ3.out⟩
        refine hK.out _ _ hS4 (fun _ => ?_)
        clear hK K
        refine wpAnyH_ready (rs := [13]) (by kernel_rfl) (by simp) ?_
        refine AllReadyH.cons rfl (fun K hK => ?_) AllReadyH.nil
        refine step_append_lies _ rfl (.tmp 52) (.tmp 63) 34 rfl w3.heap.size 40 iq _ 5 56 Tryz.underlying34 HIQ.out.1 HIQ.out.2.1 HIQ.out.2.2.1 HIQ.out.2.2.2 rfl (by decide) (.slice cA k cc) k ((((restL os ts).take k).map cl2).flatMap clV) (by simp [Act.eval, Act.put]) HW3.out ⟨gp, 0, none⟩ 1 1 (clV (cl2 q)) (by simp [Act.eval, Act.put]) rfl (World.news_of_block HN3.out) (by simp [Value.oneCell', clV]) (by decide) (by simp only [maxLen]; omega) (by omega) HB3.out.size _ rfl ?_
        intro g' cap wp hown hgr hor hlt3
        have HEp : Hid (Bk gx (.cells #[.bool false, .string ⟨#[]⟩, .string ⟨#[]⟩, .slice cA k cc, .slice none 0 0] 37) wp) := blk_grownT HW3.out HE3.out (by decide) hgr
        have HBp : Hid (Below w3.heap.size w3 wp) := HB3.out.grown hgr HB3.out.size (fun j hj => (HW3.out.lt j hj).1)
        have HQop : Hid (QC ob (ooff + k * 3) o wp) := HQO.out.next HBp.out
        have HQtp : Hid (QC T (k * 3) tt wp) := HQT.out.next HBp.out
        have HWp : Hid (wp.ownsRow w3.heap.size 40 5 (.slice (some ⟨g', 0, none⟩) (k + 1) cap) (k + 1) ((((restL os ts).take (k + 1)).map cl2).flatMap clV)) := by rw [HTK.out, List.flatMap_append]; exact hown
        clear hown hgr hor hlt3 HE3 HW3 HB3 HP3 HQ3 HN3
        have hS97 : (AndW (QC ob (ooff + k * 3) o) (QC T (k * 3) tt)) wp := ⟨HQop.out, HQtp.out⟩
        refine hK.out _ _ hS97 (fun _ => ?_)
        clear hK K
        refine wpAnyH_take (i := 14) rfl (by kernel_rfl) (by kernel_rfl) (by kernel_rfl) (fun _ _ _ h => h) (Or.inl ⟨by kernel_rfl, (by intro w' _; go_simp; with_reducible rfl)⟩) hS97 ?_
        go_simp
        refine wpAnyH_ready (rs := [15]) (by kernel_rfl) (by simp) ?_
        refine AllReadyH.cons rfl (fun K hK => ?_) AllReadyH.nil
        obtain ⟨l0, l1, l2, l3, l4⟩ := EBox.cells (q := gx) HEp.out
        obtain ⟨f0, f1, f2, f3, f4, f5, f6, fz⟩ := sevenf_of HEp.out
        go_simp
        clear l0 l1 l2 l3 l4 f0 f1 f2 f3 f4 f5 f6 fz
        obtain ⟨wz, hwz⟩ : ∃ W, W = wp.setCell ⟨gx, 3, none⟩ (.slice (some ⟨g', 0, none⟩) (k + 1) cap) := ⟨_, rfl⟩
        have ho : Only gx wp wz := by rw [hwz]; exact (Only.refl _ _).setC _ _
        have HEz : Hid (Bk gx (.cells #[.bool false, .string ⟨#[]⟩, .string ⟨#[]⟩, .slice (some ⟨g', 0, none⟩) (k + 1) cap, .slice none 0 0] 37) wz) := by rw [hwz]; exact heap_setCell_same _ gx 3 _ _ _ HEp.out
        have HWz : Hid (wz.ownsRow w3.heap.size 40 5 (.slice (some ⟨g', 0, none⟩) (k + 1) cap) (k + 1) ((((restL os ts).take (k + 1)).map cl2).flatMap clV)) := own_onlyT HWp.out ho HEp.out (by decide)
        have HBz : Hid (Below w3.heap.size w3 wz) := HBp.out.trans (ho.at_ _ HBp.out.size (by have := HL_gx.out; omega))
        have hS98 : (AndW (QC ob (ooff + k * 3) o) (QC T (k * 3) tt)) wz := ⟨HQO.out.next HBz.out, HQT.out.next HBz.out⟩
        rw [← hwz]
        clear hwz ho HEp HWp HBp HQop HQtp
        refine hK.out _ _ hS98 (fun _ => ?_)
        clear hK K
        refine wpAnyH_done (by kernel_rfl) ?_ _
        (try go_wp2_with fail)
        go_roundw
        case measure => simp [intOf] <;> omega
        case rel => exact ⟨k + 1, _, _, by omega, by go_num, HEz, HWz, HBz⟩
      · go_simp
        refine (HSB.out _).mono ?_
        rintro e x2 ⟨rfl, hb⟩
        have HE2 : Hid (Bk gx (.cells #[.bool false, .string ⟨#[]⟩, .string ⟨#[]⟩, .slice cA k cc, .slice none 0 0] 37) x2) := blk_next HE1.out hb
        have HW2 : Hid (x2.ownsRow w3.heap.size 40 5 (.slice cA k cc) k ((((restL os ts).take k).map cl2).flatMap clV)) := own_belowQ HW1.out hb
        have HB2 : Hid (Below w3.heap.size w3 x2) := HB1.out.trans (hb.mono HB1.out.size)
        have HP2 : Hid (QC ob (ooff + k * 3) o x2) := HP1.out.next hb
        have HQ2 : Hid (QC T (k * 3) tt x2) := HQ1.out.next hb
        clear hb HE1 HW1 HB1 HP1 HQ1
        have hS2 : (AndW (QC ob (ooff + k * 3) o) (QC T (k * 3) tt)) x2 := ⟨HP2.out, HQ2.out⟩
        refine hK.out _ _ hS2 (fun _ => ?_)
        clear hK K
        refine wpAnyH_take (i := 11) rfl (by kernel_rfl) (by kernel_rfl) (by kernel_rfl) (fun _ _ _ h => h) (Or.inl ⟨by kernel_rfl, (by intro w' _; go_simp; with_reducible rfl)⟩) hS2 ?_
        go_simp
        refine wpAnyH_ready (rs := [1, 12]) (by kernel_rfl) (by simp) ?_
        refine AllReadyH.cons rfl (fun K hK => ?_) (AllReadyH.cons rfl (fun K hK => ?_) AllReadyH.nil)
        · obtain ⟨l0, l1, l2, l3, l4⟩ := EBox.cells (q := gx) HE2.out
          go_simp
          clear l0 l1 l2 l3 l4
          have hS3 : (AndW (QC ob (ooff + k * 3) o) (QC T (k * 3) tt)) x2 := ⟨HP2.out, HQ2.out⟩
          refine hK.out _ _ hS3 (fun _ => ?_)
          clear hK K
          refine wpAnyH_ready (rs := [12]) (by kernel_rfl) (by simp) ?_
          refine AllReadyH.cons rfl (fun K hK => ?_) AllReadyH.nil
          go_simp
          obtain ⟨gp, hg_gp⟩ : ∃ g, g = x2.heap.size := ⟨_, rfl⟩
          obtain ⟨x3, hw_x3⟩ : ∃ W, W = x2.alloc (.cells #[.int .i64 (-1), .int .i64 2, .bool (rneg q), .string (rnum q), .string (rden q)] 40) := ⟨_, rfl⟩
          have HL_gp := Lib.hid (And.intro (by have := blk_lt HE2.out; omega : gx < gp) ((by have := HB2.out.size; omega : w3.heap.size ≤ gp)))
          have HE3 : Hid (Bk gx (.cells #[.bool false, .string ⟨#[]⟩, .string ⟨#[]⟩, .slice cA k cc, .slice none 0 0] 37) x3) := by rw [hw_x3]; exact blk_next HE2.out (bel_alloc _ _)
          have HW3 : Hid (x3.ownsRow w3.heap.size 40 5 (.slice cA k cc) k ((((restL os ts).take k).map cl2).flatMap clV)) := by rw [hw_x3]; exact own_belowQ HW2.out (bel_alloc _ _)
          have HB3 : Hid (Below w3.heap.size w3 x3) := by rw [hw_x3]; exact HB2.out.trans ((bel_alloc _ _).mono HB2.out.size)
          have HP3 : Hid (QC ob (ooff + k * 3) o x3) := by rw [hw_x3]; exact HP2.out.next (bel_alloc _ _)
          have HQ3 : Hid (QC T (k * 3) tt x3) := by rw [hw_x3]; exact HQ2.out.next (bel_alloc _ _)
          have HN3 : Hid (Bk gp (.cells #[.int .i64 (-1), .int .i64 2, .bool (rneg q), .string (rnum q), .string (rden q)] 40) x3) := by rw [hw_x3, hg_gp]; exact blk_new _ _
          rw [← hw_x3]
          (try rw [← hg_gp])
          clear hw_x3 hg_gp HE2 HW2 HB2 HP2 HQ2
          have hS4 : (AndW (QC ob (ooff + k * 3) o) (QC T (k * 3) tt)) x3 := ⟨HP3.out, HQ3.out⟩
          refine hK.out _ _ hS4 (fun _ => ?_)
          clear hK K
          refine wpAnyH_ready (rs := [13]) (by kernel_rfl) (by simp) ?_
          refine AllReadyH.cons rfl (fun K hK => ?_) AllReadyH.nil
          refine step_append_lies _ rfl (.tmp 52) (.tmp 63) 34 rfl w3.heap.size 40 iq _ 5 56 Tryz.underlying34 HIQ.out.1 HIQ.out.2.1 HIQ.out.2.2.1 HIQ.out.2.2.2 rfl (by decide) (.slice cA k cc) k ((((restL os ts).take k).map cl2).flatMap clV) (by simp [Act.eval, Act.put]) HW3.out ⟨gp, 0, none⟩ 1 1 (clV (cl2 q)) (by simp [Act.eval, Act.put]) rfl (World.news_of_block HN3.out) (by simp [Value.oneCell', clV]) (by decide) (by simp only [maxLen]; omega) (by omega) HB3.out.size _ rfl ?_
          intro g' cap wp hown hgr hor hlt3
          have HEp : Hid (Bk gx (.cells #[.bool false, .string ⟨#[]⟩, .string ⟨#[]⟩, .slice cA k cc, .slice none 0 0] 37) wp) := blk_grownT HW3.out HE3.out (by decide) hgr
          have HBp : Hid (Below w3.heap.size w3 wp) := HB3.out.grown hgr HB3.out.size (fun j hj => (HW3.out.lt j hj).1)
          have HQop : Hid (QC ob (ooff + k * 3) o wp) := HQO.out.next HBp.out
          have HQtp : Hid (QC T (k * 3) tt wp) := HQT.out.next HBp.out
          have HWp : Hid (wp.ownsRow w3.heap.size 40 5 (.slice (some ⟨g', 0, none⟩) (k + 1) cap) (k + 1) ((((restL os ts).take (k + 1)).map cl2).flatMap clV)) := by rw [HTK.out, List.flatMap_append]; exact hown
          clear hown hgr hor hlt3 HE3 HW3 HB3 HP3 HQ3 HN3
          have hS97 : (AndW (QC ob (ooff + k * 3) o) (QC T (k * 3) tt)) wp := ⟨HQop.out, HQtp.out⟩
          refine hK.out _ _ hS97 (fun _ => ?_)
          clear hK K
          refine wpAnyH_take (i := 14) rfl (by kernel_rfl) (by kernel_rfl) (by kernel_rfl) (fun _ _ _ h => h) (Or.inl ⟨by kernel_rfl, (by intro w' _; go_simp; with_reducible rfl)⟩) hS97 ?_
          go_simp
          refine wpAnyH_ready (rs := [15]) (by kernel_rfl) (by simp) ?_
          refine AllReadyH.cons rfl (fun K hK => ?_) AllReadyH.nil
          obtain ⟨l0, l1, l2, l3, l4⟩ := EBox.cells (q := gx) HEp.out
          obtain ⟨f0, f1, f2, f3, f4, f5, f6, fz⟩ := sevenf_of HEp.out
          go_simp
          clear l0 l1 l2 l3 l4 f0 f1 f2 f3 f4 f5 f6 fz
          obtain ⟨wz, hwz⟩ : ∃ W, W = wp.setCell ⟨gx, 3, none⟩ (.slice (some ⟨g', 0, none⟩) (k + 1) cap) := ⟨_, rfl⟩
          have ho : Only gx wp wz := by rw [hwz]; exact (Only.refl _ _).setC _ _
          have HEz : Hid (Bk gx (.cells #[.bool false, .string ⟨#[]⟩, .string ⟨#[]⟩, .slice (some ⟨g', 0, none⟩) (k + 1) cap, .slice none 0 0] 37) wz) := by rw [hwz]; exact heap_setCell_same _ gx 3 _ _ _ HEp.out
          have HWz : Hid (wz.ownsRow w3.heap.size 40 5 (.slice (some ⟨g', 0, none⟩) (k + 1) cap) (k + 1) ((((restL os ts).take (k + 1)).map cl2).flatMap clV)) := own_onlyT HWp.out ho HEp.out (by decide)
          have HBz : Hid (Below w3.heap.size w3 wz) := HBp.out.trans (ho.at_ _ HBp.out.size (by have := HL_gx.out; omega))
          have hS98 : (AndW (QC ob (ooff + k * 3) o) (QC T (k * 3) tt)) wz := ⟨HQO.out.next HBz.out, HQT.out.next HBz.out⟩
          rw [← hwz]
          clear hwz ho HEp HWp HBp HQop HQtp
          refine hK.out _ _ hS98 (fun _ => ?_)
          clear hK K
          refine wpAnyH_done (by kernel_rfl) ?_ _
          (try go_wp2_with fail)
          go_roundw
          case measure => simp [intOf] <;> omega
          case rel => exact ⟨k + 1, _, _, by omega, by go_num, HEz, HWz, HBz⟩
        · go_simp
          obtain ⟨gp, hg_gp⟩ : ∃ g, g = x2.heap.size := ⟨_, rfl⟩
          obtain ⟨x3, hw_x3⟩ : ∃ W, W = x2.alloc (.cells #[.int .i64 (-1), .int .i64 2, .bool (rneg q), .string (rnum q), .string (rden q)] 40) := ⟨_, rfl⟩
          have HL_gp := Lib.hid (And.intro (by have := blk_lt HE2.out; omega : gx < gp) ((by have := HB2.out.size; omega : w3.heap.size ≤ gp)))
          have HE3 : Hid (Bk gx (.cells #[.bool false, .string ⟨#[]⟩, .string ⟨#[]⟩, .slice cA k cc, .slice none 0 0] 37) x3) := by rw [hw_x3]; exact blk_next HE2.out (bel_alloc _ _)
          have HW3 : Hid (x3.ownsRow w3.heap.size 40 5 (.slice cA k cc) k ((((restL os ts).take k).map cl2).flatMap clV)) := by rw [hw_x3]; exact own_belowQ HW2.out (bel_alloc _ _)
          have HB3 : Hid (Below w3.heap.size w3 x3) := by rw [hw_x3]; exact HB2.out.trans ((bel_alloc _ _).mono HB2.out.size)
          have HP3 : Hid (QC ob (ooff + k * 3) o x3) := by rw [hw_x3]; exact HP2.out.next (bel_alloc _ _)
          have HQ3 : Hid (QC T (k * 3) tt x3) := by rw [hw_x3]; exact HQ2.out.next (bel_alloc _ _)
          have HN3 : Hid (Bk gp (.cells #[.int .i64 (-1), .int .i64 2, .bool (rneg q), .string (rnum q), .string (rden q)] 40) x3) := by rw [hw_x3, hg_gp]; exact blk_new _ _
          rw [← hw_x3]
          (try rw [← hg_gp])
          clear hw_x3 hg_gp HE2 HW2 HB2 HP2 HQ2
          have hS3 : (AndW (QC ob (ooff + k * 3) o) (QC T (k * 3) tt)) x3 := ⟨HP3.out, HQ3.out⟩
          refine hK.out _ _ hS3 (fun _ => ?_)
          clear hK K
          refine wpAnyH_ready (rs := [1]) (by kernel_rfl) (by simp) ?_
          refine AllReadyH.cons rfl (fun K hK => ?_) AllReadyH.nil
          obtain ⟨l0, l1, l2, l3, l4⟩ := EBox.cells (q := gx) HE3.out
          go_simp
          clear l0 l1 l2 l3 l4
          have hS4 : (AndW (QC ob (ooff + k * 3) o) (QC T (k * 3) tt)) x3 := ⟨HP3.out, HQ3.out⟩
          refine hK.out _ _ hS4 (fun _ => ?_)
          clear hK K
          refine wpAnyH_ready (rs := [13]) (by kernel_rfl) (by simp) ?_
          refine AllReadyH.cons rfl (fun K hK => ?_) AllReadyH.nil
          refine step_append_lies _ rfl (.tmp 52) (.tmp 63) 34 rfl w3.heap.size 40 iq _ 5 56 Tryz.underlying34 HIQ.out.1 HIQ.out.2.1 HIQ.out.2.2.1 HIQ.out.2.2.2 rfl (by decide) (.slice cA k cc) k ((((restL os ts).take k).map cl2).flatMap clV) (by simp [Act.eval, Act.put]) HW3.out ⟨gp, 0, none⟩ 1 1 (clV (cl2 q)) (by simp [Act.eval, Act.put]) rfl (World.news_of_block HN3.out) (by simp [Value.oneCell', clV]) (by decide) (by simp only [maxLen]; omega) (by omega) HB3.out.size _ rfl ?_
          intro g' cap wp hown hgr hor hlt3
          have HEp : Hid (Bk gx (.cells #[.bool false, .string ⟨#[]⟩, .string ⟨#[]⟩, .slice cA k cc, .slice none 0 0] 37) wp) := blk_grownT HW3.out HE3.out (by decide) hgr
          have HBp : Hid (Below w3.heap.size w3 wp) := HB3.out.grown hgr HB3.out.size (fun j hj => (HW3.out.lt j hj).1)
          have HQop : Hid (QC ob (ooff + k * 3) o wp) := HQO.out.next HBp.out
          have HQtp : Hid (QC T (k * 3) tt wp) := HQT.out.next HBp.out
          have HWp : Hid (wp.ownsRow w3.heap.size 40 5 (.slice (some ⟨g', 0, none⟩) (k + 1) cap) (k + 1) ((((restL os ts).take (k + 1)).map cl2).flatMap clV)) := by rw [HTK.out, List.flatMap_append]; exact hown
          clear hown hgr hor hlt3 HE3 HW3 HB3 HP3 HQ3 HN3
          have hS97 : (AndW (QC ob (ooff + k * 3) o) (QC T (k * 3) tt)) wp := ⟨HQop.out, HQtp.out⟩
          refine hK.out _ _ hS97 (fun _ => ?_)
          clear hK K
          refine wpAnyH_take (i := 14) rfl (by kernel_rfl) (by kernel_rfl) (by kernel_rfl) (fun _ _ _ h => h) (Or.inl ⟨by kernel_rfl, (by intro w' _; go_simp; with_reducible rfl)⟩) hS97 ?_
          go_simp
          refine wpAnyH_ready (rs := [15]) (by kernel_rfl) (by simp) ?_
          refine AllReadyH.cons rfl (fun K hK => ?_) AllReadyH.nil
          obtain ⟨l0, l1, l2, l3, l4⟩ := EBox.cells (q := gx) HEp.out
          obtain ⟨f0, f1, f2, f3, f4, f5, f6, fz⟩ := sevenf_of HEp.out
          go_simp
          clear l0 l1 l2 l3 l4 f0 f1 f2 f3 f4 f5 f6 fz
          obtain ⟨wz, hwz⟩ : ∃ W, W = wp.setCell ⟨gx, 3, none⟩ (.slice (some ⟨g', 0, none⟩) (k + 1) cap) := ⟨_, rfl⟩
          have ho : Only gx wp wz := by rw [hwz]; exact (Only.refl _ _).setC _ _
          have HEz : Hid (Bk gx (.cells #[.bool false, .string ⟨#[]⟩, .string ⟨#[]⟩, .slice (some ⟨g', 0, none⟩) (k + 1) cap, .slice none 0 0] 37) wz) := by rw [hwz]; exact heap_setCell_same _ gx 3 _ _ _ HEp.out
          have HWz : Hid (wz.ownsRow w3.heap.size 40 5 (.slice (some ⟨g', 0, none⟩) (k + 1) cap) (k + 1) ((((restL os ts).take (k + 1)).map cl2).flatMap clV)) := own_onlyT HWp.out ho HEp.out (by decide)
          have HBz : Hid (Below w3.heap.size w3 wz) := HBp.out.trans (ho.at_ _ HBp.out.size (by have := HL_gx.out; omega))
          have hS98 : (AndW (QC ob (ooff + k * 3) o) (QC T (k * 3) tt)) wz := ⟨HQO.out.next HBz.out, HQT.out.next HBz.out⟩
          rw [← hwz]
          clear hwz ho HEp HWp HBp HQop HQtp
          refine hK.out _ _ hS98 (fun _ => ?_)
          clear hK K
          refine wpAnyH_done (by kernel_rfl) ?_ _
          (try go_wp2_with fail)
          go_roundw
          case measure => simp [intOf] <;> omega
          case rel => exact ⟨k + 1, _, _, by omega, by go_num, HEz, HWz, HBz⟩
    · have hlt2 : ¬ (k : Int) < (m : Int) := by omega
      have hkm : k = m := by omega
      have HWm : Hid (wo.ownsRow w3.heap.size 40 5 (.slice cA m cc) m (((restL os ts).map cl2).flatMap clV)) := by
        have h1 := HW.out
        rw [hkm, List.take_of_length_le (by rw [restL_len HTS.out.2.1.len, ← HM.out]; exact Nat.le_refl _)] at h1
        exact h1
      have HEm : Hid (Bk gx (.cells #[.bool false, .string ⟨#[]⟩, .string ⟨#[]⟩, .slice cA m cc, .slice none 0 0] 37) wo) := by
        have h1 := HE.out
        rw [hkm] at h1
        exact h1
      clear HW HE hkm
      go_wp2_with fail
      refine (HA9.out _).mono ?_
      rintro e y1 ⟨mq, rfl, hmq, hb⟩
      have HE1 : Hid (Bk gx (.cells #[.bool false, .string ⟨#[]⟩, .string ⟨#[]⟩, .slice cA m cc, .slice none 0 0] 37) y1) := blk_next HEm.out hb
      have HW1 : Hid (y1.ownsRow w3.heap.size 40 5 (.slice cA m cc) m (((restL os ts).map cl2).flatMap clV)) := own_belowQ HWm.out hb
      have HB1 : Hid (Below w3.heap.size w3 y1) := HB.out.trans (hb.mono HB.out.size)
      have HMQ := Lib.hid hmq
      clear hmq HA9
      clear hb HEm HWm HB
      unfold ratV
      have HRZ := Lib.hid (fun q (hq : q ∈ restL os ts) => (show Sz 309 q by obtain ⟨i, hi⟩ := List.getElem?_of_mem hq; have hil := (List.getElem?_eq_some_iff.1 hi).1; rw [restL_len HTS.out.2.1.len] at hil; obtain ⟨o, ho⟩ := getElem?_of_lt (l := os) (k := i) hil; obtain ⟨x, hx⟩ := getElem?_of_lt (l := ts) (k := i) (by rw [HTS.out.1, HM.out]; exact hil); rw [restL_at ho hx] at hi; obtain rfl := Option.some.inj hi; exact Sz.sub (HOS.out o (List.mem_of_getElem? ho)).1 (HTS.out.2.2 x (List.mem_of_getElem? hx))))
      have hdv' := fun W (h : Rd W W.heap.size 5 cA ((restL os ts).map cl2).length (((restL os ts).map cl2).flatMap clV)) => deliver_calls cA m cc ((restL os ts).map cl2) mq 309 8 W (by rw [List.length_map, restL_len HTS.out.2.1.len, HM.out]) (by omega) h (rest_ok HTS.out.2.1) (fun c hc => by obtain ⟨q, hq, rfl⟩ := List.mem_map.1 hc; exact HRZ.out q hq) HMQ.out.1 HMQ.out.2 (by decide) (by decide) (by decide) (by rw [List.length_map, restL_len HTS.out.2.1.len, ← HM.out]; omega) (by rw [List.length_map, restL_len HTS.out.2.1.len, ← HM.out]; omega)
      unfold DelPost at hdv'
      rw [ratV_zero] at hdv'
      unfold ratV at hdv'
      have HDV := Lib.hid hdv'
      clear hdv'
      obtain ⟨l0, l1, l2, l3, l4⟩ := EBox.cells (q := gx) (blk_alloc (o' := (.cells #[.bool (rneg mq), .string (rnum mq), .string (rden mq)] 33)) HE1.out)
      go_wp2_with fail
      clear l0 l1 l2 l3 l4
      obtain ⟨gm, hg_gm⟩ : ∃ g, g = y1.heap.size := ⟨_, rfl⟩
      obtain ⟨y2, hw_y2⟩ : ∃ W, W = y1.alloc (.cells #[.bool (rneg mq), .string (rnum mq), .string (rden mq)] 33) := ⟨_, rfl⟩
      have HL_gm := Lib.hid (And.intro (by have := blk_lt HE1.out; omega : gx < gm) ((by have := HB1.out.size; omega : w3.heap.size ≤ gm)))
      have HE2 : Hid (Bk gx (.cells #[.bool false, .string ⟨#[]⟩, .string ⟨#[]⟩, .slice cA m cc, .slice none 0 0] 37) y2) := by rw [hw_y2]; exact blk_next HE1.out (bel_alloc _ _)
      have HW2 : Hid (y2.ownsRow w3.heap.size 40 5 (.slice cA m cc) m (((restL os ts).map cl2).flatMap clV)) := by rw [hw_y2]; exact own_belowQ HW1.out (bel_alloc _ _)
      have HB2 : Hid (Below w3.heap.size w3 y2) := by rw [hw_y2]; exact HB1.out.trans ((bel_alloc _ _).mono HB1.out.size)
      have HM2 : Hid (Bk gm (.cells #[.bool (rneg mq), .string (rnum mq), .string (rden mq)] 33) y2) := by rw [hw_y2, hg_gm]; exact blk_new _ _
      rw [← hw_y2]
      (try rw [← hg_gm])
      clear hw_y2 hg_gm HE1 HW1 HB1
      have hlen : ((restL os ts).map cl2).length = m := by rw [List.length_map, restL_len HTS.out.2.1.len, HM.out]
      refine (HDV.out _ (by rw [hlen]; exact Rd.of_own HW2.out)).mono ?_
      rintro e y3 ⟨Ad, cd, rfl, hrd, hab, hb⟩
      have HE3 : Hid (Bk gx (.cells #[.bool false, .string ⟨#[]⟩, .string ⟨#[]⟩, .slice cA m cc, .slice none 0 0] 37) y3) := blk_next HE2.out hb
      have HW3 : Hid (y3.ownsRow w3.heap.size 40 5 (.slice cA m cc) m (((restL os ts).map cl2).flatMap clV)) := own_belowQ HW2.out hb
      have HB3 : Hid (Below w3.heap.size w3 y3) := HB2.out.trans (hb.mono HB2.out.size)
      have HM3 : Hid (Bk gm (.cells #[.bool (rneg mq), .string (rnum mq), .string (rden mq)] 33) y3) := blk_next HM2.out hb
      have HD3 : Hid (Rd y3 y3.heap.size 3 Ad m ((deliv ((restL os ts).map cl2) mq).flatMap rtV)) := hrd
      clear hrd hab HDV hlen
      clear hb HE2 HW2 HB2 HM2
      obtain ⟨c0, c1, c2, fc0, fc1, fc2, hzc⟩ := three_of (blk_alloc (o' := (.cells #[.bool false, .string ⟨#[]⟩, .string ⟨#[]⟩] 33)) HM3.out)
      go_wp2_with fail
      clear c0 c1 c2 fc0 fc1 fc2 hzc
      have HSO := Lib.hid (sec_ok HTS.out.2.1 HMQ.out.2)
      have hdz := deliv2_sz (m := mq) (zm := 8) HRZ.out HMQ.out.1 (by decide)
      rw [restL_len HTS.out.2.1.len, ← HM.out] at hdz
      have HDZ := Lib.hid (fun d hd => Sz.mono (hdz d hd) (by omega : 309 + (8 + (1 + m * (309 + 1))) ≤ 2178))
      clear hdz
      have HDL : Hid ((deliv ((restL os ts).map cl2) mq).length = m) := by show _ = _; rw [deliv_len, List.length_map, restL_len HTS.out.2.1.len, HM.out]
      obtain ⟨ds, hds⟩ : ∃ x, x = (deliv ((restL os ts).map cl2) mq) := ⟨_, rfl⟩
      rw [← hds] at HSO HDZ HDL HD3
      clear hds HRZ
      have HM3 : Hid (Bk gm (.cells #[.bool (rneg mq), .string (rnum mq), .string (rden mq)] 33) y3) := HM3.out
      have HWW3 : Hid (Below w3.heap.size w3 y3) := HB3.out
      obtain ⟨gv, hgv⟩ : ∃ g, g = y3.heap.size := ⟨_, rfl⟩
      obtain ⟨gA, hgA⟩ : ∃ g, g = y3.heap.size + 1 := ⟨_, rfl⟩
      obtain ⟨gG, hgG⟩ : ∃ g, g = y3.heap.size + 1 + 1 := ⟨_, rfl⟩
      (try rw [← hgG])
      (try rw [← hgA])
      (try rw [← hgv])
      obtain ⟨u0, hu0⟩ : ∃ W, W = ((y3.alloc (.cells #[.bool false, .string ⟨#[]⟩, .string ⟨#[]⟩] 33)).alloc (.cells #[.bool (rneg mq), .string (rnum mq), .string (rden mq)] 33)).alloc (.cells #[.bool false, .string ⟨#[]⟩, .string ⟨#[]⟩] 33) := ⟨_, rfl⟩
      have HA0 : Hid (Bk gA (.cells #[.bool (rneg mq), .string (rnum mq), .string (rden mq)] 33) u0) := by rw [hu0, hgA]; exact blk_alloc (blk_new1 _ _ _)
      have HG0 : Hid (Bk gG (.cells #[.bool (rneg 0), .string (rnum 0), .string (rden 0)] 33) u0) := by rw [hu0, hgG]; show Bk _ _ _; rw [rneg_zero, rnum_zero, rden_zero]; exact blk_new2 _ _ _ _
      have HC0 : Hid (Below y3.heap.size y3 u0) := by rw [hu0]; exact ((bel_alloc _ _).alloc (by simp) _).alloc (by simp <;> omega) _
      have HLG : Hid (y3.heap.size ≤ gA ∧ gA < gG) := by rw [hgA, hgG]; exact ⟨by omega, by omega⟩
      rw [← hu0]
      clear hu0 hgv hgA hgG HE3 HW3 HB3 HM3
      have HA1 : Hid (Bk gA (.cells #[.bool (rneg (mq + sumR ((its.take 0).map procQ))), .string (rnum (mq + sumR ((its.take 0).map procQ))), .string (rden (mq + sumR ((its.take 0).map procQ)))] 33) u0) := by
        have e : mq + sumR ((its.take 0).map procQ) = mq := by simp [sumR, Rat.add_zero]
        rw [e]; exact HA0
      go_loopw [89] (fun i wr => ∃ k : Nat, k ≤ n ∧ i = .int .i64 (k : Int) ∧ Hid (Bk gA (.cells #[.bool (rneg (mq + sumR ((its.take k).map procQ))), .string (rnum (mq + sumR ((its.take k).map procQ))), .string (rden (mq + sumR ((its.take k).map procQ)))] 33) wr) ∧ Hid (Bk gG (.cells #[.bool (rneg 0), .string (rnum 0), .string (rden 0)] 33) wr) ∧ Hid (Below y3.heap.size y3 wr)) (fun i _ => n - (intOf i).toNat)
      case atStart => exact ⟨0, Nat.zero_le _, rfl, HA1, HG0, HC0⟩
      case round =>
        clear HA1 HA0 HG0 HC0
        obtain ⟨k, hk, rfl, HA, HG, HB⟩ := hrel
        rename World => wo2
        obtain ⟨u, hu⟩ : ∃ z, z = (mq + sumR ((its.take k).map procQ)) := ⟨_, rfl⟩
        have HU := Lib.hid hu
        rw [← hu] at HA
        clear hu
        by_cases hlt : k < n
        · have hlt2 : (k : Int) < (n : Int) := by omega
          obtain ⟨x, hx⟩ := getElem?_of_lt (l := its) (k := k) (by rw [← HN.out]; exact hlt)
          have hxo := HIO.out x (List.mem_of_getElem? hx)
          have hpq := procQ_ok hxo
          have hpc' := fun W => proc_calls x.price x.costs x.A x.c x.chs W hxo.price hxo.costs
          have hnx : mq + sumR ((its.take (k + 1)).map procQ) = (mq + sumR ((its.take k).map procQ)) + procQ x := by
            rw [List.take_add_one, hx]
            simp only [Option.toList_some, List.map_append, List.map_cons, List.map_nil]
            rw [sumR_snoc]; grind
          have huz : Sz 82 u := by
            rw [HU.out]
            have h1 := sumR_sz (z := 17) ((its.take k).map procQ) (fun q hq => by obtain ⟨y, hy, rfl⟩ := List.mem_map.1 hq; exact (procQ_ok (HIO.out y (List.mem_of_mem_take hy))).1)
            rw [List.length_map, List.length_take] at h1
            exact (Sz.add HMQ.out.1 h1).mono (by have : min k its.length * 18 ≤ 4 * 18 := Nat.mul_le_mul_right _ (by omega); omega)
          rw [← HU.out] at hnx
          obtain ⟨b, off, hA, _, hc⟩ := Rd.at_ (enc := itV) (fun _ => rfl) (HI3.out.rd.below (HWW3.out.trans (HB.out.mono HWW3.out.size))) hx
          have HAA := Lib.hid hA
          have p0 := hc 0 _ rfl
          have p1 := hc 1 _ rfl
          have p2 := hc 2 _ rfl
          have p3 := hc 3 _ rfl
          have p4 := hc 4 _ rfl
          have p5 := hc 5 _ rfl
          have p6 := hc 6 _ rfl
          rw [Nat.add_zero] at p0
          rw [← Nat.add_assoc] at p1 p2 p3 p4 p5 p6
          clear hx hc hxo
          subst hA
          obtain ⟨pr, pc, iA, ic, chs⟩ := x
          dsimp only at p0 p1 p2 p3 p4 p5 p6 hpc'
          obtain ⟨v, hv⟩ : ∃ z, z = procQ ⟨pr, pc, iA, ic, chs⟩ := ⟨_, rfl⟩
          rw [← hv] at hpc' hnx hpq
          have ha' := fun W => pAddQ_calls u v 82 17 W huz hpq.1 (by decide) (by decide) (by decide)
          obtain ⟨s, hs⟩ : ∃ z, z = u + v := ⟨_, rfl⟩
          rw [← hs] at ha' hnx
          unfold ratV at hpc' ha'
          have HPC := Lib.hid hpc'
          have HAD := Lib.hid ha'
          have HNX := Lib.hid hnx
          clear hpc' ha' hnx hs hv hpq huz
          go_upto_region 20 with fail
          clear p0 p1 p2 p3 p4 p5 p6
          obtain ⟨gi, hg_gi⟩ : ∃ g, g = wo2.heap.size := ⟨_, rfl⟩
          obtain ⟨a1, hw_a1⟩ : ∃ W, W = wo2.alloc (.cells #[.bool (rneg pr), .string (rnum pr), .string (rden pr), .bool (rneg pc), .string (rnum pc), .string (rden pc), .slice iA chs.length ic] 46) := ⟨_, rfl⟩
          have HL_gi := Lib.hid (And.intro (by have := blk_lt HA.out; omega : gA < gi) (And.intro (by have := blk_lt HG.out; omega : gG < gi) ((by have := HB.out.size; omega : y3.heap.size ≤ gi))))
          have HA1 : Hid (Bk gA (.cells #[.bool (rneg u), .string (rnum u), .string (rden u)] 33) a1) := by rw [hw_a1]; exact blk_next HA.out (bel_alloc _ _)
          have HG1 : Hid (Bk gG (.cells #[.bool (rneg 0), .string (rnum 0), .string (rden 0)] 33) a1) := by rw [hw_a1]; exact blk_next HG.out (bel_alloc _ _)
          have HB1 : Hid (Below y3.heap.size y3 a1) := by rw [hw_a1]; exact HB.out.trans ((bel_alloc _ _).mono HB.out.size)
          have HI1 : Hid (Bk gi (.cells #[.bool (rneg pr), .string (rnum pr), .string (rden pr), .bool (rneg pc), .string (rnum pc), .string (rden pc), .slice iA chs.length ic] 46) a1) := by rw [hw_a1, hg_gi]; exact blk_new _ _
          rw [← hw_a1]
          (try rw [← hg_gi])
          clear hw_a1 hg_gi HA HG HB
          obtain ⟨a2, hw_a2⟩ : ∃ W, W = a1.drew := ⟨_, rfl⟩
          have HA2 : Hid (Bk gA (.cells #[.bool (rneg u), .string (rnum u), .string (rden u)] 33) a2) := by rw [hw_a2]; exact HA1.out
          have HG2 : Hid (Bk gG (.cells #[.bool (rneg 0), .string (rnum 0), .string (rden 0)] 33) a2) := by rw [hw_a2]; exact HG1.out
          have HB2 : Hid (Below y3.heap.size y3 a2) := by rw [hw_a2]; exact HB1.out.drew
          have HI2 : Hid (Bk gi (.cells #[.bool (rneg pr), .string (rnum pr), .string (rden pr), .bool (rneg pc), .string (rnum pc), .string (rden pc), .slice iA chs.length ic] 46) a2) := by rw [hw_a2]; exact HI1.out
          have hS1 : (Bk gi (.cells #[.bool (rneg pr), .string (rnum pr), .string (rden pr), .bool (rneg pc), .string (rnum pc), .string (rden pc), .slice iA chs.length ic] 46)) a2 := HI2.out
          refine wp_region_held_drew (S := (Bk gi (.cells #[.bool (rneg pr), .string (rnum pr), .string (rden pr), .bool (rneg pc), .string (rnum pc), .string (rden pc), .slice iA chs.length ic] 46))) (by kernel_rfl) (by rw [← hw_a2]; exact hS1) ?_
          rw [← hw_a2]
          intro _
          clear hw_a2 HA1 HG1 HB1 HI1
          refine wpAnyH_take (i := 1) (v := .agg #[.bool (rneg pr), .string (rnum pr), .string (rden pr), .bool (rneg pc), .string (rnum pc), .string (rden pc), .slice iA chs.length ic]) rfl (by kernel_rfl) (by kernel_rfl) (by kernel_rfl) (fun _ _ _ h => h) (Or.inl ⟨by kernel_rfl, (by intro w' hw'; obtain ⟨k0, k1, k2, k3, k4, k5, k6⟩ := seven_of hw'; go_simp)⟩) hS1 ?_
          go_simp
          refine wpAnyH_ready (rs := [0, 2]) (by kernel_rfl) (by simp) ?_
          refine AllReadyH.cons rfl (fun K hK => ?_) (AllReadyH.cons rfl (fun K hK => ?_) AllReadyH.nil)
          · obtain ⟨l0, l1, l2, fl0, fl1, fl2, hzl⟩ := three_of HA2.out
            go_simp
            clear l0 l1 l2 fl0 fl1 fl2 hzl
            have hS2 : (Bk gi (.cells #[.bool (rneg pr), .string (rnum pr), .string (rden pr), .bool (rneg pc), .string (rnum pc), .string (rden pc), .slice iA chs.length ic] 46)) a2 := HI2.out
            refine hK.out _ _ hS2 (fun _ => ?_)
            clear hK K
            refine wpAnyH_ready (rs := [2]) (by kernel_rfl) (by simp) ?_
            refine AllReadyH.cons rfl (fun K hK => ?_) AllReadyH.nil
            go_simp
            refine (HPC.out _).mono ?_
            rintro e a3 ⟨rfl, hb⟩
            have HA3 : Hid (Bk gA (.cells #[.bool (rneg u), .string (rnum u), .string (rden u)] 33) a3) := blk_next HA2.out hb
            have HG3 : Hid (Bk gG (.cells #[.bool (rneg 0), .string (rnum 0), .string (rden 0)] 33) a3) := blk_next HG2.out hb
            have HB3 : Hid (Below y3.heap.size y3 a3) := HB2.out.trans (hb.mono HB2.out.size)
            have HI3 : Hid (Bk gi (.cells #[.bool (rneg pr), .string (rnum pr), .string (rden pr), .bool (rneg pc), .string (rnum pc), .string (rden pc), .slice iA chs.length ic] 46) a3) := blk_next HI2.out hb
            clear hb HA2 HG2 HB2 HI2
            have hS3 : (Bk gi (.cells #[.bool (rneg pr), .string (rnum pr), .string (rden pr), .bool (rneg pc), .string (rnum pc), .string (rden pc), .slice iA chs.length ic] 46)) a3 := HI3.out
            refine hK.out _ _ hS3 (fun _ => ?_)
            clear hK K
            refine wpAnyH_ready (rs := [3]) (by kernel_rfl) (by simp) ?_
            refine AllReadyH.cons rfl (fun K hK => ?_) AllReadyH.nil
            go_simp
            refine (HAD.out _).mono ?_
            rintro e a4 ⟨rfl, hb⟩
            have HA4 : Hid (Bk gA (.cells #[.bool (rneg u), .string (rnum u), .string (rden u)] 33) a4) := blk_next HA3.out hb
            have HG4 : Hid (Bk gG (.cells #[.bool (rneg 0), .string (rnum 0), .string (rden 0)] 33) a4) := blk_next HG3.out hb
            have HB4 : Hid (Below y3.heap.size y3 a4) := HB3.out.trans (hb.mono HB3.out.size)
            have HI4 : Hid (Bk gi (.cells #[.bool (rneg pr), .string (rnum pr), .string (rden pr), .bool (rneg pc), .string (rnum pc), .string (rden pc), .slice iA chs.length ic] 46) a4) := blk_next HI3.out hb
            clear hb HA3 HG3 HB3 HI3
            have hS4 : (Bk gi (.cells #[.bool (rneg pr), .string (rnum pr), .string (rden pr), .bool (rneg pc), .string (rnum pc), .string (rden pc), .slice iA chs.length ic] 46)) a4 := HI4.out
            refine hK.out _ _ hS4 (fun _ => ?_)
            clear hK K
            refine wpAnyH_ready (rs := [4]) (by kernel_rfl) (by simp) ?_
            refine AllReadyH.cons rfl (fun K hK => ?_) AllReadyH.nil
            obtain ⟨l0, l1, l2, fl0, fl1, fl2, hzl⟩ := three_of HA4.out
            go_simp
            clear l0 l1 l2 fl0 fl1 fl2 hzl
            obtain ⟨a5, hw_a5⟩ : ∃ W, W = (((a4.setCell ⟨gA, 0, none⟩ (.bool (rneg s))).setCell ⟨gA, 1, none⟩ (.string (rnum s))).setCell ⟨gA, 2, none⟩ (.string (rden s))) := ⟨_, rfl⟩
            have ho : Only gA a4 a5 := by rw [hw_a5]; exact (((Only.refl _ _).setC _ _).setC _ _).setC _ _
            have HG5 : Hid (Bk gG (.cells #[.bool (rneg 0), .string (rnum 0), .string (rden 0)] 33) a5) := blk_onlyW HG4.out ho (by have := HLG.out; have := HL_gi.out; omega)
            have HB5 : Hid (Below y3.heap.size y3 a5) := HB4.out.trans (ho.at_ _ HB4.out.size (by have := HLG.out; have := HL_gi.out; omega))
            have HI5 : Hid (Bk gi (.cells #[.bool (rneg pr), .string (rnum pr), .string (rden pr), .bool (rneg pc), .string (rnum pc), .string (rden pc), .slice iA chs.length ic] 46) a5) := blk_onlyW HI4.out ho (by have := HLG.out; have := HL_gi.out; omega)
            have HA5 : Hid (Bk gA (.cells #[.bool (rneg s), .string (rnum s), .string (rden s)] 33) a5) := by rw [hw_a5]; exact heap_setCell_same _ gA 2 _ _ (.string (rden s)) (heap_setCell_same _ gA 1 _ _ (.string (rnum s)) (heap_setCell_same _ gA 0 _ _ (.bool (rneg s)) (HA4.out)))
            rw [← hw_a5]
            clear hw_a5 ho HA4 HG4 HB4 HI4
            have hS5 : (Bk gi (.cells #[.bool (rneg pr), .string (rnum pr), .string (rden pr), .bool (rneg pc), .string (rnum pc), .string (rden pc), .slice iA chs.length ic] 46)) a5 := HI5.out
            refine hK.out _ _ hS5 (fun _ => ?_)
            clear hK K
            refine wpAnyH_done (by kernel_rfl) ?_ _
            (try go_wp2_with fail)
            go_roundw
            case measure => simp [intOf] <;> omega
            case rel => exact ⟨k + 1, by omega, by go_num, by rw [HNX.out]; exact HA5, HG5, HB5⟩
          · go_simp
            refine (HPC.out _).mono ?_
            rintro e a3 ⟨rfl, hb⟩
            have HA3 : Hid (Bk gA (.cells #[.bool (rneg u), .string (rnum u), .string (rden u)] 33) a3) := blk_next HA2.out hb
            have HG3 : Hid (Bk gG (.cells #[.bool (rneg 0), .string (rnum 0), .string (rden 0)] 33) a3) := blk_next HG2.out hb
            have HB3 : Hid (Below y3.heap.size y3 a3) := HB2.out.trans (hb.mono HB2.out.size)
            have HI3 : Hid (Bk gi (.cells #[.bool (rneg pr), .string (rnum pr), .string (rden pr), .bool (rneg pc), .string (rnum pc), .string (rden pc), .slice iA chs.length ic] 46) a3) := blk_next HI2.out hb
            clear hb HA2 HG2 HB2 HI2
            have hS2 : (Bk gi (.cells #[.bool (rneg pr), .string (rnum pr), .string (rden pr), .bool (rneg pc), .string (rnum pc), .string (rden pc), .slice iA chs.length ic] 46)) a3 := HI3.out
            refine hK.out _ _ hS2 (fun _ => ?_)
            clear hK K
            refine wpAnyH_ready (rs := [0]) (by kernel_rfl) (by simp) ?_
            refine AllReadyH.cons rfl (fun K hK => ?_) AllReadyH.nil
            obtain ⟨l0, l1, l2, fl0, fl1, fl2, hzl⟩ := three_of HA3.out
            go_simp
            clear l0 l1 l2 fl0 fl1 fl2 hzl
            have hS3 : (Bk gi (.cells #[.bool (rneg pr), .string (rnum pr), .string (rden pr), .bool (rneg pc), .string (rnum pc), .string (rden pc), .slice iA chs.length ic] 46)) a3 := HI3.out
            refine hK.out _ _ hS3 (fun _ => ?_)
            clear hK K
            refine wpAnyH_ready (rs := [3]) (by kernel_rfl) (by simp) ?_
            refine AllReadyH.cons rfl (fun K hK => ?_) AllReadyH.nil
            go_simp
            refine (HAD.out _).mono ?_
            rintro e a4 ⟨rfl, hb⟩
            have HA4 : Hid (Bk gA (.cells #[.bool (rneg u), .string (rnum u), .string (rden u)] 33) a4) := blk_next HA3.out hb
            have HG4 : Hid (Bk gG (.cells #[.bool (rneg 0), .string (rnum 0), .string (rden 0)] 33) a4) := blk_next HG3.out hb
            have HB4 : Hid (Below y3.heap.size y3 a4) := HB3.out.trans (hb.mono HB3.out.size)
            have HI4 : Hid (Bk gi (.cells #[.bool (rneg pr), .string (rnum pr), .string (rden pr), .bool (rneg pc), .string (rnum pc), .string (rden pc), .slice iA chs.length ic] 46) a4) := blk_next HI3.out hb
            clear hb HA3 HG3 HB3 HI3
            have hS4 : (Bk gi (.cells #[.bool (rneg pr), .string (rnum pr), .string (rden pr), .bool (rneg pc), .string (rnum pc), .string (rden pc), .slice iA chs.length ic] 46)) a4 := HI4.out
            refine hK.out _ _ hS4 (fun _ => ?_)
            clear hK K
            refine wpAnyH_ready (rs := [4]) (by kernel_rfl) (by simp) ?_
            refine AllReadyH.cons rfl (fun K hK => ?_) AllReadyH.nil
            obtain ⟨l0, l1, l2, fl0, fl1, fl2, hzl⟩ := three_of HA4.out
            go_simp
            clear l0 l1 l2 fl0 fl1 fl2 hzl
            obtain ⟨a5, hw_a5⟩ : ∃ W, W = (((a4.setCell ⟨gA, 0, none⟩ (.bool (rneg s))).setCell ⟨gA, 1, none⟩ (.string (rnum s))).setCell ⟨gA, 2, none⟩ (.string (rden s))) := ⟨_, rfl⟩
            have ho : Only gA a4 a5 := by rw [hw_a5]; exact (((Only.refl _ _).setC _ _).setC _ _).setC _ _
            have HG5 : Hid (Bk gG (.cells #[.bool (rneg 0), .string (rnum 0), .string (rden 0)] 33) a5) := blk_onlyW HG4.out ho (by have := HLG.out; have := HL_gi.out; omega)
            have HB5 : Hid (Below y3.heap.size y3 a5) := HB4.out.trans (ho.at_ _ HB4.out.size (by have := HLG.out; have := HL_gi.out; omega))
            have HI5 : Hid (Bk gi (.cells #[.bool (rneg pr), .string (rnum pr), .string (rden pr), .bool (rneg pc), .string (rnum pc), .string (rden pc), .slice iA chs.length ic] 46) a5) := blk_onlyW HI4.out ho (by have := HLG.out; have := HL_gi.out; omega)
            have HA5 : Hid (Bk gA (.cells #[.bool (rneg s), .string (rnum s), .string (rden s)] 33) a5) := by rw [hw_a5]; exact heap_setCell_same _ gA 2 _ _ (.string (rden s)) (heap_setCell_same _ gA 1 _ _ (.string (rnum s)) (heap_setCell_same _ gA 0 _ _ (.bool (rneg s)) (HA4.out)))
            rw [← hw_a5]
            clear hw_a5 ho HA4 HG4 HB4 HI4
            have hS5 : (Bk gi (.cells #[.bool (rneg pr), .string (rnum pr), .string (rden pr), .bool (rneg pc), .string (rnum pc), .string (rden pc), .slice iA chs.length ic] 46)) a5 := HI5.out
            refine hK.out _ _ hS5 (fun _ => ?_)
            clear hK K
            refine wpAnyH_done (by kernel_rfl) ?_ _
            (try go_wp2_with fail)
            go_roundw
            case measure => simp [intOf] <;> omega
            case rel => exact ⟨k + 1, by omega, by go_num, by rw [HNX.out]; exact HA5, HG5, HB5⟩
        · have hlt2 : ¬ (k : Int) < (n : Int) := by omega
          have HUE : Hid (u = mq + sumR (its.map procQ)) := by
            have h1 := HU.out
            rw [List.take_of_length_le (by rw [← HN.out]; omega)] at h1
            exact h1
          clear HU
          go_wp2_with fail
          have HG1 : Hid (Bk gG (.cells #[.bool (rneg (sumR ((ts.zipWith (· + ·) ds).take 0))), .string (rnum (sumR ((ts.zipWith (· + ·) ds).take 0))), .string (rden (sumR ((ts.zipWith (· + ·) ds).take 0)))] 33) wo2) := HG
          go_loopw [21, 100] (fun s i wr => ∃ (k : Nat) (sh : Bool), k ≤ m ∧ s = .bool sh ∧ i = .int .i64 (k : Int) ∧ Hid (sh = true → sumR ds = mq) ∧ Hid (Bk gA (.cells #[.bool (rneg u), .string (rnum u), .string (rden u)] 33) wr) ∧ Hid (Bk gG (.cells #[.bool (rneg (sumR ((ts.zipWith (· + ·) ds).take k))), .string (rnum (sumR ((ts.zipWith (· + ·) ds).take k))), .string (rden (sumR ((ts.zipWith (· + ·) ds).take k)))] 33) wr) ∧ Hid (Below y3.heap.size y3 wr)) (fun _ i _ => m - (intOf i).toNat)
          case atStart => exact ⟨0, false, Nat.zero_le _, rfl, rfl, (fun h => by cases h), HA, HG1, HB⟩
          case round =>
            clear HG1 HA HG HB
            obtain ⟨k, sh, hk, rfl, rfl, HSHO, HA, HG, HB⟩ := hrel
            rename World => wt
            obtain ⟨gt, hgt⟩ : ∃ z, z = (sumR ((ts.zipWith (· + ·) ds).take k)) := ⟨_, rfl⟩
            have HGE := Lib.hid hgt
            rw [← hgt] at HG
            clear hgt
            by_cases hlt : k < m
            · have hlt2 : (k : Int) < (m : Int) := by omega
              obtain ⟨o, ho⟩ := getElem?_of_lt (l := os) (k := k) (by rw [← HM.out]; exact hlt)
              obtain ⟨tt, htt⟩ := getElem?_of_lt (l := ts) (k := k) (by rw [HTS.out.1]; exact hlt)
              obtain ⟨d, hd⟩ := getElem?_of_lt (l := ds) (k := k) (by rw [HDL.out]; exact hlt)
              have hea := HSO.out.each k o tt d ho htt hd
              have hsh := HSO.out.short k o tt d ho htt hd
              have hz : (ts.zipWith (· + ·) ds)[k]? = some (tt + d) := by rw [List.getElem?_zipWith, htt, hd]
              have hnx : sumR ((ts.zipWith (· + ·) ds).take (k + 1)) = sumR ((ts.zipWith (· + ·) ds).take k) + (tt + d) := by
                rw [List.take_add_one, hz]
                exact sumR_snoc _ _
              rw [← HGE.out] at hnx
              have hgz : Sz (1 + k * 2480) gt := by
                rw [HGE.out]
                have h1 := sumR_sz (z := 2479) ((ts.zipWith (· + ·) ds).take k) (fun q hq => by
                  obtain ⟨i, hi⟩ := List.getElem?_of_mem (List.mem_of_mem_take hq)
                  rw [List.getElem?_zipWith] at hi
                  rcases h1 : ts[i]? with _ | a
                  · rw [h1] at hi; cases hi
                  · rcases h2 : ds[i]? with _ | b
                    · rw [h1, h2] at hi; cases hi
                    · rw [h1, h2] at hi
                      obtain rfl := Option.some.inj hi
                      exact Sz.add (HTS.out.2.2 a (List.mem_of_getElem? h1)) (HDZ.out b (List.mem_of_getElem? h2)))
                exact h1.mono (by have : ((ts.zipWith (· + ·) ds).take k).length * 2480 ≤ k * 2480 := Nat.mul_le_mul_right _ (List.length_take_le _ _); omega)
              have htz := HTS.out.2.2 tt (List.mem_of_getElem? htt)
              have hdz := HDZ.out d (List.mem_of_getElem? hd)
              have hoz := (HOS.out o (List.mem_of_getElem? ho)).1
              have ha' := fun W => pAddQ_calls tt d 300 2178 W htz hdz (by decide) (by decide) (by decide)
              have hvz := Sz.add htz hdz
              obtain ⟨v, hv⟩ : ∃ z, z = tt + d := ⟨_, rfl⟩
              rw [← hv] at ha' hvz hnx hea hsh
              have hs' := fun W => pSignQ_calls tt 300 W htz (by decide)
              have hsn := sgn_nn hea.1
              obtain ⟨y, hy⟩ : ∃ y, y = sgnR tt := ⟨_, rfl⟩
              rw [← hy] at hs' hsn
              have d1 : decide (y < 0) = false := decide_eq_false (by omega)
              have hc' := fun W => pCmpQ_calls v o 2479 8 W hvz hoz (by decide) (by decide) (by decide)
              have hcn := (cmpR_np (p := v) (q := o)).2 hea.2
              obtain ⟨cc', hcc⟩ : ∃ y, y = cmpR v o := ⟨_, rfl⟩
              rw [← hcc] at hc' hcn
              have d2 : decide (0 < cc') = false := decide_eq_false (by omega)
              have hg' := fun W => pAddQ_calls gt v (1 + k * 2480) 2479 W hgz hvz (by omega) (by decide) (by omega)
              obtain ⟨gn, hgn⟩ : ∃ z, z = gt + v := ⟨_, rfl⟩
              rw [← hgn] at hg' hnx
              have hnq := fun W => neq_rats v o W
              obtain ⟨bb, hbb⟩ : ∃ b, b = decide (v ≠ o) := ⟨_, rfl⟩
              rw [← hbb] at hnq
              have HSH : Hid (bb = true → sumR ds = mq) := fun h => hsh (of_decide_eq_true (by rw [← hbb]; exact h))
              unfold ratV at ha' hs' hc' hg'
              have HAD := Lib.hid ha'
              have HSG := Lib.hid hs'
              have HCP := Lib.hid hc'
              have HGA := Lib.hid hg'
              have HNQ := Lib.hid hnq
              have HNX := Lib.hid hnx
              obtain ⟨ob, ooff, hO, hob, hoc⟩ := Rd.at_ (enc := rtV) rtV_len (HO3.out) ho
              have n0 := hoc 0 _ rfl
              have n1' := hoc 1 _ rfl
              have n2' := hoc 2 _ rfl
              rw [Nat.add_zero] at n0
              rw [← Nat.add_assoc] at n1' n2'
              have HQO : Hid (QC ob (ooff + k * 3) o y3) := QC.next (W := w3) ⟨n0, n1', n2', hob⟩ HWW3.out
              obtain ⟨m0, m1, m2⟩ := HT3.out.cells htt
              have HQT : Hid (QC T (k * 3) tt y3) := QC.next (W := w3) ⟨m0, m1, m2, blk_lt HT3.out⟩ HWW3.out
              rw [HDL.out.symm] at HD3
              obtain ⟨db, doff, hD, hdb, hdc⟩ := Rd.at_ (enc := rtV) rtV_len (HD3.out) hd
              have e0 := hdc 0 _ rfl
              have e1 := hdc 1 _ rfl
              have e2 := hdc 2 _ rfl
              rw [Nat.add_zero] at e0
              rw [← Nat.add_assoc] at e1 e2
              have HQD : Hid (QC db (doff + k * 3) d y3) := ⟨e0, e1, e2, hdb⟩
              rw [HDL.out] at HD3
              clear hoc hob n0 n1' n2' m0 m1 m2 hdc hdb e0 e1 e2 ho htt hd hea hsh hz hnx hgz htz hdz hoz ha' hvz hv hs' hsn hy hc' hcn hcc hg' hgn hnq hbb
              subst hO
              subst hD
              have HQo : Hid (QC ob (ooff + k * 3) o wt) := HQO.out.next HB.out
              have HQt : Hid (QC T (k * 3) tt wt) := HQT.out.next HB.out
              have HQd : Hid (QC db (doff + k * 3) d wt) := HQD.out.next HB.out
              go_upto_region 26 with fail
              go_cut [23] from 103 to 111 (fun s23 wx => SumM y3 gA gG u gt v s23 wx)
              case first =>
                obtain ⟨b1, hw_b1⟩ : ∃ W, W = wt.drew := ⟨_, rfl⟩
                have HA1 : Hid (Bk gA (.cells #[.bool (rneg u), .string (rnum u), .string (rden u)] 33) b1) := by rw [hw_b1]; exact HA.out
                have HG1 : Hid (Bk gG (.cells #[.bool (rneg gt), .string (rnum gt), .string (rden gt)] 33) b1) := by rw [hw_b1]; exact HG.out
                have HB1 : Hid (Below y3.heap.size y3 b1) := by rw [hw_b1]; exact HB.out.drew
                have HP1 : Hid (QC T (k * 3) tt b1) := by rw [hw_b1]; exact HQt.out.drew
                have HQ1 : Hid (QC db (doff + k * 3) d b1) := by rw [hw_b1]; exact HQd.out.drew
                have hS1 : (AndW (QC T (k * 3) tt) (QC db (doff + k * 3) d)) b1 := ⟨HP1.out, HQ1.out⟩
                refine wp_region_held_drew (S := (AndW (QC T (k * 3) tt) (QC db (doff + k * 3) d))) (by kernel_rfl) (by rw [← hw_b1]; exact hS1) ?_
                rw [← hw_b1]
                intro _
                clear hw_b1 HA HG HB HQt HQd
                refine wpAnyH_take (i := 0) rfl (by kernel_rfl) (by kernel_rfl) (by kernel_rfl) (fun _ _ _ h => h) (Or.inl ⟨by kernel_rfl, (by intro w' _; go_simp; with_reducible rfl)⟩) hS1 ?_
                go_simp
                refine wpAnyH_take (i := 1) rfl (by kernel_rfl) (by kernel_rfl) (by kernel_rfl) (fun _ _ _ h => h) (Or.inl ⟨by kernel_rfl, (by intro w' _; go_simp; with_reducible rfl)⟩) hS1 ?_
                go_simp
                refine wpAnyH_take (i := 2) rfl (by kernel_rfl) (by kernel_rfl) (by kernel_rfl) (fun _ _ _ h => h) (Or.inl ⟨by kernel_rfl, (by intro w' _; go_simp; with_reducible rfl)⟩) hS1 ?_
                go_simp
                refine wpAnyH_take (i := 3) (v := .agg #[.bool (rneg tt), .string (rnum tt), .string (rden tt)]) rfl (by kernel_rfl) (by kernel_rfl) (by kernel_rfl) (fun _ _ _ h => h) (Or.inl ⟨by kernel_rfl, (by intro w' hw'; obtain ⟨k0, k1, k2, _⟩ := hw'.1; go_simp)⟩) hS1 ?_
                go_simp
                refine wpAnyH_take (i := 4) rfl (by kernel_rfl) (by kernel_rfl) (by kernel_rfl) (fun _ _ _ h => h) (Or.inl ⟨by kernel_rfl, (by intro w' _; go_simp; with_reducible rfl)⟩) hS1 ?_
                go_simp
                refine wpAnyH_take (i := 5) rfl (by kernel_rfl) (by kernel_rfl) (by kernel_rfl) (fun _ _ _ h => h) (Or.inl ⟨by kernel_rfl, (by intro w' _; go_simp; with_reducible rfl)⟩) hS1 ?_
                go_simp
                refine wpAnyH_take (i := 6) rfl (by kernel_rfl) (by kernel_rfl) (by kernel_rfl) (fun _ _ _ h => h) (Or.inl ⟨by kernel_rfl, (by intro w' _; go_simp; with_reducible rfl)⟩) hS1 ?_
                go_simp
                refine wpAnyH_take (i := 7) (v := .agg #[.bool (rneg d), .string (rnum d), .string (rden d)]) rfl (by kernel_rfl) (by kernel_rfl) (by kernel_rfl) (fun _ _ _ h => h) (Or.inl ⟨by kernel_rfl, (by intro w' hw'; obtain ⟨k0, k1, k2, _⟩ := hw'.2; go_simp)⟩) hS1 ?_
                go_simp
                refine wpAnyH_ready (rs := [8, 9]) (by kernel_rfl) (by simp) ?_
                refine AllReadyH.cons rfl (fun K hK => ?_) (AllReadyH.cons rfl (fun K hK => ?_) AllReadyH.nil)
                · go_simp
                  refine (HAD.out _).mono ?_
                  rintro e b2 ⟨rfl, hb⟩
                  have HA2 : Hid (Bk gA (.cells #[.bool (rneg u), .string (rnum u), .string (rden u)] 33) b2) := blk_next HA1.out hb
                  have HG2 : Hid (Bk gG (.cells #[.bool (rneg gt), .string (rnum gt), .string (rden gt)] 33) b2) := blk_next HG1.out hb
                  have HB2 : Hid (Below y3.heap.size y3 b2) := HB1.out.trans (hb.mono HB1.out.size)
                  have HP2 : Hid (QC T (k * 3) tt b2) := HP1.out.next hb
                  have HQ2 : Hid (QC db (doff + k * 3) d b2) := HQ1.out.next hb
                  clear hb HA1 HG1 HB1 HP1 HQ1
                  have hS2 : (AndW (QC T (k * 3) tt) (QC db (doff + k * 3) d)) b2 := ⟨HP2.out, HQ2.out⟩
                  refine hK.out _ _ hS2 (fun _ => ?_)
                  clear hK K
                  refine wpAnyH_ready (rs := [9]) (by kernel_rfl) (by simp) ?_
                  refine AllReadyH.cons rfl (fun K hK => ?_) AllReadyH.nil
                  go_simp
                  obtain ⟨gs, hg_gs⟩ : ∃ g, g = b2.heap.size := ⟨_, rfl⟩
                  obtain ⟨b3, hw_b3⟩ : ∃ W, W = b2.alloc (.cells #[.bool false, .string ⟨#[]⟩, .string ⟨#[]⟩] 33) := ⟨_, rfl⟩
                  have HL_gs := Lib.hid (And.intro (by have := blk_lt HA2.out; omega : gA < gs) (And.intro (by have := blk_lt HG2.out; omega : gG < gs) ((by have := HB2.out.size; omega : y3.heap.size ≤ gs))))
                  have HA3 : Hid (Bk gA (.cells #[.bool (rneg u), .string (rnum u), .string (rden u)] 33) b3) := by rw [hw_b3]; exact blk_next HA2.out (bel_alloc _ _)
                  have HG3 : Hid (Bk gG (.cells #[.bool (rneg gt), .string (rnum gt), .string (rden gt)] 33) b3) := by rw [hw_b3]; exact blk_next HG2.out (bel_alloc _ _)
                  have HB3 : Hid (Below y3.heap.size y3 b3) := by rw [hw_b3]; exact HB2.out.trans ((bel_alloc _ _).mono HB2.out.size)
                  have HP3 : Hid (QC T (k * 3) tt b3) := by rw [hw_b3]; exact HP2.out.next (bel_alloc _ _)
                  have HQ3 : Hid (QC db (doff + k * 3) d b3) := by rw [hw_b3]; exact HQ2.out.next (bel_alloc _ _)
                  have HS3 : Hid (Bk gs (.cells #[.bool false, .string ⟨#[]⟩, .string ⟨#[]⟩] 33) b3) := by rw [hw_b3, hg_gs]; exact blk_new _ _
                  rw [← hw_b3]
                  (try rw [← hg_gs])
                  clear hw_b3 hg_gs HA2 HG2 HB2 HP2 HQ2
                  have hS3 : (AndW (QC T (k * 3) tt) (QC db (doff + k * 3) d)) b3 := ⟨HP3.out, HQ3.out⟩
                  refine hK.out _ _ hS3 (fun _ => ?_)
                  clear hK K
                  refine wpAnyH_ready (rs := [10]) (by kernel_rfl) (by simp) ?_
                  refine AllReadyH.cons rfl (fun K hK => ?_) AllReadyH.nil
                  obtain ⟨l0, l1, l2, fl0, fl1, fl2, hzl⟩ := three_of HS3.out
                  go_simp
                  clear l0 l1 l2 fl0 fl1 fl2 hzl
                  obtain ⟨wz, hwz⟩ : ∃ W, W = ((b3.setCell ⟨gs, 0, none⟩ (.bool (rneg v))).setCell ⟨gs, 1, none⟩ (.string (rnum v))).setCell ⟨gs, 2, none⟩ (.string (rden v)) := ⟨_, rfl⟩
                  have ho : Only gs b3 wz := by rw [hwz]; exact (((Only.refl _ _).setC _ _).setC _ _).setC _ _
                  have HSz : Hid (Bk gs (.cells #[.bool (rneg v), .string (rnum v), .string (rden v)] 33) wz) := by rw [hwz]; exact heap_setCell_same _ gs 2 _ _ _ (heap_setCell_same _ gs 1 _ _ _ (heap_setCell_same _ gs 0 _ _ _ HS3.out))
                  have HAz : Hid (Bk gA (.cells #[.bool (rneg u), .string (rnum u), .string (rden u)] 33) wz) := blk_onlyW HA3.out ho (by have := HL_gs.out; omega)
                  have HGz : Hid (Bk gG (.cells #[.bool (rneg gt), .string (rnum gt), .string (rden gt)] 33) wz) := blk_onlyW HG3.out ho (by have := HL_gs.out; omega)
                  have HBz : Hid (Below y3.heap.size y3 wz) := HB3.out.trans (ho.at_ _ HB3.out.size (by have := HL_gs.out; omega))
                  have hSz : (AndW (QC T (k * 3) tt) (QC db (doff + k * 3) d)) wz := ⟨HQT.out.next HBz.out, HQD.out.next HBz.out⟩
                  rw [← hwz]
                  clear hwz ho
                  refine hK.out _ _ hSz (fun _ => ?_)
                  clear hK K
                  refine wpAnyH_done (by kernel_rfl) ?_ _
                  (try go_wp2_with fail)
                  go_meet
                  exact ⟨gs, rfl, HSz.out, HAz.out, HGz.out, HBz.out, by have := HL_gs.out; omega, by have := HL_gs.out; omega⟩
                · go_simp
                  obtain ⟨gs, hg_gs⟩ : ∃ g, g = b1.heap.size := ⟨_, rfl⟩
                  obtain ⟨b2, hw_b2⟩ : ∃ W, W = b1.alloc (.cells #[.bool false, .string ⟨#[]⟩, .string ⟨#[]⟩] 33) := ⟨_, rfl⟩
                  have HL_gs := Lib.hid (And.intro (by have := blk_lt HA1.out; omega : gA < gs) (And.intro (by have := blk_lt HG1.out; omega : gG < gs) ((by have := HB1.out.size; omega : y3.heap.size ≤ gs))))
                  have HA2 : Hid (Bk gA (.cells #[.bool (rneg u), .string (rnum u), .string (rden u)] 33) b2) := by rw [hw_b2]; exact blk_next HA1.out (bel_alloc _ _)
                  have HG2 : Hid (Bk gG (.cells #[.bool (rneg gt), .string (rnum gt), .string (rden gt)] 33) b2) := by rw [hw_b2]; exact blk_next HG1.out (bel_alloc _ _)
                  have HB2 : Hid (Below y3.heap.size y3 b2) := by rw [hw_b2]; exact HB1.out.trans ((bel_alloc _ _).mono HB1.out.size)
                  have HP2 : Hid (QC T (k * 3) tt b2) := by rw [hw_b2]; exact HP1.out.next (bel_alloc _ _)
                  have HQ2 : Hid (QC db (doff + k * 3) d b2) := by rw [hw_b2]; exact HQ1.out.next (bel_alloc _ _)
                  have HS2 : Hid (Bk gs (.cells #[.bool false, .string ⟨#[]⟩, .string ⟨#[]⟩] 33) b2) := by rw [hw_b2, hg_gs]; exact blk_new _ _
                  rw [← hw_b2]
                  (try rw [← hg_gs])
                  clear hw_b2 hg_gs HA1 HG1 HB1 HP1 HQ1
                  have hS2 : (AndW (QC T (k * 3) tt) (QC db (doff + k * 3) d)) b2 := ⟨HP2.out, HQ2.out⟩
                  refine hK.out _ _ hS2 (fun _ => ?_)
                  clear hK K
                  refine wpAnyH_ready (rs := [8]) (by kernel_rfl) (by simp) ?_
                  refine AllReadyH.cons rfl (fun K hK => ?_) AllReadyH.nil
                  go_simp
                  refine (HAD.out _).mono ?_
                  rintro e b3 ⟨rfl, hb⟩
                  have HA3 : Hid (Bk gA (.cells #[.bool (rneg u), .string (rnum u), .string (rden u)] 33) b3) := blk_next HA2.out hb
                  have HG3 : Hid (Bk gG (.cells #[.bool (rneg gt), .string (rnum gt), .string (rden gt)] 33) b3) := blk_next HG2.out hb
                  have HB3 : Hid (Below y3.heap.size y3 b3) := HB2.out.trans (hb.mono HB2.out.size)
                  have HP3 : Hid (QC T (k * 3) tt b3) := HP2.out.next hb
                  have HQ3 : Hid (QC db (doff + k * 3) d b3) := HQ2.out.next hb
                  have HS3 : Hid (Bk gs (.cells #[.bool false, .string ⟨#[]⟩, .string ⟨#[]⟩] 33) b3) := blk_next HS2.out hb
                  clear hb HA2 HG2 HB2 HP2 HQ2 HS2
                  have hS3 : (AndW (QC T (k * 3) tt) (QC db (doff + k * 3) d)) b3 := ⟨HP3.out, HQ3.out⟩
                  refine hK.out _ _ hS3 (fun _ => ?_)
                  clear hK K
                  refine wpAnyH_ready (rs := [10]) (by kernel_rfl) (by simp) ?_
                  refine AllReadyH.cons rfl (fun K hK => ?_) AllReadyH.nil
                  obtain ⟨l0, l1, l2, fl0, fl1, fl2, hzl⟩ := three_of HS3.out
                  go_simp
                  clear l0 l1 l2 fl0 fl1 fl2 hzl
                  obtain ⟨wz, hwz⟩ : ∃ W, W = ((b3.setCell ⟨gs, 0, none⟩ (.bool (rneg v))).setCell ⟨gs, 1, none⟩ (.string (rnum v))).setCell ⟨gs, 2, none⟩ (.string (rden v)) := ⟨_, rfl⟩
                  have ho : Only gs b3 wz := by rw [hwz]; exact (((Only.refl _ _).setC _ _).setC _ _).setC _ _
                  have HSz : Hid (Bk gs (.cells #[.bool (rneg v), .string (rnum v), .string (rden v)] 33) wz) := by rw [hwz]; exact heap_setCell_same _ gs 2 _ _ _ (heap_setCell_same _ gs 1 _ _ _ (heap_setCell_same _ gs 0 _ _ _ HS3.out))
                  have HAz : Hid (Bk gA (.cells #[.bool (rneg u), .string (rnum u), .string (rden u)] 33) wz) := blk_onlyW HA3.out ho (by have := HL_gs.out; omega)
                  have HGz : Hid (Bk gG (.cells #[.bool (rneg gt), .string (rnum gt), .string (rden gt)] 33) wz) := blk_onlyW HG3.out ho (by have := HL_gs.out; omega)
                  have HBz : Hid (Below y3.heap.size y3 wz) := HB3.out.trans (ho.at_ _ HB3.out.size (by have := HL_gs.out; omega))
                  have hSz : (AndW (QC T (k * 3) tt) (QC db (doff + k * 3) d)) wz := ⟨HQT.out.next HBz.out, HQD.out.next HBz.out⟩
                  rw [← hwz]
                  clear hwz ho
                  refine hK.out _ _ hSz (fun _ => ?_)
                  clear hK K
                  refine wpAnyH_done (by kernel_rfl) ?_ _
                  (try go_wp2_with fail)
                  go_meet
                  exact ⟨gs, rfl, HSz.out, HAz.out, HGz.out, HBz.out, by have := HL_gs.out; omega, by have := HL_gs.out; omega⟩
              case rest =>
                clear HA HG HB HQo HQt HQd HAD
                obtain ⟨gs, rfl, hbs, hba, hbg, hbb, hls, hly⟩ := hcut
                rename World => wc
                have HS : Hid (Bk gs (.cells #[.bool (rneg v), .string (rnum v), .string (rden v)] 33) wc) := hbs
                have HA : Hid (Bk gA (.cells #[.bool (rneg u), .string (rnum u), .string (rden u)] 33) wc) := hba
                have HG : Hid (Bk gG (.cells #[.bool (rneg gt), .string (rnum gt), .string (rden gt)] 33) wc) := hbg
                have HB : Hid (Below y3.heap.size y3 wc) := hbb
                have HLS : Hid (gG < gs ∧ y3.heap.size ≤ gs) := ⟨hls, hly⟩
                have HLQ : Hid (T < y3.heap.size ∧ ob < y3.heap.size) := ⟨HQT.out.2.2.2, HQO.out.2.2.2⟩
                clear hbs hba hbg hbb hls hly
                have HQo : Hid (QC ob (ooff + k * 3) o wc) := HQO.out.next HB.out
                have HQt : Hid (QC T (k * 3) tt wc) := HQT.out.next HB.out
                go_wp2_with fail
                obtain ⟨c1, hw_c1⟩ : ∃ W, W = wc.drew := ⟨_, rfl⟩
                have HS1 : Hid (Bk gs (.cells #[.bool (rneg v), .string (rnum v), .string (rden v)] 33) c1) := by rw [hw_c1]; exact HS.out
                have HA1 : Hid (Bk gA (.cells #[.bool (rneg u), .string (rnum u), .string (rden u)] 33) c1) := by rw [hw_c1]; exact HA.out
                have HG1 : Hid (Bk gG (.cells #[.bool (rneg gt), .string (rnum gt), .string (rden gt)] 33) c1) := by rw [hw_c1]; exact HG.out
                have HB1 : Hid (Below y3.heap.size y3 c1) := by rw [hw_c1]; exact HB.out.drew
                have HP1 : Hid (QC T (k * 3) tt c1) := by rw [hw_c1]; exact HQt.out.drew
                have HQ1 : Hid (QC ob (ooff + k * 3) o c1) := by rw [hw_c1]; exact HQo.out.drew
                have hS1 : (AndW (Bk gs (.cells #[.bool (rneg v), .string (rnum v), .string (rden v)] 33)) (AndW (QC T (k * 3) tt) (QC ob (ooff + k * 3) o))) c1 := ⟨HS1.out, HP1.out, HQ1.out⟩
                refine wp_region_held_drew (S := (AndW (Bk gs (.cells #[.bool (rneg v), .string (rnum v), .string (rden v)] 33)) (AndW (QC T (k * 3) tt) (QC ob (ooff + k * 3) o)))) (by kernel_rfl) (by rw [← hw_c1]; exact hS1) ?_
                rw [← hw_c1]
                intro _
                clear hw_c1 HS HA HG HB HQt HQo
                refine wpAnyH_take (i := 0) rfl (by kernel_rfl) (by kernel_rfl) (by kernel_rfl) (fun _ _ _ h => h) (Or.inl ⟨by kernel_rfl, (by intro w' _; go_simp; with_reducible rfl)⟩) hS1 ?_
                go_simp
                refine wpAnyH_take (i := 1) rfl (by kernel_rfl) (by kernel_rfl) (by kernel_rfl) (fun _ _ _ h => h) (Or.inl ⟨by kernel_rfl, (by intro w' _; go_simp; with_reducible rfl)⟩) hS1 ?_
                go_simp
                refine wpAnyH_take (i := 2) rfl (by kernel_rfl) (by kernel_rfl) (by kernel_rfl) (fun _ _ _ h => h) (Or.inl ⟨by kernel_rfl, (by intro w' _; go_simp; with_reducible rfl)⟩) hS1 ?_
                go_simp
                refine wpAnyH_take (i := 3) (v := .agg #[.bool (rneg tt), .string (rnum tt), .string (rden tt)]) rfl (by kernel_rfl) (by kernel_rfl) (by kernel_rfl) (fun _ _ _ h => h) (Or.inl ⟨by kernel_rfl, (by intro w' hw'; obtain ⟨k0, k1, k2, _⟩ := hw'.2.1; go_simp)⟩) hS1 ?_
                go_simp
                refine wpAnyH_ready (rs := [4]) (by kernel_rfl) (by simp) ?_
                refine AllReadyH.cons rfl (fun K hK => ?_) AllReadyH.nil
                go_simp
                refine (HSG.out _).mono ?_
                rintro e c2 ⟨rfl, hb⟩
                have HS2 : Hid (Bk gs (.cells #[.bool (rneg v), .string (rnum v), .string (rden v)] 33) c2) := blk_next HS1.out hb
                have HA2 : Hid (Bk gA (.cells #[.bool (rneg u), .string (rnum u), .string (rden u)] 33) c2) := blk_next HA1.out hb
                have HG2 : Hid (Bk gG (.cells #[.bool (rneg gt), .string (rnum gt), .string (rden gt)] 33) c2) := blk_next HG1.out hb
                have HB2 : Hid (Below y3.heap.size y3 c2) := HB1.out.trans (hb.mono HB1.out.size)
                have HP2 : Hid (QC T (k * 3) tt c2) := HP1.out.next hb
                have HQ2 : Hid (QC ob (ooff + k * 3) o c2) := HQ1.out.next hb
                clear hb HS1 HA1 HG1 HB1 HP1 HQ1
                have hS2 : (AndW (Bk gs (.cells #[.bool (rneg v), .string (rnum v), .string (rden v)] 33)) (AndW (QC T (k * 3) tt) (QC ob (ooff + k * 3) o))) c2 := ⟨HS2.out, HP2.out, HQ2.out⟩
                refine hK.out _ _ hS2 (fun _ => ?_)
                clear hK K
                refine wpAnyH_take (i := 5) rfl (by kernel_rfl) (by kernel_rfl) (by kernel_rfl) (fun _ _ _ h => h) (Or.inl ⟨by kernel_rfl, (by intro w' _; go_simp; with_reducible rfl)⟩) hS2 ?_
                go_simp
                refine wpAnyH_take (i := 6) rfl (by kernel_rfl) (by kernel_rfl) (by kernel_rfl) (fun _ _ _ h => h) (Or.inl ⟨by kernel_rfl, (by intro w' _; go_simp; with_reducible rfl)⟩) hS2 ?_
                go_simp
                refine wpAnyH_take (i := 7) (v := .agg #[.bool (rneg v), .string (rnum v), .string (rden v)]) rfl (by kernel_rfl) (by kernel_rfl) (by kernel_rfl) (fun _ _ _ h => h) (Or.inl ⟨by kernel_rfl, (by intro w' hw'; obtain ⟨k0, k1, k2, fk0, fk1, fk2, hzk⟩ := three_of hw'.1; go_simp)⟩) hS2 ?_
                go_simp
                refine wpAnyH_take (i := 8) rfl (by kernel_rfl) (by kernel_rfl) (by kernel_rfl) (fun _ _ _ h => h) (Or.inl ⟨by kernel_rfl, (by intro w' _; go_simp; with_reducible rfl)⟩) hS2 ?_
                go_simp
                refine wpAnyH_take (i := 9) rfl (by kernel_rfl) (by kernel_rfl) (by kernel_rfl) (fun _ _ _ h => h) (Or.inl ⟨by kernel_rfl, (by intro w' _; go_simp; with_reducible rfl)⟩) hS2 ?_
                go_simp
                refine wpAnyH_take (i := 10) rfl (by kernel_rfl) (by kernel_rfl) (by kernel_rfl) (fun _ _ _ h => h) (Or.inl ⟨by kernel_rfl, (by intro w' _; go_simp; with_reducible rfl)⟩) hS2 ?_
                go_simp
                refine wpAnyH_take (i := 11) (v := .agg #[.bool (rneg o), .string (rnum o), .string (rden o)]) rfl (by kernel_rfl) (by kernel_rfl) (by kernel_rfl) (fun _ _ _ h => h) (Or.inl ⟨by kernel_rfl, (by intro w' hw'; obtain ⟨k0, k1, k2, _⟩ := hw'.2.2; go_simp)⟩) hS2 ?_
                go_simp
                refine wpAnyH_ready (rs := [12]) (by kernel_rfl) (by simp) ?_
                refine AllReadyH.cons rfl (fun K hK => ?_) AllReadyH.nil
                go_simp
                refine (HCP.out _).mono ?_
                rintro e c3 ⟨rfl, hb⟩
                have HS3 : Hid (Bk gs (.cells #[.bool (rneg v), .string (rnum v), .string (rden v)] 33) c3) := blk_next HS2.out hb
                have HA3 : Hid (Bk gA (.cells #[.bool (rneg u), .string (rnum u), .string (rden u)] 33) c3) := blk_next HA2.out hb
                have HG3 : Hid (Bk gG (.cells #[.bool (rneg gt), .string (rnum gt), .string (rden gt)] 33) c3) := blk_next HG2.out hb
                have HB3 : Hid (Below y3.heap.size y3 c3) := HB2.out.trans (hb.mono HB2.out.size)
                have HP3 : Hid (QC T (k * 3) tt c3) := HP2.out.next hb
                have HQ3 : Hid (QC ob (ooff + k * 3) o c3) := HQ2.out.next hb
                clear hb HS2 HA2 HG2 HB2 HP2 HQ2
                have hS3 : (AndW (Bk gs (.cells #[.bool (rneg v), .string (rnum v), .string (rden v)] 33)) (AndW (QC T (k * 3) tt) (QC ob (ooff + k * 3) o))) c3 := ⟨HS3.out, HP3.out, HQ3.out⟩
                refine hK.out _ _ hS3 (fun _ => ?_)
                clear hK K
                refine wpAnyH_take (i := 13) rfl (by kernel_rfl) (by kernel_rfl) (by kernel_rfl) (fun _ _ _ h => h) (Or.inl ⟨by kernel_rfl, (by intro w' _; go_simp; with_reducible rfl)⟩) hS3 ?_
                go_simp
                refine wpAnyH_take (i := 14) rfl (by kernel_rfl) (by kernel_rfl) (by kernel_rfl) (fun _ _ _ h => h) (Or.inl ⟨by kernel_rfl, (by intro w' _; go_simp; with_reducible rfl)⟩) hS3 ?_
                go_simp
                refine wpAnyH_done (by kernel_rfl) ?_ _
                obtain ⟨l0, l1, l2, fl0, fl1, fl2, hzl⟩ := three_of HG3.out
                obtain ⟨r0, r1, r2, fr0, fr1, fr2, hzr⟩ := three_of HS3.out
                go_wp2_with fail
                clear l0 l1 l2 fl0 fl1 fl2 hzl
                clear r0 r1 r2 fr0 fr1 fr2 hzr
                refine (HGA.out _).mono ?_
                rintro e c4 ⟨rfl, hb⟩
                have HS4 : Hid (Bk gs (.cells #[.bool (rneg v), .string (rnum v), .string (rden v)] 33) c4) := blk_next HS3.out hb
                have HA4 : Hid (Bk gA (.cells #[.bool (rneg u), .string (rnum u), .string (rden u)] 33) c4) := blk_next HA3.out hb
                have HG4 : Hid (Bk gG (.cells #[.bool (rneg gt), .string (rnum gt), .string (rden gt)] 33) c4) := blk_next HG3.out hb
                have HB4 : Hid (Below y3.heap.size y3 c4) := HB3.out.trans (hb.mono HB3.out.size)
                have HP4 : Hid (QC T (k * 3) tt c4) := HP3.out.next hb
                have HQ4 : Hid (QC ob (ooff + k * 3) o c4) := HQ3.out.next hb
                clear hb HS3 HA3 HG3 HB3 HP3 HQ3
                obtain ⟨l0, l1, l2, fl0, fl1, fl2, hzl⟩ := three_of HG4.out
                go_wp2_with fail
                clear l0 l1 l2 fl0 fl1 fl2 hzl
                obtain ⟨c5, hw_c5⟩ : ∃ W, W = (((c4.setCell ⟨gG, 0, none⟩ (.bool (rneg gn))).setCell ⟨gG, 1, none⟩ (.string (rnum gn))).setCell ⟨gG, 2, none⟩ (.string (rden gn))) := ⟨_, rfl⟩
                have ho : Only gG c4 c5 := by rw [hw_c5]; exact (((Only.refl _ _).setC _ _).setC _ _).setC _ _
                have HS5 : Hid (Bk gs (.cells #[.bool (rneg v), .string (rnum v), .string (rden v)] 33) c5) := blk_onlyW HS4.out ho (by have := HLG.out; have := HLS.out; have := HLQ.out; omega)
                have HA5 : Hid (Bk gA (.cells #[.bool (rneg u), .string (rnum u), .string (rden u)] 33) c5) := blk_onlyW HA4.out ho (by have := HLG.out; have := HLS.out; have := HLQ.out; omega)
                have HB5 : Hid (Below y3.heap.size y3 c5) := HB4.out.trans (ho.at_ _ HB4.out.size (by have := HLG.out; have := HLS.out; have := HLQ.out; omega))
                have HP5 : Hid (QC T (k * 3) tt c5) := HP4.out.only ho (by have := HLG.out; have := HLS.out; have := HLQ.out; omega)
                have HQ5 : Hid (QC ob (ooff + k * 3) o c5) := HQ4.out.only ho (by have := HLG.out; have := HLS.out; have := HLQ.out; omega)
                have HG5 : Hid (Bk gG (.cells #[.bool (rneg gn), .string (rnum gn), .string (rden gn)] 33) c5) := by rw [hw_c5]; exact heap_setCell_same _ gG 2 _ _ (.string (rden gn)) (heap_setCell_same _ gG 1 _ _ (.string (rnum gn)) (heap_setCell_same _ gG 0 _ _ (.bool (rneg gn)) (HG4.out)))
                rw [← hw_c5]
                clear hw_c5 ho HG4 HS4 HA4 HB4 HP4 HQ4
                cases sh
                · obtain ⟨c6, hw_c6⟩ : ∃ W, W = c5.drew := ⟨_, rfl⟩
                  have HS6 : Hid (Bk gs (.cells #[.bool (rneg v), .string (rnum v), .string (rden v)] 33) c6) := by rw [hw_c6]; exact HS5.out
                  have HA6 : Hid (Bk gA (.cells #[.bool (rneg u), .string (rnum u), .string (rden u)] 33) c6) := by rw [hw_c6]; exact HA5.out
                  have HG6 : Hid (Bk gG (.cells #[.bool (rneg gn), .string (rnum gn), .string (rden gn)] 33) c6) := by rw [hw_c6]; exact HG5.out
                  have HB6 : Hid (Below y3.heap.size y3 c6) := by rw [hw_c6]; exact HB5.out.drew
                  have HP6 : Hid (QC T (k * 3) tt c6) := by rw [hw_c6]; exact HP5.out.drew
                  have HQ6 : Hid (QC ob (ooff + k * 3) o c6) := by rw [hw_c6]; exact HQ5.out.drew
                  have hS4 : (AndW (Bk gs (.cells #[.bool (rneg v), .string (rnum v), .string (rden v)] 33)) (QC ob (ooff + k * 3) o)) c6 := ⟨HS6.out, HQ6.out⟩
                  refine wp_region_held_drew (S := (AndW (Bk gs (.cells #[.bool (rneg v), .string (rnum v), .string (rden v)] 33)) (QC ob (ooff + k * 3) o))) (by kernel_rfl) (by rw [← hw_c6]; exact hS4) ?_
                  rw [← hw_c6]
                  intro _
                  clear hw_c6 HS5 HA5 HG5 HB5 HP5 HQ5
                  refine wpAnyH_take (i := 0) rfl (by kernel_rfl) (by kernel_rfl) (by kernel_rfl) (fun _ _ _ h => h) (Or.inl ⟨by kernel_rfl, (by intro w' _; go_simp; with_reducible rfl)⟩) hS4 ?_
                  go_simp
                  refine wpAnyH_take (i := 1) rfl (by kernel_rfl) (by kernel_rfl) (by kernel_rfl) (fun _ _ _ h => h) (Or.inl ⟨by kernel_rfl, (by intro w' _; go_simp; with_reducible rfl)⟩) hS4 ?_
                  go_simp
                  refine wpAnyH_take (i := 2) (v := .agg #[.bool (rneg v), .string (rnum v), .string (rden v)]) rfl (by kernel_rfl) (by kernel_rfl) (by kernel_rfl) (fun _ _ _ h => h) (Or.inl ⟨by kernel_rfl, (by intro w' hw'; obtain ⟨k0, k1, k2, fk0, fk1, fk2, hzk⟩ := three_of hw'.1; go_simp)⟩) hS4 ?_
                  go_simp
                  refine wpAnyH_take (i := 3) rfl (by kernel_rfl) (by kernel_rfl) (by kernel_rfl) (fun _ _ _ h => h) (Or.inl ⟨by kernel_rfl, (by intro w' _; go_simp; with_reducible rfl)⟩) hS4 ?_
                  go_simp
                  refine wpAnyH_take (i := 4) rfl (by kernel_rfl) (by kernel_rfl) (by kernel_rfl) (fun _ _ _ h => h) (Or.inl ⟨by kernel_rfl, (by intro w' _; go_simp; with_reducible rfl)⟩) hS4 ?_
                  go_simp
                  refine wpAnyH_take (i := 5) rfl (by kernel_rfl) (by kernel_rfl) (by kernel_rfl) (fun _ _ _ h => h) (Or.inl ⟨by kernel_rfl, (by intro w' _; go_simp; with_reducible rfl)⟩) hS4 ?_
                  go_simp
                  refine wpAnyH_take (i := 6) (v := .agg #[.bool (rneg o), .string (rnum o), .string (rden o)]) rfl (by kernel_rfl) (by kernel_rfl) (by kernel_rfl) (fun _ _ _ h => h) (Or.inl ⟨by kernel_rfl, (by intro w' hw'; obtain ⟨k0, k1, k2, _⟩ := hw'.2; go_simp)⟩) hS4 ?_
                  go_simp
                  have hnq := HNQ.out
                  refine wpAnyH_take (i := 7) (v := .bool bb) rfl (by kernel_rfl) (by kernel_rfl) (by kernel_rfl) (fun _ _ _ h => h) (Or.inl ⟨by kernel_rfl, (by intro w' _; go_simp)⟩) hS4 ?_
                  go_simp
                  clear hnq
                  refine wpAnyH_take (i := 8) rfl (by kernel_rfl) (by kernel_rfl) (by kernel_rfl) (fun _ _ _ h => h) (Or.inl ⟨by kernel_rfl, (by intro w' _; go_simp; with_reducible rfl)⟩) hS4 ?_
                  go_simp
                  refine wpAnyH_take (i := 9) rfl (by kernel_rfl) (by kernel_rfl) (by kernel_rfl) (fun _ _ _ h => h) (Or.inl ⟨by kernel_rfl, (by intro w' _; go_simp; with_reducible rfl)⟩) hS4 ?_
                  go_simp
                  refine wpAnyH_done (by kernel_rfl) ?_ _
                  go_wp2_with fail
                  go_roundw
                  case measure => simp [intOf] <;> omega
                  case rel => exact ⟨k + 1, _, by omega, rfl, by go_num, HSH, HA6, by rw [HNX.out]; exact HG6, HB6⟩
                · obtain ⟨c6, hw_c6⟩ : ∃ W, W = c5.drew := ⟨_, rfl⟩
                  have HS6 : Hid (Bk gs (.cells #[.bool (rneg v), .string (rnum v), .string (rden v)] 33) c6) := by rw [hw_c6]; exact HS5.out
                  have HA6 : Hid (Bk gA (.cells #[.bool (rneg u), .string (rnum u), .string (rden u)] 33) c6) := by rw [hw_c6]; exact HA5.out
                  have HG6 : Hid (Bk gG (.cells #[.bool (rneg gn), .string (rnum gn), .string (rden gn)] 33) c6) := by rw [hw_c6]; exact HG5.out
                  have HB6 : Hid (Below y3.heap.size y3 c6) := by rw [hw_c6]; exact HB5.out.drew
                  have HP6 : Hid (QC T (k * 3) tt c6) := by rw [hw_c6]; exact HP5.out.drew
                  have HQ6 : Hid (QC ob (ooff + k * 3) o c6) := by rw [hw_c6]; exact HQ5.out.drew
                  have hS4 : (AndW (Bk gs (.cells #[.bool (rneg v), .string (rnum v), .string (rden v)] 33)) (QC ob (ooff + k * 3) o)) c6 := ⟨HS6.out, HQ6.out⟩
                  refine wp_region_held_drew (S := (AndW (Bk gs (.cells #[.bool (rneg v), .string (rnum v), .string (rden v)] 33)) (QC ob (ooff + k * 3) o))) (by kernel_rfl) (by rw [← hw_c6]; exact hS4) ?_
                  rw [← hw_c6]
                  intro _
                  clear hw_c6 HS5 HA5 HG5 HB5 HP5 HQ5
                  refine wpAnyH_take (i := 0) rfl (by kernel_rfl) (by kernel_rfl) (by kernel_rfl) (fun _ _ _ h => h) (Or.inl ⟨by kernel_rfl, (by intro w' _; go_simp; with_reducible rfl)⟩) hS4 ?_
                  go_simp
                  refine wpAnyH_take (i := 1) rfl (by kernel_rfl) (by kernel_rfl) (by kernel_rfl) (fun _ _ _ h => h) (Or.inl ⟨by kernel_rfl, (by intro w' _; go_simp; with_reducible rfl)⟩) hS4 ?_
                  go_simp
                  refine wpAnyH_take (i := 2) (v := undef) rfl (by kernel_rfl) (by kernel_rfl) (by kernel_rfl) (fun _ _ _ h => h) (Or.inr ⟨by kernel_rfl, rfl⟩) hS4 ?_
                  go_simp
                  refine wpAnyH_take (i := 3) (v := undef) rfl (by kernel_rfl) (by kernel_rfl) (by kernel_rfl) (fun _ _ _ h => h) (Or.inr ⟨by kernel_rfl, rfl⟩) hS4 ?_
                  go_simp
                  refine wpAnyH_take (i := 4) (v := undef) rfl (by kernel_rfl) (by kernel_rfl) (by kernel_rfl) (fun _ _ _ h => h) (Or.inr ⟨by kernel_rfl, rfl⟩) hS4 ?_
                  go_simp
                  refine wpAnyH_take (i := 5) (v := undef) rfl (by kernel_rfl) (by kernel_rfl) (by kernel_rfl) (fun _ _ _ h => h) (Or.inr ⟨by kernel_rfl, rfl⟩) hS4 ?_
                  go_simp
                  refine wpAnyH_take (i := 6) (v := undef) rfl (by kernel_rfl) (by kernel_rfl) (by kernel_rfl) (fun _ _ _ h => h) (Or.inr ⟨by kernel_rfl, rfl⟩) hS4 ?_
                  go_simp
                  refine wpAnyH_take (i := 7) (v := undef) rfl (by kernel_rfl) (by kernel_rfl) (by kernel_rfl) (fun _ _ _ h => h) (Or.inr ⟨by kernel_rfl, rfl⟩) hS4 ?_
                  go_simp
                  refine wpAnyH_take (i := 8) rfl (by kernel_rfl) (by kernel_rfl) (by kernel_rfl) (fun _ _ _ h => h) (Or.inl ⟨by kernel_rfl, (by intro w' _; go_simp; with_reducible rfl)⟩) hS4 ?_
                  go_simp
                  refine wpAnyH_take (i := 9) rfl (by kernel_rfl) (by kernel_rfl) (by kernel_rfl) (fun _ _ _ h => h) (Or.inl ⟨by kernel_rfl, (by intro w' _; go_simp; with_reducible rfl)⟩) hS4 ?_
                  go_simp
                  refine wpAnyH_done (by kernel_rfl) ?_ _
                  go_wp2_with fail
                  go_roundw
                  case measure => simp [intOf] <;> omega
                  case rel => exact ⟨k + 1, _, by omega, rfl, by go_num, HSHO, HA6, by rw [HNX.out]; exact HG6, HB6⟩
            · have hlt2 : ¬ (k : Int) < (m : Int) := by omega
              have HGS : Hid (gt = sumR ts + sumR ds) := by
                have h1 := HGE.out
                rw [List.take_of_length_le (by rw [List.length_zipWith, HTS.out.1, HDL.out]; omega), sum_addZ _ _ (by rw [HTS.out.1, HDL.out])] at h1
                exact h1
              have hgz : Sz 14890 gt := by
                rw [HGS.out]
                have h1 := sumR_sz (z := 300) ts HTS.out.2.2
                have h2 := sumR_sz (z := 2178) ds HDZ.out
                rw [HTS.out.1] at h1
                rw [HDL.out] at h2
                exact (Sz.add h1 h2).mono (by omega)
              have huz : Sz 82 u := by
                rw [HUE.out]
                have h1 := sumR_sz (z := 17) (its.map procQ) (fun q hq => by obtain ⟨y, hy, rfl⟩ := List.mem_map.1 hq; exact (procQ_ok (HIO.out y hy)).1)
                rw [List.length_map] at h1
                exact (Sz.add HMQ.out.1 h1).mono (by have : its.length * 18 ≤ 4 * 18 := Nat.mul_le_mul_right _ (by rw [← HN.out]; exact hn4); omega)
              have hc' := fun W => pCmpQ_calls gt u 14890 82 W hgz huz (by decide) (by decide) (by decide)
              have hcn := (cmpR_np (p := gt) (q := u)).2 (by rw [HGS.out, HUE.out]; exact HSO.out.sum)
              obtain ⟨cq, hcq⟩ : ∃ y, y = cmpR gt u := ⟨_, rfl⟩
              rw [← hcq] at hc' hcn
              have d2 : decide (cq ≤ 0) = true := decide_eq_true hcn
              unfold ratV at hc'
              have HCP := Lib.hid hc'
              clear hc' hcn hcq hgz huz HGE
              have hsm' := fun W (h : Rd W W.heap.size 3 Ad ds.length (ds.flatMap rtV)) => pSumQ_calls Ad m cd 2178 ds W HDL.out.symm h HDZ.out (by omega) (by omega)
              have HSM0 := Lib.hid hsm'
              clear hsm'
              cases sh
              · have HMt : Hid (Bk gm (.cells #[.bool (rneg mq), .string (rnum mq), .string (rden mq)] 33) wt) := blk_below HM3.out HB.out (blk_lt HM3.out)
                go_wp2_with fail
                obtain ⟨d1, hw_d1⟩ : ∃ W, W = wt.drew := ⟨_, rfl⟩
                have HA1 : Hid (Bk gA (.cells #[.bool (rneg u), .string (rnum u), .string (rden u)] 33) d1) := by rw [hw_d1]; exact HA.out
                have HG1 : Hid (Bk gG (.cells #[.bool (rneg gt), .string (rnum gt), .string (rden gt)] 33) d1) := by rw [hw_d1]; exact HG.out
                have HB1 : Hid (Below y3.heap.size y3 d1) := by rw [hw_d1]; exact HB.out.drew
                have HM1 : Hid (Bk gm (.cells #[.bool (rneg mq), .string (rnum mq), .string (rden mq)] 33) d1) := by rw [hw_d1]; exact HMt.out
                have hS1 : (Bk gm (.cells #[.bool (rneg mq), .string (rnum mq), .string (rden mq)] 33)) d1 := HM1.out
                refine wp_region_held_drew (S := (Bk gm (.cells #[.bool (rneg mq), .string (rnum mq), .string (rden mq)] 33))) (by kernel_rfl) (by rw [← hw_d1]; exact hS1) ?_
                rw [← hw_d1]
                intro _
                clear hw_d1 HA HG HB HMt
                refine wpAnyH_take (i := 0) rfl (by kernel_rfl) (by kernel_rfl) (by kernel_rfl) (fun _ _ _ h => h) (Or.inl ⟨by kernel_rfl, (by intro w' _; go_simp; with_reducible rfl)⟩) hS1 ?_
                go_simp
                refine wpAnyH_take (i := 1) rfl (by kernel_rfl) (by kernel_rfl) (by kernel_rfl) (fun _ _ _ h => h) (Or.inl ⟨by kernel_rfl, (by intro w' _; go_simp; with_reducible rfl)⟩) hS1 ?_
                go_simp
                refine wpAnyH_take (i := 2) (v := undef) rfl (by kernel_rfl) (by kernel_rfl) (by kernel_rfl) (fun _ _ _ h => h) (Or.inr ⟨by kernel_rfl, rfl⟩) hS1 ?_
                go_simp
                refine wpAnyH_take (i := 3) (v := undef) rfl (by kernel_rfl) (by kernel_rfl) (by kernel_rfl) (fun _ _ _ h => h) (Or.inr ⟨by kernel_rfl, rfl⟩) hS1 ?_
                go_simp
                refine wpAnyH_take (i := 4) (v := undef) rfl (by kernel_rfl) (by kernel_rfl) (by kernel_rfl) (fun _ _ _ h => h) (Or.inr ⟨by kernel_rfl, rfl⟩) hS1 ?_
                go_simp
                refine wpAnyH_take (i := 5) (v := undef) rfl (by kernel_rfl) (by kernel_rfl) (by kernel_rfl) (fun _ _ _ h => h) (Or.inr ⟨by kernel_rfl, rfl⟩) hS1 ?_
                go_simp
                refine wpAnyH_take (i := 6) rfl (by kernel_rfl) (by kernel_rfl) (by kernel_rfl) (fun _ _ _ h => h) (Or.inl ⟨by kernel_rfl, (by intro w' _; go_simp; with_reducible rfl)⟩) hS1 ?_
                go_simp
                refine wpAnyH_done (by kernel_rfl) ?_ _
                go_wp2_with fail
                refine (HAW.out _).mono ?_
                rintro e d2 ⟨rfl, hb⟩
                have HA2 : Hid (Bk gA (.cells #[.bool (rneg u), .string (rnum u), .string (rden u)] 33) d2) := blk_next HA1.out hb
                have HG2 : Hid (Bk gG (.cells #[.bool (rneg gt), .string (rnum gt), .string (rden gt)] 33) d2) := blk_next HG1.out hb
                have HB2 : Hid (Below y3.heap.size y3 d2) := HB1.out.trans (hb.mono HB1.out.size)
                have HM2 : Hid (Bk gm (.cells #[.bool (rneg mq), .string (rnum mq), .string (rden mq)] 33) d2) := blk_next HM1.out hb
                clear hb HA1 HG1 HB1 HM1
                obtain ⟨l0, l1, l2, fl0, fl1, fl2, hzl⟩ := three_of HG2.out
                obtain ⟨r0, r1, r2, fr0, fr1, fr2, hzr⟩ := three_of HA2.out
                go_wp2_with fail
                clear l0 l1 l2 fl0 fl1 fl2 hzl
                clear r0 r1 r2 fr0 fr1 fr2 hzr
                refine (HCP.out _).mono ?_
                rintro e d3 ⟨rfl, hb⟩
                have HA3 : Hid (Bk gA (.cells #[.bool (rneg u), .string (rnum u), .string (rden u)] 33) d3) := blk_next HA2.out hb
                have HG3 : Hid (Bk gG (.cells #[.bool (rneg gt), .string (rnum gt), .string (rden gt)] 33) d3) := blk_next HG2.out hb
                have HB3 : Hid (Below y3.heap.size y3 d3) := HB2.out.trans (hb.mono HB2.out.size)
                have HM3 : Hid (Bk gm (.cells #[.bool (rneg mq), .string (rnum mq), .string (rden mq)] 33) d3) := blk_next HM2.out hb
                clear hb HA2 HG2 HB2 HM2
                go_wp2_with fail
                go_ret
                exact ⟨rfl, HBW3.out.trans ((HWW3.out.mono HBW3.out.size).trans (HB3.out.mono (Nat.le_trans HBW3.out.size HWW3.out.size)))⟩
              · have hmq : sumR ds = mq := HSHO.out rfl
                have hsm2 := HSM0.out
                rw [hmq] at hsm2
                unfold ratV at hsm2
                have HSM := Lib.hid hsm2
                clear hsm2 hmq
                have HMt : Hid (Bk gm (.cells #[.bool (rneg mq), .string (rnum mq), .string (rden mq)] 33) wt) := blk_below HM3.out HB.out (blk_lt HM3.out)
                go_wp2_with fail
                obtain ⟨d1, hw_d1⟩ : ∃ W, W = wt.drew := ⟨_, rfl⟩
                have HA1 : Hid (Bk gA (.cells #[.bool (rneg u), .string (rnum u), .string (rden u)] 33) d1) := by rw [hw_d1]; exact HA.out
                have HG1 : Hid (Bk gG (.cells #[.bool (rneg gt), .string (rnum gt), .string (rden gt)] 33) d1) := by rw [hw_d1]; exact HG.out
                have HB1 : Hid (Below y3.heap.size y3 d1) := by rw [hw_d1]; exact HB.out.drew
                have HM1 : Hid (Bk gm (.cells #[.bool (rneg mq), .string (rnum mq), .string (rden mq)] 33) d1) := by rw [hw_d1]; exact HMt.out
                have hS1 : (Bk gm (.cells #[.bool (rneg mq), .string (rnum mq), .string (rden mq)] 33)) d1 := HM1.out
                refine wp_region_held_drew (S := (Bk gm (.cells #[.bool (rneg mq), .string (rnum mq), .string (rden mq)] 33))) (by kernel_rfl) (by rw [← hw_d1]; exact hS1) ?_
                rw [← hw_d1]
                intro _
                clear hw_d1 HA HG HB HMt
                refine wpAnyH_take (i := 0) rfl (by kernel_rfl) (by kernel_rfl) (by kernel_rfl) (fun _ _ _ h => h) (Or.inl ⟨by kernel_rfl, (by intro w' _; go_simp; with_reducible rfl)⟩) hS1 ?_
                go_simp
                refine wpAnyH_take (i := 1) rfl (by kernel_rfl) (by kernel_rfl) (by kernel_rfl) (fun _ _ _ h => h) (Or.inl ⟨by kernel_rfl, (by intro w' _; go_simp; with_reducible rfl)⟩) hS1 ?_
                go_simp
                refine wpAnyH_take (i := 2) rfl (by kernel_rfl) (by kernel_rfl) (by kernel_rfl) (fun _ _ _ h => h) (Or.inl ⟨by kernel_rfl, (by intro w' _; go_simp; with_reducible rfl)⟩) hS1 ?_
                go_simp
                refine wpAnyH_take (i := 4) (v := .agg #[.bool (rneg mq), .string (rnum mq), .string (rden mq)]) rfl (by kernel_rfl) (by kernel_rfl) (by kernel_rfl) (fun _ _ _ h => h) (Or.inl ⟨by kernel_rfl, (by intro w' hw'; obtain ⟨k0, k1, k2, fk0, fk1, fk2, hzk⟩ := three_of hw'; go_simp)⟩) hS1 ?_
                go_simp
                refine wpAnyH_ready (rs := [3]) (by kernel_rfl) (by simp) ?_
                refine AllReadyH.cons rfl (fun K hK => ?_) AllReadyH.nil
                go_simp
                refine (HSM.out _ (by rw [HDL.out]; exact HD3.out.next HB1.out)).mono ?_
                rintro e d2 ⟨rfl, hb⟩
                have HA2 : Hid (Bk gA (.cells #[.bool (rneg u), .string (rnum u), .string (rden u)] 33) d2) := blk_next HA1.out hb
                have HG2 : Hid (Bk gG (.cells #[.bool (rneg gt), .string (rnum gt), .string (rden gt)] 33) d2) := blk_next HG1.out hb
                have HB2 : Hid (Below y3.heap.size y3 d2) := HB1.out.trans (hb.mono HB1.out.size)
                have HM2 : Hid (Bk gm (.cells #[.bool (rneg mq), .string (rnum mq), .string (rden mq)] 33) d2) := blk_next HM1.out hb
                clear hb HA1 HG1 HB1 HM1
                have hS2 : (Bk gm (.cells #[.bool (rneg mq), .string (rnum mq), .string (rden mq)] 33)) d2 := HM2.out
                refine hK.out _ _ hS2 (fun _ => ?_)
                clear hK K
                refine wpAnyH_take (i := 5) rfl (by kernel_rfl) (by kernel_rfl) (by kernel_rfl) (fun _ _ _ h => h) (Or.inl ⟨by kernel_rfl, (by intro w' _; go_simp; with_reducible rfl)⟩) hS2 ?_
                go_simp
                refine wpAnyH_take (i := 6) rfl (by kernel_rfl) (by kernel_rfl) (by kernel_rfl) (fun _ _ _ h => h) (Or.inl ⟨by kernel_rfl, (by intro w' _; go_simp; with_reducible rfl)⟩) hS2 ?_
                go_simp
                refine wpAnyH_done (by kernel_rfl) ?_ _
                go_wp2_with fail
                refine (HAW.out _).mono ?_
                rintro e d3 ⟨rfl, hb⟩
                have HA3 : Hid (Bk gA (.cells #[.bool (rneg u), .string (rnum u), .string (rden u)] 33) d3) := blk_next HA2.out hb
                have HG3 : Hid (Bk gG (.cells #[.bool (rneg gt), .string (rnum gt), .string (rden gt)] 33) d3) := blk_next HG2.out hb
                have HB3 : Hid (Below y3.heap.size y3 d3) := HB2.out.trans (hb.mono HB2.out.size)
                have HM3 : Hid (Bk gm (.cells #[.bool (rneg mq), .string (rnum mq), .string (rden mq)] 33) d3) := blk_next HM2.out hb
                clear hb HA2 HG2 HB2 HM2
                obtain ⟨l0, l1, l2, fl0, fl1, fl2, hzl⟩ := three_of HG3.out
                obtain ⟨r0, r1, r2, fr0, fr1, fr2, hzr⟩ := three_of HA3.out
                go_wp2_with fail
                clear l0 l1 l2 fl0 fl1 fl2 hzl
                clear r0 r1 r2 fr0 fr1 fr2 hzr
                refine (HCP.out _).mono ?_
                rintro e d4 ⟨rfl, hb⟩
                have HA4 : Hid (Bk gA (.cells #[.bool (rneg u), .string (rnum u), .string (rden u)] 33) d4) := blk_next HA3.out hb
                have HG4 : Hid (Bk gG (.cells #[.bool (rneg gt), .string (rnum gt), .string (rden gt)] 33) d4) := blk_next HG3.out hb
                have HB4 : Hid (Below y3.heap.size y3 d4) := HB3.out.trans (hb.mono HB3.out.size)
                have HM4 : Hid (Bk gm (.cells #[.bool (rneg mq), .string (rnum mq), .string (rden mq)] 33) d4) := blk_next HM3.out hb
                clear hb HA3 HG3 HB3 HM3
                go_wp2_with fail
                go_ret
                exact ⟨rfl, HBW3.out.trans ((HWW3.out.mono HBW3.out.size).trans (HB4.out.mono (Nat.le_trans HBW3.out.size HWW3.out.size)))⟩

end Go.Proofs.YtjlicnhkemfmiaaGreatDoor

/- (marshal.network).totals, marshal.Totals. -/
import Derived.Test.YtjlicnhkemfmiaaGreatDoorMbu
set_option linter.unusedVariables false
set_option linter.unusedSimpArgs false
namespace Go.Proofs.YtjlicnhkemfmiaaGreatDoor
open Go.RowKit

theorem set_next {ts : List Rat} {m : Nat} (h : ts.length < m) (v : Rat) : (ts ++ List.replicate (m - ts.length) 0).set ts.length v = (ts ++ [v]) ++ List.replicate (m - (ts ++ [v]).length) 0 := by
  rw [List.set_append_right _ _ (Nat.le_refl _), Nat.sub_self, List.append_assoc]
  congr 1
  rw [List.length_append, List.length_singleton]
  obtain ⟨d, hd⟩ : ∃ d, m - ts.length = d + 1 := ⟨m - ts.length - 1, by omega⟩
  rw [hd, List.replicate_succ, List.set_cons_zero, show m - (ts.length + 1) = d by omega]; rfl
theorem next_at {ts : List Rat} {m : Nat} (h : ts.length < m) : (ts ++ List.replicate (m - ts.length) (0 : Rat))[ts.length]? = some 0 := by
  rw [List.getElem?_append_right (Nat.le_refl _), Nat.sub_self, List.getElem?_replicate, if_pos (by omega)]
theorem leastL_sz {a : Nat} {L : List Rat} (h : ∀ r ∈ L, Sz a r) (h0 : 0 < L.length) : Sz a (leastL L) := h _ (leastL_mem h0)
def TotPost (all : Rat) (os : List Rat) (m : Nat) (w : World) (e : Ending) (w' : World) : Prop := ∃ T ts, e = .returned (.slice (some ⟨T, 0, none⟩) m m) ∧ RatsB T ts w' ∧ ts.length = m ∧ TotOk all os ts ∧ (∀ t ∈ ts, Sz 300 t) ∧ Below w.heap.size w w'
set_option maxHeartbeats 8000000 in
set_option maxRecDepth 100000 in
theorem totals_calls (B : Nat) (P O : Option Addr) (I kp cp m co : Nat) (ps os : List Rat) (ms : List Nat) (w : World) (h : NetM B P O I ps os ms w) (hB : B ≤ w.heap.size) (hT : TabW w) (hk : kp = ps.length) (hk4 : kp ≤ 4) (hm : m = os.length) (hml : ms.length = m) (hm8 : m ≤ 8) (hso : ∀ q ∈ os, SzN q) (hmk : ∀ x ∈ ms, x < 2 ^ kp) (hps : ∀ p ∈ ps, Sz 17 p) (hpn : ∀ p ∈ ps, 0 ≤ p) :
    Calls Tryz.prog 29 #[.agg #[.slice P kp cp, .slice O m co, .slice (some ⟨I, 0, none⟩) m m]] w (TotPost (sumR ps) os m w) := by
  have hcu' := fun W (h1 : NetM B P O I ps os ms W) (hB1 : B ≤ W.heap.size) (h2 : TabW W) => cuts_calls B P O I kp cp m co 17 ps os ms W h1 hB1 h2 hk hk4 hps (by decide) (by decide)
  unfold CutsPost at hcu'
  have HCU := Lib.hid hcu'
  have HNT : Hid (NetM B P O I ps os ms w) := h
  have HTB : Hid (TabW w) := hT
  have HBw : Hid (B ≤ w.heap.size) := hB
  have HKN := Lib.hid (And.intro hk (And.intro hm (And.intro hml (And.intro hso (And.intro hmk (And.intro hps hpn))))))
  have hk4' : kp ≤ 4 := hk4
  have hm8' : m ≤ 8 := hm8
  obtain ⟨N, hN⟩ : ∃ N, N = 2 ^ kp := ⟨_, rfl⟩
  have HN := Lib.hid hN
  rw [← hN] at HCU
  have hN16 : N ≤ 16 := by have : 2 ^ kp ≤ 2 ^ 4 := Nat.pow_le_pow_right (by decide) hk4; omega
  have hN1 : 0 < N := by rw [hN]; exact Nat.two_pow_pos _
  have hmk2 := make_rats m (by omega)
  have HMK := Lib.hid hmk2
  clear hcu' h hB hT hk hk4 hm hml hso hmk hps hpn hm8 hN hmk2
  go_enter Tryz.func29, Tryz.ntmps29
  go_upto_region 1 with fail
  obtain ⟨gn, hg_gn⟩ : ∃ g, g = w.heap.size := ⟨_, rfl⟩
  obtain ⟨w0, hw_w0⟩ : ∃ W, W = (w.alloc (.cells #[.slice P kp cp, .slice O m co, .slice (some ⟨I, 0, none⟩) m m] 88)) := ⟨_, rfl⟩
  have HN0 : Hid (Bk gn (.cells #[.slice P kp cp, .slice O m co, .slice (some ⟨I, 0, none⟩) m m] 88) w0) := by rw [hw_w0, hg_gn]; exact blk_new _ _
  have HB0 : Hid (Below w.heap.size w w0) := by rw [hw_w0]; exact bel_alloc _ _
  have HL_0 := Lib.hid ((by omega : w.heap.size ≤ gn))
  rw [← hw_w0]
  (try rw [← hg_gn])
  clear hw_w0 hg_gn
  have hmk := HMK.out w0
  obtain ⟨c0, c1, c2, fc0, fc1, fc2, hzc⟩ := three_of HN0.out
  obtain ⟨d0, d1, d2, fd0, fd1, fd2, hzd⟩ := three_of (blk_alloc (o' := (.cells (madeCells #[.bool false, .string ⟨#[]⟩, .string ⟨#[]⟩] (m * 3)) 33)) HN0.out)
  go_wp2_with fail
  clear c0 c1 c2 fc0 fc1 fc2 hzc
  clear d0 d1 d2 fd0 fd1 fd2 hzd
  clear hmk
  obtain ⟨T, hg_T⟩ : ∃ g, g = w0.heap.size := ⟨_, rfl⟩
  obtain ⟨w1, hw_w1⟩ : ∃ W, W = w0.alloc (.cells (madeCells #[.bool false, .string ⟨#[]⟩, .string ⟨#[]⟩] (m * 3)) 33) := ⟨_, rfl⟩
  have HL_T := Lib.hid (And.intro (by have := blk_lt HN0.out; omega : gn < T) ((by have := HB0.out.size; omega : w.heap.size ≤ T)))
  have HN1 : Hid (Bk gn (.cells #[.slice P kp cp, .slice O m co, .slice (some ⟨I, 0, none⟩) m m] 88) w1) := by rw [hw_w1]; exact blk_next HN0.out (bel_alloc _ _)
  have HB1 : Hid (Below w.heap.size w w1) := by rw [hw_w1]; exact HB0.out.trans ((bel_alloc _ _).mono HB0.out.size)
  have HT1 : Hid (Bk T (.cells (madeCells #[.bool false, .string ⟨#[]⟩, .string ⟨#[]⟩] (m * 3)) 33) w1) := by rw [hw_w1, hg_T]; exact blk_new _ _
  rw [← hw_w1]
  (try rw [← hg_T])
  clear hw_w1 hg_T HN0 HB0
  have HTr : Hid (RatsB T ([] ++ List.replicate (m - 0) 0) w1) := by
    have h1 := HT1.out
    unfold Bk at h1
    rw [made_rats] at h1
    exact h1
  clear HT1
  refine (HCU.out _ (HNT.out.below (HB1.out.mono HBw.out)) (Nat.le_trans HBw.out HB1.out.size) (HTB.out.next HB1.out)).mono ?_
  rintro e w2 ⟨C, rfl, hrats, hCs, hb⟩
  have HN2 : Hid (Bk gn (.cells #[.slice P kp cp, .slice O m co, .slice (some ⟨I, 0, none⟩) m m] 88) w2) := blk_next HN1.out hb
  have HB2 : Hid (Below w.heap.size w w2) := HB1.out.trans (hb.mono HB1.out.size)
  have HT2 : Hid (RatsB T ([] ++ List.replicate (m - 0) 0) w2) := blk_next HTr.out hb
  have HC2 : Hid (RatsB C (cutsL ps) w2) := hrats
  have HL_C : Hid (gn < C ∧ T < C ∧ w.heap.size ≤ C) := by have h1 := blk_lt HN1.out; have h2 := blk_lt HTr.out; have h3 := HB1.out.size; exact ⟨by omega, by omega, by omega⟩
  clear hrats hCs HCU
  clear hb HN1 HB1 HTr
  go_wp2_with fail
  obtain ⟨gb, hg_gb⟩ : ∃ g, g = w2.heap.size := ⟨_, rfl⟩
  obtain ⟨w3, hw_w3⟩ : ∃ W, W = w2.alloc (.cells #[.bool false, .string ⟨#[]⟩, .string ⟨#[]⟩] 33) := ⟨_, rfl⟩
  have HL_gb := Lib.hid (And.intro (by have := blk_lt HN2.out; omega : gn < gb) (And.intro (by have := HB2.out.size; omega : w.heap.size ≤ gb) (And.intro (by have := blk_lt HT2.out; omega : T < gb) ((by have := blk_lt HC2.out; omega : C < gb)))))
  have HN3 : Hid (Bk gn (.cells #[.slice P kp cp, .slice O m co, .slice (some ⟨I, 0, none⟩) m m] 88) w3) := by rw [hw_w3]; exact blk_next HN2.out (bel_alloc _ _)
  have HB3 : Hid (Below w.heap.size w w3) := by rw [hw_w3]; exact HB2.out.trans ((bel_alloc _ _).mono HB2.out.size)
  have HT3 : Hid (RatsB T ([] ++ List.replicate (m - 0) 0) w3) := by rw [hw_w3]; exact blk_next HT2.out (bel_alloc _ _)
  have HC3 : Hid (RatsB C (cutsL ps) w3) := by rw [hw_w3]; exact blk_next HC2.out (bel_alloc _ _)
  have HV3 : Hid (Bk gb (.cells #[.bool false, .string ⟨#[]⟩, .string ⟨#[]⟩] 33) w3) := by rw [hw_w3, hg_gb]; exact blk_new _ _
  rw [← hw_w3]
  (try rw [← hg_gb])
  clear hw_w3 hg_gb HN2 HB2 HT2 HC2
  have HS0 : Hid (([] : List Rat).length = 0 ∧ (cutsL ps).length = N ∧ TotMid (sumR ps) os [] (cutsL ps) ∧ (∀ t ∈ ([] : List Rat), Sz 300 t) ∧ (∀ r ∈ cutsL ps, Sz (73 + 9 * 0) r)) := by
    refine ⟨rfl, by rw [cutsL_len, HN.out, HKN.out.1], TotMid.cuts HKN.out.2.2.2.2.2.2, fun t ht => (by cases ht), fun r hr => ?_⟩
    unfold cutsL at hr
    obtain ⟨s, _, rfl⟩ := List.mem_map.1 hr
    exact (setSum_sz ps s HKN.out.2.2.2.2.2.1).mono (by have := HKN.out.1; have h2 : ps.length * 18 ≤ 4 * 18 := Nat.mul_le_mul_right _ (by omega); omega)
  have HV0 : Hid (Bk gb (.cells #[.bool (rneg (leastL (cutsL ps))), .string (rnum (leastL (cutsL ps))), .string (rden (leastL (cutsL ps)))] 33) w3) := by
    have e : leastL (cutsL ps) = 0 := HS0.out.2.2.1.sum.symm
    show Bk _ _ _
    rw [e, rneg_zero, rnum_zero, rden_zero]
    exact HV3.out
  clear HV3
  go_loopw [17] (fun i wr => ∃ (j : Nat) (L ts : List Rat), j ≤ m ∧ i = .int .i64 (j : Int) ∧ Hid (ts.length = j ∧ L.length = N ∧ TotMid (sumR ps) os ts L ∧ (∀ t ∈ ts, Sz 300 t) ∧ (∀ r ∈ L, Sz (73 + 9 * j) r)) ∧ Hid (RatsB T (ts ++ List.replicate (m - ts.length) 0) wr) ∧ Hid (RatsB C L wr) ∧ Hid (Bk gb (.cells #[.bool (rneg (leastL L)), .string (rnum (leastL L)), .string (rden (leastL L))] 33) wr) ∧ Hid (Bk gn (.cells #[.slice P kp cp, .slice O m co, .slice (some ⟨I, 0, none⟩) m m] 88) wr) ∧ Hid (Below w.heap.size w wr)) (fun i _ => m - (intOf i).toNat)
  case atStart => exact ⟨0, cutsL ps, [], Nat.zero_le _, rfl, HS0, HT3, HC3, HV0, HN3, HB3⟩
  case round =>
    clear HS0 HV0 HT3 HC3 HN3 HB3
    obtain ⟨j, L, ts, hj, rfl, HS, HT, HC, HV, HN2, HB⟩ := hrel
    rename World => wo
    obtain ⟨u, hu⟩ : ∃ z, z = leastL L := ⟨_, rfl⟩
    have HU := Lib.hid hu
    rw [← hu] at HV
    clear hu
    by_cases hlt : j < m
    · have hlt2 : (j : Int) < (m : Int) := by omega
      obtain ⟨x, hx⟩ := getElem?_of_lt (l := os) (k := j) (by rw [← HKN.out.2.1]; exact hlt)
      have hxs := HKN.out.2.2.2.1 x (List.mem_of_getElem? hx)
      obtain ⟨mk, hmk⟩ := getElem?_of_lt (l := ms) (k := j) (by rw [HKN.out.2.2.1]; exact hlt)
      have hmb := HKN.out.2.2.2.2.1 mk (List.mem_of_getElem? hmk)
      have hful : misses mk (N - 1) = false := by rw [HN.out]; exact misses_full ⟨kp, by omega⟩ ⟨mk, by have : 2 ^ kp ≤ 2 ^ 4 := Nat.pow_le_pow_right (by decide) hk4'; omega⟩ hmb
      have ha' := fun W (h1 : NetM B P O I ps os ms W) (h2 : RatsB C L W) => add_calls B P O I kp cp m co C N j mk (73 + 9 * j) 8 x ps os L ms W h1 (by have := HL_C.out; have := HBw.out; omega) h2 HS.out.2.1 hN16 hx HKN.out.2.1 hmk (by omega) HS.out.2.2.2.2 hxs.1 (by omega) (by decide) (by omega) hful
      unfold AddPost at ha'
      have HA := Lib.hid ha'
      have HX := Lib.hid (And.intro hx hxs)
      clear ha' hx hxs hmk hmb hful
      obtain ⟨c0, c1, c2, fc0, fc1, fc2, hzc⟩ := three_of HN2.out
      go_wp2_with fail
      clear c0 c1 c2 fc0 fc1 fc2 hzc
      have HBLK := HC
      refine (HA.out _ (HNT.out.below (HB.out.mono HBw.out)) HC.out).mono ?_
      rintro e x1 ⟨L', rfl, har, hsz, hrats, ho⟩
      have HC1 : Hid (RatsB C L' x1) := hrats
      have HT1 : Hid (RatsB T (ts ++ List.replicate (m - ts.length) 0) x1) := blk_onlyW HT.out ho (by have := HL_C.out; omega)
      have HN1 : Hid (Bk gn (.cells #[.slice P kp cp, .slice O m co, .slice (some ⟨I, 0, none⟩) m m] 88) x1) := blk_onlyW HN2.out ho (by have := HL_C.out; omega)
      have HV1 : Hid (Bk gb (.cells #[.bool (rneg u), .string (rnum u), .string (rden u)] 33) x1) := blk_onlyW HV.out ho (by have := HL_gb.out; omega)
      have HB1 : Hid (Below w.heap.size w x1) := HB.out.trans (ho.at_ _ HB.out.size (by have := HL_C.out; omega))
      clear hrats HBLK ho HC HT HN2 HV HB
      have hl' : L'.length = N := by rw [har.len]; exact HS.out.2.1
      have hle' := fun W (h2 : RatsB C L' W) => least_calls C N (73 + 9 * (j + 1)) L' W h2 hl' hN1 (by omega) (fun r hr => (hsz r hr).mono (by omega)) (by omega) (by omega)
      have htm := HS.out.2.2.1.next (by rw [HS.out.1]; exact HX.out.1) HX.out.2.2 har
      have hz1 := leastL_sz hsz (by omega)
      have hz0 := leastL_sz HS.out.2.2.2.2 (by rw [HS.out.2.1]; exact hN1)
      rw [← HU.out] at htm hz0
      obtain ⟨nw, hnw⟩ : ∃ z, z = leastL L' := ⟨_, rfl⟩
      rw [← hnw] at hle' htm hz1
      have hs' := fun W => pSubQ_calls nw u (73 + 9 * j + 8 + 1) (73 + 9 * j) W hz1 hz0 (by omega)
      have hz2 := Sz.sub hz1 hz0
      obtain ⟨d, hd⟩ : ∃ z, z = nw - u := ⟨_, rfl⟩
      rw [← hd] at hs' htm hz2
      have HZ2 : Hid (Sz 300 d) := hz2.mono (by omega)
      have HTM := Lib.hid (And.intro hl' (And.intro htm (And.intro (fun r hr => Sz.mono (hsz r hr) (by omega : 73 + 9 * j + 8 + 1 ≤ 73 + 9 * (j + 1))) hnw)))
      unfold ratV at hle' hs'
      have HLE := Lib.hid hle'
      have HSB := Lib.hid hs'
      clear har hsz hl' hle' htm hz1 hz0 hs' hz2 hd hnw
      go_wp2_with fail
      refine (HLE.out _ HC1.out).mono ?_
      rintro e x2 ⟨rfl, hb⟩
      have HT2 : Hid (RatsB T (ts ++ List.replicate (m - ts.length) 0) x2) := blk_next HT1.out hb
      have HC2 : Hid (RatsB C L' x2) := blk_next HC1.out hb
      have HV2 : Hid (Bk gb (.cells #[.bool (rneg u), .string (rnum u), .string (rden u)] 33) x2) := blk_next HV1.out hb
      have HN2 : Hid (Bk gn (.cells #[.slice P kp cp, .slice O m co, .slice (some ⟨I, 0, none⟩) m m] 88) x2) := blk_next HN1.out hb
      have HB2 : Hid (Below w.heap.size w x2) := HB1.out.trans (hb.mono HB1.out.size)
      clear hb HT1 HC1 HV1 HN1 HB1
      obtain ⟨c0, c1, c2, fc0, fc1, fc2, hzc⟩ := three_of (blk_alloc (o' := (.cells #[.bool (rneg nw), .string (rnum nw), .string (rden nw)] 33)) HV2.out)
      go_wp2_with fail
      clear c0 c1 c2 fc0 fc1 fc2 hzc
      obtain ⟨gw, hg_gw⟩ : ∃ g, g = x2.heap.size := ⟨_, rfl⟩
      obtain ⟨x3, hw_x3⟩ : ∃ W, W = x2.alloc (.cells #[.bool (rneg nw), .string (rnum nw), .string (rden nw)] 33) := ⟨_, rfl⟩
      have HL_gw := Lib.hid (And.intro (by have := blk_lt HT2.out; omega : T < gw) (And.intro (by have := blk_lt HC2.out; omega : C < gw) (And.intro (by have := blk_lt HV2.out; omega : gb < gw) (And.intro (by have := blk_lt HN2.out; omega : gn < gw) ((by have := HB2.out.size; omega : w.heap.size ≤ gw))))))
      have HT3 : Hid (RatsB T (ts ++ List.replicate (m - ts.length) 0) x3) := by rw [hw_x3]; exact blk_next HT2.out (bel_alloc _ _)
      have HC3 : Hid (RatsB C L' x3) := by rw [hw_x3]; exact blk_next HC2.out (bel_alloc _ _)
      have HV3 : Hid (Bk gb (.cells #[.bool (rneg u), .string (rnum u), .string (rden u)] 33) x3) := by rw [hw_x3]; exact blk_next HV2.out (bel_alloc _ _)
      have HN3 : Hid (Bk gn (.cells #[.slice P kp cp, .slice O m co, .slice (some ⟨I, 0, none⟩) m m] 88) x3) := by rw [hw_x3]; exact blk_next HN2.out (bel_alloc _ _)
      have HB3 : Hid (Below w.heap.size w x3) := by rw [hw_x3]; exact HB2.out.trans ((bel_alloc _ _).mono HB2.out.size)
      have HW3 : Hid (Bk gw (.cells #[.bool (rneg nw), .string (rnum nw), .string (rden nw)] 33) x3) := by rw [hw_x3, hg_gw]; exact blk_new _ _
      rw [← hw_x3]
      (try rw [← hg_gw])
      clear hw_x3 hg_gw HT2 HC2 HV2 HN2 HB2
      refine (HSB.out _).mono ?_
      rintro e x4 ⟨rfl, hb⟩
      have HT4 : Hid (RatsB T (ts ++ List.replicate (m - ts.length) 0) x4) := blk_next HT3.out hb
      have HC4 : Hid (RatsB C L' x4) := blk_next HC3.out hb
      have HV4 : Hid (Bk gb (.cells #[.bool (rneg u), .string (rnum u), .string (rden u)] 33) x4) := blk_next HV3.out hb
      have HN4 : Hid (Bk gn (.cells #[.slice P kp cp, .slice O m co, .slice (some ⟨I, 0, none⟩) m m] 88) x4) := blk_next HN3.out hb
      have HB4 : Hid (Below w.heap.size w x4) := HB3.out.trans (hb.mono HB3.out.size)
      have HW4 : Hid (Bk gw (.cells #[.bool (rneg nw), .string (rnum nw), .string (rden nw)] 33) x4) := blk_next HW3.out hb
      clear hb HT3 HC3 HV3 HN3 HB3 HW3
      have hat : (ts ++ List.replicate (m - ts.length) (0 : Rat))[j]? = some 0 := by have h1 := next_at (ts := ts) (m := m) (by rw [HS.out.1]; exact hlt); rw [HS.out.1] at h1 ⊢; exact h1
      have HAT := Lib.hid hat
      clear hat
      obtain ⟨l0, l1, l2⟩ := HT4.out.cells HAT.out
      have f0 := HT4.out.free (j * 3)
      have f1 := HT4.out.free (j * 3 + 1)
      have f2 := HT4.out.free (j * 3 + 2)
      have lf := HT4.out.lt
      have ho : Only T x4 (((x4.setCell ⟨T, j * 3, none⟩ (.bool (rneg d))).setCell ⟨T, j * 3 + 1, none⟩ (.string (rnum d))).setCell ⟨T, j * 3 + 2, none⟩ (.string (rden d))) := (((Only.refl _ _).setC _ _).setC _ _).setC _ _
      have hv2 := blk_onlyW HV4.out ho (by have := HL_gb.out; omega)
      have hw2 := blk_onlyW HW4.out ho (by have := HL_gw.out; omega)
      obtain ⟨v0, v1, v2, fv0, fv1, fv2, hzv⟩ := three_of hv2
      obtain ⟨n0, n1, n2, fn0, fn1, fn2, hzn⟩ := three_of hw2
      have HO := Lib.hid ho
      clear ho hv2 hw2
      go_wp2_with fail
      clear l0 l1 l2 f0 f1 f2 lf
      clear v0 v1 v2 fv0 fv1 fv2 hzv
      clear n0 n1 n2 fn0 fn1 fn2 hzn
      obtain ⟨wy, hwy⟩ : ∃ W, W = (((x4.setCell ⟨T, j * 3, none⟩ (.bool (rneg d))).setCell ⟨T, j * 3 + 1, none⟩ (.string (rnum d))).setCell ⟨T, j * 3 + 2, none⟩ (.string (rden d))) := ⟨_, rfl⟩
      have ho : Only T x4 wy := by rw [hwy]; exact HO.out
      have HTy : Hid (RatsB T ((ts ++ [d]) ++ List.replicate (m - (ts ++ [d]).length) 0) wy) := by
        have h1 := set_next (ts := ts) (m := m) (by rw [HS.out.1]; exact hlt) d
        rw [HS.out.1] at h1
        rw [hwy]
        show RatsB _ _ _
        rw [← h1]
        have h2 := HT4.out.set HAT.out d
        rw [HS.out.1] at h2
        exact h2
      have HCy : Hid (RatsB C L' wy) := blk_onlyW HC4.out ho (by have := HL_C.out; have := HL_gb.out; have := HL_gw.out; have := HL_T.out; omega)
      have HVy : Hid (Bk gb (.cells #[.bool (rneg u), .string (rnum u), .string (rden u)] 33) wy) := blk_onlyW HV4.out ho (by have := HL_C.out; have := HL_gb.out; have := HL_gw.out; have := HL_T.out; omega)
      have HNy : Hid (Bk gn (.cells #[.slice P kp cp, .slice O m co, .slice (some ⟨I, 0, none⟩) m m] 88) wy) := blk_onlyW HN4.out ho (by have := HL_C.out; have := HL_gb.out; have := HL_gw.out; have := HL_T.out; omega)
      have HWy : Hid (Bk gw (.cells #[.bool (rneg nw), .string (rnum nw), .string (rden nw)] 33) wy) := blk_onlyW HW4.out ho (by have := HL_C.out; have := HL_gb.out; have := HL_gw.out; have := HL_T.out; omega)
      have HBy : Hid (Below w.heap.size w wy) := HB4.out.trans (ho.at_ _ HB4.out.size (by have := HL_0.out; have := HL_T.out; omega))
      rw [← hwy]
      clear hwy ho HO HT4 HC4 HV4 HN4 HW4 HB4
      obtain ⟨x35, hw_x35⟩ : ∃ W, W = (((wy.setCell ⟨gb, 0, none⟩ (.bool (rneg nw))).setCell ⟨gb, 1, none⟩ (.string (rnum nw))).setCell ⟨gb, 2, none⟩ (.string (rden nw))) := ⟨_, rfl⟩
      have ho : Only gb wy x35 := by rw [hw_x35]; exact (((Only.refl _ _).setC _ _).setC _ _).setC _ _
      have HT35 : Hid (RatsB T ((ts ++ [d]) ++ List.replicate (m - (ts ++ [d]).length) 0) x35) := blk_onlyW HTy.out ho (by have := HL_0.out; have := HL_T.out; have := HL_C.out; have := HL_gb.out; have := HL_gw.out; omega)
      have HC35 : Hid (RatsB C L' x35) := blk_onlyW HCy.out ho (by have := HL_0.out; have := HL_T.out; have := HL_C.out; have := HL_gb.out; have := HL_gw.out; omega)
      have HN35 : Hid (Bk gn (.cells #[.slice P kp cp, .slice O m co, .slice (some ⟨I, 0, none⟩) m m] 88) x35) := blk_onlyW HNy.out ho (by have := HL_0.out; have := HL_T.out; have := HL_C.out; have := HL_gb.out; have := HL_gw.out; omega)
      have HB35 : Hid (Below w.heap.size w x35) := HBy.out.trans (ho.at_ _ HBy.out.size (by have := HL_0.out; have := HL_T.out; have := HL_C.out; have := HL_gb.out; have := HL_gw.out; omega))
      have HV35 : Hid (Bk gb (.cells #[.bool (rneg nw), .string (rnum nw), .string (rden nw)] 33) x35) := by rw [hw_x35]; exact heap_setCell_same _ gb 2 _ _ (.string (rden nw)) (heap_setCell_same _ gb 1 _ _ (.string (rnum nw)) (heap_setCell_same _ gb 0 _ _ (.bool (rneg nw)) (HVy.out)))
      rw [← hw_x35]
      clear hw_x35 ho HVy HTy HCy HNy HBy
      go_roundw
      case measure => simp [intOf] <;> omega
      case rel =>
        refine ⟨j + 1, L', ts ++ [d], by omega, by go_num, ⟨by rw [List.length_append, HS.out.1]; rfl, HTM.out.1, HTM.out.2.1, fun t ht => ?_, HTM.out.2.2.1⟩, HT35, HC35, by rw [← HTM.out.2.2.2]; exact HV35, HN35, HB35⟩
        rcases List.mem_append.1 ht with ht | ht
        · exact HS.out.2.2.2.1 t ht
        · rw [List.mem_singleton.1 ht]; exact HZ2.out
    · have hlt2 : ¬ (j : Int) < (m : Int) := by omega
      have HTn : Hid (RatsB T ts wo) := by
        have h1 := HT.out
        rw [HS.out.1, show m - j = 0 by omega, List.replicate_zero, List.append_nil] at h1
        exact h1
      go_wp2_with fail
      go_ret
      exact ⟨T, ts, rfl, HTn.out, by rw [HS.out.1]; omega, HS.out.2.2.1.done (by rw [HS.out.1, ← HKN.out.2.1]; omega), HS.out.2.2.2.1, HB.out⟩
def TotalsPost (all : Rat) (os : List Rat) (m : Nat) (w : World) (e : Ending) (w' : World) : Prop := ∃ T ts, e = .returned (.tuple #[.slice (some ⟨T, 0, none⟩) m m, .int .i64 0]) ∧ RatsB T ts w' ∧ ts.length = m ∧ TotOk all os ts ∧ (∀ t ∈ ts, Sz 300 t) ∧ Below w.heap.size w w'
set_option maxHeartbeats 8000000 in
set_option maxRecDepth 100000 in
theorem mTotals_calls (A B : Option Addr) (n c m cb : Nat) (l : List It) (os : List Rat) (w : World) (hT : TabW w) (hn : n = l.length) (h4 : n ≤ 4) (hM : ItemsM A l w) (hok : ∀ x ∈ l, ItOk m x) (hm : m = os.length) (h8 : m ≤ 8) (hro : Rd w w.heap.size 3 B os.length (os.flatMap rtV)) (hso : ∀ q ∈ os, SzN q) :
    Calls Tryz.prog 7 #[.slice A n c, .slice B m cb] w (TotalsPost (sumR (l.map procQ)) os m w) := by
  have hc' := fun W (hb : Below w.heap.size w W) => mCheck_calls A B n c m cb l os W hn h4 (hM.next hb) hok hm (by omega) (hro.next hb) hso
  have hb' := fun W (hb : Below w.heap.size w W) => build_calls A B n c m cb l os W hn h4 (hM.next hb) hok hm (by omega) (hro.next hb) hso
  unfold BuildPost at hb'
  have ht' := fun P cp O co I ms W (h1 : NetM W.heap.size P O I (l.map procQ) os ms W) (h2 : TabW W) (h3 : ms.length = m) (h5 : ∀ x ∈ ms, x < 2 ^ n) => totals_calls W.heap.size P O I n cp m co (l.map procQ) os ms W h1 (Nat.le_refl _) h2 (by rw [List.length_map]; exact hn) h4 hm h3 h8 hso h5 (fun p hp => by obtain ⟨x, hx, rfl⟩ := List.mem_map.1 hp; exact (procQ_ok (hok x hx)).1) (fun p hp => by obtain ⟨x, hx, rfl⟩ := List.mem_map.1 hp; exact (procQ_ok (hok x hx)).2)
  unfold TotPost at ht'
  have HC := Lib.hid hc'
  have HBD := Lib.hid hb'
  have HT := Lib.hid ht'
  have HTB : Hid (TabW w) := hT
  have HB0 : Hid (Below w.heap.size w w) := Below.refl _ _
  clear hc' hb' ht' hT hn h4 hM hok hm h8 hro hso
  go_enter Tryz.func7, Tryz.ntmps7
  go_wp2_with fail
  refine (HC.out _ HB0.out).mono ?_
  rintro e w1 ⟨rfl, hb⟩
  have HB1 : Hid (Below w.heap.size w w1) := HB0.out.trans (hb.mono HB0.out.size)
  clear hb HB0
  go_wp2_with fail
  refine (HBD.out _ HB1.out).mono ?_
  rintro e w2 ⟨P, cp, O, co, I, ms, rfl, hnet, hml, hmb, hb⟩
  have HB2 : Hid (Below w.heap.size w w2) := HB1.out.trans (hb.mono HB1.out.size)
  have HNW := Lib.hid (And.intro hnet (And.intro hml hmb))
  clear hnet hml hmb
  clear hb HB1
  go_wp2_with fail
  refine (HT.out P cp O co I ms _ HNW.out.1 (HTB.out.next HB2.out) HNW.out.2.1 HNW.out.2.2).mono ?_
  rintro e w3 ⟨T, ts, rfl, hrats, htl, htot, htz, hb⟩
  have HB3 : Hid (Below w.heap.size w w3) := HB2.out.trans (hb.mono HB2.out.size)
  have HRES := Lib.hid (And.intro hrats (And.intro htl (And.intro htot htz)))
  clear hrats htl htot htz
  clear hb HB2
  go_wp2_with fail
  go_ret2
  exact ⟨T, ts, rfl, HRES.out.1, HRES.out.2.1, HRES.out.2.2.1, HRES.out.2.2.2, HB3.out⟩

end Go.Proofs.YtjlicnhkemfmiaaGreatDoor

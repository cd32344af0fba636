/- rational.Sum; two numbers' structs compared; plain laws of what secured creditors receive. -/
import Derived.Test.YtjlicnhkemfmiaaGreatDoorMto
import Derived.Test.YtjlicnhkemfmiaaGreatDoorWAwk
import Derived.Test.YtjlicnhkemfmiaaGreatDoorMit
set_option linter.unusedVariables false
set_option linter.unusedSimpArgs false
namespace Go.Proofs.YtjlicnhkemfmiaaGreatDoor
open Go.RowKit

theorem rat_ext {p q : Rat} (h1 : rneg p = rneg q) (h2 : rnum p = rnum q) (h3 : rden p = rden q) : p = q := by
  have e : fqOf p = fqOf q := by unfold fqOf; rw [h1, h2, h3]
  have := congrArg fixR e
  rwa [fixR_of, fixR_of] at this
theorem bytes_eq {a b : ByteArray} (h : a.toList = b.toList) : a = b := by
  by_cases e : a = b
  · exact e
  · have := bytes_ne e
    rw [h] at this
    simp at this
theorem neq_rats (p q : Rat) (w : World) : (binOp .neq 33 (.agg #[.bool (rneg p), .string (rnum p), .string (rden p)]) (.agg #[.bool (rneg q), .string (rnum q), .string (rden q)])).run Tryz.prog w = .ok (.bool (decide (p ≠ q))) w := by
  by_cases e : p = q
  · subst e
    rw [decide_eq_false (by simp)]
    go_simp
  · rw [decide_eq_true e]
    by_cases h1 : rneg p = rneg q
    · by_cases h2 : rnum p = rnum q
      · by_cases h3 : rden p = rden q
        · exact absurd (rat_ext h1 h2 h3) e
        · have h4 : ¬ (rden p).toList = (rden q).toList := fun h => h3 (bytes_eq h)
          rw [h1, h2]
          clear h1 h2 h3 e
          go_simp
      · have h4 : ¬ (rnum p).toList = (rnum q).toList := fun h => h2 (bytes_eq h)
        rw [h1]
        clear h1 h2 e
        go_simp
    · clear e
      go_simp
theorem foldl_add : ∀ (l : List Rat) (a : Rat), l.foldl (· + ·) a = a + sumR l
  | [], a => by simp [sumR, Rat.add_zero]
  | x :: l, a => by
    rw [List.foldl_cons, foldl_add l (a + x)]
    simp only [sumR]; grind
theorem foldl_sz {z : Nat} : ∀ (l : List Rat) (k : Nat), (∀ q ∈ l, Sz z q) → k ≤ l.length → Sz (1 + k * (z + 1)) ((l.take k).foldl (· + ·) 0)
  | l, 0, _, _ => sz_zero1 _ (by omega)
  | l, k + 1, h, hk => by
    have ih := foldl_sz l k h (by omega)
    obtain ⟨x, hx⟩ := getElem?_of_lt (l := l) (k := k) (by omega)
    rw [take_foldl _ _ _ _ _ hx]
    have e : (k + 1) * (z + 1) = k * (z + 1) + (z + 1) := Nat.succ_mul _ _
    exact (Sz.add ih (h x (List.mem_of_getElem? hx))).mono (by omega)
theorem sumR_sz {z : Nat} (l : List Rat) (h : ∀ q ∈ l, Sz z q) : Sz (1 + l.length * (z + 1)) (sumR l) := by
  have := foldl_sz l l.length h (Nat.le_refl _)
  rw [List.take_of_length_le (Nat.le_refl _), foldl_add, Rat.zero_add] at this
  exact this
/-! ### claims of rank 2 alone -/
def cl2 (q : Rat) : Cl := ⟨2, q⟩
theorem tiers2_gen : ∀ (l : List Rat) (a b c d e f g h : Rat), (l.map cl2).foldl (fun L c => addAt c.rank c.amt L) [a, b, c, d, e, f, g, h] = [a, b, c + sumR l, d, e, f, g, h]
  | [], a, b, c, d, e, f, g, h => by simp [sumR, Rat.add_zero]
  | q :: l, a, b, c, d, e, f, g, h => by
    rw [List.map_cons, List.foldl_cons]
    have : addAt (cl2 q).rank (cl2 q).amt [a, b, c, d, e, f, g, h] = [a, b, c + q, d, e, f, g, h] := rfl
    rw [this, tiers2_gen l]
    simp only [sumR]
    rw [show c + q + sumR l = c + (q + sumR l) by grind]
theorem tiers2 (l : List Rat) : tiersL (l.map cl2) = [0, 0, sumR l, 0, 0, 0, 0, 0] := by
  have := tiers2_gen l 0 0 0 0 0 0 0 0
  unfold tiersL
  rw [show List.replicate 8 (0 : Rat) = [0, 0, 0, 0, 0, 0, 0, 0] from rfl, this, Rat.zero_add]
theorem deliv2 (l : List Rat) (m : Rat) : deliv (l.map cl2) m = l.map fun q => q * wfr m (sumR l) := by
  unfold deliv
  rw [tiers2, List.map_map]
  refine List.map_congr_left fun q _ => ?_
  show q * (frs m [0, 0, sumR l, 0, 0, 0, 0, 0]).getD 2 0 = _
  have e : (frs m [0, 0, sumR l, 0, 0, 0, 0, 0]).getD 2 0 = wfr (m - 0 - 0) (sumR l) := rfl
  rw [e, show m - 0 - 0 = m by grind]
theorem wfr_sz {k m : Nat} {z S : Rat} (hz : Sz k z) (hS : Sz m S) (k0 : 0 < k + m) : Sz (k + m) (wfr z S) := by
  unfold wfr
  split
  · exact sz_zero1 _ k0
  · split
    · exact Sz.mono (k := 1) ⟨by decide, by decide⟩ k0
    · rename_i h1 h2
      exact Sz.div hz hS (by grind)
theorem deliv2_sz {l : List Rat} {m : Rat} {z zm : Nat} (hl : ∀ q ∈ l, Sz z q) (hm : Sz zm m) (h0 : 0 < zm) : ∀ d ∈ deliv (l.map cl2) m, Sz (z + (zm + (1 + l.length * (z + 1)))) d := by
  intro d hd
  rw [deliv2] at hd
  obtain ⟨q, hq, rfl⟩ := List.mem_map.1 hd
  exact Sz.mul (hl q hq) (wfr_sz hm (sumR_sz l hl) (by omega))
theorem sum_le_eq : ∀ (a d : List Rat), a.length = d.length → (∀ (i : Nat) (x y : Rat), a[i]? = some x → d[i]? = some y → y ≤ x) → sumR d ≤ sumR a ∧ (sumR d = sumR a → a = d)
  | [], [], _, _ => ⟨Rat.le_refl, fun _ => rfl⟩
  | [], _ :: _, h, _ => by simp at h
  | _ :: _, [], h, _ => by simp at h
  | x :: a, y :: d, h, hp => by
    obtain ⟨h1, h2⟩ := sum_le_eq a d (by simpa using h) (fun i x y hx hy => hp (i + 1) x y (by simpa using hx) (by simpa using hy))
    have h3 := hp 0 x y rfl rfl
    simp only [sumR]
    refine ⟨by grind, fun e => ?_⟩
    have e1 : y = x := by grind
    have e2 := h2 (by grind)
    rw [e1, e2]
/-- what is claimed besides the items -/
def restL (os ts : List Rat) : List Rat := os.zipWith (· - ·) ts
theorem restL_len {os ts : List Rat} (h : ts.length = os.length) : (restL os ts).length = os.length := by unfold restL; simp [h]
theorem restL_at {os ts : List Rat} {i : Nat} {o x : Rat} (ho : os[i]? = some o) (ht : ts[i]? = some x) : (restL os ts)[i]? = some (o - x) := by
  unfold restL; rw [List.getElem?_zipWith, ho, ht]
structure SecOk (all m : Rat) (os ts ds : List Rat) : Prop where
  len : ds.length = os.length
  each : ∀ (i : Nat) (o x d : Rat), os[i]? = some o → ts[i]? = some x → ds[i]? = some d → 0 ≤ x ∧ x + d ≤ o
  short : ∀ (i : Nat) (o x d : Rat), os[i]? = some o → ts[i]? = some x → ds[i]? = some d → x + d ≠ o → sumR ds = m
  sum : sumR ts + sumR ds ≤ m + all
theorem rest_ok {all : Rat} {os ts : List Rat} (h : TotOk all os ts) : ClsOk ((restL os ts).map cl2) := by
  refine ⟨fun c hc => ?_⟩
  obtain ⟨q, hq, rfl⟩ := List.mem_map.1 hc
  obtain ⟨i, hi⟩ := List.getElem?_of_mem hq
  have hil := (List.getElem?_eq_some_iff.1 hi).1
  rw [restL_len h.len] at hil
  obtain ⟨o, ho⟩ := getElem?_of_lt (l := os) (k := i) hil
  obtain ⟨x, hx⟩ := getElem?_of_lt (l := ts) (k := i) (by rw [h.len]; exact hil)
  rw [restL_at ho hx] at hi
  obtain rfl := Option.some.inj hi
  have := h.each i o x ho hx
  exact ⟨by show 2 < 8; decide, by show 0 ≤ o - x; grind⟩
theorem sec_ok {all m : Rat} {os ts : List Rat} (h : TotOk all os ts) (hm : 0 ≤ m) : SecOk all m os ts (deliv ((restL os ts).map cl2) m) := by
  have hok := rest_ok h
  have hl : (deliv ((restL os ts).map cl2) m).length = os.length := by rw [deliv_len, List.length_map, restL_len h.len]
  have hbd : ∀ (i : Nat) (r d : Rat), (restL os ts)[i]? = some r → (deliv ((restL os ts).map cl2) m)[i]? = some d → 0 ≤ d ∧ d ≤ r := fun i r d hr hd => deliv_bd hok (c := cl2 r) (by rw [List.getElem?_map, hr]; rfl) hd
  have hsum := deliv_sum hok hm
  rw [List.map_map, show ((fun c : Cl => c.amt) ∘ cl2) = id from rfl, List.map_id] at hsum
  have hle := sum_le_eq (restL os ts) (deliv ((restL os ts).map cl2) m) (by rw [hl, restL_len h.len]) (fun i x y hx hy => (hbd i x y hx hy).2)
  refine ⟨hl, fun i o x d ho hx hd => ?_, fun i o x d ho hx hd hne => ?_, ?_⟩
  · have h1 := hbd i _ d (restL_at ho hx) hd
    have h2 := h.each i o x ho hx
    exact ⟨h2.1, by grind⟩
  · by_cases hc : sumR (restL os ts) ≤ m
    · rw [if_pos hc] at hsum
      have e := hle.2 hsum
      exfalso
      have h1 := restL_at ho hx
      rw [e, hd] at h1
      have h2 := Option.some.inj h1
      exact hne (by grind)
    · rw [if_neg hc] at hsum; exact hsum
  · have h3 := h.sum
    by_cases hc : sumR (restL os ts) ≤ m
    · rw [if_pos hc] at hsum; grind
    · rw [if_neg hc] at hsum; grind
set_option maxHeartbeats 8000000 in
set_option maxRecDepth 100000 in
theorem pSumQ_calls (A : Option Addr) (n c z : Nat) (l : List Rat) (w : World) (hn : n = l.length) (hr : Rd w w.heap.size 3 A l.length (l.flatMap rtV)) (hs : ∀ q ∈ l, Sz z q) (h8 : n ≤ 100) (hbd : 1 + n * (z + 1) + z ≤ 99999) :
    Calls Tryz.prog 15 #[.slice A n c] w fun e w' => e = .returned (ratV (sumR l)) ∧ Below w.heap.size w w' := by
  have HRL := Lib.hid (And.intro hn (And.intro hr hs))
  have hn100 : n ≤ 100 := h8
  have hbd2 : 1 + n * (z + 1) + z ≤ 99999 := hbd
  have HSR : Hid (l.foldl (· + ·) 0 = sumR l) := by show _ = _; rw [foldl_add, Rat.zero_add]
  clear hn hr hs h8 hbd
  unfold ratV
  go_enter Tryz.func15, Tryz.ntmps15
  go_wp2_with fail
  obtain ⟨gr, hg_gr⟩ : ∃ g, g = w.heap.size := ⟨_, rfl⟩
  obtain ⟨gm, hg_gm⟩ : ∃ g, g = w.heap.size + 1 := ⟨_, rfl⟩
  obtain ⟨w0, hw_w0⟩ : ∃ W, W = ((w.alloc (.cells #[.bool false, .string ⟨#[]⟩, .string ⟨#[]⟩] 33)).alloc (.cells #[.bool false, .string ⟨#[]⟩, .string ⟨#[]⟩] 33)) := ⟨_, rfl⟩
  have HR0 : Hid (Bk gr (.cells #[.bool false, .string ⟨#[]⟩, .string ⟨#[]⟩] 33) w0) := by rw [hw_w0, hg_gr]; exact blk_alloc (blk_new _ _)
  have HM0 : Hid (Bk gm (.cells #[.bool false, .string ⟨#[]⟩, .string ⟨#[]⟩] 33) w0) := by rw [hw_w0, hg_gm]; exact blk_new1 _ _ _
  have HB0 : Hid (Below w.heap.size w w0) := by rw [hw_w0]; exact (bel_alloc _ _).alloc (by simp) _
  have HL_0 := Lib.hid (And.intro (by omega : w.heap.size ≤ gr) ((by omega : gr < gm)))
  rw [← hw_w0]
  (try rw [← hg_gm]); (try rw [← hg_gr])
  clear hw_w0 hg_gr hg_gm
  have HM2 : Hid (Bk gm (.cells #[.bool (rneg 0), .string (rnum 0), .string (rden 0)] 33) w0) := by show Bk _ _ _; rw [rneg_zero, rnum_zero, rden_zero]; exact HM0.out
  go_loopw [9] (fun i wr => ∃ j : Nat, j ≤ n ∧ i = .int .i64 (j : Int) ∧ Hid (Bk gr (.cells #[.bool false, .string ⟨#[]⟩, .string ⟨#[]⟩] 33) wr) ∧ Hid (Bk gm (.cells #[.bool (rneg ((l.take j).foldl (· + ·) 0)), .string (rnum ((l.take j).foldl (· + ·) 0)), .string (rden ((l.take j).foldl (· + ·) 0))] 33) wr) ∧ Hid (Below w.heap.size w wr)) (fun i _ => n - (intOf i).toNat)
  case atStart => exact ⟨0, Nat.zero_le _, rfl, HR0, HM2, HB0⟩
  case round =>
    clear HM2 HR0 HB0
    obtain ⟨j, hj, rfl, HR, HM, HB⟩ := hrel
    rename World => wo
    obtain ⟨u, hu⟩ : ∃ z, z = (l.take j).foldl (· + ·) 0 := ⟨_, rfl⟩
    have HU := Lib.hid hu
    rw [← hu] at HM
    clear hu
    by_cases hlt : j < n
    · have hlt2 : (j : Int) < (n : Int) := by omega
      obtain ⟨q, hq⟩ := getElem?_of_lt (l := l) (k := j) (by rw [← HRL.out.1]; exact hlt)
      have hqz := HRL.out.2.2 q (List.mem_of_getElem? hq)
      have hnx := take_foldl (fun a b : Rat => a + b) 0 l j q hq
      rw [← HU.out] at hnx
      have hj2 : 1 + j * (z + 1) + z ≤ 99999 := by have : j * (z + 1) ≤ n * (z + 1) := Nat.mul_le_mul_right _ (by omega); omega
      have huz := foldl_sz l j HRL.out.2.2 (by rw [← HRL.out.1]; omega)
      rw [← HU.out] at huz
      have hc' := fun W => pCleanQ_calls q z W hqz (by omega)
      have ha' := fun W => pAdd_calls u q (1 + j * (z + 1)) z W huz hqz (by omega)
      obtain ⟨v, hv⟩ : ∃ x, x = u + q := ⟨_, rfl⟩
      rw [← hv] at ha' hnx
      unfold ratV at hc' ha'
      have HCL := Lib.hid hc'
      have HAD := Lib.hid ha'
      have HNX := Lib.hid hnx
      obtain ⟨b, off, hA, _, hc⟩ := Rd.at_ (enc := rtV) rtV_len (HRL.out.2.1.next HB.out) hq
      subst hA
      have p0 := hc 0 _ rfl
      have p1 := hc 1 _ rfl
      have p2 := hc 2 _ rfl
      rw [Nat.add_zero] at p0
      rw [← Nat.add_assoc] at p1 p2
      clear hc hq hqz hnx hj2 huz hc' ha' hv
      go_upto_region 5 with fail
      clear p0 p1 p2
      obtain ⟨gx, hg_gx⟩ : ∃ g, g = wo.heap.size := ⟨_, rfl⟩
      obtain ⟨x1, hw_x1⟩ : ∃ W, W = wo.alloc (.cells #[.bool (rneg q), .string (rnum q), .string (rden q)] 33) := ⟨_, rfl⟩
      have HL_gx := Lib.hid (And.intro (by have := blk_lt HR.out; omega : gr < gx) (And.intro (by have := blk_lt HM.out; omega : gm < gx) ((by have := HB.out.size; omega : w.heap.size ≤ gx))))
      have HR1 : Hid (Bk gr (.cells #[.bool false, .string ⟨#[]⟩, .string ⟨#[]⟩] 33) x1) := by rw [hw_x1]; exact blk_next HR.out (bel_alloc _ _)
      have HM1 : Hid (Bk gm (.cells #[.bool (rneg u), .string (rnum u), .string (rden u)] 33) x1) := by rw [hw_x1]; exact blk_next HM.out (bel_alloc _ _)
      have HB1 : Hid (Below w.heap.size w x1) := by rw [hw_x1]; exact HB.out.trans ((bel_alloc _ _).mono HB.out.size)
      have HX1 : Hid (Bk gx (.cells #[.bool (rneg q), .string (rnum q), .string (rden q)] 33) x1) := by rw [hw_x1, hg_gx]; exact blk_new _ _
      rw [← hw_x1]
      (try rw [← hg_gx])
      clear hw_x1 hg_gx HR HM HB
      obtain ⟨x2, hw_x2⟩ : ∃ W, W = x1.drew := ⟨_, rfl⟩
      have HR2 : Hid (Bk gr (.cells #[.bool false, .string ⟨#[]⟩, .string ⟨#[]⟩] 33) x2) := by rw [hw_x2]; exact HR1.out
      have HM2 : Hid (Bk gm (.cells #[.bool (rneg u), .string (rnum u), .string (rden u)] 33) x2) := by rw [hw_x2]; exact HM1.out
      have HB2 : Hid (Below w.heap.size w x2) := by rw [hw_x2]; exact HB1.out.drew
      have HX2 : Hid (Bk gx (.cells #[.bool (rneg q), .string (rnum q), .string (rden q)] 33) x2) := by rw [hw_x2]; exact HX1.out
      have hS1 : (Bk gx (.cells #[.bool (rneg q), .string (rnum q), .string (rden q)] 33)) x2 := HX2.out
      refine wp_region_held_drew (S := (Bk gx (.cells #[.bool (rneg q), .string (rnum q), .string (rden q)] 33))) (by kernel_rfl) (by rw [← hw_x2]; exact hS1) ?_
      rw [← hw_x2]
      intro _
      clear hw_x2 HR1 HM1 HB1 HX1
      refine wpAnyH_take (i := 1) (v := .agg #[.bool (rneg q), .string (rnum q), .string (rden q)]) rfl (by kernel_rfl) (by kernel_rfl) (by kernel_rfl) (fun _ _ _ h => h) (Or.inl ⟨by kernel_rfl, (by intro w' hw'; obtain ⟨k0, k1, k2, fk0, fk1, fk2, hzk⟩ := three_of hw'; go_simp)⟩) hS1 ?_
      go_simp
      refine wpAnyH_ready (rs := [0, 2]) (by kernel_rfl) (by simp) ?_
      refine AllReadyH.cons rfl (fun K hK => ?_) (AllReadyH.cons rfl (fun K hK => ?_) AllReadyH.nil)
      · obtain ⟨l0, l1, l2, fl0, fl1, fl2, hzl⟩ := three_of HM2.out
        go_simp
        clear l0 l1 l2 fl0 fl1 fl2 hzl
        have hS2 : (Bk gx (.cells #[.bool (rneg q), .string (rnum q), .string (rden q)] 33)) x2 := HX2.out
        refine hK.out _ _ hS2 (fun _ => ?_)
        clear hK K
        refine wpAnyH_ready (rs := [2]) (by kernel_rfl) (by simp) ?_
        refine AllReadyH.cons rfl (fun K hK => ?_) AllReadyH.nil
        go_simp
        refine (HCL.out _).mono ?_
        rintro e x3 ⟨rfl, hb⟩
        have HR3 : Hid (Bk gr (.cells #[.bool false, .string ⟨#[]⟩, .string ⟨#[]⟩] 33) x3) := blk_next HR2.out hb
        have HM3 : Hid (Bk gm (.cells #[.bool (rneg u), .string (rnum u), .string (rden u)] 33) x3) := blk_next HM2.out hb
        have HB3 : Hid (Below w.heap.size w x3) := HB2.out.trans (hb.mono HB2.out.size)
        have HX3 : Hid (Bk gx (.cells #[.bool (rneg q), .string (rnum q), .string (rden q)] 33) x3) := blk_next HX2.out hb
        clear hb HR2 HM2 HB2 HX2
        have hS3 : (Bk gx (.cells #[.bool (rneg q), .string (rnum q), .string (rden q)] 33)) x3 := HX3.out
        refine hK.out _ _ hS3 (fun _ => ?_)
        clear hK K
        refine wpAnyH_ready (rs := [3]) (by kernel_rfl) (by simp) ?_
        refine AllReadyH.cons rfl (fun K hK => ?_) AllReadyH.nil
        go_simp
        refine (HAD.out _).mono ?_
        rintro e x4 ⟨rfl, hb⟩
        have HR4 : Hid (Bk gr (.cells #[.bool false, .string ⟨#[]⟩, .string ⟨#[]⟩] 33) x4) := blk_next HR3.out hb
        have HM4 : Hid (Bk gm (.cells #[.bool (rneg u), .string (rnum u), .string (rden u)] 33) x4) := blk_next HM3.out hb
        have HB4 : Hid (Below w.heap.size w x4) := HB3.out.trans (hb.mono HB3.out.size)
        have HX4 : Hid (Bk gx (.cells #[.bool (rneg q), .string (rnum q), .string (rden q)] 33) x4) := blk_next HX3.out hb
        clear hb HR3 HM3 HB3 HX3
        have hS4 : (Bk gx (.cells #[.bool (rneg q), .string (rnum q), .string (rden q)] 33)) x4 := HX4.out
        refine hK.out _ _ hS4 (fun _ => ?_)
        clear hK K
        refine wpAnyH_ready (rs := [4]) (by kernel_rfl) (by simp) ?_
        refine AllReadyH.cons rfl (fun K hK => ?_) AllReadyH.nil
        obtain ⟨l0, l1, l2, fl0, fl1, fl2, hzl⟩ := three_of HM4.out
        go_simp
        clear l0 l1 l2 fl0 fl1 fl2 hzl
        obtain ⟨x5, hw_x5⟩ : ∃ W, W = (((x4.setCell ⟨gm, 0, none⟩ (.bool (rneg v))).setCell ⟨gm, 1, none⟩ (.string (rnum v))).setCell ⟨gm, 2, none⟩ (.string (rden v))) := ⟨_, rfl⟩
        have ho : Only gm x4 x5 := by rw [hw_x5]; exact (((Only.refl _ _).setC _ _).setC _ _).setC _ _
        have HR5 : Hid (Bk gr (.cells #[.bool false, .string ⟨#[]⟩, .string ⟨#[]⟩] 33) x5) := blk_onlyW HR4.out ho (by have := HL_0.out; have := HL_gx.out; omega)
        have HB5 : Hid (Below w.heap.size w x5) := HB4.out.trans (ho.at_ _ HB4.out.size (by have := HL_0.out; have := HL_gx.out; omega))
        have HX5 : Hid (Bk gx (.cells #[.bool (rneg q), .string (rnum q), .string (rden q)] 33) x5) := blk_onlyW HX4.out ho (by have := HL_0.out; have := HL_gx.out; omega)
        have HM5 : Hid (Bk gm (.cells #[.bool (rneg v), .string (rnum v), .string (rden v)] 33) x5) := by rw [hw_x5]; exact heap_setCell_same _ gm 2 _ _ (.string (rden v)) (heap_setCell_same _ gm 1 _ _ (.string (rnum v)) (heap_setCell_same _ gm 0 _ _ (.bool (rneg v)) (HM4.out)))
        rw [← hw_x5]
        clear hw_x5 ho HM4 HR4 HB4 HX4
        have hS5 : (Bk gx (.cells #[.bool (rneg q), .string (rnum q), .string (rden q)] 33)) x5 := HX5.out
        refine hK.out _ _ hS5 (fun _ => ?_)
        clear hK K
        refine wpAnyH_done (by kernel_rfl) ?_ _
        (try go_wp2_with fail)
        go_roundw
        case measure => simp [intOf] <;> omega
        case rel => exact ⟨j + 1, by omega, by go_num, HR5, by rw [HNX.out]; exact HM5, HB5⟩
      · go_simp
        refine (HCL.out _).mono ?_
        rintro e x3 ⟨rfl, hb⟩
        have HR3 : Hid (Bk gr (.cells #[.bool false, .string ⟨#[]⟩, .string ⟨#[]⟩] 33) x3) := blk_next HR2.out hb
        have HM3 : Hid (Bk gm (.cells #[.bool (rneg u), .string (rnum u), .string (rden u)] 33) x3) := blk_next HM2.out hb
        have HB3 : Hid (Below w.heap.size w x3) := HB2.out.trans (hb.mono HB2.out.size)
        have HX3 : Hid (Bk gx (.cells #[.bool (rneg q), .string (rnum q), .string (rden q)] 33) x3) := blk_next HX2.out hb
        clear hb HR2 HM2 HB2 HX2
        have hS2 : (Bk gx (.cells #[.bool (rneg q), .string (rnum q), .string (rden q)] 33)) x3 := HX3.out
        refine hK.out _ _ hS2 (fun _ => ?_)
        clear hK K
        refine wpAnyH_ready (rs := [0]) (by kernel_rfl) (by simp) ?_
        refine AllReadyH.cons rfl (fun K hK => ?_) AllReadyH.nil
        obtain ⟨l0, l1, l2, fl0, fl1, fl2, hzl⟩ := three_of HM3.out
        go_simp
        clear l0 l1 l2 fl0 fl1 fl2 hzl
        have hS3 : (Bk gx (.cells #[.bool (rneg q), .string (rnum q), .string (rden q)] 33)) x3 := HX3.out
        refine hK.out _ _ hS3 (fun _ => ?_)
        clear hK K
        refine wpAnyH_ready (rs := [3]) (by kernel_rfl) (by simp) ?_
        refine AllReadyH.cons rfl (fun K hK => ?_) AllReadyH.nil
        go_simp
        refine (HAD.out _).mono ?_
        rintro e x4 ⟨rfl, hb⟩
        have HR4 : Hid (Bk gr (.cells #[.bool false, .string ⟨#[]⟩, .string ⟨#[]⟩] 33) x4) := blk_next HR3.out hb
        have HM4 : Hid (Bk gm (.cells #[.bool (rneg u), .string (rnum u), .string (rden u)] 33) x4) := blk_next HM3.out hb
        have HB4 : Hid (Below w.heap.size w x4) := HB3.out.trans (hb.mono HB3.out.size)
        have HX4 : Hid (Bk gx (.cells #[.bool (rneg q), .string (rnum q), .string (rden q)] 33) x4) := blk_next HX3.out hb
        clear hb HR3 HM3 HB3 HX3
        have hS4 : (Bk gx (.cells #[.bool (rneg q), .string (rnum q), .string (rden q)] 33)) x4 := HX4.out
        refine hK.out _ _ hS4 (fun _ => ?_)
        clear hK K
        refine wpAnyH_ready (rs := [4]) (by kernel_rfl) (by simp) ?_
        refine AllReadyH.cons rfl (fun K hK => ?_) AllReadyH.nil
        obtain ⟨l0, l1, l2, fl0, fl1, fl2, hzl⟩ := three_of HM4.out
        go_simp
        clear l0 l1 l2 fl0 fl1 fl2 hzl
        obtain ⟨x5, hw_x5⟩ : ∃ W, W = (((x4.setCell ⟨gm, 0, none⟩ (.bool (rneg v))).setCell ⟨gm, 1, none⟩ (.string (rnum v))).setCell ⟨gm, 2, none⟩ (.string (rden v))) := ⟨_, rfl⟩
        have ho : Only gm x4 x5 := by rw [hw_x5]; exact (((Only.refl _ _).setC _ _).setC _ _).setC _ _
        have HR5 : Hid (Bk gr (.cells #[.bool false, .string ⟨#[]⟩, .string ⟨#[]⟩] 33) x5) := blk_onlyW HR4.out ho (by have := HL_0.out; have := HL_gx.out; omega)
        have HB5 : Hid (Below w.heap.size w x5) := HB4.out.trans (ho.at_ _ HB4.out.size (by have := HL_0.out; have := HL_gx.out; omega))
        have HX5 : Hid (Bk gx (.cells #[.bool (rneg q), .string (rnum q), .string (rden q)] 33) x5) := blk_onlyW HX4.out ho (by have := HL_0.out; have := HL_gx.out; omega)
        have HM5 : Hid (Bk gm (.cells #[.bool (rneg v), .string (rnum v), .string (rden v)] 33) x5) := by rw [hw_x5]; exact heap_setCell_same _ gm 2 _ _ (.string (rden v)) (heap_setCell_same _ gm 1 _ _ (.string (rnum v)) (heap_setCell_same _ gm 0 _ _ (.bool (rneg v)) (HM4.out)))
        rw [← hw_x5]
        clear hw_x5 ho HM4 HR4 HB4 HX4
        have hS5 : (Bk gx (.cells #[.bool (rneg q), .string (rnum q), .string (rden q)] 33)) x5 := HX5.out
        refine hK.out _ _ hS5 (fun _ => ?_)
        clear hK K
        refine wpAnyH_done (by kernel_rfl) ?_ _
        (try go_wp2_with fail)
        go_roundw
        case measure => simp [intOf] <;> omega
        case rel => exact ⟨j + 1, by omega, by go_num, HR5, by rw [HNX.out]; exact HM5, HB5⟩
    · have hlt2 : ¬ (j : Int) < (n : Int) := by omega
      have HUE : Hid (sumR l = u) := by
        show _ = _
        rw [← HSR.out, HU.out, List.take_of_length_le (by rw [← HRL.out.1]; omega)]
      obtain ⟨y0, y1, y2, fy0, fy1, fy2, hzy⟩ := three_of HM.out
      obtain ⟨c0, c1, c2, fc0, fc1, fc2, hzc⟩ := three_of HR.out
      have hlt := HL_0.out
      go_wp2_with fail
      exact bodyPost_ret (v := .agg #[.bool (rneg u), .string (rnum u), .string (rden u)]) (by simp [results, Tryz.results15, go_sem, c0, c1, c2]) rfl ⟨by rw [HUE.out], ((HB.out.setCell (by simp <;> omega) _).setCell (by simp <;> omega) _).setCell (by simp <;> omega) _⟩

end Go.Proofs.YtjlicnhkemfmiaaGreatDoor

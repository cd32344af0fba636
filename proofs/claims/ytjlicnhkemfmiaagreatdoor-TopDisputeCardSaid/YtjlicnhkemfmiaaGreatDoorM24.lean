/- Merged of Dsp4 Dsp4b. -/
import Derived.Test.YtjlicnhkemfmiaaGreatDoorM22
import Derived.Test.YtjlicnhkemfmiaaGreatDoorSq
import Derived.Test.YtjlicnhkemfmiaaGreatDoorDsp2
import Derived.Test.YtjlicnhkemfmiaaGreatDoorDsp3
/- register.file, Apply. -/
set_option linter.unusedVariables false
set_option linter.unusedSimpArgs false
set_option maxHeartbeats 8000000
set_option maxRecDepth 100000
namespace Go.Proofs.YtjlicnhkemfmiaaGreatDoor
open Go.RowKit

/-- but for block rb, only blocks of entries are written -/
structure OffE (rb : Nat) (w w' : World) : Prop where
 size : w.heap.size ≤ w'.heap.size
 blk : ∀ (k : Nat) (cur : Array Value) (T : TypeId) (f : Nat × Nat), w.heap[k]? = some (.cells cur T f) → k ≠ rb → T ≠ 67 → w'.heap[k]? = some (.cells cur T f)
section
variable {rb : Nat} {w W W' : World}
theorem OffE.refl (rb : Nat) (w : World) : OffE rb w w := ⟨Nat.le_refl _, fun k c T f h _ _ => h⟩
theorem OffE.next (h : OffE rb w W) (hb : Below W.heap.size W W') : OffE rb w W' := ⟨Nat.le_trans h.size hb.size, fun k c T f hk h1 h2 => blk_next (h.blk k c T f hk h1 h2) hb⟩
theorem OffE.drew (h : OffE rb w W) : OffE rb w W.drew := ⟨h.size, h.blk⟩
theorem OffE.only (h : OffE rb w W) {g : Nat} (ho : Only g W W') (hg : w.heap.size ≤ g) : OffE rb w W' := ⟨Nat.le_trans h.size ho.size, fun k c T f hk h1 h2 => blk_onlyW (h.blk k c T f hk h1 h2) ho (by have := blk_lt hk; omega)⟩
theorem OffE.self (h : OffE rb w W) (ho : Only rb W W') : OffE rb w W' := ⟨Nat.le_trans h.size ho.size, fun k c T f hk h1 h2 => blk_onlyW (h.blk k c T f hk h1 h2) ho h1⟩
theorem OffE.grown (h : OffE rb w W) {B S n : Nat} {v : Value} {xs : List Value} (ho : W.ownsRow B 67 S v n xs) (hgr : W.grownBy W' v.ownBlock) : OffE rb w W' :=
 ⟨Nat.le_trans h.size hgr.size, fun k c T f hk h1 h2 => blk_grownT ho (h.blk k c T f hk h1 h2) h2 hgr⟩
end
theorem own_mono {w : World} {base base' : Nat} {e : TypeId} {size : Nat} {v : Value} {n : Nat} {xs : List Value} (h : w.ownsRow base e size v n xs) (hb : base' ≤ base) : w.ownsRow base' e size v n xs := by
 refine ⟨h.1, ?_⟩
 rcases h.2 with hn | ⟨g, cap, cur, e1, hg, rest⟩
 ·
  exact .inl hn
 ·
  exact .inr ⟨g, cap, cur, e1, Nat.le_trans hb hg, rest⟩
def EnR (B : Nat) (A : Option Addr) (n c : Nat) (es : List En) (W : World) : Prop := W.ownsRow B 67 30 (.slice A n c) n (es.flatMap En.cells)
section
variable {B n c : Nat} {A : Option Addr} {es : List En} {W W' : World}
theorem EnR.next (h : EnR B A n c es W) (hb : Below W.heap.size W W') : EnR B A n c es W' := own_belowQ h hb
theorem EnR.drew (h : EnR B A n c es W) : EnR B A n c es W.drew := h
theorem EnR.rd (h : EnR B A n c es W) (hn : n = es.length) : Rd W W.heap.size 30 A es.length (es.flatMap En.cells) := by
 have := Rd.of_own h
 rw [hn] at this; exact this
theorem EnR.nil (h : EnR B A n c es W) : A = none → c = 0 := by
 intro e
 rcases h.2 with ⟨e1, _⟩ | ⟨g, cap, cur, e1, _⟩
 ·
  injection e1
 ·
  rw [e] at e1
  injection e1 with e1
  cases e1
end
def FilePost (B rb n : Nat) (day0 : Int) (es : List En) (x : En) (w : World) (e : Ending) (w' : World) : Prop :=
 ∃ A' c', e = .returned (.int .i64 0) ∧ Bk rb (.cells #[.int .i64 100, .int .i64 200, .int .i64 day0, .slice A' (n + 1) c'] 57) w' ∧ EnR B A' (n + 1) c' (es ++ [x]) w' ∧ Below B w w' ∧ OffE rb w w'
def FileR (B rb n c : Nat) (A : Option Addr) (day0 : Int) (es : List En) (ga : Nat) (w : World) (ev : Obj) (v : Rat) (s7 s8 : Value) (W : World) : Prop :=
 ∃ gq : Nat, s7 = .pointer (some ⟨gq, 0, none⟩) ∧ s8 = .int .i64 0 ∧ Bk ga ev W ∧ Bk rb (.cells #[.int .i64 100, .int .i64 200, .int .i64 day0, .slice A n c] 57) W ∧ EnR B A n c es W ∧ Bk gq (.cells #[.bool (rneg v), .string (rnum v), .string (rden v)] 33) W ∧ Below B w W ∧ OffE rb w W ∧ w.heap.size ≤ gq ∧ ga < gq ∧ rb < gq
theorem file_calls (B rb n c : Nat) (A : Option Addr) (day0 day : Int) (es : List En) (i : Nat) (d : Dc) (w : World) (hb : Bk rb (.cells #[.int .i64 100, .int .i64 200, .int .i64 day0, .slice A n c] 57) w) (ho : EnR B A n c es w) (hB : B ≤ rb) (hn : n = es.length) (h8 : n ≤ 8) (hd : DcD i d) (hday : day ≤ 200) (he : findE es d.id = es.length) :
 Calls Tryz.prog 48 #[.pointer (some ⟨rb, 0, none⟩), .agg #[.int .i64 1, .int .i64 day, .string ⟨#[]⟩, .bool false, .string ⟨#[]⟩, .string ⟨#[]⟩, .int .i64 0, .string d.id, .int .i64 d.est, .int .i64 d.cred, .string d.code, .bool (rneg d.amt), .string (rnum d.amt), .string (rden d.amt), .int .i64 d.inc, .int .i64 d.rank, .bool (rneg d.rate), .string (rnum d.rate), .string (rden d.rate), .int .i64 d.frm, .int .i64 d.sec], .slice none 0 0] w (FilePost B rb n day0 es (filed d day) w) := by
 have HV' := fun W => value_calls d 8 none 0 0 [] 100 W hd.ok (by decide) rfl Rd.nil QtsOk.nil ⟨by decide, by decide⟩
 rw [valD_err hd] at HV'
 have hvz := valD_sz hd
 obtain ⟨v, hv⟩ : ∃ v, v = valD d := ⟨_, rfl⟩
 have hv2 : d.amt * (factD d [] 100).1 = v := hv.symm
 rw [hv2] at HV'
 have HFD : Hid (filed d day = ⟨d, 1, false, v, 0, 0, v, d.inc, day⟩) := by show _ = _; unfold filed; rw [← hv]
 unfold dcV at HV'
 unfold ratV at HV'
 have HV := Lib.hid HV'
 have HFN := Lib.hid (fun W (h : EnR B A n c es W) => find_none 100 200 day0 A n c es d.id W hn (h.rd hn) (by unfold maxLen; omega) he)
 obtain ⟨iq, hi, hz0, hz1, hz2⟩ := info_parts Tryz.info_entry
 have HIQ := Lib.hid (And.intro hi (And.intro hz0 (And.intro hz1 hz2)))
 clear hi hz0 hz1 hz2
 have HR00 := Lib.hid hb
 have HE00 := Lib.hid ho
 have HBw : Hid (B ≤ w.heap.size) := by have := blk_lt hb; exact (by omega : B ≤ w.heap.size)
 have HBR : Hid (B ≤ rb) := hB
 have HRl : Hid (rb < w.heap.size) := blk_lt hb
 have HN := Lib.hid (And.intro hn h8)
 have dn : decide ((64 : Int) ≤ (n : Int)) = false := decide_eq_false (by omega)
 have dl : decide ((200 : Int) < day) = false := decide_eq_false (by omega)
 clear HV' hvz hv hv2 hn hb ho he hd hB h8 hday
 go_enter Tryz.func48, Tryz.ntmps48
 go_upto_region 1 with fail
 obtain ⟨ga, hga⟩ : ∃ g, g = w.heap.size := ⟨_, rfl⟩
 obtain ⟨w0, hw0⟩ : ∃ W, W = w.alloc (.cells #[.int .i64 1, .int .i64 day, .string ⟨#[]⟩, .bool false, .string ⟨#[]⟩, .string ⟨#[]⟩, .int .i64 0, .string d.id, .int .i64 d.est, .int .i64 d.cred, .string d.code, .bool (rneg d.amt), .string (rnum d.amt), .string (rden d.amt), .int .i64 d.inc, .int .i64 d.rank, .bool (rneg d.rate), .string (rnum d.rate), .string (rden d.rate), .int .i64 d.frm, .int .i64 d.sec] 65) := ⟨_, rfl⟩
 have HV0 : Hid (Bk ga (.cells #[.int .i64 1, .int .i64 day, .string ⟨#[]⟩, .bool false, .string ⟨#[]⟩, .string ⟨#[]⟩, .int .i64 0, .string d.id, .int .i64 d.est, .int .i64 d.cred, .string d.code, .bool (rneg d.amt), .string (rnum d.amt), .string (rden d.amt), .int .i64 d.inc, .int .i64 d.rank, .bool (rneg d.rate), .string (rnum d.rate), .string (rden d.rate), .int .i64 d.frm, .int .i64 d.sec] 65) w0) := by rw [hw0, hga]; exact blk_new _ _
 have HR0 : Hid (Bk rb (.cells #[.int .i64 100, .int .i64 200, .int .i64 day0, .slice A n c] 57) w0) := by rw [hw0]; exact blk_alloc HR00.out
 have HE0 : Hid (EnR B A n c es w0) := by rw [hw0]; exact HE00.out.alloc _
 have HB0 : Hid (Below B w w0) := by rw [hw0]; exact (Below.refl _ _).alloc HBw.out _
 have HO0 : Hid (OffE rb w w0) := by rw [hw0]; exact (OffE.refl _ w).next (bel_alloc _ _)
 have HL_a : Hid (rb < ga ∧ w.heap.size ≤ ga) := by rw [hga]; exact ⟨HRl.out, Nat.le_refl _⟩
 rw [← hw0]
 (try rw [← hga])
 clear hw0 hga HR00 HE00
 go_cut [7, 8] from 11 to 21 (fun s7 s8 wx => FileR B rb n c A day0 es ga w ((.cells #[.int .i64 1, .int .i64 day, .string ⟨#[]⟩, .bool false, .string ⟨#[]⟩, .string ⟨#[]⟩, .int .i64 0, .string d.id, .int .i64 d.est, .int .i64 d.cred, .string d.code, .bool (rneg d.amt), .string (rnum d.amt), .string (rden d.amt), .int .i64 d.inc, .int .i64 d.rank, .bool (rneg d.rate), .string (rnum d.rate), .string (rden d.rate), .int .i64 d.frm, .int .i64 d.sec] 65)) v s7 s8 wx)
 case first =>
  obtain ⟨w1, hw_w1⟩ : ∃ W, W = w0.drew := ⟨_, rfl⟩
  have HV1 := bkd HV0 hw_w1
  have HR1 := bkd HR0 hw_w1
  have HE1 : Hid (EnR B A n c es w1) := by rw [hw_w1]; exact HE0.out
  have HB1 : Hid (Below B w w1) := by rw [hw_w1]; exact HB0.out.drew
  have HO1 : Hid (OffE rb w w1) := by rw [hw_w1]; exact HO0.out.drew
  have hS1 := And.intro HV1.out HR1.out
  refine wp_region_held_drew (S := (AndW (Bk ga (.cells #[.int .i64 1, .int .i64 day, .string ⟨#[]⟩, .bool false, .string ⟨#[]⟩, .string ⟨#[]⟩, .int .i64 0, .string d.id, .int .i64 d.est, .int .i64 d.cred, .string d.code, .bool (rneg d.amt), .string (rnum d.amt), .string (rden d.amt), .int .i64 d.inc, .int .i64 d.rank, .bool (rneg d.rate), .string (rnum d.rate), .string (rden d.rate), .int .i64 d.frm, .int .i64 d.sec] 65)) (Bk rb (.cells #[.int .i64 100, .int .i64 200, .int .i64 day0, .slice A n c] 57)))) (by kernel_rfl) (by rw [← hw_w1]; exact hS1) ?_
  rw [← hw_w1]
  intro _
  clear hw_w1 HV0 HR0 HE0 HB0 HO0
  refine tk 0 hS1 ?_
  go_simp
  refine tv 1 (.agg #[.string d.id, .int .i64 d.est, .int .i64 d.cred, .string d.code, .bool (rneg d.amt), .string (rnum d.amt), .string (rden d.amt), .int .i64 d.inc, .int .i64 d.rank, .bool (rneg d.rate), .string (rnum d.rate), .string (rden d.rate), .int .i64 d.frm, .int .i64 d.sec]) rfl (by intro w' hw'; have v7 := blk_at (j := 7) hw'.1 rfl; have v8 := blk_at (j := 8) hw'.1 rfl; have v9 := blk_at (j := 9) hw'.1 rfl; have v10 := blk_at (j := 10) hw'.1 rfl; have v11 := blk_at (j := 11) hw'.1 rfl; have v12 := blk_at (j := 12) hw'.1 rfl; have v13 := blk_at (j := 13) hw'.1 rfl; have v14 := blk_at (j := 14) hw'.1 rfl; have v15 := blk_at (j := 15) hw'.1 rfl; have v16 := blk_at (j := 16) hw'.1 rfl; have v17 := blk_at (j := 17) hw'.1 rfl; have v18 := blk_at (j := 18) hw'.1 rfl; have v19 := blk_at (j := 19) hw'.1 rfl; have v20 := blk_at (j := 20) hw'.1 rfl; go_simp) hS1 ?_
  go_simp
  refine tk 2 hS1 ?_
  go_simp
  refine tk 3 hS1 ?_
  go_simp
  refine tk 4 hS1 ?_
  go_simp
  refine tv 5 (.int .i64 100) rfl (by intro w' hw'; obtain ⟨k0, k1, k2, k3, _, _, _, _, _⟩ := four_of hw'.2; go_simp) hS1 ?_
  go_simp
  refine tk 6 hS1 ?_
  go_simp
  refine wpAnyH_ready (rs := [7, 11]) (by kernel_rfl) (by simp) ?_
  refine AllReadyH.cons rfl (fun K hK => ?_) (AllReadyH.cons rfl (fun K hK => ?_) AllReadyH.nil)
  ·
   go_simp
   refine (HV.out _).mono ?_
   rintro e w2 ⟨rfl, hb⟩
   have HV2 := bkn HV1 hb
   have HR2 := bkn HR1 hb
   have HE2 : Hid (EnR B A n c es w2) := HE1.out.next hb
   have HB2 : Hid (Below B w w2) := HB1.out.trans (hb.mono (Nat.le_trans HBw.out HB1.out.size))
   have HO2 : Hid (OffE rb w w2) := HO1.out.next hb
   clear hb HV1 HR1 HE1 HB1 HO1
   have hS2 := And.intro HV2.out HR2.out
   refine hK.out _ _ hS2 (fun _ => ?_)
   clear hK K
   refine tk 8 hS2 ?_
   go_simp
   refine tk 9 hS2 ?_
   go_simp
   refine tk 10 hS2 ?_
   go_simp
   refine tr 11 (fun K hK => ?_)
   go_simp
   obtain ⟨gq, hg_gq⟩ : ∃ g, g = w2.heap.size := ⟨_, rfl⟩
   obtain ⟨w3, hw_w3⟩ : ∃ W, W = w2.alloc (.cells #[.bool false, .string ⟨#[]⟩, .string ⟨#[]⟩] 33) := ⟨_, rfl⟩
   have HL_gq := Lib.hid (And.intro (by have := HO2.out.size; omega : w.heap.size ≤ gq) (And.intro (by have := blk_lt HV2.out; omega : ga < gq) (by have := blk_lt HR2.out; omega : rb < gq)))
   have HV3 := bka HV2 hw_w3
   have HR3 := bka HR2 hw_w3
   have HE3 : Hid (EnR B A n c es w3) := by rw [hw_w3]; exact HE2.out.next (bel_alloc _ _)
   have HB3 : Hid (Below B w w3) := by rw [hw_w3]; exact HB2.out.trans ((bel_alloc _ _).mono (Nat.le_trans HBw.out HB2.out.size))
   have HO3 : Hid (OffE rb w w3) := by rw [hw_w3]; exact HO2.out.next (bel_alloc _ _)
   have HQ3 : Hid (Bk gq (.cells #[.bool false, .string ⟨#[]⟩, .string ⟨#[]⟩] 33) w3) := by rw [hw_w3, hg_gq]; exact blk_new _ _
   rw [← hw_w3]
   (try rw [← hg_gq])
   clear hw_w3 hg_gq HV2 HR2 HE2 HB2 HO2
   have hS3 := And.intro HV3.out HR3.out
   refine hK.out _ _ hS3 (fun _ => ?_)
   clear hK K
   refine tr 12 (fun K hK => ?_)
   obtain ⟨c0, c1, c2, fc0, fc1, fc2, hzc⟩ := three_of HQ3.out
   go_simp
   clear c0 c1 c2 fc0 fc1 fc2 hzc
   obtain ⟨w4, hw_w4⟩ : ∃ W, W = (((w3.setCell ⟨gq, 0, none⟩ (.bool (rneg v))).setCell ⟨gq, 1, none⟩ (.string (rnum v))).setCell ⟨gq, 2, none⟩ (.string (rden v))) := ⟨_, rfl⟩
   have ho : Only gq w3 w4 := by rw [hw_w4]; exact (((Only.refl _ _).setC _ _).setC _ _).setC _ _
   have HV4 := bko HV3 ho (by have := HL_a.out; have := HL_gq.out; omega)
   have HR4 := bko HR3 ho (by have := HL_a.out; have := HL_gq.out; omega)
   have HE4 : Hid (EnR B A n c es w4) := own_onlyT HE3.out ho HQ3.out (by decide)
   have HB4 : Hid (Below B w w4) := HB3.out.trans (ho.at_ _ (Nat.le_trans HBw.out HB3.out.size) (by have := HL_gq.out; have := HBw.out; omega))
   have HO4 : Hid (OffE rb w w4) := HO3.out.only ho (by have := HL_gq.out; omega)
   have HQ4 : Hid (Bk gq (.cells #[.bool (rneg v), .string (rnum v), .string (rden v)] 33) w4) := by rw [hw_w4]; exact heap_setCell_same _ gq 2 _ _ (.string (rden v)) (heap_setCell_same _ gq 1 _ _ (.string (rnum v)) (heap_setCell_same _ gq 0 _ _ (.bool (rneg v)) (HQ3.out)))
   rw [← hw_w4]
   clear hw_w4 ho HQ3 HV3 HR3 HE3 HB3 HO3
   have hS4 := And.intro HV4.out HR4.out
   refine hK.out _ _ hS4 (fun _ => ?_)
   clear hK K
   refine tk 13 hS4 ?_
   go_simp
   refine wpAnyH_done (by kernel_rfl) ?_ _
   (try go_wp2_with fail)
   go_meet
   exact ⟨gq, rfl, rfl, HV4.out, HR4.out, HE4.out, HQ4.out, HB4.out, HO4.out, (by have := HL_gq.out; omega), (by have := HL_gq.out; omega), (by have := HL_gq.out; omega)⟩
  ·
   go_simp
   obtain ⟨gq, hg_gq⟩ : ∃ g, g = w1.heap.size := ⟨_, rfl⟩
   obtain ⟨w2, hw_w2⟩ : ∃ W, W = w1.alloc (.cells #[.bool false, .string ⟨#[]⟩, .string ⟨#[]⟩] 33) := ⟨_, rfl⟩
   have HL_gq := Lib.hid (And.intro (by have := HO1.out.size; omega : w.heap.size ≤ gq) (And.intro (by have := blk_lt HV1.out; omega : ga < gq) (by have := blk_lt HR1.out; omega : rb < gq)))
   have HV2 := bka HV1 hw_w2
   have HR2 := bka HR1 hw_w2
   have HE2 : Hid (EnR B A n c es w2) := by rw [hw_w2]; exact HE1.out.next (bel_alloc _ _)
   have HB2 : Hid (Below B w w2) := by rw [hw_w2]; exact HB1.out.trans ((bel_alloc _ _).mono (Nat.le_trans HBw.out HB1.out.size))
   have HO2 : Hid (OffE rb w w2) := by rw [hw_w2]; exact HO1.out.next (bel_alloc _ _)
   have HQ2 : Hid (Bk gq (.cells #[.bool false, .string ⟨#[]⟩, .string ⟨#[]⟩] 33) w2) := by rw [hw_w2, hg_gq]; exact blk_new _ _
   rw [← hw_w2]
   (try rw [← hg_gq])
   clear hw_w2 hg_gq HV1 HR1 HE1 HB1 HO1
   have hS2 := And.intro HV2.out HR2.out
   refine hK.out _ _ hS2 (fun _ => ?_)
   clear hK K
   refine tr 7 (fun K hK => ?_)
   go_simp
   refine (HV.out _).mono ?_
   rintro e w3 ⟨rfl, hb⟩
   have HV3 := bkn HV2 hb
   have HR3 := bkn HR2 hb
   have HE3 : Hid (EnR B A n c es w3) := HE2.out.next hb
   have HB3 : Hid (Below B w w3) := HB2.out.trans (hb.mono (Nat.le_trans HBw.out HB2.out.size))
   have HO3 : Hid (OffE rb w w3) := HO2.out.next hb
   have HQ3 := bkn HQ2 hb
   clear hb HV2 HR2 HE2 HB2 HO2 HQ2
   have hS3 := And.intro HV3.out HR3.out
   refine hK.out _ _ hS3 (fun _ => ?_)
   clear hK K
   refine tk 8 hS3 ?_
   go_simp
   refine tk 9 hS3 ?_
   go_simp
   refine tk 10 hS3 ?_
   go_simp
   refine tr 12 (fun K hK => ?_)
   obtain ⟨c0, c1, c2, fc0, fc1, fc2, hzc⟩ := three_of HQ3.out
   go_simp
   clear c0 c1 c2 fc0 fc1 fc2 hzc
   obtain ⟨w4, hw_w4⟩ : ∃ W, W = (((w3.setCell ⟨gq, 0, none⟩ (.bool (rneg v))).setCell ⟨gq, 1, none⟩ (.string (rnum v))).setCell ⟨gq, 2, none⟩ (.string (rden v))) := ⟨_, rfl⟩
   have ho : Only gq w3 w4 := by rw [hw_w4]; exact (((Only.refl _ _).setC _ _).setC _ _).setC _ _
   have HV4 := bko HV3 ho (by have := HL_a.out; have := HL_gq.out; omega)
   have HR4 := bko HR3 ho (by have := HL_a.out; have := HL_gq.out; omega)
   have HE4 : Hid (EnR B A n c es w4) := own_onlyT HE3.out ho HQ3.out (by decide)
   have HB4 : Hid (Below B w w4) := HB3.out.trans (ho.at_ _ (Nat.le_trans HBw.out HB3.out.size) (by have := HL_gq.out; have := HBw.out; omega))
   have HO4 : Hid (OffE rb w w4) := HO3.out.only ho (by have := HL_gq.out; omega)
   have HQ4 : Hid (Bk gq (.cells #[.bool (rneg v), .string (rnum v), .string (rden v)] 33) w4) := by rw [hw_w4]; exact heap_setCell_same _ gq 2 _ _ (.string (rden v)) (heap_setCell_same _ gq 1 _ _ (.string (rnum v)) (heap_setCell_same _ gq 0 _ _ (.bool (rneg v)) (HQ3.out)))
   rw [← hw_w4]
   clear hw_w4 ho HQ3 HV3 HR3 HE3 HB3 HO3
   have hS4 := And.intro HV4.out HR4.out
   refine hK.out _ _ hS4 (fun _ => ?_)
   clear hK K
   refine tk 13 hS4 ?_
   go_simp
   refine wpAnyH_done (by kernel_rfl) ?_ _
   (try go_wp2_with fail)
   go_meet
   exact ⟨gq, rfl, rfl, HV4.out, HR4.out, HE4.out, HQ4.out, HB4.out, HO4.out, (by have := HL_gq.out; omega), (by have := HL_gq.out; omega), (by have := HL_gq.out; omega)⟩
 obtain ⟨gq, rfl, rfl, hv, hr, he, hq, hb, ho, h1, h2, h3⟩ := hcut
 rename World => wc
 have HV1 := Lib.hid hv
 have HR1 := Lib.hid hr
 have HE1 := Lib.hid he
 have HQ1 := Lib.hid hq
 have HB1 := Lib.hid hb
 have HO1 := Lib.hid ho
 have HL_q := Lib.hid (And.intro h1 (And.intro h2 h3))
 clear hv hr he hq hb ho h1 h2 h3 HV HV0 HR0 HE0 HB0 HO0
 go_upto_region 4 with fail
 obtain ⟨w101, hw_w101⟩ : ∃ W, W = wc.drew := ⟨_, rfl⟩
 have HV101 := bkd HV1 hw_w101
 have HR101 := bkd HR1 hw_w101
 have HE101 : Hid (EnR B A n c es w101) := by rw [hw_w101]; exact HE1.out
 have HQ101 := bkd HQ1 hw_w101
 have HB101 : Hid (Below B w w101) := by rw [hw_w101]; exact HB1.out.drew
 have HO101 : Hid (OffE rb w w101) := by rw [hw_w101]; exact HO1.out.drew
 have hS1 := And.intro HV101.out HR101.out
 refine wp_region_held_drew (S := (AndW (Bk ga (.cells #[.int .i64 1, .int .i64 day, .string ⟨#[]⟩, .bool false, .string ⟨#[]⟩, .string ⟨#[]⟩, .int .i64 0, .string d.id, .int .i64 d.est, .int .i64 d.cred, .string d.code, .bool (rneg d.amt), .string (rnum d.amt), .string (rden d.amt), .int .i64 d.inc, .int .i64 d.rank, .bool (rneg d.rate), .string (rnum d.rate), .string (rden d.rate), .int .i64 d.frm, .int .i64 d.sec] 65)) (Bk rb (.cells #[.int .i64 100, .int .i64 200, .int .i64 day0, .slice A n c] 57)))) (by kernel_rfl) (by rw [← hw_w101]; exact hS1) ?_
 rw [← hw_w101]
 intro _
 clear hw_w101 HV1 HR1 HE1 HQ1 HB1 HO1
 refine tk 0 hS1 ?_
 go_simp
 refine tk 1 hS1 ?_
 go_simp
 refine tv 2 (.agg #[.int .i64 100, .int .i64 200, .int .i64 day0, .slice A n c]) rfl (by intro w' hw'; obtain ⟨k0, k1, k2, k3, _, _, _, _, _⟩ := four_of hw'.2; go_simp) hS1 ?_
 go_simp
 refine tk 3 hS1 ?_
 go_simp
 refine tk 4 hS1 ?_
 go_simp
 refine tv 5 (.string d.id) rfl (by intro w' hw'; have v7 := blk_at (j := 7) hw'.1 rfl; go_simp) hS1 ?_
 go_simp
 refine tr 6 (fun K hK => ?_)
 go_simp
 refine (HFN.out _ HE101.out).mono ?_
 rintro e w102 ⟨rfl, hb⟩
 have HV102 := bkn HV101 hb
 have HR102 := bkn HR101 hb
 have HE102 : Hid (EnR B A n c es w102) := HE101.out.next hb
 have HQ102 := bkn HQ101 hb
 have HB102 : Hid (Below B w w102) := HB101.out.trans (hb.mono (Nat.le_trans HBw.out HB101.out.size))
 have HO102 : Hid (OffE rb w w102) := HO101.out.next hb
 clear hb HV101 HR101 HE101 HQ101 HB101 HO101
 have hS2 := And.intro HV102.out HR102.out
 refine hK.out _ _ hS2 (fun _ => ?_)
 clear hK K
 refine tk 7 hS2 ?_
 go_simp
 refine tk 8 hS2 ?_
 go_simp
 refine tk 9 hS2 ?_
 go_simp
 refine tk 10 hS2 ?_
 go_simp
 refine tk 11 hS2 ?_
 go_simp
 refine wpAnyH_done (by kernel_rfl) ?_ _
 obtain ⟨k0, k1, k2, k3, _, _, _, _, _⟩ := four_of HR102.out
 go_upto_region 9 with fail
 clear k0 k1 k2 k3
 obtain ⟨w103, hw_w103⟩ : ∃ W, W = w102.drew := ⟨_, rfl⟩
 have HV103 := bkd HV102 hw_w103
 have HR103 := bkd HR102 hw_w103
 have HE103 : Hid (EnR B A n c es w103) := by rw [hw_w103]; exact HE102.out
 have HQ103 := bkd HQ102 hw_w103
 have HB103 : Hid (Below B w w103) := by rw [hw_w103]; exact HB102.out.drew
 have HO103 : Hid (OffE rb w w103) := by rw [hw_w103]; exact HO102.out.drew
 have hS3 := And.intro HV103.out HQ103.out
 refine wp_region_held_drew (S := (AndW (Bk ga (.cells #[.int .i64 1, .int .i64 day, .string ⟨#[]⟩, .bool false, .string ⟨#[]⟩, .string ⟨#[]⟩, .int .i64 0, .string d.id, .int .i64 d.est, .int .i64 d.cred, .string d.code, .bool (rneg d.amt), .string (rnum d.amt), .string (rden d.amt), .int .i64 d.inc, .int .i64 d.rank, .bool (rneg d.rate), .string (rnum d.rate), .string (rden d.rate), .int .i64 d.frm, .int .i64 d.sec] 65)) (Bk gq (.cells #[.bool (rneg v), .string (rnum v), .string (rden v)] 33)))) (by kernel_rfl) (by rw [← hw_w103]; exact hS3) ?_
 rw [← hw_w103]
 intro _
 clear hw_w103 HV102 HR102 HE102 HQ102 HB102 HO102
 refine tk 0 hS3 ?_
 go_simp
 refine tk 1 hS3 ?_
 go_simp
 refine tk 2 hS3 ?_
 go_simp
 refine tk 3 hS3 ?_
 go_simp
 refine tk 5 hS3 ?_
 go_simp
 refine tv 6 (.agg #[.string d.id, .int .i64 d.est, .int .i64 d.cred, .string d.code, .bool (rneg d.amt), .string (rnum d.amt), .string (rden d.amt), .int .i64 d.inc, .int .i64 d.rank, .bool (rneg d.rate), .string (rnum d.rate), .string (rden d.rate), .int .i64 d.frm, .int .i64 d.sec]) rfl (by intro w' hw'; have v7 := blk_at (j := 7) hw'.1 rfl; have v8 := blk_at (j := 8) hw'.1 rfl; have v9 := blk_at (j := 9) hw'.1 rfl; have v10 := blk_at (j := 10) hw'.1 rfl; have v11 := blk_at (j := 11) hw'.1 rfl; have v12 := blk_at (j := 12) hw'.1 rfl; have v13 := blk_at (j := 13) hw'.1 rfl; have v14 := blk_at (j := 14) hw'.1 rfl; have v15 := blk_at (j := 15) hw'.1 rfl; have v16 := blk_at (j := 16) hw'.1 rfl; have v17 := blk_at (j := 17) hw'.1 rfl; have v18 := blk_at (j := 18) hw'.1 rfl; have v19 := blk_at (j := 19) hw'.1 rfl; have v20 := blk_at (j := 20) hw'.1 rfl; go_simp) hS3 ?_
 go_simp
 refine tk 7 hS3 ?_
 go_simp
 refine tv 8 (.int .i64 day) rfl (by intro w' hw'; have v1 := blk_at (j := 1) hw'.1 rfl; go_simp) hS3 ?_
 go_simp
 refine tk 9 hS3 ?_
 go_simp
 refine tk 10 hS3 ?_
 go_simp
 refine tk 11 hS3 ?_
 go_simp
 refine tv 14 (.agg #[.bool (rneg v), .string (rnum v), .string (rden v)]) rfl (by intro w' hw'; obtain ⟨k0, k1, k2, fk0, fk1, fk2, hzk⟩ := three_of hw'.2; go_simp) hS3 ?_
 go_simp
 refine tv 15 (.agg #[.bool (rneg v), .string (rnum v), .string (rden v)]) rfl (by intro w' hw'; obtain ⟨k0, k1, k2, fk0, fk1, fk2, hzk⟩ := three_of hw'.2; go_simp) hS3 ?_
 go_simp
 refine tk 16 hS3 ?_
 go_simp
 refine tk 17 hS3 ?_
 go_simp
 refine tv 18 (.int .i64 d.inc) rfl (by intro w' hw'; have v14 := blk_at (j := 14) hw'.1 rfl; go_simp) hS3 ?_
 go_simp
 refine tk 19 hS3 ?_
 go_simp
 refine tv 20 (.int .i64 day) rfl (by intro w' hw'; have v1 := blk_at (j := 1) hw'.1 rfl; go_simp) hS3 ?_
 go_simp
 refine wpAnyH_ready (rs := [4, 12]) (by kernel_rfl) (by simp) ?_
 refine AllReadyH.cons rfl (fun K hK => ?_) (AllReadyH.cons rfl (fun K hK => ?_) AllReadyH.nil)
 ·
  obtain ⟨k0, k1, k2, k3, _, _, _, _, _⟩ := four_of HR103.out
  go_simp
  clear k0 k1 k2 k3
  have hS4 := And.intro HV103.out HQ103.out
  refine hK.out _ _ hS4 (fun _ => ?_)
  clear hK K
  refine tr 12 (fun K hK => ?_)
  obtain ⟨k0, k1, k2, k3, _, _, _, _, _⟩ := four_of HR103.out
  go_simp
  clear k0 k1 k2 k3
  have hS5 := And.intro HV103.out HQ103.out
  refine hK.out _ _ hS5 (fun _ => ?_)
  clear hK K
  refine tk 13 hS5 ?_
  go_simp
  refine tk 21 hS5 ?_
  go_simp
  refine tr 22 (fun K hK => ?_)
  go_simp
  obtain ⟨ge, hg_ge⟩ : ∃ g, g = w103.heap.size := ⟨_, rfl⟩
  obtain ⟨w104, hw_w104⟩ : ∃ W, W = w103.alloc (.cells #[.string d.id, .int .i64 d.est, .int .i64 d.cred, .string d.code, .bool (rneg d.amt), .string (rnum d.amt), .string (rden d.amt), .int .i64 d.inc, .int .i64 d.rank, .bool (rneg d.rate), .string (rnum d.rate), .string (rden d.rate), .int .i64 d.frm, .int .i64 d.sec, .int .i64 1, .bool false, .bool (rneg v), .string (rnum v), .string (rden v), .bool false, .string ⟨#[]⟩, .string ⟨#[]⟩, .bool false, .string ⟨#[]⟩, .string ⟨#[]⟩, .bool (rneg v), .string (rnum v), .string (rden v), .int .i64 d.inc, .int .i64 day] 67) := ⟨_, rfl⟩
  have HL_ge := Lib.hid (And.intro (by have := HO103.out.size; omega : w.heap.size ≤ ge) (And.intro (by have := blk_lt HV103.out; omega : ga < ge) (by have := blk_lt HR103.out; omega : rb < ge)))
  have HV104 := bka HV103 hw_w104
  have HR104 := bka HR103 hw_w104
  have HE104 : Hid (EnR B A n c es w104) := by rw [hw_w104]; exact HE103.out.next (bel_alloc _ _)
  have HQ104 := bka HQ103 hw_w104
  have HB104 : Hid (Below B w w104) := by rw [hw_w104]; exact HB103.out.trans ((bel_alloc _ _).mono (Nat.le_trans HBw.out HB103.out.size))
  have HO104 : Hid (OffE rb w w104) := by rw [hw_w104]; exact HO103.out.next (bel_alloc _ _)
  have HN104 : Hid (Bk ge (.cells #[.string d.id, .int .i64 d.est, .int .i64 d.cred, .string d.code, .bool (rneg d.amt), .string (rnum d.amt), .string (rden d.amt), .int .i64 d.inc, .int .i64 d.rank, .bool (rneg d.rate), .string (rnum d.rate), .string (rden d.rate), .int .i64 d.frm, .int .i64 d.sec, .int .i64 1, .bool false, .bool (rneg v), .string (rnum v), .string (rden v), .bool false, .string ⟨#[]⟩, .string ⟨#[]⟩, .bool false, .string ⟨#[]⟩, .string ⟨#[]⟩, .bool (rneg v), .string (rnum v), .string (rden v), .int .i64 d.inc, .int .i64 day] 67) w104) := by rw [hw_w104, hg_ge]; exact blk_new _ _
  rw [← hw_w104]
  (try rw [← hg_ge])
  clear hw_w104 hg_ge HV103 HR103 HE103 HQ103 HB103 HO103
  have hS6 := And.intro HV104.out HQ104.out
  refine hK.out _ _ hS6 (fun _ => ?_)
  clear hK K
  refine tr 23 (fun K hK => ?_)
  refine step_append_lies _ rfl (.tmp 46) (.tmp 64) 55 rfl B 67 iq _ 30 352 Tryz.underlying55 HIQ.out.1 HIQ.out.2.1 HIQ.out.2.2.1 HIQ.out.2.2.2 rfl (by decide) (.slice A n c) n (es.flatMap En.cells) (by simp [Act.eval, Act.put]) HE104.out ⟨ge, 0, none⟩ 1 1 [.string d.id, .int .i64 d.est, .int .i64 d.cred, .string d.code, .bool (rneg d.amt), .string (rnum d.amt), .string (rden d.amt), .int .i64 d.inc, .int .i64 d.rank, .bool (rneg d.rate), .string (rnum d.rate), .string (rden d.rate), .int .i64 d.frm, .int .i64 d.sec, .int .i64 1, .bool false, .bool (rneg v), .string (rnum v), .string (rden v), .bool false, .string ⟨#[]⟩, .string ⟨#[]⟩, .bool false, .string ⟨#[]⟩, .string ⟨#[]⟩, .bool (rneg v), .string (rnum v), .string (rden v), .int .i64 d.inc, .int .i64 day] (by simp [Act.eval, Act.put]) rfl (World.news_of_block HN104.out) (by simp [Value.oneCell']) (by decide) (by have := HN.out.2; simp only [maxLen]; omega) (by have := HN.out.2; omega) (Nat.le_trans HBw.out HB104.out.size) _ rfl ?_
  intro g' cap wp hown hgr hor hlt
  have HVp : Hid (Bk ga (.cells #[.int .i64 1, .int .i64 day, .string ⟨#[]⟩, .bool false, .string ⟨#[]⟩, .string ⟨#[]⟩, .int .i64 0, .string d.id, .int .i64 d.est, .int .i64 d.cred, .string d.code, .bool (rneg d.amt), .string (rnum d.amt), .string (rden d.amt), .int .i64 d.inc, .int .i64 d.rank, .bool (rneg d.rate), .string (rnum d.rate), .string (rden d.rate), .int .i64 d.frm, .int .i64 d.sec] 65) wp) := blk_grownT HE104.out HV104.out (by decide) hgr
  have HRp : Hid (Bk rb (.cells #[.int .i64 100, .int .i64 200, .int .i64 day0, .slice A n c] 57) wp) := blk_grownT HE104.out HR104.out (by decide) hgr
  have HQp : Hid (Bk gq (.cells #[.bool (rneg v), .string (rnum v), .string (rden v)] 33) wp) := blk_grownT HE104.out HQ104.out (by decide) hgr
  have HBp : Hid (Below B w wp) := HB104.out.grown hgr (Nat.le_trans HBw.out HB104.out.size) (fun j hj => (HE104.out.lt j hj).1)
  have HOp : Hid (OffE rb w wp) := HO104.out.grown HE104.out hgr
  have HEp : Hid (EnR B (some ⟨g', 0, none⟩) (n + 1) cap (es ++ [filed d day]) wp) := by
   rw [HFD.out]
   unfold EnR
   rw [List.flatMap_append, show [(⟨d, 1, false, v, 0, 0, v, d.inc, day⟩ : En)].flatMap En.cells = [.string d.id, .int .i64 d.est, .int .i64 d.cred, .string d.code, .bool (rneg d.amt), .string (rnum d.amt), .string (rden d.amt), .int .i64 d.inc, .int .i64 d.rank, .bool (rneg d.rate), .string (rnum d.rate), .string (rden d.rate), .int .i64 d.frm, .int .i64 d.sec, .int .i64 1, .bool false, .bool (rneg v), .string (rnum v), .string (rden v), .bool false, .string ⟨#[]⟩, .string ⟨#[]⟩, .bool false, .string ⟨#[]⟩, .string ⟨#[]⟩, .bool (rneg v), .string (rnum v), .string (rden v), .int .i64 d.inc, .int .i64 day] by show (En.cells _) ++ [] = _; rw [List.append_nil]; unfold En.cells; dsimp only; rw [rneg_zero, rnum_zero, rden_zero]]
   exact hown
  clear hown hgr hor hlt HV104 HR104 HE104 HQ104 HB104 HO104 HN104
  have hS7 := And.intro HVp.out HQp.out
  refine hK.out _ _ hS7 (fun _ => ?_)
  clear hK K
  refine tk 24 hS7 ?_
  go_simp
  refine tk 25 hS7 ?_
  go_simp
  refine tr 26 (fun K hK => ?_)
  obtain ⟨k0, k1, k2, k3, f0, f1, f2, f3, fz⟩ := four_of HRp.out
  go_simp
  clear k0 k1 k2 k3 f0 f1 f2 f3 fz
  obtain ⟨wz, hwz⟩ : ∃ W, W = wp.setCell ⟨rb, 3, none⟩ (.slice (some ⟨g', 0, none⟩) (n + 1) cap) := ⟨_, rfl⟩
  have ho : Only rb wp wz := by rw [hwz]; exact (Only.refl _ _).setC _ _
  have HRz : Hid (Bk rb (.cells #[.int .i64 100, .int .i64 200, .int .i64 day0, .slice (some ⟨g', 0, none⟩) (n + 1) cap] 57) wz) := by rw [hwz]; exact heap_setCell_same _ rb 3 _ _ _ HRp.out
  have HVz := bko HVp ho (by have := HL_a.out; omega)
  have HQz := bko HQp ho (by have := HL_q.out; omega)
  have HEz : Hid (EnR B (some ⟨g', 0, none⟩) (n + 1) cap (es ++ [filed d day]) wz) := own_onlyT HEp.out ho HRp.out (by decide)
  have HBz : Hid (Below B w wz) := HBp.out.trans (ho.at_ _ (Nat.le_trans HBw.out HBp.out.size) HBR.out)
  have HOz : Hid (OffE rb w wz) := HOp.out.self ho
  rw [← hwz]
  clear hwz ho HRp HVp HQp HEp HBp HOp
  have hS8 := And.intro HVz.out HQz.out
  refine hK.out _ _ hS8 (fun _ => ?_)
  clear hK K
  refine wpAnyH_done (by kernel_rfl) ?_ _
  (try go_wp2_with fail)
  go_ret
  exact ⟨_, _, rfl, HRz.out, HEz.out, HBz.out, HOz.out⟩
 ·
  obtain ⟨k0, k1, k2, k3, _, _, _, _, _⟩ := four_of HR103.out
  go_simp
  clear k0 k1 k2 k3
  have hS4 := And.intro HV103.out HQ103.out
  refine hK.out _ _ hS4 (fun _ => ?_)
  clear hK K
  refine tk 13 hS4 ?_
  go_simp
  refine tk 21 hS4 ?_
  go_simp
  refine wpAnyH_ready (rs := [4, 22]) (by kernel_rfl) (by simp) ?_
  refine AllReadyH.cons rfl (fun K hK => ?_) (AllReadyH.cons rfl (fun K hK => ?_) AllReadyH.nil)
  ·
   obtain ⟨k0, k1, k2, k3, _, _, _, _, _⟩ := four_of HR103.out
   go_simp
   clear k0 k1 k2 k3
   have hS5 := And.intro HV103.out HQ103.out
   refine hK.out _ _ hS5 (fun _ => ?_)
   clear hK K
   refine tr 22 (fun K hK => ?_)
   go_simp
   obtain ⟨ge, hg_ge⟩ : ∃ g, g = w103.heap.size := ⟨_, rfl⟩
   obtain ⟨w104, hw_w104⟩ : ∃ W, W = w103.alloc (.cells #[.string d.id, .int .i64 d.est, .int .i64 d.cred, .string d.code, .bool (rneg d.amt), .string (rnum d.amt), .string (rden d.amt), .int .i64 d.inc, .int .i64 d.rank, .bool (rneg d.rate), .string (rnum d.rate), .string (rden d.rate), .int .i64 d.frm, .int .i64 d.sec, .int .i64 1, .bool false, .bool (rneg v), .string (rnum v), .string (rden v), .bool false, .string ⟨#[]⟩, .string ⟨#[]⟩, .bool false, .string ⟨#[]⟩, .string ⟨#[]⟩, .bool (rneg v), .string (rnum v), .string (rden v), .int .i64 d.inc, .int .i64 day] 67) := ⟨_, rfl⟩
   have HL_ge := Lib.hid (And.intro (by have := HO103.out.size; omega : w.heap.size ≤ ge) (And.intro (by have := blk_lt HV103.out; omega : ga < ge) (by have := blk_lt HR103.out; omega : rb < ge)))
   have HV104 := bka HV103 hw_w104
   have HR104 := bka HR103 hw_w104
   have HE104 : Hid (EnR B A n c es w104) := by rw [hw_w104]; exact HE103.out.next (bel_alloc _ _)
   have HQ104 := bka HQ103 hw_w104
   have HB104 : Hid (Below B w w104) := by rw [hw_w104]; exact HB103.out.trans ((bel_alloc _ _).mono (Nat.le_trans HBw.out HB103.out.size))
   have HO104 : Hid (OffE rb w w104) := by rw [hw_w104]; exact HO103.out.next (bel_alloc _ _)
   have HN104 : Hid (Bk ge (.cells #[.string d.id, .int .i64 d.est, .int .i64 d.cred, .string d.code, .bool (rneg d.amt), .string (rnum d.amt), .string (rden d.amt), .int .i64 d.inc, .int .i64 d.rank, .bool (rneg d.rate), .string (rnum d.rate), .string (rden d.rate), .int .i64 d.frm, .int .i64 d.sec, .int .i64 1, .bool false, .bool (rneg v), .string (rnum v), .string (rden v), .bool false, .string ⟨#[]⟩, .string ⟨#[]⟩, .bool false, .string ⟨#[]⟩, .string ⟨#[]⟩, .bool (rneg v), .string (rnum v), .string (rden v), .int .i64 d.inc, .int .i64 day] 67) w104) := by rw [hw_w104, hg_ge]; exact blk_new _ _
   rw [← hw_w104]
   (try rw [← hg_ge])
   clear hw_w104 hg_ge HV103 HR103 HE103 HQ103 HB103 HO103
   have hS6 := And.intro HV104.out HQ104.out
   refine hK.out _ _ hS6 (fun _ => ?_)
   clear hK K
   refine tr 23 (fun K hK => ?_)
   refine step_append_lies _ rfl (.tmp 46) (.tmp 64) 55 rfl B 67 iq _ 30 352 Tryz.underlying55 HIQ.out.1 HIQ.out.2.1 HIQ.out.2.2.1 HIQ.out.2.2.2 rfl (by decide) (.slice A n c) n (es.flatMap En.cells) (by simp [Act.eval, Act.put]) HE104.out ⟨ge, 0, none⟩ 1 1 [.string d.id, .int .i64 d.est, .int .i64 d.cred, .string d.code, .bool (rneg d.amt), .string (rnum d.amt), .string (rden d.amt), .int .i64 d.inc, .int .i64 d.rank, .bool (rneg d.rate), .string (rnum d.rate), .string (rden d.rate), .int .i64 d.frm, .int .i64 d.sec, .int .i64 1, .bool false, .bool (rneg v), .string (rnum v), .string (rden v), .bool false, .string ⟨#[]⟩, .string ⟨#[]⟩, .bool false, .string ⟨#[]⟩, .string ⟨#[]⟩, .bool (rneg v), .string (rnum v), .string (rden v), .int .i64 d.inc, .int .i64 day] (by simp [Act.eval, Act.put]) rfl (World.news_of_block HN104.out) (by simp [Value.oneCell']) (by decide) (by have := HN.out.2; simp only [maxLen]; omega) (by have := HN.out.2; omega) (Nat.le_trans HBw.out HB104.out.size) _ rfl ?_
   intro g' cap wp hown hgr hor hlt
   have HVp : Hid (Bk ga (.cells #[.int .i64 1, .int .i64 day, .string ⟨#[]⟩, .bool false, .string ⟨#[]⟩, .string ⟨#[]⟩, .int .i64 0, .string d.id, .int .i64 d.est, .int .i64 d.cred, .string d.code, .bool (rneg d.amt), .string (rnum d.amt), .string (rden d.amt), .int .i64 d.inc, .int .i64 d.rank, .bool (rneg d.rate), .string (rnum d.rate), .string (rden d.rate), .int .i64 d.frm, .int .i64 d.sec] 65) wp) := blk_grownT HE104.out HV104.out (by decide) hgr
   have HRp : Hid (Bk rb (.cells #[.int .i64 100, .int .i64 200, .int .i64 day0, .slice A n c] 57) wp) := blk_grownT HE104.out HR104.out (by decide) hgr
   have HQp : Hid (Bk gq (.cells #[.bool (rneg v), .string (rnum v), .string (rden v)] 33) wp) := blk_grownT HE104.out HQ104.out (by decide) hgr
   have HBp : Hid (Below B w wp) := HB104.out.grown hgr (Nat.le_trans HBw.out HB104.out.size) (fun j hj => (HE104.out.lt j hj).1)
   have HOp : Hid (OffE rb w wp) := HO104.out.grown HE104.out hgr
   have HEp : Hid (EnR B (some ⟨g', 0, none⟩) (n + 1) cap (es ++ [filed d day]) wp) := by
    rw [HFD.out]
    unfold EnR
    rw [List.flatMap_append, show [(⟨d, 1, false, v, 0, 0, v, d.inc, day⟩ : En)].flatMap En.cells = [.string d.id, .int .i64 d.est, .int .i64 d.cred, .string d.code, .bool (rneg d.amt), .string (rnum d.amt), .string (rden d.amt), .int .i64 d.inc, .int .i64 d.rank, .bool (rneg d.rate), .string (rnum d.rate), .string (rden d.rate), .int .i64 d.frm, .int .i64 d.sec, .int .i64 1, .bool false, .bool (rneg v), .string (rnum v), .string (rden v), .bool false, .string ⟨#[]⟩, .string ⟨#[]⟩, .bool false, .string ⟨#[]⟩, .string ⟨#[]⟩, .bool (rneg v), .string (rnum v), .string (rden v), .int .i64 d.inc, .int .i64 day] by show (En.cells _) ++ [] = _; rw [List.append_nil]; unfold En.cells; dsimp only; rw [rneg_zero, rnum_zero, rden_zero]]
    exact hown
   clear hown hgr hor hlt HV104 HR104 HE104 HQ104 HB104 HO104 HN104
   have hS7 := And.intro HVp.out HQp.out
   refine hK.out _ _ hS7 (fun _ => ?_)
   clear hK K
   refine tk 24 hS7 ?_
   go_simp
   refine tk 25 hS7 ?_
   go_simp
   refine tr 26 (fun K hK => ?_)
   obtain ⟨k0, k1, k2, k3, f0, f1, f2, f3, fz⟩ := four_of HRp.out
   go_simp
   clear k0 k1 k2 k3 f0 f1 f2 f3 fz
   obtain ⟨wz, hwz⟩ : ∃ W, W = wp.setCell ⟨rb, 3, none⟩ (.slice (some ⟨g', 0, none⟩) (n + 1) cap) := ⟨_, rfl⟩
   have ho : Only rb wp wz := by rw [hwz]; exact (Only.refl _ _).setC _ _
   have HRz : Hid (Bk rb (.cells #[.int .i64 100, .int .i64 200, .int .i64 day0, .slice (some ⟨g', 0, none⟩) (n + 1) cap] 57) wz) := by rw [hwz]; exact heap_setCell_same _ rb 3 _ _ _ HRp.out
   have HVz := bko HVp ho (by have := HL_a.out; omega)
   have HQz := bko HQp ho (by have := HL_q.out; omega)
   have HEz : Hid (EnR B (some ⟨g', 0, none⟩) (n + 1) cap (es ++ [filed d day]) wz) := own_onlyT HEp.out ho HRp.out (by decide)
   have HBz : Hid (Below B w wz) := HBp.out.trans (ho.at_ _ (Nat.le_trans HBw.out HBp.out.size) HBR.out)
   have HOz : Hid (OffE rb w wz) := HOp.out.self ho
   rw [← hwz]
   clear hwz ho HRp HVp HQp HEp HBp HOp
   have hS8 := And.intro HVz.out HQz.out
   refine hK.out _ _ hS8 (fun _ => ?_)
   clear hK K
   refine wpAnyH_done (by kernel_rfl) ?_ _
   (try go_wp2_with fail)
   go_ret
   exact ⟨_, _, rfl, HRz.out, HEz.out, HBz.out, HOz.out⟩
  ·
   go_simp
   obtain ⟨ge, hg_ge⟩ : ∃ g, g = w103.heap.size := ⟨_, rfl⟩
   obtain ⟨w104, hw_w104⟩ : ∃ W, W = w103.alloc (.cells #[.string d.id, .int .i64 d.est, .int .i64 d.cred, .string d.code, .bool (rneg d.amt), .string (rnum d.amt), .string (rden d.amt), .int .i64 d.inc, .int .i64 d.rank, .bool (rneg d.rate), .string (rnum d.rate), .string (rden d.rate), .int .i64 d.frm, .int .i64 d.sec, .int .i64 1, .bool false, .bool (rneg v), .string (rnum v), .string (rden v), .bool false, .string ⟨#[]⟩, .string ⟨#[]⟩, .bool false, .string ⟨#[]⟩, .string ⟨#[]⟩, .bool (rneg v), .string (rnum v), .string (rden v), .int .i64 d.inc, .int .i64 day] 67) := ⟨_, rfl⟩
   have HL_ge := Lib.hid (And.intro (by have := HO103.out.size; omega : w.heap.size ≤ ge) (And.intro (by have := blk_lt HV103.out; omega : ga < ge) (by have := blk_lt HR103.out; omega : rb < ge)))
   have HV104 := bka HV103 hw_w104
   have HR104 := bka HR103 hw_w104
   have HE104 : Hid (EnR B A n c es w104) := by rw [hw_w104]; exact HE103.out.next (bel_alloc _ _)
   have HQ104 := bka HQ103 hw_w104
   have HB104 : Hid (Below B w w104) := by rw [hw_w104]; exact HB103.out.trans ((bel_alloc _ _).mono (Nat.le_trans HBw.out HB103.out.size))
   have HO104 : Hid (OffE rb w w104) := by rw [hw_w104]; exact HO103.out.next (bel_alloc _ _)
   have HN104 : Hid (Bk ge (.cells #[.string d.id, .int .i64 d.est, .int .i64 d.cred, .string d.code, .bool (rneg d.amt), .string (rnum d.amt), .string (rden d.amt), .int .i64 d.inc, .int .i64 d.rank, .bool (rneg d.rate), .string (rnum d.rate), .string (rden d.rate), .int .i64 d.frm, .int .i64 d.sec, .int .i64 1, .bool false, .bool (rneg v), .string (rnum v), .string (rden v), .bool false, .string ⟨#[]⟩, .string ⟨#[]⟩, .bool false, .string ⟨#[]⟩, .string ⟨#[]⟩, .bool (rneg v), .string (rnum v), .string (rden v), .int .i64 d.inc, .int .i64 day] 67) w104) := by rw [hw_w104, hg_ge]; exact blk_new _ _
   rw [← hw_w104]
   (try rw [← hg_ge])
   clear hw_w104 hg_ge HV103 HR103 HE103 HQ103 HB103 HO103
   have hS5 := And.intro HV104.out HQ104.out
   refine hK.out _ _ hS5 (fun _ => ?_)
   clear hK K
   refine tr 4 (fun K hK => ?_)
   obtain ⟨k0, k1, k2, k3, _, _, _, _, _⟩ := four_of HR104.out
   go_simp
   clear k0 k1 k2 k3
   have hS6 := And.intro HV104.out HQ104.out
   refine hK.out _ _ hS6 (fun _ => ?_)
   clear hK K
   refine tr 23 (fun K hK => ?_)
   refine step_append_lies _ rfl (.tmp 46) (.tmp 64) 55 rfl B 67 iq _ 30 352 Tryz.underlying55 HIQ.out.1 HIQ.out.2.1 HIQ.out.2.2.1 HIQ.out.2.2.2 rfl (by decide) (.slice A n c) n (es.flatMap En.cells) (by simp [Act.eval, Act.put]) HE104.out ⟨ge, 0, none⟩ 1 1 [.string d.id, .int .i64 d.est, .int .i64 d.cred, .string d.code, .bool (rneg d.amt), .string (rnum d.amt), .string (rden d.amt), .int .i64 d.inc, .int .i64 d.rank, .bool (rneg d.rate), .string (rnum d.rate), .string (rden d.rate), .int .i64 d.frm, .int .i64 d.sec, .int .i64 1, .bool false, .bool (rneg v), .string (rnum v), .string (rden v), .bool false, .string ⟨#[]⟩, .string ⟨#[]⟩, .bool false, .string ⟨#[]⟩, .string ⟨#[]⟩, .bool (rneg v), .string (rnum v), .string (rden v), .int .i64 d.inc, .int .i64 day] (by simp [Act.eval, Act.put]) rfl (World.news_of_block HN104.out) (by simp [Value.oneCell']) (by decide) (by have := HN.out.2; simp only [maxLen]; omega) (by have := HN.out.2; omega) (Nat.le_trans HBw.out HB104.out.size) _ rfl ?_
   intro g' cap wp hown hgr hor hlt
   have HVp : Hid (Bk ga (.cells #[.int .i64 1, .int .i64 day, .string ⟨#[]⟩, .bool false, .string ⟨#[]⟩, .string ⟨#[]⟩, .int .i64 0, .string d.id, .int .i64 d.est, .int .i64 d.cred, .string d.code, .bool (rneg d.amt), .string (rnum d.amt), .string (rden d.amt), .int .i64 d.inc, .int .i64 d.rank, .bool (rneg d.rate), .string (rnum d.rate), .string (rden d.rate), .int .i64 d.frm, .int .i64 d.sec] 65) wp) := blk_grownT HE104.out HV104.out (by decide) hgr
   have HRp : Hid (Bk rb (.cells #[.int .i64 100, .int .i64 200, .int .i64 day0, .slice A n c] 57) wp) := blk_grownT HE104.out HR104.out (by decide) hgr
   have HQp : Hid (Bk gq (.cells #[.bool (rneg v), .string (rnum v), .string (rden v)] 33) wp) := blk_grownT HE104.out HQ104.out (by decide) hgr
   have HBp : Hid (Below B w wp) := HB104.out.grown hgr (Nat.le_trans HBw.out HB104.out.size) (fun j hj => (HE104.out.lt j hj).1)
   have HOp : Hid (OffE rb w wp) := HO104.out.grown HE104.out hgr
   have HEp : Hid (EnR B (some ⟨g', 0, none⟩) (n + 1) cap (es ++ [filed d day]) wp) := by
    rw [HFD.out]
    unfold EnR
    rw [List.flatMap_append, show [(⟨d, 1, false, v, 0, 0, v, d.inc, day⟩ : En)].flatMap En.cells = [.string d.id, .int .i64 d.est, .int .i64 d.cred, .string d.code, .bool (rneg d.amt), .string (rnum d.amt), .string (rden d.amt), .int .i64 d.inc, .int .i64 d.rank, .bool (rneg d.rate), .string (rnum d.rate), .string (rden d.rate), .int .i64 d.frm, .int .i64 d.sec, .int .i64 1, .bool false, .bool (rneg v), .string (rnum v), .string (rden v), .bool false, .string ⟨#[]⟩, .string ⟨#[]⟩, .bool false, .string ⟨#[]⟩, .string ⟨#[]⟩, .bool (rneg v), .string (rnum v), .string (rden v), .int .i64 d.inc, .int .i64 day] by show (En.cells _) ++ [] = _; rw [List.append_nil]; unfold En.cells; dsimp only; rw [rneg_zero, rnum_zero, rden_zero]]
    exact hown
   clear hown hgr hor hlt HV104 HR104 HE104 HQ104 HB104 HO104 HN104
   have hS7 := And.intro HVp.out HQp.out
   refine hK.out _ _ hS7 (fun _ => ?_)
   clear hK K
   refine tk 24 hS7 ?_
   go_simp
   refine tk 25 hS7 ?_
   go_simp
   refine tr 26 (fun K hK => ?_)
   obtain ⟨k0, k1, k2, k3, f0, f1, f2, f3, fz⟩ := four_of HRp.out
   go_simp
   clear k0 k1 k2 k3 f0 f1 f2 f3 fz
   obtain ⟨wz, hwz⟩ : ∃ W, W = wp.setCell ⟨rb, 3, none⟩ (.slice (some ⟨g', 0, none⟩) (n + 1) cap) := ⟨_, rfl⟩
   have ho : Only rb wp wz := by rw [hwz]; exact (Only.refl _ _).setC _ _
   have HRz : Hid (Bk rb (.cells #[.int .i64 100, .int .i64 200, .int .i64 day0, .slice (some ⟨g', 0, none⟩) (n + 1) cap] 57) wz) := by rw [hwz]; exact heap_setCell_same _ rb 3 _ _ _ HRp.out
   have HVz := bko HVp ho (by have := HL_a.out; omega)
   have HQz := bko HQp ho (by have := HL_q.out; omega)
   have HEz : Hid (EnR B (some ⟨g', 0, none⟩) (n + 1) cap (es ++ [filed d day]) wz) := own_onlyT HEp.out ho HRp.out (by decide)
   have HBz : Hid (Below B w wz) := HBp.out.trans (ho.at_ _ (Nat.le_trans HBw.out HBp.out.size) HBR.out)
   have HOz : Hid (OffE rb w wz) := HOp.out.self ho
   rw [← hwz]
   clear hwz ho HRp HVp HQp HEp HBp HOp
   have hS8 := And.intro HVz.out HQz.out
   refine hK.out _ _ hS8 (fun _ => ?_)
   clear hK K
   refine wpAnyH_done (by kernel_rfl) ?_ _
   (try go_wp2_with fail)
   go_ret
   exact ⟨_, _, rfl, HRz.out, HEz.out, HBz.out, HOz.out⟩
def APost (day : Int) (n : Nat) (es : List En) (w : World) (e : Ending) (w' : World) : Prop := ∃ A c, e = .returned (.tuple #[regV 100 200 day A n c, .int .i64 0]) ∧ EnR w.heap.size A n c es w' ∧ Below w.heap.size w w'
theorem flat_mid {es : List En} {k : Nat} {x : En} (h : es[k]? = some x) (y : En) : (es.set k y).flatMap En.cells = (es.take k).flatMap En.cells ++ (y.cells ++ (es.drop (k + 1)).flatMap En.cells) := by
 have hk := (List.getElem?_eq_some_iff.1 h).1
 rw [List.set_eq_take_append_cons_drop, if_pos hk, List.flatMap_append, List.flatMap_cons]
theorem flat_mid0 {es : List En} {k : Nat} {x : En} (h : es[k]? = some x) : es.flatMap En.cells = (es.take k).flatMap En.cells ++ (x.cells ++ (es.drop (k + 1)).flatMap En.cells) := by
 have e := flat_mid h x
 obtain ⟨hk, hx⟩ := List.getElem?_eq_some_iff.1 h
 rw [← hx, List.set_getElem_self] at e
 rw [← hx]; exact e
theorem pre_len {es : List En} {k : Nat} {x : En} (h : es[k]? = some x) : ((es.take k).flatMap En.cells).length = k * 30 := by
 have hk := (List.getElem?_eq_some_iff.1 h).1
 rw [flat_len En.cells 30 En.len, List.length_take, Nat.min_eq_left (by omega)]
theorem EnE.ne {B C c n K : Nat} {pre post : List Value} {x : En} {W : World} (h : EnE B C c n K pre x post W) {g : Nat} {cur : Array Value} {T : TypeId} {f : Nat × Nat} (hg : W.heap[g]? = some (.cells cur T f)) (hT : T ≠ 67) : g ≠ C := by
 rcases h.own.2 with ⟨hn, _⟩ | ⟨q, cap, cur2, e, hb, hq, _⟩
 ·
  cases hn
 ·
  injection e with e
  injection e with e
  injection e with e
  subst e
  exact blk_ne hg hq hT
theorem applyF_calls (A : Option Addr) (n c : Nat) (day0 day : Int) (es : List En) (i : Nat) (d : Dc) (w : World) (hr : Rd w w.heap.size 30 A es.length (es.flatMap En.cells)) (hn : n = es.length) (hcn : A = none → c = 0) (h8 : n ≤ 8) (h0 : day0 ≤ day) (h1 : 0 ≤ day) (hday : day ≤ 200) (hd : DcD i d) (he : findE es d.id = es.length) :
 Calls Tryz.prog 19 #[regV 100 200 day0 A n c, .agg #[.int .i64 1, .int .i64 day, .string ⟨#[]⟩, .bool false, .string ⟨#[]⟩, .string ⟨#[]⟩, .int .i64 0, .string d.id, .int .i64 d.est, .int .i64 d.cred, .string d.code, .bool (rneg d.amt), .string (rnum d.amt), .string (rden d.amt), .int .i64 d.inc, .int .i64 d.rank, .bool (rneg d.rate), .string (rnum d.rate), .string (rden d.rate), .int .i64 d.frm, .int .i64 d.sec], .slice none 0 0] w (APost day (n + 1) (es ++ [filed d day]) w) := by
 have HFL := Lib.hid (fun rb A' c' W h1 h2 h3 => file_calls w.heap.size rb n c' A' day0 day es i d W h1 h2 h3 hn h8 hd hday he)
 unfold FilePost at HFL
 clear hd he
 obtain ⟨x, hx⟩ : ∃ x, x = filed d day := ⟨_, rfl⟩
 rw [← hx] at HFL ⊢
 clear hx
 have HCL := Lib.hid (fun W (h : Below w.heap.size w W) => cloneE_calls A n c es W hn (hr.next h) hcn (by omega))
 unfold OwnPost at HCL
 have HD := Lib.hid (fun W => registerDay_calls day W (by omega) (by omega))
 have HN := Lib.hid (And.intro hn h8)
 have dd0 : decide (day < day0) = false := decide_eq_false (by omega)
 clear hr hcn h0 h1 hday hn h8
 go_enter Tryz.func19, Tryz.ntmps19
 go_upto_region 1 with fail
 obtain ⟨gr, hg_gr⟩ : ∃ g, g = w.heap.size := ⟨_, rfl⟩
 obtain ⟨gv, hg_gv⟩ : ∃ g, g = w.heap.size + 1 := ⟨_, rfl⟩
 obtain ⟨gz, hg_gz⟩ : ∃ g, g = w.heap.size + 1 + 1 := ⟨_, rfl⟩
 obtain ⟨w0, hw_w0⟩ : ∃ W, W = (((w.alloc (.cells #[.int .i64 100, .int .i64 200, .int .i64 day0, .slice A n c] 57)).alloc (.cells #[.int .i64 1, .int .i64 day, .string ⟨#[]⟩, .bool false, .string ⟨#[]⟩, .string ⟨#[]⟩, .int .i64 0, .string d.id, .int .i64 d.est, .int .i64 d.cred, .string d.code, .bool (rneg d.amt), .string (rnum d.amt), .string (rden d.amt), .int .i64 d.inc, .int .i64 d.rank, .bool (rneg d.rate), .string (rnum d.rate), .string (rden d.rate), .int .i64 d.frm, .int .i64 d.sec] 65)).alloc (.cells #[.int .i64 0, .int .i64 0, .int .i64 0, .slice none 0 0] 57)) := ⟨_, rfl⟩
 have HR0 : Hid (Bk gr (.cells #[.int .i64 100, .int .i64 200, .int .i64 day0, .slice A n c] 57) w0) := by rw [hw_w0, hg_gr]; exact blk_alloc (blk_alloc (blk_new _ _))
 have HV0 : Hid (Bk gv (.cells #[.int .i64 1, .int .i64 day, .string ⟨#[]⟩, .bool false, .string ⟨#[]⟩, .string ⟨#[]⟩, .int .i64 0, .string d.id, .int .i64 d.est, .int .i64 d.cred, .string d.code, .bool (rneg d.amt), .string (rnum d.amt), .string (rden d.amt), .int .i64 d.inc, .int .i64 d.rank, .bool (rneg d.rate), .string (rnum d.rate), .string (rden d.rate), .int .i64 d.frm, .int .i64 d.sec] 65) w0) := by rw [hw_w0, hg_gv]; exact blk_alloc (blk_new1 _ _ _)
 have HZ0 : Hid (Bk gz (.cells #[.int .i64 0, .int .i64 0, .int .i64 0, .slice none 0 0] 57) w0) := by rw [hw_w0, hg_gz]; exact blk_new2 _ _ _ _
 have HB0 : Hid (Below w.heap.size w w0) := by rw [hw_w0]; exact ((bel_alloc _ _).alloc (by simp) _).alloc (by simp <;> omega) _
 have HL_0 := Lib.hid (And.intro (by omega : w.heap.size ≤ gr) (And.intro (by omega : gr < gv) ((by omega : gv < gz))))
 rw [← hw_w0]
 (try rw [← hg_gz]); (try rw [← hg_gv]); (try rw [← hg_gr])
 clear hw_w0 hg_gr hg_gv hg_gz
 have v0 := blk_at (j := 0) HV0.out rfl
 have v1 := blk_at (j := 1) HV0.out rfl
 obtain ⟨r0, r1, r2, r3, rf0, rf1, rf2, rf3, rz⟩ := four_of HR0.out
 go_wp2_with fail
 refine (HD.out _).mono ?_
 rintro e w0 ⟨rfl, rfl⟩
 go_wp2_with fail
 clear v0 v1
 clear r0 r1 r2 r3 rf0 rf1 rf2 rf3 rz
 refine (HCL.out _ HB0.out).mono ?_
 rintro e w1 ⟨A1, c1, rfl, hown, hb⟩
 have HR1 := bkn HR0 hb
 have HV1 := bkn HV0 hb
 have HZ1 := bkn HZ0 hb
 have HB1 := ben HB0 hb
 have HE1 : Hid (EnR w.heap.size A1 n c1 es w1) := own_mono hown HB0.out.size
 clear hown
 clear hb HR0 HV0 HZ0 HB0
 obtain ⟨r0, r1, r2, r3, rf0, rf1, rf2, rf3, rz⟩ := four_of HR1.out
 go_upto_region 6 with fail
 clear r0 r1 r2 r3 rf0 rf1 rf2 rf3 rz
 have HBLK := HR1
 obtain ⟨w2, hw_w2⟩ : ∃ W, W = (w1.setCell ⟨gr, 3, none⟩ (.slice A1 n c1)) := ⟨_, rfl⟩
 have ho : Only gr w1 w2 := by rw [hw_w2]; exact (Only.refl _ _).setC _ _
 have HV2 := bko HV1 ho (by have := HL_0.out; omega)
 have HZ2 := bko HZ1 ho (by have := HL_0.out; omega)
 have HB2 := beo HB1 ho (by have := HL_0.out; omega)
 have HE2 : Hid (EnR w.heap.size A1 n c1 es w2) := own_onlyT HE1.out ho HBLK.out (by decide)
 have HR2 : Hid (Bk gr (.cells #[.int .i64 100, .int .i64 200, .int .i64 day0, .slice A1 n c1] 57) w2) := by rw [hw_w2]; exact heap_setCell_same _ gr 3 _ _ (.slice A1 n c1) (HR1.out)
 rw [← hw_w2]
 clear hw_w2 ho HR1 HV1 HZ1 HB1 HE1
 clear HBLK
 have v0 := blk_at (j := 0) HV2.out rfl
 have HRA : Hid (w2.rangeAt gv 0 [.int .i64 1, .int .i64 day, .string ⟨#[]⟩, .bool false, .string ⟨#[]⟩, .string ⟨#[]⟩, .int .i64 0, .string d.id, .int .i64 d.est, .int .i64 d.cred, .string d.code, .bool (rneg d.amt), .string (rnum d.amt), .string (rden d.amt), .int .i64 d.inc, .int .i64 d.rank, .bool (rneg d.rate), .string (rnum d.rate), .string (rden d.rate), .int .i64 d.frm, .int .i64 d.sec]) := fun j v hv => by rw [Nat.zero_add]; exact blk_at HV2.out (by simpa using hv)
 go_wp2_with (refine wpList_load_mid rfl 65 (.tmp 4) rfl gv 0 rfl [.int .i64 1, .int .i64 day, .string ⟨#[]⟩, .bool false, .string ⟨#[]⟩, .string ⟨#[]⟩, .int .i64 0, .string d.id, .int .i64 d.est, .int .i64 d.cred, .string d.code, .bool (rneg d.amt), .string (rnum d.amt), .string (rden d.amt), .int .i64 d.inc, .int .i64 d.rank, .bool (rneg d.rate), .string (rnum d.rate), .string (rden d.rate), .int .i64 d.frm, .int .i64 d.sec] _ HRA.out Tryz.underlying65 rfl (by kernel_rfl) ?_)
 clear HRA v0
 refine (HFL.out gr A1 c1 _ HR2.out HE2.out (by have := HL_0.out; omega)).mono ?_
 rintro e w3 ⟨A2, c2, rfl, hr2, he2, hb2, ho2⟩
 have HR3 := Lib.hid hr2
 have HE3 := Lib.hid he2
 have HB3 : Hid (Below w.heap.size w w3) := HB2.out.trans (hb2.mono (Nat.le_refl _))
 have HV3 : Hid (Bk gv (.cells #[.int .i64 1, .int .i64 day, .string ⟨#[]⟩, .bool false, .string ⟨#[]⟩, .string ⟨#[]⟩, .int .i64 0, .string d.id, .int .i64 d.est, .int .i64 d.cred, .string d.code, .bool (rneg d.amt), .string (rnum d.amt), .string (rden d.amt), .int .i64 d.inc, .int .i64 d.rank, .bool (rneg d.rate), .string (rnum d.rate), .string (rden d.rate), .int .i64 d.frm, .int .i64 d.sec] 65) w3) := ho2.blk _ _ _ _ HV2.out (by have := HL_0.out; omega) (by decide)
 have HZ3 : Hid (Bk gz (.cells #[.int .i64 0, .int .i64 0, .int .i64 0, .slice none 0 0] 57) w3) := ho2.blk _ _ _ _ HZ2.out (by have := HL_0.out; omega) (by decide)
 clear hr2 he2 hb2 ho2 HR2 HE2 HB2 HV2 HZ2
 have v1 := blk_at (j := 1) HV3.out rfl
 obtain ⟨r0, r1, r2, r3, rf0, rf1, rf2, rf3, rz⟩ := four_of HR3.out
 go_upto_region 15 with fail
 clear v1
 clear r0 r1 r2 r3 rf0 rf1 rf2 rf3 rz
 have HBLK := HR3
 obtain ⟨w4, hw_w4⟩ : ∃ W, W = (w3.setCell ⟨gr, 2, none⟩ (.int .i64 day)) := ⟨_, rfl⟩
 have ho : Only gr w3 w4 := by rw [hw_w4]; exact (Only.refl _ _).setC _ _
 have HV4 := bko HV3 ho (by have := HL_0.out; omega)
 have HZ4 := bko HZ3 ho (by have := HL_0.out; omega)
 have HB4 := beo HB3 ho (by have := HL_0.out; omega)
 have HE4 : Hid (EnR w.heap.size A2 (n + 1) c2 (es ++ [x]) w4) := own_onlyT HE3.out ho HBLK.out (by decide)
 have HR4 : Hid (Bk gr (.cells #[.int .i64 100, .int .i64 200, .int .i64 day, .slice A2 (n + 1) c2] 57) w4) := by rw [hw_w4]; exact heap_setCell_same _ gr 2 _ _ (.int .i64 day) (HR3.out)
 rw [← hw_w4]
 clear hw_w4 ho HR3 HV3 HZ3 HB3 HE3
 clear HBLK
 obtain ⟨r0, r1, r2, r3, rf0, rf1, rf2, rf3, rz⟩ := four_of HR4.out
 obtain ⟨z0, z1, z2, z3, zf0, zf1, zf2, zf3, zz⟩ := four_of HZ4.out
 go_wp2_with fail
 clear r0 r1 r2 r3 rf0 rf1 rf2 rf3 rz
 clear z0 z1 z2 z3 zf0 zf1 zf2 zf3 zz
 have HBLK := HZ4
 obtain ⟨w5, hw_w5⟩ : ∃ W, W = ((((w4.setCell ⟨gz, 0, none⟩ (.int .i64 100)).setCell ⟨gz, 1, none⟩ (.int .i64 200)).setCell ⟨gz, 2, none⟩ (.int .i64 day)).setCell ⟨gz, 3, none⟩ (.slice A2 (n + 1) c2)) := ⟨_, rfl⟩
 have ho : Only gz w4 w5 := by rw [hw_w5]; exact ((((Only.refl _ _).setC _ _).setC _ _).setC _ _).setC _ _
 have HR5 := bko HR4 ho (by have := HL_0.out; omega)
 have HV5 := bko HV4 ho (by have := HL_0.out; omega)
 have HB5 := beo HB4 ho (by have := HL_0.out; omega)
 have HE5 : Hid (EnR w.heap.size A2 (n + 1) c2 (es ++ [x]) w5) := own_onlyT HE4.out ho HBLK.out (by decide)
 have HZ5 : Hid (Bk gz (.cells #[.int .i64 100, .int .i64 200, .int .i64 day, .slice A2 (n + 1) c2] 57) w5) := by rw [hw_w5]; exact heap_setCell_same _ gz 3 _ _ (.slice A2 (n + 1) c2) (heap_setCell_same _ gz 2 _ _ (.int .i64 day) (heap_setCell_same _ gz 1 _ _ (.int .i64 200) (heap_setCell_same _ gz 0 _ _ (.int .i64 100) (HZ4.out))))
 rw [← hw_w5]
 clear hw_w5 ho HZ4 HR4 HV4 HB4 HE4
 clear HBLK
 obtain ⟨z0, z1, z2, z3, zf0, zf1, zf2, zf3, zz⟩ := four_of HZ5.out
 exact bodyPost_ret (v := .tuple #[.agg #[.int .i64 100, .int .i64 200, .int .i64 day, .slice A2 (n + 1) c2], .int .i64 0]) (by simp [results, Tryz.results19, go_sem, z0, z1, z2, z3]) rfl ⟨_, _, rfl, HE5.out, HB5.out⟩

end Go.Proofs.YtjlicnhkemfmiaaGreatDoor

/- register.Apply: an entry is changed. -/
namespace Go.Proofs.YtjlicnhkemfmiaaGreatDoor
open Go.RowKit

theorem applyC_calls (A : Option Addr) (n c : Nat) (day0 day : Int) (es : List En) (kd : Int) (id : ByteArray) (q : Rat) (k : Nat) (x y : En) (w : World) (hr : Rd w w.heap.size 30 A es.length (es.flatMap En.cells)) (hn : n = es.length) (hcn : A = none → c = 0) (h8 : n ≤ 8) (h0 : day0 ≤ day) (h1 : 0 ≤ day) (hday : day ≤ 200) (hkd1 : 2 ≤ kd) (hkd2 : kd ≤ 9) (he : findE es id = k) (hk : es[k]? = some x)
 (hch : ∀ (C c1 : Nat) (W : World), EnE w.heap.size C c1 n (k * 30) ((es.take k).flatMap En.cells) x ((es.drop (k + 1)).flatMap En.cells) W → Calls Tryz.prog 50 #[.pointer (some ⟨C, k * 30, none⟩), .agg #[.int .i64 kd, .int .i64 day, .string id, .bool (rneg q), .string (rnum q), .string (rden q), .int .i64 0, .string ⟨#[]⟩, .int .i64 0, .int .i64 0, .string ⟨#[]⟩, .bool false, .string ⟨#[]⟩, .string ⟨#[]⟩, .int .i64 0, .int .i64 0, .bool false, .string ⟨#[]⟩, .string ⟨#[]⟩, .int .i64 0, .int .i64 0]] W fun e w' => e = .returned (.int .i64 0) ∧ EnE w.heap.size C c1 n (k * 30) ((es.take k).flatMap En.cells) y ((es.drop (k + 1)).flatMap En.cells) w' ∧ Only C W w') :
 Calls Tryz.prog 19 #[regV 100 200 day0 A n c, .agg #[.int .i64 kd, .int .i64 day, .string id, .bool (rneg q), .string (rnum q), .string (rden q), .int .i64 0, .string ⟨#[]⟩, .int .i64 0, .int .i64 0, .string ⟨#[]⟩, .bool false, .string ⟨#[]⟩, .string ⟨#[]⟩, .int .i64 0, .int .i64 0, .bool false, .string ⟨#[]⟩, .string ⟨#[]⟩, .int .i64 0, .int .i64 0], .slice none 0 0] w (APost day n (es.set k y) w) := by
 have HFN := Lib.hid (fun A' c' W (h : EnR w.heap.size A' n c' es W) => find_at 100 200 day0 A' n c' es id W hn (h.rd hn) (by unfold maxLen; omega) k he (by have := (List.getElem?_eq_some_iff.1 hk).1; exact this))
 have HKX := Lib.hid hk
 have HCH := Lib.hid hch
 have hkn : k < n := by rw [hn]; exact (List.getElem?_eq_some_iff.1 hk).1
 have hkn2 : (k : Int) < (n : Int) := by omega
 have dk1 : decide (kd < 1) = false := decide_eq_false (by omega)
 have dk2 : decide (9 < kd) = false := decide_eq_false (by omega)
 have dk3 : (kd == 1) = false := beq_eq_false_iff_ne.2 (by omega)
 clear he hk hch hkd1 hkd2
 have HCL := Lib.hid (fun W (h : Below w.heap.size w W) => cloneE_calls A n c es W hn (hr.next h) hcn (by omega))
 unfold OwnPost at HCL
 have HD := Lib.hid (fun W => registerDay_calls day W (by omega) (by omega))
 have HN := Lib.hid (And.intro hn h8)
 have dd0 : decide (day < day0) = false := decide_eq_false (by omega)
 clear hr hcn h0 h1 hday hn h8
 go_enter Tryz.func19, Tryz.ntmps19
 go_upto_region 1 with fail
 obtain ⟨gr, hg_gr⟩ : ∃ g, g = w.heap.size := ⟨_, rfl⟩
 obtain ⟨gv, hg_gv⟩ : ∃ g, g = w.heap.size + 1 := ⟨_, rfl⟩
 obtain ⟨gz, hg_gz⟩ : ∃ g, g = w.heap.size + 1 + 1 := ⟨_, rfl⟩
 obtain ⟨w0, hw_w0⟩ : ∃ W, W = (((w.alloc (.cells #[.int .i64 100, .int .i64 200, .int .i64 day0, .slice A n c] 57)).alloc (.cells #[.int .i64 kd, .int .i64 day, .string id, .bool (rneg q), .string (rnum q), .string (rden q), .int .i64 0, .string ⟨#[]⟩, .int .i64 0, .int .i64 0, .string ⟨#[]⟩, .bool false, .string ⟨#[]⟩, .string ⟨#[]⟩, .int .i64 0, .int .i64 0, .bool false, .string ⟨#[]⟩, .string ⟨#[]⟩, .int .i64 0, .int .i64 0] 65)).alloc (.cells #[.int .i64 0, .int .i64 0, .int .i64 0, .slice none 0 0] 57)) := ⟨_, rfl⟩
 have HR0 : Hid (Bk gr (.cells #[.int .i64 100, .int .i64 200, .int .i64 day0, .slice A n c] 57) w0) := by rw [hw_w0, hg_gr]; exact blk_alloc (blk_alloc (blk_new _ _))
 have HV0 : Hid (Bk gv (.cells #[.int .i64 kd, .int .i64 day, .string id, .bool (rneg q), .string (rnum q), .string (rden q), .int .i64 0, .string ⟨#[]⟩, .int .i64 0, .int .i64 0, .string ⟨#[]⟩, .bool false, .string ⟨#[]⟩, .string ⟨#[]⟩, .int .i64 0, .int .i64 0, .bool false, .string ⟨#[]⟩, .string ⟨#[]⟩, .int .i64 0, .int .i64 0] 65) w0) := by rw [hw_w0, hg_gv]; exact blk_alloc (blk_new1 _ _ _)
 have HZ0 : Hid (Bk gz (.cells #[.int .i64 0, .int .i64 0, .int .i64 0, .slice none 0 0] 57) w0) := by rw [hw_w0, hg_gz]; exact blk_new2 _ _ _ _
 have HB0 : Hid (Below w.heap.size w w0) := by rw [hw_w0]; exact ((bel_alloc _ _).alloc (by simp) _).alloc (by simp <;> omega) _
 have HL_0 := Lib.hid (And.intro (by omega : w.heap.size ≤ gr) (And.intro (by omega : gr < gv) ((by omega : gv < gz))))
 rw [← hw_w0]
 (try rw [← hg_gz]); (try rw [← hg_gv]); (try rw [← hg_gr])
 clear hw_w0 hg_gr hg_gv hg_gz
 have v0 := blk_at (j := 0) HV0.out rfl
 have v1 := blk_at (j := 1) HV0.out rfl
 obtain ⟨r0, r1, r2, r3, rf0, rf1, rf2, rf3, rz⟩ := four_of HR0.out
 go_wp2_with fail
 refine (HD.out _).mono ?_
 rintro e w0 ⟨rfl, rfl⟩
 go_wp2_with fail
 clear v0 v1
 clear r0 r1 r2 r3 rf0 rf1 rf2 rf3 rz
 refine (HCL.out _ HB0.out).mono ?_
 rintro e w1 ⟨A1, c1, rfl, hown, hb⟩
 have HR1 := bkn HR0 hb
 have HV1 := bkn HV0 hb
 have HZ1 := bkn HZ0 hb
 have HB1 := ben HB0 hb
 have HE1 : Hid (EnR w.heap.size A1 n c1 es w1) := own_mono hown HB0.out.size
 clear hown
 clear hb HR0 HV0 HZ0 HB0
 obtain ⟨r0, r1, r2, r3, rf0, rf1, rf2, rf3, rz⟩ := four_of HR1.out
 go_upto_region 6 with fail
 clear r0 r1 r2 r3 rf0 rf1 rf2 rf3 rz
 have HBLK := HR1
 obtain ⟨w2, hw_w2⟩ : ∃ W, W = (w1.setCell ⟨gr, 3, none⟩ (.slice A1 n c1)) := ⟨_, rfl⟩
 have ho : Only gr w1 w2 := by rw [hw_w2]; exact (Only.refl _ _).setC _ _
 have HV2 := bko HV1 ho (by have := HL_0.out; omega)
 have HZ2 := bko HZ1 ho (by have := HL_0.out; omega)
 have HB2 := beo HB1 ho (by have := HL_0.out; omega)
 have HE2 : Hid (EnR w.heap.size A1 n c1 es w2) := own_onlyT HE1.out ho HBLK.out (by decide)
 have HR2 : Hid (Bk gr (.cells #[.int .i64 100, .int .i64 200, .int .i64 day0, .slice A1 n c1] 57) w2) := by rw [hw_w2]; exact heap_setCell_same _ gr 3 _ _ (.slice A1 n c1) (HR1.out)
 rw [← hw_w2]
 clear hw_w2 ho HR1 HV1 HZ1 HB1 HE1
 clear HBLK
 have v0 := blk_at (j := 0) HV2.out rfl
 have v2 := blk_at (j := 2) HV2.out rfl
 obtain ⟨r0, r1, r2, r3, rf0, rf1, rf2, rf3, rz⟩ := four_of HR2.out
 go_wp2_with fail
 clear v0 v2
 clear r0 r1 r2 r3 rf0 rf1 rf2 rf3 rz
 refine (HFN.out A1 c1 _ HE2.out).mono ?_
 rintro e w3 ⟨rfl, hb⟩
 have HR3 := bkn HR2 hb
 have HV3 := bkn HV2 hb
 have HZ3 := bkn HZ2 hb
 have HB3 := ben HB2 hb
 have HE3 : Hid (EnR w.heap.size A1 n c1 es w3) := HE2.out.next hb
 clear hb HR2 HV2 HZ2 HB2 HE2
 go_upto_region 11 with fail
 obtain ⟨C, c3, hA1, hCb, hCl⟩ := World.ownsRow.form HE3.out (by omega)
 injection hA1 with hA1 _ hc3
 subst hA1; subst hc3
 have HEE : Hid (EnE w.heap.size C c1 n (k * 30) ((es.take k).flatMap En.cells) x ((es.drop (k + 1)).flatMap En.cells) w3) := ⟨pre_len HKX.out, by have := HE3.out; unfold EnR at this; rw [flat_mid0 HKX.out] at this; exact this⟩
 have HCb : Hid (w.heap.size ≤ C) := hCb
 clear hCb hCl HE3
 obtain ⟨w4, hw_w4⟩ : ∃ W, W = w3.drew := ⟨_, rfl⟩
 have HR4 := bkd HR3 hw_w4
 have HV4 := bkd HV3 hw_w4
 have HZ4 := bkd HZ3 hw_w4
 have HB4 := bed HB3 hw_w4
 have HE4 : Hid (EnE w.heap.size C c1 n (k * 30) ((es.take k).flatMap En.cells) x ((es.drop (k + 1)).flatMap En.cells) w4) := by rw [hw_w4]; exact HEE.out.drew
 have hS1 := And.intro HV4.out HR4.out
 refine wp_region_held_drew (S := (AndW (Bk gv (.cells #[.int .i64 kd, .int .i64 day, .string id, .bool (rneg q), .string (rnum q), .string (rden q), .int .i64 0, .string ⟨#[]⟩, .int .i64 0, .int .i64 0, .string ⟨#[]⟩, .bool false, .string ⟨#[]⟩, .string ⟨#[]⟩, .int .i64 0, .int .i64 0, .bool false, .string ⟨#[]⟩, .string ⟨#[]⟩, .int .i64 0, .int .i64 0] 65)) (Bk gr (.cells #[.int .i64 100, .int .i64 200, .int .i64 day0, .slice (some ⟨C, 0, none⟩) n c1] 57)))) (by kernel_rfl) (by rw [← hw_w4]; exact hS1) ?_
 rw [← hw_w4]
 intro _
 clear hw_w4 HR3 HV3 HZ3 HB3 HEE
 refine tk 0 hS1 ?_
 go_simp
 refine tv 1 (.slice (some ⟨C, 0, none⟩) n c1) rfl (by intro w' hw'; obtain ⟨r0, r1, r2, r3, _, _, _, _, _⟩ := four_of hw'.2; go_simp) hS1 ?_
 go_simp
 refine tk 2 hS1 ?_
 go_simp
 refine tv 3 (.pointer (some ⟨C, k * 30, none⟩)) rfl (by intro w' hw'; skip; go_simp) hS1 ?_
 go_simp
 refine wpAnyH_take (i := 4) (v := .agg #[.int .i64 kd, .int .i64 day, .string id, .bool (rneg q), .string (rnum q), .string (rden q), .int .i64 0, .string ⟨#[]⟩, .int .i64 0, .int .i64 0, .string ⟨#[]⟩, .bool false, .string ⟨#[]⟩, .string ⟨#[]⟩, .int .i64 0, .int .i64 0, .bool false, .string ⟨#[]⟩, .string ⟨#[]⟩, .int .i64 0, .int .i64 0]) rfl (by kernel_rfl) (by kernel_rfl) (by kernel_rfl) (fun _ _ _ h => h) (yieldsIf_load_mid (by kernel_rfl) 65 (.tmp 4) rfl gv 0 rfl [.int .i64 kd, .int .i64 day, .string id, .bool (rneg q), .string (rnum q), .string (rden q), .int .i64 0, .string ⟨#[]⟩, .int .i64 0, .int .i64 0, .string ⟨#[]⟩, .bool false, .string ⟨#[]⟩, .string ⟨#[]⟩, .int .i64 0, .int .i64 0, .bool false, .string ⟨#[]⟩, .string ⟨#[]⟩, .int .i64 0, .int .i64 0] _ (fun w' hw' j v hv => by rw [Nat.zero_add]; exact blk_at hw'.1 (by simpa using hv)) Tryz.underlying65 rfl (by kernel_rfl)) hS1 ?_
 go_simp
 refine tr 5 (fun K hK => ?_)
 go_simp
 refine (HCH.out C c1 _ HE4.out).mono ?_
 rintro e w5 ⟨rfl, he2, ho⟩
 have HR5 := bko HR4 ho (HE4.out.ne HR4.out (by decide))
 have HV5 := bko HV4 ho (HE4.out.ne HV4.out (by decide))
 have HZ5 := bko HZ4 ho (HE4.out.ne HZ4.out (by decide))
 have HB5 : Hid (Below w.heap.size w w5) := HB4.out.trans (ho.at_ _ HB4.out.size HCb.out)
 have HE5 : Hid (EnR w.heap.size (some ⟨C, 0, none⟩) n c1 (es.set k y) w5) := by
  unfold EnR
  rw [flat_mid HKX.out]
  exact he2.own
 clear he2 ho HR4 HE4 HB4 HV4 HZ4
 have hS2 := And.intro HV5.out HR5.out
 refine hK.out _ _ hS2 (fun _ => ?_)
 clear hK K
 refine tk 6 hS2 ?_
 go_simp
 refine wpAnyH_done (by kernel_rfl) ?_ _
 have v1 := blk_at (j := 1) HV5.out rfl
 obtain ⟨r0, r1, r2, r3, rf0, rf1, rf2, rf3, rz⟩ := four_of HR5.out
 go_upto_region 15 with fail
 clear v1
 clear r0 r1 r2 r3 rf0 rf1 rf2 rf3 rz
 have HBLK := HR5
 obtain ⟨w6, hw_w6⟩ : ∃ W, W = (w5.setCell ⟨gr, 2, none⟩ (.int .i64 day)) := ⟨_, rfl⟩
 have ho : Only gr w5 w6 := by rw [hw_w6]; exact (Only.refl _ _).setC _ _
 have HV6 := bko HV5 ho (by have := HL_0.out; omega)
 have HZ6 := bko HZ5 ho (by have := HL_0.out; omega)
 have HB6 := beo HB5 ho (by have := HL_0.out; omega)
 have HE6 : Hid (EnR w.heap.size (some ⟨C, 0, none⟩) n c1 (es.set k y) w6) := own_onlyT HE5.out ho HBLK.out (by decide)
 have HR6 : Hid (Bk gr (.cells #[.int .i64 100, .int .i64 200, .int .i64 day, .slice (some ⟨C, 0, none⟩) n c1] 57) w6) := by rw [hw_w6]; exact heap_setCell_same _ gr 2 _ _ (.int .i64 day) (HR5.out)
 rw [← hw_w6]
 clear hw_w6 ho HR5 HV5 HZ5 HB5 HE5
 clear HBLK
 obtain ⟨r0, r1, r2, r3, rf0, rf1, rf2, rf3, rz⟩ := four_of HR6.out
 obtain ⟨z0, z1, z2, z3, zf0, zf1, zf2, zf3, zz⟩ := four_of HZ6.out
 go_wp2_with fail
 clear r0 r1 r2 r3 rf0 rf1 rf2 rf3 rz
 clear z0 z1 z2 z3 zf0 zf1 zf2 zf3 zz
 have HBLK := HZ6
 obtain ⟨w7, hw_w7⟩ : ∃ W, W = ((((w6.setCell ⟨gz, 0, none⟩ (.int .i64 100)).setCell ⟨gz, 1, none⟩ (.int .i64 200)).setCell ⟨gz, 2, none⟩ (.int .i64 day)).setCell ⟨gz, 3, none⟩ (.slice (some ⟨C, 0, none⟩) n c1)) := ⟨_, rfl⟩
 have ho : Only gz w6 w7 := by rw [hw_w7]; exact ((((Only.refl _ _).setC _ _).setC _ _).setC _ _).setC _ _
 have HR7 := bko HR6 ho (by have := HL_0.out; omega)
 have HV7 := bko HV6 ho (by have := HL_0.out; omega)
 have HB7 := beo HB6 ho (by have := HL_0.out; omega)
 have HE7 : Hid (EnR w.heap.size (some ⟨C, 0, none⟩) n c1 (es.set k y) w7) := own_onlyT HE6.out ho HBLK.out (by decide)
 have HZ7 : Hid (Bk gz (.cells #[.int .i64 100, .int .i64 200, .int .i64 day, .slice (some ⟨C, 0, none⟩) n c1] 57) w7) := by rw [hw_w7]; exact heap_setCell_same _ gz 3 _ _ (.slice (some ⟨C, 0, none⟩) n c1) (heap_setCell_same _ gz 2 _ _ (.int .i64 day) (heap_setCell_same _ gz 1 _ _ (.int .i64 200) (heap_setCell_same _ gz 0 _ _ (.int .i64 100) (HZ6.out))))
 rw [← hw_w7]
 clear hw_w7 ho HZ6 HR6 HV6 HB6 HE6
 clear HBLK
 obtain ⟨z0, z1, z2, z3, zf0, zf1, zf2, zf3, zz⟩ := four_of HZ7.out
 exact bodyPost_ret (v := .tuple #[.agg #[.int .i64 100, .int .i64 200, .int .i64 day, .slice (some ⟨C, 0, none⟩) n c1], .int .i64 0]) (by simp [results, Tryz.results19, go_sem, z0, z1, z2, z3]) rfl ⟨_, _, rfl, HE7.out, HB7.out⟩

end Go.Proofs.YtjlicnhkemfmiaaGreatDoor

/- waterfall.Lay of an estate without agreements. -/
import Derived.Test.YtjlicnhkemfmiaaGreatDoorM22
import Derived.Test.YtjlicnhkemfmiaaGreatDoorSq
import Derived.Test.YtjlicnhkemfmiaaGreatDoorM19
import Derived.Test.YtjlicnhkemfmiaaGreatDoorWChk
set_option linter.unusedVariables false
set_option linter.unusedSimpArgs false
set_option maxHeartbeats 8000000
set_option maxRecDepth 100000
namespace Go.Proofs.YtjlicnhkemfmiaaGreatDoor
open Go.RowKit

def zTr : Tr := ⟨none, 0, [], 0⟩
/-- the tiers hold what the claims l have -/
structure TrsOk (z : Nat) (l : List Cl) (ts : List Tr) : Prop where
 len : ts.length = 8
 each : ∀ (r : Nat) (t : Tr), ts[r]? = some t → t.ps = partsF r 0 l ∧ t.sum = (tiersL l).getD r 0 ∧ Sz (1 + l.length * (z + 1)) t.sum
theorem sz_zero1 (k : Nat) (hk : 0 < k) : Sz k (0 : Rat) := Sz.mono (k := 1) ⟨by decide, by decide⟩ hk
theorem TrsOk.start (z : Nat) : TrsOk z [] (List.replicate 8 zTr) := by
 refine ⟨by simp, fun r t h => ?_⟩
 have ht := List.eq_of_mem_replicate (List.mem_of_getElem? h)
 subst ht
 refine ⟨rfl, ?_, sz_zero1 _ (by omega)⟩
 show (0 : Rat) = (tiersL []).getD r 0
 unfold tiersL
 have hr : r < 8 := by have := (List.getElem?_eq_some_iff.1 h).1; simpa using this
 rw [List.foldl_nil, List.getD_eq_getElem?_getD, List.getElem?_replicate, if_pos hr]; rfl
theorem addAt_getD : ∀ (n : Nat) (x : Rat) (L : List Rat) (r : Nat), n < L.length → (addAt n x L).getD r 0 = if r = n then L.getD r 0 + x else L.getD r 0
 | _, _, [], _, h => by simp at h
 | 0, x, S :: t, 0, _ => by simp [addAt]
 | 0, x, S :: t, r + 1, _ => by simp [addAt]
 | n + 1, x, S :: t, 0, _ => by simp [addAt]
 | n + 1, x, S :: t, r + 1, h => by
  have := addAt_getD n x t r (by simpa using h)
  simp only [addAt, List.getD_cons_succ, this]
  by_cases e : r = n <;> simp [e]
theorem TrsOk.next {z : Nat} {l : List Cl} {ts : List Tr} (h : TrsOk z l ts) (hl : ClsOk l) {c : Cl} (hc : c.rank < 8) (hz : Sz z c.amt) {t : Tr} (ht : ts[c.rank]? = some t) (A : Option Addr) (cp : Nat) : TrsOk z (l ++ [c]) (ts.set c.rank ⟨A, cp, t.ps ++ [(l.length, c.amt)], t.sum + c.amt⟩) := by
 refine ⟨by rw [List.length_set]; exact h.len, fun r u hu => ?_⟩
 have h8 := (tiers_ok hl).1
 rw [partsF_snoc, tiers_snoc, addAt_getD _ _ _ _ (by rw [h8]; exact hc), List.length_append, List.length_singleton, Nat.zero_add]
 rcases set_get hu with ⟨rfl, rfl⟩ | ⟨hne, hu⟩
 ·
  obtain ⟨h1, h2, h3⟩ := h.each _ _ ht
  rw [if_pos rfl, if_pos rfl, ← h1, ← h2]
  refine ⟨rfl, rfl, ?_⟩
  have := Sz.add h3 hz
  refine this.mono ?_
  have e : (l.length + 1) * (z + 1) = l.length * (z + 1) + (z + 1) := Nat.succ_mul _ _
  omega
 ·
  obtain ⟨h1, h2, h3⟩ := h.each _ _ hu
  rw [if_neg (fun e => hne e.symm), if_neg hne]
  refine ⟨h1, h2, h3.mono ?_⟩
  have e : (l.length + 1) * (z + 1) = l.length * (z + 1) + (z + 1) := Nat.succ_mul _ _
  omega
theorem ClsOk.take {l : List Cl} (h : ClsOk l) (k : Nat) : ClsOk (l.take k) := ⟨fun c hc => h.each c (List.mem_of_mem_take hc)⟩
theorem Tryz.info_tier : (Tryz.prog.info? 136).map (fun i => (i.zero, i.size, i.bytes)) = some (some (.agg #[.slice none 0 0, .bool false, .string ⟨#[]⟩, .string ⟨#[]⟩]), 4, 64) := by kernel_rfl
theorem make_tiers (W : World) : (Instr.makeSlice 95 (.int .i64 8) (.int .i64 8)).run Tryz.prog W = .ok (.slice (some ⟨W.heap.size, 0, none⟩) 8 8) (W.alloc (.cells (madeCells #[.slice none 0 0, .bool false, .string ⟨#[]⟩, .string ⟨#[]⟩] 32) 136)) := by
 obtain ⟨i, hi, hz, hs, hb⟩ := info_parts Tryz.info_tier
 have := run_make (P := Tryz.prog) W 95 136 i _ Tryz.underlying95 hi hz .i64 .i64 8 8 (by omega) (Int.le_refl _) (by rw [hb]; omega) (by omega)
 simp only [hs] at this
 exact this
theorem made4 (a b c d : Value) : madeCells #[a, b, c, d] 32 = #[a, b, c, d, a, b, c, d, a, b, c, d, a, b, c, d, a, b, c, d, a, b, c, d, a, b, c, d, a, b, c, d] := by kernel_rfl
theorem made_tiers : (madeCells #[.slice none 0 0, .bool false, .string ⟨#[]⟩, .string ⟨#[]⟩] 32) = ((List.replicate 8 zTr).flatMap trV).toArray := by
 have e : trV zTr = [.slice none 0 0, .bool false, .string ⟨#[]⟩, .string ⟨#[]⟩] := by
  show [Value.slice none 0 0, .bool (rneg 0), .string (rnum 0), .string (rden 0)] = _
  rw [rneg_zero, rnum_zero, rden_zero]
 simp only [List.replicate, List.flatMap_cons, List.flatMap_nil, e]
 rw [made4]
 rfl
theorem LadM.start {B R : Nat} {W : World} (hB : B ≤ R) (h : W.heap[R]? = some (.cells (madeCells #[.slice none 0 0, .bool false, .string ⟨#[]⟩, .string ⟨#[]⟩] 32) 136 (0, 0))) : LadM B R (List.replicate 8 zTr) W := by
 refine ⟨hB, by rw [made_tiers] at h; exact h, fun r t ht => ?_, fun r s t u ht _ _ g hg => ?_⟩
 ·
  have e := List.eq_of_mem_replicate (List.mem_of_getElem? ht)
  subst e
  exact World.ownsRow_nil _ _ _ _
 ·
  have e := List.eq_of_mem_replicate (List.mem_of_getElem? ht)
  subst e
  cases hg
def LayMid (q zb n : Nat) (A : Option Addr) (c : Nat) (w : World) (s : Value) (W : World) : Prop :=
 ∃ gl R, s = .pointer (some ⟨gl, 0, none⟩) ∧ LadM w.heap.size R (List.replicate 8 zTr) W ∧ Bk gl (.cells #[.int .i64 (n : Int), .slice (some ⟨R, 0, none⟩) 8 8, .slice none 0 0, .bool (rneg 0), .string (rnum 0), .string (rden 0)] 98) W ∧ Bk q (.cells #[.bool false, .string ⟨#[]⟩, .string ⟨#[]⟩, .slice A n c, .slice none 0 0] 37) W ∧ Bk zb (.cells #[.int .i64 0, .slice none 0 0, .slice none 0 0, .bool false, .string ⟨#[]⟩, .string ⟨#[]⟩] 98) W ∧ Below w.heap.size w W ∧ w.heap.size ≤ gl ∧ gl ≠ q ∧ gl ≠ zb
def LayPost (z : Nat) (l : List Cl) (w : World) (e : Ending) (w' : World) : Prop :=
 ∃ R ts tot, e = .returned (.agg #[.int .i64 (l.length : Int), .slice (some ⟨R, 0, none⟩) 8 8, .slice none 0 0, .bool (rneg tot), .string (rnum tot), .string (rden tot)]) ∧ LadM w.heap.size R ts w' ∧ TrsOk z l ts ∧ Below w.heap.size w w'
theorem six_of {w2 : World} {g : Nat} {a b c d e f : Value} {T : TypeId} (hg : w2.heap[g]? = some (.cells #[a, b, c, d, e, f] T (0, 0))) :
 w2.cell? ⟨g, 0, none⟩ = some a ∧ w2.cell? ⟨g, 1, none⟩ = some b ∧ w2.cell? ⟨g, 2, none⟩ = some c ∧ w2.cell? ⟨g, 3, none⟩ = some d ∧ w2.cell? ⟨g, 4, none⟩ = some e ∧ w2.cell? ⟨g, 5, none⟩ = some f ∧
 w2.frozen? ⟨g, 0, none⟩ = false ∧ w2.frozen? ⟨g, 1, none⟩ = false ∧ w2.frozen? ⟨g, 2, none⟩ = false ∧ w2.frozen? ⟨g, 3, none⟩ = false ∧ w2.frozen? ⟨g, 4, none⟩ = false ∧ w2.frozen? ⟨g, 5, none⟩ = false ∧ g < w2.heap.size := by
 refine ⟨?_, ?_, ?_, ?_, ?_, ?_, frozen_of_row w2 _ 0 _ _ hg, frozen_of_row w2 _ 1 _ _ hg, frozen_of_row w2 _ 2 _ _ hg, frozen_of_row w2 _ 3 _ _ hg, frozen_of_row w2 _ 4 _ _ hg, frozen_of_row w2 _ 5 _ _ hg, (Array.getElem?_eq_some_iff.1 hg).1⟩
 ·
  rw [cell_of_row w2 g 0 _ _ (0, 0) hg]; rfl
 ·
  rw [cell_of_row w2 g 1 _ _ (0, 0) hg]; rfl
 ·
  rw [cell_of_row w2 g 2 _ _ (0, 0) hg]; rfl
 ·
  rw [cell_of_row w2 g 3 _ _ (0, 0) hg]; rfl
 ·
  rw [cell_of_row w2 g 4 _ _ (0, 0) hg]; rfl
 ·
  rw [cell_of_row w2 g 5 _ _ (0, 0) hg]; rfl
/-- a block of another type is written: the ladder stays -/
theorem LadM.onlyB {B R : Nat} {ts : List Tr} {W W' : World} (h : LadM B R ts W) {g : Nat} (ho : Only g W W') {cur : Array Value} {T : TypeId} {f : Nat × Nat} (hg : W.heap[g]? = some (.cells cur T f)) (h1 : T ≠ 136) (h2 : T ≠ 184) : LadM B R ts W' := by
 refine ⟨h.base, blk_onlyW h.blk ho (fun e => ?_), fun r t ht => ?_, h.apart⟩
 ·
  have hb := h.blk
  rw [e, hg] at hb
  injection hb with hb
  injection hb with _ hb
  exact h1 hb
 ·
  have hr := h.rows r t ht
  refine ⟨hr.1, ?_⟩
  rcases hr.2 with hn | ⟨q, cap, cur2, e1, hb2, hgg, rest⟩
  ·
   exact .inl hn
  ·
   refine .inr ⟨q, cap, cur2, e1, hb2, blk_onlyW hgg ho (fun e => ?_), rest⟩
   rw [e, hg] at hgg
   injection hgg with hgg
   injection hgg with _ hgg
   exact h2 hgg
theorem wLay_calls (A : Option Addr) (n c : Nat) (l : List Cl) (z : Nat) (w : World) (hn : n = l.length) (h8 : n ≤ 8) (hr : Rd w w.heap.size 5 A l.length (l.flatMap clV)) (hok : ClsOk l) (hz : ∀ c ∈ l, Sz z c.amt) (h0 : 0 < z) (hzz : z ≤ 1000) :
 Calls Tryz.prog 34 #[estV A n c] w (LayPost z l w) := by
 have HRL := Lib.hid (And.intro hn (And.intro hr (And.intro hok hz)))
 have h8' : n ≤ 8 := h8
 clear hn hr hok hz h8
 go_enter Tryz.func34, Tryz.ntmps34
 go_upto_region 1 with fail
 obtain ⟨q, hg_q⟩ : ∃ g, g = w.heap.size := ⟨_, rfl⟩
 obtain ⟨zb, hg_zb⟩ : ∃ g, g = w.heap.size + 1 := ⟨_, rfl⟩
 obtain ⟨w0, hw_w0⟩ : ∃ W, W = ((w.alloc (.cells #[.bool false, .string ⟨#[]⟩, .string ⟨#[]⟩, .slice A n c, .slice none 0 0] 37)).alloc (.cells #[.int .i64 0, .slice none 0 0, .slice none 0 0, .bool false, .string ⟨#[]⟩, .string ⟨#[]⟩] 98)) := ⟨_, rfl⟩
 have HE0 : Hid (Bk q (.cells #[.bool false, .string ⟨#[]⟩, .string ⟨#[]⟩, .slice A n c, .slice none 0 0] 37) w0) := by rw [hw_w0, hg_q]; exact blk_alloc (blk_new _ _)
 have HZ0 : Hid (Bk zb (.cells #[.int .i64 0, .slice none 0 0, .slice none 0 0, .bool false, .string ⟨#[]⟩, .string ⟨#[]⟩] 98) w0) := by rw [hw_w0, hg_zb]; exact blk_new1 _ _ _
 have HB0 : Hid (Below w.heap.size w w0) := by rw [hw_w0]; exact (bel_alloc _ _).alloc (by simp) _
 have HL_0 := Lib.hid (And.intro (by omega : w.heap.size ≤ q) ((by omega : q < zb)))
 rw [← hw_w0]
 (try rw [← hg_zb]); (try rw [← hg_q])
 clear hw_w0 hg_q hg_zb
 go_cut [3] from 9 to 13 (fun s3 wx => LayMid q zb n A c w s3 wx)
 case first =>
  obtain ⟨w1, hw_w1⟩ : ∃ W, W = w0.drew := ⟨_, rfl⟩
  have HE1 := bkd HE0 hw_w1
  have HZ1 := bkd HZ0 hw_w1
  have HB1 := bed HB0 hw_w1
  have hS1 := HE1.out
  refine wp_region_held_drew (S := (Bk q (.cells #[.bool false, .string ⟨#[]⟩, .string ⟨#[]⟩, .slice A n c, .slice none 0 0] 37))) (by kernel_rfl) (by rw [← hw_w1]; exact hS1) ?_
  rw [← hw_w1]
  intro _
  clear hw_w1 HE0 HZ0 HB0
  refine tk 0 hS1 ?_
  go_simp
  refine tv 1 (.slice A n c) rfl (by intro w' hw'; obtain ⟨k0, k1, k2, k3, k4⟩ := EBox.cells (q := q) hw'; go_simp) hS1 ?_
  go_simp
  refine tk 2 hS1 ?_
  go_simp
  refine wpAnyH_ready (rs := [3, 5]) (by kernel_rfl) (by simp) ?_
  refine AllReadyH.cons rfl (fun K hK => ?_) (AllReadyH.cons rfl (fun K hK => ?_) AllReadyH.nil)
  ·
   have hmk := make_tiers w1
   go_simp
   clear hmk
   obtain ⟨R, hg_R⟩ : ∃ g, g = w1.heap.size := ⟨_, rfl⟩
   obtain ⟨w2, hw_w2⟩ : ∃ W, W = w1.alloc (.cells (madeCells #[.slice none 0 0, .bool false, .string ⟨#[]⟩, .string ⟨#[]⟩] 32) 136) := ⟨_, rfl⟩
   have HL_R := Lib.hid (And.intro (by have := blk_lt HE1.out; omega : q < R) (And.intro (by have := blk_lt HZ1.out; omega : zb < R) ((by have := HB1.out.size; omega : w.heap.size ≤ R))))
   have HE2 := bka HE1 hw_w2
   have HZ2 := bka HZ1 hw_w2
   have HB2 := bea HB1 hw_w2
   have HR2 : Hid (Bk R (.cells (madeCells #[.slice none 0 0, .bool false, .string ⟨#[]⟩, .string ⟨#[]⟩] 32) 136) w2) := by rw [hw_w2, hg_R]; exact blk_new _ _
   rw [← hw_w2]
   (try rw [← hg_R])
   clear hw_w2 hg_R HE1 HZ1 HB1
   have hS2 := HE2.out
   refine hK.out _ _ hS2 (fun _ => ?_)
   clear hK K
   refine tk 4 hS2 ?_
   go_simp
   refine tr 5 (fun K hK => ?_)
   go_simp
   obtain ⟨gl, hg_gl⟩ : ∃ g, g = w2.heap.size := ⟨_, rfl⟩
   obtain ⟨w3, hw_w3⟩ : ∃ W, W = w2.alloc (.cells #[.int .i64 0, .slice none 0 0, .slice none 0 0, .bool false, .string ⟨#[]⟩, .string ⟨#[]⟩] 98) := ⟨_, rfl⟩
   have HL_gl := Lib.hid (And.intro (by have := blk_lt HE2.out; omega : q < gl) (And.intro (by have := blk_lt HZ2.out; omega : zb < gl) (And.intro (by have := HB2.out.size; omega : w.heap.size ≤ gl) ((by have := blk_lt HR2.out; omega : R < gl)))))
   have HE3 := bka HE2 hw_w3
   have HZ3 := bka HZ2 hw_w3
   have HB3 := bea HB2 hw_w3
   have HR3 := bka HR2 hw_w3
   have HG3 : Hid (Bk gl (.cells #[.int .i64 0, .slice none 0 0, .slice none 0 0, .bool false, .string ⟨#[]⟩, .string ⟨#[]⟩] 98) w3) := by rw [hw_w3, hg_gl]; exact blk_new _ _
   rw [← hw_w3]
   (try rw [← hg_gl])
   clear hw_w3 hg_gl HE2 HZ2 HB2 HR2
   have hS3 := HE3.out
   refine hK.out _ _ hS3 (fun _ => ?_)
   clear hK K
   refine tr 6 (fun K hK => ?_)
   obtain ⟨g0, g1, g2, g3, g4, g5, u0, u1, u2, u3, u4, u5, gz⟩ := six_of HG3.out
   go_simp
   clear g0 g1 g2 g3 g4 g5 u0 u1 u2 u3 u4 u5 gz
   obtain ⟨w4, hw_w4⟩ : ∃ W, W = ((((((w3.setCell ⟨gl, 0, none⟩ (.int .i64 (n : Int))).setCell ⟨gl, 1, none⟩ (.slice (some ⟨R, 0, none⟩) 8 8)).setCell ⟨gl, 2, none⟩ (.slice none 0 0)).setCell ⟨gl, 3, none⟩ (.bool false)).setCell ⟨gl, 4, none⟩ (.string ⟨#[]⟩)).setCell ⟨gl, 5, none⟩ (.string ⟨#[]⟩)) := ⟨_, rfl⟩
   have ho : Only gl w3 w4 := by rw [hw_w4]; exact ((((((Only.refl _ _).setC _ _).setC _ _).setC _ _).setC _ _).setC _ _).setC _ _
   have HE4 := bko HE3 ho (by have := HL_0.out; have := HL_R.out; have := HL_gl.out; omega)
   have HZ4 := bko HZ3 ho (by have := HL_0.out; have := HL_R.out; have := HL_gl.out; omega)
   have HB4 := beo HB3 ho (by have := HL_0.out; have := HL_R.out; have := HL_gl.out; omega)
   have HR4 := bko HR3 ho (by have := HL_0.out; have := HL_R.out; have := HL_gl.out; omega)
   have HG4 : Hid (Bk gl (.cells #[.int .i64 (n : Int), .slice (some ⟨R, 0, none⟩) 8 8, .slice none 0 0, .bool false, .string ⟨#[]⟩, .string ⟨#[]⟩] 98) w4) := by rw [hw_w4]; exact heap_setCell_same _ gl 5 _ _ (.string ⟨#[]⟩) (heap_setCell_same _ gl 4 _ _ (.string ⟨#[]⟩) (heap_setCell_same _ gl 3 _ _ (.bool false) (heap_setCell_same _ gl 2 _ _ (.slice none 0 0) (heap_setCell_same _ gl 1 _ _ (.slice (some ⟨R, 0, none⟩) 8 8) (heap_setCell_same _ gl 0 _ _ (.int .i64 (n : Int)) (HG3.out))))))
   rw [← hw_w4]
   clear hw_w4 ho HG3 HE3 HZ3 HB3 HR3
   have hS4 := HE4.out
   refine hK.out _ _ hS4 (fun _ => ?_)
   clear hK K
   refine wpAnyH_done (by kernel_rfl) ?_ _
   (try go_wp2_with fail)
   go_meet
   refine ⟨gl, R, rfl, LadM.start (by have := HL_0.out; have := HL_R.out; have := HL_gl.out; omega) HR4.out, ?_, HE4.out, HZ4.out, HB4.out, (by have := HL_0.out; have := HL_R.out; have := HL_gl.out; omega), (by have := HL_0.out; have := HL_R.out; have := HL_gl.out; omega), (by have := HL_0.out; have := HL_R.out; have := HL_gl.out; omega)⟩
   rw [rneg_zero, rnum_zero, rden_zero]
   exact HG4.out
  ·
   go_simp
   obtain ⟨gl, hg_gl⟩ : ∃ g, g = w1.heap.size := ⟨_, rfl⟩
   obtain ⟨w2, hw_w2⟩ : ∃ W, W = w1.alloc (.cells #[.int .i64 0, .slice none 0 0, .slice none 0 0, .bool false, .string ⟨#[]⟩, .string ⟨#[]⟩] 98) := ⟨_, rfl⟩
   have HL_gl := Lib.hid (And.intro (by have := blk_lt HE1.out; omega : q < gl) (And.intro (by have := blk_lt HZ1.out; omega : zb < gl) ((by have := HB1.out.size; omega : w.heap.size ≤ gl))))
   have HE2 := bka HE1 hw_w2
   have HZ2 := bka HZ1 hw_w2
   have HB2 := bea HB1 hw_w2
   have HG2 : Hid (Bk gl (.cells #[.int .i64 0, .slice none 0 0, .slice none 0 0, .bool false, .string ⟨#[]⟩, .string ⟨#[]⟩] 98) w2) := by rw [hw_w2, hg_gl]; exact blk_new _ _
   rw [← hw_w2]
   (try rw [← hg_gl])
   clear hw_w2 hg_gl HE1 HZ1 HB1
   have hS2 := HE2.out
   refine hK.out _ _ hS2 (fun _ => ?_)
   clear hK K
   refine tr 3 (fun K hK => ?_)
   have hmk := make_tiers w2
   go_simp
   clear hmk
   obtain ⟨R, hg_R⟩ : ∃ g, g = w2.heap.size := ⟨_, rfl⟩
   obtain ⟨w3, hw_w3⟩ : ∃ W, W = w2.alloc (.cells (madeCells #[.slice none 0 0, .bool false, .string ⟨#[]⟩, .string ⟨#[]⟩] 32) 136) := ⟨_, rfl⟩
   have HL_R := Lib.hid (And.intro (by have := blk_lt HE2.out; omega : q < R) (And.intro (by have := blk_lt HZ2.out; omega : zb < R) (And.intro (by have := HB2.out.size; omega : w.heap.size ≤ R) ((by have := blk_lt HG2.out; omega : gl < R)))))
   have HE3 := bka HE2 hw_w3
   have HZ3 := bka HZ2 hw_w3
   have HB3 := bea HB2 hw_w3
   have HG3 := bka HG2 hw_w3
   have HR3 : Hid (Bk R (.cells (madeCells #[.slice none 0 0, .bool false, .string ⟨#[]⟩, .string ⟨#[]⟩] 32) 136) w3) := by rw [hw_w3, hg_R]; exact blk_new _ _
   rw [← hw_w3]
   (try rw [← hg_R])
   clear hw_w3 hg_R HE2 HZ2 HB2 HG2
   have hS3 := HE3.out
   refine hK.out _ _ hS3 (fun _ => ?_)
   clear hK K
   refine tk 4 hS3 ?_
   go_simp
   refine tr 6 (fun K hK => ?_)
   obtain ⟨g0, g1, g2, g3, g4, g5, u0, u1, u2, u3, u4, u5, gz⟩ := six_of HG3.out
   go_simp
   clear g0 g1 g2 g3 g4 g5 u0 u1 u2 u3 u4 u5 gz
   obtain ⟨w4, hw_w4⟩ : ∃ W, W = ((((((w3.setCell ⟨gl, 0, none⟩ (.int .i64 (n : Int))).setCell ⟨gl, 1, none⟩ (.slice (some ⟨R, 0, none⟩) 8 8)).setCell ⟨gl, 2, none⟩ (.slice none 0 0)).setCell ⟨gl, 3, none⟩ (.bool false)).setCell ⟨gl, 4, none⟩ (.string ⟨#[]⟩)).setCell ⟨gl, 5, none⟩ (.string ⟨#[]⟩)) := ⟨_, rfl⟩
   have ho : Only gl w3 w4 := by rw [hw_w4]; exact ((((((Only.refl _ _).setC _ _).setC _ _).setC _ _).setC _ _).setC _ _).setC _ _
   have HE4 := bko HE3 ho (by have := HL_0.out; have := HL_gl.out; have := HL_R.out; omega)
   have HZ4 := bko HZ3 ho (by have := HL_0.out; have := HL_gl.out; have := HL_R.out; omega)
   have HB4 := beo HB3 ho (by have := HL_0.out; have := HL_gl.out; have := HL_R.out; omega)
   have HR4 := bko HR3 ho (by have := HL_0.out; have := HL_gl.out; have := HL_R.out; omega)
   have HG4 : Hid (Bk gl (.cells #[.int .i64 (n : Int), .slice (some ⟨R, 0, none⟩) 8 8, .slice none 0 0, .bool false, .string ⟨#[]⟩, .string ⟨#[]⟩] 98) w4) := by rw [hw_w4]; exact heap_setCell_same _ gl 5 _ _ (.string ⟨#[]⟩) (heap_setCell_same _ gl 4 _ _ (.string ⟨#[]⟩) (heap_setCell_same _ gl 3 _ _ (.bool false) (heap_setCell_same _ gl 2 _ _ (.slice none 0 0) (heap_setCell_same _ gl 1 _ _ (.slice (some ⟨R, 0, none⟩) 8 8) (heap_setCell_same _ gl 0 _ _ (.int .i64 (n : Int)) (HG3.out))))))
   rw [← hw_w4]
   clear hw_w4 ho HG3 HE3 HZ3 HB3 HR3
   have hS4 := HE4.out
   refine hK.out _ _ hS4 (fun _ => ?_)
   clear hK K
   refine wpAnyH_done (by kernel_rfl) ?_ _
   (try go_wp2_with fail)
   go_meet
   refine ⟨gl, R, rfl, LadM.start (by have := HL_0.out; have := HL_gl.out; have := HL_R.out; omega) HR4.out, ?_, HE4.out, HZ4.out, HB4.out, (by have := HL_0.out; have := HL_gl.out; have := HL_R.out; omega), (by have := HL_0.out; have := HL_gl.out; have := HL_R.out; omega), (by have := HL_0.out; have := HL_gl.out; have := HL_R.out; omega)⟩
   rw [rneg_zero, rnum_zero, rden_zero]
   exact HG4.out
 case rest =>
  clear HE0 HZ0 HB0
  obtain ⟨gl, R, rfl, hla, hgl, hqe, hzl, hbe, hlg, hgq, hgz⟩ := hcut
  rename World => wc
  have HLm := Lib.hid hla
  have HG := Lib.hid hgl
  have HE := Lib.hid hqe
  have HZ := Lib.hid hzl
  have HB := Lib.hid hbe
  have HNE := Lib.hid (And.intro hlg (And.intro hgq hgz))
  clear hla hgl hqe hzl hbe hlg hgq hgz
  obtain ⟨c0, c1, c2, c3, c4⟩ := EBox.cells (q := q) HE.out
  go_wp2_with fail
  clear c0 c1 c2 c3 c4
  go_loopw [17] (fun i wr => ∃ (k : Nat) (ts : List Tr) (tot : Rat), k ≤ n ∧ i = .int .i64 (k : Int) ∧ Hid (TrsOk z (l.take k) ts) ∧ Hid (Sz (1 + k * (z + 1)) tot) ∧ Hid (LadM w.heap.size R ts wr) ∧ Hid (Bk gl (.cells #[.int .i64 (n : Int), .slice (some ⟨R, 0, none⟩) 8 8, .slice none 0 0, .bool (rneg tot), .string (rnum tot), .string (rden tot)] 98) wr) ∧ Hid (Bk q (.cells #[.bool false, .string ⟨#[]⟩, .string ⟨#[]⟩, .slice A n c, .slice none 0 0] 37) wr) ∧ Hid (Bk zb (.cells #[.int .i64 0, .slice none 0 0, .slice none 0 0, .bool false, .string ⟨#[]⟩, .string ⟨#[]⟩] 98) wr) ∧ Hid (Below w.heap.size w wr)) (fun i _ => n - (intOf i).toNat)
  case atStart => exact ⟨0, List.replicate 8 zTr, 0, Nat.zero_le _, rfl, TrsOk.start z, sz_zero1 _ (by omega), HLm, HG, HE, HZ, HB⟩
  case round =>
   clear HLm HG HE HZ HB
   obtain ⟨k, ts, tot, hk, rfl, HT, HS, HLm, HG, HE, HZ, HB⟩ := hrel
   rename World => wo
   by_cases hlt : k < n
   ·
    have hlt2 : (k : Int) < (n : Int) := by omega
    obtain ⟨x, hx⟩ := getElem?_of_lt (l := l) (k := k) (by rw [← HRL.out.1]; exact hlt)
    have hxo := HRL.out.2.2.1.each x (List.mem_of_getElem? hx)
    have hxz := HRL.out.2.2.2 x (List.mem_of_getElem? hx)
    obtain ⟨b, off, hA, hbb, hc⟩ := Rd.at_ (enc := clV) (fun _ => rfl) (HRL.out.2.1.next HB.out) hx
    have HX := Lib.hid (And.intro hx (And.intro hxo (And.intro hxz hA)))
    subst hA
    have p0 := hc 0 _ rfl
    have p1 := hc 1 _ rfl
    have p2 := hc 2 _ rfl
    have p3 := hc 3 _ rfl
    have p4 := hc 4 _ rfl
    rw [Nat.add_zero] at p0
    rw [← Nat.add_assoc] at p1 p2 p3 p4
    clear hc hx hbb hxo hxz
    obtain ⟨rk, am⟩ := x
    dsimp only at p1 p2 p3 p4
    have hA0' := fun W => pAddQ_calls am 0 z 8 W HX.out.2.2.1 sz_zero h0 (by decide) (by omega)
    rw [Rat.add_zero, ratV_zero] at hA0'
    obtain ⟨t, ht⟩ := getElem?_of_lt (l := ts) (k := rk) (by rw [HT.out.len]; exact HX.out.2.1.1)
    have HTT := Lib.hid (And.intro ht (HT.out.each rk t ht))
    clear ht
    have hA1' := fun W (h : LadM w.heap.size R ts W) => tAdd_calls w.heap.size R rk ts t k am (1 + (l.take k).length * (z + 1)) z W h HTT.out.1 HTT.out.2.2.2 HX.out.2.2.1 (by omega) h0 (by rw [List.length_take]; have : min k l.length * (z + 1) ≤ 8 * (z + 1) := Nat.mul_le_mul_right _ (by omega); omega) (by omega) (by rw [HTT.out.2.1]; have := partsF_len rk (l.take k) 0; rw [List.length_take] at this; omega)
    have hA2' := fun W => pAddQ_calls tot am (1 + k * (z + 1)) z W HS.out HX.out.2.2.1 (by omega) h0 (by have : k * (z + 1) ≤ 8 * (z + 1) := Nat.mul_le_mul_right _ (by omega); omega)
    have hst := Sz.add HS.out HX.out.2.2.1
    obtain ⟨tn, htn⟩ : ∃ x, x = tot + am := ⟨_, rfl⟩
    rw [← htn] at hA2' hst
    have HSN : Hid (Sz (1 + (k + 1) * (z + 1)) tn) := hst.mono (by have e : (k + 1) * (z + 1) = k * (z + 1) + (z + 1) := Nat.succ_mul _ _; omega)
    clear htn hst
    unfold ratV at hA0' hA1' hA2'
    have HA0 := Lib.hid hA0'
    have HA1 := Lib.hid hA1'
    have HA2 := Lib.hid hA2'
    have hrk : (rk : Int) < 8 := by have := HX.out.2.1.1; dsimp only at this; omega
    clear hA0' hA1' hA2'
    go_wp2_with fail
    clear p0 p1 p2 p3 p4
    obtain ⟨gc, hg_gc⟩ : ∃ g, g = wo.heap.size := ⟨_, rfl⟩
    obtain ⟨x1, hw_x1⟩ : ∃ W, W = wo.alloc (.cells #[.int .i64 (-1), .int .i64 (rk : Int), .bool (rneg am), .string (rnum am), .string (rden am)] 40) := ⟨_, rfl⟩
    have HL_gc := Lib.hid (And.intro (by have := HLm.out.lt; omega : R < gc) (And.intro (by have := blk_lt HG.out; omega : gl < gc) (And.intro (by have := blk_lt HE.out; omega : q < gc) (And.intro (by have := blk_lt HZ.out; omega : zb < gc) ((by have := HB.out.size; omega : w.heap.size ≤ gc))))))
    have HL1 : Hid (LadM w.heap.size R ts x1) := by rw [hw_x1]; exact HLm.out.next (bel_alloc _ _)
    have HG1 := bka HG hw_x1
    have HE1 := bka HE hw_x1
    have HZ1 := bka HZ hw_x1
    have HB1 := bea HB hw_x1
    have HC1 : Hid (Bk gc (.cells #[.int .i64 (-1), .int .i64 (rk : Int), .bool (rneg am), .string (rnum am), .string (rden am)] 40) x1) := by rw [hw_x1, hg_gc]; exact blk_new _ _
    rw [← hw_x1]
    (try rw [← hg_gc])
    clear hw_x1 hg_gc HLm HG HE HZ HB
    refine (HA0.out _).mono ?_
    rintro e x2 ⟨rfl, hb⟩
    have HL2 : Hid (LadM w.heap.size R ts x2) := HL1.out.next hb
    have HG2 := bkn HG1 hb
    have HE2 := bkn HE1 hb
    have HZ2 := bkn HZ1 hb
    have HB2 := ben HB1 hb
    have HC2 := bkn HC1 hb
    clear hb HL1 HG1 HE1 HZ1 HB1 HC1
    go_upto_region 6 with fail
    obtain ⟨ga, hg_ga⟩ : ∃ g, g = x2.heap.size := ⟨_, rfl⟩
    obtain ⟨x3, hw_x3⟩ : ∃ W, W = x2.alloc (.cells #[.bool (rneg am), .string (rnum am), .string (rden am)] 33) := ⟨_, rfl⟩
    have HL_ga := Lib.hid (And.intro (by have := HL2.out.lt; omega : R < ga) (And.intro (by have := blk_lt HG2.out; omega : gl < ga) (And.intro (by have := blk_lt HE2.out; omega : q < ga) (And.intro (by have := blk_lt HZ2.out; omega : zb < ga) (And.intro (by have := HB2.out.size; omega : w.heap.size ≤ ga) ((by have := blk_lt HC2.out; omega : gc < ga)))))))
    have HL3 : Hid (LadM w.heap.size R ts x3) := by rw [hw_x3]; exact HL2.out.next (bel_alloc _ _)
    have HG3 := bka HG2 hw_x3
    have HE3 := bka HE2 hw_x3
    have HZ3 := bka HZ2 hw_x3
    have HB3 := bea HB2 hw_x3
    have HC3 := bka HC2 hw_x3
    have HA3 : Hid (Bk ga (.cells #[.bool (rneg am), .string (rnum am), .string (rden am)] 33) x3) := by rw [hw_x3, hg_ga]; exact blk_new _ _
    rw [← hw_x3]
    (try rw [← hg_ga])
    clear hw_x3 hg_ga HL2 HG2 HE2 HZ2 HB2 HC2
    obtain ⟨x4, hw_x4⟩ : ∃ W, W = x3.drew := ⟨_, rfl⟩
    have HL4 : Hid (LadM w.heap.size R ts x4) := by rw [hw_x4]; exact HL3.out.drew
    have HG4 := bkd HG3 hw_x4
    have HE4 := bkd HE3 hw_x4
    have HZ4 := bkd HZ3 hw_x4
    have HB4 := bed HB3 hw_x4
    have HC4 := bkd HC3 hw_x4
    have HA4 := bkd HA3 hw_x4
    have hS1 := And.intro HG4.out (And.intro HC4.out HA4.out)
    refine wp_region_held_drew (S := (AndW (Bk gl (.cells #[.int .i64 (n : Int), .slice (some ⟨R, 0, none⟩) 8 8, .slice none 0 0, .bool (rneg tot), .string (rnum tot), .string (rden tot)] 98)) (AndW (Bk gc (.cells #[.int .i64 (-1), .int .i64 (rk : Int), .bool (rneg am), .string (rnum am), .string (rden am)] 40)) (Bk ga (.cells #[.bool (rneg am), .string (rnum am), .string (rden am)] 33))))) (by kernel_rfl) (by rw [← hw_x4]; exact hS1) ?_
    rw [← hw_x4]
    intro _
    clear hw_x4 HL3 HG3 HE3 HZ3 HB3 HC3 HA3
    refine tk 0 hS1 ?_
    go_simp
    refine tv 1 (.slice (some ⟨R, 0, none⟩) 8 8) rfl (by intro w' hw'; obtain ⟨k0, k1, k2, k3, k4, k5, _, _, _, _, _, _, _⟩ := six_of hw'.1; go_simp) hS1 ?_
    go_simp
    refine tk 2 hS1 ?_
    go_simp
    refine tv 3 (.int .i64 (rk : Int)) rfl (by intro w' hw'; obtain ⟨k0, k1, k2, k3, k4⟩ := CBox.cells (g := gc) hw'.2.1; go_simp) hS1 ?_
    go_simp
    refine tk 4 hS1 ?_
    go_simp
    refine tk 5 hS1 ?_
    go_simp
    refine tv 6 (.agg #[.bool (rneg am), .string (rnum am), .string (rden am)]) rfl (by intro w' hw'; obtain ⟨k0, k1, k2, fk0, fk1, fk2, hzk⟩ := three_of hw'.2.2; go_simp) hS1 ?_
    go_simp
    refine tr 7 (fun K hK => ?_)
    go_simp
    refine (HA1.out _ HL4.out).mono ?_
    rintro e xt ⟨A', c', rfl, hlad, hbel, hoff⟩
    have HGt : Hid (Bk gl (.cells #[.int .i64 (n : Int), .slice (some ⟨R, 0, none⟩) 8 8, .slice none 0 0, .bool (rneg tot), .string (rnum tot), .string (rden tot)] 98) xt) := hoff.blk _ _ _ _ HG4.out (by decide) (by decide)
    have HEt : Hid (Bk q (.cells #[.bool false, .string ⟨#[]⟩, .string ⟨#[]⟩, .slice (some ⟨b, off, none⟩) n c, .slice none 0 0] 37) xt) := hoff.blk _ _ _ _ HE4.out (by decide) (by decide)
    have HZt : Hid (Bk zb (.cells #[.int .i64 0, .slice none 0 0, .slice none 0 0, .bool false, .string ⟨#[]⟩, .string ⟨#[]⟩] 98) xt) := hoff.blk _ _ _ _ HZ4.out (by decide) (by decide)
    have HCt : Hid (Bk gc (.cells #[.int .i64 (-1), .int .i64 (rk : Int), .bool (rneg am), .string (rnum am), .string (rden am)] 40) xt) := hoff.blk _ _ _ _ HC4.out (by decide) (by decide)
    have HAt : Hid (Bk ga (.cells #[.bool (rneg am), .string (rnum am), .string (rden am)] 33) xt) := hoff.blk _ _ _ _ HA4.out (by decide) (by decide)
    have HBt : Hid (Below w.heap.size w xt) := HB4.out.trans hbel
    have HLt : Hid (LadM w.heap.size R (ts.set rk ⟨A', c', t.ps ++ [(k, am)], t.sum + am⟩) xt) := hlad
    have HTt : Hid (TrsOk z (l.take (k + 1)) (ts.set rk ⟨A', c', t.ps ++ [(k, am)], t.sum + am⟩)) := by
     have h1 := HT.out.next (c := ⟨rk, am⟩) (HRL.out.2.2.1.take k) HX.out.2.1.1 HX.out.2.2.1 HTT.out.1 A' c'
     have e1 : l.take k ++ [⟨rk, am⟩] = l.take (k + 1) := by rw [List.take_add_one, HX.out.1]; rfl
     have e2 : (l.take k).length = k := by rw [List.length_take]; have := HRL.out.1; omega
     rw [e1, e2] at h1
     exact h1
    clear hlad hbel hoff HT HTT HL4 HG4 HE4 HZ4 HB4 HC4 HA4
    have hS2 := And.intro HGt.out (And.intro HCt.out HAt.out)
    refine hK.out _ _ hS2 (fun _ => ?_)
    clear hK K
    refine wpAnyH_done (by kernel_rfl) ?_ _
    obtain ⟨g0, g1, g2, g3, g4, g5, u0, u1, u2, u3, u4, u5, gz⟩ := six_of HGt.out
    obtain ⟨c0, c1, c2, fc0, fc1, fc2, hzc⟩ := three_of HAt.out
    go_wp2_with fail
    clear g0 g1 g2 g3 g4 g5 u0 u1 u2 u3 u4 u5 gz
    clear c0 c1 c2 fc0 fc1 fc2 hzc
    refine (HA2.out _).mono ?_
    rintro e x25 ⟨rfl, hb⟩
    have HL25 : Hid (LadM w.heap.size R (ts.set rk ⟨A', c', t.ps ++ [(k, am)], t.sum + am⟩) x25) := HLt.out.next hb
    have HG25 := bkn HGt hb
    have HE25 := bkn HEt hb
    have HZ25 := bkn HZt hb
    have HC25 := bkn HCt hb
    have HA25 := bkn HAt hb
    have HB25 := ben HBt hb
    clear hb HLt HGt HEt HZt HCt HAt HBt
    obtain ⟨g0, g1, g2, g3, g4, g5, u0, u1, u2, u3, u4, u5, gz⟩ := six_of HG25.out
    go_wp2_with fail
    clear g0 g1 g2 g3 g4 g5 u0 u1 u2 u3 u4 u5 gz
    obtain ⟨xz, hxz⟩ : ∃ W, W = ((x25.setCell ⟨gl, 3, none⟩ (.bool (rneg tn))).setCell ⟨gl, 4, none⟩ (.string (rnum tn))).setCell ⟨gl, 5, none⟩ (.string (rden tn)) := ⟨_, rfl⟩
    have ho : Only gl x25 xz := by rw [hxz]; exact (((Only.refl _ _).setC _ _).setC _ _).setC _ _
    have HGz : Hid (Bk gl (.cells #[.int .i64 (n : Int), .slice (some ⟨R, 0, none⟩) 8 8, .slice none 0 0, .bool (rneg tn), .string (rnum tn), .string (rden tn)] 98) xz) := by rw [hxz]; exact heap_setCell_same _ gl 5 _ _ _ (heap_setCell_same _ gl 4 _ _ _ (heap_setCell_same _ gl 3 _ _ _ HG25.out))
    have HEz := bko HE25 ho (fun e => HNE.out.2.1 e.symm)
    have HZz := bko HZ25 ho (fun e => HNE.out.2.2 e.symm)
    have HBz : Hid (Below w.heap.size w xz) := HB25.out.trans (ho.at_ _ HB25.out.size HNE.out.1)
    have HLz : Hid (LadM w.heap.size R (ts.set rk ⟨A', c', t.ps ++ [(k, am)], t.sum + am⟩) xz) := LadM.onlyB HL25.out ho HG25.out (by decide) (by decide)
    rw [← hxz]
    clear hxz ho HL25 HG25 HE25 HZ25 HC25 HA25 HB25
    go_roundw
    case measure => simp [intOf] <;> omega
    case rel => exact ⟨k + 1, _, tn, by omega, by go_num, HTt, HSN, HLz, HGz, HEz, HZz, HBz⟩
   ·
    have hlt2 : ¬ (k : Int) < (n : Int) := by omega
    have HTn : Hid (TrsOk z l ts) := by
     have h1 := HT.out
     rw [List.take_of_length_le (by have := HRL.out.1; omega)] at h1
     exact h1
    obtain ⟨c0, c1, c2, c3, c4⟩ := EBox.cells (q := q) HE.out
    go_wp2_with fail
    clear c0 c1 c2 c3 c4
    go_loopw [43] (fun i wr => i = .int .i64 0 ∧ Hid (LadM w.heap.size R ts wr) ∧ Hid (Bk gl (.cells #[.int .i64 (n : Int), .slice (some ⟨R, 0, none⟩) 8 8, .slice none 0 0, .bool (rneg tot), .string (rnum tot), .string (rden tot)] 98) wr) ∧ Hid (Bk zb (.cells #[.int .i64 0, .slice none 0 0, .slice none 0 0, .bool false, .string ⟨#[]⟩, .string ⟨#[]⟩] 98) wr) ∧ Hid (Below w.heap.size w wr)) (fun _ _ => 0)
    case atStart => exact ⟨rfl, HLm, HG, HZ, HB⟩
    case round =>
     clear HLm HG HZ HB
     obtain ⟨rfl, HLm, HG, HZ, HB⟩ := hrel
     rename World => wx
     obtain ⟨g0, g1, g2, g3, g4, g5, u0, u1, u2, u3, u4, u5, gz⟩ := six_of HG.out
     obtain ⟨z0, z1, z2, z3, z4, z5, v0, v1, v2, v3, v4, v5, zz⟩ := six_of HZ.out
     go_wp2_with fail
     have ho : Only zb wx ((((((wx.setCell ⟨zb, 0, none⟩ (.int .i64 (n : Int))).setCell ⟨zb, 1, none⟩ (.slice (some ⟨R, 0, none⟩) 8 8)).setCell ⟨zb, 2, none⟩ (.slice none 0 0)).setCell ⟨zb, 3, none⟩ (.bool (rneg tot))).setCell ⟨zb, 4, none⟩ (.string (rnum tot))).setCell ⟨zb, 5, none⟩ (.string (rden tot))) := ((((((Only.refl _ _).setC _ _).setC _ _).setC _ _).setC _ _).setC _ _).setC _ _
     exact bodyPost_ret (v := .agg #[.int .i64 (n : Int), .slice (some ⟨R, 0, none⟩) 8 8, .slice none 0 0, .bool (rneg tot), .string (rnum tot), .string (rden tot)]) (by simp [results, Tryz.results34, go_sem, z0, z1, z2, z3, z4, z5]) rfl ⟨R, ts, tot, by rw [HRL.out.1], LadM.onlyB HLm.out ho HZ.out (by decide) (by decide), HTn.out, HB.out.trans (ho.at_ _ HB.out.size (by have := HL_0.out; omega))⟩

end Go.Proofs.YtjlicnhkemfmiaaGreatDoor

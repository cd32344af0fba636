/- collateral.Proceeds, Check. -/
import Derived.Test.YtjlicnhkemfmiaaGreatDoorM18
import Derived.Test.YtjlicnhkemfmiaaGreatDoorTBld
import Derived.Test.YtjlicnhkemfmiaaGreatDoorM17
set_option linter.unusedVariables false
set_option linter.unusedSimpArgs false
namespace Go.Proofs.YtjlicnhkemfmiaaGreatDoor
open Go.RowKit

structure Ch where
  cl : Nat
  pr : Int
  lim : Bool
  mx : Rat
structure It where
  price : Rat
  costs : Rat
  A : Option Addr
  c : Nat
  chs : List Ch
def chV (x : Ch) : List Value := [.int .i64 (x.cl : Int), .int .i64 x.pr, .bool x.lim, .bool (rneg x.mx), .string (rnum x.mx), .string (rden x.mx)]
def itV (x : It) : List Value := [.bool (rneg x.price), .string (rnum x.price), .string (rden x.price), .bool (rneg x.costs), .string (rnum x.costs), .string (rden x.costs), .slice x.A x.chs.length x.c]
structure ChOk (m : Nat) (x : Ch) : Prop where
  cl : x.cl < m
  mx : SzN x.mx
structure ItOk (m : Nat) (x : It) : Prop where
  price : SzN x.price
  costs : SzN x.costs
  len : x.chs.length ≤ 4
  chs : ∀ c ∈ x.chs, ChOk m c
/-- items in memory -/
structure ItemsM (A : Option Addr) (l : List It) (W : World) : Prop where
  rd : Rd W W.heap.size 7 A l.length (l.flatMap itV)
  chs : ∀ x ∈ l, Rd W W.heap.size 6 x.A x.chs.length (x.chs.flatMap chV)
theorem ItemsM.next {A : Option Addr} {l : List It} {W W' : World} (h : ItemsM A l W) (hb : Below W.heap.size W W') : ItemsM A l W' := ⟨h.rd.next hb, fun x hx => (h.chs x hx).next hb⟩
def procQ (x : It) : Rat := maxR (x.price - x.costs) 0
theorem maxR_or (a b : Rat) : maxR a b = a ∨ maxR a b = b := by unfold maxR; split <;> simp
theorem maxR_r {a b : Rat} : b ≤ maxR a b := by unfold maxR; split <;> grind
theorem procQ_ok {m : Nat} {x : It} (h : ItOk m x) : Sz 17 (procQ x) ∧ 0 ≤ procQ x := by
  refine ⟨?_, maxR_r⟩
  unfold procQ
  rcases maxR_or (x.price - x.costs) 0 with e | e <;> rw [e]
  · exact (Sz.sub (k := 8) (m := 8) h.price.1 h.costs.1).mono (by decide)
  · exact Sz.mono (k := 8) sz_zero (by decide)
theorem seven_of {w2 : World} {g : Nat} {a b c d e f h : Value} {T : TypeId} (hg : w2.heap[g]? = some (.cells #[a, b, c, d, e, f, h] T (0, 0))) :
    w2.cell? ⟨g, 0, none⟩ = some a ∧ w2.cell? ⟨g, 1, none⟩ = some b ∧ w2.cell? ⟨g, 2, none⟩ = some c ∧ w2.cell? ⟨g, 3, none⟩ = some d ∧ w2.cell? ⟨g, 4, none⟩ = some e ∧ w2.cell? ⟨g, 5, none⟩ = some f ∧ w2.cell? ⟨g, 6, none⟩ = some h := by
  refine ⟨?_, ?_, ?_, ?_, ?_, ?_, ?_⟩
  · rw [cell_of_row w2 g 0 _ _ (0, 0) hg]; rfl
  · rw [cell_of_row w2 g 1 _ _ (0, 0) hg]; rfl
  · rw [cell_of_row w2 g 2 _ _ (0, 0) hg]; rfl
  · rw [cell_of_row w2 g 3 _ _ (0, 0) hg]; rfl
  · rw [cell_of_row w2 g 4 _ _ (0, 0) hg]; rfl
  · rw [cell_of_row w2 g 5 _ _ (0, 0) hg]; rfl
  · rw [cell_of_row w2 g 6 _ _ (0, 0) hg]; rfl
theorem sixc_of {w2 : World} {g : Nat} {a b c d e f : Value} {T : TypeId} (hg : w2.heap[g]? = some (.cells #[a, b, c, d, e, f] T (0, 0))) :
    w2.cell? ⟨g, 0, none⟩ = some a ∧ w2.cell? ⟨g, 1, none⟩ = some b ∧ w2.cell? ⟨g, 2, none⟩ = some c ∧ w2.cell? ⟨g, 3, none⟩ = some d ∧ w2.cell? ⟨g, 4, none⟩ = some e ∧ w2.cell? ⟨g, 5, none⟩ = some f := by
  refine ⟨?_, ?_, ?_, ?_, ?_, ?_⟩
  · rw [cell_of_row w2 g 0 _ _ (0, 0) hg]; rfl
  · rw [cell_of_row w2 g 1 _ _ (0, 0) hg]; rfl
  · rw [cell_of_row w2 g 2 _ _ (0, 0) hg]; rfl
  · rw [cell_of_row w2 g 3 _ _ (0, 0) hg]; rfl
  · rw [cell_of_row w2 g 4 _ _ (0, 0) hg]; rfl
  · rw [cell_of_row w2 g 5 _ _ (0, 0) hg]; rfl
theorem maxR_nnM {m : Rat} (h : 0 ≤ m) : maxR m 0 = m := by unfold maxR; rw [if_pos h]
set_option maxHeartbeats 8000000 in
set_option maxRecDepth 100000 in
theorem proc_calls (pr co : Rat) (iA : Option Addr) (ic : Nat) (chs : List Ch) (w : World) (hp : SzN pr) (hc : SzN co) :
    Calls Tryz.prog 12 #[.agg #[.bool (rneg pr), .string (rnum pr), .string (rden pr), .bool (rneg co), .string (rnum co), .string (rden co), .slice iA chs.length ic]] w fun e w' => e = .returned (ratV (procQ ⟨pr, co, iA, ic, chs⟩)) ∧ Below w.heap.size w w' := by
  have hP1' := fun W => cPos_calls pr 8 W hp.1 (by decide) (by decide)
  have hP2' := fun W => cPos_calls co 8 W hc.1 (by decide) (by decide)
  rw [maxR_nnM hp.2] at hP1'
  rw [maxR_nnM hc.2] at hP2'
  have hS' := fun W => pSubQ_calls pr co 8 8 W hp.1 hc.1 (by decide)
  have hsz := Sz.sub hp.1 hc.1
  obtain ⟨d, hd⟩ : ∃ x, x = pr - co := ⟨_, rfl⟩
  have hq : procQ ⟨pr, co, iA, ic, chs⟩ = maxR d 0 := by rw [hd]; rfl
  rw [← hd] at hS' hsz
  have hP3' := fun W => cPos_calls d 17 W hsz (by decide) (by decide)
  rw [hq]
  obtain ⟨v, hv⟩ : ∃ x, x = maxR d 0 := ⟨_, rfl⟩
  rw [← hv] at hP3' ⊢
  unfold ratV at hP1' hP2' hS' hP3' ⊢
  have HP1 := Lib.hid hP1'
  have HP2 := Lib.hid hP2'
  have HS := Lib.hid hS'
  have HP3 := Lib.hid hP3'
  clear hP1' hP2' hS' hP3' hsz hd hq hv hp hc
  go_enter Tryz.func12, Tryz.ntmps12
  go_upto_region 1 with fail
  obtain ⟨gi, hg_gi⟩ : ∃ g, g = w.heap.size := ⟨_, rfl⟩
  obtain ⟨gr, hg_gr⟩ : ∃ g, g = w.heap.size + 1 := ⟨_, rfl⟩
  obtain ⟨w0, hw_w0⟩ : ∃ W, W = ((w.alloc (.cells #[.bool (rneg pr), .string (rnum pr), .string (rden pr), .bool (rneg co), .string (rnum co), .string (rden co), .slice iA chs.length ic] 46)).alloc (.cells #[.bool false, .string ⟨#[]⟩, .string ⟨#[]⟩] 33)) := ⟨_, rfl⟩
  have HI0 : Hid (Bk gi (.cells #[.bool (rneg pr), .string (rnum pr), .string (rden pr), .bool (rneg co), .string (rnum co), .string (rden co), .slice iA chs.length ic] 46) w0) := by rw [hw_w0, hg_gi]; exact blk_alloc (blk_new _ _)
  have HR0 : Hid (Bk gr (.cells #[.bool false, .string ⟨#[]⟩, .string ⟨#[]⟩] 33) w0) := by rw [hw_w0, hg_gr]; exact blk_new1 _ _ _
  have HB0 : Hid (Below w.heap.size w w0) := by rw [hw_w0]; exact (bel_alloc _ _).alloc (by simp) _
  have HL_0 := Lib.hid (And.intro (by omega : w.heap.size ≤ gi) ((by omega : gi < gr)))
  rw [← hw_w0]
  (try rw [← hg_gr]); (try rw [← hg_gi])
  clear hw_w0 hg_gi hg_gr
  obtain ⟨w1, hw_w1⟩ : ∃ W, W = w0.drew := ⟨_, rfl⟩
  have HI1 : Hid (Bk gi (.cells #[.bool (rneg pr), .string (rnum pr), .string (rden pr), .bool (rneg co), .string (rnum co), .string (rden co), .slice iA chs.length ic] 46) w1) := by rw [hw_w1]; exact HI0.out
  have HR1 : Hid (Bk gr (.cells #[.bool false, .string ⟨#[]⟩, .string ⟨#[]⟩] 33) w1) := by rw [hw_w1]; exact HR0.out
  have HB1 : Hid (Below w.heap.size w w1) := by rw [hw_w1]; exact HB0.out.drew
  have hS1 : (Bk gi (.cells #[.bool (rneg pr), .string (rnum pr), .string (rden pr), .bool (rneg co), .string (rnum co), .string (rden co), .slice iA chs.length ic] 46)) w1 := HI1.out
  refine wp_region_held_drew (S := (Bk gi (.cells #[.bool (rneg pr), .string (rnum pr), .string (rden pr), .bool (rneg co), .string (rnum co), .string (rden co), .slice iA chs.length ic] 46))) (by kernel_rfl) (by rw [← hw_w1]; exact hS1) ?_
  rw [← hw_w1]
  intro _
  clear hw_w1 HI0 HR0 HB0
  refine wpAnyH_take (i := 0) rfl (by kernel_rfl) (by kernel_rfl) (by kernel_rfl) (fun _ _ _ h => h) (Or.inl ⟨by kernel_rfl, (by intro w' _; go_simp; with_reducible rfl)⟩) hS1 ?_
  go_simp
  refine wpAnyH_take (i := 1) (v := .agg #[.bool (rneg pr), .string (rnum pr), .string (rden pr)]) rfl (by kernel_rfl) (by kernel_rfl) (by kernel_rfl) (fun _ _ _ h => h) (Or.inl ⟨by kernel_rfl, (by intro w' hw'; obtain ⟨k0, k1, k2, k3, k4, k5, k6⟩ := seven_of hw'; go_simp)⟩) hS1 ?_
  go_simp
  refine wpAnyH_take (i := 3) rfl (by kernel_rfl) (by kernel_rfl) (by kernel_rfl) (fun _ _ _ h => h) (Or.inl ⟨by kernel_rfl, (by intro w' _; go_simp; with_reducible rfl)⟩) hS1 ?_
  go_simp
  refine wpAnyH_take (i := 4) (v := .agg #[.bool (rneg co), .string (rnum co), .string (rden co)]) rfl (by kernel_rfl) (by kernel_rfl) (by kernel_rfl) (fun _ _ _ h => h) (Or.inl ⟨by kernel_rfl, (by intro w' hw'; obtain ⟨k0, k1, k2, k3, k4, k5, k6⟩ := seven_of hw'; go_simp)⟩) hS1 ?_
  go_simp
  refine wpAnyH_ready (rs := [2]) (by kernel_rfl) (by simp) ?_
  refine AllReadyH.cons rfl (fun K hK => ?_) AllReadyH.nil
  go_simp
  refine (HP1.out _).mono ?_
  rintro e w2 ⟨rfl, hb⟩
  have HI2 : Hid (Bk gi (.cells #[.bool (rneg pr), .string (rnum pr), .string (rden pr), .bool (rneg co), .string (rnum co), .string (rden co), .slice iA chs.length ic] 46) w2) := blk_next HI1.out hb
  have HR2 : Hid (Bk gr (.cells #[.bool false, .string ⟨#[]⟩, .string ⟨#[]⟩] 33) w2) := blk_next HR1.out hb
  have HB2 : Hid (Below w.heap.size w w2) := HB1.out.trans (hb.mono HB1.out.size)
  clear hb HI1 HR1 HB1
  have hS2 : (Bk gi (.cells #[.bool (rneg pr), .string (rnum pr), .string (rden pr), .bool (rneg co), .string (rnum co), .string (rden co), .slice iA chs.length ic] 46)) w2 := HI2.out
  refine hK.out _ _ hS2 (fun _ => ?_)
  clear hK K
  refine wpAnyH_ready (rs := [5]) (by kernel_rfl) (by simp) ?_
  refine AllReadyH.cons rfl (fun K hK => ?_) AllReadyH.nil
  go_simp
  refine (HP2.out _).mono ?_
  rintro e w3 ⟨rfl, hb⟩
  have HI3 : Hid (Bk gi (.cells #[.bool (rneg pr), .string (rnum pr), .string (rden pr), .bool (rneg co), .string (rnum co), .string (rden co), .slice iA chs.length ic] 46) w3) := blk_next HI2.out hb
  have HR3 : Hid (Bk gr (.cells #[.bool false, .string ⟨#[]⟩, .string ⟨#[]⟩] 33) w3) := blk_next HR2.out hb
  have HB3 : Hid (Below w.heap.size w w3) := HB2.out.trans (hb.mono HB2.out.size)
  clear hb HI2 HR2 HB2
  have hS3 : (Bk gi (.cells #[.bool (rneg pr), .string (rnum pr), .string (rden pr), .bool (rneg co), .string (rnum co), .string (rden co), .slice iA chs.length ic] 46)) w3 := HI3.out
  refine hK.out _ _ hS3 (fun _ => ?_)
  clear hK K
  refine wpAnyH_ready (rs := [6]) (by kernel_rfl) (by simp) ?_
  refine AllReadyH.cons rfl (fun K hK => ?_) AllReadyH.nil
  go_simp
  refine (HS.out _).mono ?_
  rintro e w4 ⟨rfl, hb⟩
  have HI4 : Hid (Bk gi (.cells #[.bool (rneg pr), .string (rnum pr), .string (rden pr), .bool (rneg co), .string (rnum co), .string (rden co), .slice iA chs.length ic] 46) w4) := blk_next HI3.out hb
  have HR4 : Hid (Bk gr (.cells #[.bool false, .string ⟨#[]⟩, .string ⟨#[]⟩] 33) w4) := blk_next HR3.out hb
  have HB4 : Hid (Below w.heap.size w w4) := HB3.out.trans (hb.mono HB3.out.size)
  clear hb HI3 HR3 HB3
  have hS4 : (Bk gi (.cells #[.bool (rneg pr), .string (rnum pr), .string (rden pr), .bool (rneg co), .string (rnum co), .string (rden co), .slice iA chs.length ic] 46)) w4 := HI4.out
  refine hK.out _ _ hS4 (fun _ => ?_)
  clear hK K
  refine wpAnyH_ready (rs := [7]) (by kernel_rfl) (by simp) ?_
  refine AllReadyH.cons rfl (fun K hK => ?_) AllReadyH.nil
  go_simp
  refine (HP3.out _).mono ?_
  rintro e w5 ⟨rfl, hb⟩
  have HI5 : Hid (Bk gi (.cells #[.bool (rneg pr), .string (rnum pr), .string (rden pr), .bool (rneg co), .string (rnum co), .string (rden co), .slice iA chs.length ic] 46) w5) := blk_next HI4.out hb
  have HR5 : Hid (Bk gr (.cells #[.bool false, .string ⟨#[]⟩, .string ⟨#[]⟩] 33) w5) := blk_next HR4.out hb
  have HB5 : Hid (Below w.heap.size w w5) := HB4.out.trans (hb.mono HB4.out.size)
  clear hb HI4 HR4 HB4
  have hS5 : (Bk gi (.cells #[.bool (rneg pr), .string (rnum pr), .string (rden pr), .bool (rneg co), .string (rnum co), .string (rden co), .slice iA chs.length ic] 46)) w5 := HI5.out
  refine hK.out _ _ hS5 (fun _ => ?_)
  clear hK K
  refine wpAnyH_ready (rs := [8]) (by kernel_rfl) (by simp) ?_
  refine AllReadyH.cons rfl (fun K hK => ?_) AllReadyH.nil
  obtain ⟨c0, c1, c2, fc0, fc1, fc2, hzc⟩ := three_of HR5.out
  go_simp
  clear c0 c1 c2 fc0 fc1 fc2 hzc
  obtain ⟨w6, hw_w6⟩ : ∃ W, W = (((w5.setCell ⟨gr, 0, none⟩ (.bool (rneg v))).setCell ⟨gr, 1, none⟩ (.string (rnum v))).setCell ⟨gr, 2, none⟩ (.string (rden v))) := ⟨_, rfl⟩
  have ho : Only gr w5 w6 := by rw [hw_w6]; exact (((Only.refl _ _).setC _ _).setC _ _).setC _ _
  have HI6 : Hid (Bk gi (.cells #[.bool (rneg pr), .string (rnum pr), .string (rden pr), .bool (rneg co), .string (rnum co), .string (rden co), .slice iA chs.length ic] 46) w6) := blk_onlyW HI5.out ho (by have := HL_0.out; omega)
  have HB6 : Hid (Below w.heap.size w w6) := HB5.out.trans (ho.at_ _ HB5.out.size (by have := HL_0.out; omega))
  have HR6 : Hid (Bk gr (.cells #[.bool (rneg v), .string (rnum v), .string (rden v)] 33) w6) := by rw [hw_w6]; exact heap_setCell_same _ gr 2 _ _ (.string (rden v)) (heap_setCell_same _ gr 1 _ _ (.string (rnum v)) (heap_setCell_same _ gr 0 _ _ (.bool (rneg v)) (HR5.out)))
  rw [← hw_w6]
  clear hw_w6 ho HR5 HI5 HB5
  have hS6 : (Bk gi (.cells #[.bool (rneg pr), .string (rnum pr), .string (rden pr), .bool (rneg co), .string (rnum co), .string (rden co), .slice iA chs.length ic] 46)) w6 := HI6.out
  refine hK.out _ _ hS6 (fun _ => ?_)
  clear hK K
  refine wpAnyH_done (by kernel_rfl) ?_ _
  obtain ⟨c0, c1, c2, fc0, fc1, fc2, hzc⟩ := three_of HR6.out
  go_wp2_with fail
  exact bodyPost_ret (v := .agg #[.bool (rneg v), .string (rnum v), .string (rden v)]) (by simp [results, Tryz.results12, go_sem, c0, c1, c2]) rfl ⟨rfl, HB6.out⟩
set_option maxHeartbeats 8000000 in
set_option maxRecDepth 100000 in
theorem ck1_calls (q : Rat) (w : World) (hq : SzN q) : Calls Tryz.prog 57 #[ratV q] w fun e w' => e = .returned (.bool false) ∧ Below w.heap.size w w' := by
  have hS' := fun W => pSignQ_calls q 8 W hq.1 (by decide)
  have hs := sgn_nn hq.2
  obtain ⟨y, hy⟩ : ∃ y, y = sgnR q := ⟨_, rfl⟩
  rw [← hy] at hS' hs
  have d1 : decide (y < 0) = false := decide_eq_false (by omega)
  unfold ratV at hS' ⊢
  have HS := Lib.hid hS'
  clear hS' hy hs hq
  go_enter Tryz.func57, Tryz.ntmps57
  go_wp2_with fail
  obtain ⟨ga, hg_ga⟩ : ∃ g, g = w.heap.size := ⟨_, rfl⟩
  obtain ⟨w0, hw_w0⟩ : ∃ W, W = (w.alloc (.cells #[.bool (rneg q), .string (rnum q), .string (rden q)] 33)) := ⟨_, rfl⟩
  have HA0 : Hid (Bk ga (.cells #[.bool (rneg q), .string (rnum q), .string (rden q)] 33) w0) := by rw [hw_w0, hg_ga]; exact blk_new _ _
  have HB0 : Hid (Below w.heap.size w w0) := by rw [hw_w0]; exact bel_alloc _ _
  have HL_0 := Lib.hid ((by omega : w.heap.size ≤ ga))
  rw [← hw_w0]
  (try rw [← hg_ga])
  clear hw_w0 hg_ga
  refine (HS.out _).mono ?_
  rintro e w1 ⟨rfl, hb⟩
  have HA1 : Hid (Bk ga (.cells #[.bool (rneg q), .string (rnum q), .string (rden q)] 33) w1) := blk_next HA0.out hb
  have HB1 : Hid (Below w.heap.size w w1) := HB0.out.trans (hb.mono HB0.out.size)
  clear hb HA0 HB0
  go_wp2_with fail
  go_ret
  exact ⟨rfl, HB1.out⟩
set_option maxHeartbeats 8000000 in
set_option maxRecDepth 100000 in
theorem idxF_calls (A : Option Addr) (n c : Nat) (l : List Rat) (w : World) (hn : n = l.length) (h8 : n ≤ 1000) (hr : Rd w w.heap.size 3 A l.length (l.flatMap rtV)) (hs : ∀ q ∈ l, SzN q) :
    Calls Tryz.prog 90 #[.slice A n c, .func (.func 57) #[] #[]] w fun e w' => e = .returned (.int .i64 (-1)) ∧ Below w.heap.size w w' := by
  have HC := Lib.hid (fun (q : Rat) (hq : q ∈ l) W => ck1_calls q W (hs q hq))
  have HRL := Lib.hid (And.intro hn hr)
  have hn8 : n ≤ 1000 := h8
  clear hn hr hs h8
  go_enter Tryz.func90, Tryz.ntmps90
  go_wp2_with fail
  go_loopw [8] (fun i wr => ∃ k : Nat, k ≤ n ∧ i = .int .i64 (k : Int) ∧ Hid (Below w.heap.size w wr)) (fun i _ => n - (intOf i).toNat)
  case atStart => exact ⟨0, Nat.zero_le _, rfl, Below.refl _ _⟩
  case round =>
    obtain ⟨k, hk, rfl, HB⟩ := hrel
    rename World => wo
    by_cases hlt : k < n
    · have hlt2 : (k : Int) < (n : Int) := by omega
      obtain ⟨q, hq⟩ := getElem?_of_lt (l := l) (k := k) (by rw [← HRL.out.1]; exact hlt)
      have hC' := HC.out q (List.mem_of_getElem? hq)
      obtain ⟨b, off, hA, _, hc⟩ := Rd.at_ (enc := rtV) rtV_len (HRL.out.2.next HB.out) hq
      subst hA
      have p0 := hc 0 _ rfl
      have p1 := hc 1 _ rfl
      have p2 := hc 2 _ rfl
      rw [Nat.add_zero] at p0
      rw [← Nat.add_assoc] at p1 p2
      unfold ratV at hC'
      have HC1 := Lib.hid hC'
      clear hc hq hC'
      go_wp2_with fail
      clear p0 p1 p2
      refine (HC1.out _).mono ?_
      rintro e x1 ⟨rfl, hb⟩
      have HB1 : Hid (Below w.heap.size w x1) := HB.out.trans (hb.mono HB.out.size)
      clear hb HB
      go_wp2_with fail
      go_roundw
      case measure => simp [intOf] <;> omega
      case rel => exact ⟨k + 1, by omega, by go_num, HB1⟩
    · have hlt2 : ¬ (k : Int) < (n : Int) := by omega
      go_wp2_with fail
      go_ret
      exact ⟨rfl, HB.out⟩
set_option maxHeartbeats 8000000 in
set_option maxRecDepth 100000 in
theorem conF_calls (A : Option Addr) (n c : Nat) (l : List Rat) (w : World) (hn : n = l.length) (h8 : n ≤ 1000) (hr : Rd w w.heap.size 3 A l.length (l.flatMap rtV)) (hs : ∀ q ∈ l, SzN q) :
    Calls Tryz.prog 56 #[.slice A n c, .func (.func 57) #[] #[]] w fun e w' => e = .returned (.bool false) ∧ Below w.heap.size w w' := by
  have HI := Lib.hid (idxF_calls A n c l w hn h8 hr hs)
  have HB0 : Hid (Below w.heap.size w w) := Below.refl _ _
  clear hn hr hs h8
  go_enter Tryz.func56, Tryz.ntmps56
  go_wp2_with fail
  refine (HI.out).mono ?_
  rintro e w1 ⟨rfl, hb⟩
  have HB1 : Hid (Below w.heap.size w w1) := HB0.out.trans (hb.mono HB0.out.size)
  clear hb HB0
  go_wp2_with fail
  go_ret
  exact ⟨rfl, HB1.out⟩
set_option maxHeartbeats 8000000 in
set_option maxRecDepth 100000 in
theorem mCheck_calls (A B : Option Addr) (n c m cb : Nat) (l : List It) (os : List Rat) (w : World) (hn : n = l.length) (h4 : n ≤ 4) (hM : ItemsM A l w) (hok : ∀ x ∈ l, ItOk m x) (hm : m = os.length) (h24 : m ≤ 24) (hro : Rd w w.heap.size 3 B os.length (os.flatMap rtV)) (hso : ∀ q ∈ os, SzN q) :
    Calls Tryz.prog 27 #[.slice A n c, .slice B m cb] w fun e w' => e = .returned (.int .i64 0) ∧ Below w.heap.size w w' := by
  have hCF' := conF_calls B m cb os w hm (by omega) hro hso
  have HCF := Lib.hid hCF'
  have HSG := Lib.hid (fun (q : Rat) (hq : SzN q) W => pSignQ_calls q 8 W hq.1 (by decide))
  have HRL := Lib.hid (And.intro hn (And.intro hM (And.intro hok hm)))
  have hn4 : n ≤ 4 := h4
  have hm24 : m ≤ 24 := h24
  clear hCF' hn hM hok hm hro hso h4 h24
  go_enter Tryz.func27, Tryz.ntmps27
  go_wp2_with fail
  have HB0 : Hid (Below w.heap.size w w) := Below.refl _ _
  refine (HCF.out).mono ?_
  rintro e w1 ⟨rfl, hb⟩
  have HB1 : Hid (Below w.heap.size w w1) := HB0.out.trans (hb.mono HB0.out.size)
  clear hb HB0
  clear HCF
  go_wp2_with fail
  go_loopw [21] (fun i wr => ∃ k : Nat, k ≤ n ∧ i = .int .i64 (k : Int) ∧ Hid (Below w.heap.size w wr)) (fun i _ => n - (intOf i).toNat)
  case atStart => exact ⟨0, Nat.zero_le _, rfl, HB1⟩
  case round =>
    clear HB1
    obtain ⟨k, hk, rfl, HB⟩ := hrel
    rename World => wo
    by_cases hlt : k < n
    · have hlt2 : (k : Int) < (n : Int) := by omega
      obtain ⟨x, hx⟩ := getElem?_of_lt (l := l) (k := k) (by rw [← HRL.out.1]; exact hlt)
      have hxo := HRL.out.2.2.1 x (List.mem_of_getElem? hx)
      have hxc := HRL.out.2.1.chs x (List.mem_of_getElem? hx)
      obtain ⟨b, off, hA, _, hc⟩ := Rd.at_ (enc := itV) (fun _ => rfl) (HRL.out.2.1.rd.next HB.out) hx
      subst hA
      have p0 := hc 0 _ rfl
      have p1 := hc 1 _ rfl
      have p2 := hc 2 _ rfl
      have p3 := hc 3 _ rfl
      have p4 := hc 4 _ rfl
      have p5 := hc 5 _ rfl
      have p6 := hc 6 _ rfl
      rw [Nat.add_zero] at p0
      rw [← Nat.add_assoc] at p1 p2 p3 p4 p5 p6
      obtain ⟨pr, co, iA, ic, chs⟩ := x
      dsimp only at p0 p1 p2 p3 p4 p5 p6 hxc
      have hS1' := HSG.out pr hxo.price
      have hS2' := HSG.out co hxo.costs
      have hg1 := sgn_nn hxo.price.2
      have hg2 := sgn_nn hxo.costs.2
      dsimp only at hg1 hg2
      obtain ⟨y1, hy1⟩ : ∃ y, y = sgnR pr := ⟨_, rfl⟩
      obtain ⟨y2, hy2⟩ : ∃ y, y = sgnR co := ⟨_, rfl⟩
      rw [← hy1] at hS1' hg1
      rw [← hy2] at hS2' hg2
      have d1 : decide (y1 < 0) = false := decide_eq_false (by omega)
      have d2 : decide (y2 < 0) = false := decide_eq_false (by omega)
      unfold ratV at hS1' hS2'
      have HS1 := Lib.hid hS1'
      have HS2 := Lib.hid hS2'
      have HXO := Lib.hid (And.intro hxo hxc)
      have hl4 : chs.length ≤ 4 := hxo.len
      have d3 : decide (8 < (chs.length : Int)) = false := decide_eq_false (by omega)
      clear hc hx hS1' hS2' hg1 hg2 hy1 hy2 hxo hxc
      obtain ⟨q0, q1, q2, q3, q4, q5, q6⟩ := seven_of (blk_new wo (.cells #[.bool (rneg pr), .string (rnum pr), .string (rden pr), .bool (rneg co), .string (rnum co), .string (rden co), .slice iA chs.length ic] 46))
      go_wp2_with fail
      clear p0 p1 p2 p3 p4 p5 p6 q0 q1 q2 q3 q4 q5 q6
      obtain ⟨gi, hg_gi⟩ : ∃ g, g = wo.heap.size := ⟨_, rfl⟩
      obtain ⟨x1, hw_x1⟩ : ∃ W, W = wo.alloc (.cells #[.bool (rneg pr), .string (rnum pr), .string (rden pr), .bool (rneg co), .string (rnum co), .string (rden co), .slice iA chs.length ic] 46) := ⟨_, rfl⟩
      have HL_gi := Lib.hid ((by have := HB.out.size; omega : w.heap.size ≤ gi))
      have HB1 : Hid (Below w.heap.size w x1) := by rw [hw_x1]; exact HB.out.trans ((bel_alloc _ _).mono HB.out.size)
      have HI1 : Hid (Bk gi (.cells #[.bool (rneg pr), .string (rnum pr), .string (rden pr), .bool (rneg co), .string (rnum co), .string (rden co), .slice iA chs.length ic] 46) x1) := by rw [hw_x1, hg_gi]; exact blk_new _ _
      rw [← hw_x1]
      (try rw [← hg_gi])
      clear hw_x1 hg_gi HB
      refine (HS1.out _).mono ?_
      rintro e x2 ⟨rfl, hb⟩
      have HB2 : Hid (Below w.heap.size w x2) := HB1.out.trans (hb.mono HB1.out.size)
      have HI2 : Hid (Bk gi (.cells #[.bool (rneg pr), .string (rnum pr), .string (rden pr), .bool (rneg co), .string (rnum co), .string (rden co), .slice iA chs.length ic] 46) x2) := blk_next HI1.out hb
      clear hb HB1 HI1
      obtain ⟨q0, q1, q2, q3, q4, q5, q6⟩ := seven_of HI2.out
      go_wp2_with fail
      clear q0 q1 q2 q3 q4 q5 q6
      refine (HS2.out _).mono ?_
      rintro e x3 ⟨rfl, hb⟩
      have HB3 : Hid (Below w.heap.size w x3) := HB2.out.trans (hb.mono HB2.out.size)
      have HI3 : Hid (Bk gi (.cells #[.bool (rneg pr), .string (rnum pr), .string (rden pr), .bool (rneg co), .string (rnum co), .string (rden co), .slice iA chs.length ic] 46) x3) := blk_next HI2.out hb
      clear hb HB2 HI2
      obtain ⟨q0, q1, q2, q3, q4, q5, q6⟩ := seven_of HI3.out
      go_wp2_with fail
      clear q0 q1 q2 q3 q4 q5 q6
      go_loopw [42] (fun i2 wr => ∃ q : Nat, q ≤ chs.length ∧ i2 = .int .i64 (q : Int) ∧ Hid (Below w.heap.size w wr)) (fun i2 _ => chs.length - (intOf i2).toNat)
      case atStart => exact ⟨0, Nat.zero_le _, rfl, HB3⟩
      case round =>
        clear HB3 HI3
        obtain ⟨q, hq, rfl, HB⟩ := hrel
        rename World => wi
        by_cases hql : q < chs.length
        · have hlt3 : (q : Int) < (chs.length : Int) := by omega
          obtain ⟨y, hy⟩ := getElem?_of_lt (l := chs) (k := q) hql
          have hyo := HXO.out.1.chs y (List.mem_of_getElem? hy)
          obtain ⟨b2, off2, hA2, _, hc2⟩ := Rd.at_ (enc := chV) (fun _ => rfl) (HXO.out.2.next HB.out) hy
          subst hA2
          have p0 := hc2 0 _ rfl
          have p1 := hc2 1 _ rfl
          have p2 := hc2 2 _ rfl
          have p3 := hc2 3 _ rfl
          have p4 := hc2 4 _ rfl
          have p5 := hc2 5 _ rfl
          rw [Nat.add_zero] at p0
          rw [← Nat.add_assoc] at p1 p2 p3 p4 p5
          obtain ⟨cl, cp, lm, mx⟩ := y
          dsimp only at p0 p1 p2 p3 p4 p5
          have hclm : (cl : Int) < (m : Int) := by have := hyo.cl; dsimp only at this; omega
          have e1 : decide ((cl : Int) < 0) = false := decide_eq_false (by omega)
          have e2 : decide ((m : Int) ≤ (cl : Int)) = false := decide_eq_false (by omega)
          have e2' : decide (m ≤ cl) = false := decide_eq_false (by omega)
          have hS3' := HSG.out mx hyo.mx
          have hg3 := sgn_nn hyo.mx.2
          dsimp only at hg3
          obtain ⟨y3, hy3⟩ : ∃ y, y = sgnR mx := ⟨_, rfl⟩
          rw [← hy3] at hS3' hg3
          have d4 : decide (y3 < 0) = false := decide_eq_false (by omega)
          unfold ratV at hS3'
          have HS3 := Lib.hid hS3'
          clear hc2 hy hyo hS3' hg3 hy3
          cases lm
          · obtain ⟨q0, q1, q2, q3, q4, q5⟩ := sixc_of (blk_new wi (.cells #[.int .i64 (cl : Int), .int .i64 cp, .bool false, .bool (rneg mx), .string (rnum mx), .string (rden mx)] 84))
            go_wp2_with fail
            clear p0 p1 p2 p3 p4 p5 q0 q1 q2 q3 q4 q5
            have HBn : Hid (Below w.heap.size w (wi.alloc (.cells #[.int .i64 (cl : Int), .int .i64 cp, .bool false, .bool (rneg mx), .string (rnum mx), .string (rden mx)] 84))) := HB.out.alloc HB.out.size _
            go_roundw
            case measure => simp [intOf] <;> omega
            case rel => exact ⟨q + 1, by omega, by go_num, HBn⟩
          · obtain ⟨q0, q1, q2, q3, q4, q5⟩ := sixc_of (blk_new wi (.cells #[.int .i64 (cl : Int), .int .i64 cp, .bool true, .bool (rneg mx), .string (rnum mx), .string (rden mx)] 84))
            go_wp2_with fail
            clear p0 p1 p2 p3 p4 p5 q0 q1 q2 q3 q4 q5
            obtain ⟨gc, hg_gc⟩ : ∃ g, g = wi.heap.size := ⟨_, rfl⟩
            obtain ⟨y1, hw_y1⟩ : ∃ W, W = wi.alloc (.cells #[.int .i64 (cl : Int), .int .i64 cp, .bool true, .bool (rneg mx), .string (rnum mx), .string (rden mx)] 84) := ⟨_, rfl⟩
            have HL_gc := Lib.hid ((by have := HB.out.size; omega : w.heap.size ≤ gc))
            have HB1 : Hid (Below w.heap.size w y1) := by rw [hw_y1]; exact HB.out.trans ((bel_alloc _ _).mono HB.out.size)
            have HC1 : Hid (Bk gc (.cells #[.int .i64 (cl : Int), .int .i64 cp, .bool true, .bool (rneg mx), .string (rnum mx), .string (rden mx)] 84) y1) := by rw [hw_y1, hg_gc]; exact blk_new _ _
            rw [← hw_y1]
            (try rw [← hg_gc])
            clear hw_y1 hg_gc HB
            refine (HS3.out _).mono ?_
            rintro e y2 ⟨rfl, hb⟩
            have HB2 : Hid (Below w.heap.size w y2) := HB1.out.trans (hb.mono HB1.out.size)
            have HC2 : Hid (Bk gc (.cells #[.int .i64 (cl : Int), .int .i64 cp, .bool true, .bool (rneg mx), .string (rnum mx), .string (rden mx)] 84) y2) := blk_next HC1.out hb
            clear hb HB1 HC1
            go_wp2_with fail
            go_roundw
            case measure => simp [intOf] <;> omega
            case rel => exact ⟨q + 1, by omega, by go_num, HB2⟩
        · have hlt3 : ¬ (q : Int) < (chs.length : Int) := by omega
          go_wp2_with fail
          go_roundw
          case measure => simp [intOf] <;> omega
          case rel => exact ⟨k + 1, by omega, by go_num, HB⟩
    · have hlt2 : ¬ (k : Int) < (n : Int) := by omega
      go_wp2_with fail
      go_ret
      exact ⟨rfl, HB.out⟩

end Go.Proofs.YtjlicnhkemfmiaaGreatDoor

/- insolvencyref33.Decode. -/
import Derived.Test.YtcljkdjmmolfoaaDoorPDec
set_option linter.unusedVariables false
set_option linter.unusedSimpArgs false
namespace Go.Proofs.YtcljkdjmmolfoaaDoor
open Go.RowKit

theorem setCells_list (b : Nat) (T : TypeId) : ∀ (vs pre old post : List Value) (W : World), W.heap[b]? = some (.cells (pre ++ old ++ post).toArray T (0, 0)) → old.length = vs.length → (W.setCells b pre.length vs).heap[b]? = some (.cells (pre ++ vs ++ post).toArray T (0, 0))
  | [], pre, old, post, W, h, hl => by
    obtain rfl : old = [] := List.eq_nil_of_length_eq_zero hl
    exact h
  | v :: r, pre, old, post, W, h, hl => by
    cases old with
    | nil => simp at hl
    | cons x old =>
      have h1 := heap_setCell_same W b pre.length _ _ v h
      have e : (pre ++ x :: old ++ post).toArray.setIfInBounds pre.length v = ((pre ++ [v]) ++ old ++ post).toArray := by
        rw [List.setIfInBounds_toArray]
        congr 1
        simp
      rw [e] at h1
      have h2 := setCells_list b T r (pre ++ [v]) old post _ h1 (by simpa using hl)
      rw [World.setCells]
      rw [List.length_append, List.length_singleton] at h2
      simpa using h2
theorem wpList_val {P : Program} {ops : Array Oper} {Q : Exit → Act → World → Prop} {a : Act} {w : World} {rest : List Oper} {o : Oper} {v : Value} (hg : o.guard = none) (hr : (execOp a.eval o).run P w = .ok (.value v) w) (h : wpList P ops Q rest (a.put o.dst v) w) : wpList P ops Q (o :: rest) a w :=
  wpList_plain hg fun K hK => by unfold Oper.wp; rw [hr]; exact hK _ _ h
theorem arr_step {L : List Int} {k n : Nat} (hL : L.length = k) (hk : k < n) (z : Int) :
    ((L ++ List.replicate (n - k) 0).map (Value.int .i64)).toArray.setIfInBounds k (.int .i64 z) = ((L ++ [z] ++ List.replicate (n - (k + 1)) 0).map (Value.int .i64)).toArray := by
  rw [List.setIfInBounds_toArray]
  congr 1
  rw [show n - k = (n - (k + 1)) + 1 by omega, List.replicate_succ]
  subst hL
  simp
def ArrN (q k n : Nat) (L : List Int) (T : TypeId) (W : World) : Prop := W.heap[q]? = some (.cells ((L ++ List.replicate (n - k) 0).map (Value.int .i64)).toArray T (0, 0))
theorem ArrN.cell {q k n : Nat} {L : List Int} {T : TypeId} {W : World} (h : ArrN q k n L T W) (hL : L.length = k) (hk : k < n) : W.cell? ⟨q, k, none⟩ = some (.int .i64 0) ∧ W.frozen? ⟨q, k, none⟩ = false ∧ q < W.heap.size := by
  refine ⟨?_, frozen_of_row W q k _ _ h, (Array.getElem?_eq_some_iff.1 h).1⟩
  rw [cell_of_row W q k _ _ (0, 0) h]
  rw [show n - k = (n - (k + 1)) + 1 by omega, List.replicate_succ]
  subst hL
  simp
theorem ArrN.step {q k n : Nat} {L : List Int} {T : TypeId} {W : World} (h : ArrN q k n L T W) (hL : L.length = k) (hk : k < n) (z : Int) : ArrN q (k + 1) n (L ++ [z]) T (W.setCell ⟨q, k, none⟩ (.int .i64 z)) := by
  have h1 := heap_setCell_same W q k _ _ (.int .i64 z) h
  rw [arr_step hL hk z] at h1
  exact h1
def BoxX (q : Nat) (x : RQ) (W : World) : Prop := W.heap[q]? = some (.cells #[.bool x.neg, .string x.num, .string x.den] 30 (0, 0))
/-- ahead of the last test -/
def FinS (w : World) (g qr : Nat) (A : Option Addr) (b : List Nat) (A' : Option Addr) (n' c' : Nat) (bad : Bool) (z1 z2 z3 z4 z5 z6 : Int) (a c : RQ) (A1 : Option Addr) (n1 c1 : Nat) (A2 : Option Addr) (n2 c2 : Nat) (A3 : Option Addr) (n3 c3 : Nat) (W : World) : Prop :=
  RecS qr z1 z2 z3 z4 z5 z6 a.neg a.num a.den c.neg c.num c.den A1 n1 c1 A2 n2 c2 A3 n3 c3 W ∧ W.heap[g]? = some (.cells #[.slice A' n' c', .bool bad] 96 (0, 0)) ∧ KRd .u8 W w.heap.size A b ∧ Below w.heap.size w W
section
variable {w : World} {g qr : Nat} {A : Option Addr} {b : List Nat} {A' : Option Addr} {n' c' : Nat} {bad : Bool} {z1 z2 z3 z4 z5 z6 : Int} {a c : RQ} {A1 : Option Addr} {n1 c1 : Nat} {A2 : Option Addr} {n2 c2 : Nat} {A3 : Option Addr} {n3 c3 : Nat} {W W' : World}
theorem FinS.next (h : FinS w g qr A b A' n' c' bad z1 z2 z3 z4 z5 z6 a c A1 n1 c1 A2 n2 c2 A3 n3 c3 W) (hb : Below W.heap.size W W') : FinS w g qr A b A' n' c' bad z1 z2 z3 z4 z5 z6 a c A1 n1 c1 A2 n2 c2 A3 n3 c3 W' :=
  ⟨blk_next h.1 hb, blk_next h.2.1 hb, h.2.2.1.below (hb.mono h.2.2.2.size), h.2.2.2.trans (hb.mono h.2.2.2.size)⟩
theorem FinS.drew (h : FinS w g qr A b A' n' c' bad z1 z2 z3 z4 z5 z6 a c A1 n1 c1 A2 n2 c2 A3 n3 c3 W) : FinS w g qr A b A' n' c' bad z1 z2 z3 z4 z5 z6 a c A1 n1 c1 A2 n2 c2 A3 n3 c3 W.drew := ⟨h.1, h.2.1, h.2.2.1, h.2.2.2.drew⟩
theorem FinS.rd (h : FinS w g qr A b A' n' c' bad z1 z2 z3 z4 z5 z6 a c A1 n1 c1 A2 n2 c2 A3 n3 c3 W) : W.cell? ⟨g, 0, none⟩ = some (.slice A' n' c') ∧ W.cell? ⟨g, 1, none⟩ = some (.bool bad) := by
  refine ⟨?_, ?_⟩
  · rw [cell_of_row W g 0 _ _ (0, 0) h.2.1]; rfl
  · rw [cell_of_row W g 1 _ _ (0, 0) h.2.1]; rfl
end

set_option maxHeartbeats 4000000 in
set_option maxRecDepth 100000 in
theorem dDecode_long (A : Option Addr) (n cb : Nat) (b : List Nat) (w : World) (hn : n = b.length) (hbig : 4096 < n) (hmx : n ≤ maxLen) :
    Calls Tryd.prog 26 #[.slice A n cb] w (DecPost (decBy dNum dRat b) w) := by
  have hd : decide ((4096 : Int) < (n : Int)) = true := decide_eq_true (by omega)
  have HNO : Hid (decBy dNum dRat b = none) := dec_none (fun h => by have := h.1; omega)
  unfold maxLen at hmx
  clear hn hbig
  obtain ⟨w0, hw0⟩ : ∃ W, W = w.alloc zeroRec := ⟨_, rfl⟩
  have HB0 : Hid (Below w.heap.size w w0) := by rw [hw0]; exact bel_alloc _ _
  have HZ0 : Hid (w0.heap[w.heap.size]? = some zeroRec) := by rw [hw0]; exact blk_new _ _
  unfold zeroRec at hw0
  go_enter Tryd.func26, Tryd.ntmps26
  go_upto_region 1 with fail
  rw [← hw0]
  clear hw0
  have hZ := HZ0.out
  unfold zeroRec at hZ
  have htb := there_block (n := 15) hZ (by decide)
  have HZQ : Hid ((w0.setCells w.heap.size 0 [.int .i64 0, .int .i64 0, .int .i64 0, .int .i64 0, .int .i64 0, .int .i64 0, .bool false, .string ⟨#[]⟩, .string ⟨#[]⟩, .bool false, .string ⟨#[]⟩, .string ⟨#[]⟩, .slice none 0 0, .slice none 0 0, .slice none 0 0]).heap[w.heap.size]? = some (.cells #[.int .i64 0, .int .i64 0, .int .i64 0, .int .i64 0, .int .i64 0, .int .i64 0, .bool false, .string ⟨#[]⟩, .string ⟨#[]⟩, .bool false, .string ⟨#[]⟩, .string ⟨#[]⟩, .slice none 0 0, .slice none 0 0, .slice none 0 0] 37 (0, 0))) := setCells_whole hZ rfl
  clear hZ
  go_wp2_with (refine wpList_store_mid rfl 37 (.tmp 2) (.tmp 23) rfl w.heap.size 0 #[.int .i64 0, .int .i64 0, .int .i64 0, .int .i64 0, .int .i64 0, .int .i64 0, .bool false, .string ⟨#[]⟩, .string ⟨#[]⟩, .bool false, .string ⟨#[]⟩, .string ⟨#[]⟩, .slice none 0 0, .slice none 0 0, .slice none 0 0] rfl rfl htb (by kernel_rfl) (by simp [Value.oneCell']) ?_)
  have v0_ : (w0.setCells w.heap.size 0 [.int .i64 0, .int .i64 0, .int .i64 0, .int .i64 0, .int .i64 0, .int .i64 0, .bool false, .string ⟨#[]⟩, .string ⟨#[]⟩, .bool false, .string ⟨#[]⟩, .string ⟨#[]⟩, .slice none 0 0, .slice none 0 0, .slice none 0 0]).cell? ⟨w.heap.size, 0, none⟩ = some (.int .i64 0) := by rw [cell_of_row _ w.heap.size 0 _ _ (0, 0) HZQ.out]; rfl
  have v1_ : (w0.setCells w.heap.size 0 [.int .i64 0, .int .i64 0, .int .i64 0, .int .i64 0, .int .i64 0, .int .i64 0, .bool false, .string ⟨#[]⟩, .string ⟨#[]⟩, .bool false, .string ⟨#[]⟩, .string ⟨#[]⟩, .slice none 0 0, .slice none 0 0, .slice none 0 0]).cell? ⟨w.heap.size, 1, none⟩ = some (.int .i64 0) := by rw [cell_of_row _ w.heap.size 1 _ _ (0, 0) HZQ.out]; rfl
  have v2_ : (w0.setCells w.heap.size 0 [.int .i64 0, .int .i64 0, .int .i64 0, .int .i64 0, .int .i64 0, .int .i64 0, .bool false, .string ⟨#[]⟩, .string ⟨#[]⟩, .bool false, .string ⟨#[]⟩, .string ⟨#[]⟩, .slice none 0 0, .slice none 0 0, .slice none 0 0]).cell? ⟨w.heap.size, 2, none⟩ = some (.int .i64 0) := by rw [cell_of_row _ w.heap.size 2 _ _ (0, 0) HZQ.out]; rfl
  have v3_ : (w0.setCells w.heap.size 0 [.int .i64 0, .int .i64 0, .int .i64 0, .int .i64 0, .int .i64 0, .int .i64 0, .bool false, .string ⟨#[]⟩, .string ⟨#[]⟩, .bool false, .string ⟨#[]⟩, .string ⟨#[]⟩, .slice none 0 0, .slice none 0 0, .slice none 0 0]).cell? ⟨w.heap.size, 3, none⟩ = some (.int .i64 0) := by rw [cell_of_row _ w.heap.size 3 _ _ (0, 0) HZQ.out]; rfl
  have v4_ : (w0.setCells w.heap.size 0 [.int .i64 0, .int .i64 0, .int .i64 0, .int .i64 0, .int .i64 0, .int .i64 0, .bool false, .string ⟨#[]⟩, .string ⟨#[]⟩, .bool false, .string ⟨#[]⟩, .string ⟨#[]⟩, .slice none 0 0, .slice none 0 0, .slice none 0 0]).cell? ⟨w.heap.size, 4, none⟩ = some (.int .i64 0) := by rw [cell_of_row _ w.heap.size 4 _ _ (0, 0) HZQ.out]; rfl
  have v5_ : (w0.setCells w.heap.size 0 [.int .i64 0, .int .i64 0, .int .i64 0, .int .i64 0, .int .i64 0, .int .i64 0, .bool false, .string ⟨#[]⟩, .string ⟨#[]⟩, .bool false, .string ⟨#[]⟩, .string ⟨#[]⟩, .slice none 0 0, .slice none 0 0, .slice none 0 0]).cell? ⟨w.heap.size, 5, none⟩ = some (.int .i64 0) := by rw [cell_of_row _ w.heap.size 5 _ _ (0, 0) HZQ.out]; rfl
  have v6_ : (w0.setCells w.heap.size 0 [.int .i64 0, .int .i64 0, .int .i64 0, .int .i64 0, .int .i64 0, .int .i64 0, .bool false, .string ⟨#[]⟩, .string ⟨#[]⟩, .bool false, .string ⟨#[]⟩, .string ⟨#[]⟩, .slice none 0 0, .slice none 0 0, .slice none 0 0]).cell? ⟨w.heap.size, 6, none⟩ = some (.bool false) := by rw [cell_of_row _ w.heap.size 6 _ _ (0, 0) HZQ.out]; rfl
  have v7_ : (w0.setCells w.heap.size 0 [.int .i64 0, .int .i64 0, .int .i64 0, .int .i64 0, .int .i64 0, .int .i64 0, .bool false, .string ⟨#[]⟩, .string ⟨#[]⟩, .bool false, .string ⟨#[]⟩, .string ⟨#[]⟩, .slice none 0 0, .slice none 0 0, .slice none 0 0]).cell? ⟨w.heap.size, 7, none⟩ = some (.string ⟨#[]⟩) := by rw [cell_of_row _ w.heap.size 7 _ _ (0, 0) HZQ.out]; rfl
  have v8_ : (w0.setCells w.heap.size 0 [.int .i64 0, .int .i64 0, .int .i64 0, .int .i64 0, .int .i64 0, .int .i64 0, .bool false, .string ⟨#[]⟩, .string ⟨#[]⟩, .bool false, .string ⟨#[]⟩, .string ⟨#[]⟩, .slice none 0 0, .slice none 0 0, .slice none 0 0]).cell? ⟨w.heap.size, 8, none⟩ = some (.string ⟨#[]⟩) := by rw [cell_of_row _ w.heap.size 8 _ _ (0, 0) HZQ.out]; rfl
  have v9_ : (w0.setCells w.heap.size 0 [.int .i64 0, .int .i64 0, .int .i64 0, .int .i64 0, .int .i64 0, .int .i64 0, .bool false, .string ⟨#[]⟩, .string ⟨#[]⟩, .bool false, .string ⟨#[]⟩, .string ⟨#[]⟩, .slice none 0 0, .slice none 0 0, .slice none 0 0]).cell? ⟨w.heap.size, 9, none⟩ = some (.bool false) := by rw [cell_of_row _ w.heap.size 9 _ _ (0, 0) HZQ.out]; rfl
  have v10_ : (w0.setCells w.heap.size 0 [.int .i64 0, .int .i64 0, .int .i64 0, .int .i64 0, .int .i64 0, .int .i64 0, .bool false, .string ⟨#[]⟩, .string ⟨#[]⟩, .bool false, .string ⟨#[]⟩, .string ⟨#[]⟩, .slice none 0 0, .slice none 0 0, .slice none 0 0]).cell? ⟨w.heap.size, 10, none⟩ = some (.string ⟨#[]⟩) := by rw [cell_of_row _ w.heap.size 10 _ _ (0, 0) HZQ.out]; rfl
  have v11_ : (w0.setCells w.heap.size 0 [.int .i64 0, .int .i64 0, .int .i64 0, .int .i64 0, .int .i64 0, .int .i64 0, .bool false, .string ⟨#[]⟩, .string ⟨#[]⟩, .bool false, .string ⟨#[]⟩, .string ⟨#[]⟩, .slice none 0 0, .slice none 0 0, .slice none 0 0]).cell? ⟨w.heap.size, 11, none⟩ = some (.string ⟨#[]⟩) := by rw [cell_of_row _ w.heap.size 11 _ _ (0, 0) HZQ.out]; rfl
  have v12_ : (w0.setCells w.heap.size 0 [.int .i64 0, .int .i64 0, .int .i64 0, .int .i64 0, .int .i64 0, .int .i64 0, .bool false, .string ⟨#[]⟩, .string ⟨#[]⟩, .bool false, .string ⟨#[]⟩, .string ⟨#[]⟩, .slice none 0 0, .slice none 0 0, .slice none 0 0]).cell? ⟨w.heap.size, 12, none⟩ = some (.slice none 0 0) := by rw [cell_of_row _ w.heap.size 12 _ _ (0, 0) HZQ.out]; rfl
  have v13_ : (w0.setCells w.heap.size 0 [.int .i64 0, .int .i64 0, .int .i64 0, .int .i64 0, .int .i64 0, .int .i64 0, .bool false, .string ⟨#[]⟩, .string ⟨#[]⟩, .bool false, .string ⟨#[]⟩, .string ⟨#[]⟩, .slice none 0 0, .slice none 0 0, .slice none 0 0]).cell? ⟨w.heap.size, 13, none⟩ = some (.slice none 0 0) := by rw [cell_of_row _ w.heap.size 13 _ _ (0, 0) HZQ.out]; rfl
  have v14_ : (w0.setCells w.heap.size 0 [.int .i64 0, .int .i64 0, .int .i64 0, .int .i64 0, .int .i64 0, .int .i64 0, .bool false, .string ⟨#[]⟩, .string ⟨#[]⟩, .bool false, .string ⟨#[]⟩, .string ⟨#[]⟩, .slice none 0 0, .slice none 0 0, .slice none 0 0]).cell? ⟨w.heap.size, 14, none⟩ = some (.slice none 0 0) := by rw [cell_of_row _ w.heap.size 14 _ _ (0, 0) HZQ.out]; rfl
  exact bodyPost_ret (v := .tuple #[.agg #[.int .i64 0, .int .i64 0, .int .i64 0, .int .i64 0, .int .i64 0, .int .i64 0, .bool false, .string ⟨#[]⟩, .string ⟨#[]⟩, .bool false, .string ⟨#[]⟩, .string ⟨#[]⟩, .slice none 0 0, .slice none 0 0, .slice none 0 0], .int .i64 44]) (by simp [results, Tryd.results26, go_sem, v0_, v1_, v2_, v3_, v4_, v5_, v6_, v7_, v8_, v9_, v10_, v11_, v12_, v13_, v14_]) rfl (DecPost.none HNO.out (below_setCells (Nat.le_refl _) _ 0 HB0.out))

set_option maxHeartbeats 16000000 in
set_option maxRecDepth 100000 in
theorem dDecode_A (A : Option Addr) (n cb : Nat) (b : List Nat) (w : World) (hn : n = b.length) (hr0 : KRd .u8 w w.heap.size A b) (hby : Byt b) (hnc : n ≤ cb) (hcm : cb ≤ maxLen) (hcs : ¬ ((rRec dNum dRat (b, false)).2 = ([], false))) :
    Calls Tryd.prog 26 #[.slice A n cb] w (DecPost (decBy dNum dRat b) w) := by
  by_cases hbig : 4096 < n
  · exact dDecode_long A n cb b w hn hbig (Nat.le_trans hnc hcm)
  have hd : decide ((4096 : Int) < (n : Int)) = false := decide_eq_false (by omega)
  obtain ⟨g, hg⟩ : ∃ g, g = w.heap.size + 1 := ⟨_, rfl⟩
  obtain ⟨qr, hqr⟩ : ∃ q, q = w.heap.size + 1 + 1 := ⟨_, rfl⟩
  obtain ⟨ql, hql⟩ : ∃ q, q = w.heap.size + 1 + 1 + 1 := ⟨_, rfl⟩
  have hlg : w.heap.size < g := by omega
  have hgq : g < qr := by omega
  have hqq : qr < ql := by omega
  obtain ⟨w0, hw0⟩ : ∃ W, W = (((w.alloc zeroRec).alloc (.cells #[.slice A n cb, .bool false] 96)).alloc zeroRec).alloc (.cells #[.int .i64 0, .int .i64 0, .int .i64 0, .int .i64 0, .int .i64 0, .int .i64 0] 97) := ⟨_, rfl⟩
  have hwb : Below w.heap.size w w0 := by rw [hw0]; exact (((bel_alloc _ _).alloc (by simp) _).alloc (by simp <;> omega) _).alloc (by simp <;> omega) _
  have HB0 := Lib.hid hwb
  have HZ0 : Hid (w0.heap[w.heap.size]? = some zeroRec) := by rw [hw0]; exact blk_alloc (blk_alloc (blk_alloc (blk_new _ _)))
  have HR0 : Hid (RdS 96 g w.heap.size (b, false) w0) := by
    refine ⟨A, cb, ?_, hr0.below hwb, by omega, by rw [← hn]; exact hnc, hcm, hby⟩
    have := blk_new (w.alloc zeroRec) (.cells #[.slice A n cb, .bool false] 96)
    rw [World.size_alloc, ← hg] at this
    dsimp only
    rw [← hn, hw0]
    exact blk_alloc (blk_alloc this)
  have HQ0 : Hid (w0.heap[qr]? = some zeroRec) := by
    have := blk_new ((w.alloc zeroRec).alloc (.cells #[.slice A n cb, .bool false] 96)) zeroRec
    rw [World.size_alloc, World.size_alloc, ← hqr] at this
    rw [hw0]
    exact blk_alloc this
  have HA0 : Hid (ArrN ql 0 6 [] 97 w0) := by
    have := blk_new (((w.alloc zeroRec).alloc (.cells #[.slice A n cb, .bool false] 96)).alloc zeroRec) (.cells #[.int .i64 0, .int .i64 0, .int .i64 0, .int .i64 0, .int .i64 0, .int .i64 0] 97)
    rw [World.size_alloc, World.size_alloc, World.size_alloc, ← hql, ← hw0] at this
    exact this
  have HKB := Lib.hid (And.intro hr0 (And.intro hby hn))
  have HCV : Hid (∀ W, KRd .u8 W w.heap.size A b → (convert 22 9 (.slice A n cb)).run Tryd.prog W = .ok (.string (nstr b)) W) := fun W hW => by
    rw [hn]
    exact conv_bytes (P := Tryd.prog) W w.heap.size 22 9 5 A b cb Tryd.underlying22 Tryd.underlying5 Tryd.underlying9 hW hby
  have hbl : b.length ≤ 4096 := by omega
  have HFI := Lib.hid (rec_fine dNum_fine dRat_fine (b, false))
  obtain ⟨r1, hr1⟩ : ∃ r, r = dNum (b, false) := ⟨_, rfl⟩
  obtain ⟨z1, s1⟩ := r1
  obtain ⟨r2, hr2⟩ : ∃ r, r = dNum s1 := ⟨_, rfl⟩
  obtain ⟨z2, s2⟩ := r2
  obtain ⟨r3, hr3⟩ : ∃ r, r = dNum s2 := ⟨_, rfl⟩
  obtain ⟨z3, s3⟩ := r3
  obtain ⟨r4, hr4⟩ : ∃ r, r = dNum s3 := ⟨_, rfl⟩
  obtain ⟨z4, s4⟩ := r4
  obtain ⟨r5, hr5⟩ : ∃ r, r = dNum s4 := ⟨_, rfl⟩
  obtain ⟨z5, s5⟩ := r5
  obtain ⟨r6, hr6⟩ : ∃ r, r = dNum s5 := ⟨_, rfl⟩
  obtain ⟨z6, s6⟩ := r6
  obtain ⟨ra, hra⟩ : ∃ r, r = dRat s6 := ⟨_, rfl⟩
  obtain ⟨a, sa⟩ := ra
  obtain ⟨rc, hrc⟩ : ∃ r, r = dRat sa := ⟨_, rfl⟩
  obtain ⟨c, sc⟩ := rc
  obtain ⟨rm, hrm⟩ : ∃ r, r = rCount dNum 8 sc := ⟨_, rfl⟩
  have hm_m1 : rm.1 ≤ 8 := by rw [hrm]; exact rCount_le _ _ _
  obtain ⟨m1, t1⟩ := rm
  dsimp only at hm_m1
  obtain ⟨rl_, hrl⟩ : ∃ r, r = rList (rPair dNum) m1 t1 := ⟨_, rfl⟩
  obtain ⟨legs, sl⟩ := rl_
  obtain ⟨rn, hrn⟩ : ∃ r, r = rCount dNum 4 sl := ⟨_, rfl⟩
  have hm_m2 : rn.1 ≤ 4 := by rw [hrn]; exact rCount_le _ _ _
  obtain ⟨m2, t2⟩ := rn
  dsimp only at hm_m2
  obtain ⟨rl_, hro⟩ : ∃ r, r = rList (rOpt dNum dRat) m2 t2 := ⟨_, rfl⟩
  obtain ⟨opts, so⟩ := rl_
  obtain ⟨rq, hrq⟩ : ∃ r, r = rCount dNum 256 so := ⟨_, rfl⟩
  have hm_m3 : rq.1 ≤ 256 := by rw [hrq]; exact rCount_le _ _ _
  obtain ⟨m3, t3⟩ := rq
  dsimp only at hm_m3
  obtain ⟨rl_, hrp⟩ : ∃ r, r = rList (rPay dNum) m3 t3 := ⟨_, rfl⟩
  obtain ⟨pays, sp⟩ := rl_
  have hrec : rRec dNum dRat (b, false) = ((⟨z1, z2, z3, z4, z5, z6, a, c, legs, opts⟩, pays), sp) := by
    unfold rRec rAct
    simp only [← hr1, ← hr2, ← hr3, ← hr4, ← hr5, ← hr6, ← hra, ← hrc, ← hrm, ← hrl, ← hrn, ← hro, ← hrq, ← hrp]
  have HL6 : Hid (rList dNum 6 (b, false) = ([z1, z2, z3, z4, z5, z6], s6)) := by
    show _ = _
    simp only [rList, ← hr1, ← hr2, ← hr3, ← hr4, ← hr5, ← hr6, List.nil_append, List.cons_append]
  rw [hrec] at HFI
  rw [hrec] at hcs
  dsimp only at hcs
  have HCS := Lib.hid hcs
  clear hcs
  have HDB : Hid (decBy dNum dRat b = if b.length ≤ 4096 ∧ sp = ([], false) ∧ recOk (⟨z1, z2, z3, z4, z5, z6, a, c, legs, opts⟩, pays) = true ∧ recT (⟨z1, z2, z3, z4, z5, z6, a, c, legs, opts⟩, pays) = b then some (⟨z1, z2, z3, z4, z5, z6, a, c, legs, opts⟩, pays) else none) := by
    show _ = _
    unfold decBy
    rw [hrec]
  have E1 := Lib.hid hr1
  have E2 := Lib.hid hr2
  have E3 := Lib.hid hr3
  have E4 := Lib.hid hr4
  have E5 := Lib.hid hr5
  have E6 := Lib.hid hr6
  have EA := Lib.hid hra
  have EC := Lib.hid hrc
  have EM := Lib.hid hrm
  have EL := Lib.hid hrl
  have EN := Lib.hid hrn
  have EO := Lib.hid hro
  have EQ := Lib.hid hrq
  have EP := Lib.hid hrp
  have HBL := Lib.hid hbl
  unfold maxLen at hcm
  clear hr0 hby hwb hrec hbig hbl hn hr1 hr2 hr3 hr4 hr5 hr6 hra hrc hrm hrl hrn hro hrq hrp
  unfold zeroRec at hw0
  go_enter Tryd.func26, Tryd.ntmps26
  go_upto_region 6 with fail
  rw [← hw0, ← hql, ← hqr, ← hg]
  have HGE := Lib.hid (And.intro hg (And.intro hqr hql))
  clear hw0 hg hqr hql
  go_wp2_with fail
  go_loopw [7] (fun vi wr => ∃ k : Nat, k ≤ 6 ∧ vi = .int .i64 (k : Int) ∧ Hid (RdS 96 g w.heap.size (rList dNum k (b, false)).2 wr) ∧ Hid (ArrN ql k 6 (rList dNum k (b, false)).1 97 wr) ∧ Hid (wr.heap[w.heap.size]? = some zeroRec) ∧ Hid (wr.heap[qr]? = some zeroRec) ∧ Hid (Below w.heap.size w wr)) (fun vi _ => 6 - (intOf vi).toNat)
  case atStart => exact ⟨0, Nat.zero_le _, rfl, HR0, HA0, HZ0, HQ0, HB0⟩
  case round =>
    clear HR0 HA0 HZ0 HQ0 HB0
    obtain ⟨k, hk, rfl, HR, HA, HZ, HQ, HB⟩ := hrel
    rename World => wo
    obtain ⟨R, hR⟩ : ∃ R, R = rList dNum k (b, false) := ⟨_, rfl⟩
    rw [← hR] at HR HA
    have hll : R.1.length = k := by rw [hR]; exact rList_len _ _ _
    obtain ⟨zs, sk⟩ := R
    dsimp only at HR HA hll
    have HRK := Lib.hid hR
    have HLL := Lib.hid hll
    clear hR hll
    by_cases hlt : k < 6
    · obtain ⟨rx, hrx⟩ : ∃ r, r = dNum sk := ⟨_, rfl⟩
      obtain ⟨x, sx⟩ := rx
      have HNX : Hid (rList dNum (k + 1) (b, false) = (zs ++ [x], sx)) := by
        show _ = _
        rw [rList, ← HRK.out]
        simp only [← hrx]
      have HC := Lib.hid (dNumber_calls g w.heap.size sk wo HR.out HR.out.le)
      rw [← hrx] at HC
      clear hrx HR
      go_wp2_with fail
      refine HC.out.mono ?_
      rintro e w1 ⟨rfl, hr, ho⟩
      dsimp only at hr ⊢
      have HA1 := Lib.hid (show ArrN ql k 6 zs 97 w1 from blk_only HA.out ho (by omega))
      have HZ1 := Lib.hid (blk_only HZ.out ho (by omega))
      have HQ1 := Lib.hid (blk_only HQ.out ho (by omega))
      have HB1 : Hid (Below w.heap.size w w1) := HB.out.trans (ho.at_ w.heap.size HB.out.size (by omega))
      have HR1 := Lib.hid hr
      obtain ⟨kc, kf, kl⟩ := HA1.out.cell HLL.out hlt
      have HA2 := Lib.hid (HA1.out.step HLL.out hlt x)
      have HR2 := Lib.hid (HR1.out.far (q := ql) (j := k) (u := .int .i64 x) (by omega) (by omega))
      have HZ2 := Lib.hid ((heap_setCell_other w1 ⟨ql, k, none⟩ _ (.int .i64 x) (by show w.heap.size ≠ ql; omega)).trans HZ1.out)
      have HQ2 := Lib.hid ((heap_setCell_other w1 ⟨ql, k, none⟩ _ (.int .i64 x) (by show qr ≠ ql; omega)).trans HQ1.out)
      have HB2 : Hid (Below w.heap.size w (w1.setCell ⟨ql, k, none⟩ (.int .i64 x))) := HB1.out.setCell (by show w.heap.size ≤ ql; omega) _
      clear hr ho HC HA HZ HQ HB HA1 HZ1 HQ1 HB1 HR1
      have hki : (k : Int) < 6 := by omega
      go_wp2_with fail
      go_roundw
      case measure => simp [intOf]; omega
      case rel => exact ⟨k + 1, by omega, by go_num, by rw [HNX.out]; exact HR2, by rw [HNX.out]; exact HA2, HZ2, HQ2, HB2⟩
    · have hk6 : k = 6 := by omega
      subst hk6
      have hE := HRK.out
      rw [HL6.out] at hE
      have e1 : zs = [z1, z2, z3, z4, z5, z6] := congrArg Prod.fst hE
      have e2 : s6 = sk := (congrArg Prod.snd hE).symm
      subst e1 e2
      clear hE HRK HLL hlt hk
      have HQA : Hid (wo.heap[ql]? = some (.cells #[.int .i64 z1, .int .i64 z2, .int .i64 z3, .int .i64 z4, .int .i64 z5, .int .i64 z6] 97 (0, 0))) := HA.out
      clear HA
      have c0 : wo.cell? ⟨ql, 0, none⟩ = some (.int .i64 z1) := by rw [cell_of_row wo ql 0 _ _ (0, 0) HQA.out]; rfl
      have c1 : wo.cell? ⟨ql, 1, none⟩ = some (.int .i64 z2) := by rw [cell_of_row wo ql 1 _ _ (0, 0) HQA.out]; rfl
      have c2 : wo.cell? ⟨ql, 2, none⟩ = some (.int .i64 z3) := by rw [cell_of_row wo ql 2 _ _ (0, 0) HQA.out]; rfl
      have c3 : wo.cell? ⟨ql, 3, none⟩ = some (.int .i64 z4) := by rw [cell_of_row wo ql 3 _ _ (0, 0) HQA.out]; rfl
      have c4 : wo.cell? ⟨ql, 4, none⟩ = some (.int .i64 z5) := by rw [cell_of_row wo ql 4 _ _ (0, 0) HQA.out]; rfl
      have c5 : wo.cell? ⟨ql, 5, none⟩ = some (.int .i64 z6) := by rw [cell_of_row wo ql 5 _ _ (0, 0) HQA.out]; rfl
      have hQ := HQ.out
      unfold zeroRec at hQ
      have htb := there_block (n := 14) hQ (by decide)
      have hQ2 : (wo.setCells qr 0 [.int .i64 z1, .int .i64 z2, .int .i64 z3, .int .i64 z4, .int .i64 z5, .int .i64 z6, .bool false, .string ⟨#[]⟩, .string ⟨#[]⟩, .bool false, .string ⟨#[]⟩, .string ⟨#[]⟩, .slice none 0 0, .slice none 0 0]).heap[qr]? = some (.cells #[.int .i64 z1, .int .i64 z2, .int .i64 z3, .int .i64 z4, .int .i64 z5, .int .i64 z6, .bool false, .string ⟨#[]⟩, .string ⟨#[]⟩, .bool false, .string ⟨#[]⟩, .string ⟨#[]⟩, .slice none 0 0, .slice none 0 0, .slice none 0 0] 37 (0, 0)) := setCells_list qr 37 [.int .i64 z1, .int .i64 z2, .int .i64 z3, .int .i64 z4, .int .i64 z5, .int .i64 z6, .bool false, .string ⟨#[]⟩, .string ⟨#[]⟩, .bool false, .string ⟨#[]⟩, .string ⟨#[]⟩, .slice none 0 0, .slice none 0 0] [] [.int .i64 0, .int .i64 0, .int .i64 0, .int .i64 0, .int .i64 0, .int .i64 0, .bool false, .string ⟨#[]⟩, .string ⟨#[]⟩, .bool false, .string ⟨#[]⟩, .string ⟨#[]⟩, .slice none 0 0, .slice none 0 0] [.slice none 0 0] wo hQ rfl
      obtain ⟨w3, hw3⟩ : ∃ W, W = wo.setCells qr 0 [.int .i64 z1, .int .i64 z2, .int .i64 z3, .int .i64 z4, .int .i64 z5, .int .i64 z6, .bool false, .string ⟨#[]⟩, .string ⟨#[]⟩, .bool false, .string ⟨#[]⟩, .string ⟨#[]⟩, .slice none 0 0, .slice none 0 0] := ⟨_, rfl⟩
      rw [← hw3] at hQ2
      have HK3 := Lib.hid hQ2
      have HB3 : Hid (Below w.heap.size w w3) := by rw [hw3]; exact below_setCells (by omega) _ 0 HB.out
      have HZ3 : Hid (w3.heap[w.heap.size]? = some zeroRec) := by rw [hw3]; exact (setCells_other w.heap.size qr (by omega) _ 0 wo).trans HZ.out
      have HD3 : Hid (RdS 96 g w.heap.size s6 w3) := by
        rw [hw3]
        obtain ⟨A', c', h1, h2, h3, h4, h5, h6⟩ := HR.out
        exact ⟨A', c', (setCells_other g qr (by omega) _ 0 wo).trans h1, h2.below (below_setCells (by omega) _ 0 (Below.refl _ _)), h3, h4, h5, h6⟩
      have HW3 := Lib.hid hw3
      clear hw3 hQ hQ2 HR HZ HQ HB HQA
      go_upto_region 10 with fail
      refine wp_region_list ?_
      refine wpList_val (v := .pointer (some ⟨ql, 0, none⟩)) rfl (by go_simp) ?_
      refine wpList_val (v := .int .i64 z1) rfl (by go_simp) ?_
      refine wpList_val (v := .pointer (some ⟨ql, 1, none⟩)) rfl (by go_simp) ?_
      refine wpList_val (v := .int .i64 z2) rfl (by go_simp) ?_
      refine wpList_val (v := .pointer (some ⟨ql, 2, none⟩)) rfl (by go_simp) ?_
      refine wpList_val (v := .int .i64 z3) rfl (by go_simp) ?_
      refine wpList_val (v := .pointer (some ⟨ql, 3, none⟩)) rfl (by go_simp) ?_
      refine wpList_val (v := .int .i64 z4) rfl (by go_simp) ?_
      refine wpList_val (v := .pointer (some ⟨ql, 4, none⟩)) rfl (by go_simp) ?_
      refine wpList_val (v := .int .i64 z5) rfl (by go_simp) ?_
      refine wpList_val (v := .pointer (some ⟨ql, 5, none⟩)) rfl (by go_simp) ?_
      refine wpList_val (v := .int .i64 z6) rfl (by go_simp) ?_
      refine wpList_val (v := .agg #[.int .i64 z1, .int .i64 z2, .int .i64 z3, .int .i64 z4, .int .i64 z5, .int .i64 z6, .bool false, .string ⟨#[]⟩, .string ⟨#[]⟩, .bool false, .string ⟨#[]⟩, .string ⟨#[]⟩, .slice none 0 0, .slice none 0 0]) rfl (by go_simp) ?_
      refine wpList_val (v := .pointer (some ⟨qr, 0, none⟩)) rfl (by go_simp) ?_
      refine wpList_store_mid rfl 34 (.tmp 48) (.tmp 47) rfl qr 0 #[.int .i64 z1, .int .i64 z2, .int .i64 z3, .int .i64 z4, .int .i64 z5, .int .i64 z6, .bool false, .string ⟨#[]⟩, .string ⟨#[]⟩, .bool false, .string ⟨#[]⟩, .string ⟨#[]⟩, .slice none 0 0, .slice none 0 0] (by go_simp) (by go_simp) htb (by kernel_rfl) (by simp [Value.oneCell']) ?_
      refine wpList_nil ?_
      rw [← HW3.out]
      clear HW3 htb c0 c1 c2 c3 c4 c5
      have HC := Lib.hid (dRat_calls g w.heap.size s6 w3 HD3.out)
      rw [← EA.out] at HC
      go_wp2_with fail
      refine HC.out.mono ?_
      rintro e v4 ⟨rfl, hr, ho⟩
      dsimp only at hr ⊢
      have HK_ := Lib.hid (blk_only HK3.out ho (by omega))
      have HZ_ := Lib.hid (blk_only HZ3.out ho (by omega))
      have HB_ : Hid (Below w.heap.size w v4) := HB3.out.trans (ho.at_ w.heap.size HB3.out.size (by omega))
      have HD_ := Lib.hid hr
      clear hr ho HC HK3 HZ3 HB3 HD3
      have lq : qr < v4.heap.size := (Array.getElem?_eq_some_iff.1 HK_.out).1
      have k0 : v4.cell? ⟨qr, 6, none⟩ = some (.bool false) := by rw [cell_of_row v4 qr 6 _ _ (0, 0) HK_.out]; rfl
      have f0 : v4.frozen? ⟨qr, 6, none⟩ = false := frozen_of_row v4 qr 6 _ _ HK_.out
      have k1 : v4.cell? ⟨qr, 7, none⟩ = some (.string ⟨#[]⟩) := by rw [cell_of_row v4 qr 7 _ _ (0, 0) HK_.out]; rfl
      have f1 : v4.frozen? ⟨qr, 7, none⟩ = false := frozen_of_row v4 qr 7 _ _ HK_.out
      have k2 : v4.cell? ⟨qr, 8, none⟩ = some (.string ⟨#[]⟩) := by rw [cell_of_row v4 qr 8 _ _ (0, 0) HK_.out]; rfl
      have f2 : v4.frozen? ⟨qr, 8, none⟩ = false := frozen_of_row v4 qr 8 _ _ HK_.out
      go_wp2_with fail
      obtain ⟨w4, hW⟩ : ∃ W, W = (((v4.setCell ⟨qr, 6, none⟩ (.bool a.neg)).setCell ⟨qr, 7, none⟩ (.string a.num)).setCell ⟨qr, 8, none⟩ (.string a.den)) := ⟨_, rfl⟩
      have HK4 : Hid (w4.heap[qr]? = some (.cells #[.int .i64 z1, .int .i64 z2, .int .i64 z3, .int .i64 z4, .int .i64 z5, .int .i64 z6, .bool a.neg, .string a.num, .string a.den, .bool false, .string ⟨#[]⟩, .string ⟨#[]⟩, .slice none 0 0, .slice none 0 0, .slice none 0 0] 37 (0, 0))) := by
        rw [hW]
        have e0 := heap_setCell_same v4 qr 6 _ _ (.bool a.neg) HK_.out
        have e1 := heap_setCell_same _ qr 7 _ _ (.string a.num) e0
        exact heap_setCell_same _ qr 8 _ _ (.string a.den) e1
      have HB4 : Hid (Below w.heap.size w w4) := by rw [hW]; exact ((HB_.out.setCell (by show w.heap.size ≤ qr; omega) _).setCell (by show w.heap.size ≤ qr; omega) _).setCell (by show w.heap.size ≤ qr; omega) _
      have HZ4 : Hid (w4.heap[w.heap.size]? = some zeroRec) := by
        rw [hW]
        rw [heap_setCell_other _ _ _ _ (by show w.heap.size ≠ qr; omega), heap_setCell_other _ _ _ _ (by show w.heap.size ≠ qr; omega), heap_setCell_other _ _ _ _ (by show w.heap.size ≠ qr; omega)]
        exact HZ_.out
      have HD4 : Hid (RdS 96 g w.heap.size sa w4) := by rw [hW]; exact ((HD_.out.far (by omega) (by omega)).far (by omega) (by omega)).far (by omega) (by omega)
      rw [← hW]
      clear hW k0 k1 k2 f0 f1 f2 lq HK_ HZ_ HB_ HD_
      have HC := Lib.hid (dRat_calls g w.heap.size sa w4 HD4.out)
      rw [← EC.out] at HC
      refine HC.out.mono ?_
      rintro e v5 ⟨rfl, hr, ho⟩
      dsimp only at hr ⊢
      have HK_ := Lib.hid (blk_only HK4.out ho (by omega))
      have HZ_ := Lib.hid (blk_only HZ4.out ho (by omega))
      have HB_ : Hid (Below w.heap.size w v5) := HB4.out.trans (ho.at_ w.heap.size HB4.out.size (by omega))
      have HD_ := Lib.hid hr
      clear hr ho HC HK4 HZ4 HB4 HD4
      have lq : qr < v5.heap.size := (Array.getElem?_eq_some_iff.1 HK_.out).1
      have k0 : v5.cell? ⟨qr, 9, none⟩ = some (.bool false) := by rw [cell_of_row v5 qr 9 _ _ (0, 0) HK_.out]; rfl
      have f0 : v5.frozen? ⟨qr, 9, none⟩ = false := frozen_of_row v5 qr 9 _ _ HK_.out
      have k1 : v5.cell? ⟨qr, 10, none⟩ = some (.string ⟨#[]⟩) := by rw [cell_of_row v5 qr 10 _ _ (0, 0) HK_.out]; rfl
      have f1 : v5.frozen? ⟨qr, 10, none⟩ = false := frozen_of_row v5 qr 10 _ _ HK_.out
      have k2 : v5.cell? ⟨qr, 11, none⟩ = some (.string ⟨#[]⟩) := by rw [cell_of_row v5 qr 11 _ _ (0, 0) HK_.out]; rfl
      have f2 : v5.frozen? ⟨qr, 11, none⟩ = false := frozen_of_row v5 qr 11 _ _ HK_.out
      go_wp2_with fail
      obtain ⟨w5, hW⟩ : ∃ W, W = (((v5.setCell ⟨qr, 9, none⟩ (.bool c.neg)).setCell ⟨qr, 10, none⟩ (.string c.num)).setCell ⟨qr, 11, none⟩ (.string c.den)) := ⟨_, rfl⟩
      have HK5 : Hid (w5.heap[qr]? = some (.cells #[.int .i64 z1, .int .i64 z2, .int .i64 z3, .int .i64 z4, .int .i64 z5, .int .i64 z6, .bool a.neg, .string a.num, .string a.den, .bool c.neg, .string c.num, .string c.den, .slice none 0 0, .slice none 0 0, .slice none 0 0] 37 (0, 0))) := by
        rw [hW]
        have e0 := heap_setCell_same v5 qr 9 _ _ (.bool c.neg) HK_.out
        have e1 := heap_setCell_same _ qr 10 _ _ (.string c.num) e0
        exact heap_setCell_same _ qr 11 _ _ (.string c.den) e1
      have HB5 : Hid (Below w.heap.size w w5) := by rw [hW]; exact ((HB_.out.setCell (by show w.heap.size ≤ qr; omega) _).setCell (by show w.heap.size ≤ qr; omega) _).setCell (by show w.heap.size ≤ qr; omega) _
      have HZ5 : Hid (w5.heap[w.heap.size]? = some zeroRec) := by
        rw [hW]
        rw [heap_setCell_other _ _ _ _ (by show w.heap.size ≠ qr; omega), heap_setCell_other _ _ _ _ (by show w.heap.size ≠ qr; omega), heap_setCell_other _ _ _ _ (by show w.heap.size ≠ qr; omega)]
        exact HZ_.out
      have HD5 : Hid (RdS 96 g w.heap.size sc w5) := by rw [hW]; exact ((HD_.out.far (by omega) (by omega)).far (by omega) (by omega)).far (by omega) (by omega)
      rw [← hW]
      clear hW k0 k1 k2 f0 f1 f2 lq HK_ HZ_ HB_ HD_
      have HC := Lib.hid (dMany_calls g w.heap.size 8 sc w5 HD5.out HD5.out.le (by unfold maxLen; omega))
      rw [← EM.out] at HC
      refine HC.out.mono ?_
      rintro e w6 ⟨rfl, hr, ho⟩
      dsimp only at hr ⊢
      obtain ⟨B, hB⟩ : ∃ B, B = w6.heap.size := ⟨_, rfl⟩
      have HI : Hid (DecI 96 w g w.heap.size qr B z1 z2 z3 z4 z5 z6 a c none 0 [] none 0 [] none 0 [] t1 w6) := ⟨blk_only HK5.out ho (by omega), blk_only HZ5.out ho (by omega), World.ownsRow_nil _ _ _ _, World.ownsRow_nil _ _ _ _, World.ownsRow_nil _ _ _ _, hr, HB5.out.trans (ho.at_ w.heap.size HB5.out.size (by omega)), by rw [hB]; exact Nat.le_refl _, hlg, by omega, by omega, by rw [hB]; exact (HB5.out.trans (ho.at_ w.heap.size HB5.out.size (by omega))).size, Nat.le_refl _, by decide⟩
      clear hr ho HC HK5 HZ5 HB5 HD5 hB
      obtain ⟨i1, hi_, hz_, hs_, hbt_⟩ := info_parts Tryd.rec_info_leg
      have HF1 := Lib.hid (And.intro hi_ (And.intro hz_ (And.intro hs_ hbt_)))
      clear hi_ hz_ hs_ hbt_
      obtain ⟨i2, hi_, hz_, hs_, hbt_⟩ := info_parts Tryd.rec_info_opt
      have HF2 := Lib.hid (And.intro hi_ (And.intro hz_ (And.intro hs_ hbt_)))
      clear hi_ hz_ hs_ hbt_
      obtain ⟨i3, hi_, hz_, hs_, hbt_⟩ := info_parts Tryd.rec_info_pay
      have HF3 := Lib.hid (And.intro hi_ (And.intro hz_ (And.intro hs_ hbt_)))
      clear hi_ hz_ hs_ hbt_
      go_wp2_with fail
      go_loopw [9] (fun vi wr => ∃ (k : Nat) (Ax : Option Addr) (cx : Nat), k ≤ m1 ∧ vi = .int .i64 (k : Int) ∧ Hid (DecI 96 w g w.heap.size qr B z1 z2 z3 z4 z5 z6 a c Ax cx (rList (rPair dNum) k t1).1 none 0 [] none 0 [] (rList (rPair dNum) k t1).2 wr)) (fun vi _ => m1 - (intOf vi).toNat)
      case atStart => exact ⟨0, none, 0, Nat.zero_le _, rfl, HI⟩
      case round =>
        clear HI
        obtain ⟨k, A1, c1, hk, rfl, HI⟩ := hrel
        rename World => wo
        obtain ⟨R, hR⟩ : ∃ R, R = rList (rPair dNum) k t1 := ⟨_, rfl⟩
        rw [← hR] at HI
        have hll : R.1.length = k := by rw [hR]; exact rList_len _ _ _
        obtain ⟨ps, sk⟩ := R
        dsimp only at HI hll
        have HRK := Lib.hid hR
        have HLL := Lib.hid hll
        clear hR hll
        by_cases hlt : k < m1
        · obtain ⟨rx, hrx⟩ : ∃ r, r = dNum sk := ⟨_, rfl⟩
          obtain ⟨x, sx⟩ := rx
          obtain ⟨ry, hry⟩ : ∃ r, r = dNum sx := ⟨_, rfl⟩
          obtain ⟨y, sy⟩ := ry
          have HNX : Hid (rList (rPair dNum) (k + 1) t1 = (ps ++ [(x, y)], sy)) := by
            show _ = _
            rw [rList, ← HRK.out]
            simp only [rPair, ← hrx, ← hry]
          have Ex_ := Lib.hid hrx
          have Ey_ := Lib.hid hry
          clear hrx hry
          have HC := Lib.hid (dNumber_calls g w.heap.size sk wo HI.out.d HI.out.d.le)
          rw [← Ex_.out] at HC
          go_wp2_with fail
          refine HC.out.mono ?_
          rintro e wi0 ⟨rfl, hr, ho⟩
          dsimp only at hr ⊢
          have HJ0 := Lib.hid (HI.out.next hr ho)
          clear hr ho HC HI
          have HC := Lib.hid (dNumber_calls g w.heap.size sx wi0 HJ0.out.d HJ0.out.d.le)
          rw [← Ey_.out] at HC
          go_wp2_with fail
          refine HC.out.mono ?_
          rintro e wi1 ⟨rfl, hr, ho⟩
          dsimp only at hr ⊢
          have HJ1 := Lib.hid (HJ0.out.next hr ho)
          clear hr ho HC HJ0
          have kf := HJ1.out.cells.1
          have HJa := Lib.hid (HJ1.out.alloc (.cells #[.int .i64 x, .int .i64 y] 49))
          have hps := Nat.le_of_eq HLL.out
          go_wp2_with (at_builtin; refine wpList_append_own _ rfl (.tmp 70) (.tmp 74) 31 rfl B 49 i1 _ 2 16 Tryd.underlying31 HF1.out.1 HF1.out.2.1 HF1.out.2.2.1 HF1.out.2.2.2 rfl (by decide) _ ps.length (ps.flatMap legV) rfl HJa.out.l _ 1 1 [.int .i64 x, .int .i64 y] rfl rfl (rd_new_cells _ _ _ _ (by simp)) (by simp [Value.oneCell']) (by simp only [maxLen]; omega) (by omega) HJa.out.sz ?_)
          intro v' w' hown hgr hnil
          obtain ⟨g', cap, rfl, _, _⟩ := hown.form (by omega)
          have hg1 := blk_grown HJa.out.l HJa.out.r (by decide) hgr
          have HN9 := Lib.hid (HJa.out.leg hown hgr)
          have kf2 : w'.cell? ⟨qr, 12, none⟩ = some (.slice A1 ps.length c1) := by rw [cell_of_row w' qr 12 _ _ (0, 0) hg1]; rfl
          have ff : w'.frozen? ⟨qr, 12, none⟩ = false := frozen_of_row w' qr 12 _ _ hg1
          have lf : qr < w'.heap.size := (Array.getElem?_eq_some_iff.1 hg1).1
          clear kf hown hgr hnil hg1 HJa HJ1
          go_wp2_with fail
          clear kf2 ff lf
          go_roundw
          case measure => simp [intOf]; omega
          case rel => exact ⟨k + 1, _, _, by omega, by go_num, by rw [HNX.out]; exact HN9⟩
        · have hkm : k = m1 := by omega
          have hE := HRK.out
          rw [hkm, ← EL.out] at hE
          have e1 : legs = ps := (congrArg Prod.fst hE).symm
          have e2 : sl = sk := (congrArg Prod.snd hE).symm
          subst e1 e2
          clear hE HRK HLL hkm
          have HC := Lib.hid (dMany_calls g w.heap.size 4 sl wo HI.out.d HI.out.d.le (by unfold maxLen; omega))
          rw [← EN.out] at HC
          go_wp2_with fail
          refine HC.out.mono ?_
          rintro e w6 ⟨rfl, hr, ho⟩
          dsimp only at hr ⊢
          have HI2 := Lib.hid (HI.out.next hr ho)
          clear hr ho HC HI
          have HI := HI2
          clear HI2
          go_wp2_with fail
          go_loopw [12] (fun vi wr => ∃ (k : Nat) (Ax : Option Addr) (cx : Nat), k ≤ m2 ∧ vi = .int .i64 (k : Int) ∧ Hid (DecI 96 w g w.heap.size qr B z1 z2 z3 z4 z5 z6 a c A1 c1 legs Ax cx (rList (rOpt dNum dRat) k t2).1 none 0 [] (rList (rOpt dNum dRat) k t2).2 wr)) (fun vi _ => m2 - (intOf vi).toNat)
          case atStart => exact ⟨0, none, 0, Nat.zero_le _, rfl, HI⟩
          case round =>
            clear HI
            obtain ⟨k, A2, c2, hk, rfl, HI⟩ := hrel
            rename World => wo
            obtain ⟨R, hR⟩ : ∃ R, R = rList (rOpt dNum dRat) k t2 := ⟨_, rfl⟩
            rw [← hR] at HI
            have hll : R.1.length = k := by rw [hR]; exact rList_len _ _ _
            obtain ⟨ps, sk⟩ := R
            dsimp only at HI hll
            have HRK := Lib.hid hR
            have HLL := Lib.hid hll
            clear hR hll
            by_cases hlt : k < m2
            · obtain ⟨rx, hrx⟩ : ∃ r, r = dRat sk := ⟨_, rfl⟩
              obtain ⟨x, sx⟩ := rx
              obtain ⟨ry, hry⟩ : ∃ r, r = dNum sx := ⟨_, rfl⟩
              obtain ⟨y, sy⟩ := ry
              have HNX : Hid (rList (rOpt dNum dRat) (k + 1) t2 = (ps ++ [(x, y)], sy)) := by
                show _ = _
                rw [rList, ← HRK.out]
                simp only [rOpt, ← hrx, ← hry]
              have Ex_ := Lib.hid hrx
              have Ey_ := Lib.hid hry
              clear hrx hry
              have HC := Lib.hid (dRat_calls g w.heap.size sk wo HI.out.d)
              rw [← Ex_.out] at HC
              go_wp2_with fail
              refine HC.out.mono ?_
              rintro e wi0 ⟨rfl, hr, ho⟩
              dsimp only at hr ⊢
              have HJ0 := Lib.hid (HI.out.next hr ho)
              clear hr ho HC HI
              obtain ⟨q, hq⟩ : ∃ q, q = wi0.heap.size := ⟨_, rfl⟩
              obtain ⟨wx, hwx⟩ : ∃ W, W = wi0.alloc (.cells #[.bool x.neg, .string x.num, .string x.den] 30) := ⟨_, rfl⟩
              have hbx : Below wi0.heap.size wi0 wx := by rw [hwx]; exact bel_alloc _ _
              have HX : Hid (BoxX q x wx) := by rw [hwx, hq]; exact blk_new _ _
              have hqg : q ≠ g := by have := HJ0.out.d.lt; omega
              have hqa : q ≠ qr := by have := (Array.getElem?_eq_some_iff.1 HJ0.out.r).1; omega
              have HJx := Lib.hid (HJ0.out.next (HJ0.out.d.next HJ0.out.d.le hbx) (Only.of_below (B := 0) hbx))
              have HWX := Lib.hid hwx
              have HQE := Lib.hid hq
              clear hwx hbx hq HJ0
              go_wp2_with fail
              rw [← HQE.out, ← HWX.out]
              clear HWX HQE
              have HC := Lib.hid (dNumber_calls g w.heap.size sx wx HJx.out.d HJx.out.d.le)
              rw [← Ey_.out] at HC
              go_wp2_with fail
              refine HC.out.mono ?_
              rintro e wi1 ⟨rfl, hr, ho⟩
              dsimp only at hr ⊢
              have HJ1 := Lib.hid (HJx.out.next hr ho)
              have HXb := Lib.hid (show BoxX q x wi1 from blk_only HX.out ho hqg)
              clear HX
              clear hr ho HC HJx
              have kf := HJ1.out.cells.2.1
              obtain ⟨b0, b1, b2, _⟩ := three_of HXb.out
              have HJa := Lib.hid (HJ1.out.alloc (.cells #[.bool x.neg, .string x.num, .string x.den, .int .i64 y] 51))
              have hps := Nat.le_of_eq HLL.out
              go_wp2_with (at_builtin; refine wpList_append_own _ rfl (.tmp 91) (.tmp 95) 32 rfl B 51 i2 _ 4 48 Tryd.underlying32 HF2.out.1 HF2.out.2.1 HF2.out.2.2.1 HF2.out.2.2.2 rfl (by decide) _ ps.length (ps.flatMap optV) rfl HJa.out.o _ 1 1 [.bool x.neg, .string x.num, .string x.den, .int .i64 y] rfl rfl (rd_new_cells _ _ _ _ (by simp)) (by simp [Value.oneCell']) (by simp only [maxLen]; omega) (by omega) HJa.out.sz ?_)
              intro v' w' hown hgr hnil
              obtain ⟨g', cap, rfl, _, _⟩ := hown.form (by omega)
              have hg1 := blk_grown HJa.out.o HJa.out.r (by decide) hgr
              have HN9 := Lib.hid (HJa.out.opt hown hgr)
              have kf2 : w'.cell? ⟨qr, 13, none⟩ = some (.slice A2 ps.length c2) := by rw [cell_of_row w' qr 13 _ _ (0, 0) hg1]; rfl
              have ff : w'.frozen? ⟨qr, 13, none⟩ = false := frozen_of_row w' qr 13 _ _ hg1
              have lf : qr < w'.heap.size := (Array.getElem?_eq_some_iff.1 hg1).1
              clear kf hown hgr hnil hg1 HJa HJ1 b0 b1 b2 HXb
              go_wp2_with fail
              clear kf2 ff lf
              go_roundw
              case measure => simp [intOf]; omega
              case rel => exact ⟨k + 1, _, _, by omega, by go_num, by rw [HNX.out]; exact HN9⟩
            · have hkm : k = m2 := by omega
              have hE := HRK.out
              rw [hkm, ← EO.out] at hE
              have e1 : opts = ps := (congrArg Prod.fst hE).symm
              have e2 : so = sk := (congrArg Prod.snd hE).symm
              subst e1 e2
              clear hE HRK HLL hkm
              have HC := Lib.hid (dMany_calls g w.heap.size 256 so wo HI.out.d HI.out.d.le (by unfold maxLen; omega))
              rw [← EQ.out] at HC
              go_wp2_with fail
              refine HC.out.mono ?_
              rintro e w6 ⟨rfl, hr, ho⟩
              dsimp only at hr ⊢
              have HI2 := Lib.hid (HI.out.next hr ho)
              clear hr ho HC HI
              have HI := HI2
              clear HI2
              go_wp2_with fail
              go_loopw [15] (fun vi wr => ∃ (k : Nat) (Ax : Option Addr) (cx : Nat), k ≤ m3 ∧ vi = .int .i64 (k : Int) ∧ Hid (DecI 96 w g w.heap.size qr B z1 z2 z3 z4 z5 z6 a c A1 c1 legs A2 c2 opts Ax cx (rList (rPay dNum) k t3).1 (rList (rPay dNum) k t3).2 wr)) (fun vi _ => m3 - (intOf vi).toNat)
              case atStart => exact ⟨0, none, 0, Nat.zero_le _, rfl, HI⟩
              case round =>
                clear HI
                obtain ⟨k, A3, c3, hk, rfl, HI⟩ := hrel
                rename World => wo
                obtain ⟨R, hR⟩ : ∃ R, R = rList (rPay dNum) k t3 := ⟨_, rfl⟩
                rw [← hR] at HI
                have hll : R.1.length = k := by rw [hR]; exact rList_len _ _ _
                obtain ⟨ps, sk⟩ := R
                dsimp only at HI hll
                have HRK := Lib.hid hR
                have HLL := Lib.hid hll
                clear hR hll
                by_cases hlt : k < m3
                · obtain ⟨rx, hrx⟩ : ∃ r, r = dNum sk := ⟨_, rfl⟩
                  obtain ⟨x, sx⟩ := rx
                  obtain ⟨ry, hry⟩ : ∃ r, r = dNum sx := ⟨_, rfl⟩
                  obtain ⟨y, sy⟩ := ry
                  obtain ⟨ru, hru⟩ : ∃ r, r = dNum sy := ⟨_, rfl⟩
                  obtain ⟨u, su⟩ := ru
                  obtain ⟨rv, hrv⟩ : ∃ r, r = dNum su := ⟨_, rfl⟩
                  obtain ⟨v, sv⟩ := rv
                  have HNX : Hid (rList (rPay dNum) (k + 1) t3 = (ps ++ [⟨x, y, u, v⟩], sv)) := by
                    show _ = _
                    rw [rList, ← HRK.out]
                    simp only [rPay, ← hrx, ← hry, ← hru, ← hrv]
                  have Ex_ := Lib.hid hrx
                  have Ey_ := Lib.hid hry
                  have Eu_ := Lib.hid hru
                  have Ev_ := Lib.hid hrv
                  clear hrx hry hru hrv
                  have HC := Lib.hid (dNumber_calls g w.heap.size sk wo HI.out.d HI.out.d.le)
                  rw [← Ex_.out] at HC
                  go_wp2_with fail
                  refine HC.out.mono ?_
                  rintro e wi0 ⟨rfl, hr, ho⟩
                  dsimp only at hr ⊢
                  have HJ0 := Lib.hid (HI.out.next hr ho)
                  clear hr ho HC HI
                  have HC := Lib.hid (dNumber_calls g w.heap.size sx wi0 HJ0.out.d HJ0.out.d.le)
                  rw [← Ey_.out] at HC
                  go_wp2_with fail
                  refine HC.out.mono ?_
                  rintro e wi1 ⟨rfl, hr, ho⟩
                  dsimp only at hr ⊢
                  have HJ1 := Lib.hid (HJ0.out.next hr ho)
                  clear hr ho HC HJ0
                  have HC := Lib.hid (dNumber_calls g w.heap.size sy wi1 HJ1.out.d HJ1.out.d.le)
                  rw [← Eu_.out] at HC
                  go_wp2_with fail
                  refine HC.out.mono ?_
                  rintro e wi2 ⟨rfl, hr, ho⟩
                  dsimp only at hr ⊢
                  have HJ2 := Lib.hid (HJ1.out.next hr ho)
                  clear hr ho HC HJ1
                  have HC := Lib.hid (dNumber_calls g w.heap.size su wi2 HJ2.out.d HJ2.out.d.le)
                  rw [← Ev_.out] at HC
                  go_wp2_with fail
                  refine HC.out.mono ?_
                  rintro e wi3 ⟨rfl, hr, ho⟩
                  dsimp only at hr ⊢
                  have HJ3 := Lib.hid (HJ2.out.next hr ho)
                  clear hr ho HC HJ2
                  have kf := HJ3.out.cells.2.2
                  have HJa := Lib.hid (HJ3.out.alloc (.cells #[.int .i64 x, .int .i64 y, .int .i64 u, .int .i64 v] 55))
                  have hps := Nat.le_of_eq HLL.out
                  go_wp2_with (at_builtin; refine wpList_append_own _ rfl (.tmp 115) (.tmp 123) 35 rfl B 55 i3 _ 4 32 Tryd.underlying35 HF3.out.1 HF3.out.2.1 HF3.out.2.2.1 HF3.out.2.2.2 rfl (by decide) _ ps.length (ps.flatMap payV) rfl HJa.out.p _ 1 1 [.int .i64 x, .int .i64 y, .int .i64 u, .int .i64 v] rfl rfl (rd_new_cells _ _ _ _ (by simp)) (by simp [Value.oneCell']) (by simp only [maxLen]; omega) (by omega) HJa.out.sz ?_)
                  intro v' w' hown hgr hnil
                  obtain ⟨g', cap, rfl, _, _⟩ := hown.form (by omega)
                  have hg1 := blk_grown HJa.out.p HJa.out.r (by decide) hgr
                  have HN9 := Lib.hid (HJa.out.pay hown hgr)
                  have kf2 : w'.cell? ⟨qr, 14, none⟩ = some (.slice A3 ps.length c3) := by rw [cell_of_row w' qr 14 _ _ (0, 0) hg1]; rfl
                  have ff : w'.frozen? ⟨qr, 14, none⟩ = false := frozen_of_row w' qr 14 _ _ hg1
                  have lf : qr < w'.heap.size := (Array.getElem?_eq_some_iff.1 hg1).1
                  clear kf hown hgr hnil hg1 HJa HJ3
                  go_wp2_with fail
                  clear kf2 ff lf
                  go_roundw
                  case measure => simp [intOf]; omega
                  case rel => exact ⟨k + 1, _, _, by omega, by go_num, by rw [HNX.out]; exact HN9⟩
                · have hkm : k = m3 := by omega
                  have hE := HRK.out
                  rw [hkm, ← EP.out] at hE
                  have e1 : pays = ps := (congrArg Prod.fst hE).symm
                  have e2 : sp = sk := (congrArg Prod.snd hE).symm
                  subst e1 e2
                  clear hE HRK HLL hkm
                  obtain ⟨Lf, bf⟩ := sp
                  obtain ⟨Af, cf, k0, k1, f0, f1, lg, y1_, y2_, y3_, y4_, y5_, y6_⟩ := RdS.cells HI.out.d
                  unfold maxLen at y4_
                  obtain ⟨nf, hnf⟩ : ∃ n, n = Lf.length := ⟨_, rfl⟩
                  rw [← hnf] at y6_ y3_
                  have HNF := Lib.hid hnf
                  have HS : Hid (FinS w g qr A b Af nf cf bf z1 z2 z3 z4 z5 z6 a c A1 legs.length c1 A2 opts.length c2 A3 pays.length c3 wo) := ⟨HI.out.r, y6_, HKB.out.1.below HI.out.b, HI.out.b⟩
                  clear hnf k0 k1 f0 f1 lg y1_ y2_ y5_ y6_
                  go_wp2_with fail
                  cases bf
                  · by_cases hnp : 0 < nf
                    · have hd0 : decide ((0 : Int) < (nf : Int)) = true := decide_eq_true (by omega)
                      have hd0' : decide (0 < nf) = true := decide_eq_true hnp
                      obtain ⟨W0, hW0⟩ : ∃ W0, W0 = wo.drew := ⟨_, rfl⟩
                      have hS : (FinS w g qr A b Af nf cf false z1 z2 z3 z4 z5 z6 a c A1 legs.length c1 A2 opts.length c2 A3 pays.length c3) W0 := by rw [hW0]; exact HS.out.drew
                      have HZ0 : Hid (W0.heap[w.heap.size]? = some zeroRec) := by rw [hW0]; exact HI.out.z
                      refine wp_region_held_drew (S := (FinS w g qr A b Af nf cf false z1 z2 z3 z4 z5 z6 a c A1 legs.length c1 A2 opts.length c2 A3 pays.length c3)) (by kernel_rfl) (by rw [← hW0]; exact hS) ?_
                      rw [← hW0]
                      intro _
                      have HO0 : Hid (W0.ownsRow B 49 2 (.slice A1 legs.length c1) legs.length (legs.flatMap legV) ∧ W0.ownsRow B 51 4 (.slice A2 opts.length c2) opts.length (opts.flatMap optV) ∧ W0.ownsRow B 55 4 (.slice A3 pays.length c3) pays.length (pays.flatMap payV)) := by rw [hW0]; exact ⟨HI.out.l, HI.out.o, HI.out.p⟩
                      clear hW0 HI HS
                      refine wpAnyH_take (i := 0) rfl (by kernel_rfl) (by kernel_rfl) (by kernel_rfl) (fun _ _ _ h => h) (Or.inl ⟨by kernel_rfl, (by intro w' _; go_simp; with_reducible rfl)⟩) hS ?_
                      go_simp
                      refine wpAnyH_take (i := 1) rfl (by kernel_rfl) (by kernel_rfl) (by kernel_rfl) (fun _ _ _ h => h) (Or.inl ⟨by kernel_rfl, (by intro w' _; go_simp; with_reducible rfl)⟩) hS ?_
                      go_simp
                      refine wpAnyH_take (i := 2) rfl (by kernel_rfl) (by kernel_rfl) (by kernel_rfl) (fun _ _ _ h => h) (Or.inl ⟨by kernel_rfl, (by intro w' _; go_simp; with_reducible rfl)⟩) hS ?_
                      go_simp
                      refine wpAnyH_take (i := 3) (v := .bool false) rfl (by kernel_rfl) (by kernel_rfl) (by kernel_rfl) (fun _ _ _ h => h) (Or.inl ⟨by kernel_rfl, (by intro w' hw'; have kc := (FinS.rd hw').2; go_simp)⟩) hS ?_
                      go_simp
                      refine wpAnyH_take (i := 4) rfl (by kernel_rfl) (by kernel_rfl) (by kernel_rfl) (fun _ _ _ h => h) (Or.inl ⟨by kernel_rfl, (by intro w' _; go_simp; with_reducible rfl)⟩) hS ?_
                      go_simp
                      refine wpAnyH_take (i := 5) rfl (by kernel_rfl) (by kernel_rfl) (by kernel_rfl) (fun _ _ _ h => h) (Or.inl ⟨by kernel_rfl, (by intro w' _; go_simp; with_reducible rfl)⟩) hS ?_
                      go_simp
                      refine wpAnyH_take (i := 6) rfl (by kernel_rfl) (by kernel_rfl) (by kernel_rfl) (fun _ _ _ h => h) (Or.inl ⟨by kernel_rfl, (by intro w' _; go_simp; with_reducible rfl)⟩) hS ?_
                      go_simp
                      refine wpAnyH_take (i := 7) rfl (by kernel_rfl) (by kernel_rfl) (by kernel_rfl) (fun _ _ _ h => h) (Or.inl ⟨by kernel_rfl, (by intro w' _; go_simp; with_reducible rfl)⟩) hS ?_
                      go_simp
                      refine wpAnyH_take (i := 8) (v := .slice Af nf cf) rfl (by kernel_rfl) (by kernel_rfl) (by kernel_rfl) (fun _ _ _ h => h) (Or.inl ⟨by kernel_rfl, (by intro w' hw'; have kc := (FinS.rd hw').1; go_simp)⟩) hS ?_
                      go_simp
                      refine wpAnyH_take (i := 9) rfl (by kernel_rfl) (by kernel_rfl) (by kernel_rfl) (fun _ _ _ h => h) (Or.inl ⟨by kernel_rfl, (by intro w' _; go_simp; with_reducible rfl)⟩) hS ?_
                      go_simp
                      refine wpAnyH_take (i := 10) (v := .bool true) rfl (by kernel_rfl) (by kernel_rfl) (by kernel_rfl) (fun _ _ _ h => h) (Or.inl ⟨by kernel_rfl, (by intro w' _; go_simp)⟩) hS ?_
                      go_simp
                      refine wpAnyH_take (i := 11) (v := .bool true) rfl (by kernel_rfl) (by kernel_rfl) (by kernel_rfl) (fun _ _ _ h => h) (Or.inl ⟨by kernel_rfl, (by intro w' _; go_simp)⟩) hS ?_
                      go_simp
                      refine wpAnyH_take (i := 12) rfl (by kernel_rfl) (by kernel_rfl) (by kernel_rfl) (fun _ _ _ h => h) (Or.inl ⟨by kernel_rfl, (by intro w' _; go_simp; with_reducible rfl)⟩) hS ?_
                      go_simp
                      refine wpAnyH_take (i := 13) (v := undef) rfl (by kernel_rfl) (by kernel_rfl) (by kernel_rfl) (fun _ _ _ h => h) (Or.inr ⟨by kernel_rfl, rfl⟩) hS ?_
                      go_simp
                      refine wpAnyH_take (i := 14) (v := undef) rfl (by kernel_rfl) (by kernel_rfl) (by kernel_rfl) (fun _ _ _ h => h) (Or.inr ⟨by kernel_rfl, rfl⟩) hS ?_
                      go_simp
                      refine wpAnyH_take (i := 15) (v := undef) rfl (by kernel_rfl) (by kernel_rfl) (by kernel_rfl) (fun _ _ _ h => h) (Or.inr ⟨by kernel_rfl, rfl⟩) hS ?_
                      go_simp
                      refine wpAnyH_take (i := 16) (v := .bool true) rfl (by kernel_rfl) (by kernel_rfl) (by kernel_rfl) (fun _ _ _ h => h) (Or.inl ⟨by kernel_rfl, (by intro w' _; go_simp)⟩) hS ?_
                      go_simp
                      refine wpAnyH_take (i := 17) rfl (by kernel_rfl) (by kernel_rfl) (by kernel_rfl) (fun _ _ _ h => h) (Or.inl ⟨by kernel_rfl, (by intro w' _; go_simp; with_reducible rfl)⟩) hS ?_
                      go_simp
                      refine wpAnyH_take (i := 18) (v := undef) rfl (by kernel_rfl) (by kernel_rfl) (by kernel_rfl) (fun _ _ _ h => h) (Or.inr ⟨by kernel_rfl, rfl⟩) hS ?_
                      go_simp
                      refine wpAnyH_take (i := 19) (v := undef) rfl (by kernel_rfl) (by kernel_rfl) (by kernel_rfl) (fun _ _ _ h => h) (Or.inr ⟨by kernel_rfl, rfl⟩) hS ?_
                      go_simp
                      refine wpAnyH_take (i := 20) (v := undef) rfl (by kernel_rfl) (by kernel_rfl) (by kernel_rfl) (fun _ _ _ h => h) (Or.inr ⟨by kernel_rfl, rfl⟩) hS ?_
                      go_simp
                      refine wpAnyH_take (i := 21) (v := undef) rfl (by kernel_rfl) (by kernel_rfl) (by kernel_rfl) (fun _ _ _ h => h) (Or.inr ⟨by kernel_rfl, rfl⟩) hS ?_
                      go_simp
                      refine wpAnyH_take (i := 22) (v := undef) rfl (by kernel_rfl) (by kernel_rfl) (by kernel_rfl) (fun _ _ _ h => h) (Or.inr ⟨by kernel_rfl, rfl⟩) hS ?_
                      go_simp
                      refine wpAnyH_take (i := 23) (v := undef) rfl (by kernel_rfl) (by kernel_rfl) (by kernel_rfl) (fun _ _ _ h => h) (Or.inr ⟨by kernel_rfl, rfl⟩) hS ?_
                      go_simp
                      refine wpAnyH_take (i := 24) (v := .bool true) rfl (by kernel_rfl) (by kernel_rfl) (by kernel_rfl) (fun _ _ _ h => h) (Or.inl ⟨by kernel_rfl, (by intro w' _; go_simp)⟩) hS ?_
                      go_simp
                      have HNO : Hid (decBy dNum dRat b = none) := HDB.out.trans (if_neg (fun h => by have := h.2.1; simp at this; have h2 := HNF.out; rw [this] at h2; simp at h2; omega))
                      refine wpAnyH_done (by kernel_rfl) ?_ _
                      have hZ := HZ0.out
                      unfold zeroRec at hZ
                      have htb := there_block (n := 15) hZ (by decide)
                      have HZQ : Hid ((W0.setCells w.heap.size 0 [.int .i64 0, .int .i64 0, .int .i64 0, .int .i64 0, .int .i64 0, .int .i64 0, .bool false, .string ⟨#[]⟩, .string ⟨#[]⟩, .bool false, .string ⟨#[]⟩, .string ⟨#[]⟩, .slice none 0 0, .slice none 0 0, .slice none 0 0]).heap[w.heap.size]? = some (.cells #[.int .i64 0, .int .i64 0, .int .i64 0, .int .i64 0, .int .i64 0, .int .i64 0, .bool false, .string ⟨#[]⟩, .string ⟨#[]⟩, .bool false, .string ⟨#[]⟩, .string ⟨#[]⟩, .slice none 0 0, .slice none 0 0, .slice none 0 0] 37 (0, 0))) := setCells_whole hZ rfl
                      clear hZ
                      go_wp2_with (refine wpList_store_mid rfl 37 (.tmp 2) (.tmp 151) rfl w.heap.size 0 #[.int .i64 0, .int .i64 0, .int .i64 0, .int .i64 0, .int .i64 0, .int .i64 0, .bool false, .string ⟨#[]⟩, .string ⟨#[]⟩, .bool false, .string ⟨#[]⟩, .string ⟨#[]⟩, .slice none 0 0, .slice none 0 0, .slice none 0 0] rfl rfl htb (by kernel_rfl) (by simp [Value.oneCell']) ?_)
                      have v0_ : (W0.setCells w.heap.size 0 [.int .i64 0, .int .i64 0, .int .i64 0, .int .i64 0, .int .i64 0, .int .i64 0, .bool false, .string ⟨#[]⟩, .string ⟨#[]⟩, .bool false, .string ⟨#[]⟩, .string ⟨#[]⟩, .slice none 0 0, .slice none 0 0, .slice none 0 0]).cell? ⟨w.heap.size, 0, none⟩ = some (.int .i64 0) := by rw [cell_of_row _ w.heap.size 0 _ _ (0, 0) HZQ.out]; rfl
                      have v1_ : (W0.setCells w.heap.size 0 [.int .i64 0, .int .i64 0, .int .i64 0, .int .i64 0, .int .i64 0, .int .i64 0, .bool false, .string ⟨#[]⟩, .string ⟨#[]⟩, .bool false, .string ⟨#[]⟩, .string ⟨#[]⟩, .slice none 0 0, .slice none 0 0, .slice none 0 0]).cell? ⟨w.heap.size, 1, none⟩ = some (.int .i64 0) := by rw [cell_of_row _ w.heap.size 1 _ _ (0, 0) HZQ.out]; rfl
                      have v2_ : (W0.setCells w.heap.size 0 [.int .i64 0, .int .i64 0, .int .i64 0, .int .i64 0, .int .i64 0, .int .i64 0, .bool false, .string ⟨#[]⟩, .string ⟨#[]⟩, .bool false, .string ⟨#[]⟩, .string ⟨#[]⟩, .slice none 0 0, .slice none 0 0, .slice none 0 0]).cell? ⟨w.heap.size, 2, none⟩ = some (.int .i64 0) := by rw [cell_of_row _ w.heap.size 2 _ _ (0, 0) HZQ.out]; rfl
                      have v3_ : (W0.setCells w.heap.size 0 [.int .i64 0, .int .i64 0, .int .i64 0, .int .i64 0, .int .i64 0, .int .i64 0, .bool false, .string ⟨#[]⟩, .string ⟨#[]⟩, .bool false, .string ⟨#[]⟩, .string ⟨#[]⟩, .slice none 0 0, .slice none 0 0, .slice none 0 0]).cell? ⟨w.heap.size, 3, none⟩ = some (.int .i64 0) := by rw [cell_of_row _ w.heap.size 3 _ _ (0, 0) HZQ.out]; rfl
                      have v4_ : (W0.setCells w.heap.size 0 [.int .i64 0, .int .i64 0, .int .i64 0, .int .i64 0, .int .i64 0, .int .i64 0, .bool false, .string ⟨#[]⟩, .string ⟨#[]⟩, .bool false, .string ⟨#[]⟩, .string ⟨#[]⟩, .slice none 0 0, .slice none 0 0, .slice none 0 0]).cell? ⟨w.heap.size, 4, none⟩ = some (.int .i64 0) := by rw [cell_of_row _ w.heap.size 4 _ _ (0, 0) HZQ.out]; rfl
                      have v5_ : (W0.setCells w.heap.size 0 [.int .i64 0, .int .i64 0, .int .i64 0, .int .i64 0, .int .i64 0, .int .i64 0, .bool false, .string ⟨#[]⟩, .string ⟨#[]⟩, .bool false, .string ⟨#[]⟩, .string ⟨#[]⟩, .slice none 0 0, .slice none 0 0, .slice none 0 0]).cell? ⟨w.heap.size, 5, none⟩ = some (.int .i64 0) := by rw [cell_of_row _ w.heap.size 5 _ _ (0, 0) HZQ.out]; rfl
                      have v6_ : (W0.setCells w.heap.size 0 [.int .i64 0, .int .i64 0, .int .i64 0, .int .i64 0, .int .i64 0, .int .i64 0, .bool false, .string ⟨#[]⟩, .string ⟨#[]⟩, .bool false, .string ⟨#[]⟩, .string ⟨#[]⟩, .slice none 0 0, .slice none 0 0, .slice none 0 0]).cell? ⟨w.heap.size, 6, none⟩ = some (.bool false) := by rw [cell_of_row _ w.heap.size 6 _ _ (0, 0) HZQ.out]; rfl
                      have v7_ : (W0.setCells w.heap.size 0 [.int .i64 0, .int .i64 0, .int .i64 0, .int .i64 0, .int .i64 0, .int .i64 0, .bool false, .string ⟨#[]⟩, .string ⟨#[]⟩, .bool false, .string ⟨#[]⟩, .string ⟨#[]⟩, .slice none 0 0, .slice none 0 0, .slice none 0 0]).cell? ⟨w.heap.size, 7, none⟩ = some (.string ⟨#[]⟩) := by rw [cell_of_row _ w.heap.size 7 _ _ (0, 0) HZQ.out]; rfl
                      have v8_ : (W0.setCells w.heap.size 0 [.int .i64 0, .int .i64 0, .int .i64 0, .int .i64 0, .int .i64 0, .int .i64 0, .bool false, .string ⟨#[]⟩, .string ⟨#[]⟩, .bool false, .string ⟨#[]⟩, .string ⟨#[]⟩, .slice none 0 0, .slice none 0 0, .slice none 0 0]).cell? ⟨w.heap.size, 8, none⟩ = some (.string ⟨#[]⟩) := by rw [cell_of_row _ w.heap.size 8 _ _ (0, 0) HZQ.out]; rfl
                      have v9_ : (W0.setCells w.heap.size 0 [.int .i64 0, .int .i64 0, .int .i64 0, .int .i64 0, .int .i64 0, .int .i64 0, .bool false, .string ⟨#[]⟩, .string ⟨#[]⟩, .bool false, .string ⟨#[]⟩, .string ⟨#[]⟩, .slice none 0 0, .slice none 0 0, .slice none 0 0]).cell? ⟨w.heap.size, 9, none⟩ = some (.bool false) := by rw [cell_of_row _ w.heap.size 9 _ _ (0, 0) HZQ.out]; rfl
                      have v10_ : (W0.setCells w.heap.size 0 [.int .i64 0, .int .i64 0, .int .i64 0, .int .i64 0, .int .i64 0, .int .i64 0, .bool false, .string ⟨#[]⟩, .string ⟨#[]⟩, .bool false, .string ⟨#[]⟩, .string ⟨#[]⟩, .slice none 0 0, .slice none 0 0, .slice none 0 0]).cell? ⟨w.heap.size, 10, none⟩ = some (.string ⟨#[]⟩) := by rw [cell_of_row _ w.heap.size 10 _ _ (0, 0) HZQ.out]; rfl
                      have v11_ : (W0.setCells w.heap.size 0 [.int .i64 0, .int .i64 0, .int .i64 0, .int .i64 0, .int .i64 0, .int .i64 0, .bool false, .string ⟨#[]⟩, .string ⟨#[]⟩, .bool false, .string ⟨#[]⟩, .string ⟨#[]⟩, .slice none 0 0, .slice none 0 0, .slice none 0 0]).cell? ⟨w.heap.size, 11, none⟩ = some (.string ⟨#[]⟩) := by rw [cell_of_row _ w.heap.size 11 _ _ (0, 0) HZQ.out]; rfl
                      have v12_ : (W0.setCells w.heap.size 0 [.int .i64 0, .int .i64 0, .int .i64 0, .int .i64 0, .int .i64 0, .int .i64 0, .bool false, .string ⟨#[]⟩, .string ⟨#[]⟩, .bool false, .string ⟨#[]⟩, .string ⟨#[]⟩, .slice none 0 0, .slice none 0 0, .slice none 0 0]).cell? ⟨w.heap.size, 12, none⟩ = some (.slice none 0 0) := by rw [cell_of_row _ w.heap.size 12 _ _ (0, 0) HZQ.out]; rfl
                      have v13_ : (W0.setCells w.heap.size 0 [.int .i64 0, .int .i64 0, .int .i64 0, .int .i64 0, .int .i64 0, .int .i64 0, .bool false, .string ⟨#[]⟩, .string ⟨#[]⟩, .bool false, .string ⟨#[]⟩, .string ⟨#[]⟩, .slice none 0 0, .slice none 0 0, .slice none 0 0]).cell? ⟨w.heap.size, 13, none⟩ = some (.slice none 0 0) := by rw [cell_of_row _ w.heap.size 13 _ _ (0, 0) HZQ.out]; rfl
                      have v14_ : (W0.setCells w.heap.size 0 [.int .i64 0, .int .i64 0, .int .i64 0, .int .i64 0, .int .i64 0, .int .i64 0, .bool false, .string ⟨#[]⟩, .string ⟨#[]⟩, .bool false, .string ⟨#[]⟩, .string ⟨#[]⟩, .slice none 0 0, .slice none 0 0, .slice none 0 0]).cell? ⟨w.heap.size, 14, none⟩ = some (.slice none 0 0) := by rw [cell_of_row _ w.heap.size 14 _ _ (0, 0) HZQ.out]; rfl
                      exact bodyPost_ret (v := .tuple #[.agg #[.int .i64 0, .int .i64 0, .int .i64 0, .int .i64 0, .int .i64 0, .int .i64 0, .bool false, .string ⟨#[]⟩, .string ⟨#[]⟩, .bool false, .string ⟨#[]⟩, .string ⟨#[]⟩, .slice none 0 0, .slice none 0 0, .slice none 0 0], .int .i64 44]) (by simp [results, Tryd.results26, go_sem, v0_, v1_, v2_, v3_, v4_, v5_, v6_, v7_, v8_, v9_, v10_, v11_, v12_, v13_, v14_]) rfl (DecPost.none HNO.out (below_setCells (Nat.le_refl _) _ 0 hS.2.2.2))
                    · have hn0 : nf = 0 := by omega
                      have hLf : Lf = [] := List.eq_nil_of_length_eq_zero (by rw [← HNF.out]; exact hn0)
                      exact (HCS.out (by rw [hLf])).elim
                  · obtain ⟨W0, hW0⟩ : ∃ W0, W0 = wo.drew := ⟨_, rfl⟩
                    have hS : (FinS w g qr A b Af nf cf true z1 z2 z3 z4 z5 z6 a c A1 legs.length c1 A2 opts.length c2 A3 pays.length c3) W0 := by rw [hW0]; exact HS.out.drew
                    have HZ0 : Hid (W0.heap[w.heap.size]? = some zeroRec) := by rw [hW0]; exact HI.out.z
                    refine wp_region_held_drew (S := (FinS w g qr A b Af nf cf true z1 z2 z3 z4 z5 z6 a c A1 legs.length c1 A2 opts.length c2 A3 pays.length c3)) (by kernel_rfl) (by rw [← hW0]; exact hS) ?_
                    rw [← hW0]
                    intro _
                    have HO0 : Hid (W0.ownsRow B 49 2 (.slice A1 legs.length c1) legs.length (legs.flatMap legV) ∧ W0.ownsRow B 51 4 (.slice A2 opts.length c2) opts.length (opts.flatMap optV) ∧ W0.ownsRow B 55 4 (.slice A3 pays.length c3) pays.length (pays.flatMap payV)) := by rw [hW0]; exact ⟨HI.out.l, HI.out.o, HI.out.p⟩
                    clear hW0 HI HS
                    refine wpAnyH_take (i := 0) rfl (by kernel_rfl) (by kernel_rfl) (by kernel_rfl) (fun _ _ _ h => h) (Or.inl ⟨by kernel_rfl, (by intro w' _; go_simp; with_reducible rfl)⟩) hS ?_
                    go_simp
                    refine wpAnyH_take (i := 1) rfl (by kernel_rfl) (by kernel_rfl) (by kernel_rfl) (fun _ _ _ h => h) (Or.inl ⟨by kernel_rfl, (by intro w' _; go_simp; with_reducible rfl)⟩) hS ?_
                    go_simp
                    refine wpAnyH_take (i := 2) rfl (by kernel_rfl) (by kernel_rfl) (by kernel_rfl) (fun _ _ _ h => h) (Or.inl ⟨by kernel_rfl, (by intro w' _; go_simp; with_reducible rfl)⟩) hS ?_
                    go_simp
                    refine wpAnyH_take (i := 3) (v := .bool true) rfl (by kernel_rfl) (by kernel_rfl) (by kernel_rfl) (fun _ _ _ h => h) (Or.inl ⟨by kernel_rfl, (by intro w' hw'; have kc := (FinS.rd hw').2; go_simp)⟩) hS ?_
                    go_simp
                    refine wpAnyH_take (i := 4) rfl (by kernel_rfl) (by kernel_rfl) (by kernel_rfl) (fun _ _ _ h => h) (Or.inl ⟨by kernel_rfl, (by intro w' _; go_simp; with_reducible rfl)⟩) hS ?_
                    go_simp
                    refine wpAnyH_take (i := 5) (v := undef) rfl (by kernel_rfl) (by kernel_rfl) (by kernel_rfl) (fun _ _ _ h => h) (Or.inr ⟨by kernel_rfl, rfl⟩) hS ?_
                    go_simp
                    refine wpAnyH_take (i := 6) (v := undef) rfl (by kernel_rfl) (by kernel_rfl) (by kernel_rfl) (fun _ _ _ h => h) (Or.inr ⟨by kernel_rfl, rfl⟩) hS ?_
                    go_simp
                    refine wpAnyH_take (i := 7) (v := undef) rfl (by kernel_rfl) (by kernel_rfl) (by kernel_rfl) (fun _ _ _ h => h) (Or.inr ⟨by kernel_rfl, rfl⟩) hS ?_
                    go_simp
                    refine wpAnyH_take (i := 8) (v := undef) rfl (by kernel_rfl) (by kernel_rfl) (by kernel_rfl) (fun _ _ _ h => h) (Or.inr ⟨by kernel_rfl, rfl⟩) hS ?_
                    go_simp
                    refine wpAnyH_take (i := 9) (v := undef) rfl (by kernel_rfl) (by kernel_rfl) (by kernel_rfl) (fun _ _ _ h => h) (Or.inr ⟨by kernel_rfl, rfl⟩) hS ?_
                    go_simp
                    refine wpAnyH_take (i := 10) (v := undef) rfl (by kernel_rfl) (by kernel_rfl) (by kernel_rfl) (fun _ _ _ h => h) (Or.inr ⟨by kernel_rfl, rfl⟩) hS ?_
                    go_simp
                    refine wpAnyH_take (i := 11) (v := .bool true) rfl (by kernel_rfl) (by kernel_rfl) (by kernel_rfl) (fun _ _ _ h => h) (Or.inl ⟨by kernel_rfl, (by intro w' _; go_simp)⟩) hS ?_
                    go_simp
                    refine wpAnyH_take (i := 12) rfl (by kernel_rfl) (by kernel_rfl) (by kernel_rfl) (fun _ _ _ h => h) (Or.inl ⟨by kernel_rfl, (by intro w' _; go_simp; with_reducible rfl)⟩) hS ?_
                    go_simp
                    refine wpAnyH_take (i := 13) (v := undef) rfl (by kernel_rfl) (by kernel_rfl) (by kernel_rfl) (fun _ _ _ h => h) (Or.inr ⟨by kernel_rfl, rfl⟩) hS ?_
                    go_simp
                    refine wpAnyH_take (i := 14) (v := undef) rfl (by kernel_rfl) (by kernel_rfl) (by kernel_rfl) (fun _ _ _ h => h) (Or.inr ⟨by kernel_rfl, rfl⟩) hS ?_
                    go_simp
                    refine wpAnyH_take (i := 15) (v := undef) rfl (by kernel_rfl) (by kernel_rfl) (by kernel_rfl) (fun _ _ _ h => h) (Or.inr ⟨by kernel_rfl, rfl⟩) hS ?_
                    go_simp
                    refine wpAnyH_take (i := 16) (v := .bool true) rfl (by kernel_rfl) (by kernel_rfl) (by kernel_rfl) (fun _ _ _ h => h) (Or.inl ⟨by kernel_rfl, (by intro w' _; go_simp)⟩) hS ?_
                    go_simp
                    refine wpAnyH_take (i := 17) rfl (by kernel_rfl) (by kernel_rfl) (by kernel_rfl) (fun _ _ _ h => h) (Or.inl ⟨by kernel_rfl, (by intro w' _; go_simp; with_reducible rfl)⟩) hS ?_
                    go_simp
                    refine wpAnyH_take (i := 18) (v := undef) rfl (by kernel_rfl) (by kernel_rfl) (by kernel_rfl) (fun _ _ _ h => h) (Or.inr ⟨by kernel_rfl, rfl⟩) hS ?_
                    go_simp
                    refine wpAnyH_take (i := 19) (v := undef) rfl (by kernel_rfl) (by kernel_rfl) (by kernel_rfl) (fun _ _ _ h => h) (Or.inr ⟨by kernel_rfl, rfl⟩) hS ?_
                    go_simp
                    refine wpAnyH_take (i := 20) (v := undef) rfl (by kernel_rfl) (by kernel_rfl) (by kernel_rfl) (fun _ _ _ h => h) (Or.inr ⟨by kernel_rfl, rfl⟩) hS ?_
                    go_simp
                    refine wpAnyH_take (i := 21) (v := undef) rfl (by kernel_rfl) (by kernel_rfl) (by kernel_rfl) (fun _ _ _ h => h) (Or.inr ⟨by kernel_rfl, rfl⟩) hS ?_
                    go_simp
                    refine wpAnyH_take (i := 22) (v := undef) rfl (by kernel_rfl) (by kernel_rfl) (by kernel_rfl) (fun _ _ _ h => h) (Or.inr ⟨by kernel_rfl, rfl⟩) hS ?_
                    go_simp
                    refine wpAnyH_take (i := 23) (v := undef) rfl (by kernel_rfl) (by kernel_rfl) (by kernel_rfl) (fun _ _ _ h => h) (Or.inr ⟨by kernel_rfl, rfl⟩) hS ?_
                    go_simp
                    refine wpAnyH_take (i := 24) (v := .bool true) rfl (by kernel_rfl) (by kernel_rfl) (by kernel_rfl) (fun _ _ _ h => h) (Or.inl ⟨by kernel_rfl, (by intro w' _; go_simp)⟩) hS ?_
                    go_simp
                    have HNO : Hid (decBy dNum dRat b = none) := HDB.out.trans (if_neg (fun h => by have := h.2.1; simp at this))
                    refine wpAnyH_done (by kernel_rfl) ?_ _
                    have hZ := HZ0.out
                    unfold zeroRec at hZ
                    have htb := there_block (n := 15) hZ (by decide)
                    have HZQ : Hid ((W0.setCells w.heap.size 0 [.int .i64 0, .int .i64 0, .int .i64 0, .int .i64 0, .int .i64 0, .int .i64 0, .bool false, .string ⟨#[]⟩, .string ⟨#[]⟩, .bool false, .string ⟨#[]⟩, .string ⟨#[]⟩, .slice none 0 0, .slice none 0 0, .slice none 0 0]).heap[w.heap.size]? = some (.cells #[.int .i64 0, .int .i64 0, .int .i64 0, .int .i64 0, .int .i64 0, .int .i64 0, .bool false, .string ⟨#[]⟩, .string ⟨#[]⟩, .bool false, .string ⟨#[]⟩, .string ⟨#[]⟩, .slice none 0 0, .slice none 0 0, .slice none 0 0] 37 (0, 0))) := setCells_whole hZ rfl
                    clear hZ
                    go_wp2_with (refine wpList_store_mid rfl 37 (.tmp 2) (.tmp 151) rfl w.heap.size 0 #[.int .i64 0, .int .i64 0, .int .i64 0, .int .i64 0, .int .i64 0, .int .i64 0, .bool false, .string ⟨#[]⟩, .string ⟨#[]⟩, .bool false, .string ⟨#[]⟩, .string ⟨#[]⟩, .slice none 0 0, .slice none 0 0, .slice none 0 0] rfl rfl htb (by kernel_rfl) (by simp [Value.oneCell']) ?_)
                    have v0_ : (W0.setCells w.heap.size 0 [.int .i64 0, .int .i64 0, .int .i64 0, .int .i64 0, .int .i64 0, .int .i64 0, .bool false, .string ⟨#[]⟩, .string ⟨#[]⟩, .bool false, .string ⟨#[]⟩, .string ⟨#[]⟩, .slice none 0 0, .slice none 0 0, .slice none 0 0]).cell? ⟨w.heap.size, 0, none⟩ = some (.int .i64 0) := by rw [cell_of_row _ w.heap.size 0 _ _ (0, 0) HZQ.out]; rfl
                    have v1_ : (W0.setCells w.heap.size 0 [.int .i64 0, .int .i64 0, .int .i64 0, .int .i64 0, .int .i64 0, .int .i64 0, .bool false, .string ⟨#[]⟩, .string ⟨#[]⟩, .bool false, .string ⟨#[]⟩, .string ⟨#[]⟩, .slice none 0 0, .slice none 0 0, .slice none 0 0]).cell? ⟨w.heap.size, 1, none⟩ = some (.int .i64 0) := by rw [cell_of_row _ w.heap.size 1 _ _ (0, 0) HZQ.out]; rfl
                    have v2_ : (W0.setCells w.heap.size 0 [.int .i64 0, .int .i64 0, .int .i64 0, .int .i64 0, .int .i64 0, .int .i64 0, .bool false, .string ⟨#[]⟩, .string ⟨#[]⟩, .bool false, .string ⟨#[]⟩, .string ⟨#[]⟩, .slice none 0 0, .slice none 0 0, .slice none 0 0]).cell? ⟨w.heap.size, 2, none⟩ = some (.int .i64 0) := by rw [cell_of_row _ w.heap.size 2 _ _ (0, 0) HZQ.out]; rfl
                    have v3_ : (W0.setCells w.heap.size 0 [.int .i64 0, .int .i64 0, .int .i64 0, .int .i64 0, .int .i64 0, .int .i64 0, .bool false, .string ⟨#[]⟩, .string ⟨#[]⟩, .bool false, .string ⟨#[]⟩, .string ⟨#[]⟩, .slice none 0 0, .slice none 0 0, .slice none 0 0]).cell? ⟨w.heap.size, 3, none⟩ = some (.int .i64 0) := by rw [cell_of_row _ w.heap.size 3 _ _ (0, 0) HZQ.out]; rfl
                    have v4_ : (W0.setCells w.heap.size 0 [.int .i64 0, .int .i64 0, .int .i64 0, .int .i64 0, .int .i64 0, .int .i64 0, .bool false, .string ⟨#[]⟩, .string ⟨#[]⟩, .bool false, .string ⟨#[]⟩, .string ⟨#[]⟩, .slice none 0 0, .slice none 0 0, .slice none 0 0]).cell? ⟨w.heap.size, 4, none⟩ = some (.int .i64 0) := by rw [cell_of_row _ w.heap.size 4 _ _ (0, 0) HZQ.out]; rfl
                    have v5_ : (W0.setCells w.heap.size 0 [.int .i64 0, .int .i64 0, .int .i64 0, .int .i64 0, .int .i64 0, .int .i64 0, .bool false, .string ⟨#[]⟩, .string ⟨#[]⟩, .bool false, .string ⟨#[]⟩, .string ⟨#[]⟩, .slice none 0 0, .slice none 0 0, .slice none 0 0]).cell? ⟨w.heap.size, 5, none⟩ = some (.int .i64 0) := by rw [cell_of_row _ w.heap.size 5 _ _ (0, 0) HZQ.out]; rfl
                    have v6_ : (W0.setCells w.heap.size 0 [.int .i64 0, .int .i64 0, .int .i64 0, .int .i64 0, .int .i64 0, .int .i64 0, .bool false, .string ⟨#[]⟩, .string ⟨#[]⟩, .bool false, .string ⟨#[]⟩, .string ⟨#[]⟩, .slice none 0 0, .slice none 0 0, .slice none 0 0]).cell? ⟨w.heap.size, 6, none⟩ = some (.bool false) := by rw [cell_of_row _ w.heap.size 6 _ _ (0, 0) HZQ.out]; rfl
                    have v7_ : (W0.setCells w.heap.size 0 [.int .i64 0, .int .i64 0, .int .i64 0, .int .i64 0, .int .i64 0, .int .i64 0, .bool false, .string ⟨#[]⟩, .string ⟨#[]⟩, .bool false, .string ⟨#[]⟩, .string ⟨#[]⟩, .slice none 0 0, .slice none 0 0, .slice none 0 0]).cell? ⟨w.heap.size, 7, none⟩ = some (.string ⟨#[]⟩) := by rw [cell_of_row _ w.heap.size 7 _ _ (0, 0) HZQ.out]; rfl
                    have v8_ : (W0.setCells w.heap.size 0 [.int .i64 0, .int .i64 0, .int .i64 0, .int .i64 0, .int .i64 0, .int .i64 0, .bool false, .string ⟨#[]⟩, .string ⟨#[]⟩, .bool false, .string ⟨#[]⟩, .string ⟨#[]⟩, .slice none 0 0, .slice none 0 0, .slice none 0 0]).cell? ⟨w.heap.size, 8, none⟩ = some (.string ⟨#[]⟩) := by rw [cell_of_row _ w.heap.size 8 _ _ (0, 0) HZQ.out]; rfl
                    have v9_ : (W0.setCells w.heap.size 0 [.int .i64 0, .int .i64 0, .int .i64 0, .int .i64 0, .int .i64 0, .int .i64 0, .bool false, .string ⟨#[]⟩, .string ⟨#[]⟩, .bool false, .string ⟨#[]⟩, .string ⟨#[]⟩, .slice none 0 0, .slice none 0 0, .slice none 0 0]).cell? ⟨w.heap.size, 9, none⟩ = some (.bool false) := by rw [cell_of_row _ w.heap.size 9 _ _ (0, 0) HZQ.out]; rfl
                    have v10_ : (W0.setCells w.heap.size 0 [.int .i64 0, .int .i64 0, .int .i64 0, .int .i64 0, .int .i64 0, .int .i64 0, .bool false, .string ⟨#[]⟩, .string ⟨#[]⟩, .bool false, .string ⟨#[]⟩, .string ⟨#[]⟩, .slice none 0 0, .slice none 0 0, .slice none 0 0]).cell? ⟨w.heap.size, 10, none⟩ = some (.string ⟨#[]⟩) := by rw [cell_of_row _ w.heap.size 10 _ _ (0, 0) HZQ.out]; rfl
                    have v11_ : (W0.setCells w.heap.size 0 [.int .i64 0, .int .i64 0, .int .i64 0, .int .i64 0, .int .i64 0, .int .i64 0, .bool false, .string ⟨#[]⟩, .string ⟨#[]⟩, .bool false, .string ⟨#[]⟩, .string ⟨#[]⟩, .slice none 0 0, .slice none 0 0, .slice none 0 0]).cell? ⟨w.heap.size, 11, none⟩ = some (.string ⟨#[]⟩) := by rw [cell_of_row _ w.heap.size 11 _ _ (0, 0) HZQ.out]; rfl
                    have v12_ : (W0.setCells w.heap.size 0 [.int .i64 0, .int .i64 0, .int .i64 0, .int .i64 0, .int .i64 0, .int .i64 0, .bool false, .string ⟨#[]⟩, .string ⟨#[]⟩, .bool false, .string ⟨#[]⟩, .string ⟨#[]⟩, .slice none 0 0, .slice none 0 0, .slice none 0 0]).cell? ⟨w.heap.size, 12, none⟩ = some (.slice none 0 0) := by rw [cell_of_row _ w.heap.size 12 _ _ (0, 0) HZQ.out]; rfl
                    have v13_ : (W0.setCells w.heap.size 0 [.int .i64 0, .int .i64 0, .int .i64 0, .int .i64 0, .int .i64 0, .int .i64 0, .bool false, .string ⟨#[]⟩, .string ⟨#[]⟩, .bool false, .string ⟨#[]⟩, .string ⟨#[]⟩, .slice none 0 0, .slice none 0 0, .slice none 0 0]).cell? ⟨w.heap.size, 13, none⟩ = some (.slice none 0 0) := by rw [cell_of_row _ w.heap.size 13 _ _ (0, 0) HZQ.out]; rfl
                    have v14_ : (W0.setCells w.heap.size 0 [.int .i64 0, .int .i64 0, .int .i64 0, .int .i64 0, .int .i64 0, .int .i64 0, .bool false, .string ⟨#[]⟩, .string ⟨#[]⟩, .bool false, .string ⟨#[]⟩, .string ⟨#[]⟩, .slice none 0 0, .slice none 0 0, .slice none 0 0]).cell? ⟨w.heap.size, 14, none⟩ = some (.slice none 0 0) := by rw [cell_of_row _ w.heap.size 14 _ _ (0, 0) HZQ.out]; rfl
                    exact bodyPost_ret (v := .tuple #[.agg #[.int .i64 0, .int .i64 0, .int .i64 0, .int .i64 0, .int .i64 0, .int .i64 0, .bool false, .string ⟨#[]⟩, .string ⟨#[]⟩, .bool false, .string ⟨#[]⟩, .string ⟨#[]⟩, .slice none 0 0, .slice none 0 0, .slice none 0 0], .int .i64 44]) (by simp [results, Tryd.results26, go_sem, v0_, v1_, v2_, v3_, v4_, v5_, v6_, v7_, v8_, v9_, v10_, v11_, v12_, v13_, v14_]) rfl (DecPost.none HNO.out (below_setCells (Nat.le_refl _) _ 0 hS.2.2.2))

set_option maxHeartbeats 16000000 in
set_option maxRecDepth 100000 in
theorem dDecode_B (A : Option Addr) (n cb : Nat) (b : List Nat) (w : World) (hn : n = b.length) (hr0 : KRd .u8 w w.heap.size A b) (hby : Byt b) (hnc : n ≤ cb) (hcm : cb ≤ maxLen) (hcs : (rRec dNum dRat (b, false)).2 = ([], false) ∧ ¬ (recOk (rRec dNum dRat (b, false)).1 = true ∧ recT (rRec dNum dRat (b, false)).1 = b)) :
    Calls Tryd.prog 26 #[.slice A n cb] w (DecPost (decBy dNum dRat b) w) := by
  by_cases hbig : 4096 < n
  · exact dDecode_long A n cb b w hn hbig (Nat.le_trans hnc hcm)
  have hd : decide ((4096 : Int) < (n : Int)) = false := decide_eq_false (by omega)
  obtain ⟨g, hg⟩ : ∃ g, g = w.heap.size + 1 := ⟨_, rfl⟩
  obtain ⟨qr, hqr⟩ : ∃ q, q = w.heap.size + 1 + 1 := ⟨_, rfl⟩
  obtain ⟨ql, hql⟩ : ∃ q, q = w.heap.size + 1 + 1 + 1 := ⟨_, rfl⟩
  have hlg : w.heap.size < g := by omega
  have hgq : g < qr := by omega
  have hqq : qr < ql := by omega
  obtain ⟨w0, hw0⟩ : ∃ W, W = (((w.alloc zeroRec).alloc (.cells #[.slice A n cb, .bool false] 96)).alloc zeroRec).alloc (.cells #[.int .i64 0, .int .i64 0, .int .i64 0, .int .i64 0, .int .i64 0, .int .i64 0] 97) := ⟨_, rfl⟩
  have hwb : Below w.heap.size w w0 := by rw [hw0]; exact (((bel_alloc _ _).alloc (by simp) _).alloc (by simp <;> omega) _).alloc (by simp <;> omega) _
  have HB0 := Lib.hid hwb
  have HZ0 : Hid (w0.heap[w.heap.size]? = some zeroRec) := by rw [hw0]; exact blk_alloc (blk_alloc (blk_alloc (blk_new _ _)))
  have HR0 : Hid (RdS 96 g w.heap.size (b, false) w0) := by
    refine ⟨A, cb, ?_, hr0.below hwb, by omega, by rw [← hn]; exact hnc, hcm, hby⟩
    have := blk_new (w.alloc zeroRec) (.cells #[.slice A n cb, .bool false] 96)
    rw [World.size_alloc, ← hg] at this
    dsimp only
    rw [← hn, hw0]
    exact blk_alloc (blk_alloc this)
  have HQ0 : Hid (w0.heap[qr]? = some zeroRec) := by
    have := blk_new ((w.alloc zeroRec).alloc (.cells #[.slice A n cb, .bool false] 96)) zeroRec
    rw [World.size_alloc, World.size_alloc, ← hqr] at this
    rw [hw0]
    exact blk_alloc this
  have HA0 : Hid (ArrN ql 0 6 [] 97 w0) := by
    have := blk_new (((w.alloc zeroRec).alloc (.cells #[.slice A n cb, .bool false] 96)).alloc zeroRec) (.cells #[.int .i64 0, .int .i64 0, .int .i64 0, .int .i64 0, .int .i64 0, .int .i64 0] 97)
    rw [World.size_alloc, World.size_alloc, World.size_alloc, ← hql, ← hw0] at this
    exact this
  have HKB := Lib.hid (And.intro hr0 (And.intro hby hn))
  have HCV : Hid (∀ W, KRd .u8 W w.heap.size A b → (convert 22 9 (.slice A n cb)).run Tryd.prog W = .ok (.string (nstr b)) W) := fun W hW => by
    rw [hn]
    exact conv_bytes (P := Tryd.prog) W w.heap.size 22 9 5 A b cb Tryd.underlying22 Tryd.underlying5 Tryd.underlying9 hW hby
  have hbl : b.length ≤ 4096 := by omega
  have HFI := Lib.hid (rec_fine dNum_fine dRat_fine (b, false))
  obtain ⟨r1, hr1⟩ : ∃ r, r = dNum (b, false) := ⟨_, rfl⟩
  obtain ⟨z1, s1⟩ := r1
  obtain ⟨r2, hr2⟩ : ∃ r, r = dNum s1 := ⟨_, rfl⟩
  obtain ⟨z2, s2⟩ := r2
  obtain ⟨r3, hr3⟩ : ∃ r, r = dNum s2 := ⟨_, rfl⟩
  obtain ⟨z3, s3⟩ := r3
  obtain ⟨r4, hr4⟩ : ∃ r, r = dNum s3 := ⟨_, rfl⟩
  obtain ⟨z4, s4⟩ := r4
  obtain ⟨r5, hr5⟩ : ∃ r, r = dNum s4 := ⟨_, rfl⟩
  obtain ⟨z5, s5⟩ := r5
  obtain ⟨r6, hr6⟩ : ∃ r, r = dNum s5 := ⟨_, rfl⟩
  obtain ⟨z6, s6⟩ := r6
  obtain ⟨ra, hra⟩ : ∃ r, r = dRat s6 := ⟨_, rfl⟩
  obtain ⟨a, sa⟩ := ra
  obtain ⟨rc, hrc⟩ : ∃ r, r = dRat sa := ⟨_, rfl⟩
  obtain ⟨c, sc⟩ := rc
  obtain ⟨rm, hrm⟩ : ∃ r, r = rCount dNum 8 sc := ⟨_, rfl⟩
  have hm_m1 : rm.1 ≤ 8 := by rw [hrm]; exact rCount_le _ _ _
  obtain ⟨m1, t1⟩ := rm
  dsimp only at hm_m1
  obtain ⟨rl_, hrl⟩ : ∃ r, r = rList (rPair dNum) m1 t1 := ⟨_, rfl⟩
  obtain ⟨legs, sl⟩ := rl_
  obtain ⟨rn, hrn⟩ : ∃ r, r = rCount dNum 4 sl := ⟨_, rfl⟩
  have hm_m2 : rn.1 ≤ 4 := by rw [hrn]; exact rCount_le _ _ _
  obtain ⟨m2, t2⟩ := rn
  dsimp only at hm_m2
  obtain ⟨rl_, hro⟩ : ∃ r, r = rList (rOpt dNum dRat) m2 t2 := ⟨_, rfl⟩
  obtain ⟨opts, so⟩ := rl_
  obtain ⟨rq, hrq⟩ : ∃ r, r = rCount dNum 256 so := ⟨_, rfl⟩
  have hm_m3 : rq.1 ≤ 256 := by rw [hrq]; exact rCount_le _ _ _
  obtain ⟨m3, t3⟩ := rq
  dsimp only at hm_m3
  obtain ⟨rl_, hrp⟩ : ∃ r, r = rList (rPay dNum) m3 t3 := ⟨_, rfl⟩
  obtain ⟨pays, sp⟩ := rl_
  have hrec : rRec dNum dRat (b, false) = ((⟨z1, z2, z3, z4, z5, z6, a, c, legs, opts⟩, pays), sp) := by
    unfold rRec rAct
    simp only [← hr1, ← hr2, ← hr3, ← hr4, ← hr5, ← hr6, ← hra, ← hrc, ← hrm, ← hrl, ← hrn, ← hro, ← hrq, ← hrp]
  have HL6 : Hid (rList dNum 6 (b, false) = ([z1, z2, z3, z4, z5, z6], s6)) := by
    show _ = _
    simp only [rList, ← hr1, ← hr2, ← hr3, ← hr4, ← hr5, ← hr6, List.nil_append, List.cons_append]
  rw [hrec] at HFI
  rw [hrec] at hcs
  dsimp only at hcs
  have HCS := Lib.hid hcs
  clear hcs
  have HDB : Hid (decBy dNum dRat b = if b.length ≤ 4096 ∧ sp = ([], false) ∧ recOk (⟨z1, z2, z3, z4, z5, z6, a, c, legs, opts⟩, pays) = true ∧ recT (⟨z1, z2, z3, z4, z5, z6, a, c, legs, opts⟩, pays) = b then some (⟨z1, z2, z3, z4, z5, z6, a, c, legs, opts⟩, pays) else none) := by
    show _ = _
    unfold decBy
    rw [hrec]
  have E1 := Lib.hid hr1
  have E2 := Lib.hid hr2
  have E3 := Lib.hid hr3
  have E4 := Lib.hid hr4
  have E5 := Lib.hid hr5
  have E6 := Lib.hid hr6
  have EA := Lib.hid hra
  have EC := Lib.hid hrc
  have EM := Lib.hid hrm
  have EL := Lib.hid hrl
  have EN := Lib.hid hrn
  have EO := Lib.hid hro
  have EQ := Lib.hid hrq
  have EP := Lib.hid hrp
  have HBL := Lib.hid hbl
  unfold maxLen at hcm
  clear hr0 hby hwb hrec hbig hbl hn hr1 hr2 hr3 hr4 hr5 hr6 hra hrc hrm hrl hrn hro hrq hrp
  unfold zeroRec at hw0
  go_enter Tryd.func26, Tryd.ntmps26
  go_upto_region 6 with fail
  rw [← hw0, ← hql, ← hqr, ← hg]
  have HGE := Lib.hid (And.intro hg (And.intro hqr hql))
  clear hw0 hg hqr hql
  go_wp2_with fail
  go_loopw [7] (fun vi wr => ∃ k : Nat, k ≤ 6 ∧ vi = .int .i64 (k : Int) ∧ Hid (RdS 96 g w.heap.size (rList dNum k (b, false)).2 wr) ∧ Hid (ArrN ql k 6 (rList dNum k (b, false)).1 97 wr) ∧ Hid (wr.heap[w.heap.size]? = some zeroRec) ∧ Hid (wr.heap[qr]? = some zeroRec) ∧ Hid (Below w.heap.size w wr)) (fun vi _ => 6 - (intOf vi).toNat)
  case atStart => exact ⟨0, Nat.zero_le _, rfl, HR0, HA0, HZ0, HQ0, HB0⟩
  case round =>
    clear HR0 HA0 HZ0 HQ0 HB0
    obtain ⟨k, hk, rfl, HR, HA, HZ, HQ, HB⟩ := hrel
    rename World => wo
    obtain ⟨R, hR⟩ : ∃ R, R = rList dNum k (b, false) := ⟨_, rfl⟩
    rw [← hR] at HR HA
    have hll : R.1.length = k := by rw [hR]; exact rList_len _ _ _
    obtain ⟨zs, sk⟩ := R
    dsimp only at HR HA hll
    have HRK := Lib.hid hR
    have HLL := Lib.hid hll
    clear hR hll
    by_cases hlt : k < 6
    · obtain ⟨rx, hrx⟩ : ∃ r, r = dNum sk := ⟨_, rfl⟩
      obtain ⟨x, sx⟩ := rx
      have HNX : Hid (rList dNum (k + 1) (b, false) = (zs ++ [x], sx)) := by
        show _ = _
        rw [rList, ← HRK.out]
        simp only [← hrx]
      have HC := Lib.hid (dNumber_calls g w.heap.size sk wo HR.out HR.out.le)
      rw [← hrx] at HC
      clear hrx HR
      go_wp2_with fail
      refine HC.out.mono ?_
      rintro e w1 ⟨rfl, hr, ho⟩
      dsimp only at hr ⊢
      have HA1 := Lib.hid (show ArrN ql k 6 zs 97 w1 from blk_only HA.out ho (by omega))
      have HZ1 := Lib.hid (blk_only HZ.out ho (by omega))
      have HQ1 := Lib.hid (blk_only HQ.out ho (by omega))
      have HB1 : Hid (Below w.heap.size w w1) := HB.out.trans (ho.at_ w.heap.size HB.out.size (by omega))
      have HR1 := Lib.hid hr
      obtain ⟨kc, kf, kl⟩ := HA1.out.cell HLL.out hlt
      have HA2 := Lib.hid (HA1.out.step HLL.out hlt x)
      have HR2 := Lib.hid (HR1.out.far (q := ql) (j := k) (u := .int .i64 x) (by omega) (by omega))
      have HZ2 := Lib.hid ((heap_setCell_other w1 ⟨ql, k, none⟩ _ (.int .i64 x) (by show w.heap.size ≠ ql; omega)).trans HZ1.out)
      have HQ2 := Lib.hid ((heap_setCell_other w1 ⟨ql, k, none⟩ _ (.int .i64 x) (by show qr ≠ ql; omega)).trans HQ1.out)
      have HB2 : Hid (Below w.heap.size w (w1.setCell ⟨ql, k, none⟩ (.int .i64 x))) := HB1.out.setCell (by show w.heap.size ≤ ql; omega) _
      clear hr ho HC HA HZ HQ HB HA1 HZ1 HQ1 HB1 HR1
      have hki : (k : Int) < 6 := by omega
      go_wp2_with fail
      go_roundw
      case measure => simp [intOf]; omega
      case rel => exact ⟨k + 1, by omega, by go_num, by rw [HNX.out]; exact HR2, by rw [HNX.out]; exact HA2, HZ2, HQ2, HB2⟩
    · have hk6 : k = 6 := by omega
      subst hk6
      have hE := HRK.out
      rw [HL6.out] at hE
      have e1 : zs = [z1, z2, z3, z4, z5, z6] := congrArg Prod.fst hE
      have e2 : s6 = sk := (congrArg Prod.snd hE).symm
      subst e1 e2
      clear hE HRK HLL hlt hk
      have HQA : Hid (wo.heap[ql]? = some (.cells #[.int .i64 z1, .int .i64 z2, .int .i64 z3, .int .i64 z4, .int .i64 z5, .int .i64 z6] 97 (0, 0))) := HA.out
      clear HA
      have c0 : wo.cell? ⟨ql, 0, none⟩ = some (.int .i64 z1) := by rw [cell_of_row wo ql 0 _ _ (0, 0) HQA.out]; rfl
      have c1 : wo.cell? ⟨ql, 1, none⟩ = some (.int .i64 z2) := by rw [cell_of_row wo ql 1 _ _ (0, 0) HQA.out]; rfl
      have c2 : wo.cell? ⟨ql, 2, none⟩ = some (.int .i64 z3) := by rw [cell_of_row wo ql 2 _ _ (0, 0) HQA.out]; rfl
      have c3 : wo.cell? ⟨ql, 3, none⟩ = some (.int .i64 z4) := by rw [cell_of_row wo ql 3 _ _ (0, 0) HQA.out]; rfl
      have c4 : wo.cell? ⟨ql, 4, none⟩ = some (.int .i64 z5) := by rw [cell_of_row wo ql 4 _ _ (0, 0) HQA.out]; rfl
      have c5 : wo.cell? ⟨ql, 5, none⟩ = some (.int .i64 z6) := by rw [cell_of_row wo ql 5 _ _ (0, 0) HQA.out]; rfl
      have hQ := HQ.out
      unfold zeroRec at hQ
      have htb := there_block (n := 14) hQ (by decide)
      have hQ2 : (wo.setCells qr 0 [.int .i64 z1, .int .i64 z2, .int .i64 z3, .int .i64 z4, .int .i64 z5, .int .i64 z6, .bool false, .string ⟨#[]⟩, .string ⟨#[]⟩, .bool false, .string ⟨#[]⟩, .string ⟨#[]⟩, .slice none 0 0, .slice none 0 0]).heap[qr]? = some (.cells #[.int .i64 z1, .int .i64 z2, .int .i64 z3, .int .i64 z4, .int .i64 z5, .int .i64 z6, .bool false, .string ⟨#[]⟩, .string ⟨#[]⟩, .bool false, .string ⟨#[]⟩, .string ⟨#[]⟩, .slice none 0 0, .slice none 0 0, .slice none 0 0] 37 (0, 0)) := setCells_list qr 37 [.int .i64 z1, .int .i64 z2, .int .i64 z3, .int .i64 z4, .int .i64 z5, .int .i64 z6, .bool false, .string ⟨#[]⟩, .string ⟨#[]⟩, .bool false, .string ⟨#[]⟩, .string ⟨#[]⟩, .slice none 0 0, .slice none 0 0] [] [.int .i64 0, .int .i64 0, .int .i64 0, .int .i64 0, .int .i64 0, .int .i64 0, .bool false, .string ⟨#[]⟩, .string ⟨#[]⟩, .bool false, .string ⟨#[]⟩, .string ⟨#[]⟩, .slice none 0 0, .slice none 0 0] [.slice none 0 0] wo hQ rfl
      obtain ⟨w3, hw3⟩ : ∃ W, W = wo.setCells qr 0 [.int .i64 z1, .int .i64 z2, .int .i64 z3, .int .i64 z4, .int .i64 z5, .int .i64 z6, .bool false, .string ⟨#[]⟩, .string ⟨#[]⟩, .bool false, .string ⟨#[]⟩, .string ⟨#[]⟩, .slice none 0 0, .slice none 0 0] := ⟨_, rfl⟩
      rw [← hw3] at hQ2
      have HK3 := Lib.hid hQ2
      have HB3 : Hid (Below w.heap.size w w3) := by rw [hw3]; exact below_setCells (by omega) _ 0 HB.out
      have HZ3 : Hid (w3.heap[w.heap.size]? = some zeroRec) := by rw [hw3]; exact (setCells_other w.heap.size qr (by omega) _ 0 wo).trans HZ.out
      have HD3 : Hid (RdS 96 g w.heap.size s6 w3) := by
        rw [hw3]
        obtain ⟨A', c', h1, h2, h3, h4, h5, h6⟩ := HR.out
        exact ⟨A', c', (setCells_other g qr (by omega) _ 0 wo).trans h1, h2.below (below_setCells (by omega) _ 0 (Below.refl _ _)), h3, h4, h5, h6⟩
      have HW3 := Lib.hid hw3
      clear hw3 hQ hQ2 HR HZ HQ HB HQA
      go_upto_region 10 with fail
      refine wp_region_list ?_
      refine wpList_val (v := .pointer (some ⟨ql, 0, none⟩)) rfl (by go_simp) ?_
      refine wpList_val (v := .int .i64 z1) rfl (by go_simp) ?_
      refine wpList_val (v := .pointer (some ⟨ql, 1, none⟩)) rfl (by go_simp) ?_
      refine wpList_val (v := .int .i64 z2) rfl (by go_simp) ?_
      refine wpList_val (v := .pointer (some ⟨ql, 2, none⟩)) rfl (by go_simp) ?_
      refine wpList_val (v := .int .i64 z3) rfl (by go_simp) ?_
      refine wpList_val (v := .pointer (some ⟨ql, 3, none⟩)) rfl (by go_simp) ?_
      refine wpList_val (v := .int .i64 z4) rfl (by go_simp) ?_
      refine wpList_val (v := .pointer (some ⟨ql, 4, none⟩)) rfl (by go_simp) ?_
      refine wpList_val (v := .int .i64 z5) rfl (by go_simp) ?_
      refine wpList_val (v := .pointer (some ⟨ql, 5, none⟩)) rfl (by go_simp) ?_
      refine wpList_val (v := .int .i64 z6) rfl (by go_simp) ?_
      refine wpList_val (v := .agg #[.int .i64 z1, .int .i64 z2, .int .i64 z3, .int .i64 z4, .int .i64 z5, .int .i64 z6, .bool false, .string ⟨#[]⟩, .string ⟨#[]⟩, .bool false, .string ⟨#[]⟩, .string ⟨#[]⟩, .slice none 0 0, .slice none 0 0]) rfl (by go_simp) ?_
      refine wpList_val (v := .pointer (some ⟨qr, 0, none⟩)) rfl (by go_simp) ?_
      refine wpList_store_mid rfl 34 (.tmp 48) (.tmp 47) rfl qr 0 #[.int .i64 z1, .int .i64 z2, .int .i64 z3, .int .i64 z4, .int .i64 z5, .int .i64 z6, .bool false, .string ⟨#[]⟩, .string ⟨#[]⟩, .bool false, .string ⟨#[]⟩, .string ⟨#[]⟩, .slice none 0 0, .slice none 0 0] (by go_simp) (by go_simp) htb (by kernel_rfl) (by simp [Value.oneCell']) ?_
      refine wpList_nil ?_
      rw [← HW3.out]
      clear HW3 htb c0 c1 c2 c3 c4 c5
      have HC := Lib.hid (dRat_calls g w.heap.size s6 w3 HD3.out)
      rw [← EA.out] at HC
      go_wp2_with fail
      refine HC.out.mono ?_
      rintro e v4 ⟨rfl, hr, ho⟩
      dsimp only at hr ⊢
      have HK_ := Lib.hid (blk_only HK3.out ho (by omega))
      have HZ_ := Lib.hid (blk_only HZ3.out ho (by omega))
      have HB_ : Hid (Below w.heap.size w v4) := HB3.out.trans (ho.at_ w.heap.size HB3.out.size (by omega))
      have HD_ := Lib.hid hr
      clear hr ho HC HK3 HZ3 HB3 HD3
      have lq : qr < v4.heap.size := (Array.getElem?_eq_some_iff.1 HK_.out).1
      have k0 : v4.cell? ⟨qr, 6, none⟩ = some (.bool false) := by rw [cell_of_row v4 qr 6 _ _ (0, 0) HK_.out]; rfl
      have f0 : v4.frozen? ⟨qr, 6, none⟩ = false := frozen_of_row v4 qr 6 _ _ HK_.out
      have k1 : v4.cell? ⟨qr, 7, none⟩ = some (.string ⟨#[]⟩) := by rw [cell_of_row v4 qr 7 _ _ (0, 0) HK_.out]; rfl
      have f1 : v4.frozen? ⟨qr, 7, none⟩ = false := frozen_of_row v4 qr 7 _ _ HK_.out
      have k2 : v4.cell? ⟨qr, 8, none⟩ = some (.string ⟨#[]⟩) := by rw [cell_of_row v4 qr 8 _ _ (0, 0) HK_.out]; rfl
      have f2 : v4.frozen? ⟨qr, 8, none⟩ = false := frozen_of_row v4 qr 8 _ _ HK_.out
      go_wp2_with fail
      obtain ⟨w4, hW⟩ : ∃ W, W = (((v4.setCell ⟨qr, 6, none⟩ (.bool a.neg)).setCell ⟨qr, 7, none⟩ (.string a.num)).setCell ⟨qr, 8, none⟩ (.string a.den)) := ⟨_, rfl⟩
      have HK4 : Hid (w4.heap[qr]? = some (.cells #[.int .i64 z1, .int .i64 z2, .int .i64 z3, .int .i64 z4, .int .i64 z5, .int .i64 z6, .bool a.neg, .string a.num, .string a.den, .bool false, .string ⟨#[]⟩, .string ⟨#[]⟩, .slice none 0 0, .slice none 0 0, .slice none 0 0] 37 (0, 0))) := by
        rw [hW]
        have e0 := heap_setCell_same v4 qr 6 _ _ (.bool a.neg) HK_.out
        have e1 := heap_setCell_same _ qr 7 _ _ (.string a.num) e0
        exact heap_setCell_same _ qr 8 _ _ (.string a.den) e1
      have HB4 : Hid (Below w.heap.size w w4) := by rw [hW]; exact ((HB_.out.setCell (by show w.heap.size ≤ qr; omega) _).setCell (by show w.heap.size ≤ qr; omega) _).setCell (by show w.heap.size ≤ qr; omega) _
      have HZ4 : Hid (w4.heap[w.heap.size]? = some zeroRec) := by
        rw [hW]
        rw [heap_setCell_other _ _ _ _ (by show w.heap.size ≠ qr; omega), heap_setCell_other _ _ _ _ (by show w.heap.size ≠ qr; omega), heap_setCell_other _ _ _ _ (by show w.heap.size ≠ qr; omega)]
        exact HZ_.out
      have HD4 : Hid (RdS 96 g w.heap.size sa w4) := by rw [hW]; exact ((HD_.out.far (by omega) (by omega)).far (by omega) (by omega)).far (by omega) (by omega)
      rw [← hW]
      clear hW k0 k1 k2 f0 f1 f2 lq HK_ HZ_ HB_ HD_
      have HC := Lib.hid (dRat_calls g w.heap.size sa w4 HD4.out)
      rw [← EC.out] at HC
      refine HC.out.mono ?_
      rintro e v5 ⟨rfl, hr, ho⟩
      dsimp only at hr ⊢
      have HK_ := Lib.hid (blk_only HK4.out ho (by omega))
      have HZ_ := Lib.hid (blk_only HZ4.out ho (by omega))
      have HB_ : Hid (Below w.heap.size w v5) := HB4.out.trans (ho.at_ w.heap.size HB4.out.size (by omega))
      have HD_ := Lib.hid hr
      clear hr ho HC HK4 HZ4 HB4 HD4
      have lq : qr < v5.heap.size := (Array.getElem?_eq_some_iff.1 HK_.out).1
      have k0 : v5.cell? ⟨qr, 9, none⟩ = some (.bool false) := by rw [cell_of_row v5 qr 9 _ _ (0, 0) HK_.out]; rfl
      have f0 : v5.frozen? ⟨qr, 9, none⟩ = false := frozen_of_row v5 qr 9 _ _ HK_.out
      have k1 : v5.cell? ⟨qr, 10, none⟩ = some (.string ⟨#[]⟩) := by rw [cell_of_row v5 qr 10 _ _ (0, 0) HK_.out]; rfl
      have f1 : v5.frozen? ⟨qr, 10, none⟩ = false := frozen_of_row v5 qr 10 _ _ HK_.out
      have k2 : v5.cell? ⟨qr, 11, none⟩ = some (.string ⟨#[]⟩) := by rw [cell_of_row v5 qr 11 _ _ (0, 0) HK_.out]; rfl
      have f2 : v5.frozen? ⟨qr, 11, none⟩ = false := frozen_of_row v5 qr 11 _ _ HK_.out
      go_wp2_with fail
      obtain ⟨w5, hW⟩ : ∃ W, W = (((v5.setCell ⟨qr, 9, none⟩ (.bool c.neg)).setCell ⟨qr, 10, none⟩ (.string c.num)).setCell ⟨qr, 11, none⟩ (.string c.den)) := ⟨_, rfl⟩
      have HK5 : Hid (w5.heap[qr]? = some (.cells #[.int .i64 z1, .int .i64 z2, .int .i64 z3, .int .i64 z4, .int .i64 z5, .int .i64 z6, .bool a.neg, .string a.num, .string a.den, .bool c.neg, .string c.num, .string c.den, .slice none 0 0, .slice none 0 0, .slice none 0 0] 37 (0, 0))) := by
        rw [hW]
        have e0 := heap_setCell_same v5 qr 9 _ _ (.bool c.neg) HK_.out
        have e1 := heap_setCell_same _ qr 10 _ _ (.string c.num) e0
        exact heap_setCell_same _ qr 11 _ _ (.string c.den) e1
      have HB5 : Hid (Below w.heap.size w w5) := by rw [hW]; exact ((HB_.out.setCell (by show w.heap.size ≤ qr; omega) _).setCell (by show w.heap.size ≤ qr; omega) _).setCell (by show w.heap.size ≤ qr; omega) _
      have HZ5 : Hid (w5.heap[w.heap.size]? = some zeroRec) := by
        rw [hW]
        rw [heap_setCell_other _ _ _ _ (by show w.heap.size ≠ qr; omega), heap_setCell_other _ _ _ _ (by show w.heap.size ≠ qr; omega), heap_setCell_other _ _ _ _ (by show w.heap.size ≠ qr; omega)]
        exact HZ_.out
      have HD5 : Hid (RdS 96 g w.heap.size sc w5) := by rw [hW]; exact ((HD_.out.far (by omega) (by omega)).far (by omega) (by omega)).far (by omega) (by omega)
      rw [← hW]
      clear hW k0 k1 k2 f0 f1 f2 lq HK_ HZ_ HB_ HD_
      have HC := Lib.hid (dMany_calls g w.heap.size 8 sc w5 HD5.out HD5.out.le (by unfold maxLen; omega))
      rw [← EM.out] at HC
      refine HC.out.mono ?_
      rintro e w6 ⟨rfl, hr, ho⟩
      dsimp only at hr ⊢
      obtain ⟨B, hB⟩ : ∃ B, B = w6.heap.size := ⟨_, rfl⟩
      have HI : Hid (DecI 96 w g w.heap.size qr B z1 z2 z3 z4 z5 z6 a c none 0 [] none 0 [] none 0 [] t1 w6) := ⟨blk_only HK5.out ho (by omega), blk_only HZ5.out ho (by omega), World.ownsRow_nil _ _ _ _, World.ownsRow_nil _ _ _ _, World.ownsRow_nil _ _ _ _, hr, HB5.out.trans (ho.at_ w.heap.size HB5.out.size (by omega)), by rw [hB]; exact Nat.le_refl _, hlg, by omega, by omega, by rw [hB]; exact (HB5.out.trans (ho.at_ w.heap.size HB5.out.size (by omega))).size, Nat.le_refl _, by decide⟩
      clear hr ho HC HK5 HZ5 HB5 HD5 hB
      obtain ⟨i1, hi_, hz_, hs_, hbt_⟩ := info_parts Tryd.rec_info_leg
      have HF1 := Lib.hid (And.intro hi_ (And.intro hz_ (And.intro hs_ hbt_)))
      clear hi_ hz_ hs_ hbt_
      obtain ⟨i2, hi_, hz_, hs_, hbt_⟩ := info_parts Tryd.rec_info_opt
      have HF2 := Lib.hid (And.intro hi_ (And.intro hz_ (And.intro hs_ hbt_)))
      clear hi_ hz_ hs_ hbt_
      obtain ⟨i3, hi_, hz_, hs_, hbt_⟩ := info_parts Tryd.rec_info_pay
      have HF3 := Lib.hid (And.intro hi_ (And.intro hz_ (And.intro hs_ hbt_)))
      clear hi_ hz_ hs_ hbt_
      go_wp2_with fail
      go_loopw [9] (fun vi wr => ∃ (k : Nat) (Ax : Option Addr) (cx : Nat), k ≤ m1 ∧ vi = .int .i64 (k : Int) ∧ Hid (DecI 96 w g w.heap.size qr B z1 z2 z3 z4 z5 z6 a c Ax cx (rList (rPair dNum) k t1).1 none 0 [] none 0 [] (rList (rPair dNum) k t1).2 wr)) (fun vi _ => m1 - (intOf vi).toNat)
      case atStart => exact ⟨0, none, 0, Nat.zero_le _, rfl, HI⟩
      case round =>
        clear HI
        obtain ⟨k, A1, c1, hk, rfl, HI⟩ := hrel
        rename World => wo
        obtain ⟨R, hR⟩ : ∃ R, R = rList (rPair dNum) k t1 := ⟨_, rfl⟩
        rw [← hR] at HI
        have hll : R.1.length = k := by rw [hR]; exact rList_len _ _ _
        obtain ⟨ps, sk⟩ := R
        dsimp only at HI hll
        have HRK := Lib.hid hR
        have HLL := Lib.hid hll
        clear hR hll
        by_cases hlt : k < m1
        · obtain ⟨rx, hrx⟩ : ∃ r, r = dNum sk := ⟨_, rfl⟩
          obtain ⟨x, sx⟩ := rx
          obtain ⟨ry, hry⟩ : ∃ r, r = dNum sx := ⟨_, rfl⟩
          obtain ⟨y, sy⟩ := ry
          have HNX : Hid (rList (rPair dNum) (k + 1) t1 = (ps ++ [(x, y)], sy)) := by
            show _ = _
            rw [rList, ← HRK.out]
            simp only [rPair, ← hrx, ← hry]
          have Ex_ := Lib.hid hrx
          have Ey_ := Lib.hid hry
          clear hrx hry
          have HC := Lib.hid (dNumber_calls g w.heap.size sk wo HI.out.d HI.out.d.le)
          rw [← Ex_.out] at HC
          go_wp2_with fail
          refine HC.out.mono ?_
          rintro e wi0 ⟨rfl, hr, ho⟩
          dsimp only at hr ⊢
          have HJ0 := Lib.hid (HI.out.next hr ho)
          clear hr ho HC HI
          have HC := Lib.hid (dNumber_calls g w.heap.size sx wi0 HJ0.out.d HJ0.out.d.le)
          rw [← Ey_.out] at HC
          go_wp2_with fail
          refine HC.out.mono ?_
          rintro e wi1 ⟨rfl, hr, ho⟩
          dsimp only at hr ⊢
          have HJ1 := Lib.hid (HJ0.out.next hr ho)
          clear hr ho HC HJ0
          have kf := HJ1.out.cells.1
          have HJa := Lib.hid (HJ1.out.alloc (.cells #[.int .i64 x, .int .i64 y] 49))
          have hps := Nat.le_of_eq HLL.out
          go_wp2_with (at_builtin; refine wpList_append_own _ rfl (.tmp 70) (.tmp 74) 31 rfl B 49 i1 _ 2 16 Tryd.underlying31 HF1.out.1 HF1.out.2.1 HF1.out.2.2.1 HF1.out.2.2.2 rfl (by decide) _ ps.length (ps.flatMap legV) rfl HJa.out.l _ 1 1 [.int .i64 x, .int .i64 y] rfl rfl (rd_new_cells _ _ _ _ (by simp)) (by simp [Value.oneCell']) (by simp only [maxLen]; omega) (by omega) HJa.out.sz ?_)
          intro v' w' hown hgr hnil
          obtain ⟨g', cap, rfl, _, _⟩ := hown.form (by omega)
          have hg1 := blk_grown HJa.out.l HJa.out.r (by decide) hgr
          have HN9 := Lib.hid (HJa.out.leg hown hgr)
          have kf2 : w'.cell? ⟨qr, 12, none⟩ = some (.slice A1 ps.length c1) := by rw [cell_of_row w' qr 12 _ _ (0, 0) hg1]; rfl
          have ff : w'.frozen? ⟨qr, 12, none⟩ = false := frozen_of_row w' qr 12 _ _ hg1
          have lf : qr < w'.heap.size := (Array.getElem?_eq_some_iff.1 hg1).1
          clear kf hown hgr hnil hg1 HJa HJ1
          go_wp2_with fail
          clear kf2 ff lf
          go_roundw
          case measure => simp [intOf]; omega
          case rel => exact ⟨k + 1, _, _, by omega, by go_num, by rw [HNX.out]; exact HN9⟩
        · have hkm : k = m1 := by omega
          have hE := HRK.out
          rw [hkm, ← EL.out] at hE
          have e1 : legs = ps := (congrArg Prod.fst hE).symm
          have e2 : sl = sk := (congrArg Prod.snd hE).symm
          subst e1 e2
          clear hE HRK HLL hkm
          have HC := Lib.hid (dMany_calls g w.heap.size 4 sl wo HI.out.d HI.out.d.le (by unfold maxLen; omega))
          rw [← EN.out] at HC
          go_wp2_with fail
          refine HC.out.mono ?_
          rintro e w6 ⟨rfl, hr, ho⟩
          dsimp only at hr ⊢
          have HI2 := Lib.hid (HI.out.next hr ho)
          clear hr ho HC HI
          have HI := HI2
          clear HI2
          go_wp2_with fail
          go_loopw [12] (fun vi wr => ∃ (k : Nat) (Ax : Option Addr) (cx : Nat), k ≤ m2 ∧ vi = .int .i64 (k : Int) ∧ Hid (DecI 96 w g w.heap.size qr B z1 z2 z3 z4 z5 z6 a c A1 c1 legs Ax cx (rList (rOpt dNum dRat) k t2).1 none 0 [] (rList (rOpt dNum dRat) k t2).2 wr)) (fun vi _ => m2 - (intOf vi).toNat)
          case atStart => exact ⟨0, none, 0, Nat.zero_le _, rfl, HI⟩
          case round =>
            clear HI
            obtain ⟨k, A2, c2, hk, rfl, HI⟩ := hrel
            rename World => wo
            obtain ⟨R, hR⟩ : ∃ R, R = rList (rOpt dNum dRat) k t2 := ⟨_, rfl⟩
            rw [← hR] at HI
            have hll : R.1.length = k := by rw [hR]; exact rList_len _ _ _
            obtain ⟨ps, sk⟩ := R
            dsimp only at HI hll
            have HRK := Lib.hid hR
            have HLL := Lib.hid hll
            clear hR hll
            by_cases hlt : k < m2
            · obtain ⟨rx, hrx⟩ : ∃ r, r = dRat sk := ⟨_, rfl⟩
              obtain ⟨x, sx⟩ := rx
              obtain ⟨ry, hry⟩ : ∃ r, r = dNum sx := ⟨_, rfl⟩
              obtain ⟨y, sy⟩ := ry
              have HNX : Hid (rList (rOpt dNum dRat) (k + 1) t2 = (ps ++ [(x, y)], sy)) := by
                show _ = _
                rw [rList, ← HRK.out]
                simp only [rOpt, ← hrx, ← hry]
              have Ex_ := Lib.hid hrx
              have Ey_ := Lib.hid hry
              clear hrx hry
              have HC := Lib.hid (dRat_calls g w.heap.size sk wo HI.out.d)
              rw [← Ex_.out] at HC
              go_wp2_with fail
              refine HC.out.mono ?_
              rintro e wi0 ⟨rfl, hr, ho⟩
              dsimp only at hr ⊢
              have HJ0 := Lib.hid (HI.out.next hr ho)
              clear hr ho HC HI
              obtain ⟨q, hq⟩ : ∃ q, q = wi0.heap.size := ⟨_, rfl⟩
              obtain ⟨wx, hwx⟩ : ∃ W, W = wi0.alloc (.cells #[.bool x.neg, .string x.num, .string x.den] 30) := ⟨_, rfl⟩
              have hbx : Below wi0.heap.size wi0 wx := by rw [hwx]; exact bel_alloc _ _
              have HX : Hid (BoxX q x wx) := by rw [hwx, hq]; exact blk_new _ _
              have hqg : q ≠ g := by have := HJ0.out.d.lt; omega
              have hqa : q ≠ qr := by have := (Array.getElem?_eq_some_iff.1 HJ0.out.r).1; omega
              have HJx := Lib.hid (HJ0.out.next (HJ0.out.d.next HJ0.out.d.le hbx) (Only.of_below (B := 0) hbx))
              have HWX := Lib.hid hwx
              have HQE := Lib.hid hq
              clear hwx hbx hq HJ0
              go_wp2_with fail
              rw [← HQE.out, ← HWX.out]
              clear HWX HQE
              have HC := Lib.hid (dNumber_calls g w.heap.size sx wx HJx.out.d HJx.out.d.le)
              rw [← Ey_.out] at HC
              go_wp2_with fail
              refine HC.out.mono ?_
              rintro e wi1 ⟨rfl, hr, ho⟩
              dsimp only at hr ⊢
              have HJ1 := Lib.hid (HJx.out.next hr ho)
              have HXb := Lib.hid (show BoxX q x wi1 from blk_only HX.out ho hqg)
              clear HX
              clear hr ho HC HJx
              have kf := HJ1.out.cells.2.1
              obtain ⟨b0, b1, b2, _⟩ := three_of HXb.out
              have HJa := Lib.hid (HJ1.out.alloc (.cells #[.bool x.neg, .string x.num, .string x.den, .int .i64 y] 51))
              have hps := Nat.le_of_eq HLL.out
              go_wp2_with (at_builtin; refine wpList_append_own _ rfl (.tmp 91) (.tmp 95) 32 rfl B 51 i2 _ 4 48 Tryd.underlying32 HF2.out.1 HF2.out.2.1 HF2.out.2.2.1 HF2.out.2.2.2 rfl (by decide) _ ps.length (ps.flatMap optV) rfl HJa.out.o _ 1 1 [.bool x.neg, .string x.num, .string x.den, .int .i64 y] rfl rfl (rd_new_cells _ _ _ _ (by simp)) (by simp [Value.oneCell']) (by simp only [maxLen]; omega) (by omega) HJa.out.sz ?_)
              intro v' w' hown hgr hnil
              obtain ⟨g', cap, rfl, _, _⟩ := hown.form (by omega)
              have hg1 := blk_grown HJa.out.o HJa.out.r (by decide) hgr
              have HN9 := Lib.hid (HJa.out.opt hown hgr)
              have kf2 : w'.cell? ⟨qr, 13, none⟩ = some (.slice A2 ps.length c2) := by rw [cell_of_row w' qr 13 _ _ (0, 0) hg1]; rfl
              have ff : w'.frozen? ⟨qr, 13, none⟩ = false := frozen_of_row w' qr 13 _ _ hg1
              have lf : qr < w'.heap.size := (Array.getElem?_eq_some_iff.1 hg1).1
              clear kf hown hgr hnil hg1 HJa HJ1 b0 b1 b2 HXb
              go_wp2_with fail
              clear kf2 ff lf
              go_roundw
              case measure => simp [intOf]; omega
              case rel => exact ⟨k + 1, _, _, by omega, by go_num, by rw [HNX.out]; exact HN9⟩
            · have hkm : k = m2 := by omega
              have hE := HRK.out
              rw [hkm, ← EO.out] at hE
              have e1 : opts = ps := (congrArg Prod.fst hE).symm
              have e2 : so = sk := (congrArg Prod.snd hE).symm
              subst e1 e2
              clear hE HRK HLL hkm
              have HC := Lib.hid (dMany_calls g w.heap.size 256 so wo HI.out.d HI.out.d.le (by unfold maxLen; omega))
              rw [← EQ.out] at HC
              go_wp2_with fail
              refine HC.out.mono ?_
              rintro e w6 ⟨rfl, hr, ho⟩
              dsimp only at hr ⊢
              have HI2 := Lib.hid (HI.out.next hr ho)
              clear hr ho HC HI
              have HI := HI2
              clear HI2
              go_wp2_with fail
              go_loopw [15] (fun vi wr => ∃ (k : Nat) (Ax : Option Addr) (cx : Nat), k ≤ m3 ∧ vi = .int .i64 (k : Int) ∧ Hid (DecI 96 w g w.heap.size qr B z1 z2 z3 z4 z5 z6 a c A1 c1 legs A2 c2 opts Ax cx (rList (rPay dNum) k t3).1 (rList (rPay dNum) k t3).2 wr)) (fun vi _ => m3 - (intOf vi).toNat)
              case atStart => exact ⟨0, none, 0, Nat.zero_le _, rfl, HI⟩
              case round =>
                clear HI
                obtain ⟨k, A3, c3, hk, rfl, HI⟩ := hrel
                rename World => wo
                obtain ⟨R, hR⟩ : ∃ R, R = rList (rPay dNum) k t3 := ⟨_, rfl⟩
                rw [← hR] at HI
                have hll : R.1.length = k := by rw [hR]; exact rList_len _ _ _
                obtain ⟨ps, sk⟩ := R
                dsimp only at HI hll
                have HRK := Lib.hid hR
                have HLL := Lib.hid hll
                clear hR hll
                by_cases hlt : k < m3
                · obtain ⟨rx, hrx⟩ : ∃ r, r = dNum sk := ⟨_, rfl⟩
                  obtain ⟨x, sx⟩ := rx
                  obtain ⟨ry, hry⟩ : ∃ r, r = dNum sx := ⟨_, rfl⟩
                  obtain ⟨y, sy⟩ := ry
                  obtain ⟨ru, hru⟩ : ∃ r, r = dNum sy := ⟨_, rfl⟩
                  obtain ⟨u, su⟩ := ru
                  obtain ⟨rv, hrv⟩ : ∃ r, r = dNum su := ⟨_, rfl⟩
                  obtain ⟨v, sv⟩ := rv
                  have HNX : Hid (rList (rPay dNum) (k + 1) t3 = (ps ++ [⟨x, y, u, v⟩], sv)) := by
                    show _ = _
                    rw [rList, ← HRK.out]
                    simp only [rPay, ← hrx, ← hry, ← hru, ← hrv]
                  have Ex_ := Lib.hid hrx
                  have Ey_ := Lib.hid hry
                  have Eu_ := Lib.hid hru
                  have Ev_ := Lib.hid hrv
                  clear hrx hry hru hrv
                  have HC := Lib.hid (dNumber_calls g w.heap.size sk wo HI.out.d HI.out.d.le)
                  rw [← Ex_.out] at HC
                  go_wp2_with fail
                  refine HC.out.mono ?_
                  rintro e wi0 ⟨rfl, hr, ho⟩
                  dsimp only at hr ⊢
                  have HJ0 := Lib.hid (HI.out.next hr ho)
                  clear hr ho HC HI
                  have HC := Lib.hid (dNumber_calls g w.heap.size sx wi0 HJ0.out.d HJ0.out.d.le)
                  rw [← Ey_.out] at HC
                  go_wp2_with fail
                  refine HC.out.mono ?_
                  rintro e wi1 ⟨rfl, hr, ho⟩
                  dsimp only at hr ⊢
                  have HJ1 := Lib.hid (HJ0.out.next hr ho)
                  clear hr ho HC HJ0
                  have HC := Lib.hid (dNumber_calls g w.heap.size sy wi1 HJ1.out.d HJ1.out.d.le)
                  rw [← Eu_.out] at HC
                  go_wp2_with fail
                  refine HC.out.mono ?_
                  rintro e wi2 ⟨rfl, hr, ho⟩
                  dsimp only at hr ⊢
                  have HJ2 := Lib.hid (HJ1.out.next hr ho)
                  clear hr ho HC HJ1
                  have HC := Lib.hid (dNumber_calls g w.heap.size su wi2 HJ2.out.d HJ2.out.d.le)
                  rw [← Ev_.out] at HC
                  go_wp2_with fail
                  refine HC.out.mono ?_
                  rintro e wi3 ⟨rfl, hr, ho⟩
                  dsimp only at hr ⊢
                  have HJ3 := Lib.hid (HJ2.out.next hr ho)
                  clear hr ho HC HJ2
                  have kf := HJ3.out.cells.2.2
                  have HJa := Lib.hid (HJ3.out.alloc (.cells #[.int .i64 x, .int .i64 y, .int .i64 u, .int .i64 v] 55))
                  have hps := Nat.le_of_eq HLL.out
                  go_wp2_with (at_builtin; refine wpList_append_own _ rfl (.tmp 115) (.tmp 123) 35 rfl B 55 i3 _ 4 32 Tryd.underlying35 HF3.out.1 HF3.out.2.1 HF3.out.2.2.1 HF3.out.2.2.2 rfl (by decide) _ ps.length (ps.flatMap payV) rfl HJa.out.p _ 1 1 [.int .i64 x, .int .i64 y, .int .i64 u, .int .i64 v] rfl rfl (rd_new_cells _ _ _ _ (by simp)) (by simp [Value.oneCell']) (by simp only [maxLen]; omega) (by omega) HJa.out.sz ?_)
                  intro v' w' hown hgr hnil
                  obtain ⟨g', cap, rfl, _, _⟩ := hown.form (by omega)
                  have hg1 := blk_grown HJa.out.p HJa.out.r (by decide) hgr
                  have HN9 := Lib.hid (HJa.out.pay hown hgr)
                  have kf2 : w'.cell? ⟨qr, 14, none⟩ = some (.slice A3 ps.length c3) := by rw [cell_of_row w' qr 14 _ _ (0, 0) hg1]; rfl
                  have ff : w'.frozen? ⟨qr, 14, none⟩ = false := frozen_of_row w' qr 14 _ _ hg1
                  have lf : qr < w'.heap.size := (Array.getElem?_eq_some_iff.1 hg1).1
                  clear kf hown hgr hnil hg1 HJa HJ3
                  go_wp2_with fail
                  clear kf2 ff lf
                  go_roundw
                  case measure => simp [intOf]; omega
                  case rel => exact ⟨k + 1, _, _, by omega, by go_num, by rw [HNX.out]; exact HN9⟩
                · have hkm : k = m3 := by omega
                  have hE := HRK.out
                  rw [hkm, ← EP.out] at hE
                  have e1 : pays = ps := (congrArg Prod.fst hE).symm
                  have e2 : sp = sk := (congrArg Prod.snd hE).symm
                  subst e1 e2
                  clear hE HRK HLL hkm
                  obtain ⟨Lf, bf⟩ := sp
                  obtain ⟨Af, cf, k0, k1, f0, f1, lg, y1_, y2_, y3_, y4_, y5_, y6_⟩ := RdS.cells HI.out.d
                  unfold maxLen at y4_
                  obtain ⟨nf, hnf⟩ : ∃ n, n = Lf.length := ⟨_, rfl⟩
                  rw [← hnf] at y6_ y3_
                  have HNF := Lib.hid hnf
                  have HS : Hid (FinS w g qr A b Af nf cf bf z1 z2 z3 z4 z5 z6 a c A1 legs.length c1 A2 opts.length c2 A3 pays.length c3 wo) := ⟨HI.out.r, y6_, HKB.out.1.below HI.out.b, HI.out.b⟩
                  clear hnf k0 k1 f0 f1 lg y1_ y2_ y5_ y6_
                  go_wp2_with fail
                  cases bf
                  · by_cases hnp : 0 < nf
                    · have h := HCS.out.1
                      simp at h
                      have h2 := HNF.out
                      rw [h] at h2
                      simp at h2
                      omega
                    · have hn0 : nf = 0 := by omega
                      have hd0 : decide ((0 : Int) < (nf : Int)) = false := decide_eq_false (by omega)
                      have hd0' : decide (0 < nf) = false := decide_eq_false (by omega)
                      have hLf : Lf = [] := List.eq_nil_of_length_eq_zero (by rw [← HNF.out]; exact hn0)
                      have HLF := Lib.hid hLf
                      clear hn0 hnp
                      obtain ⟨T, hT⟩ : ∃ T, T = recT (⟨z1, z2, z3, z4, z5, z6, a, c, legs, opts⟩, pays) := ⟨_, rfl⟩
                      obtain ⟨ok, hok⟩ : ∃ ok, ok = recOk (⟨z1, z2, z3, z4, z5, z6, a, c, legs, opts⟩, pays) := ⟨_, rfl⟩
                      have HTB : Hid (Byt T) := by rw [hT]; exact encB_byt _ _ _ _ _ _
                      have hTr := hT
                      rw [← hT, ← hok] at HDB HCS
                      have HTT : Hid (T = encB [z1, z2, z3, z4, z5, z6] ⟨a.neg, a.num, a.den⟩ ⟨c.neg, c.num, c.den⟩ legs opts pays) := hTr
                      have HKK : Hid (ok = refOk [z1, z2, z3, z4, z5, z6] ⟨a.neg, a.num, a.den⟩ ⟨c.neg, c.num, c.den⟩ legs opts pays T) := by rw [show T = _ from hTr]; exact hok
                      clear hT hok hLf hTr
                      obtain ⟨W0, hW0⟩ : ∃ W0, W0 = wo.drew := ⟨_, rfl⟩
                      have hS : (FinS w g qr A b Af nf cf false z1 z2 z3 z4 z5 z6 a c A1 legs.length c1 A2 opts.length c2 A3 pays.length c3) W0 := by rw [hW0]; exact HS.out.drew
                      have HZ0 : Hid (W0.heap[w.heap.size]? = some zeroRec) := by rw [hW0]; exact HI.out.z
                      refine wp_region_held_drew (S := (FinS w g qr A b Af nf cf false z1 z2 z3 z4 z5 z6 a c A1 legs.length c1 A2 opts.length c2 A3 pays.length c3)) (by kernel_rfl) (by rw [← hW0]; exact hS) ?_
                      rw [← hW0]
                      intro _
                      have HO0 : Hid (W0.ownsRow B 49 2 (.slice A1 legs.length c1) legs.length (legs.flatMap legV) ∧ W0.ownsRow B 51 4 (.slice A2 opts.length c2) opts.length (opts.flatMap optV) ∧ W0.ownsRow B 55 4 (.slice A3 pays.length c3) pays.length (pays.flatMap payV)) := by rw [hW0]; exact ⟨HI.out.l, HI.out.o, HI.out.p⟩
                      clear hW0 HI HS
                      refine wpAnyH_take (i := 0) rfl (by kernel_rfl) (by kernel_rfl) (by kernel_rfl) (fun _ _ _ h => h) (Or.inl ⟨by kernel_rfl, (by intro w' _; go_simp; with_reducible rfl)⟩) hS ?_
                      go_simp
                      refine wpAnyH_take (i := 1) rfl (by kernel_rfl) (by kernel_rfl) (by kernel_rfl) (fun _ _ _ h => h) (Or.inl ⟨by kernel_rfl, (by intro w' _; go_simp; with_reducible rfl)⟩) hS ?_
                      go_simp
                      refine wpAnyH_take (i := 2) rfl (by kernel_rfl) (by kernel_rfl) (by kernel_rfl) (fun _ _ _ h => h) (Or.inl ⟨by kernel_rfl, (by intro w' _; go_simp; with_reducible rfl)⟩) hS ?_
                      go_simp
                      refine wpAnyH_take (i := 3) (v := .bool false) rfl (by kernel_rfl) (by kernel_rfl) (by kernel_rfl) (fun _ _ _ h => h) (Or.inl ⟨by kernel_rfl, (by intro w' hw'; have kc := (FinS.rd hw').2; go_simp)⟩) hS ?_
                      go_simp
                      refine wpAnyH_take (i := 4) rfl (by kernel_rfl) (by kernel_rfl) (by kernel_rfl) (fun _ _ _ h => h) (Or.inl ⟨by kernel_rfl, (by intro w' _; go_simp; with_reducible rfl)⟩) hS ?_
                      go_simp
                      refine wpAnyH_take (i := 5) rfl (by kernel_rfl) (by kernel_rfl) (by kernel_rfl) (fun _ _ _ h => h) (Or.inl ⟨by kernel_rfl, (by intro w' _; go_simp; with_reducible rfl)⟩) hS ?_
                      go_simp
                      refine wpAnyH_take (i := 6) rfl (by kernel_rfl) (by kernel_rfl) (by kernel_rfl) (fun _ _ _ h => h) (Or.inl ⟨by kernel_rfl, (by intro w' _; go_simp; with_reducible rfl)⟩) hS ?_
                      go_simp
                      refine wpAnyH_take (i := 7) rfl (by kernel_rfl) (by kernel_rfl) (by kernel_rfl) (fun _ _ _ h => h) (Or.inl ⟨by kernel_rfl, (by intro w' _; go_simp; with_reducible rfl)⟩) hS ?_
                      go_simp
                      refine wpAnyH_take (i := 8) (v := .slice Af nf cf) rfl (by kernel_rfl) (by kernel_rfl) (by kernel_rfl) (fun _ _ _ h => h) (Or.inl ⟨by kernel_rfl, (by intro w' hw'; have kc := (FinS.rd hw').1; go_simp)⟩) hS ?_
                      go_simp
                      refine wpAnyH_take (i := 9) rfl (by kernel_rfl) (by kernel_rfl) (by kernel_rfl) (fun _ _ _ h => h) (Or.inl ⟨by kernel_rfl, (by intro w' _; go_simp; with_reducible rfl)⟩) hS ?_
                      go_simp
                      refine wpAnyH_take (i := 10) (v := .bool false) rfl (by kernel_rfl) (by kernel_rfl) (by kernel_rfl) (fun _ _ _ h => h) (Or.inl ⟨by kernel_rfl, (by intro w' _; go_simp)⟩) hS ?_
                      go_simp
                      refine wpAnyH_take (i := 11) (v := .bool false) rfl (by kernel_rfl) (by kernel_rfl) (by kernel_rfl) (fun _ _ _ h => h) (Or.inl ⟨by kernel_rfl, (by intro w' _; go_simp)⟩) hS ?_
                      go_simp
                      refine wpAnyH_take (i := 12) rfl (by kernel_rfl) (by kernel_rfl) (by kernel_rfl) (fun _ _ _ h => h) (Or.inl ⟨by kernel_rfl, (by intro w' _; go_simp; with_reducible rfl)⟩) hS ?_
                      go_simp
                      have HFIT : Hid (RecFit z1 z2 z3 z4 z5 z6 a.neg a.num a.den c.neg c.num c.den A1 legs.length c1 A2 opts.length c2 A3 pays.length c3 legs opts pays W0) := by
                        have hm4 : (4096 : Nat) ≤ maxLen := by unfold maxLen; omega
                        have hb := HBL.out
                        have f := HFI.out
                        exact ⟨f.z, ⟨Nat.le_trans f.a.1 (by omega), Nat.le_trans f.a.2 (by omega)⟩, ⟨Nat.le_trans f.c.1 (by omega), Nat.le_trans f.c.2 (by omega)⟩, rfl, rfl, rfl, Rd.of_own HO0.out.1, f.l, Rd.of_own HO0.out.2.1, fun p hp => ⟨⟨Nat.le_trans (f.o p hp).1.1 (by omega), Nat.le_trans (f.o p hp).1.2 (by omega)⟩, (f.o p hp).2⟩, Rd.of_own HO0.out.2.2, f.p, Nat.le_trans f.ll (by omega), Nat.le_trans f.ol (by omega), Nat.le_trans f.pl (by omega)⟩
                      refine wpAnyH_take (i := 13) (v := .agg #[.int .i64 z1, .int .i64 z2, .int .i64 z3, .int .i64 z4, .int .i64 z5, .int .i64 z6, .bool a.neg, .string a.num, .string a.den, .bool c.neg, .string c.num, .string c.den, .slice A1 legs.length c1, .slice A2 opts.length c2, .slice A3 pays.length c3]) rfl (by kernel_rfl) (by kernel_rfl) (by kernel_rfl) (fun _ _ _ h => h) (Or.inl ⟨by kernel_rfl, (by intro w' hw'; obtain ⟨hr_, _, _, _⟩ := hw'; obtain ⟨k0, k1, k2, k3, k4, k5, k6, k7, k8, k9, k10, k11, k12, k13, k14⟩ := RecS.cells z1 z2 z3 z4 z5 z6 a.neg a.num a.den c.neg c.num c.den A1 legs.length c1 A2 opts.length c2 A3 pays.length c3 hr_; go_simp)⟩) hS ?_
                      go_simp
                      refine wpAnyH_ready (rs := [14]) (by kernel_rfl) (by simp) ?_
                      refine AllReadyH.cons rfl (fun K hK => ?_) AllReadyH.nil
                      go_simp
                      have hf_ := HFIT.out
                      refine (refValid_calls z1 z2 z3 z4 z5 z6 a.neg a.num a.den c.neg c.num c.den A1 legs.length c1 A2 opts.length c2 A3 pays.length c3 legs opts pays W0 hf_.hz hf_.ha hf_.hc hf_.e1 hf_.e2 hf_.e3 hf_.r1 hf_.o1 hf_.r2 hf_.o2 hf_.r3 hf_.o3 hf_.g1 hf_.g2 hf_.g3 T HTT.out ok HKK.out).mono ?_
                      clear hf_
                      rintro e w7 ⟨rfl, hb⟩
                      have hS7 := hS.next hb
                      have HZ7 := Lib.hid (blk_next HZ0.out hb)
                      have HFIT7 := Lib.hid (HFIT.out.next z1 z2 z3 z4 z5 z6 a.neg a.num a.den c.neg c.num c.den A1 legs.length c1 A2 opts.length c2 A3 pays.length c3 hb)
                      have HO7 := Lib.hid (And.intro (own_below HO0.out.1 hb) (And.intro (own_below HO0.out.2.1 hb) (own_below HO0.out.2.2 hb)))
                      refine hK.out _ _ hS7 (fun _ => ?_)
                      clear hK K hb HFIT HZ0 HO0 hS
                      cases ok
                      · refine wpAnyH_take (i := 15) (v := .bool true) rfl (by kernel_rfl) (by kernel_rfl) (by kernel_rfl) (fun _ _ _ h => h) (Or.inl ⟨by kernel_rfl, (by intro w' _; go_simp)⟩) hS7 ?_
                        go_simp
                        refine wpAnyH_take (i := 16) (v := .bool true) rfl (by kernel_rfl) (by kernel_rfl) (by kernel_rfl) (fun _ _ _ h => h) (Or.inl ⟨by kernel_rfl, (by intro w' _; go_simp)⟩) hS7 ?_
                        go_simp
                        refine wpAnyH_take (i := 17) rfl (by kernel_rfl) (by kernel_rfl) (by kernel_rfl) (fun _ _ _ h => h) (Or.inl ⟨by kernel_rfl, (by intro w' _; go_simp; with_reducible rfl)⟩) hS7 ?_
                        go_simp
                        refine wpAnyH_take (i := 18) (v := undef) rfl (by kernel_rfl) (by kernel_rfl) (by kernel_rfl) (fun _ _ _ h => h) (Or.inr ⟨by kernel_rfl, rfl⟩) hS7 ?_
                        go_simp
                        refine wpAnyH_take (i := 19) (v := undef) rfl (by kernel_rfl) (by kernel_rfl) (by kernel_rfl) (fun _ _ _ h => h) (Or.inr ⟨by kernel_rfl, rfl⟩) hS7 ?_
                        go_simp
                        refine wpAnyH_take (i := 20) (v := undef) rfl (by kernel_rfl) (by kernel_rfl) (by kernel_rfl) (fun _ _ _ h => h) (Or.inr ⟨by kernel_rfl, rfl⟩) hS7 ?_
                        go_simp
                        refine wpAnyH_take (i := 21) (v := undef) rfl (by kernel_rfl) (by kernel_rfl) (by kernel_rfl) (fun _ _ _ h => h) (Or.inr ⟨by kernel_rfl, rfl⟩) hS7 ?_
                        go_simp
                        refine wpAnyH_take (i := 22) (v := undef) rfl (by kernel_rfl) (by kernel_rfl) (by kernel_rfl) (fun _ _ _ h => h) (Or.inr ⟨by kernel_rfl, rfl⟩) hS7 ?_
                        go_simp
                        refine wpAnyH_take (i := 23) (v := undef) rfl (by kernel_rfl) (by kernel_rfl) (by kernel_rfl) (fun _ _ _ h => h) (Or.inr ⟨by kernel_rfl, rfl⟩) hS7 ?_
                        go_simp
                        refine wpAnyH_take (i := 24) (v := .bool true) rfl (by kernel_rfl) (by kernel_rfl) (by kernel_rfl) (fun _ _ _ h => h) (Or.inl ⟨by kernel_rfl, (by intro w' _; go_simp)⟩) hS7 ?_
                        go_simp
                        have HNO : Hid (decBy dNum dRat b = none) := HDB.out.trans (if_neg (fun h => by have := h.2.2.1; cases this))
                        refine wpAnyH_done (by kernel_rfl) ?_ _
                        have hZ := HZ7.out
                        unfold zeroRec at hZ
                        have htb := there_block (n := 15) hZ (by decide)
                        have HZQ : Hid ((w7.setCells w.heap.size 0 [.int .i64 0, .int .i64 0, .int .i64 0, .int .i64 0, .int .i64 0, .int .i64 0, .bool false, .string ⟨#[]⟩, .string ⟨#[]⟩, .bool false, .string ⟨#[]⟩, .string ⟨#[]⟩, .slice none 0 0, .slice none 0 0, .slice none 0 0]).heap[w.heap.size]? = some (.cells #[.int .i64 0, .int .i64 0, .int .i64 0, .int .i64 0, .int .i64 0, .int .i64 0, .bool false, .string ⟨#[]⟩, .string ⟨#[]⟩, .bool false, .string ⟨#[]⟩, .string ⟨#[]⟩, .slice none 0 0, .slice none 0 0, .slice none 0 0] 37 (0, 0))) := setCells_whole hZ rfl
                        clear hZ
                        go_wp2_with (refine wpList_store_mid rfl 37 (.tmp 2) (.tmp 151) rfl w.heap.size 0 #[.int .i64 0, .int .i64 0, .int .i64 0, .int .i64 0, .int .i64 0, .int .i64 0, .bool false, .string ⟨#[]⟩, .string ⟨#[]⟩, .bool false, .string ⟨#[]⟩, .string ⟨#[]⟩, .slice none 0 0, .slice none 0 0, .slice none 0 0] rfl rfl htb (by kernel_rfl) (by simp [Value.oneCell']) ?_)
                        have v0_ : (w7.setCells w.heap.size 0 [.int .i64 0, .int .i64 0, .int .i64 0, .int .i64 0, .int .i64 0, .int .i64 0, .bool false, .string ⟨#[]⟩, .string ⟨#[]⟩, .bool false, .string ⟨#[]⟩, .string ⟨#[]⟩, .slice none 0 0, .slice none 0 0, .slice none 0 0]).cell? ⟨w.heap.size, 0, none⟩ = some (.int .i64 0) := by rw [cell_of_row _ w.heap.size 0 _ _ (0, 0) HZQ.out]; rfl
                        have v1_ : (w7.setCells w.heap.size 0 [.int .i64 0, .int .i64 0, .int .i64 0, .int .i64 0, .int .i64 0, .int .i64 0, .bool false, .string ⟨#[]⟩, .string ⟨#[]⟩, .bool false, .string ⟨#[]⟩, .string ⟨#[]⟩, .slice none 0 0, .slice none 0 0, .slice none 0 0]).cell? ⟨w.heap.size, 1, none⟩ = some (.int .i64 0) := by rw [cell_of_row _ w.heap.size 1 _ _ (0, 0) HZQ.out]; rfl
                        have v2_ : (w7.setCells w.heap.size 0 [.int .i64 0, .int .i64 0, .int .i64 0, .int .i64 0, .int .i64 0, .int .i64 0, .bool false, .string ⟨#[]⟩, .string ⟨#[]⟩, .bool false, .string ⟨#[]⟩, .string ⟨#[]⟩, .slice none 0 0, .slice none 0 0, .slice none 0 0]).cell? ⟨w.heap.size, 2, none⟩ = some (.int .i64 0) := by rw [cell_of_row _ w.heap.size 2 _ _ (0, 0) HZQ.out]; rfl
                        have v3_ : (w7.setCells w.heap.size 0 [.int .i64 0, .int .i64 0, .int .i64 0, .int .i64 0, .int .i64 0, .int .i64 0, .bool false, .string ⟨#[]⟩, .string ⟨#[]⟩, .bool false, .string ⟨#[]⟩, .string ⟨#[]⟩, .slice none 0 0, .slice none 0 0, .slice none 0 0]).cell? ⟨w.heap.size, 3, none⟩ = some (.int .i64 0) := by rw [cell_of_row _ w.heap.size 3 _ _ (0, 0) HZQ.out]; rfl
                        have v4_ : (w7.setCells w.heap.size 0 [.int .i64 0, .int .i64 0, .int .i64 0, .int .i64 0, .int .i64 0, .int .i64 0, .bool false, .string ⟨#[]⟩, .string ⟨#[]⟩, .bool false, .string ⟨#[]⟩, .string ⟨#[]⟩, .slice none 0 0, .slice none 0 0, .slice none 0 0]).cell? ⟨w.heap.size, 4, none⟩ = some (.int .i64 0) := by rw [cell_of_row _ w.heap.size 4 _ _ (0, 0) HZQ.out]; rfl
                        have v5_ : (w7.setCells w.heap.size 0 [.int .i64 0, .int .i64 0, .int .i64 0, .int .i64 0, .int .i64 0, .int .i64 0, .bool false, .string ⟨#[]⟩, .string ⟨#[]⟩, .bool false, .string ⟨#[]⟩, .string ⟨#[]⟩, .slice none 0 0, .slice none 0 0, .slice none 0 0]).cell? ⟨w.heap.size, 5, none⟩ = some (.int .i64 0) := by rw [cell_of_row _ w.heap.size 5 _ _ (0, 0) HZQ.out]; rfl
                        have v6_ : (w7.setCells w.heap.size 0 [.int .i64 0, .int .i64 0, .int .i64 0, .int .i64 0, .int .i64 0, .int .i64 0, .bool false, .string ⟨#[]⟩, .string ⟨#[]⟩, .bool false, .string ⟨#[]⟩, .string ⟨#[]⟩, .slice none 0 0, .slice none 0 0, .slice none 0 0]).cell? ⟨w.heap.size, 6, none⟩ = some (.bool false) := by rw [cell_of_row _ w.heap.size 6 _ _ (0, 0) HZQ.out]; rfl
                        have v7_ : (w7.setCells w.heap.size 0 [.int .i64 0, .int .i64 0, .int .i64 0, .int .i64 0, .int .i64 0, .int .i64 0, .bool false, .string ⟨#[]⟩, .string ⟨#[]⟩, .bool false, .string ⟨#[]⟩, .string ⟨#[]⟩, .slice none 0 0, .slice none 0 0, .slice none 0 0]).cell? ⟨w.heap.size, 7, none⟩ = some (.string ⟨#[]⟩) := by rw [cell_of_row _ w.heap.size 7 _ _ (0, 0) HZQ.out]; rfl
                        have v8_ : (w7.setCells w.heap.size 0 [.int .i64 0, .int .i64 0, .int .i64 0, .int .i64 0, .int .i64 0, .int .i64 0, .bool false, .string ⟨#[]⟩, .string ⟨#[]⟩, .bool false, .string ⟨#[]⟩, .string ⟨#[]⟩, .slice none 0 0, .slice none 0 0, .slice none 0 0]).cell? ⟨w.heap.size, 8, none⟩ = some (.string ⟨#[]⟩) := by rw [cell_of_row _ w.heap.size 8 _ _ (0, 0) HZQ.out]; rfl
                        have v9_ : (w7.setCells w.heap.size 0 [.int .i64 0, .int .i64 0, .int .i64 0, .int .i64 0, .int .i64 0, .int .i64 0, .bool false, .string ⟨#[]⟩, .string ⟨#[]⟩, .bool false, .string ⟨#[]⟩, .string ⟨#[]⟩, .slice none 0 0, .slice none 0 0, .slice none 0 0]).cell? ⟨w.heap.size, 9, none⟩ = some (.bool false) := by rw [cell_of_row _ w.heap.size 9 _ _ (0, 0) HZQ.out]; rfl
                        have v10_ : (w7.setCells w.heap.size 0 [.int .i64 0, .int .i64 0, .int .i64 0, .int .i64 0, .int .i64 0, .int .i64 0, .bool false, .string ⟨#[]⟩, .string ⟨#[]⟩, .bool false, .string ⟨#[]⟩, .string ⟨#[]⟩, .slice none 0 0, .slice none 0 0, .slice none 0 0]).cell? ⟨w.heap.size, 10, none⟩ = some (.string ⟨#[]⟩) := by rw [cell_of_row _ w.heap.size 10 _ _ (0, 0) HZQ.out]; rfl
                        have v11_ : (w7.setCells w.heap.size 0 [.int .i64 0, .int .i64 0, .int .i64 0, .int .i64 0, .int .i64 0, .int .i64 0, .bool false, .string ⟨#[]⟩, .string ⟨#[]⟩, .bool false, .string ⟨#[]⟩, .string ⟨#[]⟩, .slice none 0 0, .slice none 0 0, .slice none 0 0]).cell? ⟨w.heap.size, 11, none⟩ = some (.string ⟨#[]⟩) := by rw [cell_of_row _ w.heap.size 11 _ _ (0, 0) HZQ.out]; rfl
                        have v12_ : (w7.setCells w.heap.size 0 [.int .i64 0, .int .i64 0, .int .i64 0, .int .i64 0, .int .i64 0, .int .i64 0, .bool false, .string ⟨#[]⟩, .string ⟨#[]⟩, .bool false, .string ⟨#[]⟩, .string ⟨#[]⟩, .slice none 0 0, .slice none 0 0, .slice none 0 0]).cell? ⟨w.heap.size, 12, none⟩ = some (.slice none 0 0) := by rw [cell_of_row _ w.heap.size 12 _ _ (0, 0) HZQ.out]; rfl
                        have v13_ : (w7.setCells w.heap.size 0 [.int .i64 0, .int .i64 0, .int .i64 0, .int .i64 0, .int .i64 0, .int .i64 0, .bool false, .string ⟨#[]⟩, .string ⟨#[]⟩, .bool false, .string ⟨#[]⟩, .string ⟨#[]⟩, .slice none 0 0, .slice none 0 0, .slice none 0 0]).cell? ⟨w.heap.size, 13, none⟩ = some (.slice none 0 0) := by rw [cell_of_row _ w.heap.size 13 _ _ (0, 0) HZQ.out]; rfl
                        have v14_ : (w7.setCells w.heap.size 0 [.int .i64 0, .int .i64 0, .int .i64 0, .int .i64 0, .int .i64 0, .int .i64 0, .bool false, .string ⟨#[]⟩, .string ⟨#[]⟩, .bool false, .string ⟨#[]⟩, .string ⟨#[]⟩, .slice none 0 0, .slice none 0 0, .slice none 0 0]).cell? ⟨w.heap.size, 14, none⟩ = some (.slice none 0 0) := by rw [cell_of_row _ w.heap.size 14 _ _ (0, 0) HZQ.out]; rfl
                        exact bodyPost_ret (v := .tuple #[.agg #[.int .i64 0, .int .i64 0, .int .i64 0, .int .i64 0, .int .i64 0, .int .i64 0, .bool false, .string ⟨#[]⟩, .string ⟨#[]⟩, .bool false, .string ⟨#[]⟩, .string ⟨#[]⟩, .slice none 0 0, .slice none 0 0, .slice none 0 0], .int .i64 44]) (by simp [results, Tryd.results26, go_sem, v0_, v1_, v2_, v3_, v4_, v5_, v6_, v7_, v8_, v9_, v10_, v11_, v12_, v13_, v14_]) rfl (DecPost.none HNO.out (below_setCells (Nat.le_refl _) _ 0 hS7.2.2.2))
                      · refine wpAnyH_take (i := 15) (v := .bool false) rfl (by kernel_rfl) (by kernel_rfl) (by kernel_rfl) (fun _ _ _ h => h) (Or.inl ⟨by kernel_rfl, (by intro w' _; go_simp)⟩) hS7 ?_
                        go_simp
                        refine wpAnyH_take (i := 16) (v := .bool false) rfl (by kernel_rfl) (by kernel_rfl) (by kernel_rfl) (fun _ _ _ h => h) (Or.inl ⟨by kernel_rfl, (by intro w' _; go_simp)⟩) hS7 ?_
                        go_simp
                        refine wpAnyH_take (i := 17) rfl (by kernel_rfl) (by kernel_rfl) (by kernel_rfl) (fun _ _ _ h => h) (Or.inl ⟨by kernel_rfl, (by intro w' _; go_simp; with_reducible rfl)⟩) hS7 ?_
                        go_simp
                        refine wpAnyH_take (i := 18) (v := .agg #[.int .i64 z1, .int .i64 z2, .int .i64 z3, .int .i64 z4, .int .i64 z5, .int .i64 z6, .bool a.neg, .string a.num, .string a.den, .bool c.neg, .string c.num, .string c.den, .slice A1 legs.length c1, .slice A2 opts.length c2, .slice A3 pays.length c3]) rfl (by kernel_rfl) (by kernel_rfl) (by kernel_rfl) (fun _ _ _ h => h) (Or.inl ⟨by kernel_rfl, (by intro w' hw'; obtain ⟨hr_, _, _, _⟩ := hw'; obtain ⟨k0, k1, k2, k3, k4, k5, k6, k7, k8, k9, k10, k11, k12, k13, k14⟩ := RecS.cells z1 z2 z3 z4 z5 z6 a.neg a.num a.den c.neg c.num c.den A1 legs.length c1 A2 opts.length c2 A3 pays.length c3 hr_; go_simp)⟩) hS7 ?_
                        go_simp
                        have hlim : legs.length ≤ 8 ∧ opts.length ≤ 4 ∧ pays.length ≤ 256 := by have h := refOk_parts HKK.out.symm; exact ⟨h.2.1, h.2.2.1, h.2.2.2.1⟩
                        obtain ⟨ub, hub⟩ : ∃ s, s = nstr b := ⟨_, rfl⟩
                        have HCVB := HCV
                        rw [← hub] at HCVB
                        have HUB := Lib.hid hub
                        clear hub
                        refine wpAnyH_take (i := 21) rfl (by kernel_rfl) (by kernel_rfl) (by kernel_rfl) (fun _ _ _ h => h) (Or.inl ⟨by kernel_rfl, (by intro w' _; go_simp; with_reducible rfl)⟩) hS7 ?_
                        go_simp
                        refine wpAnyH_take (i := 22) (v := .string ub) rfl (by kernel_rfl) (by kernel_rfl) (by kernel_rfl) (fun _ _ _ h => h) (Or.inl ⟨by kernel_rfl, (by intro w' hw'; have hcv := HCVB.out w' hw'.2.2.1; go_simp)⟩) hS7 ?_
                        go_simp
                        refine wpAnyH_ready (rs := [19]) (by kernel_rfl) (by simp) ?_
                        refine AllReadyH.cons rfl (fun K hK => ?_) AllReadyH.nil
                        go_simp
                        have hf_ := HFIT7.out
                        refine (bytesOf_calls z1 z2 z3 z4 z5 z6 a.neg a.num a.den c.neg c.num c.den A1 legs.length c1 A2 opts.length c2 A3 pays.length c3 legs opts pays w7 hf_.hz hf_.ha hf_.hc hf_.e1 hf_.e2 hf_.e3 hf_.r1 hf_.o1 hf_.r2 hf_.o2 hf_.r3 hf_.o3 hlim.1 hlim.2.1 hlim.2.2 T HTT.out).mono ?_
                        clear hf_ hlim
                        rintro e w8 ⟨AT, cT, rfl, hoT, hb⟩
                        have hS8 := hS7.next hb
                        have HZ8 := Lib.hid (blk_next HZ7.out hb)
                        have HO8 := Lib.hid (And.intro (own_below HO7.out.1 hb) (And.intro (own_below HO7.out.2.1 hb) (own_below HO7.out.2.2 hb)))
                        have HKT : Hid (KRd .u8 w8 w8.heap.size AT T) := KRd.of_own hoT
                        refine hK.out _ _ hS8 (fun _ => ?_)
                        clear hK K hb HFIT7 HZ7 HO7 hS7 hoT
                        by_cases hTb : T = b
                        · exact (HCS.out.2 ⟨rfl, hTb⟩).elim
                        · have hne : ((nstr T).toList == (nstr b).toList) = false := beq_eq_false_iff_ne.2 (fun h => hTb (nstr_inj HTB.out HKB.out.2.1 h))
                          have HNE := Lib.hid hTb
                          have hcv5 := conv_bytes (P := Tryd.prog) w8 w8.heap.size 22 9 5 AT T cT Tryd.underlying22 Tryd.underlying5 Tryd.underlying9 HKT.out HTB.out
                          obtain ⟨uT, huT⟩ : ∃ s, s = nstr T := ⟨_, rfl⟩
                          rw [← huT] at hcv5 hne
                          rw [← HUB.out] at hne
                          clear hTb huT
                          refine wpAnyH_ready (rs := [20]) (by kernel_rfl) (by simp) ?_
                          refine AllReadyH.cons rfl (fun K hK => ?_) AllReadyH.nil
                          go_simp
                          clear hcv5
                          refine hK.out _ _ hS8 (fun _ => ?_)
                          clear hK K
                          refine wpAnyH_take (i := 23) (v := .bool true) rfl (by kernel_rfl) (by kernel_rfl) (by kernel_rfl) (fun _ _ _ h => h) (Or.inl ⟨by kernel_rfl, (by intro w' _; go_simp)⟩) hS8 ?_
                          go_simp
                          refine wpAnyH_take (i := 24) (v := .bool true) rfl (by kernel_rfl) (by kernel_rfl) (by kernel_rfl) (fun _ _ _ h => h) (Or.inl ⟨by kernel_rfl, (by intro w' _; go_simp)⟩) hS8 ?_
                          go_simp
                          have HNO : Hid (decBy dNum dRat b = none) := HDB.out.trans (if_neg (fun h => HNE.out h.2.2.2))
                          refine wpAnyH_done (by kernel_rfl) ?_ _
                          have hZ := HZ8.out
                          unfold zeroRec at hZ
                          have htb := there_block (n := 15) hZ (by decide)
                          have HZQ : Hid ((w8.setCells w.heap.size 0 [.int .i64 0, .int .i64 0, .int .i64 0, .int .i64 0, .int .i64 0, .int .i64 0, .bool false, .string ⟨#[]⟩, .string ⟨#[]⟩, .bool false, .string ⟨#[]⟩, .string ⟨#[]⟩, .slice none 0 0, .slice none 0 0, .slice none 0 0]).heap[w.heap.size]? = some (.cells #[.int .i64 0, .int .i64 0, .int .i64 0, .int .i64 0, .int .i64 0, .int .i64 0, .bool false, .string ⟨#[]⟩, .string ⟨#[]⟩, .bool false, .string ⟨#[]⟩, .string ⟨#[]⟩, .slice none 0 0, .slice none 0 0, .slice none 0 0] 37 (0, 0))) := setCells_whole hZ rfl
                          clear hZ
                          go_wp2_with (refine wpList_store_mid rfl 37 (.tmp 2) (.tmp 151) rfl w.heap.size 0 #[.int .i64 0, .int .i64 0, .int .i64 0, .int .i64 0, .int .i64 0, .int .i64 0, .bool false, .string ⟨#[]⟩, .string ⟨#[]⟩, .bool false, .string ⟨#[]⟩, .string ⟨#[]⟩, .slice none 0 0, .slice none 0 0, .slice none 0 0] rfl rfl htb (by kernel_rfl) (by simp [Value.oneCell']) ?_)
                          have v0_ : (w8.setCells w.heap.size 0 [.int .i64 0, .int .i64 0, .int .i64 0, .int .i64 0, .int .i64 0, .int .i64 0, .bool false, .string ⟨#[]⟩, .string ⟨#[]⟩, .bool false, .string ⟨#[]⟩, .string ⟨#[]⟩, .slice none 0 0, .slice none 0 0, .slice none 0 0]).cell? ⟨w.heap.size, 0, none⟩ = some (.int .i64 0) := by rw [cell_of_row _ w.heap.size 0 _ _ (0, 0) HZQ.out]; rfl
                          have v1_ : (w8.setCells w.heap.size 0 [.int .i64 0, .int .i64 0, .int .i64 0, .int .i64 0, .int .i64 0, .int .i64 0, .bool false, .string ⟨#[]⟩, .string ⟨#[]⟩, .bool false, .string ⟨#[]⟩, .string ⟨#[]⟩, .slice none 0 0, .slice none 0 0, .slice none 0 0]).cell? ⟨w.heap.size, 1, none⟩ = some (.int .i64 0) := by rw [cell_of_row _ w.heap.size 1 _ _ (0, 0) HZQ.out]; rfl
                          have v2_ : (w8.setCells w.heap.size 0 [.int .i64 0, .int .i64 0, .int .i64 0, .int .i64 0, .int .i64 0, .int .i64 0, .bool false, .string ⟨#[]⟩, .string ⟨#[]⟩, .bool false, .string ⟨#[]⟩, .string ⟨#[]⟩, .slice none 0 0, .slice none 0 0, .slice none 0 0]).cell? ⟨w.heap.size, 2, none⟩ = some (.int .i64 0) := by rw [cell_of_row _ w.heap.size 2 _ _ (0, 0) HZQ.out]; rfl
                          have v3_ : (w8.setCells w.heap.size 0 [.int .i64 0, .int .i64 0, .int .i64 0, .int .i64 0, .int .i64 0, .int .i64 0, .bool false, .string ⟨#[]⟩, .string ⟨#[]⟩, .bool false, .string ⟨#[]⟩, .string ⟨#[]⟩, .slice none 0 0, .slice none 0 0, .slice none 0 0]).cell? ⟨w.heap.size, 3, none⟩ = some (.int .i64 0) := by rw [cell_of_row _ w.heap.size 3 _ _ (0, 0) HZQ.out]; rfl
                          have v4_ : (w8.setCells w.heap.size 0 [.int .i64 0, .int .i64 0, .int .i64 0, .int .i64 0, .int .i64 0, .int .i64 0, .bool false, .string ⟨#[]⟩, .string ⟨#[]⟩, .bool false, .string ⟨#[]⟩, .string ⟨#[]⟩, .slice none 0 0, .slice none 0 0, .slice none 0 0]).cell? ⟨w.heap.size, 4, none⟩ = some (.int .i64 0) := by rw [cell_of_row _ w.heap.size 4 _ _ (0, 0) HZQ.out]; rfl
                          have v5_ : (w8.setCells w.heap.size 0 [.int .i64 0, .int .i64 0, .int .i64 0, .int .i64 0, .int .i64 0, .int .i64 0, .bool false, .string ⟨#[]⟩, .string ⟨#[]⟩, .bool false, .string ⟨#[]⟩, .string ⟨#[]⟩, .slice none 0 0, .slice none 0 0, .slice none 0 0]).cell? ⟨w.heap.size, 5, none⟩ = some (.int .i64 0) := by rw [cell_of_row _ w.heap.size 5 _ _ (0, 0) HZQ.out]; rfl
                          have v6_ : (w8.setCells w.heap.size 0 [.int .i64 0, .int .i64 0, .int .i64 0, .int .i64 0, .int .i64 0, .int .i64 0, .bool false, .string ⟨#[]⟩, .string ⟨#[]⟩, .bool false, .string ⟨#[]⟩, .string ⟨#[]⟩, .slice none 0 0, .slice none 0 0, .slice none 0 0]).cell? ⟨w.heap.size, 6, none⟩ = some (.bool false) := by rw [cell_of_row _ w.heap.size 6 _ _ (0, 0) HZQ.out]; rfl
                          have v7_ : (w8.setCells w.heap.size 0 [.int .i64 0, .int .i64 0, .int .i64 0, .int .i64 0, .int .i64 0, .int .i64 0, .bool false, .string ⟨#[]⟩, .string ⟨#[]⟩, .bool false, .string ⟨#[]⟩, .string ⟨#[]⟩, .slice none 0 0, .slice none 0 0, .slice none 0 0]).cell? ⟨w.heap.size, 7, none⟩ = some (.string ⟨#[]⟩) := by rw [cell_of_row _ w.heap.size 7 _ _ (0, 0) HZQ.out]; rfl
                          have v8_ : (w8.setCells w.heap.size 0 [.int .i64 0, .int .i64 0, .int .i64 0, .int .i64 0, .int .i64 0, .int .i64 0, .bool false, .string ⟨#[]⟩, .string ⟨#[]⟩, .bool false, .string ⟨#[]⟩, .string ⟨#[]⟩, .slice none 0 0, .slice none 0 0, .slice none 0 0]).cell? ⟨w.heap.size, 8, none⟩ = some (.string ⟨#[]⟩) := by rw [cell_of_row _ w.heap.size 8 _ _ (0, 0) HZQ.out]; rfl
                          have v9_ : (w8.setCells w.heap.size 0 [.int .i64 0, .int .i64 0, .int .i64 0, .int .i64 0, .int .i64 0, .int .i64 0, .bool false, .string ⟨#[]⟩, .string ⟨#[]⟩, .bool false, .string ⟨#[]⟩, .string ⟨#[]⟩, .slice none 0 0, .slice none 0 0, .slice none 0 0]).cell? ⟨w.heap.size, 9, none⟩ = some (.bool false) := by rw [cell_of_row _ w.heap.size 9 _ _ (0, 0) HZQ.out]; rfl
                          have v10_ : (w8.setCells w.heap.size 0 [.int .i64 0, .int .i64 0, .int .i64 0, .int .i64 0, .int .i64 0, .int .i64 0, .bool false, .string ⟨#[]⟩, .string ⟨#[]⟩, .bool false, .string ⟨#[]⟩, .string ⟨#[]⟩, .slice none 0 0, .slice none 0 0, .slice none 0 0]).cell? ⟨w.heap.size, 10, none⟩ = some (.string ⟨#[]⟩) := by rw [cell_of_row _ w.heap.size 10 _ _ (0, 0) HZQ.out]; rfl
                          have v11_ : (w8.setCells w.heap.size 0 [.int .i64 0, .int .i64 0, .int .i64 0, .int .i64 0, .int .i64 0, .int .i64 0, .bool false, .string ⟨#[]⟩, .string ⟨#[]⟩, .bool false, .string ⟨#[]⟩, .string ⟨#[]⟩, .slice none 0 0, .slice none 0 0, .slice none 0 0]).cell? ⟨w.heap.size, 11, none⟩ = some (.string ⟨#[]⟩) := by rw [cell_of_row _ w.heap.size 11 _ _ (0, 0) HZQ.out]; rfl
                          have v12_ : (w8.setCells w.heap.size 0 [.int .i64 0, .int .i64 0, .int .i64 0, .int .i64 0, .int .i64 0, .int .i64 0, .bool false, .string ⟨#[]⟩, .string ⟨#[]⟩, .bool false, .string ⟨#[]⟩, .string ⟨#[]⟩, .slice none 0 0, .slice none 0 0, .slice none 0 0]).cell? ⟨w.heap.size, 12, none⟩ = some (.slice none 0 0) := by rw [cell_of_row _ w.heap.size 12 _ _ (0, 0) HZQ.out]; rfl
                          have v13_ : (w8.setCells w.heap.size 0 [.int .i64 0, .int .i64 0, .int .i64 0, .int .i64 0, .int .i64 0, .int .i64 0, .bool false, .string ⟨#[]⟩, .string ⟨#[]⟩, .bool false, .string ⟨#[]⟩, .string ⟨#[]⟩, .slice none 0 0, .slice none 0 0, .slice none 0 0]).cell? ⟨w.heap.size, 13, none⟩ = some (.slice none 0 0) := by rw [cell_of_row _ w.heap.size 13 _ _ (0, 0) HZQ.out]; rfl
                          have v14_ : (w8.setCells w.heap.size 0 [.int .i64 0, .int .i64 0, .int .i64 0, .int .i64 0, .int .i64 0, .int .i64 0, .bool false, .string ⟨#[]⟩, .string ⟨#[]⟩, .bool false, .string ⟨#[]⟩, .string ⟨#[]⟩, .slice none 0 0, .slice none 0 0, .slice none 0 0]).cell? ⟨w.heap.size, 14, none⟩ = some (.slice none 0 0) := by rw [cell_of_row _ w.heap.size 14 _ _ (0, 0) HZQ.out]; rfl
                          exact bodyPost_ret (v := .tuple #[.agg #[.int .i64 0, .int .i64 0, .int .i64 0, .int .i64 0, .int .i64 0, .int .i64 0, .bool false, .string ⟨#[]⟩, .string ⟨#[]⟩, .bool false, .string ⟨#[]⟩, .string ⟨#[]⟩, .slice none 0 0, .slice none 0 0, .slice none 0 0], .int .i64 44]) (by simp [results, Tryd.results26, go_sem, v0_, v1_, v2_, v3_, v4_, v5_, v6_, v7_, v8_, v9_, v10_, v11_, v12_, v13_, v14_]) rfl (DecPost.none HNO.out (below_setCells (Nat.le_refl _) _ 0 hS8.2.2.2))
                  · have h := HCS.out.1
                    simp at h

set_option maxHeartbeats 16000000 in
set_option maxRecDepth 100000 in
theorem dDecode_C (A : Option Addr) (n cb : Nat) (b : List Nat) (w : World) (hn : n = b.length) (hr0 : KRd .u8 w w.heap.size A b) (hby : Byt b) (hnc : n ≤ cb) (hcm : cb ≤ maxLen) (hcs : (rRec dNum dRat (b, false)).2 = ([], false) ∧ recOk (rRec dNum dRat (b, false)).1 = true ∧ recT (rRec dNum dRat (b, false)).1 = b) :
    Calls Tryd.prog 26 #[.slice A n cb] w (DecPost (decBy dNum dRat b) w) := by
  by_cases hbig : 4096 < n
  · exact dDecode_long A n cb b w hn hbig (Nat.le_trans hnc hcm)
  have hd : decide ((4096 : Int) < (n : Int)) = false := decide_eq_false (by omega)
  obtain ⟨g, hg⟩ : ∃ g, g = w.heap.size + 1 := ⟨_, rfl⟩
  obtain ⟨qr, hqr⟩ : ∃ q, q = w.heap.size + 1 + 1 := ⟨_, rfl⟩
  obtain ⟨ql, hql⟩ : ∃ q, q = w.heap.size + 1 + 1 + 1 := ⟨_, rfl⟩
  have hlg : w.heap.size < g := by omega
  have hgq : g < qr := by omega
  have hqq : qr < ql := by omega
  obtain ⟨w0, hw0⟩ : ∃ W, W = (((w.alloc zeroRec).alloc (.cells #[.slice A n cb, .bool false] 96)).alloc zeroRec).alloc (.cells #[.int .i64 0, .int .i64 0, .int .i64 0, .int .i64 0, .int .i64 0, .int .i64 0] 97) := ⟨_, rfl⟩
  have hwb : Below w.heap.size w w0 := by rw [hw0]; exact (((bel_alloc _ _).alloc (by simp) _).alloc (by simp <;> omega) _).alloc (by simp <;> omega) _
  have HB0 := Lib.hid hwb
  have HZ0 : Hid (w0.heap[w.heap.size]? = some zeroRec) := by rw [hw0]; exact blk_alloc (blk_alloc (blk_alloc (blk_new _ _)))
  have HR0 : Hid (RdS 96 g w.heap.size (b, false) w0) := by
    refine ⟨A, cb, ?_, hr0.below hwb, by omega, by rw [← hn]; exact hnc, hcm, hby⟩
    have := blk_new (w.alloc zeroRec) (.cells #[.slice A n cb, .bool false] 96)
    rw [World.size_alloc, ← hg] at this
    dsimp only
    rw [← hn, hw0]
    exact blk_alloc (blk_alloc this)
  have HQ0 : Hid (w0.heap[qr]? = some zeroRec) := by
    have := blk_new ((w.alloc zeroRec).alloc (.cells #[.slice A n cb, .bool false] 96)) zeroRec
    rw [World.size_alloc, World.size_alloc, ← hqr] at this
    rw [hw0]
    exact blk_alloc this
  have HA0 : Hid (ArrN ql 0 6 [] 97 w0) := by
    have := blk_new (((w.alloc zeroRec).alloc (.cells #[.slice A n cb, .bool false] 96)).alloc zeroRec) (.cells #[.int .i64 0, .int .i64 0, .int .i64 0, .int .i64 0, .int .i64 0, .int .i64 0] 97)
    rw [World.size_alloc, World.size_alloc, World.size_alloc, ← hql, ← hw0] at this
    exact this
  have HKB := Lib.hid (And.intro hr0 (And.intro hby hn))
  have HCV : Hid (∀ W, KRd .u8 W w.heap.size A b → (convert 22 9 (.slice A n cb)).run Tryd.prog W = .ok (.string (nstr b)) W) := fun W hW => by
    rw [hn]
    exact conv_bytes (P := Tryd.prog) W w.heap.size 22 9 5 A b cb Tryd.underlying22 Tryd.underlying5 Tryd.underlying9 hW hby
  have hbl : b.length ≤ 4096 := by omega
  have HFI := Lib.hid (rec_fine dNum_fine dRat_fine (b, false))
  obtain ⟨r1, hr1⟩ : ∃ r, r = dNum (b, false) := ⟨_, rfl⟩
  obtain ⟨z1, s1⟩ := r1
  obtain ⟨r2, hr2⟩ : ∃ r, r = dNum s1 := ⟨_, rfl⟩
  obtain ⟨z2, s2⟩ := r2
  obtain ⟨r3, hr3⟩ : ∃ r, r = dNum s2 := ⟨_, rfl⟩
  obtain ⟨z3, s3⟩ := r3
  obtain ⟨r4, hr4⟩ : ∃ r, r = dNum s3 := ⟨_, rfl⟩
  obtain ⟨z4, s4⟩ := r4
  obtain ⟨r5, hr5⟩ : ∃ r, r = dNum s4 := ⟨_, rfl⟩
  obtain ⟨z5, s5⟩ := r5
  obtain ⟨r6, hr6⟩ : ∃ r, r = dNum s5 := ⟨_, rfl⟩
  obtain ⟨z6, s6⟩ := r6
  obtain ⟨ra, hra⟩ : ∃ r, r = dRat s6 := ⟨_, rfl⟩
  obtain ⟨a, sa⟩ := ra
  obtain ⟨rc, hrc⟩ : ∃ r, r = dRat sa := ⟨_, rfl⟩
  obtain ⟨c, sc⟩ := rc
  obtain ⟨rm, hrm⟩ : ∃ r, r = rCount dNum 8 sc := ⟨_, rfl⟩
  have hm_m1 : rm.1 ≤ 8 := by rw [hrm]; exact rCount_le _ _ _
  obtain ⟨m1, t1⟩ := rm
  dsimp only at hm_m1
  obtain ⟨rl_, hrl⟩ : ∃ r, r = rList (rPair dNum) m1 t1 := ⟨_, rfl⟩
  obtain ⟨legs, sl⟩ := rl_
  obtain ⟨rn, hrn⟩ : ∃ r, r = rCount dNum 4 sl := ⟨_, rfl⟩
  have hm_m2 : rn.1 ≤ 4 := by rw [hrn]; exact rCount_le _ _ _
  obtain ⟨m2, t2⟩ := rn
  dsimp only at hm_m2
  obtain ⟨rl_, hro⟩ : ∃ r, r = rList (rOpt dNum dRat) m2 t2 := ⟨_, rfl⟩
  obtain ⟨opts, so⟩ := rl_
  obtain ⟨rq, hrq⟩ : ∃ r, r = rCount dNum 256 so := ⟨_, rfl⟩
  have hm_m3 : rq.1 ≤ 256 := by rw [hrq]; exact rCount_le _ _ _
  obtain ⟨m3, t3⟩ := rq
  dsimp only at hm_m3
  obtain ⟨rl_, hrp⟩ : ∃ r, r = rList (rPay dNum) m3 t3 := ⟨_, rfl⟩
  obtain ⟨pays, sp⟩ := rl_
  have hrec : rRec dNum dRat (b, false) = ((⟨z1, z2, z3, z4, z5, z6, a, c, legs, opts⟩, pays), sp) := by
    unfold rRec rAct
    simp only [← hr1, ← hr2, ← hr3, ← hr4, ← hr5, ← hr6, ← hra, ← hrc, ← hrm, ← hrl, ← hrn, ← hro, ← hrq, ← hrp]
  have HL6 : Hid (rList dNum 6 (b, false) = ([z1, z2, z3, z4, z5, z6], s6)) := by
    show _ = _
    simp only [rList, ← hr1, ← hr2, ← hr3, ← hr4, ← hr5, ← hr6, List.nil_append, List.cons_append]
  rw [hrec] at HFI
  rw [hrec] at hcs
  dsimp only at hcs
  have HCS := Lib.hid hcs
  clear hcs
  have HDB : Hid (decBy dNum dRat b = if b.length ≤ 4096 ∧ sp = ([], false) ∧ recOk (⟨z1, z2, z3, z4, z5, z6, a, c, legs, opts⟩, pays) = true ∧ recT (⟨z1, z2, z3, z4, z5, z6, a, c, legs, opts⟩, pays) = b then some (⟨z1, z2, z3, z4, z5, z6, a, c, legs, opts⟩, pays) else none) := by
    show _ = _
    unfold decBy
    rw [hrec]
  have E1 := Lib.hid hr1
  have E2 := Lib.hid hr2
  have E3 := Lib.hid hr3
  have E4 := Lib.hid hr4
  have E5 := Lib.hid hr5
  have E6 := Lib.hid hr6
  have EA := Lib.hid hra
  have EC := Lib.hid hrc
  have EM := Lib.hid hrm
  have EL := Lib.hid hrl
  have EN := Lib.hid hrn
  have EO := Lib.hid hro
  have EQ := Lib.hid hrq
  have EP := Lib.hid hrp
  have HBL := Lib.hid hbl
  unfold maxLen at hcm
  clear hr0 hby hwb hrec hbig hbl hn hr1 hr2 hr3 hr4 hr5 hr6 hra hrc hrm hrl hrn hro hrq hrp
  unfold zeroRec at hw0
  go_enter Tryd.func26, Tryd.ntmps26
  go_upto_region 6 with fail
  rw [← hw0, ← hql, ← hqr, ← hg]
  have HGE := Lib.hid (And.intro hg (And.intro hqr hql))
  clear hw0 hg hqr hql
  go_wp2_with fail
  go_loopw [7] (fun vi wr => ∃ k : Nat, k ≤ 6 ∧ vi = .int .i64 (k : Int) ∧ Hid (RdS 96 g w.heap.size (rList dNum k (b, false)).2 wr) ∧ Hid (ArrN ql k 6 (rList dNum k (b, false)).1 97 wr) ∧ Hid (wr.heap[w.heap.size]? = some zeroRec) ∧ Hid (wr.heap[qr]? = some zeroRec) ∧ Hid (Below w.heap.size w wr)) (fun vi _ => 6 - (intOf vi).toNat)
  case atStart => exact ⟨0, Nat.zero_le _, rfl, HR0, HA0, HZ0, HQ0, HB0⟩
  case round =>
    clear HR0 HA0 HZ0 HQ0 HB0
    obtain ⟨k, hk, rfl, HR, HA, HZ, HQ, HB⟩ := hrel
    rename World => wo
    obtain ⟨R, hR⟩ : ∃ R, R = rList dNum k (b, false) := ⟨_, rfl⟩
    rw [← hR] at HR HA
    have hll : R.1.length = k := by rw [hR]; exact rList_len _ _ _
    obtain ⟨zs, sk⟩ := R
    dsimp only at HR HA hll
    have HRK := Lib.hid hR
    have HLL := Lib.hid hll
    clear hR hll
    by_cases hlt : k < 6
    · obtain ⟨rx, hrx⟩ : ∃ r, r = dNum sk := ⟨_, rfl⟩
      obtain ⟨x, sx⟩ := rx
      have HNX : Hid (rList dNum (k + 1) (b, false) = (zs ++ [x], sx)) := by
        show _ = _
        rw [rList, ← HRK.out]
        simp only [← hrx]
      have HC := Lib.hid (dNumber_calls g w.heap.size sk wo HR.out HR.out.le)
      rw [← hrx] at HC
      clear hrx HR
      go_wp2_with fail
      refine HC.out.mono ?_
      rintro e w1 ⟨rfl, hr, ho⟩
      dsimp only at hr ⊢
      have HA1 := Lib.hid (show ArrN ql k 6 zs 97 w1 from blk_only HA.out ho (by omega))
      have HZ1 := Lib.hid (blk_only HZ.out ho (by omega))
      have HQ1 := Lib.hid (blk_only HQ.out ho (by omega))
      have HB1 : Hid (Below w.heap.size w w1) := HB.out.trans (ho.at_ w.heap.size HB.out.size (by omega))
      have HR1 := Lib.hid hr
      obtain ⟨kc, kf, kl⟩ := HA1.out.cell HLL.out hlt
      have HA2 := Lib.hid (HA1.out.step HLL.out hlt x)
      have HR2 := Lib.hid (HR1.out.far (q := ql) (j := k) (u := .int .i64 x) (by omega) (by omega))
      have HZ2 := Lib.hid ((heap_setCell_other w1 ⟨ql, k, none⟩ _ (.int .i64 x) (by show w.heap.size ≠ ql; omega)).trans HZ1.out)
      have HQ2 := Lib.hid ((heap_setCell_other w1 ⟨ql, k, none⟩ _ (.int .i64 x) (by show qr ≠ ql; omega)).trans HQ1.out)
      have HB2 : Hid (Below w.heap.size w (w1.setCell ⟨ql, k, none⟩ (.int .i64 x))) := HB1.out.setCell (by show w.heap.size ≤ ql; omega) _
      clear hr ho HC HA HZ HQ HB HA1 HZ1 HQ1 HB1 HR1
      have hki : (k : Int) < 6 := by omega
      go_wp2_with fail
      go_roundw
      case measure => simp [intOf]; omega
      case rel => exact ⟨k + 1, by omega, by go_num, by rw [HNX.out]; exact HR2, by rw [HNX.out]; exact HA2, HZ2, HQ2, HB2⟩
    · have hk6 : k = 6 := by omega
      subst hk6
      have hE := HRK.out
      rw [HL6.out] at hE
      have e1 : zs = [z1, z2, z3, z4, z5, z6] := congrArg Prod.fst hE
      have e2 : s6 = sk := (congrArg Prod.snd hE).symm
      subst e1 e2
      clear hE HRK HLL hlt hk
      have HQA : Hid (wo.heap[ql]? = some (.cells #[.int .i64 z1, .int .i64 z2, .int .i64 z3, .int .i64 z4, .int .i64 z5, .int .i64 z6] 97 (0, 0))) := HA.out
      clear HA
      have c0 : wo.cell? ⟨ql, 0, none⟩ = some (.int .i64 z1) := by rw [cell_of_row wo ql 0 _ _ (0, 0) HQA.out]; rfl
      have c1 : wo.cell? ⟨ql, 1, none⟩ = some (.int .i64 z2) := by rw [cell_of_row wo ql 1 _ _ (0, 0) HQA.out]; rfl
      have c2 : wo.cell? ⟨ql, 2, none⟩ = some (.int .i64 z3) := by rw [cell_of_row wo ql 2 _ _ (0, 0) HQA.out]; rfl
      have c3 : wo.cell? ⟨ql, 3, none⟩ = some (.int .i64 z4) := by rw [cell_of_row wo ql 3 _ _ (0, 0) HQA.out]; rfl
      have c4 : wo.cell? ⟨ql, 4, none⟩ = some (.int .i64 z5) := by rw [cell_of_row wo ql 4 _ _ (0, 0) HQA.out]; rfl
      have c5 : wo.cell? ⟨ql, 5, none⟩ = some (.int .i64 z6) := by rw [cell_of_row wo ql 5 _ _ (0, 0) HQA.out]; rfl
      have hQ := HQ.out
      unfold zeroRec at hQ
      have htb := there_block (n := 14) hQ (by decide)
      have hQ2 : (wo.setCells qr 0 [.int .i64 z1, .int .i64 z2, .int .i64 z3, .int .i64 z4, .int .i64 z5, .int .i64 z6, .bool false, .string ⟨#[]⟩, .string ⟨#[]⟩, .bool false, .string ⟨#[]⟩, .string ⟨#[]⟩, .slice none 0 0, .slice none 0 0]).heap[qr]? = some (.cells #[.int .i64 z1, .int .i64 z2, .int .i64 z3, .int .i64 z4, .int .i64 z5, .int .i64 z6, .bool false, .string ⟨#[]⟩, .string ⟨#[]⟩, .bool false, .string ⟨#[]⟩, .string ⟨#[]⟩, .slice none 0 0, .slice none 0 0, .slice none 0 0] 37 (0, 0)) := setCells_list qr 37 [.int .i64 z1, .int .i64 z2, .int .i64 z3, .int .i64 z4, .int .i64 z5, .int .i64 z6, .bool false, .string ⟨#[]⟩, .string ⟨#[]⟩, .bool false, .string ⟨#[]⟩, .string ⟨#[]⟩, .slice none 0 0, .slice none 0 0] [] [.int .i64 0, .int .i64 0, .int .i64 0, .int .i64 0, .int .i64 0, .int .i64 0, .bool false, .string ⟨#[]⟩, .string ⟨#[]⟩, .bool false, .string ⟨#[]⟩, .string ⟨#[]⟩, .slice none 0 0, .slice none 0 0] [.slice none 0 0] wo hQ rfl
      obtain ⟨w3, hw3⟩ : ∃ W, W = wo.setCells qr 0 [.int .i64 z1, .int .i64 z2, .int .i64 z3, .int .i64 z4, .int .i64 z5, .int .i64 z6, .bool false, .string ⟨#[]⟩, .string ⟨#[]⟩, .bool false, .string ⟨#[]⟩, .string ⟨#[]⟩, .slice none 0 0, .slice none 0 0] := ⟨_, rfl⟩
      rw [← hw3] at hQ2
      have HK3 := Lib.hid hQ2
      have HB3 : Hid (Below w.heap.size w w3) := by rw [hw3]; exact below_setCells (by omega) _ 0 HB.out
      have HZ3 : Hid (w3.heap[w.heap.size]? = some zeroRec) := by rw [hw3]; exact (setCells_other w.heap.size qr (by omega) _ 0 wo).trans HZ.out
      have HD3 : Hid (RdS 96 g w.heap.size s6 w3) := by
        rw [hw3]
        obtain ⟨A', c', h1, h2, h3, h4, h5, h6⟩ := HR.out
        exact ⟨A', c', (setCells_other g qr (by omega) _ 0 wo).trans h1, h2.below (below_setCells (by omega) _ 0 (Below.refl _ _)), h3, h4, h5, h6⟩
      have HW3 := Lib.hid hw3
      clear hw3 hQ hQ2 HR HZ HQ HB HQA
      go_upto_region 10 with fail
      refine wp_region_list ?_
      refine wpList_val (v := .pointer (some ⟨ql, 0, none⟩)) rfl (by go_simp) ?_
      refine wpList_val (v := .int .i64 z1) rfl (by go_simp) ?_
      refine wpList_val (v := .pointer (some ⟨ql, 1, none⟩)) rfl (by go_simp) ?_
      refine wpList_val (v := .int .i64 z2) rfl (by go_simp) ?_
      refine wpList_val (v := .pointer (some ⟨ql, 2, none⟩)) rfl (by go_simp) ?_
      refine wpList_val (v := .int .i64 z3) rfl (by go_simp) ?_
      refine wpList_val (v := .pointer (some ⟨ql, 3, none⟩)) rfl (by go_simp) ?_
      refine wpList_val (v := .int .i64 z4) rfl (by go_simp) ?_
      refine wpList_val (v := .pointer (some ⟨ql, 4, none⟩)) rfl (by go_simp) ?_
      refine wpList_val (v := .int .i64 z5) rfl (by go_simp) ?_
      refine wpList_val (v := .pointer (some ⟨ql, 5, none⟩)) rfl (by go_simp) ?_
      refine wpList_val (v := .int .i64 z6) rfl (by go_simp) ?_
      refine wpList_val (v := .agg #[.int .i64 z1, .int .i64 z2, .int .i64 z3, .int .i64 z4, .int .i64 z5, .int .i64 z6, .bool false, .string ⟨#[]⟩, .string ⟨#[]⟩, .bool false, .string ⟨#[]⟩, .string ⟨#[]⟩, .slice none 0 0, .slice none 0 0]) rfl (by go_simp) ?_
      refine wpList_val (v := .pointer (some ⟨qr, 0, none⟩)) rfl (by go_simp) ?_
      refine wpList_store_mid rfl 34 (.tmp 48) (.tmp 47) rfl qr 0 #[.int .i64 z1, .int .i64 z2, .int .i64 z3, .int .i64 z4, .int .i64 z5, .int .i64 z6, .bool false, .string ⟨#[]⟩, .string ⟨#[]⟩, .bool false, .string ⟨#[]⟩, .string ⟨#[]⟩, .slice none 0 0, .slice none 0 0] (by go_simp) (by go_simp) htb (by kernel_rfl) (by simp [Value.oneCell']) ?_
      refine wpList_nil ?_
      rw [← HW3.out]
      clear HW3 htb c0 c1 c2 c3 c4 c5
      have HC := Lib.hid (dRat_calls g w.heap.size s6 w3 HD3.out)
      rw [← EA.out] at HC
      go_wp2_with fail
      refine HC.out.mono ?_
      rintro e v4 ⟨rfl, hr, ho⟩
      dsimp only at hr ⊢
      have HK_ := Lib.hid (blk_only HK3.out ho (by omega))
      have HZ_ := Lib.hid (blk_only HZ3.out ho (by omega))
      have HB_ : Hid (Below w.heap.size w v4) := HB3.out.trans (ho.at_ w.heap.size HB3.out.size (by omega))
      have HD_ := Lib.hid hr
      clear hr ho HC HK3 HZ3 HB3 HD3
      have lq : qr < v4.heap.size := (Array.getElem?_eq_some_iff.1 HK_.out).1
      have k0 : v4.cell? ⟨qr, 6, none⟩ = some (.bool false) := by rw [cell_of_row v4 qr 6 _ _ (0, 0) HK_.out]; rfl
      have f0 : v4.frozen? ⟨qr, 6, none⟩ = false := frozen_of_row v4 qr 6 _ _ HK_.out
      have k1 : v4.cell? ⟨qr, 7, none⟩ = some (.string ⟨#[]⟩) := by rw [cell_of_row v4 qr 7 _ _ (0, 0) HK_.out]; rfl
      have f1 : v4.frozen? ⟨qr, 7, none⟩ = false := frozen_of_row v4 qr 7 _ _ HK_.out
      have k2 : v4.cell? ⟨qr, 8, none⟩ = some (.string ⟨#[]⟩) := by rw [cell_of_row v4 qr 8 _ _ (0, 0) HK_.out]; rfl
      have f2 : v4.frozen? ⟨qr, 8, none⟩ = false := frozen_of_row v4 qr 8 _ _ HK_.out
      go_wp2_with fail
      obtain ⟨w4, hW⟩ : ∃ W, W = (((v4.setCell ⟨qr, 6, none⟩ (.bool a.neg)).setCell ⟨qr, 7, none⟩ (.string a.num)).setCell ⟨qr, 8, none⟩ (.string a.den)) := ⟨_, rfl⟩
      have HK4 : Hid (w4.heap[qr]? = some (.cells #[.int .i64 z1, .int .i64 z2, .int .i64 z3, .int .i64 z4, .int .i64 z5, .int .i64 z6, .bool a.neg, .string a.num, .string a.den, .bool false, .string ⟨#[]⟩, .string ⟨#[]⟩, .slice none 0 0, .slice none 0 0, .slice none 0 0] 37 (0, 0))) := by
        rw [hW]
        have e0 := heap_setCell_same v4 qr 6 _ _ (.bool a.neg) HK_.out
        have e1 := heap_setCell_same _ qr 7 _ _ (.string a.num) e0
        exact heap_setCell_same _ qr 8 _ _ (.string a.den) e1
      have HB4 : Hid (Below w.heap.size w w4) := by rw [hW]; exact ((HB_.out.setCell (by show w.heap.size ≤ qr; omega) _).setCell (by show w.heap.size ≤ qr; omega) _).setCell (by show w.heap.size ≤ qr; omega) _
      have HZ4 : Hid (w4.heap[w.heap.size]? = some zeroRec) := by
        rw [hW]
        rw [heap_setCell_other _ _ _ _ (by show w.heap.size ≠ qr; omega), heap_setCell_other _ _ _ _ (by show w.heap.size ≠ qr; omega), heap_setCell_other _ _ _ _ (by show w.heap.size ≠ qr; omega)]
        exact HZ_.out
      have HD4 : Hid (RdS 96 g w.heap.size sa w4) := by rw [hW]; exact ((HD_.out.far (by omega) (by omega)).far (by omega) (by omega)).far (by omega) (by omega)
      rw [← hW]
      clear hW k0 k1 k2 f0 f1 f2 lq HK_ HZ_ HB_ HD_
      have HC := Lib.hid (dRat_calls g w.heap.size sa w4 HD4.out)
      rw [← EC.out] at HC
      refine HC.out.mono ?_
      rintro e v5 ⟨rfl, hr, ho⟩
      dsimp only at hr ⊢
      have HK_ := Lib.hid (blk_only HK4.out ho (by omega))
      have HZ_ := Lib.hid (blk_only HZ4.out ho (by omega))
      have HB_ : Hid (Below w.heap.size w v5) := HB4.out.trans (ho.at_ w.heap.size HB4.out.size (by omega))
      have HD_ := Lib.hid hr
      clear hr ho HC HK4 HZ4 HB4 HD4
      have lq : qr < v5.heap.size := (Array.getElem?_eq_some_iff.1 HK_.out).1
      have k0 : v5.cell? ⟨qr, 9, none⟩ = some (.bool false) := by rw [cell_of_row v5 qr 9 _ _ (0, 0) HK_.out]; rfl
      have f0 : v5.frozen? ⟨qr, 9, none⟩ = false := frozen_of_row v5 qr 9 _ _ HK_.out
      have k1 : v5.cell? ⟨qr, 10, none⟩ = some (.string ⟨#[]⟩) := by rw [cell_of_row v5 qr 10 _ _ (0, 0) HK_.out]; rfl
      have f1 : v5.frozen? ⟨qr, 10, none⟩ = false := frozen_of_row v5 qr 10 _ _ HK_.out
      have k2 : v5.cell? ⟨qr, 11, none⟩ = some (.string ⟨#[]⟩) := by rw [cell_of_row v5 qr 11 _ _ (0, 0) HK_.out]; rfl
      have f2 : v5.frozen? ⟨qr, 11, none⟩ = false := frozen_of_row v5 qr 11 _ _ HK_.out
      go_wp2_with fail
      obtain ⟨w5, hW⟩ : ∃ W, W = (((v5.setCell ⟨qr, 9, none⟩ (.bool c.neg)).setCell ⟨qr, 10, none⟩ (.string c.num)).setCell ⟨qr, 11, none⟩ (.string c.den)) := ⟨_, rfl⟩
      have HK5 : Hid (w5.heap[qr]? = some (.cells #[.int .i64 z1, .int .i64 z2, .int .i64 z3, .int .i64 z4, .int .i64 z5, .int .i64 z6, .bool a.neg, .string a.num, .string a.den, .bool c.neg, .string c.num, .string c.den, .slice none 0 0, .slice none 0 0, .slice none 0 0] 37 (0, 0))) := by
        rw [hW]
        have e0 := heap_setCell_same v5 qr 9 _ _ (.bool c.neg) HK_.out
        have e1 := heap_setCell_same _ qr 10 _ _ (.string c.num) e0
        exact heap_setCell_same _ qr 11 _ _ (.string c.den) e1
      have HB5 : Hid (Below w.heap.size w w5) := by rw [hW]; exact ((HB_.out.setCell (by show w.heap.size ≤ qr; omega) _).setCell (by show w.heap.size ≤ qr; omega) _).setCell (by show w.heap.size ≤ qr; omega) _
      have HZ5 : Hid (w5.heap[w.heap.size]? = some zeroRec) := by
        rw [hW]
        rw [heap_setCell_other _ _ _ _ (by show w.heap.size ≠ qr; omega), heap_setCell_other _ _ _ _ (by show w.heap.size ≠ qr; omega), heap_setCell_other _ _ _ _ (by show w.heap.size ≠ qr; omega)]
        exact HZ_.out
      have HD5 : Hid (RdS 96 g w.heap.size sc w5) := by rw [hW]; exact ((HD_.out.far (by omega) (by omega)).far (by omega) (by omega)).far (by omega) (by omega)
      rw [← hW]
      clear hW k0 k1 k2 f0 f1 f2 lq HK_ HZ_ HB_ HD_
      have HC := Lib.hid (dMany_calls g w.heap.size 8 sc w5 HD5.out HD5.out.le (by unfold maxLen; omega))
      rw [← EM.out] at HC
      refine HC.out.mono ?_
      rintro e w6 ⟨rfl, hr, ho⟩
      dsimp only at hr ⊢
      obtain ⟨B, hB⟩ : ∃ B, B = w6.heap.size := ⟨_, rfl⟩
      have HI : Hid (DecI 96 w g w.heap.size qr B z1 z2 z3 z4 z5 z6 a c none 0 [] none 0 [] none 0 [] t1 w6) := ⟨blk_only HK5.out ho (by omega), blk_only HZ5.out ho (by omega), World.ownsRow_nil _ _ _ _, World.ownsRow_nil _ _ _ _, World.ownsRow_nil _ _ _ _, hr, HB5.out.trans (ho.at_ w.heap.size HB5.out.size (by omega)), by rw [hB]; exact Nat.le_refl _, hlg, by omega, by omega, by rw [hB]; exact (HB5.out.trans (ho.at_ w.heap.size HB5.out.size (by omega))).size, Nat.le_refl _, by decide⟩
      clear hr ho HC HK5 HZ5 HB5 HD5 hB
      obtain ⟨i1, hi_, hz_, hs_, hbt_⟩ := info_parts Tryd.rec_info_leg
      have HF1 := Lib.hid (And.intro hi_ (And.intro hz_ (And.intro hs_ hbt_)))
      clear hi_ hz_ hs_ hbt_
      obtain ⟨i2, hi_, hz_, hs_, hbt_⟩ := info_parts Tryd.rec_info_opt
      have HF2 := Lib.hid (And.intro hi_ (And.intro hz_ (And.intro hs_ hbt_)))
      clear hi_ hz_ hs_ hbt_
      obtain ⟨i3, hi_, hz_, hs_, hbt_⟩ := info_parts Tryd.rec_info_pay
      have HF3 := Lib.hid (And.intro hi_ (And.intro hz_ (And.intro hs_ hbt_)))
      clear hi_ hz_ hs_ hbt_
      go_wp2_with fail
      go_loopw [9] (fun vi wr => ∃ (k : Nat) (Ax : Option Addr) (cx : Nat), k ≤ m1 ∧ vi = .int .i64 (k : Int) ∧ Hid (DecI 96 w g w.heap.size qr B z1 z2 z3 z4 z5 z6 a c Ax cx (rList (rPair dNum) k t1).1 none 0 [] none 0 [] (rList (rPair dNum) k t1).2 wr)) (fun vi _ => m1 - (intOf vi).toNat)
      case atStart => exact ⟨0, none, 0, Nat.zero_le _, rfl, HI⟩
      case round =>
        clear HI
        obtain ⟨k, A1, c1, hk, rfl, HI⟩ := hrel
        rename World => wo
        obtain ⟨R, hR⟩ : ∃ R, R = rList (rPair dNum) k t1 := ⟨_, rfl⟩
        rw [← hR] at HI
        have hll : R.1.length = k := by rw [hR]; exact rList_len _ _ _
        obtain ⟨ps, sk⟩ := R
        dsimp only at HI hll
        have HRK := Lib.hid hR
        have HLL := Lib.hid hll
        clear hR hll
        by_cases hlt : k < m1
        · obtain ⟨rx, hrx⟩ : ∃ r, r = dNum sk := ⟨_, rfl⟩
          obtain ⟨x, sx⟩ := rx
          obtain ⟨ry, hry⟩ : ∃ r, r = dNum sx := ⟨_, rfl⟩
          obtain ⟨y, sy⟩ := ry
          have HNX : Hid (rList (rPair dNum) (k + 1) t1 = (ps ++ [(x, y)], sy)) := by
            show _ = _
            rw [rList, ← HRK.out]
            simp only [rPair, ← hrx, ← hry]
          have Ex_ := Lib.hid hrx
          have Ey_ := Lib.hid hry
          clear hrx hry
          have HC := Lib.hid (dNumber_calls g w.heap.size sk wo HI.out.d HI.out.d.le)
          rw [← Ex_.out] at HC
          go_wp2_with fail
          refine HC.out.mono ?_
          rintro e wi0 ⟨rfl, hr, ho⟩
          dsimp only at hr ⊢
          have HJ0 := Lib.hid (HI.out.next hr ho)
          clear hr ho HC HI
          have HC := Lib.hid (dNumber_calls g w.heap.size sx wi0 HJ0.out.d HJ0.out.d.le)
          rw [← Ey_.out] at HC
          go_wp2_with fail
          refine HC.out.mono ?_
          rintro e wi1 ⟨rfl, hr, ho⟩
          dsimp only at hr ⊢
          have HJ1 := Lib.hid (HJ0.out.next hr ho)
          clear hr ho HC HJ0
          have kf := HJ1.out.cells.1
          have HJa := Lib.hid (HJ1.out.alloc (.cells #[.int .i64 x, .int .i64 y] 49))
          have hps := Nat.le_of_eq HLL.out
          go_wp2_with (at_builtin; refine wpList_append_own _ rfl (.tmp 70) (.tmp 74) 31 rfl B 49 i1 _ 2 16 Tryd.underlying31 HF1.out.1 HF1.out.2.1 HF1.out.2.2.1 HF1.out.2.2.2 rfl (by decide) _ ps.length (ps.flatMap legV) rfl HJa.out.l _ 1 1 [.int .i64 x, .int .i64 y] rfl rfl (rd_new_cells _ _ _ _ (by simp)) (by simp [Value.oneCell']) (by simp only [maxLen]; omega) (by omega) HJa.out.sz ?_)
          intro v' w' hown hgr hnil
          obtain ⟨g', cap, rfl, _, _⟩ := hown.form (by omega)
          have hg1 := blk_grown HJa.out.l HJa.out.r (by decide) hgr
          have HN9 := Lib.hid (HJa.out.leg hown hgr)
          have kf2 : w'.cell? ⟨qr, 12, none⟩ = some (.slice A1 ps.length c1) := by rw [cell_of_row w' qr 12 _ _ (0, 0) hg1]; rfl
          have ff : w'.frozen? ⟨qr, 12, none⟩ = false := frozen_of_row w' qr 12 _ _ hg1
          have lf : qr < w'.heap.size := (Array.getElem?_eq_some_iff.1 hg1).1
          clear kf hown hgr hnil hg1 HJa HJ1
          go_wp2_with fail
          clear kf2 ff lf
          go_roundw
          case measure => simp [intOf]; omega
          case rel => exact ⟨k + 1, _, _, by omega, by go_num, by rw [HNX.out]; exact HN9⟩
        · have hkm : k = m1 := by omega
          have hE := HRK.out
          rw [hkm, ← EL.out] at hE
          have e1 : legs = ps := (congrArg Prod.fst hE).symm
          have e2 : sl = sk := (congrArg Prod.snd hE).symm
          subst e1 e2
          clear hE HRK HLL hkm
          have HC := Lib.hid (dMany_calls g w.heap.size 4 sl wo HI.out.d HI.out.d.le (by unfold maxLen; omega))
          rw [← EN.out] at HC
          go_wp2_with fail
          refine HC.out.mono ?_
          rintro e w6 ⟨rfl, hr, ho⟩
          dsimp only at hr ⊢
          have HI2 := Lib.hid (HI.out.next hr ho)
          clear hr ho HC HI
          have HI := HI2
          clear HI2
          go_wp2_with fail
          go_loopw [12] (fun vi wr => ∃ (k : Nat) (Ax : Option Addr) (cx : Nat), k ≤ m2 ∧ vi = .int .i64 (k : Int) ∧ Hid (DecI 96 w g w.heap.size qr B z1 z2 z3 z4 z5 z6 a c A1 c1 legs Ax cx (rList (rOpt dNum dRat) k t2).1 none 0 [] (rList (rOpt dNum dRat) k t2).2 wr)) (fun vi _ => m2 - (intOf vi).toNat)
          case atStart => exact ⟨0, none, 0, Nat.zero_le _, rfl, HI⟩
          case round =>
            clear HI
            obtain ⟨k, A2, c2, hk, rfl, HI⟩ := hrel
            rename World => wo
            obtain ⟨R, hR⟩ : ∃ R, R = rList (rOpt dNum dRat) k t2 := ⟨_, rfl⟩
            rw [← hR] at HI
            have hll : R.1.length = k := by rw [hR]; exact rList_len _ _ _
            obtain ⟨ps, sk⟩ := R
            dsimp only at HI hll
            have HRK := Lib.hid hR
            have HLL := Lib.hid hll
            clear hR hll
            by_cases hlt : k < m2
            · obtain ⟨rx, hrx⟩ : ∃ r, r = dRat sk := ⟨_, rfl⟩
              obtain ⟨x, sx⟩ := rx
              obtain ⟨ry, hry⟩ : ∃ r, r = dNum sx := ⟨_, rfl⟩
              obtain ⟨y, sy⟩ := ry
              have HNX : Hid (rList (rOpt dNum dRat) (k + 1) t2 = (ps ++ [(x, y)], sy)) := by
                show _ = _
                rw [rList, ← HRK.out]
                simp only [rOpt, ← hrx, ← hry]
              have Ex_ := Lib.hid hrx
              have Ey_ := Lib.hid hry
              clear hrx hry
              have HC := Lib.hid (dRat_calls g w.heap.size sk wo HI.out.d)
              rw [← Ex_.out] at HC
              go_wp2_with fail
              refine HC.out.mono ?_
              rintro e wi0 ⟨rfl, hr, ho⟩
              dsimp only at hr ⊢
              have HJ0 := Lib.hid (HI.out.next hr ho)
              clear hr ho HC HI
              obtain ⟨q, hq⟩ : ∃ q, q = wi0.heap.size := ⟨_, rfl⟩
              obtain ⟨wx, hwx⟩ : ∃ W, W = wi0.alloc (.cells #[.bool x.neg, .string x.num, .string x.den] 30) := ⟨_, rfl⟩
              have hbx : Below wi0.heap.size wi0 wx := by rw [hwx]; exact bel_alloc _ _
              have HX : Hid (BoxX q x wx) := by rw [hwx, hq]; exact blk_new _ _
              have hqg : q ≠ g := by have := HJ0.out.d.lt; omega
              have hqa : q ≠ qr := by have := (Array.getElem?_eq_some_iff.1 HJ0.out.r).1; omega
              have HJx := Lib.hid (HJ0.out.next (HJ0.out.d.next HJ0.out.d.le hbx) (Only.of_below (B := 0) hbx))
              have HWX := Lib.hid hwx
              have HQE := Lib.hid hq
              clear hwx hbx hq HJ0
              go_wp2_with fail
              rw [← HQE.out, ← HWX.out]
              clear HWX HQE
              have HC := Lib.hid (dNumber_calls g w.heap.size sx wx HJx.out.d HJx.out.d.le)
              rw [← Ey_.out] at HC
              go_wp2_with fail
              refine HC.out.mono ?_
              rintro e wi1 ⟨rfl, hr, ho⟩
              dsimp only at hr ⊢
              have HJ1 := Lib.hid (HJx.out.next hr ho)
              have HXb := Lib.hid (show BoxX q x wi1 from blk_only HX.out ho hqg)
              clear HX
              clear hr ho HC HJx
              have kf := HJ1.out.cells.2.1
              obtain ⟨b0, b1, b2, _⟩ := three_of HXb.out
              have HJa := Lib.hid (HJ1.out.alloc (.cells #[.bool x.neg, .string x.num, .string x.den, .int .i64 y] 51))
              have hps := Nat.le_of_eq HLL.out
              go_wp2_with (at_builtin; refine wpList_append_own _ rfl (.tmp 91) (.tmp 95) 32 rfl B 51 i2 _ 4 48 Tryd.underlying32 HF2.out.1 HF2.out.2.1 HF2.out.2.2.1 HF2.out.2.2.2 rfl (by decide) _ ps.length (ps.flatMap optV) rfl HJa.out.o _ 1 1 [.bool x.neg, .string x.num, .string x.den, .int .i64 y] rfl rfl (rd_new_cells _ _ _ _ (by simp)) (by simp [Value.oneCell']) (by simp only [maxLen]; omega) (by omega) HJa.out.sz ?_)
              intro v' w' hown hgr hnil
              obtain ⟨g', cap, rfl, _, _⟩ := hown.form (by omega)
              have hg1 := blk_grown HJa.out.o HJa.out.r (by decide) hgr
              have HN9 := Lib.hid (HJa.out.opt hown hgr)
              have kf2 : w'.cell? ⟨qr, 13, none⟩ = some (.slice A2 ps.length c2) := by rw [cell_of_row w' qr 13 _ _ (0, 0) hg1]; rfl
              have ff : w'.frozen? ⟨qr, 13, none⟩ = false := frozen_of_row w' qr 13 _ _ hg1
              have lf : qr < w'.heap.size := (Array.getElem?_eq_some_iff.1 hg1).1
              clear kf hown hgr hnil hg1 HJa HJ1 b0 b1 b2 HXb
              go_wp2_with fail
              clear kf2 ff lf
              go_roundw
              case measure => simp [intOf]; omega
              case rel => exact ⟨k + 1, _, _, by omega, by go_num, by rw [HNX.out]; exact HN9⟩
            · have hkm : k = m2 := by omega
              have hE := HRK.out
              rw [hkm, ← EO.out] at hE
              have e1 : opts = ps := (congrArg Prod.fst hE).symm
              have e2 : so = sk := (congrArg Prod.snd hE).symm
              subst e1 e2
              clear hE HRK HLL hkm
              have HC := Lib.hid (dMany_calls g w.heap.size 256 so wo HI.out.d HI.out.d.le (by unfold maxLen; omega))
              rw [← EQ.out] at HC
              go_wp2_with fail
              refine HC.out.mono ?_
              rintro e w6 ⟨rfl, hr, ho⟩
              dsimp only at hr ⊢
              have HI2 := Lib.hid (HI.out.next hr ho)
              clear hr ho HC HI
              have HI := HI2
              clear HI2
              go_wp2_with fail
              go_loopw [15] (fun vi wr => ∃ (k : Nat) (Ax : Option Addr) (cx : Nat), k ≤ m3 ∧ vi = .int .i64 (k : Int) ∧ Hid (DecI 96 w g w.heap.size qr B z1 z2 z3 z4 z5 z6 a c A1 c1 legs A2 c2 opts Ax cx (rList (rPay dNum) k t3).1 (rList (rPay dNum) k t3).2 wr)) (fun vi _ => m3 - (intOf vi).toNat)
              case atStart => exact ⟨0, none, 0, Nat.zero_le _, rfl, HI⟩
              case round =>
                clear HI
                obtain ⟨k, A3, c3, hk, rfl, HI⟩ := hrel
                rename World => wo
                obtain ⟨R, hR⟩ : ∃ R, R = rList (rPay dNum) k t3 := ⟨_, rfl⟩
                rw [← hR] at HI
                have hll : R.1.length = k := by rw [hR]; exact rList_len _ _ _
                obtain ⟨ps, sk⟩ := R
                dsimp only at HI hll
                have HRK := Lib.hid hR
                have HLL := Lib.hid hll
                clear hR hll
                by_cases hlt : k < m3
                · obtain ⟨rx, hrx⟩ : ∃ r, r = dNum sk := ⟨_, rfl⟩
                  obtain ⟨x, sx⟩ := rx
                  obtain ⟨ry, hry⟩ : ∃ r, r = dNum sx := ⟨_, rfl⟩
                  obtain ⟨y, sy⟩ := ry
                  obtain ⟨ru, hru⟩ : ∃ r, r = dNum sy := ⟨_, rfl⟩
                  obtain ⟨u, su⟩ := ru
                  obtain ⟨rv, hrv⟩ : ∃ r, r = dNum su := ⟨_, rfl⟩
                  obtain ⟨v, sv⟩ := rv
                  have HNX : Hid (rList (rPay dNum) (k + 1) t3 = (ps ++ [⟨x, y, u, v⟩], sv)) := by
                    show _ = _
                    rw [rList, ← HRK.out]
                    simp only [rPay, ← hrx, ← hry, ← hru, ← hrv]
                  have Ex_ := Lib.hid hrx
                  have Ey_ := Lib.hid hry
                  have Eu_ := Lib.hid hru
                  have Ev_ := Lib.hid hrv
                  clear hrx hry hru hrv
                  have HC := Lib.hid (dNumber_calls g w.heap.size sk wo HI.out.d HI.out.d.le)
                  rw [← Ex_.out] at HC
                  go_wp2_with fail
                  refine HC.out.mono ?_
                  rintro e wi0 ⟨rfl, hr, ho⟩
                  dsimp only at hr ⊢
                  have HJ0 := Lib.hid (HI.out.next hr ho)
                  clear hr ho HC HI
                  have HC := Lib.hid (dNumber_calls g w.heap.size sx wi0 HJ0.out.d HJ0.out.d.le)
                  rw [← Ey_.out] at HC
                  go_wp2_with fail
                  refine HC.out.mono ?_
                  rintro e wi1 ⟨rfl, hr, ho⟩
                  dsimp only at hr ⊢
                  have HJ1 := Lib.hid (HJ0.out.next hr ho)
                  clear hr ho HC HJ0
                  have HC := Lib.hid (dNumber_calls g w.heap.size sy wi1 HJ1.out.d HJ1.out.d.le)
                  rw [← Eu_.out] at HC
                  go_wp2_with fail
                  refine HC.out.mono ?_
                  rintro e wi2 ⟨rfl, hr, ho⟩
                  dsimp only at hr ⊢
                  have HJ2 := Lib.hid (HJ1.out.next hr ho)
                  clear hr ho HC HJ1
                  have HC := Lib.hid (dNumber_calls g w.heap.size su wi2 HJ2.out.d HJ2.out.d.le)
                  rw [← Ev_.out] at HC
                  go_wp2_with fail
                  refine HC.out.mono ?_
                  rintro e wi3 ⟨rfl, hr, ho⟩
                  dsimp only at hr ⊢
                  have HJ3 := Lib.hid (HJ2.out.next hr ho)
                  clear hr ho HC HJ2
                  have kf := HJ3.out.cells.2.2
                  have HJa := Lib.hid (HJ3.out.alloc (.cells #[.int .i64 x, .int .i64 y, .int .i64 u, .int .i64 v] 55))
                  have hps := Nat.le_of_eq HLL.out
                  go_wp2_with (at_builtin; refine wpList_append_own _ rfl (.tmp 115) (.tmp 123) 35 rfl B 55 i3 _ 4 32 Tryd.underlying35 HF3.out.1 HF3.out.2.1 HF3.out.2.2.1 HF3.out.2.2.2 rfl (by decide) _ ps.length (ps.flatMap payV) rfl HJa.out.p _ 1 1 [.int .i64 x, .int .i64 y, .int .i64 u, .int .i64 v] rfl rfl (rd_new_cells _ _ _ _ (by simp)) (by simp [Value.oneCell']) (by simp only [maxLen]; omega) (by omega) HJa.out.sz ?_)
                  intro v' w' hown hgr hnil
                  obtain ⟨g', cap, rfl, _, _⟩ := hown.form (by omega)
                  have hg1 := blk_grown HJa.out.p HJa.out.r (by decide) hgr
                  have HN9 := Lib.hid (HJa.out.pay hown hgr)
                  have kf2 : w'.cell? ⟨qr, 14, none⟩ = some (.slice A3 ps.length c3) := by rw [cell_of_row w' qr 14 _ _ (0, 0) hg1]; rfl
                  have ff : w'.frozen? ⟨qr, 14, none⟩ = false := frozen_of_row w' qr 14 _ _ hg1
                  have lf : qr < w'.heap.size := (Array.getElem?_eq_some_iff.1 hg1).1
                  clear kf hown hgr hnil hg1 HJa HJ3
                  go_wp2_with fail
                  clear kf2 ff lf
                  go_roundw
                  case measure => simp [intOf]; omega
                  case rel => exact ⟨k + 1, _, _, by omega, by go_num, by rw [HNX.out]; exact HN9⟩
                · have hkm : k = m3 := by omega
                  have hE := HRK.out
                  rw [hkm, ← EP.out] at hE
                  have e1 : pays = ps := (congrArg Prod.fst hE).symm
                  have e2 : sp = sk := (congrArg Prod.snd hE).symm
                  subst e1 e2
                  clear hE HRK HLL hkm
                  obtain ⟨Lf, bf⟩ := sp
                  obtain ⟨Af, cf, k0, k1, f0, f1, lg, y1_, y2_, y3_, y4_, y5_, y6_⟩ := RdS.cells HI.out.d
                  unfold maxLen at y4_
                  obtain ⟨nf, hnf⟩ : ∃ n, n = Lf.length := ⟨_, rfl⟩
                  rw [← hnf] at y6_ y3_
                  have HNF := Lib.hid hnf
                  have HS : Hid (FinS w g qr A b Af nf cf bf z1 z2 z3 z4 z5 z6 a c A1 legs.length c1 A2 opts.length c2 A3 pays.length c3 wo) := ⟨HI.out.r, y6_, HKB.out.1.below HI.out.b, HI.out.b⟩
                  clear hnf k0 k1 f0 f1 lg y1_ y2_ y5_ y6_
                  go_wp2_with fail
                  cases bf
                  · by_cases hnp : 0 < nf
                    · have h := HCS.out.1
                      simp at h
                      have h2 := HNF.out
                      rw [h] at h2
                      simp at h2
                      omega
                    · have hn0 : nf = 0 := by omega
                      have hd0 : decide ((0 : Int) < (nf : Int)) = false := decide_eq_false (by omega)
                      have hd0' : decide (0 < nf) = false := decide_eq_false (by omega)
                      have hLf : Lf = [] := List.eq_nil_of_length_eq_zero (by rw [← HNF.out]; exact hn0)
                      have HLF := Lib.hid hLf
                      clear hn0 hnp
                      obtain ⟨T, hT⟩ : ∃ T, T = recT (⟨z1, z2, z3, z4, z5, z6, a, c, legs, opts⟩, pays) := ⟨_, rfl⟩
                      obtain ⟨ok, hok⟩ : ∃ ok, ok = recOk (⟨z1, z2, z3, z4, z5, z6, a, c, legs, opts⟩, pays) := ⟨_, rfl⟩
                      have HTB : Hid (Byt T) := by rw [hT]; exact encB_byt _ _ _ _ _ _
                      have hTr := hT
                      rw [← hT, ← hok] at HDB HCS
                      have HTT : Hid (T = encB [z1, z2, z3, z4, z5, z6] ⟨a.neg, a.num, a.den⟩ ⟨c.neg, c.num, c.den⟩ legs opts pays) := hTr
                      have HKK : Hid (ok = refOk [z1, z2, z3, z4, z5, z6] ⟨a.neg, a.num, a.den⟩ ⟨c.neg, c.num, c.den⟩ legs opts pays T) := by rw [show T = _ from hTr]; exact hok
                      clear hT hok hLf hTr
                      obtain ⟨W0, hW0⟩ : ∃ W0, W0 = wo.drew := ⟨_, rfl⟩
                      have hS : (FinS w g qr A b Af nf cf false z1 z2 z3 z4 z5 z6 a c A1 legs.length c1 A2 opts.length c2 A3 pays.length c3) W0 := by rw [hW0]; exact HS.out.drew
                      have HZ0 : Hid (W0.heap[w.heap.size]? = some zeroRec) := by rw [hW0]; exact HI.out.z
                      refine wp_region_held_drew (S := (FinS w g qr A b Af nf cf false z1 z2 z3 z4 z5 z6 a c A1 legs.length c1 A2 opts.length c2 A3 pays.length c3)) (by kernel_rfl) (by rw [← hW0]; exact hS) ?_
                      rw [← hW0]
                      intro _
                      have HO0 : Hid (W0.ownsRow B 49 2 (.slice A1 legs.length c1) legs.length (legs.flatMap legV) ∧ W0.ownsRow B 51 4 (.slice A2 opts.length c2) opts.length (opts.flatMap optV) ∧ W0.ownsRow B 55 4 (.slice A3 pays.length c3) pays.length (pays.flatMap payV)) := by rw [hW0]; exact ⟨HI.out.l, HI.out.o, HI.out.p⟩
                      clear hW0 HI HS
                      refine wpAnyH_take (i := 0) rfl (by kernel_rfl) (by kernel_rfl) (by kernel_rfl) (fun _ _ _ h => h) (Or.inl ⟨by kernel_rfl, (by intro w' _; go_simp; with_reducible rfl)⟩) hS ?_
                      go_simp
                      refine wpAnyH_take (i := 1) rfl (by kernel_rfl) (by kernel_rfl) (by kernel_rfl) (fun _ _ _ h => h) (Or.inl ⟨by kernel_rfl, (by intro w' _; go_simp; with_reducible rfl)⟩) hS ?_
                      go_simp
                      refine wpAnyH_take (i := 2) rfl (by kernel_rfl) (by kernel_rfl) (by kernel_rfl) (fun _ _ _ h => h) (Or.inl ⟨by kernel_rfl, (by intro w' _; go_simp; with_reducible rfl)⟩) hS ?_
                      go_simp
                      refine wpAnyH_take (i := 3) (v := .bool false) rfl (by kernel_rfl) (by kernel_rfl) (by kernel_rfl) (fun _ _ _ h => h) (Or.inl ⟨by kernel_rfl, (by intro w' hw'; have kc := (FinS.rd hw').2; go_simp)⟩) hS ?_
                      go_simp
                      refine wpAnyH_take (i := 4) rfl (by kernel_rfl) (by kernel_rfl) (by kernel_rfl) (fun _ _ _ h => h) (Or.inl ⟨by kernel_rfl, (by intro w' _; go_simp; with_reducible rfl)⟩) hS ?_
                      go_simp
                      refine wpAnyH_take (i := 5) rfl (by kernel_rfl) (by kernel_rfl) (by kernel_rfl) (fun _ _ _ h => h) (Or.inl ⟨by kernel_rfl, (by intro w' _; go_simp; with_reducible rfl)⟩) hS ?_
                      go_simp
                      refine wpAnyH_take (i := 6) rfl (by kernel_rfl) (by kernel_rfl) (by kernel_rfl) (fun _ _ _ h => h) (Or.inl ⟨by kernel_rfl, (by intro w' _; go_simp; with_reducible rfl)⟩) hS ?_
                      go_simp
                      refine wpAnyH_take (i := 7) rfl (by kernel_rfl) (by kernel_rfl) (by kernel_rfl) (fun _ _ _ h => h) (Or.inl ⟨by kernel_rfl, (by intro w' _; go_simp; with_reducible rfl)⟩) hS ?_
                      go_simp
                      refine wpAnyH_take (i := 8) (v := .slice Af nf cf) rfl (by kernel_rfl) (by kernel_rfl) (by kernel_rfl) (fun _ _ _ h => h) (Or.inl ⟨by kernel_rfl, (by intro w' hw'; have kc := (FinS.rd hw').1; go_simp)⟩) hS ?_
                      go_simp
                      refine wpAnyH_take (i := 9) rfl (by kernel_rfl) (by kernel_rfl) (by kernel_rfl) (fun _ _ _ h => h) (Or.inl ⟨by kernel_rfl, (by intro w' _; go_simp; with_reducible rfl)⟩) hS ?_
                      go_simp
                      refine wpAnyH_take (i := 10) (v := .bool false) rfl (by kernel_rfl) (by kernel_rfl) (by kernel_rfl) (fun _ _ _ h => h) (Or.inl ⟨by kernel_rfl, (by intro w' _; go_simp)⟩) hS ?_
                      go_simp
                      refine wpAnyH_take (i := 11) (v := .bool false) rfl (by kernel_rfl) (by kernel_rfl) (by kernel_rfl) (fun _ _ _ h => h) (Or.inl ⟨by kernel_rfl, (by intro w' _; go_simp)⟩) hS ?_
                      go_simp
                      refine wpAnyH_take (i := 12) rfl (by kernel_rfl) (by kernel_rfl) (by kernel_rfl) (fun _ _ _ h => h) (Or.inl ⟨by kernel_rfl, (by intro w' _; go_simp; with_reducible rfl)⟩) hS ?_
                      go_simp
                      have HFIT : Hid (RecFit z1 z2 z3 z4 z5 z6 a.neg a.num a.den c.neg c.num c.den A1 legs.length c1 A2 opts.length c2 A3 pays.length c3 legs opts pays W0) := by
                        have hm4 : (4096 : Nat) ≤ maxLen := by unfold maxLen; omega
                        have hb := HBL.out
                        have f := HFI.out
                        exact ⟨f.z, ⟨Nat.le_trans f.a.1 (by omega), Nat.le_trans f.a.2 (by omega)⟩, ⟨Nat.le_trans f.c.1 (by omega), Nat.le_trans f.c.2 (by omega)⟩, rfl, rfl, rfl, Rd.of_own HO0.out.1, f.l, Rd.of_own HO0.out.2.1, fun p hp => ⟨⟨Nat.le_trans (f.o p hp).1.1 (by omega), Nat.le_trans (f.o p hp).1.2 (by omega)⟩, (f.o p hp).2⟩, Rd.of_own HO0.out.2.2, f.p, Nat.le_trans f.ll (by omega), Nat.le_trans f.ol (by omega), Nat.le_trans f.pl (by omega)⟩
                      refine wpAnyH_take (i := 13) (v := .agg #[.int .i64 z1, .int .i64 z2, .int .i64 z3, .int .i64 z4, .int .i64 z5, .int .i64 z6, .bool a.neg, .string a.num, .string a.den, .bool c.neg, .string c.num, .string c.den, .slice A1 legs.length c1, .slice A2 opts.length c2, .slice A3 pays.length c3]) rfl (by kernel_rfl) (by kernel_rfl) (by kernel_rfl) (fun _ _ _ h => h) (Or.inl ⟨by kernel_rfl, (by intro w' hw'; obtain ⟨hr_, _, _, _⟩ := hw'; obtain ⟨k0, k1, k2, k3, k4, k5, k6, k7, k8, k9, k10, k11, k12, k13, k14⟩ := RecS.cells z1 z2 z3 z4 z5 z6 a.neg a.num a.den c.neg c.num c.den A1 legs.length c1 A2 opts.length c2 A3 pays.length c3 hr_; go_simp)⟩) hS ?_
                      go_simp
                      refine wpAnyH_ready (rs := [14]) (by kernel_rfl) (by simp) ?_
                      refine AllReadyH.cons rfl (fun K hK => ?_) AllReadyH.nil
                      go_simp
                      have hf_ := HFIT.out
                      refine (refValid_calls z1 z2 z3 z4 z5 z6 a.neg a.num a.den c.neg c.num c.den A1 legs.length c1 A2 opts.length c2 A3 pays.length c3 legs opts pays W0 hf_.hz hf_.ha hf_.hc hf_.e1 hf_.e2 hf_.e3 hf_.r1 hf_.o1 hf_.r2 hf_.o2 hf_.r3 hf_.o3 hf_.g1 hf_.g2 hf_.g3 T HTT.out ok HKK.out).mono ?_
                      clear hf_
                      rintro e w7 ⟨rfl, hb⟩
                      have hS7 := hS.next hb
                      have HZ7 := Lib.hid (blk_next HZ0.out hb)
                      have HFIT7 := Lib.hid (HFIT.out.next z1 z2 z3 z4 z5 z6 a.neg a.num a.den c.neg c.num c.den A1 legs.length c1 A2 opts.length c2 A3 pays.length c3 hb)
                      have HO7 := Lib.hid (And.intro (own_below HO0.out.1 hb) (And.intro (own_below HO0.out.2.1 hb) (own_below HO0.out.2.2 hb)))
                      refine hK.out _ _ hS7 (fun _ => ?_)
                      clear hK K hb HFIT HZ0 HO0 hS
                      cases ok
                      · exact absurd HCS.out.2.1 (by simp)
                      · refine wpAnyH_take (i := 15) (v := .bool false) rfl (by kernel_rfl) (by kernel_rfl) (by kernel_rfl) (fun _ _ _ h => h) (Or.inl ⟨by kernel_rfl, (by intro w' _; go_simp)⟩) hS7 ?_
                        go_simp
                        refine wpAnyH_take (i := 16) (v := .bool false) rfl (by kernel_rfl) (by kernel_rfl) (by kernel_rfl) (fun _ _ _ h => h) (Or.inl ⟨by kernel_rfl, (by intro w' _; go_simp)⟩) hS7 ?_
                        go_simp
                        refine wpAnyH_take (i := 17) rfl (by kernel_rfl) (by kernel_rfl) (by kernel_rfl) (fun _ _ _ h => h) (Or.inl ⟨by kernel_rfl, (by intro w' _; go_simp; with_reducible rfl)⟩) hS7 ?_
                        go_simp
                        refine wpAnyH_take (i := 18) (v := .agg #[.int .i64 z1, .int .i64 z2, .int .i64 z3, .int .i64 z4, .int .i64 z5, .int .i64 z6, .bool a.neg, .string a.num, .string a.den, .bool c.neg, .string c.num, .string c.den, .slice A1 legs.length c1, .slice A2 opts.length c2, .slice A3 pays.length c3]) rfl (by kernel_rfl) (by kernel_rfl) (by kernel_rfl) (fun _ _ _ h => h) (Or.inl ⟨by kernel_rfl, (by intro w' hw'; obtain ⟨hr_, _, _, _⟩ := hw'; obtain ⟨k0, k1, k2, k3, k4, k5, k6, k7, k8, k9, k10, k11, k12, k13, k14⟩ := RecS.cells z1 z2 z3 z4 z5 z6 a.neg a.num a.den c.neg c.num c.den A1 legs.length c1 A2 opts.length c2 A3 pays.length c3 hr_; go_simp)⟩) hS7 ?_
                        go_simp
                        have hlim : legs.length ≤ 8 ∧ opts.length ≤ 4 ∧ pays.length ≤ 256 := by have h := refOk_parts HKK.out.symm; exact ⟨h.2.1, h.2.2.1, h.2.2.2.1⟩
                        obtain ⟨ub, hub⟩ : ∃ s, s = nstr b := ⟨_, rfl⟩
                        have HCVB := HCV
                        rw [← hub] at HCVB
                        have HUB := Lib.hid hub
                        clear hub
                        refine wpAnyH_take (i := 21) rfl (by kernel_rfl) (by kernel_rfl) (by kernel_rfl) (fun _ _ _ h => h) (Or.inl ⟨by kernel_rfl, (by intro w' _; go_simp; with_reducible rfl)⟩) hS7 ?_
                        go_simp
                        refine wpAnyH_take (i := 22) (v := .string ub) rfl (by kernel_rfl) (by kernel_rfl) (by kernel_rfl) (fun _ _ _ h => h) (Or.inl ⟨by kernel_rfl, (by intro w' hw'; have hcv := HCVB.out w' hw'.2.2.1; go_simp)⟩) hS7 ?_
                        go_simp
                        refine wpAnyH_ready (rs := [19]) (by kernel_rfl) (by simp) ?_
                        refine AllReadyH.cons rfl (fun K hK => ?_) AllReadyH.nil
                        go_simp
                        have hf_ := HFIT7.out
                        refine (bytesOf_calls z1 z2 z3 z4 z5 z6 a.neg a.num a.den c.neg c.num c.den A1 legs.length c1 A2 opts.length c2 A3 pays.length c3 legs opts pays w7 hf_.hz hf_.ha hf_.hc hf_.e1 hf_.e2 hf_.e3 hf_.r1 hf_.o1 hf_.r2 hf_.o2 hf_.r3 hf_.o3 hlim.1 hlim.2.1 hlim.2.2 T HTT.out).mono ?_
                        clear hf_ hlim
                        rintro e w8 ⟨AT, cT, rfl, hoT, hb⟩
                        have hS8 := hS7.next hb
                        have HZ8 := Lib.hid (blk_next HZ7.out hb)
                        have HO8 := Lib.hid (And.intro (own_below HO7.out.1 hb) (And.intro (own_below HO7.out.2.1 hb) (own_below HO7.out.2.2 hb)))
                        have HKT : Hid (KRd .u8 w8 w8.heap.size AT T) := KRd.of_own hoT
                        refine hK.out _ _ hS8 (fun _ => ?_)
                        clear hK K hb HFIT7 HZ7 HO7 hS7 hoT
                        by_cases hTb : T = b
                        · have HSO : Hid (decBy dNum dRat b = some (⟨z1, z2, z3, z4, z5, z6, a, c, legs, opts⟩, pays)) := HDB.out.trans (if_pos ⟨HBL.out, by rw [HLF.out], rfl, hTb⟩)
                          have hcv5 := conv_bytes (P := Tryd.prog) w8 w8.heap.size 22 9 5 AT T cT Tryd.underlying22 Tryd.underlying5 Tryd.underlying9 HKT.out HTB.out
                          rw [hTb] at hcv5
                          rw [← HUB.out] at hcv5
                          rw [hTb] at HKT ⊢
                          have hlT := congrArg List.length hTb
                          clear hTb
                          refine wpAnyH_ready (rs := [20]) (by kernel_rfl) (by simp) ?_
                          refine AllReadyH.cons rfl (fun K hK => ?_) AllReadyH.nil
                          go_simp
                          clear hcv5
                          refine hK.out _ _ hS8 (fun _ => ?_)
                          clear hK K
                          refine wpAnyH_take (i := 23) (v := .bool false) rfl (by kernel_rfl) (by kernel_rfl) (by kernel_rfl) (fun _ _ _ h => h) (Or.inl ⟨by kernel_rfl, (by intro w' _; go_simp)⟩) hS8 ?_
                          go_simp
                          refine wpAnyH_take (i := 24) (v := .bool false) rfl (by kernel_rfl) (by kernel_rfl) (by kernel_rfl) (fun _ _ _ h => h) (Or.inl ⟨by kernel_rfl, (by intro w' _; go_simp)⟩) hS8 ?_
                          go_simp
                          refine wpAnyH_done (by kernel_rfl) ?_ _
                          have hR5 := hS8.1
                          have hrc : w8.rangeAt qr 0 [.int .i64 z1, .int .i64 z2, .int .i64 z3, .int .i64 z4, .int .i64 z5, .int .i64 z6, .bool a.neg, .string a.num, .string a.den, .bool c.neg, .string c.num, .string c.den, .slice A1 legs.length c1, .slice A2 opts.length c2, .slice A3 pays.length c3] := fun j v hv => by
                            rw [Nat.zero_add, cell_of_row w8 qr j _ _ (0, 0) hR5, ← hv]; simp
                          have hZ := HZ8.out
                          unfold zeroRec at hZ
                          have htb := there_block (n := 15) hZ (by decide)
                          have HQ : Hid ((w8.setCells w.heap.size 0 [.int .i64 z1, .int .i64 z2, .int .i64 z3, .int .i64 z4, .int .i64 z5, .int .i64 z6, .bool a.neg, .string a.num, .string a.den, .bool c.neg, .string c.num, .string c.den, .slice A1 legs.length c1, .slice A2 opts.length c2, .slice A3 pays.length c3]).heap[w.heap.size]? = some (.cells #[.int .i64 z1, .int .i64 z2, .int .i64 z3, .int .i64 z4, .int .i64 z5, .int .i64 z6, .bool a.neg, .string a.num, .string a.den, .bool c.neg, .string c.num, .string c.den, .slice A1 legs.length c1, .slice A2 opts.length c2, .slice A3 pays.length c3] 37 (0, 0))) := setCells_whole hZ rfl
                          have HL5 := Lib.hid (And.intro (Rd.of_own (own_sets (vs := [.int .i64 z1, .int .i64 z2, .int .i64 z3, .int .i64 z4, .int .i64 z5, .int .i64 z6, .bool a.neg, .string a.num, .string a.den, .bool c.neg, .string c.num, .string c.den, .slice A1 legs.length c1, .slice A2 opts.length c2, .slice A3 pays.length c3]) HO8.out.1 hZ (by decide))) (And.intro (Rd.of_own (own_sets (vs := [.int .i64 z1, .int .i64 z2, .int .i64 z3, .int .i64 z4, .int .i64 z5, .int .i64 z6, .bool a.neg, .string a.num, .string a.den, .bool c.neg, .string c.num, .string c.den, .slice A1 legs.length c1, .slice A2 opts.length c2, .slice A3 pays.length c3]) HO8.out.2.1 hZ (by decide))) (Rd.of_own (own_sets (vs := [.int .i64 z1, .int .i64 z2, .int .i64 z3, .int .i64 z4, .int .i64 z5, .int .i64 z6, .bool a.neg, .string a.num, .string a.den, .bool c.neg, .string c.num, .string c.den, .slice A1 legs.length c1, .slice A2 opts.length c2, .slice A3 pays.length c3]) HO8.out.2.2 hZ (by decide)))))
                          have HB8 := Lib.hid hS8.2.2.2
                          clear hZ hR5 hS8
                          go_wp2_with (first | (refine wpList_load_mid rfl 37 (.tmp 5) rfl qr 0 rfl [.int .i64 z1, .int .i64 z2, .int .i64 z3, .int .i64 z4, .int .i64 z5, .int .i64 z6, .bool a.neg, .string a.num, .string a.den, .bool c.neg, .string c.num, .string c.den, .slice A1 legs.length c1, .slice A2 opts.length c2, .slice A3 pays.length c3] _ hrc Tryd.underlying37 rfl (by kernel_rfl) ?_) | (refine wpList_store_mid rfl 37 (.tmp 2) (.tmp 152) rfl w.heap.size 0 #[.int .i64 z1, .int .i64 z2, .int .i64 z3, .int .i64 z4, .int .i64 z5, .int .i64 z6, .bool a.neg, .string a.num, .string a.den, .bool c.neg, .string c.num, .string c.den, .slice A1 legs.length c1, .slice A2 opts.length c2, .slice A3 pays.length c3] rfl rfl htb (by kernel_rfl) (by simp [Value.oneCell']) ?_))
                          have v0_ : (w8.setCells w.heap.size 0 [.int .i64 z1, .int .i64 z2, .int .i64 z3, .int .i64 z4, .int .i64 z5, .int .i64 z6, .bool a.neg, .string a.num, .string a.den, .bool c.neg, .string c.num, .string c.den, .slice A1 legs.length c1, .slice A2 opts.length c2, .slice A3 pays.length c3]).cell? ⟨w.heap.size, 0, none⟩ = some (.int .i64 z1) := by rw [cell_of_row _ w.heap.size 0 _ _ (0, 0) HQ.out]; rfl
                          have v1_ : (w8.setCells w.heap.size 0 [.int .i64 z1, .int .i64 z2, .int .i64 z3, .int .i64 z4, .int .i64 z5, .int .i64 z6, .bool a.neg, .string a.num, .string a.den, .bool c.neg, .string c.num, .string c.den, .slice A1 legs.length c1, .slice A2 opts.length c2, .slice A3 pays.length c3]).cell? ⟨w.heap.size, 1, none⟩ = some (.int .i64 z2) := by rw [cell_of_row _ w.heap.size 1 _ _ (0, 0) HQ.out]; rfl
                          have v2_ : (w8.setCells w.heap.size 0 [.int .i64 z1, .int .i64 z2, .int .i64 z3, .int .i64 z4, .int .i64 z5, .int .i64 z6, .bool a.neg, .string a.num, .string a.den, .bool c.neg, .string c.num, .string c.den, .slice A1 legs.length c1, .slice A2 opts.length c2, .slice A3 pays.length c3]).cell? ⟨w.heap.size, 2, none⟩ = some (.int .i64 z3) := by rw [cell_of_row _ w.heap.size 2 _ _ (0, 0) HQ.out]; rfl
                          have v3_ : (w8.setCells w.heap.size 0 [.int .i64 z1, .int .i64 z2, .int .i64 z3, .int .i64 z4, .int .i64 z5, .int .i64 z6, .bool a.neg, .string a.num, .string a.den, .bool c.neg, .string c.num, .string c.den, .slice A1 legs.length c1, .slice A2 opts.length c2, .slice A3 pays.length c3]).cell? ⟨w.heap.size, 3, none⟩ = some (.int .i64 z4) := by rw [cell_of_row _ w.heap.size 3 _ _ (0, 0) HQ.out]; rfl
                          have v4_ : (w8.setCells w.heap.size 0 [.int .i64 z1, .int .i64 z2, .int .i64 z3, .int .i64 z4, .int .i64 z5, .int .i64 z6, .bool a.neg, .string a.num, .string a.den, .bool c.neg, .string c.num, .string c.den, .slice A1 legs.length c1, .slice A2 opts.length c2, .slice A3 pays.length c3]).cell? ⟨w.heap.size, 4, none⟩ = some (.int .i64 z5) := by rw [cell_of_row _ w.heap.size 4 _ _ (0, 0) HQ.out]; rfl
                          have v5_ : (w8.setCells w.heap.size 0 [.int .i64 z1, .int .i64 z2, .int .i64 z3, .int .i64 z4, .int .i64 z5, .int .i64 z6, .bool a.neg, .string a.num, .string a.den, .bool c.neg, .string c.num, .string c.den, .slice A1 legs.length c1, .slice A2 opts.length c2, .slice A3 pays.length c3]).cell? ⟨w.heap.size, 5, none⟩ = some (.int .i64 z6) := by rw [cell_of_row _ w.heap.size 5 _ _ (0, 0) HQ.out]; rfl
                          have v6_ : (w8.setCells w.heap.size 0 [.int .i64 z1, .int .i64 z2, .int .i64 z3, .int .i64 z4, .int .i64 z5, .int .i64 z6, .bool a.neg, .string a.num, .string a.den, .bool c.neg, .string c.num, .string c.den, .slice A1 legs.length c1, .slice A2 opts.length c2, .slice A3 pays.length c3]).cell? ⟨w.heap.size, 6, none⟩ = some (.bool a.neg) := by rw [cell_of_row _ w.heap.size 6 _ _ (0, 0) HQ.out]; rfl
                          have v7_ : (w8.setCells w.heap.size 0 [.int .i64 z1, .int .i64 z2, .int .i64 z3, .int .i64 z4, .int .i64 z5, .int .i64 z6, .bool a.neg, .string a.num, .string a.den, .bool c.neg, .string c.num, .string c.den, .slice A1 legs.length c1, .slice A2 opts.length c2, .slice A3 pays.length c3]).cell? ⟨w.heap.size, 7, none⟩ = some (.string a.num) := by rw [cell_of_row _ w.heap.size 7 _ _ (0, 0) HQ.out]; rfl
                          have v8_ : (w8.setCells w.heap.size 0 [.int .i64 z1, .int .i64 z2, .int .i64 z3, .int .i64 z4, .int .i64 z5, .int .i64 z6, .bool a.neg, .string a.num, .string a.den, .bool c.neg, .string c.num, .string c.den, .slice A1 legs.length c1, .slice A2 opts.length c2, .slice A3 pays.length c3]).cell? ⟨w.heap.size, 8, none⟩ = some (.string a.den) := by rw [cell_of_row _ w.heap.size 8 _ _ (0, 0) HQ.out]; rfl
                          have v9_ : (w8.setCells w.heap.size 0 [.int .i64 z1, .int .i64 z2, .int .i64 z3, .int .i64 z4, .int .i64 z5, .int .i64 z6, .bool a.neg, .string a.num, .string a.den, .bool c.neg, .string c.num, .string c.den, .slice A1 legs.length c1, .slice A2 opts.length c2, .slice A3 pays.length c3]).cell? ⟨w.heap.size, 9, none⟩ = some (.bool c.neg) := by rw [cell_of_row _ w.heap.size 9 _ _ (0, 0) HQ.out]; rfl
                          have v10_ : (w8.setCells w.heap.size 0 [.int .i64 z1, .int .i64 z2, .int .i64 z3, .int .i64 z4, .int .i64 z5, .int .i64 z6, .bool a.neg, .string a.num, .string a.den, .bool c.neg, .string c.num, .string c.den, .slice A1 legs.length c1, .slice A2 opts.length c2, .slice A3 pays.length c3]).cell? ⟨w.heap.size, 10, none⟩ = some (.string c.num) := by rw [cell_of_row _ w.heap.size 10 _ _ (0, 0) HQ.out]; rfl
                          have v11_ : (w8.setCells w.heap.size 0 [.int .i64 z1, .int .i64 z2, .int .i64 z3, .int .i64 z4, .int .i64 z5, .int .i64 z6, .bool a.neg, .string a.num, .string a.den, .bool c.neg, .string c.num, .string c.den, .slice A1 legs.length c1, .slice A2 opts.length c2, .slice A3 pays.length c3]).cell? ⟨w.heap.size, 11, none⟩ = some (.string c.den) := by rw [cell_of_row _ w.heap.size 11 _ _ (0, 0) HQ.out]; rfl
                          have v12_ : (w8.setCells w.heap.size 0 [.int .i64 z1, .int .i64 z2, .int .i64 z3, .int .i64 z4, .int .i64 z5, .int .i64 z6, .bool a.neg, .string a.num, .string a.den, .bool c.neg, .string c.num, .string c.den, .slice A1 legs.length c1, .slice A2 opts.length c2, .slice A3 pays.length c3]).cell? ⟨w.heap.size, 12, none⟩ = some (.slice A1 legs.length c1) := by rw [cell_of_row _ w.heap.size 12 _ _ (0, 0) HQ.out]; rfl
                          have v13_ : (w8.setCells w.heap.size 0 [.int .i64 z1, .int .i64 z2, .int .i64 z3, .int .i64 z4, .int .i64 z5, .int .i64 z6, .bool a.neg, .string a.num, .string a.den, .bool c.neg, .string c.num, .string c.den, .slice A1 legs.length c1, .slice A2 opts.length c2, .slice A3 pays.length c3]).cell? ⟨w.heap.size, 13, none⟩ = some (.slice A2 opts.length c2) := by rw [cell_of_row _ w.heap.size 13 _ _ (0, 0) HQ.out]; rfl
                          have v14_ : (w8.setCells w.heap.size 0 [.int .i64 z1, .int .i64 z2, .int .i64 z3, .int .i64 z4, .int .i64 z5, .int .i64 z6, .bool a.neg, .string a.num, .string a.den, .bool c.neg, .string c.num, .string c.den, .slice A1 legs.length c1, .slice A2 opts.length c2, .slice A3 pays.length c3]).cell? ⟨w.heap.size, 14, none⟩ = some (.slice A3 pays.length c3) := by rw [cell_of_row _ w.heap.size 14 _ _ (0, 0) HQ.out]; rfl
                          refine bodyPost_ret (v := .tuple #[.agg #[.int .i64 z1, .int .i64 z2, .int .i64 z3, .int .i64 z4, .int .i64 z5, .int .i64 z6, .bool a.neg, .string a.num, .string a.den, .bool c.neg, .string c.num, .string c.den, .slice A1 legs.length c1, .slice A2 opts.length c2, .slice A3 pays.length c3], .int .i64 0]) (by simp [results, Tryd.results26, go_sem, v0_, v1_, v2_, v3_, v4_, v5_, v6_, v7_, v8_, v9_, v10_, v11_, v12_, v13_, v14_]) rfl ?_
                          refine ⟨(fun h => by rw [HSO.out] at h; cases h), (fun r hr => ?_), below_setCells (Nat.le_refl _) _ 0 HB8.out⟩
                          rw [HSO.out] at hr
                          simp only [Option.some.injEq] at hr
                          subst hr
                          exact ⟨A1, c1, A2, c2, A3, c3, rfl, HL5.out.1, HL5.out.2.1, HL5.out.2.2⟩
                        · exact (hTb HCS.out.2.2).elim
                  · have h := HCS.out.1
                    simp at h

theorem dDecode_calls (A : Option Addr) (n cb : Nat) (b : List Nat) (w : World) (hn : n = b.length) (hr0 : KRd .u8 w w.heap.size A b) (hby : Byt b) (hnc : n ≤ cb) (hcm : cb ≤ maxLen) :
    Calls Tryd.prog 26 #[.slice A n cb] w (DecPost (decBy dNum dRat b) w) := by
  by_cases h1 : (rRec dNum dRat (b, false)).2 = ([], false)
  · by_cases h2 : recOk (rRec dNum dRat (b, false)).1 = true ∧ recT (rRec dNum dRat (b, false)).1 = b
    · exact dDecode_C A n cb b w hn hr0 hby hnc hcm ⟨h1, h2⟩
    · exact dDecode_B A n cb b w hn hr0 hby hnc hcm ⟨h1, h2⟩
  · exact dDecode_A A n cb b w hn hr0 hby hnc hcm h1

end Go.Proofs.YtcljkdjmmolfoaaDoor

/- insolvencylaw0.Record: what it builds; the first statement. -/
import Derived.Test.YtcljkdjmmolfoaaDoorSigned
import Derived.Test.YtcljkdjmmolfoaaDoorM11
import Derived.Test.YtcljkdjmmolfoaaDoorEdge0
import Derived.Deep.DeepCutAuto
import Derived.IntWalk
import Derived.Deep.MidRow
set_option linter.unusedVariables false
set_option linter.unusedSimpArgs false
namespace Go.Proofs.YtcljkdjmmolfoaaDoor
open Go.RowKit

def rqOf (q : Rat) : RQ := ⟨rneg q, rnum q, rden q⟩
def rqS (a : RQ) : Prop := ∃ q, Sz 8 q ∧ a = rqOf q
def i16b (x : Int) : Prop := -65536 ≤ x ∧ x ≤ 65536
structure RecSmall (zs : List Int) (a c : RQ) (legs : List (Int × Int)) (opts : List (RQ × Int)) (pays : List Pay) : Prop where
  z : ∀ x ∈ zs, i16b x
  a : rqS a
  c : rqS c
  l : legs.length ≤ 4
  lb : ∀ p ∈ legs, i16b p.1 ∧ i16b p.2
  o : opts.length ≤ 4
  ob : ∀ p ∈ opts, rqS p.1 ∧ i16b p.2
  p : pays.length ≤ 6
  pb : ∀ p ∈ pays, i16b p.debt ∧ i16b p.estate ∧ i16b p.claim ∧ i16b p.cents
theorem i16b.i64 {x : Int} (h : i16b x) : i64b x := by unfold i16b at h; unfold i64b; omega
theorem rqS.size {a : RQ} (h : rqS a) : a.num.size ≤ 5000 ∧ a.den.size ≤ 5000 := by
  obtain ⟨q, hq, rfl⟩ := h
  have e1 : (rnum q).size ≤ 8 := by
    show (ncan _).size ≤ 8
    rw [ncan_size]; exact canon_len_le hq.1
  have e2 : (rden q).size ≤ 8 := by
    unfold rden
    split
    · decide
    · rw [ncan_size]; exact canon_len_le hq.2
  exact ⟨Nat.le_trans e1 (by omega), Nat.le_trans e2 (by omega)⟩
theorem RecSmall.fit (z1 z2 z3 z4 z5 z6 : Int) (an : Bool) (as_ ad_ : ByteArray) (cn : Bool) (cs cd : ByteArray) (A1 : Option Addr) (n1 c1 : Nat) (A2 : Option Addr) (n2 c2 : Nat) (A3 : Option Addr) (n3 c3 : Nat) {legs : List (Int × Int)} {opts : List (RQ × Int)} {pays : List Pay} {w : World} (h : RecSmall [z1, z2, z3, z4, z5, z6] ⟨an, as_, ad_⟩ ⟨cn, cs, cd⟩ legs opts pays) (e1 : n1 = legs.length) (e2 : n2 = opts.length) (e3 : n3 = pays.length)
    (r1 : Rd w w.heap.size 2 A1 legs.length (legs.flatMap legV)) (r2 : Rd w w.heap.size 4 A2 opts.length (opts.flatMap optV)) (r3 : Rd w w.heap.size 4 A3 pays.length (pays.flatMap payV)) : RecFit z1 z2 z3 z4 z5 z6 an as_ ad_ cn cs cd A1 n1 c1 A2 n2 c2 A3 n3 c3 legs opts pays w := by
  have hm : (1000 : Nat) ≤ maxLen := by unfold maxLen; omega
  have h1 := h.l
  have h2 := h.o
  have h3 := h.p
  exact ⟨fun z hz => by have := (h.z z hz); unfold i16b at this; omega, h.a.size, h.c.size, e1, e2, e3, r1, fun p hp => ⟨(h.lb p hp).1.i64, (h.lb p hp).2.i64⟩, r2, fun p hp => ⟨(h.ob p hp).1.size, (h.ob p hp).2.i64⟩, r3, fun p hp => ⟨(h.pb p hp).1.i64, (h.pb p hp).2.1.i64, (h.pb p hp).2.2.1.i64, (h.pb p hp).2.2.2.i64⟩, by omega, by omega, by omega⟩
/-- behind the first statement -/
def RecMid (w : World) (a1 a2 a3 a4 a5 a6 : Int) (s : Value) (wx : World) : Prop :=
  ∃ g an as_ ad_ cn cs cd, s = .pointer (some ⟨g, 0, none⟩) ∧ RecS g a1 a2 a3 a4 a5 a6 an as_ ad_ cn cs cd none 0 0 none 0 0 none 0 0 wx ∧ RecS (w.heap.size + 2) 0 0 0 0 0 0 false ⟨#[]⟩ ⟨#[]⟩ false ⟨#[]⟩ ⟨#[]⟩ none 0 0 none 0 0 none 0 0 wx ∧ w.heap.size + 2 < g ∧ rqS ⟨an, as_, ad_⟩ ∧ rqS ⟨cn, cs, cd⟩ ∧ Below w.heap.size w wx
/-- the arrays of the call's own -/
def ArrS (q1 q2 q3 : Nat) (a1 a2 a3 a4 a5 a6 : Int) (m1 m2 : Nat) (W : World) : Prop :=
  W.heap[q1]? = some (.cells #[.int .i16 a1, .int .i16 a2, .int .i16 a3, .int .i16 a4, .int .i16 a5, .int .i16 a6] 39 (0, 0)) ∧ W.heap[q2]? = some (.cells #[.int .u16 (m1 : Int), .int .u16 (m2 : Int)] 40 (0, 0)) ∧ RecS q3 0 0 0 0 0 0 false ⟨#[]⟩ ⟨#[]⟩ false ⟨#[]⟩ ⟨#[]⟩ none 0 0 none 0 0 none 0 0 W
theorem ArrS.next {q1 q2 q3 : Nat} {a1 a2 a3 a4 a5 a6 : Int} {m1 m2 : Nat} {W W' : World} (h : ArrS q1 q2 q3 a1 a2 a3 a4 a5 a6 m1 m2 W) (hb : Below W.heap.size W W') : ArrS q1 q2 q3 a1 a2 a3 a4 a5 a6 m1 m2 W' := ⟨blk_next h.1 hb, blk_next h.2.1 hb, blk_next h.2.2 hb⟩
theorem ArrS.cells {q1 q2 q3 : Nat} {a1 a2 a3 a4 a5 a6 : Int} {m1 m2 : Nat} {W : World} (h : ArrS q1 q2 q3 a1 a2 a3 a4 a5 a6 m1 m2 W) : W.cell? ⟨q1, 0, none⟩ = some (.int .i16 a1) ∧ W.cell? ⟨q1, 1, none⟩ = some (.int .i16 a2) ∧ W.cell? ⟨q1, 2, none⟩ = some (.int .i16 a3) ∧ W.cell? ⟨q1, 3, none⟩ = some (.int .i16 a4) ∧ W.cell? ⟨q1, 4, none⟩ = some (.int .i16 a5) ∧ W.cell? ⟨q1, 5, none⟩ = some (.int .i16 a6) ∧ W.cell? ⟨q2, 0, none⟩ = some (.int .u16 (m1 : Int)) ∧ W.cell? ⟨q2, 1, none⟩ = some (.int .u16 (m2 : Int)) := by
  refine ⟨?_, ?_, ?_, ?_, ?_, ?_, ?_, ?_⟩
  · rw [cell_of_row W q1 0 _ _ (0, 0) h.1]; rfl
  · rw [cell_of_row W q1 1 _ _ (0, 0) h.1]; rfl
  · rw [cell_of_row W q1 2 _ _ (0, 0) h.1]; rfl
  · rw [cell_of_row W q1 3 _ _ (0, 0) h.1]; rfl
  · rw [cell_of_row W q1 4 _ _ (0, 0) h.1]; rfl
  · rw [cell_of_row W q1 5 _ _ (0, 0) h.1]; rfl
  · rw [cell_of_row W q2 0 _ _ (0, 0) h.2.1]; rfl
  · rw [cell_of_row W q2 1 _ _ (0, 0) h.2.1]; rfl
theorem ArrS.set {q1 q2 q3 g j : Nat} {a1 a2 a3 a4 a5 a6 : Int} {m1 m2 : Nat} {W : World} {u : Value} (h : ArrS q1 q2 q3 a1 a2 a3 a4 a5 a6 m1 m2 W) (n1 : q1 ≠ g) (n2 : q2 ≠ g) (n3 : q3 ≠ g) : ArrS q1 q2 q3 a1 a2 a3 a4 a5 a6 m1 m2 (W.setCell ⟨g, j, none⟩ u) :=
  ⟨(heap_setCell_other W ⟨g, j, none⟩ _ u n1).trans h.1, (heap_setCell_other W ⟨g, j, none⟩ _ u n2).trans h.2.1, (heap_setCell_other W ⟨g, j, none⟩ _ u n3).trans h.2.2⟩
theorem RecS.frozen {q : Nat} {W : World} (z1 z2 z3 z4 z5 z6 : Int) (an : Bool) (as_ ad_ : ByteArray) (cn : Bool) (cs cd : ByteArray) (A1 : Option Addr) (n1 c1 : Nat) (A2 : Option Addr) (n2 c2 : Nat) (A3 : Option Addr) (n3 c3 : Nat) (h : RecS q z1 z2 z3 z4 z5 z6 an as_ ad_ cn cs cd A1 n1 c1 A2 n2 c2 A3 n3 c3 W) (j : Nat) : W.frozen? ⟨q, j, none⟩ = false := frozen_of_row W q j _ _ h
theorem RecS.lt {q : Nat} {W : World} (z1 z2 z3 z4 z5 z6 : Int) (an : Bool) (as_ ad_ : ByteArray) (cn : Bool) (cs cd : ByteArray) (A1 : Option Addr) (n1 c1 : Nat) (A2 : Option Addr) (n2 c2 : Nat) (A3 : Option Addr) (n3 c3 : Nat) (h : RecS q z1 z2 z3 z4 z5 z6 an as_ ad_ cn cs cd A1 n1 c1 A2 n2 c2 A3 n3 c3 W) : q < W.heap.size := (Array.getElem?_eq_some_iff.1 h).1
theorem RecS.setO {q g j : Nat} {W : World} {u : Value} (z1 z2 z3 z4 z5 z6 : Int) (an : Bool) (as_ ad_ : ByteArray) (cn : Bool) (cs cd : ByteArray) (A1 : Option Addr) (n1 c1 : Nat) (A2 : Option Addr) (n2 c2 : Nat) (A3 : Option Addr) (n3 c3 : Nat) (h : RecS q z1 z2 z3 z4 z5 z6 an as_ ad_ cn cs cd A1 n1 c1 A2 n2 c2 A3 n3 c3 W) (hn : q ≠ g) : RecS q z1 z2 z3 z4 z5 z6 an as_ ad_ cn cs cd A1 n1 c1 A2 n2 c2 A3 n3 c3 (W.setCell ⟨g, j, none⟩ u) := (heap_setCell_other W ⟨g, j, none⟩ _ u hn).trans h
theorem setCells_other (g b : Nat) (hn : g ≠ b) : ∀ (vs : List Value) (o : Nat) (W : World), (W.setCells b o vs).heap[g]? = W.heap[g]?
  | [], _, _ => rfl
  | v :: r, o, W => by rw [World.setCells, setCells_other g b hn r (o + 1)]; exact heap_setCell_other W ⟨b, o, none⟩ g v hn
theorem setCells_same (b : Nat) (T : TypeId) : ∀ (vs : List Value) (o : Nat) (W : World) (cur : Array Value), W.heap[b]? = some (.cells cur T (0, 0)) → o + vs.length ≤ cur.size →
    ∃ c2 : Array Value, (W.setCells b o vs).heap[b]? = some (.cells c2 T (0, 0)) ∧ c2.size = cur.size ∧ (∀ j, j < o → c2[j]? = cur[j]?) ∧ (∀ j, j < vs.length → c2[o + j]? = vs[j]?)
  | [], o, W, cur, h, _ => ⟨cur, h, rfl, fun _ _ => rfl, fun j hj => by simp at hj⟩
  | v :: r, o, W, cur, h, hl => by
    simp only [List.length_cons] at hl
    obtain ⟨c2, h1, h2, h3, h4⟩ := setCells_same b T r (o + 1) (W.setCell ⟨b, o, none⟩ v) (cur.setIfInBounds o v) (heap_setCell_same W b o cur T v h) (by simp; omega)
    refine ⟨c2, by rw [World.setCells]; exact h1, by rw [h2]; simp, fun j hj => ?_, fun j hj => ?_⟩
    · rw [h3 j (by omega), Array.getElem?_setIfInBounds, if_neg (by omega)]
    · cases j with
      | zero =>
        rw [Nat.add_zero, h3 o (by omega), Array.getElem?_setIfInBounds, if_pos rfl, if_pos (by omega)]; rfl
      | succ j =>
        have := h4 j (by simpa using hj)
        rw [show o + (j + 1) = o + 1 + j by omega, this]; rfl
theorem setCells_whole {b : Nat} {T : TypeId} {vs : List Value} {W : World} {cur : Array Value} (h : W.heap[b]? = some (.cells cur T (0, 0))) (hl : vs.length = cur.size) : (W.setCells b 0 vs).heap[b]? = some (.cells vs.toArray T (0, 0)) := by
  obtain ⟨c2, h1, h2, _, h4⟩ := setCells_same b T vs 0 W cur h (by omega)
  rw [h1]
  congr 2
  apply Array.ext_getElem?
  intro j
  by_cases hj : j < vs.length
  · have := h4 j hj
    rw [Nat.zero_add] at this
    rw [this]; simp
  · rw [Array.getElem?_eq_none (by omega), Array.getElem?_eq_none (by simp; omega)]
theorem below_setCells {B b : Nat} (hb : B ≤ b) : ∀ (vs : List Value) (o : Nat) {w W : World}, Below B w W → Below B w (W.setCells b o vs)
  | [], _, _, _, h => h
  | v :: r, o, w, W, h => by rw [World.setCells]; exact below_setCells hb r (o + 1) (h.setCell hb v)
theorem there_block {W : World} {b n : Nat} {cur : Array Value} {T : TypeId} (h : W.heap[b]? = some (.cells cur T (0, 0))) (hn : n ≤ cur.size) : W.there b 0 n := fun j hj => by
  rw [Nat.zero_add]
  refine ⟨?_, frozen_of_row W b j _ _ h⟩
  rw [cell_of_row W b j cur T (0, 0) h, Array.getElem?_eq_getElem (by omega)]; rfl
theorem ArrS.sets {q1 q2 q3 g : Nat} {a1 a2 a3 a4 a5 a6 : Int} {m1 m2 : Nat} {W : World} {vs : List Value} (h : ArrS q1 q2 q3 a1 a2 a3 a4 a5 a6 m1 m2 W) (n1 : q1 ≠ g) (n2 : q2 ≠ g) (n3 : q3 ≠ g) : ArrS q1 q2 q3 a1 a2 a3 a4 a5 a6 m1 m2 (W.setCells g 0 vs) :=
  ⟨(setCells_other _ _ n1 vs 0 W).trans h.1, (setCells_other _ _ n2 vs 0 W).trans h.2.1, (setCells_other _ _ n3 vs 0 W).trans h.2.2⟩

theorem arr_new (w : World) (a1 a2 a3 a4 a5 a6 : Int) (m1 m2 : Nat) : ArrS w.heap.size (w.heap.size + 1) (w.heap.size + 2) a1 a2 a3 a4 a5 a6 m1 m2 (((w.alloc (.cells #[.int .i16 a1, .int .i16 a2, .int .i16 a3, .int .i16 a4, .int .i16 a5, .int .i16 a6] 39)).alloc (.cells #[.int .u16 (m1 : Int), .int .u16 (m2 : Int)] 40)).alloc (.cells #[.int .i64 0, .int .i64 0, .int .i64 0, .int .i64 0, .int .i64 0, .int .i64 0, .bool false, .string ⟨#[]⟩, .string ⟨#[]⟩, .bool false, .string ⟨#[]⟩, .string ⟨#[]⟩, .slice none 0 0, .slice none 0 0, .slice none 0 0] 37)).drew := by
  obtain ⟨wa, ha⟩ : ∃ wa, wa = w.alloc (.cells #[.int .i16 a1, .int .i16 a2, .int .i16 a3, .int .i16 a4, .int .i16 a5, .int .i16 a6] 39) := ⟨_, rfl⟩
  have sa : wa.heap.size = w.heap.size + 1 := by rw [ha, World.size_alloc]
  have ka := blk_new w (.cells #[.int .i16 a1, .int .i16 a2, .int .i16 a3, .int .i16 a4, .int .i16 a5, .int .i16 a6] 39)
  rw [← ha] at ka ⊢
  obtain ⟨wb, hb⟩ : ∃ wb, wb = wa.alloc (.cells #[.int .u16 (m1 : Int), .int .u16 (m2 : Int)] 40) := ⟨_, rfl⟩
  have sb : wb.heap.size = w.heap.size + 2 := by rw [hb, World.size_alloc, sa]
  have kb := blk_new wa (.cells #[.int .u16 (m1 : Int), .int .u16 (m2 : Int)] 40)
  have ka2 := blk_alloc (o' := (.cells #[.int .u16 (m1 : Int), .int .u16 (m2 : Int)] 40)) ka
  rw [← hb, sa] at kb
  rw [← hb] at ka2 ⊢
  have kc := blk_new wb (.cells #[.int .i64 0, .int .i64 0, .int .i64 0, .int .i64 0, .int .i64 0, .int .i64 0, .bool false, .string ⟨#[]⟩, .string ⟨#[]⟩, .bool false, .string ⟨#[]⟩, .string ⟨#[]⟩, .slice none 0 0, .slice none 0 0, .slice none 0 0] 37)
  rw [sb] at kc
  exact ⟨blk_alloc ka2, blk_alloc kb, kc⟩

end Go.Proofs.YtcljkdjmmolfoaaDoor

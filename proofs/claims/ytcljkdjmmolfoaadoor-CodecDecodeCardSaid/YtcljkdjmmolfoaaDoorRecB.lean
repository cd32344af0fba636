/- insolvencylaw0.Record: its loops. -/
import Derived.Test.YtcljkdjmmolfoaaDoorRecA
import Derived.Test.YtcljkdjmmolfoaaDoorDecRec
set_option linter.unusedVariables false
set_option linter.unusedSimpArgs false
namespace Go.Proofs.YtcljkdjmmolfoaaDoor
open Go.RowKit

theorem own_tneT {W : World} {B n g S : Nat} {v : Value} {xs : List Value} {T E : TypeId} {c : Array Value} {f : Nat × Nat} (h : W.ownsRow B E S v n xs) (hg : W.heap[g]? = some (.cells c T f)) (hT : T ≠ E) : some g ≠ v.ownBlock := by
  intro e
  rcases h.2 with ⟨rfl, _⟩ | ⟨g', cap, cur, rfl, _, hgg, _⟩
  · simp [Value.ownBlock] at e
  · simp only [Value.ownBlock, Option.some.injEq] at e
    subst e
    rw [hg] at hgg
    simp only [Option.some.injEq, Obj.cells.injEq] at hgg
    exact hT hgg.2.1
theorem blk_grown {W W' : World} {B n g S : Nat} {v : Value} {xs : List Value} {T E : TypeId} {c : Array Value} {f : Nat × Nat} (h : W.ownsRow B E S v n xs) (hg : W.heap[g]? = some (.cells c T f)) (hT : T ≠ E) (hgr : W.grownBy W' v.ownBlock) : W'.heap[g]? = some (.cells c T f) :=
  (hgr.block g (Array.getElem?_eq_some_iff.1 hg).1 (own_tneT h hg hT)).trans hg
/-- an owned row of another type is kept by an append -/
theorem own_grown {W W' : World} {B B2 n n2 S S2 : Nat} {v v2 : Value} {xs xs2 : List Value} {E E2 : TypeId} (h : W.ownsRow B E S v n xs) (h2 : W.ownsRow B2 E2 S2 v2 n2 xs2) (hT : E2 ≠ E) (hgr : W.grownBy W' v.ownBlock) : W'.ownsRow B2 E2 S2 v2 n2 xs2 := by
  refine ⟨h2.1, ?_⟩
  rcases h2.2 with hn | ⟨g, cap, cur, rfl, hb2, hgg, rest⟩
  · exact .inl hn
  · refine .inr ⟨g, cap, cur, rfl, hb2, ?_, rest⟩
    exact blk_grown h hgg hT hgr
/-- .. and by a store into a block of another type -/
theorem own_set {W : World} {B2 n2 S2 q j : Nat} {v2 u : Value} {xs2 : List Value} {E2 T : TypeId} {c : Array Value} {f : Nat × Nat} (h2 : W.ownsRow B2 E2 S2 v2 n2 xs2) (hq : W.heap[q]? = some (.cells c T f)) (hT : T ≠ E2) : (W.setCell ⟨q, j, none⟩ u).ownsRow B2 E2 S2 v2 n2 xs2 := by
  refine ⟨h2.1, ?_⟩
  rcases h2.2 with hn | ⟨g, cap, cur, rfl, hb2, hgg, rest⟩
  · exact .inl hn
  · refine .inr ⟨g, cap, cur, rfl, hb2, ?_, rest⟩
    have hne : g ≠ q := fun e => by
      subst e
      rw [hq] at hgg
      simp only [Option.some.injEq, Obj.cells.injEq] at hgg
      exact hT hgg.2.1
    exact (heap_setCell_other W ⟨q, j, none⟩ g u hne).trans hgg
/-- two cells side by side -/
def PairS (b o : Nat) (u v : Value) (W : World) : Prop := b < W.heap.size ∧ W.cell? ⟨b, o, none⟩ = some u ∧ W.cell? ⟨b, o + 1, none⟩ = some v
theorem PairS.next {b o : Nat} {u v : Value} {W W' : World} (h : PairS b o u v W) (hb : Below W.heap.size W W') : PairS b o u v W' :=
  ⟨Nat.lt_of_lt_of_le h.1 hb.size, (hb.cell (p := ⟨b, o, none⟩) h.1).trans h.2.1, (hb.cell (p := ⟨b, o + 1, none⟩) h.1).trans h.2.2⟩
theorem PairS.far {b o q j : Nat} {u v x : Value} {W : World} (h : PairS b o u v W) (hn : b ≠ q) : PairS b o u v (W.setCell ⟨q, j, none⟩ x) :=
  ⟨by simpa using h.1, (World.cell?_setCell_far W _ _ x (Ne.symm hn)).trans h.2.1, (World.cell?_setCell_far W _ _ x (Ne.symm hn)).trans h.2.2⟩
theorem PairS.grown {b o B : Nat} {u v : Value} {W W' : World} {row : Option Nat} (h : PairS b o u v W) (hg : W.grownBy W' row) (hr : ∀ q, row = some q → B ≤ q) (hb : b < B) : PairS b o u v W' := by
  have hne : some b ≠ row := fun e => by have := hr b e.symm; omega
  exact ⟨Nat.lt_of_lt_of_le h.1 hg.size, (hg.cell_far ⟨b, o, none⟩ h.1 hne).trans h.2.1, (hg.cell_far ⟨b, o + 1, none⟩ h.1 hne).trans h.2.2⟩
theorem Tryd.rec_info_leg : (Tryd.prog.info? 49).map (fun i => (i.zero, i.size, i.bytes)) = some (some (.agg #[.int .i64 0, .int .i64 0]), 2, 16) := by kernel_rfl
theorem Tryd.rec_info_opt : (Tryd.prog.info? 51).map (fun i => (i.zero, i.size, i.bytes)) = some (some (.agg #[.bool false, .string ⟨#[]⟩, .string ⟨#[]⟩, .int .i64 0]), 4, 48) := by kernel_rfl
theorem Tryd.rec_info_pay : (Tryd.prog.info? 55).map (fun i => (i.zero, i.size, i.bytes)) = some (some (.agg #[.int .i64 0, .int .i64 0, .int .i64 0, .int .i64 0]), 4, 32) := by kernel_rfl

theorem RecS.set12 {g : Nat} {W : World} (z1 z2 z3 z4 z5 z6 : Int) (an : Bool) (as_ ad_ : ByteArray) (cn : Bool) (cs cd : ByteArray) (A1 : Option Addr) (n1 c1 : Nat) (A2 : Option Addr) (n2 c2 : Nat) (A3 : Option Addr) (n3 c3 : Nat) (h : RecS g z1 z2 z3 z4 z5 z6 an as_ ad_ cn cs cd A1 n1 c1 A2 n2 c2 A3 n3 c3 W) (A' : Option Addr) (n' c' : Nat) : RecS g z1 z2 z3 z4 z5 z6 an as_ ad_ cn cs cd A' n' c' A2 n2 c2 A3 n3 c3 (W.setCell ⟨g, 12, none⟩ (.slice A' n' c')) := heap_setCell_same W g 12 _ _ _ h
theorem RecS.set13 {g : Nat} {W : World} (z1 z2 z3 z4 z5 z6 : Int) (an : Bool) (as_ ad_ : ByteArray) (cn : Bool) (cs cd : ByteArray) (A1 : Option Addr) (n1 c1 : Nat) (A2 : Option Addr) (n2 c2 : Nat) (A3 : Option Addr) (n3 c3 : Nat) (h : RecS g z1 z2 z3 z4 z5 z6 an as_ ad_ cn cs cd A1 n1 c1 A2 n2 c2 A3 n3 c3 W) (A' : Option Addr) (n' c' : Nat) : RecS g z1 z2 z3 z4 z5 z6 an as_ ad_ cn cs cd A1 n1 c1 A' n' c' A3 n3 c3 (W.setCell ⟨g, 13, none⟩ (.slice A' n' c')) := heap_setCell_same W g 13 _ _ _ h
theorem RecS.set14 {g : Nat} {W : World} (z1 z2 z3 z4 z5 z6 : Int) (an : Bool) (as_ ad_ : ByteArray) (cn : Bool) (cs cd : ByteArray) (A1 : Option Addr) (n1 c1 : Nat) (A2 : Option Addr) (n2 c2 : Nat) (A3 : Option Addr) (n3 c3 : Nat) (h : RecS g z1 z2 z3 z4 z5 z6 an as_ ad_ cn cs cd A1 n1 c1 A2 n2 c2 A3 n3 c3 W) (A' : Option Addr) (n' c' : Nat) : RecS g z1 z2 z3 z4 z5 z6 an as_ ad_ cn cs cd A1 n1 c1 A2 n2 c2 A' n' c' (W.setCell ⟨g, 14, none⟩ (.slice A' n' c')) := heap_setCell_same W g 14 _ _ _ h
theorem RecS.cell12 {g : Nat} {W : World} (z1 z2 z3 z4 z5 z6 : Int) (an : Bool) (as_ ad_ : ByteArray) (cn : Bool) (cs cd : ByteArray) (A1 : Option Addr) (n1 c1 : Nat) (A2 : Option Addr) (n2 c2 : Nat) (A3 : Option Addr) (n3 c3 : Nat) (h : RecS g z1 z2 z3 z4 z5 z6 an as_ ad_ cn cs cd A1 n1 c1 A2 n2 c2 A3 n3 c3 W) : W.cell? ⟨g, 12, none⟩ = some (.slice A1 n1 c1) ∧ W.cell? ⟨g, 13, none⟩ = some (.slice A2 n2 c2) ∧ W.cell? ⟨g, 14, none⟩ = some (.slice A3 n3 c3) := by
  refine ⟨?_, ?_, ?_⟩
  · rw [cell_of_row W g 12 _ _ (0, 0) h]; rfl
  · rw [cell_of_row W g 13 _ _ (0, 0) h]; rfl
  · rw [cell_of_row W g 14 _ _ (0, 0) h]; rfl
theorem flat_snocL {α : Type} (f : α → List Value) (l : List α) (x : α) : l.flatMap f ++ f x = (l ++ [x]).flatMap f := by simp
theorem mem_snoc {α : Type} {P : α → Prop} {l : List α} {x : α} (h : ∀ p ∈ l, P p) (hx : P x) : ∀ p ∈ l ++ [x], P p := fun p hp => by
  rcases List.mem_append.1 hp with hp | hp
  · exact h p hp
  · rw [List.mem_singleton.1 hp]; exact hx

/-- the record under construction, the result's block, the three owned lists -/
structure RecI (w : World) (g B : Nat) (a1 a2 a3 a4 a5 a6 : Int) (an : Bool) (as_ ad_ : ByteArray) (cn : Bool) (cs cd : ByteArray) (A1 : Option Addr) (c1 : Nat) (legs : List (Int × Int)) (A2 : Option Addr) (c2 : Nat) (opts : List (RQ × Int)) (A3 : Option Addr) (c3 : Nat) (pays : List Pay) (W : World) : Prop where
  r : RecS g a1 a2 a3 a4 a5 a6 an as_ ad_ cn cs cd A1 legs.length c1 A2 opts.length c2 A3 pays.length c3 W
  z : RecS (w.heap.size + 2) 0 0 0 0 0 0 false ⟨#[]⟩ ⟨#[]⟩ false ⟨#[]⟩ ⟨#[]⟩ none 0 0 none 0 0 none 0 0 W
  l : W.ownsRow B 49 2 (.slice A1 legs.length c1) legs.length (legs.flatMap legV)
  o : W.ownsRow B 51 4 (.slice A2 opts.length c2) opts.length (opts.flatMap optV)
  p : W.ownsRow B 55 4 (.slice A3 pays.length c3) pays.length (pays.flatMap payV)
  b : Below w.heap.size w W
  s : B ≤ W.heap.size
  ll : legs.length ≤ 4
  lb : ∀ p ∈ legs, i16b p.1 ∧ i16b p.2
  ol : opts.length ≤ 4
  ob : ∀ p ∈ opts, rqS p.1 ∧ i16b p.2
  pl : pays.length ≤ 6
  pb : ∀ p ∈ pays, i16b p.debt ∧ i16b p.estate ∧ i16b p.claim ∧ i16b p.cents

section
variable {w : World} {g B : Nat} {a1 a2 a3 a4 a5 a6 : Int} {an : Bool} {as_ ad_ : ByteArray} {cn : Bool} {cs cd : ByteArray} {A1 : Option Addr} {c1 : Nat} {legs : List (Int × Int)} {A2 : Option Addr} {c2 : Nat} {opts : List (RQ × Int)} {A3 : Option Addr} {c3 : Nat} {pays : List Pay} {W W' : World}
theorem RecI.next (h : RecI w g B a1 a2 a3 a4 a5 a6 an as_ ad_ cn cs cd A1 c1 legs A2 c2 opts A3 c3 pays W) (hb : Below W.heap.size W W') : RecI w g B a1 a2 a3 a4 a5 a6 an as_ ad_ cn cs cd A1 c1 legs A2 c2 opts A3 c3 pays W' :=
  ⟨blk_next h.r hb, blk_next h.z hb, own_below h.l hb, own_below h.o hb, own_below h.p hb, h.b.trans (hb.mono h.b.size), Nat.le_trans h.s hb.size, h.ll, h.lb, h.ol, h.ob, h.pl, h.pb⟩
theorem RecI.drew (h : RecI w g B a1 a2 a3 a4 a5 a6 an as_ ad_ cn cs cd A1 c1 legs A2 c2 opts A3 c3 pays W) : RecI w g B a1 a2 a3 a4 a5 a6 an as_ ad_ cn cs cd A1 c1 legs A2 c2 opts A3 c3 pays W.drew := ⟨h.r, h.z, h.l, h.o, h.p, h.b.drew, h.s, h.ll, h.lb, h.ol, h.ob, h.pl, h.pb⟩
/-- behind an append to the legs and the store of the slice -/
theorem RecI.leg (h : RecI w g B a1 a2 a3 a4 a5 a6 an as_ ad_ cn cs cd A1 c1 legs A2 c2 opts A3 c3 pays W) (hwB : w.heap.size ≤ B) (hgw : w.heap.size + 2 < g) {g' cap : Nat} {x y : Int} (hx : i16b x) (hy : i16b y) (hl : legs.length < 4)
    (hown : W'.ownsRow B 49 2 (.slice (some ⟨g', 0, none⟩) (legs.length + 1) cap) (legs.length + 1) (legs.flatMap legV ++ [.int .i64 x, .int .i64 y])) (hgr : W.grownBy W' (Value.slice A1 legs.length c1).ownBlock) :
    RecI w g B a1 a2 a3 a4 a5 a6 an as_ ad_ cn cs cd (some ⟨g', 0, none⟩) cap (legs ++ [(x, y)]) A2 c2 opts A3 c3 pays (W'.setCell ⟨g, 12, none⟩ (.slice (some ⟨g', 0, none⟩) (legs.length + 1) cap)) := by
  have hg1 := blk_grown h.l h.r (by decide) hgr
  have hz1 := blk_grown h.l h.z (by decide) hgr
  have e : (legs ++ [(x, y)]).length = legs.length + 1 := by simp
  have hr : RecS g a1 a2 a3 a4 a5 a6 an as_ ad_ cn cs cd A1 legs.length c1 A2 opts.length c2 A3 pays.length c3 W' := hg1
  refine ⟨?_, ?_, ?_, ?_, ?_, ?_, ?_, by omega, mem_snoc h.lb ⟨hx, hy⟩, h.ol, h.ob, h.pl, h.pb⟩
  · rw [e]; exact hr.set12 _ _ _ _ _ _ _ _ _ _ _ _ _ _ _ _ _ _ _ _ _ (some ⟨g', 0, none⟩) (legs.length + 1) cap
  · exact (heap_setCell_other W' ⟨g, 12, none⟩ _ _ (by show w.heap.size + 2 ≠ g; omega)).trans hz1
  · rw [e, ← flat_snocL]; exact own_set hown hg1 (by decide)
  · exact own_set (own_grown h.l h.o (by decide) hgr) hg1 (by decide)
  · exact own_set (own_grown h.l h.p (by decide) hgr) hg1 (by decide)
  · exact (Below.grown h.b hgr (Nat.le_trans hwB h.s) (fun q hq => Nat.le_trans hwB (h.l.lt q hq).1)).setCell (by show w.heap.size ≤ g; omega) _
  · rw [show (W'.setCell ⟨g, 12, none⟩ (.slice (some ⟨g', 0, none⟩) (legs.length + 1) cap)).heap.size = W'.heap.size by simp]; exact Nat.le_trans h.s hgr.size
theorem RecI.opt (h : RecI w g B a1 a2 a3 a4 a5 a6 an as_ ad_ cn cs cd A1 c1 legs A2 c2 opts A3 c3 pays W) (hwB : w.heap.size ≤ B) (hgw : w.heap.size + 2 < g) {g' cap : Nat} {q : RQ} {y : Int} (hx : rqS q) (hy : i16b y) (hl : opts.length < 4)
    (hown : W'.ownsRow B 51 4 (.slice (some ⟨g', 0, none⟩) (opts.length + 1) cap) (opts.length + 1) (opts.flatMap optV ++ [.bool q.neg, .string q.num, .string q.den, .int .i64 y])) (hgr : W.grownBy W' (Value.slice A2 opts.length c2).ownBlock) :
    RecI w g B a1 a2 a3 a4 a5 a6 an as_ ad_ cn cs cd A1 c1 legs (some ⟨g', 0, none⟩) cap (opts ++ [(q, y)]) A3 c3 pays (W'.setCell ⟨g, 13, none⟩ (.slice (some ⟨g', 0, none⟩) (opts.length + 1) cap)) := by
  have hg1 := blk_grown h.o h.r (by decide) hgr
  have hz1 := blk_grown h.o h.z (by decide) hgr
  have e : (opts ++ [(q, y)]).length = opts.length + 1 := by simp
  have hr : RecS g a1 a2 a3 a4 a5 a6 an as_ ad_ cn cs cd A1 legs.length c1 A2 opts.length c2 A3 pays.length c3 W' := hg1
  refine ⟨?_, ?_, ?_, ?_, ?_, ?_, ?_, h.ll, h.lb, by omega, mem_snoc h.ob ⟨hx, hy⟩, h.pl, h.pb⟩
  · rw [e]; exact hr.set13 _ _ _ _ _ _ _ _ _ _ _ _ _ _ _ _ _ _ _ _ _ (some ⟨g', 0, none⟩) (opts.length + 1) cap
  · exact (heap_setCell_other W' ⟨g, 13, none⟩ _ _ (by show w.heap.size + 2 ≠ g; omega)).trans hz1
  · exact own_set (own_grown h.o h.l (by decide) hgr) hg1 (by decide)
  · rw [e, ← flat_snocL]; exact own_set hown hg1 (by decide)
  · exact own_set (own_grown h.o h.p (by decide) hgr) hg1 (by decide)
  · exact (Below.grown h.b hgr (Nat.le_trans hwB h.s) (fun q hq => Nat.le_trans hwB (h.o.lt q hq).1)).setCell (by show w.heap.size ≤ g; omega) _
  · rw [show (W'.setCell ⟨g, 13, none⟩ (.slice (some ⟨g', 0, none⟩) (opts.length + 1) cap)).heap.size = W'.heap.size by simp]; exact Nat.le_trans h.s hgr.size
theorem RecI.pay (h : RecI w g B a1 a2 a3 a4 a5 a6 an as_ ad_ cn cs cd A1 c1 legs A2 c2 opts A3 c3 pays W) (hwB : w.heap.size ≤ B) (hgw : w.heap.size + 2 < g) {g' cap : Nat} {x y u v : Int} (hx : i16b x) (hy : i16b y) (hu : i16b u) (hv : i16b v) (hl : pays.length < 6)
    (hown : W'.ownsRow B 55 4 (.slice (some ⟨g', 0, none⟩) (pays.length + 1) cap) (pays.length + 1) (pays.flatMap payV ++ [.int .i64 x, .int .i64 y, .int .i64 u, .int .i64 v])) (hgr : W.grownBy W' (Value.slice A3 pays.length c3).ownBlock) :
    RecI w g B a1 a2 a3 a4 a5 a6 an as_ ad_ cn cs cd A1 c1 legs A2 c2 opts (some ⟨g', 0, none⟩) cap (pays ++ [⟨x, y, u, v⟩]) (W'.setCell ⟨g, 14, none⟩ (.slice (some ⟨g', 0, none⟩) (pays.length + 1) cap)) := by
  have hg1 := blk_grown h.p h.r (by decide) hgr
  have hz1 := blk_grown h.p h.z (by decide) hgr
  have e : (pays ++ [(⟨x, y, u, v⟩ : Pay)]).length = pays.length + 1 := by simp
  have hr : RecS g a1 a2 a3 a4 a5 a6 an as_ ad_ cn cs cd A1 legs.length c1 A2 opts.length c2 A3 pays.length c3 W' := hg1
  refine ⟨?_, ?_, ?_, ?_, ?_, ?_, ?_, h.ll, h.lb, h.ol, h.ob, by omega, mem_snoc h.pb ⟨hx, hy, hu, hv⟩⟩
  · rw [e]; exact hr.set14 _ _ _ _ _ _ _ _ _ _ _ _ _ _ _ _ _ _ _ _ _ (some ⟨g', 0, none⟩) (pays.length + 1) cap
  · exact (heap_setCell_other W' ⟨g, 14, none⟩ _ _ (by show w.heap.size + 2 ≠ g; omega)).trans hz1
  · exact own_set (own_grown h.p h.l (by decide) hgr) hg1 (by decide)
  · exact own_set (own_grown h.p h.o (by decide) hgr) hg1 (by decide)
  · rw [e, ← flat_snocL]; exact own_set hown hg1 (by decide)
  · exact (Below.grown h.b hgr (Nat.le_trans hwB h.s) (fun q hq => Nat.le_trans hwB (h.p.lt q hq).1)).setCell (by show w.heap.size ≤ g; omega) _
  · rw [show (W'.setCell ⟨g, 14, none⟩ (.slice (some ⟨g', 0, none⟩) (pays.length + 1) cap)).heap.size = W'.heap.size by simp]; exact Nat.le_trans h.s hgr.size
end

theorem RecI.cells {w : World} {g B : Nat} {a1 a2 a3 a4 a5 a6 : Int} {an : Bool} {as_ ad_ : ByteArray} {cn : Bool} {cs cd : ByteArray} {A1 : Option Addr} {c1 : Nat} {legs : List (Int × Int)} {A2 : Option Addr} {c2 : Nat} {opts : List (RQ × Int)} {A3 : Option Addr} {c3 : Nat} {pays : List Pay} {W : World} (h : RecI w g B a1 a2 a3 a4 a5 a6 an as_ ad_ cn cs cd A1 c1 legs A2 c2 opts A3 c3 pays W) :
    W.cell? ⟨g, 12, none⟩ = some (.slice A1 legs.length c1) ∧ W.cell? ⟨g, 13, none⟩ = some (.slice A2 opts.length c2) ∧ W.cell? ⟨g, 14, none⟩ = some (.slice A3 pays.length c3) := RecS.cell12 _ _ _ _ _ _ _ _ _ _ _ _ _ _ _ _ _ _ _ _ _ h.r
def Mid1 (w : World) (g B : Nat) (a1 a2 a3 a4 a5 a6 : Int) (an : Bool) (as_ ad_ : ByteArray) (cn : Bool) (cs cd : ByteArray) (W : World) : Prop := ∃ A1 c1 legs, RecI w g B a1 a2 a3 a4 a5 a6 an as_ ad_ cn cs cd A1 c1 legs none 0 [] none 0 [] W
def Mid2 (w : World) (g B : Nat) (a1 a2 a3 a4 a5 a6 : Int) (an : Bool) (as_ ad_ : ByteArray) (cn : Bool) (cs cd : ByteArray) (W : World) : Prop := ∃ A1 c1 legs A2 c2 opts, RecI w g B a1 a2 a3 a4 a5 a6 an as_ ad_ cn cs cd A1 c1 legs A2 c2 opts none 0 [] W
def Mid3 (w : World) (g B : Nat) (a1 a2 a3 a4 a5 a6 : Int) (an : Bool) (as_ ad_ : ByteArray) (cn : Bool) (cs cd : ByteArray) (W : World) : Prop := ∃ A1 c1 legs A2 c2 opts A3 c3 pays, RecI w g B a1 a2 a3 a4 a5 a6 an as_ ad_ cn cs cd A1 c1 legs A2 c2 opts A3 c3 pays W
theorem own_sets {W : World} {B2 n2 S2 q : Nat} {v2 : Value} {vs xs2 : List Value} {E2 T : TypeId} {c : Array Value} {f : Nat × Nat} (h2 : W.ownsRow B2 E2 S2 v2 n2 xs2) (hq : W.heap[q]? = some (.cells c T f)) (hT : T ≠ E2) : (W.setCells q 0 vs).ownsRow B2 E2 S2 v2 n2 xs2 := by
  refine ⟨h2.1, ?_⟩
  rcases h2.2 with hn | ⟨g, cap, cur, rfl, hb2, hgg, rest⟩
  · exact .inl hn
  · refine .inr ⟨g, cap, cur, rfl, hb2, ?_, rest⟩
    have hne : g ≠ q := fun e => by
      subst e
      rw [hq] at hgg
      simp only [Option.some.injEq, Obj.cells.injEq] at hgg
      exact hT hgg.2.1
    exact (setCells_other g q hne vs 0 W).trans hgg
def RecPost (w : World) (e : Ending) (w' : World) : Prop :=
  ∃ (z1 z2 z3 z4 z5 z6 : Int) (an : Bool) (as_ ad_ : ByteArray) (cn : Bool) (cs cd : ByteArray) (A1 : Option Addr) (n1 c1 : Nat) (A2 : Option Addr) (n2 c2 : Nat) (A3 : Option Addr) (n3 c3 : Nat) (legs : List (Int × Int)) (opts : List (RQ × Int)) (pays : List Pay),
    e = .returned (.agg #[.int .i64 z1, .int .i64 z2, .int .i64 z3, .int .i64 z4, .int .i64 z5, .int .i64 z6, .bool an, .string as_, .string ad_, .bool cn, .string cs, .string cd, .slice A1 n1 c1, .slice A2 n2 c2, .slice A3 n3 c3]) ∧ RecFit z1 z2 z3 z4 z5 z6 an as_ ad_ cn cs cd A1 n1 c1 A2 n2 c2 A3 n3 c3 legs opts pays w' ∧ RecSmall [z1, z2, z3, z4, z5, z6] ⟨an, as_, ad_⟩ ⟨cn, cs, cd⟩ legs opts pays ∧ Below w.heap.size w w'

set_option maxHeartbeats 16000000 in
set_option maxRecDepth 100000 in
theorem record_calls (a1 a2 a3 a4 a5 a6 : Int) (m1 m2 : Nat) (Al : Option Addr) (nl cl : Nat) (Ao : Option Addr) (no co : Nat) (Ap : Option Addr) (np cp : Nat) (w : World) (hm1 : m1 ≤ 65535) (hm2 : m2 ≤ 65535)
    (b1 : i16b a1) (b2 : i16b a2) (b3 : i16b a3) (b4 : i16b a4) (b5 : i16b a5) (b6 : i16b a6)
    (ll : List (Int × Int)) (lo : List (Int × Int)) (lp : List W4) (enl : nl = ll.length) (eno : no = lo.length) (enp : np = lp.length) (gl : nl ≤ maxLen) (go_ : no ≤ maxLen) (gp : np ≤ maxLen)
    (rl : Rd w w.heap.size 2 Al ll.length (ll.flatMap i8V)) (ol : ∀ p ∈ ll, i8ok p) (ro : Rd w w.heap.size 2 Ao lo.length (lo.flatMap u16V)) (oo : ∀ p ∈ lo, u16ok p) (rp : Rd w w.heap.size 4 Ap lp.length (lp.flatMap i16V)) (op : ∀ p ∈ lp, i16ok p) :
    Calls Tryd.prog 15 #[.agg #[.int .i16 a1, .int .i16 a2, .int .i16 a3, .int .i16 a4, .int .i16 a5, .int .i16 a6], .agg #[.int .u16 (m1 : Int), .int .u16 (m2 : Int)], .slice Al nl cl, .slice Ao no co, .slice Ap np cp] w (RecPost w) := by
  have HC1 := Lib.hid (fun W => signed_calls m1 W hm1)
  have HC2 := Lib.hid (fun W => signed_calls m2 W hm2)
  have HLL := Lib.hid (And.intro enl (And.intro rl ol))
  have HLO := Lib.hid (And.intro eno (And.intro ro oo))
  have HLP := Lib.hid (And.intro enp (And.intro rp op))
  have HZ : Hid (∀ z ∈ [a1, a2, a3, a4, a5, a6], i16b z) := fun z hz => by
    simp at hz
    rcases hz with rfl | rfl | rfl | rfl | rfl | rfl <;> assumption
  unfold maxLen at gl go_ gp
  unfold i16b at b1 b2 b3 b4 b5 b6
  have HW1 : Hid (IntKind.i64.wrap a1 = a1) := IntWalk.i64_in _ (by omega)
  have HW2 : Hid (IntKind.i64.wrap a2 = a2) := IntWalk.i64_in _ (by omega)
  have HW3 : Hid (IntKind.i64.wrap a3 = a3) := IntWalk.i64_in _ (by omega)
  have HW4 : Hid (IntKind.i64.wrap a4 = a4) := IntWalk.i64_in _ (by omega)
  have HW5 : Hid (IntKind.i64.wrap a5 = a5) := IntWalk.i64_in _ (by omega)
  have HW6 : Hid (IntKind.i64.wrap a6 = a6) := IntWalk.i64_in _ (by omega)
  obtain ⟨i1, hi1, hz1, hs1, hbt1⟩ := info_parts Tryd.rec_info_leg
  have HF1 := Lib.hid (And.intro hi1 (And.intro hz1 (And.intro hs1 hbt1)))
  obtain ⟨i2, hi2, hz2, hs2, hbt2⟩ := info_parts Tryd.rec_info_opt
  have HF2 := Lib.hid (And.intro hi2 (And.intro hz2 (And.intro hs2 hbt2)))
  obtain ⟨i3, hi3, hz3, hs3, hbt3⟩ := info_parts Tryd.rec_info_pay
  have HF3 := Lib.hid (And.intro hi3 (And.intro hz3 (And.intro hs3 hbt3)))
  clear enl eno enp rl ol ro oo rp op hi1 hz1 hs1 hbt1 hi2 hz2 hs2 hbt2 hi3 hz3 hs3 hbt3 b1 b2 b3 b4 b5 b6
  go_enter Tryd.func15, Tryd.ntmps15
  go_wp2_with fail
  go_upto_region 1 with fail
  go_cut [11] (fun s11 wx => RecMid w a1 a2 a3 a4 a5 a6 s11 wx)
  case first =>
    obtain ⟨wd, hwd⟩ : ∃ wd, wd = (((w.alloc (.cells #[.int .i16 a1, .int .i16 a2, .int .i16 a3, .int .i16 a4, .int .i16 a5, .int .i16 a6] 39)).alloc (.cells #[.int .u16 (m1 : Int), .int .u16 (m2 : Int)] 40)).alloc (.cells #[.int .i64 0, .int .i64 0, .int .i64 0, .int .i64 0, .int .i64 0, .int .i64 0, .bool false, .string ⟨#[]⟩, .string ⟨#[]⟩, .bool false, .string ⟨#[]⟩, .string ⟨#[]⟩, .slice none 0 0, .slice none 0 0, .slice none 0 0] 37)).drew := ⟨_, rfl⟩
    have hS : ArrS w.heap.size (w.heap.size + 1) (w.heap.size + 2) a1 a2 a3 a4 a5 a6 m1 m2 wd := by rw [hwd]; exact arr_new w a1 a2 a3 a4 a5 a6 m1 m2
    have hB : Below w.heap.size w wd := by rw [hwd]; exact (((bel_alloc _ _).alloc (by simp) _).alloc (by simp <;> omega) _).drew
    refine wp_region_held_drew (S := ArrS w.heap.size (w.heap.size + 1) (w.heap.size + 2) a1 a2 a3 a4 a5 a6 m1 m2) (by kernel_rfl) (by rw [← hwd]; exact hS) ?_
    rw [← hwd]
    intro _
    clear hwd
    refine wpAnyH_take (i := 0) rfl (by kernel_rfl) (by kernel_rfl) (by kernel_rfl) (fun _ _ _ h => h) (Or.inl ⟨by kernel_rfl, (by intro w' _; go_simp; with_reducible rfl)⟩) hS ?_
    go_simp
    refine wpAnyH_take (i := 1) (v := .int .i16 a1) rfl (by kernel_rfl) (by kernel_rfl) (by kernel_rfl) (fun _ _ _ h => h) (Or.inl ⟨by kernel_rfl, (by intro w' hw'; obtain ⟨k1, k2, k3, k4, k5, k6, k7, k8⟩ := ArrS.cells hw'; go_simp)⟩) hS ?_
    go_simp
    refine wpAnyH_take (i := 2) (v := .int .i64 a1) rfl (by kernel_rfl) (by kernel_rfl) (by kernel_rfl) (fun _ _ _ h => h) (Or.inl ⟨by kernel_rfl, (by intro w' hw'; have wr_ := HW1.out; go_simp)⟩) hS ?_
    go_simp
    refine wpAnyH_take (i := 3) rfl (by kernel_rfl) (by kernel_rfl) (by kernel_rfl) (fun _ _ _ h => h) (Or.inl ⟨by kernel_rfl, (by intro w' _; go_simp; with_reducible rfl)⟩) hS ?_
    go_simp
    refine wpAnyH_take (i := 4) (v := .int .i16 a2) rfl (by kernel_rfl) (by kernel_rfl) (by kernel_rfl) (fun _ _ _ h => h) (Or.inl ⟨by kernel_rfl, (by intro w' hw'; obtain ⟨k1, k2, k3, k4, k5, k6, k7, k8⟩ := ArrS.cells hw'; go_simp)⟩) hS ?_
    go_simp
    refine wpAnyH_take (i := 5) (v := .int .i64 a2) rfl (by kernel_rfl) (by kernel_rfl) (by kernel_rfl) (fun _ _ _ h => h) (Or.inl ⟨by kernel_rfl, (by intro w' hw'; have wr_ := HW2.out; go_simp)⟩) hS ?_
    go_simp
    refine wpAnyH_take (i := 6) rfl (by kernel_rfl) (by kernel_rfl) (by kernel_rfl) (fun _ _ _ h => h) (Or.inl ⟨by kernel_rfl, (by intro w' _; go_simp; with_reducible rfl)⟩) hS ?_
    go_simp
    refine wpAnyH_take (i := 7) (v := .int .i16 a3) rfl (by kernel_rfl) (by kernel_rfl) (by kernel_rfl) (fun _ _ _ h => h) (Or.inl ⟨by kernel_rfl, (by intro w' hw'; obtain ⟨k1, k2, k3, k4, k5, k6, k7, k8⟩ := ArrS.cells hw'; go_simp)⟩) hS ?_
    go_simp
    refine wpAnyH_take (i := 8) (v := .int .i64 a3) rfl (by kernel_rfl) (by kernel_rfl) (by kernel_rfl) (fun _ _ _ h => h) (Or.inl ⟨by kernel_rfl, (by intro w' hw'; have wr_ := HW3.out; go_simp)⟩) hS ?_
    go_simp
    refine wpAnyH_take (i := 9) rfl (by kernel_rfl) (by kernel_rfl) (by kernel_rfl) (fun _ _ _ h => h) (Or.inl ⟨by kernel_rfl, (by intro w' _; go_simp; with_reducible rfl)⟩) hS ?_
    go_simp
    refine wpAnyH_take (i := 10) (v := .int .i16 a4) rfl (by kernel_rfl) (by kernel_rfl) (by kernel_rfl) (fun _ _ _ h => h) (Or.inl ⟨by kernel_rfl, (by intro w' hw'; obtain ⟨k1, k2, k3, k4, k5, k6, k7, k8⟩ := ArrS.cells hw'; go_simp)⟩) hS ?_
    go_simp
    refine wpAnyH_take (i := 11) (v := .int .i64 a4) rfl (by kernel_rfl) (by kernel_rfl) (by kernel_rfl) (fun _ _ _ h => h) (Or.inl ⟨by kernel_rfl, (by intro w' hw'; have wr_ := HW4.out; go_simp)⟩) hS ?_
    go_simp
    refine wpAnyH_take (i := 12) rfl (by kernel_rfl) (by kernel_rfl) (by kernel_rfl) (fun _ _ _ h => h) (Or.inl ⟨by kernel_rfl, (by intro w' _; go_simp; with_reducible rfl)⟩) hS ?_
    go_simp
    refine wpAnyH_take (i := 13) (v := .int .i16 a5) rfl (by kernel_rfl) (by kernel_rfl) (by kernel_rfl) (fun _ _ _ h => h) (Or.inl ⟨by kernel_rfl, (by intro w' hw'; obtain ⟨k1, k2, k3, k4, k5, k6, k7, k8⟩ := ArrS.cells hw'; go_simp)⟩) hS ?_
    go_simp
    refine wpAnyH_take (i := 14) (v := .int .i64 a5) rfl (by kernel_rfl) (by kernel_rfl) (by kernel_rfl) (fun _ _ _ h => h) (Or.inl ⟨by kernel_rfl, (by intro w' hw'; have wr_ := HW5.out; go_simp)⟩) hS ?_
    go_simp
    refine wpAnyH_take (i := 15) rfl (by kernel_rfl) (by kernel_rfl) (by kernel_rfl) (fun _ _ _ h => h) (Or.inl ⟨by kernel_rfl, (by intro w' _; go_simp; with_reducible rfl)⟩) hS ?_
    go_simp
    refine wpAnyH_take (i := 16) (v := .int .i16 a6) rfl (by kernel_rfl) (by kernel_rfl) (by kernel_rfl) (fun _ _ _ h => h) (Or.inl ⟨by kernel_rfl, (by intro w' hw'; obtain ⟨k1, k2, k3, k4, k5, k6, k7, k8⟩ := ArrS.cells hw'; go_simp)⟩) hS ?_
    go_simp
    refine wpAnyH_take (i := 17) (v := .int .i64 a6) rfl (by kernel_rfl) (by kernel_rfl) (by kernel_rfl) (fun _ _ _ h => h) (Or.inl ⟨by kernel_rfl, (by intro w' hw'; have wr_ := HW6.out; go_simp)⟩) hS ?_
    go_simp
    refine wpAnyH_take (i := 18) rfl (by kernel_rfl) (by kernel_rfl) (by kernel_rfl) (fun _ _ _ h => h) (Or.inl ⟨by kernel_rfl, (by intro w' _; go_simp; with_reducible rfl)⟩) hS ?_
    go_simp
    refine wpAnyH_take (i := 19) (v := .int .u16 (m1 : Int)) rfl (by kernel_rfl) (by kernel_rfl) (by kernel_rfl) (fun _ _ _ h => h) (Or.inl ⟨by kernel_rfl, (by intro w' hw'; obtain ⟨k1, k2, k3, k4, k5, k6, k7, k8⟩ := ArrS.cells hw'; go_simp)⟩) hS ?_
    go_simp
    refine wpAnyH_take (i := 21) rfl (by kernel_rfl) (by kernel_rfl) (by kernel_rfl) (fun _ _ _ h => h) (Or.inl ⟨by kernel_rfl, (by intro w' _; go_simp; with_reducible rfl)⟩) hS ?_
    go_simp
    refine wpAnyH_take (i := 22) (v := .int .u16 (m2 : Int)) rfl (by kernel_rfl) (by kernel_rfl) (by kernel_rfl) (fun _ _ _ h => h) (Or.inl ⟨by kernel_rfl, (by intro w' hw'; obtain ⟨k1, k2, k3, k4, k5, k6, k7, k8⟩ := ArrS.cells hw'; go_simp)⟩) hS ?_
    go_simp
    refine wpAnyH_ready (rs := [20, 26]) (by kernel_rfl) (by simp) ?_
    refine AllReadyH.cons rfl (fun K hK => ?_) (AllReadyH.cons rfl (fun K hK => ?_) AllReadyH.nil)
    · go_simp
      refine (HC1.out _).mono ?_
      rintro e w20 ⟨q1, rfl, hz, hh⟩
      have hS20 := hS.next hh
      have hB20 := hB.trans (hh.mono hB.size)
      obtain ⟨an, hsq⟩ : ∃ b, rneg q1 = b := ⟨_, rfl⟩
      obtain ⟨as_, hnq⟩ : ∃ b, rnum q1 = b := ⟨_, rfl⟩
      obtain ⟨ad_, hdq⟩ : ∃ b, rden q1 = b := ⟨_, rfl⟩
      have HQq1 : Hid (rqS ⟨an, as_, ad_⟩) := ⟨q1, hz, by rw [← hsq, ← hnq, ← hdq]; rfl⟩
      rw [ratV_def q1 hsq hnq hdq]
      clear hh hsq hnq hdq hz
      refine hK.out _ _ hS20 (fun _ => ?_)
      clear hK K
      refine wpAnyH_ready (rs := [23, 26]) (by kernel_rfl) (by simp) ?_
      refine AllReadyH.cons rfl (fun K hK => ?_) (AllReadyH.cons rfl (fun K hK => ?_) AllReadyH.nil)
      · go_simp
        refine (HC2.out _).mono ?_
        rintro e w2023 ⟨q2, rfl, hz, hh⟩
        have hS2023 := hS20.next hh
        have hB2023 := hB20.trans (hh.mono hB20.size)
        obtain ⟨cn, hsq⟩ : ∃ b, rneg q2 = b := ⟨_, rfl⟩
        obtain ⟨cs, hnq⟩ : ∃ b, rnum q2 = b := ⟨_, rfl⟩
        obtain ⟨cd, hdq⟩ : ∃ b, rden q2 = b := ⟨_, rfl⟩
        have HQq2 : Hid (rqS ⟨cn, cs, cd⟩) := ⟨q2, hz, by rw [← hsq, ← hnq, ← hdq]; rfl⟩
        rw [ratV_def q2 hsq hnq hdq]
        clear hh hsq hnq hdq hz
        refine hK.out _ _ hS2023 (fun _ => ?_)
        clear hK K
        refine wpAnyH_take (i := 24) (v := .agg #[.int .i64 a1, .int .i64 a2, .int .i64 a3, .int .i64 a4, .int .i64 a5, .int .i64 a6, .bool an, .string as_, .string ad_, .bool cn, .string cs, .string cd, .slice none 0 0, .slice none 0 0]) rfl (by kernel_rfl) (by kernel_rfl) (by kernel_rfl) (fun _ _ _ h => h) (Or.inl ⟨by kernel_rfl, (by intro w' _; go_simp)⟩) hS2023 ?_
        go_simp
        refine wpAnyH_take (i := 25) (v := .agg #[.int .i64 a1, .int .i64 a2, .int .i64 a3, .int .i64 a4, .int .i64 a5, .int .i64 a6, .bool an, .string as_, .string ad_, .bool cn, .string cs, .string cd, .slice none 0 0, .slice none 0 0, .slice none 0 0]) rfl (by kernel_rfl) (by kernel_rfl) (by kernel_rfl) (fun _ _ _ h => h) (Or.inl ⟨by kernel_rfl, (by intro w' _; go_simp)⟩) hS2023 ?_
        go_simp
        refine wpAnyH_ready (rs := [26]) (by kernel_rfl) (by simp) ?_
        refine AllReadyH.cons rfl (fun K hK => ?_) AllReadyH.nil
        go_simp
        have hS2023a := hS2023.next (bel_alloc w2023 (.cells #[.int .i64 0, .int .i64 0, .int .i64 0, .int .i64 0, .int .i64 0, .int .i64 0, .bool false, .string ⟨#[]⟩, .string ⟨#[]⟩, .bool false, .string ⟨#[]⟩, .string ⟨#[]⟩, .slice none 0 0, .slice none 0 0, .slice none 0 0] 37))
        have hA2023a : RecS w2023.heap.size 0 0 0 0 0 0 false ⟨#[]⟩ ⟨#[]⟩ false ⟨#[]⟩ ⟨#[]⟩ none 0 0 none 0 0 none 0 0 (w2023.alloc (.cells #[.int .i64 0, .int .i64 0, .int .i64 0, .int .i64 0, .int .i64 0, .int .i64 0, .bool false, .string ⟨#[]⟩, .string ⟨#[]⟩, .bool false, .string ⟨#[]⟩, .string ⟨#[]⟩, .slice none 0 0, .slice none 0 0, .slice none 0 0] 37)) := blk_new _ _
        have hne2023 : w.heap.size + 2 < w2023.heap.size := hS2023.2.2.lt 0 0 0 0 0 0 false ⟨#[]⟩ ⟨#[]⟩ false ⟨#[]⟩ ⟨#[]⟩ none 0 0 none 0 0 none 0 0
        have hB2023a := hB2023.alloc hB2023.size (.cells #[.int .i64 0, .int .i64 0, .int .i64 0, .int .i64 0, .int .i64 0, .int .i64 0, .bool false, .string ⟨#[]⟩, .string ⟨#[]⟩, .bool false, .string ⟨#[]⟩, .string ⟨#[]⟩, .slice none 0 0, .slice none 0 0, .slice none 0 0] 37)
        refine hK.out _ _ hS2023a (fun _ => ?_)
        clear hK K
        have hgl : w.heap.size + 2 < w2023.heap.size := hne2023
        refine wpAnyH_ready (rs := [27]) (by kernel_rfl) (by simp) ?_
        refine AllReadyH.cons rfl (fun K hK => ?_) AllReadyH.nil
        rw [if_pos (by rfl)]
        refine wp_store_mid 37 (.tmp 11) (.tmp 41) rfl (w2023.heap.size) 0 #[.int .i64 a1, .int .i64 a2, .int .i64 a3, .int .i64 a4, .int .i64 a5, .int .i64 a6, .bool an, .string as_, .string ad_, .bool cn, .string cs, .string cd, .slice none 0 0, .slice none 0 0, .slice none 0 0] (by simp [Act.eval, Act.put]) (by simp [Act.eval, Act.put]) (there_block hA2023a (by simp)) (by kernel_rfl) (by simp [Value.oneCell']) ?_
        have hSz := ArrS.sets (vs := [.int .i64 a1, .int .i64 a2, .int .i64 a3, .int .i64 a4, .int .i64 a5, .int .i64 a6, .bool an, .string as_, .string ad_, .bool cn, .string cs, .string cd, .slice none 0 0, .slice none 0 0, .slice none 0 0]) hS2023a (g := w2023.heap.size) (by omega) (by omega) (by omega)
        have hBz := below_setCells (b := w2023.heap.size) (by omega) [.int .i64 a1, .int .i64 a2, .int .i64 a3, .int .i64 a4, .int .i64 a5, .int .i64 a6, .bool an, .string as_, .string ad_, .bool cn, .string cs, .string cd, .slice none 0 0, .slice none 0 0, .slice none 0 0] 0 hB2023a
        have hQz : RecS w2023.heap.size a1 a2 a3 a4 a5 a6 an as_ ad_ cn cs cd none 0 0 none 0 0 none 0 0 ((w2023.alloc (.cells #[.int .i64 0, .int .i64 0, .int .i64 0, .int .i64 0, .int .i64 0, .int .i64 0, .bool false, .string ⟨#[]⟩, .string ⟨#[]⟩, .bool false, .string ⟨#[]⟩, .string ⟨#[]⟩, .slice none 0 0, .slice none 0 0, .slice none 0 0] 37)).setCells (w2023.heap.size) 0 [.int .i64 a1, .int .i64 a2, .int .i64 a3, .int .i64 a4, .int .i64 a5, .int .i64 a6, .bool an, .string as_, .string ad_, .bool cn, .string cs, .string cd, .slice none 0 0, .slice none 0 0, .slice none 0 0]) := setCells_whole hA2023a rfl
        refine hK.out _ _ hSz (fun _ => ?_)
        clear hK K
        refine wpAnyH_done (by kernel_rfl) ?_ _
        go_wp2_with fail
        go_meet
        exact ⟨_, an, as_, ad_, cn, cs, cd, rfl, hQz, hSz.2.2, hgl, HQq1.out, HQq2.out, hBz⟩
      · go_simp
        have hS20a := hS20.next (bel_alloc w20 (.cells #[.int .i64 0, .int .i64 0, .int .i64 0, .int .i64 0, .int .i64 0, .int .i64 0, .bool false, .string ⟨#[]⟩, .string ⟨#[]⟩, .bool false, .string ⟨#[]⟩, .string ⟨#[]⟩, .slice none 0 0, .slice none 0 0, .slice none 0 0] 37))
        have hA20a : RecS w20.heap.size 0 0 0 0 0 0 false ⟨#[]⟩ ⟨#[]⟩ false ⟨#[]⟩ ⟨#[]⟩ none 0 0 none 0 0 none 0 0 (w20.alloc (.cells #[.int .i64 0, .int .i64 0, .int .i64 0, .int .i64 0, .int .i64 0, .int .i64 0, .bool false, .string ⟨#[]⟩, .string ⟨#[]⟩, .bool false, .string ⟨#[]⟩, .string ⟨#[]⟩, .slice none 0 0, .slice none 0 0, .slice none 0 0] 37)) := blk_new _ _
        have hne20 : w.heap.size + 2 < w20.heap.size := hS20.2.2.lt 0 0 0 0 0 0 false ⟨#[]⟩ ⟨#[]⟩ false ⟨#[]⟩ ⟨#[]⟩ none 0 0 none 0 0 none 0 0
        have hB20a := hB20.alloc hB20.size (.cells #[.int .i64 0, .int .i64 0, .int .i64 0, .int .i64 0, .int .i64 0, .int .i64 0, .bool false, .string ⟨#[]⟩, .string ⟨#[]⟩, .bool false, .string ⟨#[]⟩, .string ⟨#[]⟩, .slice none 0 0, .slice none 0 0, .slice none 0 0] 37)
        refine hK.out _ _ hS20a (fun _ => ?_)
        clear hK K
        refine wpAnyH_ready (rs := [23]) (by kernel_rfl) (by simp) ?_
        refine AllReadyH.cons rfl (fun K hK => ?_) AllReadyH.nil
        go_simp
        refine (HC2.out _).mono ?_
        rintro e w20a23 ⟨q2, rfl, hz, hh⟩
        have hS20a23 := hS20a.next hh
        have hB20a23 := hB20a.trans (hh.mono hB20a.size)
        have hA20a23 : RecS w20.heap.size 0 0 0 0 0 0 false ⟨#[]⟩ ⟨#[]⟩ false ⟨#[]⟩ ⟨#[]⟩ none 0 0 none 0 0 none 0 0 w20a23 := blk_next hA20a hh
        obtain ⟨cn, hsq⟩ : ∃ b, rneg q2 = b := ⟨_, rfl⟩
        obtain ⟨cs, hnq⟩ : ∃ b, rnum q2 = b := ⟨_, rfl⟩
        obtain ⟨cd, hdq⟩ : ∃ b, rden q2 = b := ⟨_, rfl⟩
        have HQq2 : Hid (rqS ⟨cn, cs, cd⟩) := ⟨q2, hz, by rw [← hsq, ← hnq, ← hdq]; rfl⟩
        rw [ratV_def q2 hsq hnq hdq]
        clear hh hsq hnq hdq hz
        refine hK.out _ _ hS20a23 (fun _ => ?_)
        clear hK K
        refine wpAnyH_take (i := 24) (v := .agg #[.int .i64 a1, .int .i64 a2, .int .i64 a3, .int .i64 a4, .int .i64 a5, .int .i64 a6, .bool an, .string as_, .string ad_, .bool cn, .string cs, .string cd, .slice none 0 0, .slice none 0 0]) rfl (by kernel_rfl) (by kernel_rfl) (by kernel_rfl) (fun _ _ _ h => h) (Or.inl ⟨by kernel_rfl, (by intro w' _; go_simp)⟩) hS20a23 ?_
        go_simp
        refine wpAnyH_take (i := 25) (v := .agg #[.int .i64 a1, .int .i64 a2, .int .i64 a3, .int .i64 a4, .int .i64 a5, .int .i64 a6, .bool an, .string as_, .string ad_, .bool cn, .string cs, .string cd, .slice none 0 0, .slice none 0 0, .slice none 0 0]) rfl (by kernel_rfl) (by kernel_rfl) (by kernel_rfl) (fun _ _ _ h => h) (Or.inl ⟨by kernel_rfl, (by intro w' _; go_simp)⟩) hS20a23 ?_
        go_simp
        have hgl : w.heap.size + 2 < w20.heap.size := hne20
        refine wpAnyH_ready (rs := [27]) (by kernel_rfl) (by simp) ?_
        refine AllReadyH.cons rfl (fun K hK => ?_) AllReadyH.nil
        rw [if_pos (by rfl)]
        refine wp_store_mid 37 (.tmp 11) (.tmp 41) rfl (w20.heap.size) 0 #[.int .i64 a1, .int .i64 a2, .int .i64 a3, .int .i64 a4, .int .i64 a5, .int .i64 a6, .bool an, .string as_, .string ad_, .bool cn, .string cs, .string cd, .slice none 0 0, .slice none 0 0, .slice none 0 0] (by simp [Act.eval, Act.put]) (by simp [Act.eval, Act.put]) (there_block hA20a23 (by simp)) (by kernel_rfl) (by simp [Value.oneCell']) ?_
        have hSz := ArrS.sets (vs := [.int .i64 a1, .int .i64 a2, .int .i64 a3, .int .i64 a4, .int .i64 a5, .int .i64 a6, .bool an, .string as_, .string ad_, .bool cn, .string cs, .string cd, .slice none 0 0, .slice none 0 0, .slice none 0 0]) hS20a23 (g := w20.heap.size) (by omega) (by omega) (by omega)
        have hBz := below_setCells (b := w20.heap.size) (by omega) [.int .i64 a1, .int .i64 a2, .int .i64 a3, .int .i64 a4, .int .i64 a5, .int .i64 a6, .bool an, .string as_, .string ad_, .bool cn, .string cs, .string cd, .slice none 0 0, .slice none 0 0, .slice none 0 0] 0 hB20a23
        have hQz : RecS w20.heap.size a1 a2 a3 a4 a5 a6 an as_ ad_ cn cs cd none 0 0 none 0 0 none 0 0 (w20a23.setCells (w20.heap.size) 0 [.int .i64 a1, .int .i64 a2, .int .i64 a3, .int .i64 a4, .int .i64 a5, .int .i64 a6, .bool an, .string as_, .string ad_, .bool cn, .string cs, .string cd, .slice none 0 0, .slice none 0 0, .slice none 0 0]) := setCells_whole hA20a23 rfl
        refine hK.out _ _ hSz (fun _ => ?_)
        clear hK K
        refine wpAnyH_done (by kernel_rfl) ?_ _
        go_wp2_with fail
        go_meet
        exact ⟨_, an, as_, ad_, cn, cs, cd, rfl, hQz, hSz.2.2, hgl, HQq1.out, HQq2.out, hBz⟩
    · go_simp
      have hSa := hS.next (bel_alloc wd (.cells #[.int .i64 0, .int .i64 0, .int .i64 0, .int .i64 0, .int .i64 0, .int .i64 0, .bool false, .string ⟨#[]⟩, .string ⟨#[]⟩, .bool false, .string ⟨#[]⟩, .string ⟨#[]⟩, .slice none 0 0, .slice none 0 0, .slice none 0 0] 37))
      have hAa : RecS wd.heap.size 0 0 0 0 0 0 false ⟨#[]⟩ ⟨#[]⟩ false ⟨#[]⟩ ⟨#[]⟩ none 0 0 none 0 0 none 0 0 (wd.alloc (.cells #[.int .i64 0, .int .i64 0, .int .i64 0, .int .i64 0, .int .i64 0, .int .i64 0, .bool false, .string ⟨#[]⟩, .string ⟨#[]⟩, .bool false, .string ⟨#[]⟩, .string ⟨#[]⟩, .slice none 0 0, .slice none 0 0, .slice none 0 0] 37)) := blk_new _ _
      have hne : w.heap.size + 2 < wd.heap.size := hS.2.2.lt 0 0 0 0 0 0 false ⟨#[]⟩ ⟨#[]⟩ false ⟨#[]⟩ ⟨#[]⟩ none 0 0 none 0 0 none 0 0
      have hBa := hB.alloc hB.size (.cells #[.int .i64 0, .int .i64 0, .int .i64 0, .int .i64 0, .int .i64 0, .int .i64 0, .bool false, .string ⟨#[]⟩, .string ⟨#[]⟩, .bool false, .string ⟨#[]⟩, .string ⟨#[]⟩, .slice none 0 0, .slice none 0 0, .slice none 0 0] 37)
      refine hK.out _ _ hSa (fun _ => ?_)
      clear hK K
      refine wpAnyH_ready (rs := [20]) (by kernel_rfl) (by simp) ?_
      refine AllReadyH.cons rfl (fun K hK => ?_) AllReadyH.nil
      go_simp
      refine (HC1.out _).mono ?_
      rintro e wa20 ⟨q1, rfl, hz, hh⟩
      have hSa20 := hSa.next hh
      have hBa20 := hBa.trans (hh.mono hBa.size)
      have hAa20 : RecS wd.heap.size 0 0 0 0 0 0 false ⟨#[]⟩ ⟨#[]⟩ false ⟨#[]⟩ ⟨#[]⟩ none 0 0 none 0 0 none 0 0 wa20 := blk_next hAa hh
      obtain ⟨an, hsq⟩ : ∃ b, rneg q1 = b := ⟨_, rfl⟩
      obtain ⟨as_, hnq⟩ : ∃ b, rnum q1 = b := ⟨_, rfl⟩
      obtain ⟨ad_, hdq⟩ : ∃ b, rden q1 = b := ⟨_, rfl⟩
      have HQq1 : Hid (rqS ⟨an, as_, ad_⟩) := ⟨q1, hz, by rw [← hsq, ← hnq, ← hdq]; rfl⟩
      rw [ratV_def q1 hsq hnq hdq]
      clear hh hsq hnq hdq hz
      refine hK.out _ _ hSa20 (fun _ => ?_)
      clear hK K
      refine wpAnyH_ready (rs := [23]) (by kernel_rfl) (by simp) ?_
      refine AllReadyH.cons rfl (fun K hK => ?_) AllReadyH.nil
      go_simp
      refine (HC2.out _).mono ?_
      rintro e wa2023 ⟨q2, rfl, hz, hh⟩
      have hSa2023 := hSa20.next hh
      have hBa2023 := hBa20.trans (hh.mono hBa20.size)
      have hAa2023 : RecS wd.heap.size 0 0 0 0 0 0 false ⟨#[]⟩ ⟨#[]⟩ false ⟨#[]⟩ ⟨#[]⟩ none 0 0 none 0 0 none 0 0 wa2023 := blk_next hAa20 hh
      obtain ⟨cn, hsq⟩ : ∃ b, rneg q2 = b := ⟨_, rfl⟩
      obtain ⟨cs, hnq⟩ : ∃ b, rnum q2 = b := ⟨_, rfl⟩
      obtain ⟨cd, hdq⟩ : ∃ b, rden q2 = b := ⟨_, rfl⟩
      have HQq2 : Hid (rqS ⟨cn, cs, cd⟩) := ⟨q2, hz, by rw [← hsq, ← hnq, ← hdq]; rfl⟩
      rw [ratV_def q2 hsq hnq hdq]
      clear hh hsq hnq hdq hz
      refine hK.out _ _ hSa2023 (fun _ => ?_)
      clear hK K
      refine wpAnyH_take (i := 24) (v := .agg #[.int .i64 a1, .int .i64 a2, .int .i64 a3, .int .i64 a4, .int .i64 a5, .int .i64 a6, .bool an, .string as_, .string ad_, .bool cn, .string cs, .string cd, .slice none 0 0, .slice none 0 0]) rfl (by kernel_rfl) (by kernel_rfl) (by kernel_rfl) (fun _ _ _ h => h) (Or.inl ⟨by kernel_rfl, (by intro w' _; go_simp)⟩) hSa2023 ?_
      go_simp
      refine wpAnyH_take (i := 25) (v := .agg #[.int .i64 a1, .int .i64 a2, .int .i64 a3, .int .i64 a4, .int .i64 a5, .int .i64 a6, .bool an, .string as_, .string ad_, .bool cn, .string cs, .string cd, .slice none 0 0, .slice none 0 0, .slice none 0 0]) rfl (by kernel_rfl) (by kernel_rfl) (by kernel_rfl) (fun _ _ _ h => h) (Or.inl ⟨by kernel_rfl, (by intro w' _; go_simp)⟩) hSa2023 ?_
      go_simp
      have hgl : w.heap.size + 2 < wd.heap.size := hne
      refine wpAnyH_ready (rs := [27]) (by kernel_rfl) (by simp) ?_
      refine AllReadyH.cons rfl (fun K hK => ?_) AllReadyH.nil
      rw [if_pos (by rfl)]
      refine wp_store_mid 37 (.tmp 11) (.tmp 41) rfl (wd.heap.size) 0 #[.int .i64 a1, .int .i64 a2, .int .i64 a3, .int .i64 a4, .int .i64 a5, .int .i64 a6, .bool an, .string as_, .string ad_, .bool cn, .string cs, .string cd, .slice none 0 0, .slice none 0 0, .slice none 0 0] (by simp [Act.eval, Act.put]) (by simp [Act.eval, Act.put]) (there_block hAa2023 (by simp)) (by kernel_rfl) (by simp [Value.oneCell']) ?_
      have hSz := ArrS.sets (vs := [.int .i64 a1, .int .i64 a2, .int .i64 a3, .int .i64 a4, .int .i64 a5, .int .i64 a6, .bool an, .string as_, .string ad_, .bool cn, .string cs, .string cd, .slice none 0 0, .slice none 0 0, .slice none 0 0]) hSa2023 (g := wd.heap.size) (by omega) (by omega) (by omega)
      have hBz := below_setCells (b := wd.heap.size) (by omega) [.int .i64 a1, .int .i64 a2, .int .i64 a3, .int .i64 a4, .int .i64 a5, .int .i64 a6, .bool an, .string as_, .string ad_, .bool cn, .string cs, .string cd, .slice none 0 0, .slice none 0 0, .slice none 0 0] 0 hBa2023
      have hQz : RecS wd.heap.size a1 a2 a3 a4 a5 a6 an as_ ad_ cn cs cd none 0 0 none 0 0 none 0 0 (wa2023.setCells (wd.heap.size) 0 [.int .i64 a1, .int .i64 a2, .int .i64 a3, .int .i64 a4, .int .i64 a5, .int .i64 a6, .bool an, .string as_, .string ad_, .bool cn, .string cs, .string cd, .slice none 0 0, .slice none 0 0, .slice none 0 0]) := setCells_whole hAa2023 rfl
      refine hK.out _ _ hSz (fun _ => ?_)
      clear hK K
      refine wpAnyH_done (by kernel_rfl) ?_ _
      go_wp2_with fail
      go_meet
      exact ⟨_, an, as_, ad_, cn, cs, cd, rfl, hQz, hSz.2.2, hgl, HQq1.out, HQq2.out, hBz⟩
  case rest =>
    obtain ⟨g, an, as_, ad_, cn, cs, cd, rfl, hG, hR, hgl, hq1, hq2, hb⟩ := hcut
    obtain ⟨B, hB⟩ : ∃ B, B = wc.heap.size := ⟨_, rfl⟩
    have hwB : w.heap.size ≤ B := by rw [hB]; exact hb.size
    have HI : Hid (RecI w g B a1 a2 a3 a4 a5 a6 an as_ ad_ cn cs cd none 0 [] none 0 [] none 0 [] wc) := ⟨hG, hR, World.ownsRow_nil _ _ _ _, World.ownsRow_nil _ _ _ _, World.ownsRow_nil _ _ _ _, hb, by rw [hB]; exact Nat.le_refl _, by simp, no_mem, by simp, no_mem, by simp, no_mem⟩
    have HQ12 := Lib.hid (And.intro hq1 hq2)
    clear hG hR hb hB hq1 hq2
    go_upto_block 0 with fail
    go_cut [] (fun wx => Mid1 w g B a1 a2 a3 a4 a5 a6 an as_ ad_ cn cs cd wx)
    case first =>
      go_wp2_with fail
      go_loopw [12] (fun vi wr => ∃ (k : Nat) (A1 : Option Addr) (c1 : Nat) (legs : List (Int × Int)), k ≤ nl ∧ vi = .int .i64 (k : Int) ∧ Hid (legs.length = k) ∧ Hid (RecI w g B a1 a2 a3 a4 a5 a6 an as_ ad_ cn cs cd A1 c1 legs none 0 [] none 0 [] wr)) (fun vi _ => nl - (intOf vi).toNat)
      case atStart => exact ⟨0, none, 0, [], Nat.zero_le _, rfl, rfl, HI⟩
      case round =>
        clear HI
        obtain ⟨k, A1, c1, legs, hk, rfl, HKL, HI⟩ := hrel
        rename World => wo
        by_cases hlt : k < nl
        · by_cases h4 : k < 4
          · obtain ⟨p, hp⟩ : ∃ p, ll[k]? = some p := getElem?_of_lt (by have := HLL.out.1; omega)
            have hpm := HLL.out.2.2 p (List.mem_of_getElem? hp)
            obtain ⟨bq, oq, hAe, hbq, hcq⟩ := Rd.at_ (enc := i8V) (fun _ => rfl) (HLL.out.2.1.below HI.out.b) hp
            subst hAe
            obtain ⟨x, y⟩ := p
            unfold i8ok at hpm
            dsimp only at hpm
            obtain ⟨⟨hx1, hx2⟩, hy1, hy2⟩ := hpm
            have d0 := hcq 0 _ rfl
            have d1 := hcq 1 _ rfl
            rw [Nat.add_zero] at d0
            rw [← Nat.add_assoc] at d1
            have hbo : bq < wo.heap.size := by have := HI.out.b.size; omega
            have HS0 : Hid (PairS bq (oq + k * 2) (.int .i8 x) (.int .i8 y) wo) := ⟨hbo, d0, d1⟩
            clear d0 d1 hcq hp
            have hki : (k : Int) < (nl : Int) := by omega
            have HWX : Hid (IntKind.i64.wrap x = x) := IntWalk.i64_in _ (by omega)
            have HXB : Hid (i16b x) := by show i16b x; unfold i16b; omega
            have HWY : Hid (IntKind.i64.wrap y = y) := IntWalk.i64_in _ (by omega)
            have HYB : Hid (i16b y) := by show i16b y; unfold i16b; omega
            go_wp2_with fail
            obtain ⟨W0, hW0⟩ : ∃ W0, W0 = wo.drew := ⟨_, rfl⟩
            have hS : PairS bq (oq + k * 2) (.int .i8 x) (.int .i8 y) W0 := by rw [hW0]; exact HS0.out
            have HI0 : Hid (RecI w g B a1 a2 a3 a4 a5 a6 an as_ ad_ cn cs cd A1 c1 legs none 0 [] none 0 [] W0) := by rw [hW0]; exact HI.out.drew
            refine wp_region_held_drew (S := PairS bq (oq + k * 2) (.int .i8 x) (.int .i8 y)) (by kernel_rfl) (by rw [← hW0]; exact hS) ?_
            rw [← hW0]
            intro _
            clear hW0 HS0 HI
            refine wpAnyH_take (i := 0) rfl (by kernel_rfl) (by kernel_rfl) (by kernel_rfl) (fun _ _ _ h => h) (Or.inl ⟨by kernel_rfl, (by intro w' _; go_simp; with_reducible rfl)⟩) hS ?_
            go_simp
            refine wpAnyH_take (i := 1) rfl (by kernel_rfl) (by kernel_rfl) (by kernel_rfl) (fun _ _ _ h => h) (Or.inl ⟨by kernel_rfl, (by intro w' _; go_simp; with_reducible rfl)⟩) hS ?_
            go_simp
            refine wpAnyH_take (i := 3) rfl (by kernel_rfl) (by kernel_rfl) (by kernel_rfl) (fun _ _ _ h => h) (Or.inl ⟨by kernel_rfl, (by intro w' _; go_simp; with_reducible rfl)⟩) hS ?_
            go_simp
            refine wpAnyH_take (i := 4) rfl (by kernel_rfl) (by kernel_rfl) (by kernel_rfl) (fun _ _ _ h => h) (Or.inl ⟨by kernel_rfl, (by intro w' _; go_simp; with_reducible rfl)⟩) hS ?_
            go_simp
            refine wpAnyH_take (i := 5) rfl (by kernel_rfl) (by kernel_rfl) (by kernel_rfl) (fun _ _ _ h => h) (Or.inl ⟨by kernel_rfl, (by intro w' _; go_simp; with_reducible rfl)⟩) hS ?_
            go_simp
            refine wpAnyH_take (i := 6) rfl (by kernel_rfl) (by kernel_rfl) (by kernel_rfl) (fun _ _ _ h => h) (Or.inl ⟨by kernel_rfl, (by intro w' _; go_simp; with_reducible rfl)⟩) hS ?_
            go_simp
            refine wpAnyH_take (i := 7) (v := .int .i8 x) rfl (by kernel_rfl) (by kernel_rfl) (by kernel_rfl) (fun _ _ _ h => h) (Or.inl ⟨by kernel_rfl, (by intro w' hw'; obtain ⟨hb_, c0_, c1_⟩ := hw'; go_simp)⟩) hS ?_
            go_simp
            refine wpAnyH_take (i := 8) (v := .int .i64 x) rfl (by kernel_rfl) (by kernel_rfl) (by kernel_rfl) (fun _ _ _ h => h) (Or.inl ⟨by kernel_rfl, (by intro w' hw'; have wr_ := HWX.out; go_simp)⟩) hS ?_
            go_simp
            refine wpAnyH_take (i := 9) rfl (by kernel_rfl) (by kernel_rfl) (by kernel_rfl) (fun _ _ _ h => h) (Or.inl ⟨by kernel_rfl, (by intro w' _; go_simp; with_reducible rfl)⟩) hS ?_
            go_simp
            refine wpAnyH_take (i := 10) rfl (by kernel_rfl) (by kernel_rfl) (by kernel_rfl) (fun _ _ _ h => h) (Or.inl ⟨by kernel_rfl, (by intro w' _; go_simp; with_reducible rfl)⟩) hS ?_
            go_simp
            refine wpAnyH_take (i := 11) rfl (by kernel_rfl) (by kernel_rfl) (by kernel_rfl) (fun _ _ _ h => h) (Or.inl ⟨by kernel_rfl, (by intro w' _; go_simp; with_reducible rfl)⟩) hS ?_
            go_simp
            refine wpAnyH_take (i := 12) rfl (by kernel_rfl) (by kernel_rfl) (by kernel_rfl) (fun _ _ _ h => h) (Or.inl ⟨by kernel_rfl, (by intro w' _; go_simp; with_reducible rfl)⟩) hS ?_
            go_simp
            refine wpAnyH_take (i := 13) (v := .int .i8 y) rfl (by kernel_rfl) (by kernel_rfl) (by kernel_rfl) (fun _ _ _ h => h) (Or.inl ⟨by kernel_rfl, (by intro w' hw'; obtain ⟨hb_, c0_, c1_⟩ := hw'; go_simp)⟩) hS ?_
            go_simp
            refine wpAnyH_take (i := 14) (v := .int .i64 y) rfl (by kernel_rfl) (by kernel_rfl) (by kernel_rfl) (fun _ _ _ h => h) (Or.inl ⟨by kernel_rfl, (by intro w' hw'; have wr_ := HWY.out; go_simp)⟩) hS ?_
            go_simp
            refine wpAnyH_take (i := 15) (v := .agg #[.int .i64 x, .int .i64 y]) rfl (by kernel_rfl) (by kernel_rfl) (by kernel_rfl) (fun _ _ _ h => h) (Or.inl ⟨by kernel_rfl, (by intro w' _; go_simp)⟩) hS ?_
            go_simp
            refine wpAnyH_ready (rs := [2, 16]) (by kernel_rfl) (by simp) ?_
            refine AllReadyH.cons rfl (fun K hK => ?_) (AllReadyH.cons rfl (fun K hK => ?_) AllReadyH.nil)
            · have kf := HI0.out.cells.1
              go_simp
              clear kf
              refine hK.out _ _ hS (fun _ => ?_)
              clear hK K
              refine wpAnyH_ready (rs := [16]) (by kernel_rfl) (by simp) ?_
              refine AllReadyH.cons rfl (fun K hK => ?_) AllReadyH.nil
              go_simp
              have hS_2_16 := hS.next (bel_alloc W0 (.cells #[.int .i64 x, .int .i64 y] 49))
              have HI_2_16 := Lib.hid (HI0.out.next (bel_alloc W0 (.cells #[.int .i64 x, .int .i64 y] 49)))
              have HK_2_16 := Lib.hid (blk_new W0 (.cells #[.int .i64 x, .int .i64 y] 49))
              refine hK.out _ _ hS_2_16 (fun _ => ?_)
              clear hK K
              refine wpAnyH_ready (rs := [17]) (by kernel_rfl) (by simp) ?_
              refine AllReadyH.cons rfl (fun K hK => ?_) AllReadyH.nil
              have hsz_ := HI_2_16.out.s
              refine step_append_lies _ rfl (.tmp 54) (.tmp 68) 31 rfl B 49 i1 _ 2 16 Tryd.underlying31 HF1.out.1 HF1.out.2.1 HF1.out.2.2.1 HF1.out.2.2.2 rfl (by decide) (.slice A1 legs.length c1) legs.length (legs.flatMap legV) (by simp [Act.eval, Act.put]) HI_2_16.out.l ⟨W0.heap.size, 0, none⟩ 1 1 [.int .i64 x, .int .i64 y] (by simp [Act.eval, Act.put]) rfl (World.news_of_block HK_2_16.out) (by simp [Value.oneCell']) (by decide) (by have := HKL.out; simp only [maxLen]; omega) (by have := HKL.out; omega) hsz_ _ rfl ?_
              intro g' cap w' hown hgr hor hlt3
              have hg1 := blk_grown HI_2_16.out.l HI_2_16.out.r (by decide) hgr
              have HG1 := Lib.hid hg1
              have hS9 := hS_2_16.grown hgr (fun q hq => (HI_2_16.out.l.lt q hq).1) (by omega)
              have HN9 := Lib.hid (HI_2_16.out.leg hwB hgl HXB.out HYB.out (by have := HKL.out; omega) hown hgr)
              refine hK.out _ _ hS9 (fun _ => ?_)
              clear hK K hown hgr hor hg1
              refine wpAnyH_take (i := 18) rfl (by kernel_rfl) (by kernel_rfl) (by kernel_rfl) (fun _ _ _ h => h) (Or.inl ⟨by kernel_rfl, (by intro w' _; go_simp; with_reducible rfl)⟩) hS9 ?_
              go_simp
              refine wpAnyH_take (i := 19) rfl (by kernel_rfl) (by kernel_rfl) (by kernel_rfl) (fun _ _ _ h => h) (Or.inl ⟨by kernel_rfl, (by intro w' _; go_simp; with_reducible rfl)⟩) hS9 ?_
              go_simp
              have kf : w'.cell? ⟨g, 12, none⟩ = some (.slice A1 legs.length c1) := by rw [cell_of_row w' g 12 _ _ (0, 0) HG1.out]; rfl
              have ff : w'.frozen? ⟨g, 12, none⟩ = false := frozen_of_row w' g 12 _ _ HG1.out
              have lf : g < w'.heap.size := (Array.getElem?_eq_some_iff.1 HG1.out).1
              refine wpAnyH_ready (rs := [20]) (by kernel_rfl) (by simp) ?_
              refine AllReadyH.cons rfl (fun K hK => ?_) AllReadyH.nil
              go_simp
              clear kf ff lf
              refine hK.out _ _ (hS9.far (by omega)) (fun _ => ?_)
              clear hK K
              refine wpAnyH_done (by kernel_rfl) ?_ _
              clear hS9 HG1
              go_wp2_with fail
              go_roundw
              case measure => simp [intOf]; omega
              case rel => exact ⟨k + 1, _, _, _, by omega, by go_num, (show _ = _ by simp [HKL.out]), HN9⟩
            · go_simp
              have hS_16 := hS.next (bel_alloc W0 (.cells #[.int .i64 x, .int .i64 y] 49))
              have HI_16 := Lib.hid (HI0.out.next (bel_alloc W0 (.cells #[.int .i64 x, .int .i64 y] 49)))
              have HK_16 := Lib.hid (blk_new W0 (.cells #[.int .i64 x, .int .i64 y] 49))
              refine hK.out _ _ hS_16 (fun _ => ?_)
              clear hK K
              refine wpAnyH_ready (rs := [2]) (by kernel_rfl) (by simp) ?_
              refine AllReadyH.cons rfl (fun K hK => ?_) AllReadyH.nil
              have kf := HI_16.out.cells.1
              go_simp
              clear kf
              refine hK.out _ _ hS_16 (fun _ => ?_)
              clear hK K
              refine wpAnyH_ready (rs := [17]) (by kernel_rfl) (by simp) ?_
              refine AllReadyH.cons rfl (fun K hK => ?_) AllReadyH.nil
              have hsz_ := HI_16.out.s
              refine step_append_lies _ rfl (.tmp 54) (.tmp 68) 31 rfl B 49 i1 _ 2 16 Tryd.underlying31 HF1.out.1 HF1.out.2.1 HF1.out.2.2.1 HF1.out.2.2.2 rfl (by decide) (.slice A1 legs.length c1) legs.length (legs.flatMap legV) (by simp [Act.eval, Act.put]) HI_16.out.l ⟨W0.heap.size, 0, none⟩ 1 1 [.int .i64 x, .int .i64 y] (by simp [Act.eval, Act.put]) rfl (World.news_of_block HK_16.out) (by simp [Value.oneCell']) (by decide) (by have := HKL.out; simp only [maxLen]; omega) (by have := HKL.out; omega) hsz_ _ rfl ?_
              intro g' cap w' hown hgr hor hlt3
              have hg1 := blk_grown HI_16.out.l HI_16.out.r (by decide) hgr
              have HG1 := Lib.hid hg1
              have hS9 := hS_16.grown hgr (fun q hq => (HI_16.out.l.lt q hq).1) (by omega)
              have HN9 := Lib.hid (HI_16.out.leg hwB hgl HXB.out HYB.out (by have := HKL.out; omega) hown hgr)
              refine hK.out _ _ hS9 (fun _ => ?_)
              clear hK K hown hgr hor hg1
              refine wpAnyH_take (i := 18) rfl (by kernel_rfl) (by kernel_rfl) (by kernel_rfl) (fun _ _ _ h => h) (Or.inl ⟨by kernel_rfl, (by intro w' _; go_simp; with_reducible rfl)⟩) hS9 ?_
              go_simp
              refine wpAnyH_take (i := 19) rfl (by kernel_rfl) (by kernel_rfl) (by kernel_rfl) (fun _ _ _ h => h) (Or.inl ⟨by kernel_rfl, (by intro w' _; go_simp; with_reducible rfl)⟩) hS9 ?_
              go_simp
              have kf : w'.cell? ⟨g, 12, none⟩ = some (.slice A1 legs.length c1) := by rw [cell_of_row w' g 12 _ _ (0, 0) HG1.out]; rfl
              have ff : w'.frozen? ⟨g, 12, none⟩ = false := frozen_of_row w' g 12 _ _ HG1.out
              have lf : g < w'.heap.size := (Array.getElem?_eq_some_iff.1 HG1.out).1
              refine wpAnyH_ready (rs := [20]) (by kernel_rfl) (by simp) ?_
              refine AllReadyH.cons rfl (fun K hK => ?_) AllReadyH.nil
              go_simp
              clear kf ff lf
              refine hK.out _ _ (hS9.far (by omega)) (fun _ => ?_)
              clear hK K
              refine wpAnyH_done (by kernel_rfl) ?_ _
              clear hS9 HG1
              go_wp2_with fail
              go_roundw
              case measure => simp [intOf]; omega
              case rel => exact ⟨k + 1, _, _, _, by omega, by go_num, (show _ = _ by simp [HKL.out]), HN9⟩
          · go_wp2_with fail
            go_meet
            exact ⟨A1, c1, legs, HI.out⟩
        · go_wp2_with fail
          go_meet
          exact ⟨A1, c1, legs, HI.out⟩
    case rest =>
      obtain ⟨A1, c1, legs, hI⟩ := hcut
      have HI := Lib.hid hI
      clear hI
      go_upto_block 2 with fail
      go_cut [] (fun wx => Mid2 w g B a1 a2 a3 a4 a5 a6 an as_ ad_ cn cs cd wx)
      case first =>
        go_wp2_with fail
        go_loopw [13] (fun vi wr => ∃ (k : Nat) (A2 : Option Addr) (c2 : Nat) (opts : List (RQ × Int)), k ≤ no ∧ vi = .int .i64 (k : Int) ∧ Hid (opts.length = k) ∧ Hid (RecI w g B a1 a2 a3 a4 a5 a6 an as_ ad_ cn cs cd A1 c1 legs A2 c2 opts none 0 [] wr)) (fun vi _ => no - (intOf vi).toNat)
        case atStart => exact ⟨0, none, 0, [], Nat.zero_le _, rfl, rfl, HI⟩
        case round =>
          clear HI
          obtain ⟨k, A2, c2, opts, hk, rfl, HKL, HI⟩ := hrel
          rename World => wo
          by_cases hlt : k < no
          · by_cases h4 : k < 4
            · obtain ⟨p, hp⟩ : ∃ p, lo[k]? = some p := getElem?_of_lt (by have := HLO.out.1; omega)
              have hpm := HLO.out.2.2 p (List.mem_of_getElem? hp)
              obtain ⟨bq, oq, hAe, hbq, hcq⟩ := Rd.at_ (enc := u16V) (fun _ => rfl) (HLO.out.2.1.below HI.out.b) hp
              subst hAe
              obtain ⟨x, y⟩ := p
              unfold u16ok at hpm
              dsimp only at hpm
              obtain ⟨⟨hx1, hx2⟩, hy1, hy2⟩ := hpm
              have d0 := hcq 0 _ rfl
              have d1 := hcq 1 _ rfl
              rw [Nat.add_zero] at d0
              rw [← Nat.add_assoc] at d1
              have hbo : bq < wo.heap.size := by have := HI.out.b.size; omega
              have HS0 : Hid (PairS bq (oq + k * 2) (.int .u16 x) (.int .u16 y) wo) := ⟨hbo, d0, d1⟩
              clear d0 d1 hcq hp
              have hki : (k : Int) < (no : Int) := by omega
              obtain ⟨xn, rfl⟩ := Int.eq_ofNat_of_zero_le hx1
              have HSG := Lib.hid (fun W => signed_calls xn W (by omega))
              have HWY : Hid (IntKind.i64.wrap y = y) := IntWalk.i64_in _ (by omega)
              have HYB : Hid (i16b y) := by show i16b y; unfold i16b; omega
              go_wp2_with fail
              obtain ⟨W0, hW0⟩ : ∃ W0, W0 = wo.drew := ⟨_, rfl⟩
              have hS : PairS bq (oq + k * 2) (.int .u16 (xn : Int)) (.int .u16 y) W0 := by rw [hW0]; exact HS0.out
              have HI0 : Hid (RecI w g B a1 a2 a3 a4 a5 a6 an as_ ad_ cn cs cd A1 c1 legs A2 c2 opts none 0 [] W0) := by rw [hW0]; exact HI.out.drew
              refine wp_region_held_drew (S := PairS bq (oq + k * 2) (.int .u16 (xn : Int)) (.int .u16 y)) (by kernel_rfl) (by rw [← hW0]; exact hS) ?_
              rw [← hW0]
              intro _
              clear hW0 HS0 HI
              refine wpAnyH_take (i := 0) rfl (by kernel_rfl) (by kernel_rfl) (by kernel_rfl) (fun _ _ _ h => h) (Or.inl ⟨by kernel_rfl, (by intro w' _; go_simp; with_reducible rfl)⟩) hS ?_
              go_simp
              refine wpAnyH_take (i := 1) rfl (by kernel_rfl) (by kernel_rfl) (by kernel_rfl) (fun _ _ _ h => h) (Or.inl ⟨by kernel_rfl, (by intro w' _; go_simp; with_reducible rfl)⟩) hS ?_
              go_simp
              refine wpAnyH_take (i := 3) rfl (by kernel_rfl) (by kernel_rfl) (by kernel_rfl) (fun _ _ _ h => h) (Or.inl ⟨by kernel_rfl, (by intro w' _; go_simp; with_reducible rfl)⟩) hS ?_
              go_simp
              refine wpAnyH_take (i := 4) rfl (by kernel_rfl) (by kernel_rfl) (by kernel_rfl) (fun _ _ _ h => h) (Or.inl ⟨by kernel_rfl, (by intro w' _; go_simp; with_reducible rfl)⟩) hS ?_
              go_simp
              refine wpAnyH_take (i := 5) rfl (by kernel_rfl) (by kernel_rfl) (by kernel_rfl) (fun _ _ _ h => h) (Or.inl ⟨by kernel_rfl, (by intro w' _; go_simp; with_reducible rfl)⟩) hS ?_
              go_simp
              refine wpAnyH_take (i := 6) rfl (by kernel_rfl) (by kernel_rfl) (by kernel_rfl) (fun _ _ _ h => h) (Or.inl ⟨by kernel_rfl, (by intro w' _; go_simp; with_reducible rfl)⟩) hS ?_
              go_simp
              refine wpAnyH_take (i := 7) (v := .int .u16 (xn : Int)) rfl (by kernel_rfl) (by kernel_rfl) (by kernel_rfl) (fun _ _ _ h => h) (Or.inl ⟨by kernel_rfl, (by intro w' hw'; obtain ⟨hb_, c0_, c1_⟩ := hw'; go_simp)⟩) hS ?_
              go_simp
              refine wpAnyH_take (i := 9) rfl (by kernel_rfl) (by kernel_rfl) (by kernel_rfl) (fun _ _ _ h => h) (Or.inl ⟨by kernel_rfl, (by intro w' _; go_simp; with_reducible rfl)⟩) hS ?_
              go_simp
              refine wpAnyH_take (i := 10) rfl (by kernel_rfl) (by kernel_rfl) (by kernel_rfl) (fun _ _ _ h => h) (Or.inl ⟨by kernel_rfl, (by intro w' _; go_simp; with_reducible rfl)⟩) hS ?_
              go_simp
              refine wpAnyH_take (i := 11) rfl (by kernel_rfl) (by kernel_rfl) (by kernel_rfl) (fun _ _ _ h => h) (Or.inl ⟨by kernel_rfl, (by intro w' _; go_simp; with_reducible rfl)⟩) hS ?_
              go_simp
              refine wpAnyH_take (i := 12) rfl (by kernel_rfl) (by kernel_rfl) (by kernel_rfl) (fun _ _ _ h => h) (Or.inl ⟨by kernel_rfl, (by intro w' _; go_simp; with_reducible rfl)⟩) hS ?_
              go_simp
              refine wpAnyH_take (i := 13) (v := .int .u16 y) rfl (by kernel_rfl) (by kernel_rfl) (by kernel_rfl) (fun _ _ _ h => h) (Or.inl ⟨by kernel_rfl, (by intro w' hw'; obtain ⟨hb_, c0_, c1_⟩ := hw'; go_simp)⟩) hS ?_
              go_simp
              refine wpAnyH_take (i := 14) (v := .int .i64 y) rfl (by kernel_rfl) (by kernel_rfl) (by kernel_rfl) (fun _ _ _ h => h) (Or.inl ⟨by kernel_rfl, (by intro w' hw'; have wr_ := HWY.out; go_simp)⟩) hS ?_
              go_simp
              refine wpAnyH_ready (rs := [2, 8]) (by kernel_rfl) (by simp) ?_
              refine AllReadyH.cons rfl (fun K hK => ?_) (AllReadyH.cons rfl (fun K hK => ?_) AllReadyH.nil)
              · have kf := HI0.out.cells.2.1
                go_simp
                clear kf
                refine hK.out _ _ hS (fun _ => ?_)
                clear hK K
                refine wpAnyH_ready (rs := [8]) (by kernel_rfl) (by simp) ?_
                refine AllReadyH.cons rfl (fun K hK => ?_) AllReadyH.nil
                go_simp
                refine (HSG.out _).mono ?_
                rintro e w8_2_8 ⟨q, rfl, hsz, hh⟩
                have hS_2_8 := hS.next hh
                have HI_2_8 := Lib.hid (HI0.out.next hh)
                obtain ⟨sq, hsq⟩ : ∃ b, rneg q = b := ⟨_, rfl⟩
                obtain ⟨nq, hnq⟩ : ∃ b, rnum q = b := ⟨_, rfl⟩
                obtain ⟨dq, hdq⟩ : ∃ b, rden q = b := ⟨_, rfl⟩
                have HXB : Hid (rqS ⟨sq, nq, dq⟩) := ⟨q, hsz, by rw [← hsq, ← hnq, ← hdq]; rfl⟩
                rw [ratV_def q hsq hnq hdq]
                clear hh hsq hnq hdq hsz
                refine hK.out _ _ hS_2_8 (fun _ => ?_)
                clear hK K
                refine wpAnyH_take (i := 15) (v := .agg #[.bool sq, .string nq, .string dq, .int .i64 y]) rfl (by kernel_rfl) (by kernel_rfl) (by kernel_rfl) (fun _ _ _ h => h) (Or.inl ⟨by kernel_rfl, (by intro w' _; go_simp)⟩) hS_2_8 ?_
                go_simp
                refine wpAnyH_ready (rs := [16]) (by kernel_rfl) (by simp) ?_
                refine AllReadyH.cons rfl (fun K hK => ?_) AllReadyH.nil
                go_simp
                have hS_2_8_16 := hS_2_8.next (bel_alloc w8_2_8 (.cells #[.bool sq, .string nq, .string dq, .int .i64 y] 51))
                have HI_2_8_16 := Lib.hid (HI_2_8.out.next (bel_alloc w8_2_8 (.cells #[.bool sq, .string nq, .string dq, .int .i64 y] 51)))
                have HK_2_8_16 := Lib.hid (blk_new w8_2_8 (.cells #[.bool sq, .string nq, .string dq, .int .i64 y] 51))
                refine hK.out _ _ hS_2_8_16 (fun _ => ?_)
                clear hK K
                refine wpAnyH_ready (rs := [17]) (by kernel_rfl) (by simp) ?_
                refine AllReadyH.cons rfl (fun K hK => ?_) AllReadyH.nil
                have hsz_ := HI_2_8_16.out.s
                refine step_append_lies _ rfl (.tmp 84) (.tmp 98) 32 rfl B 51 i2 _ 4 48 Tryd.underlying32 HF2.out.1 HF2.out.2.1 HF2.out.2.2.1 HF2.out.2.2.2 rfl (by decide) (.slice A2 opts.length c2) opts.length (opts.flatMap optV) (by simp [Act.eval, Act.put]) HI_2_8_16.out.o ⟨w8_2_8.heap.size, 0, none⟩ 1 1 [.bool sq, .string nq, .string dq, .int .i64 y] (by simp [Act.eval, Act.put]) rfl (World.news_of_block HK_2_8_16.out) (by simp [Value.oneCell']) (by decide) (by have := HKL.out; simp only [maxLen]; omega) (by have := HKL.out; omega) hsz_ _ rfl ?_
                intro g' cap w' hown hgr hor hlt3
                have hg1 := blk_grown HI_2_8_16.out.o HI_2_8_16.out.r (by decide) hgr
                have HG1 := Lib.hid hg1
                have hS9 := hS_2_8_16.grown hgr (fun q hq => (HI_2_8_16.out.o.lt q hq).1) (by omega)
                have HN9 := Lib.hid (HI_2_8_16.out.opt hwB hgl HXB.out HYB.out (by have := HKL.out; omega) hown hgr)
                refine hK.out _ _ hS9 (fun _ => ?_)
                clear hK K hown hgr hor hg1
                refine wpAnyH_take (i := 18) rfl (by kernel_rfl) (by kernel_rfl) (by kernel_rfl) (fun _ _ _ h => h) (Or.inl ⟨by kernel_rfl, (by intro w' _; go_simp; with_reducible rfl)⟩) hS9 ?_
                go_simp
                refine wpAnyH_take (i := 19) rfl (by kernel_rfl) (by kernel_rfl) (by kernel_rfl) (fun _ _ _ h => h) (Or.inl ⟨by kernel_rfl, (by intro w' _; go_simp; with_reducible rfl)⟩) hS9 ?_
                go_simp
                have kf : w'.cell? ⟨g, 13, none⟩ = some (.slice A2 opts.length c2) := by rw [cell_of_row w' g 13 _ _ (0, 0) HG1.out]; rfl
                have ff : w'.frozen? ⟨g, 13, none⟩ = false := frozen_of_row w' g 13 _ _ HG1.out
                have lf : g < w'.heap.size := (Array.getElem?_eq_some_iff.1 HG1.out).1
                refine wpAnyH_ready (rs := [20]) (by kernel_rfl) (by simp) ?_
                refine AllReadyH.cons rfl (fun K hK => ?_) AllReadyH.nil
                go_simp
                clear kf ff lf
                refine hK.out _ _ (hS9.far (by omega)) (fun _ => ?_)
                clear hK K
                refine wpAnyH_done (by kernel_rfl) ?_ _
                clear hS9 HG1
                go_wp2_with fail
                go_roundw
                case measure => simp [intOf]; omega
                case rel => exact ⟨k + 1, _, _, _, by omega, by go_num, (show _ = _ by simp [HKL.out]), HN9⟩
              · go_simp
                refine (HSG.out _).mono ?_
                rintro e w8_8 ⟨q, rfl, hsz, hh⟩
                have hS_8 := hS.next hh
                have HI_8 := Lib.hid (HI0.out.next hh)
                obtain ⟨sq, hsq⟩ : ∃ b, rneg q = b := ⟨_, rfl⟩
                obtain ⟨nq, hnq⟩ : ∃ b, rnum q = b := ⟨_, rfl⟩
                obtain ⟨dq, hdq⟩ : ∃ b, rden q = b := ⟨_, rfl⟩
                have HXB : Hid (rqS ⟨sq, nq, dq⟩) := ⟨q, hsz, by rw [← hsq, ← hnq, ← hdq]; rfl⟩
                rw [ratV_def q hsq hnq hdq]
                clear hh hsq hnq hdq hsz
                refine hK.out _ _ hS_8 (fun _ => ?_)
                clear hK K
                refine wpAnyH_take (i := 15) (v := .agg #[.bool sq, .string nq, .string dq, .int .i64 y]) rfl (by kernel_rfl) (by kernel_rfl) (by kernel_rfl) (fun _ _ _ h => h) (Or.inl ⟨by kernel_rfl, (by intro w' _; go_simp)⟩) hS_8 ?_
                go_simp
                refine wpAnyH_ready (rs := [2, 16]) (by kernel_rfl) (by simp) ?_
                refine AllReadyH.cons rfl (fun K hK => ?_) (AllReadyH.cons rfl (fun K hK => ?_) AllReadyH.nil)
                · have kf := HI_8.out.cells.2.1
                  go_simp
                  clear kf
                  refine hK.out _ _ hS_8 (fun _ => ?_)
                  clear hK K
                  refine wpAnyH_ready (rs := [16]) (by kernel_rfl) (by simp) ?_
                  refine AllReadyH.cons rfl (fun K hK => ?_) AllReadyH.nil
                  go_simp
                  have hS_8_2_16 := hS_8.next (bel_alloc w8_8 (.cells #[.bool sq, .string nq, .string dq, .int .i64 y] 51))
                  have HI_8_2_16 := Lib.hid (HI_8.out.next (bel_alloc w8_8 (.cells #[.bool sq, .string nq, .string dq, .int .i64 y] 51)))
                  have HK_8_2_16 := Lib.hid (blk_new w8_8 (.cells #[.bool sq, .string nq, .string dq, .int .i64 y] 51))
                  refine hK.out _ _ hS_8_2_16 (fun _ => ?_)
                  clear hK K
                  refine wpAnyH_ready (rs := [17]) (by kernel_rfl) (by simp) ?_
                  refine AllReadyH.cons rfl (fun K hK => ?_) AllReadyH.nil
                  have hsz_ := HI_8_2_16.out.s
                  refine step_append_lies _ rfl (.tmp 84) (.tmp 98) 32 rfl B 51 i2 _ 4 48 Tryd.underlying32 HF2.out.1 HF2.out.2.1 HF2.out.2.2.1 HF2.out.2.2.2 rfl (by decide) (.slice A2 opts.length c2) opts.length (opts.flatMap optV) (by simp [Act.eval, Act.put]) HI_8_2_16.out.o ⟨w8_8.heap.size, 0, none⟩ 1 1 [.bool sq, .string nq, .string dq, .int .i64 y] (by simp [Act.eval, Act.put]) rfl (World.news_of_block HK_8_2_16.out) (by simp [Value.oneCell']) (by decide) (by have := HKL.out; simp only [maxLen]; omega) (by have := HKL.out; omega) hsz_ _ rfl ?_
                  intro g' cap w' hown hgr hor hlt3
                  have hg1 := blk_grown HI_8_2_16.out.o HI_8_2_16.out.r (by decide) hgr
                  have HG1 := Lib.hid hg1
                  have hS9 := hS_8_2_16.grown hgr (fun q hq => (HI_8_2_16.out.o.lt q hq).1) (by omega)
                  have HN9 := Lib.hid (HI_8_2_16.out.opt hwB hgl HXB.out HYB.out (by have := HKL.out; omega) hown hgr)
                  refine hK.out _ _ hS9 (fun _ => ?_)
                  clear hK K hown hgr hor hg1
                  refine wpAnyH_take (i := 18) rfl (by kernel_rfl) (by kernel_rfl) (by kernel_rfl) (fun _ _ _ h => h) (Or.inl ⟨by kernel_rfl, (by intro w' _; go_simp; with_reducible rfl)⟩) hS9 ?_
                  go_simp
                  refine wpAnyH_take (i := 19) rfl (by kernel_rfl) (by kernel_rfl) (by kernel_rfl) (fun _ _ _ h => h) (Or.inl ⟨by kernel_rfl, (by intro w' _; go_simp; with_reducible rfl)⟩) hS9 ?_
                  go_simp
                  have kf : w'.cell? ⟨g, 13, none⟩ = some (.slice A2 opts.length c2) := by rw [cell_of_row w' g 13 _ _ (0, 0) HG1.out]; rfl
                  have ff : w'.frozen? ⟨g, 13, none⟩ = false := frozen_of_row w' g 13 _ _ HG1.out
                  have lf : g < w'.heap.size := (Array.getElem?_eq_some_iff.1 HG1.out).1
                  refine wpAnyH_ready (rs := [20]) (by kernel_rfl) (by simp) ?_
                  refine AllReadyH.cons rfl (fun K hK => ?_) AllReadyH.nil
                  go_simp
                  clear kf ff lf
                  refine hK.out _ _ (hS9.far (by omega)) (fun _ => ?_)
                  clear hK K
                  refine wpAnyH_done (by kernel_rfl) ?_ _
                  clear hS9 HG1
                  go_wp2_with fail
                  go_roundw
                  case measure => simp [intOf]; omega
                  case rel => exact ⟨k + 1, _, _, _, by omega, by go_num, (show _ = _ by simp [HKL.out]), HN9⟩
                · go_simp
                  have hS_8_16 := hS_8.next (bel_alloc w8_8 (.cells #[.bool sq, .string nq, .string dq, .int .i64 y] 51))
                  have HI_8_16 := Lib.hid (HI_8.out.next (bel_alloc w8_8 (.cells #[.bool sq, .string nq, .string dq, .int .i64 y] 51)))
                  have HK_8_16 := Lib.hid (blk_new w8_8 (.cells #[.bool sq, .string nq, .string dq, .int .i64 y] 51))
                  refine hK.out _ _ hS_8_16 (fun _ => ?_)
                  clear hK K
                  refine wpAnyH_ready (rs := [2]) (by kernel_rfl) (by simp) ?_
                  refine AllReadyH.cons rfl (fun K hK => ?_) AllReadyH.nil
                  have kf := HI_8_16.out.cells.2.1
                  go_simp
                  clear kf
                  refine hK.out _ _ hS_8_16 (fun _ => ?_)
                  clear hK K
                  refine wpAnyH_ready (rs := [17]) (by kernel_rfl) (by simp) ?_
                  refine AllReadyH.cons rfl (fun K hK => ?_) AllReadyH.nil
                  have hsz_ := HI_8_16.out.s
                  refine step_append_lies _ rfl (.tmp 84) (.tmp 98) 32 rfl B 51 i2 _ 4 48 Tryd.underlying32 HF2.out.1 HF2.out.2.1 HF2.out.2.2.1 HF2.out.2.2.2 rfl (by decide) (.slice A2 opts.length c2) opts.length (opts.flatMap optV) (by simp [Act.eval, Act.put]) HI_8_16.out.o ⟨w8_8.heap.size, 0, none⟩ 1 1 [.bool sq, .string nq, .string dq, .int .i64 y] (by simp [Act.eval, Act.put]) rfl (World.news_of_block HK_8_16.out) (by simp [Value.oneCell']) (by decide) (by have := HKL.out; simp only [maxLen]; omega) (by have := HKL.out; omega) hsz_ _ rfl ?_
                  intro g' cap w' hown hgr hor hlt3
                  have hg1 := blk_grown HI_8_16.out.o HI_8_16.out.r (by decide) hgr
                  have HG1 := Lib.hid hg1
                  have hS9 := hS_8_16.grown hgr (fun q hq => (HI_8_16.out.o.lt q hq).1) (by omega)
                  have HN9 := Lib.hid (HI_8_16.out.opt hwB hgl HXB.out HYB.out (by have := HKL.out; omega) hown hgr)
                  refine hK.out _ _ hS9 (fun _ => ?_)
                  clear hK K hown hgr hor hg1
                  refine wpAnyH_take (i := 18) rfl (by kernel_rfl) (by kernel_rfl) (by kernel_rfl) (fun _ _ _ h => h) (Or.inl ⟨by kernel_rfl, (by intro w' _; go_simp; with_reducible rfl)⟩) hS9 ?_
                  go_simp
                  refine wpAnyH_take (i := 19) rfl (by kernel_rfl) (by kernel_rfl) (by kernel_rfl) (fun _ _ _ h => h) (Or.inl ⟨by kernel_rfl, (by intro w' _; go_simp; with_reducible rfl)⟩) hS9 ?_
                  go_simp
                  have kf : w'.cell? ⟨g, 13, none⟩ = some (.slice A2 opts.length c2) := by rw [cell_of_row w' g 13 _ _ (0, 0) HG1.out]; rfl
                  have ff : w'.frozen? ⟨g, 13, none⟩ = false := frozen_of_row w' g 13 _ _ HG1.out
                  have lf : g < w'.heap.size := (Array.getElem?_eq_some_iff.1 HG1.out).1
                  refine wpAnyH_ready (rs := [20]) (by kernel_rfl) (by simp) ?_
                  refine AllReadyH.cons rfl (fun K hK => ?_) AllReadyH.nil
                  go_simp
                  clear kf ff lf
                  refine hK.out _ _ (hS9.far (by omega)) (fun _ => ?_)
                  clear hK K
                  refine wpAnyH_done (by kernel_rfl) ?_ _
                  clear hS9 HG1
                  go_wp2_with fail
                  go_roundw
                  case measure => simp [intOf]; omega
                  case rel => exact ⟨k + 1, _, _, _, by omega, by go_num, (show _ = _ by simp [HKL.out]), HN9⟩
            · go_wp2_with fail
              go_meet
              exact ⟨A1, c1, legs, A2, c2, opts, HI.out⟩
          · go_wp2_with fail
            go_meet
            exact ⟨A1, c1, legs, A2, c2, opts, HI.out⟩
      case rest =>
        obtain ⟨A1, c1, legs, A2, c2, opts, hI⟩ := hcut
        have HI := Lib.hid hI
        clear hI
        go_upto_block 4 with fail
        go_cut [] (fun wx => Mid3 w g B a1 a2 a3 a4 a5 a6 an as_ ad_ cn cs cd wx)
        case first =>
          go_wp2_with fail
          go_loopw [14] (fun vi wr => ∃ (k : Nat) (A3 : Option Addr) (c3 : Nat) (pays : List Pay), k ≤ np ∧ vi = .int .i64 (k : Int) ∧ Hid (pays.length = k) ∧ Hid (RecI w g B a1 a2 a3 a4 a5 a6 an as_ ad_ cn cs cd A1 c1 legs A2 c2 opts A3 c3 pays wr)) (fun vi _ => np - (intOf vi).toNat)
          case atStart => exact ⟨0, none, 0, [], Nat.zero_le _, rfl, rfl, HI⟩
          case round =>
            clear HI
            obtain ⟨k, A3, c3, pays, hk, rfl, HKL, HI⟩ := hrel
            rename World => wo
            by_cases hlt : k < np
            · by_cases h4 : k < 6
              · obtain ⟨p, hp⟩ : ∃ p, lp[k]? = some p := getElem?_of_lt (by have := HLP.out.1; omega)
                have hpm := HLP.out.2.2 p (List.mem_of_getElem? hp)
                obtain ⟨bq, oq, hAe, hbq, hcq⟩ := Rd.at_ (enc := i16V) (fun _ => rfl) (HLP.out.2.1.below HI.out.b) hp
                subst hAe
                obtain ⟨x, y, u, v⟩ := p
                unfold i16ok at hpm
                dsimp only at hpm
                obtain ⟨⟨hx1, hx2⟩, ⟨hy1, hy2⟩, ⟨hu1, hu2⟩, hv1, hv2⟩ := hpm
                have d0 := hcq 0 _ rfl
                have d1 := hcq 1 _ rfl
                have d2 := hcq 2 _ rfl
                have d3 := hcq 3 _ rfl
                rw [Nat.add_zero] at d0
                rw [← Nat.add_assoc] at d1 d2 d3
                clear hcq hp
                have hbo : bq < wo.heap.size := by have := HI.out.b.size; omega
                have hki : (k : Int) < (np : Int) := by omega
                have HXB : Hid (i16b x) := by show i16b x; unfold i16b; omega
                have HYB : Hid (i16b y) := by show i16b y; unfold i16b; omega
                have HUB : Hid (i16b u) := by show i16b u; unfold i16b; omega
                have HVB : Hid (i16b v) := by show i16b v; unfold i16b; omega
                have HI2 := Lib.hid ((HI.out.next (bel_alloc wo (.cells #[.int .i16 x, .int .i16 y, .int .i16 u, .int .i16 v] 73))).next (bel_alloc _ (.cells #[.int .i64 x, .int .i64 y, .int .i64 u, .int .i64 v] 55)))
                have HK2 := Lib.hid (blk_new (wo.alloc (.cells #[.int .i16 x, .int .i16 y, .int .i16 u, .int .i16 v] 73)) (.cells #[.int .i64 x, .int .i64 y, .int .i64 u, .int .i64 v] 55))
                rw [World.size_alloc] at HK2
                have hsz_ := HI2.out.s
                have kf := HI.out.cells.2.2
                have hgw : g < wo.heap.size := (Array.getElem?_eq_some_iff.1 HI.out.r).1
                have ff : wo.frozen? ⟨g, 14, none⟩ = false := frozen_of_row wo g 14 _ _ HI.out.r
                go_wp2_with (at_builtin; refine wpList_append_lies _ rfl (.tmp 117) (.tmp 133) 35 rfl B 55 i3 _ 4 32 Tryd.underlying35 HF3.out.1 HF3.out.2.1 HF3.out.2.2.1 HF3.out.2.2.2 rfl (by decide) (.slice A3 pays.length c3) pays.length (pays.flatMap payV) rfl HI2.out.p ⟨wo.heap.size + 1, 0, none⟩ 1 1 [.int .i64 x, .int .i64 y, .int .i64 u, .int .i64 v] rfl rfl (World.news_of_block HK2.out) (by simp [Value.oneCell']) (by decide) (by have := HKL.out; simp only [maxLen]; omega) (by have := HKL.out; omega) hsz_ _ rfl ?_)
                intro g' cap w' hown hgr hor hlt3
                have hg1 := blk_grown HI2.out.p HI2.out.r (by decide) hgr
                have HG1 := Lib.hid hg1
                have HN9 := Lib.hid (HI2.out.pay hwB hgl HXB.out HYB.out HUB.out HVB.out (by have := HKL.out; omega) hown hgr)
                clear hown hgr hor hg1 kf ff hgw d0 d1 d2 d3
                have kf : w'.cell? ⟨g, 14, none⟩ = some (.slice A3 pays.length c3) := by rw [cell_of_row w' g 14 _ _ (0, 0) HG1.out]; rfl
                have ff : w'.frozen? ⟨g, 14, none⟩ = false := frozen_of_row w' g 14 _ _ HG1.out
                have lf : g < w'.heap.size := (Array.getElem?_eq_some_iff.1 HG1.out).1
                go_wp2_with fail
                go_roundw
                case measure => simp [intOf]; omega
                case rel => exact ⟨k + 1, _, _, _, by omega, by go_num, (show _ = _ by simp [HKL.out]), HN9⟩
              · go_wp2_with fail
                go_meet
                exact ⟨A1, c1, legs, A2, c2, opts, A3, c3, pays, HI.out⟩
            · go_wp2_with fail
              go_meet
              exact ⟨A1, c1, legs, A2, c2, opts, A3, c3, pays, HI.out⟩
        case rest =>
          obtain ⟨A1, c1, legs, A2, c2, opts, A3, c3, pays, hI⟩ := hcut
          have HI := Lib.hid hI
          clear hI
          have hq1 := HQ12.out.1
          have hq2 := HQ12.out.2
          have hra : wc.rangeAt g 0 [.int .i64 a1, .int .i64 a2, .int .i64 a3, .int .i64 a4, .int .i64 a5, .int .i64 a6, .bool an, .string as_, .string ad_, .bool cn, .string cs, .string cd, .slice A1 legs.length c1, .slice A2 opts.length c2, .slice A3 pays.length c3] := fun j v hv => by
            rw [Nat.zero_add, cell_of_row wc g j _ _ (0, 0) HI.out.r, ← hv]; simp
          have htb := there_block (n := 15) HI.out.z (by decide)
          have HQ : Hid (RecS (w.heap.size + 2) a1 a2 a3 a4 a5 a6 an as_ ad_ cn cs cd A1 legs.length c1 A2 opts.length c2 A3 pays.length c3 (wc.setCells (w.heap.size + 2) 0 [.int .i64 a1, .int .i64 a2, .int .i64 a3, .int .i64 a4, .int .i64 a5, .int .i64 a6, .bool an, .string as_, .string ad_, .bool cn, .string cs, .string cd, .slice A1 legs.length c1, .slice A2 opts.length c2, .slice A3 pays.length c3])) := setCells_whole HI.out.z rfl
          have HB : Hid (Below w.heap.size w (wc.setCells (w.heap.size + 2) 0 [.int .i64 a1, .int .i64 a2, .int .i64 a3, .int .i64 a4, .int .i64 a5, .int .i64 a6, .bool an, .string as_, .string ad_, .bool cn, .string cs, .string cd, .slice A1 legs.length c1, .slice A2 opts.length c2, .slice A3 pays.length c3])) := below_setCells (by omega) _ 0 HI.out.b
          have hsm : RecSmall [a1, a2, a3, a4, a5, a6] ⟨an, as_, ad_⟩ ⟨cn, cs, cd⟩ legs opts pays := ⟨HZ.out, hq1, hq2, HI.out.ll, HI.out.lb, HI.out.ol, HI.out.ob, HI.out.pl, HI.out.pb⟩
          have HS := Lib.hid hsm
          have HF : Hid (RecFit a1 a2 a3 a4 a5 a6 an as_ ad_ cn cs cd A1 legs.length c1 A2 opts.length c2 A3 pays.length c3 legs opts pays (wc.setCells (w.heap.size + 2) 0 [.int .i64 a1, .int .i64 a2, .int .i64 a3, .int .i64 a4, .int .i64 a5, .int .i64 a6, .bool an, .string as_, .string ad_, .bool cn, .string cs, .string cd, .slice A1 legs.length c1, .slice A2 opts.length c2, .slice A3 pays.length c3])) := hsm.fit a1 a2 a3 a4 a5 a6 an as_ ad_ cn cs cd A1 legs.length c1 A2 opts.length c2 A3 pays.length c3 rfl rfl rfl (Rd.of_own (own_sets HI.out.l HI.out.z (by decide))) (Rd.of_own (own_sets HI.out.o HI.out.z (by decide))) (Rd.of_own (own_sets HI.out.p HI.out.z (by decide)))
          clear hsm HI
          go_wp2_with (first | (refine wpList_load_mid rfl 37 (.tmp 11) rfl g 0 rfl [.int .i64 a1, .int .i64 a2, .int .i64 a3, .int .i64 a4, .int .i64 a5, .int .i64 a6, .bool an, .string as_, .string ad_, .bool cn, .string cs, .string cd, .slice A1 legs.length c1, .slice A2 opts.length c2, .slice A3 pays.length c3] _ hra Tryd.underlying37 rfl (by kernel_rfl) ?_) | (refine wpList_store_mid rfl 37 (.tmp 10) (.tmp 136) rfl (w.heap.size + 1 + 1) 0 #[.int .i64 a1, .int .i64 a2, .int .i64 a3, .int .i64 a4, .int .i64 a5, .int .i64 a6, .bool an, .string as_, .string ad_, .bool cn, .string cs, .string cd, .slice A1 legs.length c1, .slice A2 opts.length c2, .slice A3 pays.length c3] rfl rfl htb (by kernel_rfl) (by simp [Value.oneCell']) ?_))
          obtain ⟨k0, k1, k2, k3, k4, k5, k6, k7, k8, k9, k10, k11, k12, k13, k14⟩ := RecS.cells a1 a2 a3 a4 a5 a6 an as_ ad_ cn cs cd A1 legs.length c1 A2 opts.length c2 A3 pays.length c3 HQ.out
          exact bodyPost_ret (v := .agg #[.int .i64 a1, .int .i64 a2, .int .i64 a3, .int .i64 a4, .int .i64 a5, .int .i64 a6, .bool an, .string as_, .string ad_, .bool cn, .string cs, .string cd, .slice A1 legs.length c1, .slice A2 opts.length c2, .slice A3 pays.length c3]) (by simp [results, Tryd.results15, go_sem, k0, k1, k2, k3, k4, k5, k6, k7, k8, k9, k10, k11, k12, k13, k14]) rfl ⟨a1, a2, a3, a4, a5, a6, an, as_, ad_, cn, cs, cd, A1, legs.length, c1, A2, opts.length, c2, A3, pays.length, c3, legs, opts, pays, rfl, HF.out, HS.out, HB.out⟩

end Go.Proofs.YtcljkdjmmolfoaaDoor

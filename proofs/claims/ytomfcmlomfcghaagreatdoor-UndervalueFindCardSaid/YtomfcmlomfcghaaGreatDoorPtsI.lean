/- Parties under construction: a struct's box whose three lists are owned rows. -/
import Derived.Test.YtomfcmlomfcghaaGreatDoorPtyE
import Derived.Test.YtomfcmlomfcghaaGreatDoorPtyD
import Derived.Test.YtomfcmlomfcghaaGreatDoorM28
import Derived.Deep.RegionHeld3
set_option linter.unusedVariables false
set_option linter.unusedSimpArgs false
namespace Go.Proofs.YtomfcmlomfcghaaGreatDoor
open Go.RowKit

theorem flat_snocP {α : Type} (f : α → List Value) (l : List α) (x : α) : l.flatMap f ++ f x = (l ++ [x]).flatMap f := by simp
/-- an owned row is kept by a store below its base -/
theorem own_setB {W : World} {B2 n2 S2 q j : Nat} {v2 u : Value} {xs2 : List Value} {E2 : TypeId} (h2 : W.ownsRow B2 E2 S2 v2 n2 xs2) (hq : q < B2) : (W.setCell ⟨q, j, none⟩ u).ownsRow B2 E2 S2 v2 n2 xs2 := by
  refine ⟨h2.1, ?_⟩
  rcases h2.2 with hn | ⟨g, cap, cur, rfl, hb2, hgg, rest⟩
  · exact .inl hn
  · exact .inr ⟨g, cap, cur, rfl, hb2, (heap_setCell_other W ⟨q, j, none⟩ g u (by show g ≠ q; omega)).trans hgg, rest⟩
theorem blk_grownB {W W' : World} {B n g S : Nat} {v : Value} {xs : List Value} {E : TypeId} {o : Obj} (h : W.ownsRow B E S v n xs) (hg : W.heap[g]? = some o) (hB : g < B) (hgr : W.grownBy W' v.ownBlock) : W'.heap[g]? = some o := by
  refine (hgr.block g (Array.getElem?_eq_some_iff.1 hg).1 (fun e => ?_)).trans hg
  have := (h.lt g e.symm).1
  omega
/-- an owned row of another type is kept by an append -/
theorem own_grownT {W W' : World} {B B2 n n2 S S2 : Nat} {v v2 : Value} {xs xs2 : List Value} {E E2 : TypeId} (h : W.ownsRow B E S v n xs) (h2 : W.ownsRow B2 E2 S2 v2 n2 xs2) (hT : E2 ≠ E) (hgr : W.grownBy W' v.ownBlock) : W'.ownsRow B2 E2 S2 v2 n2 xs2 := by
  refine ⟨h2.1, ?_⟩
  rcases h2.2 with hn | ⟨g, cap, cur, rfl, hb2, hgg, rest⟩
  · exact .inl hn
  · refine .inr ⟨g, cap, cur, rfl, hb2, ?_, rest⟩
    refine (hgr.block g (Array.getElem?_eq_some_iff.1 hgg).1 (fun e => ?_)).trans hgg
    rcases h.2 with ⟨rfl, _⟩ | ⟨g', cap', cur', rfl, _, hgg', _⟩
    · simp [Value.ownBlock] at e
    · simp only [Value.ownBlock, Option.some.injEq] at e
      subst e
      rw [hgg] at hgg'
      simp only [Option.some.injEq, Obj.cells.injEq] at hgg'
      exact hT hgg'.2.1
theorem PBox.set0 {q : Nat} {Ak : Option Addr} {nk ck : Nat} {As : Option Addr} {ns cs : Nat} {At : Option Addr} {nt ct : Nat} {W : World} (h : PBox q Ak nk ck As ns cs At nt ct W) (A : Option Addr) (n c : Nat) : PBox q A n c As ns cs At nt ct (W.setCell ⟨q, 0, none⟩ (.slice A n c)) := heap_setCell_same W q 0 _ _ _ h
theorem PBox.set1 {q : Nat} {Ak : Option Addr} {nk ck : Nat} {As : Option Addr} {ns cs : Nat} {At : Option Addr} {nt ct : Nat} {W : World} (h : PBox q Ak nk ck As ns cs At nt ct W) (A : Option Addr) (n c : Nat) : PBox q Ak nk ck A n c At nt ct (W.setCell ⟨q, 1, none⟩ (.slice A n c)) := heap_setCell_same W q 1 _ _ _ h
theorem PBox.set2 {q : Nat} {Ak : Option Addr} {nk ck : Nat} {As : Option Addr} {ns cs : Nat} {At : Option Addr} {nt ct : Nat} {W : World} (h : PBox q Ak nk ck As ns cs At nt ct W) (A : Option Addr) (n c : Nat) : PBox q Ak nk ck As ns cs A n c (W.setCell ⟨q, 2, none⟩ (.slice A n c)) := heap_setCell_same W q 2 _ _ _ h
theorem PBox.store {q : Nat} {Ak : Option Addr} {nk ck : Nat} {As : Option Addr} {ns cs : Nat} {At : Option Addr} {nt ct : Nat} {W : World} (h : PBox q Ak nk ck As ns cs At nt ct W) : W.frozen? ⟨q, 0, none⟩ = false ∧ W.frozen? ⟨q, 1, none⟩ = false ∧ W.frozen? ⟨q, 2, none⟩ = false ∧ q < W.heap.size := ⟨frozen_of_row W q _ _ _ h, frozen_of_row W q _ _ _ h, frozen_of_row W q _ _ _ h, (Array.getElem?_eq_some_iff.1 h).1⟩

/-- the box X of parties under construction, the result's box R, the three owned lists -/
structure PBI (w : World) (X R B : Nat) (Ak : Option Addr) (ck : Nat) (ks : List Int) (As : Option Addr) (cs : Nat) (st : List Stk) (At : Option Addr) (ct : Nat) (ts : List (Int × Int)) (W : World) : Prop where
  x : PBox X Ak ks.length ck As st.length cs At ts.length ct W
  r : PBox R none 0 0 none 0 0 none 0 0 W
  k : W.ownsRow B 3 1 (.slice Ak ks.length ck) ks.length (ks.flatMap intV)
  s : W.ownsRow B 72 5 (.slice As st.length cs) st.length (st.flatMap stkV)
  t : W.ownsRow B 87 2 (.slice At ts.length ct) ts.length (ts.flatMap tieV)
  b : Below w.heap.size w W
  z : B ≤ W.heap.size
section
variable {w : World} {X R B : Nat} {Ak : Option Addr} {ck : Nat} {ks : List Int} {As : Option Addr} {cs : Nat} {st : List Stk} {At : Option Addr} {ct : Nat} {ts : List (Int × Int)} {W W' : World}
theorem PBI.next (h : PBI w X R B Ak ck ks As cs st At ct ts W) (hb : Below W.heap.size W W') : PBI w X R B Ak ck ks As cs st At ct ts W' :=
  ⟨h.x.next hb, h.r.next hb, own_below h.k hb, own_below h.s hb, own_below h.t hb, h.b.trans (hb.mono h.b.size), Nat.le_trans h.z hb.size⟩
theorem PBI.drew (h : PBI w X R B Ak ck ks As cs st At ct ts W) : PBI w X R B Ak ck ks As cs st At ct ts W.drew := ⟨h.x, h.r, h.k, h.s, h.t, h.b.drew, h.z⟩
theorem PBI.far (h : PBI w X R B Ak ck ks As cs st At ct ts W) {q j : Nat} (hX : X ≠ q) (hR : R ≠ q) (hq : q < B) (hw : w.heap.size ≤ q) (u : Value) : PBI w X R B Ak ck ks As cs st At ct ts (W.setCell ⟨q, j, none⟩ u) :=
  ⟨h.x.other (a := ⟨q, j, none⟩) hX u, h.r.other (a := ⟨q, j, none⟩) hR u, own_setB h.k hq, own_setB h.s hq, own_setB h.t hq, h.b.setCell (by show w.heap.size ≤ q; exact hw) u, by rw [show (W.setCell ⟨q, j, none⟩ u).heap.size = W.heap.size by simp]; exact h.z⟩
theorem PBI.kind (h : PBI w X R B Ak ck ks As cs st At ct ts W) (hwB : w.heap.size ≤ B) (hXB : X < B) (hRB : R < B) (hXR : R ≠ X) (hwX : w.heap.size ≤ X) {g' cap : Nat} {x : Int}
    (hown : W'.ownsRow B 3 1 (.slice (some ⟨g', 0, none⟩) (ks.length + 1) cap) (ks.length + 1) (ks.flatMap intV ++ [.int .i64 x])) (hgr : W.grownBy W' (Value.slice Ak ks.length ck).ownBlock) :
    PBI w X R B (some ⟨g', 0, none⟩) cap (ks ++ [x]) As cs st At ct ts (W'.setCell ⟨X, 0, none⟩ (.slice (some ⟨g', 0, none⟩) (ks.length + 1) cap)) := by
  have hx1 : PBox X Ak ks.length ck As st.length cs At ts.length ct W' := blk_grownB h.k h.x hXB hgr
  have hr1 : PBox R none 0 0 none 0 0 none 0 0 W' := blk_grownB h.k h.r hRB hgr
  have e : (ks ++ [x]).length = ks.length + 1 := by simp
  have e2 := flat_snocP intV ks x
  refine ⟨?_, hr1.other (a := ⟨X, 0, none⟩) hXR _, ?_, own_setB (own_grownT h.k h.s (by decide) hgr) hXB, own_setB (own_grownT h.k h.t (by decide) hgr) hXB, ?_, ?_⟩
  · rw [e]; exact hx1.set0 _ _ _
  · rw [e, ← e2]; exact own_setB hown hXB
  · exact (Below.grown h.b hgr (Nat.le_trans hwB h.z) (fun q hq => Nat.le_trans hwB (h.k.lt q hq).1)).setCell (by show w.heap.size ≤ X; exact hwX) _
  · rw [show (W'.setCell ⟨X, 0, none⟩ (.slice (some ⟨g', 0, none⟩) (ks.length + 1) cap)).heap.size = W'.heap.size by simp]; exact Nat.le_trans h.z hgr.size
theorem PBI.stake (h : PBI w X R B Ak ck ks As cs st At ct ts W) (hwB : w.heap.size ≤ B) (hXB : X < B) (hRB : R < B) (hXR : R ≠ X) (hwX : w.heap.size ≤ X) {g' cap : Nat} {s : Stk}
    (hown : W'.ownsRow B 72 5 (.slice (some ⟨g', 0, none⟩) (st.length + 1) cap) (st.length + 1) (st.flatMap stkV ++ stkV s)) (hgr : W.grownBy W' (Value.slice As st.length cs).ownBlock) :
    PBI w X R B Ak ck ks (some ⟨g', 0, none⟩) cap (st ++ [s]) At ct ts (W'.setCell ⟨X, 1, none⟩ (.slice (some ⟨g', 0, none⟩) (st.length + 1) cap)) := by
  have hx1 : PBox X Ak ks.length ck As st.length cs At ts.length ct W' := blk_grownB h.s h.x hXB hgr
  have hr1 : PBox R none 0 0 none 0 0 none 0 0 W' := blk_grownB h.s h.r hRB hgr
  have e : (st ++ [s]).length = st.length + 1 := by simp
  have e2 := flat_snocP stkV st s
  refine ⟨?_, hr1.other (a := ⟨X, 1, none⟩) hXR _, own_setB (own_grownT h.s h.k (by decide) hgr) hXB, ?_, own_setB (own_grownT h.s h.t (by decide) hgr) hXB, ?_, ?_⟩
  · rw [e]; exact hx1.set1 _ _ _
  · rw [e, ← e2]; exact own_setB hown hXB
  · exact (Below.grown h.b hgr (Nat.le_trans hwB h.z) (fun q hq => Nat.le_trans hwB (h.s.lt q hq).1)).setCell (by show w.heap.size ≤ X; exact hwX) _
  · rw [show (W'.setCell ⟨X, 1, none⟩ (.slice (some ⟨g', 0, none⟩) (st.length + 1) cap)).heap.size = W'.heap.size by simp]; exact Nat.le_trans h.z hgr.size
theorem PBI.tie (h : PBI w X R B Ak ck ks As cs st At ct ts W) (hwB : w.heap.size ≤ B) (hXB : X < B) (hRB : R < B) (hXR : R ≠ X) (hwX : w.heap.size ≤ X) {g' cap : Nat} {x y : Int}
    (hown : W'.ownsRow B 87 2 (.slice (some ⟨g', 0, none⟩) (ts.length + 1) cap) (ts.length + 1) (ts.flatMap tieV ++ [.int .i64 x, .int .i64 y])) (hgr : W.grownBy W' (Value.slice At ts.length ct).ownBlock) :
    PBI w X R B Ak ck ks As cs st (some ⟨g', 0, none⟩) cap (ts ++ [(x, y)]) (W'.setCell ⟨X, 2, none⟩ (.slice (some ⟨g', 0, none⟩) (ts.length + 1) cap)) := by
  have hx1 : PBox X Ak ks.length ck As st.length cs At ts.length ct W' := blk_grownB h.t h.x hXB hgr
  have hr1 : PBox R none 0 0 none 0 0 none 0 0 W' := blk_grownB h.t h.r hRB hgr
  have e : (ts ++ [(x, y)]).length = ts.length + 1 := by simp
  have e2 := flat_snocP tieV ts (x, y)
  refine ⟨?_, hr1.other (a := ⟨X, 2, none⟩) hXR _, own_setB (own_grownT h.t h.k (by decide) hgr) hXB, own_setB (own_grownT h.t h.s (by decide) hgr) hXB, ?_, ?_, ?_⟩
  · rw [e]; exact hx1.set2 _ _ _
  · rw [e, ← e2]; exact own_setB hown hXB
  · exact (Below.grown h.b hgr (Nat.le_trans hwB h.z) (fun q hq => Nat.le_trans hwB (h.t.lt q hq).1)).setCell (by show w.heap.size ≤ X; exact hwX) _
  · rw [show (W'.setCell ⟨X, 2, none⟩ (.slice (some ⟨g', 0, none⟩) (ts.length + 1) cap)).heap.size = W'.heap.size by simp]; exact Nat.le_trans h.z hgr.size
theorem PBI.rd (h : PBI w X R B Ak ck ks As cs st At ct ts W) : PRd Ak ks.length As st.length At ts.length ⟨ks, st, ts⟩ W :=
  ⟨Rd.of_own h.k, Rd.of_own h.s, Rd.of_own h.t, rfl, rfl, rfl⟩
end
theorem Tryz.info_stake : (Tryz.prog.info? 72).map (fun i => (i.zero, i.size, i.bytes)) = some (some (.agg #[.int .i64 0, .int .i64 0, .bool false, .string ⟨#[]⟩, .string ⟨#[]⟩]), 5, 56) := by kernel_rfl
theorem Tryz.info_tie : (Tryz.prog.info? 87).map (fun i => (i.zero, i.size, i.bytes)) = some (some (.agg #[.int .i64 0, .int .i64 0]), 2, 16) := by kernel_rfl
theorem cells_int1 : (Value.int .i64 0).cells = #[.int .i64 0] := by kernel_rfl
theorem make_ints (m : Nat) (hm : m ≤ 1000) (W : World) : (Instr.makeSlice 22 (.int .i64 (m : Int)) (.int .i64 (m : Int))).run Tryz.prog W = .ok (.slice (some ⟨W.heap.size, 0, none⟩) m m) (W.alloc (.cells (madeCells #[.int .i64 0] m) 3)) := by
  obtain ⟨i, hi, hz, hs, hb⟩ := info_parts Tryz.info_int
  have hc := cells_int1
  have := run_make (P := Tryz.prog) W 22 3 i _ Tryz.underlying22 hi hz .i64 .i64 m m (by omega) (Int.le_refl _) (by rw [hb]; omega) (by omega)
  simp only [Int.toNat_natCast, hs, hc, Nat.mul_one] at this
  exact this
theorem own_cap {w : World} {base n c : Nat} {e : TypeId} {S : Nat} {A : Option Addr} {xs : List Value} (h : w.ownsRow base e S (.slice A n c) n xs) : n ≤ c := by
  obtain ⟨A', c', e', _, h'⟩ := own_shape h
  injection e' with _ _ e'
  rw [e']; exact h'
/-- what Parties returns -/
def PartsPost (mt : Nat) (w : World) (e : Ending) (w' : World) : Prop :=
  ∃ (Ak : Option Addr) (ck : Nat) (ks : List Int) (As : Option Addr) (cs : Nat) (st : List Stk) (At : Option Addr) (ct : Nat) (ts : List (Int × Int)) (n : Nat) (sm : List Nat),
    e = .returned (ptyVal Ak ks.length ck As st.length cs At ts.length ct) ∧ PRd Ak ks.length As st.length At ts.length ⟨ks, st, ts⟩ w' ∧ Bld n ks st sm ∧ (∀ t ∈ ts, tieFine n t = true) ∧ ts.length ≤ 6 ∧ ts.length ≤ mt ∧ st.length ≤ cs ∧ Below w.heap.size w w'

end Go.Proofs.YtomfcmlomfcghaaGreatDoor

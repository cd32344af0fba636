/- party.Check: what lies in memory: a stake's box, a tie's box, the row of votes. -/
import Derived.Test.YtomfcmlomfcghaaGreatDoorPBase
import Derived.Test.YtomfcmlomfcghaaGreatDoorM15
set_option linter.unusedVariables false
set_option linter.unusedSimpArgs false
namespace Go.Proofs.YtomfcmlomfcghaaGreatDoor
open Go.RowKit

def SBox (g : Nat) (s : Stk) (W : World) : Prop := W.heap[g]? = some (.cells #[.int .i64 s.o, .int .i64 s.c, .bool s.v.neg, .string s.v.num, .string s.v.den] 72 (0, 0))
theorem SBox.next {g : Nat} {s : Stk} {W W' : World} (h : SBox g s W) (hb : Below W.heap.size W W') : SBox g s W' := blk_next h hb
theorem SBox.cells {g : Nat} {s : Stk} {W : World} (h : SBox g s W) : W.cell? ⟨g, 0, none⟩ = some (.int .i64 s.o) ∧ W.cell? ⟨g, 1, none⟩ = some (.int .i64 s.c) ∧ W.cell? ⟨g, 2, none⟩ = some (.bool s.v.neg) ∧ W.cell? ⟨g, 3, none⟩ = some (.string s.v.num) ∧ W.cell? ⟨g, 4, none⟩ = some (.string s.v.den) := by
  refine ⟨?_, ?_, ?_, ?_, ?_⟩
  · rw [cell_of_row W g 0 _ _ (0, 0) h]; rfl
  · rw [cell_of_row W g 1 _ _ (0, 0) h]; rfl
  · rw [cell_of_row W g 2 _ _ (0, 0) h]; rfl
  · rw [cell_of_row W g 3 _ _ (0, 0) h]; rfl
  · rw [cell_of_row W g 4 _ _ (0, 0) h]; rfl
def TBox (g : Nat) (a b : Int) (W : World) : Prop := W.heap[g]? = some (.cells #[.int .i64 a, .int .i64 b] 87 (0, 0))
theorem TBox.next {g : Nat} {a b : Int} {W W' : World} (h : TBox g a b W) (hb : Below W.heap.size W W') : TBox g a b W' := blk_next h hb
theorem TBox.cells {g : Nat} {a b : Int} {W : World} (h : TBox g a b W) : W.cell? ⟨g, 0, none⟩ = some (.int .i64 a) ∧ W.cell? ⟨g, 1, none⟩ = some (.int .i64 b) := by
  refine ⟨?_, ?_⟩
  · rw [cell_of_row W g 0 _ _ (0, 0) h]; rfl
  · rw [cell_of_row W g 1 _ _ (0, 0) h]; rfl
/-- a row of rational numbers -/
def VRow (V : Nat) (vl : List Rat) (W : World) : Prop := W.heap[V]? = some (.cells (vl.flatMap ratCells).toArray 70 (0, 0))
theorem VRow.next {V : Nat} {vl : List Rat} {W W' : World} (h : VRow V vl W) (hb : Below W.heap.size W W') : VRow V vl W' := blk_next h hb
theorem ratCells_len (q : Rat) : (ratCells q).length = 3 := rfl
theorem VRow.three {V : Nat} {vl : List Rat} {W : World} (h : VRow V vl W) {j : Nat} {q : Rat} (hj : vl[j]? = some q) :
    W.cell? ⟨V, j * 3, none⟩ = some (.bool (rneg q)) ∧ W.cell? ⟨V, j * 3 + 1, none⟩ = some (.string (rnum q)) ∧ W.cell? ⟨V, j * 3 + 2, none⟩ = some (.string (rden q)) ∧ W.frozen? ⟨V, j * 3, none⟩ = false ∧ W.frozen? ⟨V, j * 3 + 1, none⟩ = false ∧ W.frozen? ⟨V, j * 3 + 2, none⟩ = false ∧ V < W.heap.size := by
  have c : ∀ (i : Nat) (u : Value), i < 3 → (ratCells q)[i]? = some u → W.cell? ⟨V, j * 3 + i, none⟩ = some u := fun i u hi hu => by
    rw [cell_of_row W V _ _ _ (0, 0) h]
    have := flat_get ratCells 3 ratCells_len vl j i q hj hi
    simpa [hu] using this
  exact ⟨c 0 _ (by decide) rfl, c 1 _ (by decide) rfl, c 2 _ (by decide) rfl, frozen_of_row W V _ _ _ h, frozen_of_row W V _ _ _ h, frozen_of_row W V _ _ _ h, (Array.getElem?_eq_some_iff.1 h).1⟩
theorem setCells_list (b : Nat) (T : TypeId) : ∀ (vs pre old post : List Value) (W : World), W.heap[b]? = some (.cells (pre ++ old ++ post).toArray T (0, 0)) → old.length = vs.length → (W.setCells b pre.length vs).heap[b]? = some (.cells (pre ++ vs ++ post).toArray T (0, 0))
  | [], pre, old, post, W, h, hl => by
    obtain rfl : old = [] := List.eq_nil_of_length_eq_zero hl
    exact h
  | v :: r, pre, old, post, W, h, hl => by
    cases old with
    | nil => simp at hl
    | cons x old =>
      have h1 := heap_setCell_same W b pre.length _ _ v h
      have e : (pre ++ x :: old ++ post).toArray.setIfInBounds pre.length v = ((pre ++ [v]) ++ old ++ post).toArray := by
        rw [List.setIfInBounds_toArray]
        congr 1
        simp
      rw [e] at h1
      have h2 := setCells_list b T r (pre ++ [v]) old post _ h1 (by simpa using hl)
      rw [World.setCells]
      rw [List.length_append, List.length_singleton] at h2
      simpa using h2
theorem VRow.set {V : Nat} {vl : List Rat} {W : World} (h : VRow V vl W) {j : Nat} {q : Rat} (hj : vl[j]? = some q) (r : Rat) :
    VRow V (vl.set j r) (((W.setCell ⟨V, j * 3, none⟩ (.bool (rneg r))).setCell ⟨V, j * 3 + 1, none⟩ (.string (rnum r))).setCell ⟨V, j * 3 + 2, none⟩ (.string (rden r))) := by
  have hlt : j < vl.length := (List.getElem?_eq_some_iff.1 hj).1
  have e0 : vl = vl.take j ++ q :: vl.drop (j + 1) := by
    have : vl[j] = q := by rw [List.getElem?_eq_getElem hlt] at hj; exact Option.some.inj hj
    rw [← this, ← List.drop_eq_getElem_cons hlt, List.take_append_drop]
  have e1 : vl.set j r = vl.take j ++ r :: vl.drop (j + 1) := List.set_eq_take_append_cons_drop.trans (if_pos hlt)
  have hl : ((vl.take j).flatMap ratCells).length = j * 3 := by rw [flat_len ratCells 3 ratCells_len, List.length_take]; congr 1; omega
  have h2 : W.heap[V]? = some (.cells ((vl.take j).flatMap ratCells ++ ratCells q ++ (vl.drop (j + 1)).flatMap ratCells).toArray 70 (0, 0)) := by
    have : vl.flatMap ratCells = (vl.take j).flatMap ratCells ++ ratCells q ++ (vl.drop (j + 1)).flatMap ratCells := by
      conv => lhs; rw [e0]
      rw [List.flatMap_append, List.flatMap_cons, List.append_assoc]
    rw [← this]; exact h
  have h3 := setCells_list V 70 (ratCells r) _ _ _ W h2 rfl
  rw [hl] at h3
  unfold VRow
  rw [e1, List.flatMap_append, List.flatMap_cons, ← List.append_assoc]
  exact h3
/-- the votes so far -/
def votesTo (n : Nat) (l : List Stk) : List Rat := (List.range n).map fun (c : Nat) => vs (fun s => s.c == (c : Int)) l
theorem votesTo_len (n : Nat) (l : List Stk) : (votesTo n l).length = n := by unfold votesTo; rw [List.length_map, List.length_range]
theorem votesTo_at {n c : Nat} (h : c < n) (l : List Stk) : (votesTo n l)[c]? = some (vs (fun s => s.c == (c : Int)) l) := by
  unfold votesTo
  rw [List.getElem?_map, List.getElem?_range h]; rfl
theorem votesTo_snoc {n c : Nat} (h : c < n) (l : List Stk) (o : Int) (v : FQ) : votesTo n (l ++ [⟨o, (c : Int), v⟩]) = (votesTo n l).set c (vs (fun s => s.c == (c : Int)) l + fixR v) := by
  apply List.ext_getElem?
  intro d
  rw [List.getElem?_set, votesTo_len]
  by_cases hd : d < n
  · rw [votesTo_at hd, vs_snoc]
    dsimp only
    by_cases hdc : c = d
    · subst hdc
      rw [if_pos rfl, if_pos hd, if_pos (by simp)]
    · rw [if_neg hdc, votesTo_at hd, if_neg (by simp; omega)]
  · have e1 : (votesTo n (l ++ [⟨o, (c : Int), v⟩]))[d]? = none := List.getElem?_eq_none (by rw [votesTo_len]; omega)
    have e2 : (votesTo n l)[d]? = none := List.getElem?_eq_none (by rw [votesTo_len]; omega)
    rw [e1, e2, if_neg (by omega)]

end Go.Proofs.YtomfcmlomfcghaaGreatDoor

/- The days' tests, names and codes; proof.Check of a good document. -/
import Derived.Test.YtjlicnhkemfmiaaGreatDoorTMul
import Derived.Test.YtjlicnhkemfmiaaGreatDoorClm
set_option linter.unusedVariables false
set_option linter.unusedSimpArgs false
namespace Go.Proofs.YtjlicnhkemfmiaaGreatDoor
open Go.RowKit

/-- a document's box -/
def DBox (q : Nat) (i : ByteArray) (es cr : Int) (co : ByteArray) (sa : Bool) (na da : ByteArray) (nc rk : Int) (sr : Bool) (nr dr : ByteArray) (fr se : Int) (W : World) : Prop :=
  W.heap[q]? = some (.cells #[.string i, .int .i64 es, .int .i64 cr, .string co, .bool sa, .string na, .string da, .int .i64 nc, .int .i64 rk, .bool sr, .string nr, .string dr, .int .i64 fr, .int .i64 se] 63 (0, 0))
section
variable {q : Nat} {i : ByteArray} {es cr : Int} {co : ByteArray} {sa : Bool} {na da : ByteArray} {nc rk : Int} {sr : Bool} {nr dr : ByteArray} {fr se : Int} {W W' : World}
theorem DBox.next (h : DBox q i es cr co sa na da nc rk sr nr dr fr se W) (hb : Below W.heap.size W W') : DBox q i es cr co sa na da nc rk sr nr dr fr se W' := blk_next h hb
theorem DBox.cells (h : DBox q i es cr co sa na da nc rk sr nr dr fr se W) :
    W.cell? ⟨q, 0, none⟩ = some (.string i) ∧ W.cell? ⟨q, 1, none⟩ = some (.int .i64 es) ∧ W.cell? ⟨q, 2, none⟩ = some (.int .i64 cr) ∧ W.cell? ⟨q, 3, none⟩ = some (.string co) ∧
    W.cell? ⟨q, 4, none⟩ = some (.bool sa) ∧ W.cell? ⟨q, 5, none⟩ = some (.string na) ∧ W.cell? ⟨q, 6, none⟩ = some (.string da) ∧ W.cell? ⟨q, 7, none⟩ = some (.int .i64 nc) ∧ W.cell? ⟨q, 8, none⟩ = some (.int .i64 rk) ∧
    W.cell? ⟨q, 9, none⟩ = some (.bool sr) ∧ W.cell? ⟨q, 10, none⟩ = some (.string nr) ∧ W.cell? ⟨q, 11, none⟩ = some (.string dr) ∧ W.cell? ⟨q, 12, none⟩ = some (.int .i64 fr) ∧ W.cell? ⟨q, 13, none⟩ = some (.int .i64 se) := by
  refine ⟨?_, ?_, ?_, ?_, ?_, ?_, ?_, ?_, ?_, ?_, ?_, ?_, ?_, ?_⟩
  · rw [cell_of_row W q 0 _ _ (0, 0) h]; rfl
  · rw [cell_of_row W q 1 _ _ (0, 0) h]; rfl
  · rw [cell_of_row W q 2 _ _ (0, 0) h]; rfl
  · rw [cell_of_row W q 3 _ _ (0, 0) h]; rfl
  · rw [cell_of_row W q 4 _ _ (0, 0) h]; rfl
  · rw [cell_of_row W q 5 _ _ (0, 0) h]; rfl
  · rw [cell_of_row W q 6 _ _ (0, 0) h]; rfl
  · rw [cell_of_row W q 7 _ _ (0, 0) h]; rfl
  · rw [cell_of_row W q 8 _ _ (0, 0) h]; rfl
  · rw [cell_of_row W q 9 _ _ (0, 0) h]; rfl
  · rw [cell_of_row W q 10 _ _ (0, 0) h]; rfl
  · rw [cell_of_row W q 11 _ _ (0, 0) h]; rfl
  · rw [cell_of_row W q 12 _ _ (0, 0) h]; rfl
  · rw [cell_of_row W q 13 _ _ (0, 0) h]; rfl
end
theorem sgn_nn {q : Rat} (h : 0 ≤ q) : 0 ≤ sgnR q := by
  unfold sgnR
  split
  · omega
  · rw [rneg_lt, decide_eq_false (Rat.not_lt.2 h)]; simp
end Go.Proofs.YtjlicnhkemfmiaaGreatDoor

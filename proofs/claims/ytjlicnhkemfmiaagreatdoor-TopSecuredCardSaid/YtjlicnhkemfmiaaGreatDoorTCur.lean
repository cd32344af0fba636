/- currency.Check of good quotes (a map of the keys that were seen), Rate, Convert. -/
import Derived.Test.YtjlicnhkemfmiaaGreatDoorTDay
import Derived.Maps.OwnOps
import Derived.Maps.Views
import Derived.DeepKeys4
set_option linter.unusedVariables false
set_option linter.unusedSimpArgs false
namespace Go.Proofs.YtjlicnhkemfmiaaGreatDoor
open Go.RowKit Go.Maps

def QBox (g : Nat) (co : ByteArray) (dy : Int) (sr : Bool) (nr dr : ByteArray) (W : World) : Prop := W.heap[g]? = some (.cells #[.string co, .int .i64 dy, .bool sr, .string nr, .string dr] 243 (0, 0))
def KBox (g : Nat) (co : ByteArray) (dy : Int) (W : World) : Prop := W.heap[g]? = some (.cells #[.string co, .int .i64 dy] 257 (0, 0))
theorem QBox.cells {g : Nat} {co : ByteArray} {dy : Int} {sr : Bool} {nr dr : ByteArray} {W : World} (h : QBox g co dy sr nr dr W) :
    W.cell? ⟨g, 0, none⟩ = some (.string co) ∧ W.cell? ⟨g, 1, none⟩ = some (.int .i64 dy) ∧ W.cell? ⟨g, 2, none⟩ = some (.bool sr) ∧ W.cell? ⟨g, 3, none⟩ = some (.string nr) ∧ W.cell? ⟨g, 4, none⟩ = some (.string dr) := by
  refine ⟨?_, ?_, ?_, ?_, ?_⟩
  · rw [cell_of_row W g 0 _ _ (0, 0) h]; rfl
  · rw [cell_of_row W g 1 _ _ (0, 0) h]; rfl
  · rw [cell_of_row W g 2 _ _ (0, 0) h]; rfl
  · rw [cell_of_row W g 3 _ _ (0, 0) h]; rfl
  · rw [cell_of_row W g 4 _ _ (0, 0) h]; rfl
theorem KBox.cells {g : Nat} {co : ByteArray} {dy : Int} {W : World} (h : KBox g co dy W) : W.cell? ⟨g, 0, none⟩ = some (.string co) ∧ W.cell? ⟨g, 1, none⟩ = some (.int .i64 dy) := by
  refine ⟨?_, ?_⟩
  · rw [cell_of_row W g 0 _ _ (0, 0) h]; rfl
  · rw [cell_of_row W g 1 _ _ (0, 0) h]; rfl
theorem QBox.next {g : Nat} {co : ByteArray} {dy : Int} {sr : Bool} {nr dr : ByteArray} {W W' : World} (h : QBox g co dy sr nr dr W) (hb : Below W.heap.size W W') : QBox g co dy sr nr dr W' := blk_next h hb
theorem KBox.next {g : Nat} {co : ByteArray} {dy : Int} {W W' : World} (h : KBox g co dy W) (hb : Below W.heap.size W W') : KBox g co dy W' := blk_next h hb
theorem bytes_ne {a b : ByteArray} (h : a ≠ b) : (a.toList == b.toList) = false := by
  refine beq_eq_false_iff_ne.2 fun e => h ?_
  rw [ByteArray.toList_eq, ByteArray.toList_eq] at e
  exact congrArg ByteArray.mk (Array.toList_inj.1 e)
def RBox (g : Nat) (W : World) : Prop := W.heap[g]? = some (.cells #[.bool false, .string ⟨#[]⟩, .string ⟨#[]⟩] 33)
theorem RBox.next {g : Nat} {W W' : World} (h : RBox g W) (hb : Below W.heap.size W W') : RBox g W' := blk_next h hb
end Go.Proofs.YtjlicnhkemfmiaaGreatDoor

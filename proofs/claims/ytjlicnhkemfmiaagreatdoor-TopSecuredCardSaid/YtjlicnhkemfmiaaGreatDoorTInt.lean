/- currency.Convert; interest.Check, check, simple, Simple of one step. -/
import Derived.Test.YtjlicnhkemfmiaaGreatDoorTCur
set_option linter.unusedVariables false
set_option linter.unusedSimpArgs false
namespace Go.Proofs.YtjlicnhkemfmiaaGreatDoor
open Go.RowKit

/-- a number's box -/
def RB (g : Nat) (s : Bool) (n d : ByteArray) (W : World) : Prop := W.heap[g]? = some (.cells #[.bool s, .string n, .string d] 33 (0, 0))
theorem RB.next {g : Nat} {s : Bool} {n d : ByteArray} {W W' : World} (h : RB g s n d W) (hb : Below W.heap.size W W') : RB g s n d W' := blk_next h hb
theorem RB.set {g : Nat} {s : Bool} {n d : ByteArray} {W : World} (h : RB g s n d W) (s' : Bool) (n' d' : ByteArray) : RB g s' n' d' (((W.setCell ⟨g, 0, none⟩ (.bool s')).setCell ⟨g, 1, none⟩ (.string n')).setCell ⟨g, 2, none⟩ (.string d')) := by
  have e0 := heap_setCell_same W g 0 _ _ (.bool s') h
  have e1 := heap_setCell_same _ g 1 _ _ (.string n') e0
  exact heap_setCell_same _ g 2 _ _ (.string d') e1
theorem RB.other {g r : Nat} {s : Bool} {n d : ByteArray} {W : World} (h : RB r s n d W) (hne : g ≠ r) (a b c : Value) : RB r s n d (((W.setCell ⟨g, 0, none⟩ a).setCell ⟨g, 1, none⟩ b).setCell ⟨g, 2, none⟩ c) := blk_set3Q h hne a b c
theorem RB.lt {g : Nat} {s : Bool} {n d : ByteArray} {W : World} (h : RB g s n d W) : g < W.heap.size := (Array.getElem?_eq_some_iff.1 h).1
/-- three numbers' boxes -/
structure S3 (ga : Nat) (sa : Bool) (na da : ByteArray) (gb : Nat) (sb : Bool) (nb db : ByteArray) (gc : Nat) (sc : Bool) (nc dc : ByteArray) (W : World) : Prop where
  a : RB ga sa na da W
  b : RB gb sb nb db W
  c : RB gc sc nc dc W
section
variable {ga : Nat} {sa : Bool} {na da : ByteArray} {gb : Nat} {sb : Bool} {nb db : ByteArray} {gc : Nat} {sc : Bool} {nc dc : ByteArray} {W W' : World}
theorem S3.next (h : S3 ga sa na da gb sb nb db gc sc nc dc W) (hb : Below W.heap.size W W') : S3 ga sa na da gb sb nb db gc sc nc dc W' := ⟨h.a.next hb, h.b.next hb, h.c.next hb⟩
theorem S3.other {g : Nat} (h : S3 ga sa na da gb sb nb db gc sc nc dc W) (h1 : g ≠ ga) (h2 : g ≠ gb) (h3 : g ≠ gc) (x y z : Value) : S3 ga sa na da gb sb nb db gc sc nc dc (((W.setCell ⟨g, 0, none⟩ x).setCell ⟨g, 1, none⟩ y).setCell ⟨g, 2, none⟩ z) := ⟨h.a.other h1 _ _ _, h.b.other h2 _ _ _, h.c.other h3 _ _ _⟩
end
theorem Sz.div {k m : Nat} {p q : Rat} (hp : Sz k p) (hq : Sz m q) (hq0 : q ≠ 0) : Sz (k + m) (p / q) := by
  rw [rv_div p q hq0]
  exact Sz.rv (Nat.mul_ne_zero p.den_nz (natAbs_ne hq0)) (pow_mul_lt hp.1 hq.2) (pow_mul_lt hp.2 hq.1)
/-- one step of a rate -/
def StB (b : Nat) (f : Int) (sr : Bool) (nr dr : ByteArray) (W : World) : Prop := W.heap[b]? = some (.cells #[.int .i64 f, .bool sr, .string nr, .string dr] 194 (0, 0))
theorem StB.next {b : Nat} {f : Int} {sr : Bool} {nr dr : ByteArray} {W W' : World} (h : StB b f sr nr dr W) (hb : Below W.heap.size W W') : StB b f sr nr dr W' := blk_next h hb
theorem StB.lt {b : Nat} {f : Int} {sr : Bool} {nr dr : ByteArray} {W : World} (h : StB b f sr nr dr W) : b < W.heap.size := (Array.getElem?_eq_some_iff.1 h).1
theorem StB.cells {b : Nat} {f : Int} {sr : Bool} {nr dr : ByteArray} {W : World} (h : StB b f sr nr dr W) : W.cell? ⟨b, 0, none⟩ = some (.int .i64 f) ∧ W.cell? ⟨b, 1, none⟩ = some (.bool sr) ∧ W.cell? ⟨b, 2, none⟩ = some (.string nr) ∧ W.cell? ⟨b, 3, none⟩ = some (.string dr) := by
  refine ⟨?_, ?_, ?_, ?_⟩
  · rw [cell_of_row W b 0 _ _ (0, 0) h]; rfl
  · rw [cell_of_row W b 1 _ _ (0, 0) h]; rfl
  · rw [cell_of_row W b 2 _ _ (0, 0) h]; rfl
  · rw [cell_of_row W b 3 _ _ (0, 0) h]; rfl
theorem StB.other {b g : Nat} {f : Int} {sr : Bool} {nr dr : ByteArray} {W : World} (h : StB b f sr nr dr W) (hne : g ≠ b) (x y z : Value) : StB b f sr nr dr (((W.setCell ⟨g, 0, none⟩ x).setCell ⟨g, 1, none⟩ y).setCell ⟨g, 2, none⟩ z) := blk_set3Q h hne x y z
structure S2 (ga : Nat) (sa : Bool) (na da : ByteArray) (b : Nat) (f : Int) (sr : Bool) (nr dr : ByteArray) (W : World) : Prop where
  a : RB ga sa na da W
  t : StB b f sr nr dr W
section
variable {ga : Nat} {sa : Bool} {na da : ByteArray} {b : Nat} {f : Int} {sr : Bool} {nr dr : ByteArray} {W W' : World}
theorem S2.next (h : S2 ga sa na da b f sr nr dr W) (hb : Below W.heap.size W W') : S2 ga sa na da b f sr nr dr W' := ⟨h.a.next hb, h.t.next hb⟩
theorem S2.other {g : Nat} (h : S2 ga sa na da b f sr nr dr W) (h1 : g ≠ ga) (h2 : g ≠ b) (x y z : Value) : S2 ga sa na da b f sr nr dr (((W.setCell ⟨g, 0, none⟩ x).setCell ⟨g, 1, none⟩ y).setCell ⟨g, 2, none⟩ z) := ⟨h.a.other h1 _ _ _, h.t.other h2 _ _ _⟩
theorem S2.setA (h : S2 ga sa na da b f sr nr dr W) (h2 : ga ≠ b) (s : Bool) (n d : ByteArray) : S2 ga s n d b f sr nr dr (((W.setCell ⟨ga, 0, none⟩ (.bool s)).setCell ⟨ga, 1, none⟩ (.string n)).setCell ⟨ga, 2, none⟩ (.string d)) := ⟨h.a.set _ _ _, h.t.other h2 _ _ _⟩
end
end Go.Proofs.YtjlicnhkemfmiaaGreatDoor

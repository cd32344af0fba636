/- Merged of RatTimes RatSmall PlusA PlusB PlusC RatLess. -/
import Derived.Test.YtjlicnhkemfmiaaGreatDoorM14
import Derived.Test.YtjlicnhkemfmiaaGreatDoorM4
import Derived.Deep.RegionHeld3
/- insolvencyref1: Times in terms of Rat. -/
set_option linter.unusedVariables false
set_option linter.unusedSimpArgs false
namespace Go.Proofs.YtjlicnhkemfmiaaGreatDoor
open Go.RowKit

def ratObj (sa : Bool) (na da : ByteArray) : Obj := .cells #[.bool sa, .string na, .string da] 33 (0, 0)
/-- two numbers in blocks of their own -/
def TwoR (ga gb : Nat) (sa : Bool) (na da : ByteArray) (sb : Bool) (nb db : ByteArray) (W : World) : Prop :=
 W.heap[ga]? = some (ratObj sa na da) ∧ W.heap[gb]? = some (ratObj sb nb db)
theorem TwoR.next {ga gb : Nat} {sa sb : Bool} {na da nb db : ByteArray} {W W' : World} (h : TwoR ga gb sa na da sb nb db W) (hb : Below W.heap.size W W') : TwoR ga gb sa na da sb nb db W' :=
 ⟨blk_next h.1 hb, blk_next h.2 hb⟩
theorem TwoR.setCell {ga gb g j : Nat} {sa sb : Bool} {na da nb db : ByteArray} {W : World} {u : Value} (h : TwoR ga gb sa na da sb nb db W) (h1 : ga ≠ g) (h2 : gb ≠ g) : TwoR ga gb sa na da sb nb db (W.setCell ⟨g, j, none⟩ u) :=
 ⟨(heap_setCell_other W ⟨g, j, none⟩ ga u h1).trans h.1, (heap_setCell_other W ⟨g, j, none⟩ gb u h2).trans h.2⟩
theorem TwoR.three {ga gb : Nat} {sa sb : Bool} {na da nb db : ByteArray} {W : World} (h : TwoR ga gb sa na da sb nb db W) :
 W.cell? ⟨ga, 0, none⟩ = some (.bool sa) ∧ W.cell? ⟨ga, 1, none⟩ = some (.string na) ∧ W.cell? ⟨ga, 2, none⟩ = some (.string da) ∧ W.cell? ⟨gb, 0, none⟩ = some (.bool sb) ∧ W.cell? ⟨gb, 1, none⟩ = some (.string nb) ∧ W.cell? ⟨gb, 2, none⟩ = some (.string db) := by
 obtain ⟨a0, a1, a2, _⟩ := three_of h.1
 obtain ⟨b0, b1, b2, _⟩ := three_of h.2
 exact ⟨a0, a1, a2, b0, b1, b2⟩

theorem natAbs_ne {q : Rat} (h : q ≠ 0) : q.num.natAbs ≠ 0 := fun e => h (Rat.num_eq_zero.1 (by omega))
theorem rnum_isEmpty {q : Rat} (h : q ≠ 0) : (rnum q).toList.isEmpty = false := ncan_isEmpty' (natAbs_ne h)
theorem Sz.num {k : Nat} {q : Rat} (h : Sz k q) (hk : k ≤ 100000) : (rnum q).size ≤ 100000 := (Sm.can h.1 hk).2
end Go.Proofs.YtjlicnhkemfmiaaGreatDoor

/- insolvencyref1: Opposite, Signum, Plus, Minus, Less in terms of Rat. -/
namespace Go.Proofs.YtjlicnhkemfmiaaGreatDoor
open Go.RowKit

theorem neg_fields (a : Rat) : rnum (-a) = rnum a ∧ rden (-a) = rden a := by
 refine ⟨?_, rfl⟩
 rw [rnum, rnum, show (-a).num = -a.num from rfl, Int.natAbs_neg]

/-- the sign of a number -/
def sgnR (a : Rat) : Int := if a = 0 then 0 else if rneg a = true then -1 else 1

end Go.Proofs.YtjlicnhkemfmiaaGreatDoor

/- insolvencyref1.Plus in terms of Rat. -/
namespace Go.Proofs.YtjlicnhkemfmiaaGreatDoor
open Go.RowKit

end Go.Proofs.YtjlicnhkemfmiaaGreatDoor

/- insolvencyref1.Plus in terms of Rat. -/
namespace Go.Proofs.YtjlicnhkemfmiaaGreatDoor
open Go.RowKit

end Go.Proofs.YtjlicnhkemfmiaaGreatDoor

/- insolvencyref1.Plus in terms of Rat. -/
namespace Go.Proofs.YtjlicnhkemfmiaaGreatDoor
open Go.RowKit

end Go.Proofs.YtjlicnhkemfmiaaGreatDoor

/- insolvencyref1: Plus, Minus, Less in terms of Rat. -/
namespace Go.Proofs.YtjlicnhkemfmiaaGreatDoor
open Go.RowKit

end Go.Proofs.YtjlicnhkemfmiaaGreatDoor

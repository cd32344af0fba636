/- Parties: plain laws. Nothing of the program's text. -/
import Derived.Test.YtjlicnhkemfmiaaGreatDoorFixP
set_option linter.unusedVariables false
set_option linter.unusedSimpArgs false
namespace Go.Proofs.YtjlicnhkemfmiaaGreatDoor
open Go.RowKit

structure Stk where
  o : Int
  c : Int
  v : FQ
structure Prt where
  kinds : List Int
  stakes : List Stk
  ties : List (Int × Int)
def inN (n : Nat) (a : Int) : Bool := decide (0 ≤ a) && decide (a < (n : Int))
def kindAt (ks : List Int) (a : Int) : Int := ks.getD a.toNat 0
/-- a stake's parties are right -/
def stkFine (ks : List Int) (s : Stk) : Bool := inN ks.length s.o && (inN ks.length s.c && (decide (kindAt ks s.c = 2) && decide (s.o ≠ s.c)))
def tieFine (n : Nat) (t : Int × Int) : Bool := inN n t.1 && (inN n t.2 && decide (t.1 ≠ t.2))
/-- what Check = 0 tells -/
structure Good (P : Prt) : Prop where
  kl : P.kinds.length ≤ 32
  sl : P.stakes.length ≤ 64
  tl : P.ties.length ≤ 64
  s : ∀ x ∈ P.stakes, stkFine P.kinds x = true ∧ 0 < fixR x.v
  t : ∀ t ∈ P.ties, tieFine P.kinds.length t = true
theorem Good.pos {P : Prt} (h : Good P) : ∀ s ∈ P.stakes, 0 ≤ fixR s.v := fun s hs => Rat.le_of_lt (h.s s hs).2
/-! control: the least set that is closed -/
noncomputable section
open Classical
def hold (own : Int) (S : Nat → Bool) (c : Int) (s : Stk) : Bool := (s.c == c) && ((s.o == own) || S s.o.toNat)
variable {P : Prt} {own : Int}
end

end Go.Proofs.YtjlicnhkemfmiaaGreatDoor

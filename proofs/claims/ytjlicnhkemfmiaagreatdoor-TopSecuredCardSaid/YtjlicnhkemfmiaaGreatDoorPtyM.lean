/- Parties in memory. -/
import Derived.Test.YtjlicnhkemfmiaaGreatDoorPtyB
set_option linter.unusedVariables false
set_option linter.unusedSimpArgs false
namespace Go.Proofs.YtjlicnhkemfmiaaGreatDoor
open Go.RowKit

def intV (x : Int) : List Value := [.int .i64 x]
def stkV (s : Stk) : List Value := [.int .i64 s.o, .int .i64 s.c, .bool s.v.neg, .string s.v.num, .string s.v.den]
def tieV (t : Int × Int) : List Value := [.int .i64 t.1, .int .i64 t.2]
structure PRd (Ak : Option Addr) (nk : Nat) (As : Option Addr) (ns : Nat) (At : Option Addr) (nt : Nat) (P : Prt) (W : World) : Prop where
  k : Rd W W.heap.size 1 Ak P.kinds.length (P.kinds.flatMap intV)
  s : Rd W W.heap.size 5 As P.stakes.length (P.stakes.flatMap stkV)
  t : Rd W W.heap.size 2 At P.ties.length (P.ties.flatMap tieV)
  nk : nk = P.kinds.length
  ns : ns = P.stakes.length
  nt : nt = P.ties.length
theorem PRd.next {Ak : Option Addr} {nk : Nat} {As : Option Addr} {ns : Nat} {At : Option Addr} {nt : Nat} {P : Prt} {W W' : World} (h : PRd Ak nk As ns At nt P W) (hb : Below W.heap.size W W') : PRd Ak nk As ns At nt P W' :=
  ⟨h.k.next hb, h.s.next hb, h.t.next hb, h.nk, h.ns, h.nt⟩
end Go.Proofs.YtjlicnhkemfmiaaGreatDoor

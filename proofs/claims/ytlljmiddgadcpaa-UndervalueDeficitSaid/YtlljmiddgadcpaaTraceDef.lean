/- Lean's model of Trace, and its plain laws. Nothing of the program. -/
import Derived.Test.YtlljmiddgadcpaaHistDef
set_option linter.unusedVariables false
set_option linter.unusedSimpArgs false
namespace Go.Proofs.Ytlljmiddgadcpaa
open Go.RowKit

structure TSt where
  bal : List Int
  tr : List Int
  lost : Int

def gt (l : List Int) (p : Int) : Int := l.getD p.toNat 0
def st (l : List Int) (p : Int) (v : Int) : List Int := l.set p.toNat v

/-- giving up what exceeds the balances, from index k on -/
def clipOne (bal tr : List Int) (lost : Int) (k : Nat) : List Int × Int :=
  if max (bal.getD k 0) 0 < tr.getD k 0 then (tr.set k (max (bal.getD k 0) 0), lost + (tr.getD k 0 - max (bal.getD k 0) 0)) else (tr, lost)
def clipTo (bal : List Int) : Nat → List Int × Int → List Int × Int
  | 0, s => s
  | k + 1, s => let s' := clipTo bal k s; clipOne bal s'.1 s'.2 k

def payer (r : Row) : Int := if r.kind = 3 then r.to else r.frm
def payee (r : Row) : Int := if r.kind = 3 then r.frm else r.to
def spentOf (s : TSt) (r : Row) : Int := min (gt s.tr (payer r)) (max (r.amount - (max (gt s.bal (payer r)) 0 - gt s.tr (payer r))) 0)
def spendS (s : TSt) (r : Row) : TSt :=
  let n := spentOf s r
  let t1 := st s.tr (payer r) (gt s.tr (payer r) - n)
  if r.kind = 1 then { s with tr := st t1 (payee r) (gt t1 (payee r) + n) } else { s with tr := t1, lost := s.lost + n }
def moveS (s : TSt) (r : Row) : TSt :=
  if r.kind = 2 then s
  else let b1 := st s.bal (payer r) (gt s.bal (payer r) - r.amount); { s with bal := st b1 (payee r) (gt b1 (payee r) + r.amount) }
def clipS (s : TSt) : TSt := let c := clipTo s.bal s.tr.length (s.tr, s.lost); { s with tr := c.1, lost := c.2 }

/-- row i of the history, the followed one being at -/
def stepS (at_ i : Int) (s : TSt) (r : Row) : TSt :=
  if r.kind = 2 then s
  else
    let s1 := if i = at_ then { s with tr := st s.tr r.to r.amount } else if at_ < i then spendS s r else s
    let s2 := moveS s1 r
    if at_ ≤ i then clipS s2 else s2
def runS (at_ : Int) : Int → TSt → List Row → TSt
  | _, s, [] => s
  | i, s, r :: l => runS at_ (i + 1) (stepS at_ i s r) l

end Go.Proofs.Ytlljmiddgadcpaa

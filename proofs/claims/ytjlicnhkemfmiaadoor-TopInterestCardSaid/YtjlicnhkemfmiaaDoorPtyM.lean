/- Parties in memory. -/
import Derived.Test.YtjlicnhkemfmiaaDoorPtyB
set_option linter.unusedVariables false
set_option linter.unusedSimpArgs false
namespace Go.Proofs.YtjlicnhkemfmiaaDoor
open Go.RowKit

def i64b (x : Int) : Prop := -9223372036854775808 ≤ x ∧ x ≤ 9223372036854775807
def intV (x : Int) : List Value := [.int .i64 x]
def stkV (s : Stk) : List Value := [.int .i64 s.o, .int .i64 s.c, .bool s.v.neg, .string s.v.num, .string s.v.den]
def tieV (t : Int × Int) : List Value := [.int .i64 t.1, .int .i64 t.2]
/-- the parties' value -/
abbrev ptyVal (Ak : Option Addr) (nk ck : Nat) (As : Option Addr) (ns cs : Nat) (At : Option Addr) (nt ct : Nat) : Value := .agg #[.slice Ak nk ck, .slice As ns cs, .slice At nt ct]
structure PRd (Ak : Option Addr) (nk : Nat) (As : Option Addr) (ns : Nat) (At : Option Addr) (nt : Nat) (P : Prt) (W : World) : Prop where
  k : Rd W W.heap.size 1 Ak P.kinds.length (P.kinds.flatMap intV)
  s : Rd W W.heap.size 5 As P.stakes.length (P.stakes.flatMap stkV)
  t : Rd W W.heap.size 2 At P.ties.length (P.ties.flatMap tieV)
  nk : nk = P.kinds.length
  ns : ns = P.stakes.length
  nt : nt = P.ties.length
theorem PRd.next {Ak : Option Addr} {nk : Nat} {As : Option Addr} {ns : Nat} {At : Option Addr} {nt : Nat} {P : Prt} {W W' : World} (h : PRd Ak nk As ns At nt P W) (hb : Below W.heap.size W W') : PRd Ak nk As ns At nt P W' :=
  ⟨h.k.next hb, h.s.next hb, h.t.next hb, h.nk, h.ns, h.nt⟩
/-- how great the parties' numbers are -/
structure PB (m : Nat) (P : Prt) : Prop where
  m1 : 0 < m
  m2 : m ≤ 1000
  k : ∀ x ∈ P.kinds, i64b x
  s : ∀ x ∈ P.stakes, i64b x.o ∧ i64b x.c ∧ x.v.fits m
  t : ∀ x ∈ P.ties, i64b x.1 ∧ i64b x.2
  kl : P.kinds.length ≤ maxLen
  sl : P.stakes.length ≤ maxLen
  tl : P.ties.length ≤ maxLen
theorem PB.sz {m : Nat} {P : Prt} (h : PB m P) : ∀ s ∈ P.stakes, Sz m (fixR s.v) := fun s hs => fix_sz (h.s s hs).2.2 h.m1
theorem rd_int {w : World} {B : Nat} {A : Option Addr} {l : List Int} (h : Rd w B 1 A l.length (l.flatMap intV)) {k : Nat} {x : Int} (hk : l[k]? = some x) : ∃ b off, A = some ⟨b, off, none⟩ ∧ b < B ∧ w.cell? ⟨b, off + k, none⟩ = some (.int .i64 x) := by
  obtain ⟨b, off, e, hb, hc⟩ := Rd.at_ (enc := intV) (fun _ => rfl) h hk
  have := hc 0 _ rfl
  rw [Nat.mul_one, Nat.add_zero] at this
  exact ⟨b, off, e, hb, this⟩

end Go.Proofs.YtjlicnhkemfmiaaDoor

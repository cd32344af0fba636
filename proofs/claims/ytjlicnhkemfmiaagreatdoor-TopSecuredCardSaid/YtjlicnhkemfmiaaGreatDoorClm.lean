/- Quotes, documents and what a claim is worth: plain. -/
import Derived.Test.YtjlicnhkemfmiaaGreatDoorFixP
set_option linter.unusedVariables false
set_option linter.unusedSimpArgs false
namespace Go.Proofs.YtjlicnhkemfmiaaGreatDoor
open Go.RowKit

def eurB : ByteArray := ⟨#[69, 85, 82]⟩
structure Qt where
  code : ByteArray
  day : Int
  rate : Rat
def Qt.cells (q : Qt) : List Value := [.string q.code, .int .i64 q.day, .bool (rneg q.rate), .string (rnum q.rate), .string (rden q.rate)]
/-- three letters A to Z -/
def codeOk (s : ByteArray) : Prop := s.size = 3 ∧ ∀ i (h : i < s.size), 65 ≤ s[i].toNat ∧ s[i].toNat ≤ 90
structure Qt.Ok (q : Qt) : Prop where
  code : codeOk q.code
  eur : q.code ≠ eurB
  day : 0 ≤ q.day ∧ q.day ≤ 1048576
  rate : 0 < q.rate
  sz : Sz 8 q.rate
structure QtsOk (l : List Qt) : Prop where
  len : l.length ≤ 8
  each : ∀ q ∈ l, q.Ok
  apart : l.Pairwise (fun a b => ¬ (a.code = b.code ∧ a.day = b.day))
theorem QtsOk.nil : QtsOk [] := ⟨by simp, (fun q h => by cases h), List.Pairwise.nil⟩

theorem sz_zero : Sz 8 (0 : Rat) := ⟨by decide, by decide⟩
/-- a document -/
structure Dc where
  id : ByteArray
  est : Int
  cred : Int
  code : ByteArray
  amt : Rat
  inc : Int
  rank : Int
  rate : Rat
  frm : Int
  sec : Int
def Dc.cells (d : Dc) : List Value := [.string d.id, .int .i64 d.est, .int .i64 d.cred, .string d.code, .bool (rneg d.amt), .string (rnum d.amt), .string (rden d.amt), .int .i64 d.inc, .int .i64 d.rank, .bool (rneg d.rate), .string (rnum d.rate), .string (rden d.rate), .int .i64 d.frm, .int .i64 d.sec]
def isLet (n : Nat) : Bool := (decide (97 ≤ n) && decide (n ≤ 122)) || (decide (65 ≤ n) && decide (n ≤ 90))
def isDig (n : Nat) : Bool := decide (48 ≤ n) && decide (n ≤ 57)
structure nameOk (s : ByteArray) : Prop where
  pos : 0 < s.size
  len : s.size ≤ 32
  head : isLet (s[0]'pos).toNat = true
  each : ∀ i (h : i < s.size), isLet s[i].toNat = true ∨ isDig s[i].toNat = true ∨ s[i].toNat = 45 ∨ s[i].toNat = 95
structure Dc.Ok (k : Nat) (d : Dc) : Prop where
  id : nameOk d.id
  est : 0 ≤ d.est ∧ d.est ≤ 7
  cred : 0 ≤ d.cred ∧ d.cred ≤ 31
  code : codeOk d.code
  amt : 0 ≤ d.amt
  asz : Sz k d.amt
  inc : 0 ≤ d.inc ∧ d.inc ≤ 1048576
  rank : 0 ≤ d.rank ∧ d.rank ≤ 7
  rate : 0 ≤ d.rate
  rsz : Sz 8 d.rate
  frm : 0 ≤ d.frm ∧ d.frm ≤ 1048576
  nofrm : d.rate = 0 → d.frm = 0
  sec : -1 ≤ d.sec ∧ d.sec ≤ 7
def Dc.setA (d : Dc) (x : Rat) : Dc := ⟨d.id, d.est, d.cred, d.code, x, d.inc, d.rank, d.rate, d.frm, d.sec⟩
theorem Dc.Ok.setA {k m : Nat} {d : Dc} (h : d.Ok k) {x : Rat} (hx : 0 ≤ x) (hs : Sz m x) : (d.setA x).Ok m := ⟨h.id, h.est, h.cred, h.code, hx, hs, h.inc, h.rank, h.rate, h.rsz, h.frm, h.nofrm, h.sec⟩

end Go.Proofs.YtjlicnhkemfmiaaGreatDoor

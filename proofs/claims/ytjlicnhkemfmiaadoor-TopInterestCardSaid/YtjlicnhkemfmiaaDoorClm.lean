/- Quotes, documents and what a claim is worth: plain. -/
import Derived.Test.YtjlicnhkemfmiaaDoorFixP
set_option linter.unusedVariables false
set_option linter.unusedSimpArgs false
namespace Go.Proofs.YtjlicnhkemfmiaaDoor
open Go.RowKit

def eurB : ByteArray := ⟨#[69, 85, 82]⟩
structure Qt where
  code : ByteArray
  day : Int
  rate : Rat
def Qt.cells (q : Qt) : List Value := [.string q.code, .int .i64 q.day, .bool (rneg q.rate), .string (rnum q.rate), .string (rden q.rate)]
/-- three letters A to Z -/
def codeOk (s : ByteArray) : Prop := s.size = 3 ∧ ∀ i (h : i < s.size), 65 ≤ s[i].toNat ∧ s[i].toNat ≤ 90
structure Qt.Ok (q : Qt) : Prop where
  code : codeOk q.code
  eur : q.code ≠ eurB
  day : 0 ≤ q.day ∧ q.day ≤ 1048576
  rate : 0 < q.rate
  sz : Sz 8 q.rate
structure QtsOk (l : List Qt) : Prop where
  len : l.length ≤ 8
  each : ∀ q ∈ l, q.Ok
  apart : l.Pairwise (fun a b => ¬ (a.code = b.code ∧ a.day = b.day))
theorem QtsOk.nil : QtsOk [] := ⟨by simp, (fun q h => by cases h), List.Pairwise.nil⟩

/-- the day of the element at an index -/
def dayAt (l : List Qt) (b : Int) : Int := match l[b.toNat]? with | some q => q.day | none => 0
def knownQ (l : List Qt) (code : ByteArray) (k : Nat) : Bool := (l.take k).any fun q => decide (q.code = code)
/-- the index that the loop has chosen after k rounds -/
def bst (l : List Qt) (code : ByteArray) (day : Int) : Nat → Int
  | 0 => -1
  | k + 1 => match l[k]? with
    | none => bst l code day k
    | some q => if q.code = code ∧ q.day ≤ day ∧ (bst l code day k < 0 ∨ dayAt l (bst l code day k) < q.day) then (k : Int) else bst l code day k
theorem bst_bd (l : List Qt) (code : ByteArray) (day : Int) : ∀ k, -1 ≤ bst l code day k ∧ bst l code day k < k ∧ bst l code day k < l.length
  | 0 => by unfold bst; omega
  | k + 1 => by
    have := bst_bd l code day k
    unfold bst
    split
    · omega
    · rename_i q hq
      have := (List.getElem?_eq_some_iff.1 hq).1
      split <;> omega
def rateAt (l : List Qt) (b : Int) : Rat := match l[b.toNat]? with | some q => q.rate | none => 0
/-- the rate and the error -/
def rateQ (l : List Qt) (code : ByteArray) (day : Int) : Rat × Int :=
  if code = eurB then (1, 0)
  else if knownQ l code l.length = false then (0, 8)
  else if bst l code day l.length < 0 then (0, 9)
  else (rateAt l (bst l code day l.length), 0)
theorem sz_one : Sz 8 (1 : Rat) := ⟨by decide, by decide⟩
theorem sz_zero : Sz 8 (0 : Rat) := ⟨by decide, by decide⟩
theorem rateAt_sz {l : List Qt} (h : QtsOk l) (b : Int) : Sz 8 (rateAt l b) := by
  unfold rateAt
  split
  · rename_i q hq; exact (h.each q (List.mem_of_getElem? hq)).sz
  · exact sz_zero
theorem rateAt_nn {l : List Qt} (h : QtsOk l) (b : Int) : 0 ≤ rateAt l b := by
  unfold rateAt
  split
  · rename_i q hq; exact Rat.le_of_lt (h.each q (List.mem_of_getElem? hq)).rate
  · exact Rat.le_refl
theorem rateQ_sz {l : List Qt} (h : QtsOk l) (code : ByteArray) (day : Int) : Sz 8 (rateQ l code day).1 := by
  unfold rateQ
  split
  · exact sz_one
  · split
    · exact sz_zero
    · split
      · exact sz_zero
      · exact rateAt_sz h _
theorem rateQ_nn {l : List Qt} (h : QtsOk l) (code : ByteArray) (day : Int) : 0 ≤ (rateQ l code day).1 := by
  unfold rateQ
  split
  · show (0 : Rat) ≤ 1; decide
  · split
    · exact Rat.le_refl
    · split
      · exact Rat.le_refl
      · exact rateAt_nn h _
theorem rateQ_err {l : List Qt} {code : ByteArray} {day : Int} (h : (rateQ l code day).2 ≠ 0) : (rateQ l code day).1 = 0 := by
  unfold rateQ at h ⊢
  split
  · rename_i hc; rw [if_pos hc] at h; exact absurd rfl h
  · rename_i hc
    rw [if_neg hc] at h
    split
    · rfl
    · rename_i hk
      rw [if_neg hk] at h
      split
      · rfl
      · rename_i hb; rw [if_neg hb] at h; exact absurd rfl h

/-- a document -/
structure Dc where
  id : ByteArray
  est : Int
  cred : Int
  code : ByteArray
  amt : Rat
  inc : Int
  rank : Int
  rate : Rat
  frm : Int
  sec : Int
def Dc.cells (d : Dc) : List Value := [.string d.id, .int .i64 d.est, .int .i64 d.cred, .string d.code, .bool (rneg d.amt), .string (rnum d.amt), .string (rden d.amt), .int .i64 d.inc, .int .i64 d.rank, .bool (rneg d.rate), .string (rnum d.rate), .string (rden d.rate), .int .i64 d.frm, .int .i64 d.sec]
def isLet (n : Nat) : Bool := (decide (97 ≤ n) && decide (n ≤ 122)) || (decide (65 ≤ n) && decide (n ≤ 90))
def isDig (n : Nat) : Bool := decide (48 ≤ n) && decide (n ≤ 57)
structure nameOk (s : ByteArray) : Prop where
  pos : 0 < s.size
  len : s.size ≤ 32
  head : isLet (s[0]'pos).toNat = true
  each : ∀ i (h : i < s.size), isLet s[i].toNat = true ∨ isDig s[i].toNat = true ∨ s[i].toNat = 45 ∨ s[i].toNat = 95
structure Dc.Ok (k : Nat) (d : Dc) : Prop where
  id : nameOk d.id
  est : 0 ≤ d.est ∧ d.est ≤ 7
  cred : 0 ≤ d.cred ∧ d.cred ≤ 31
  code : codeOk d.code
  amt : 0 ≤ d.amt
  asz : Sz k d.amt
  inc : 0 ≤ d.inc ∧ d.inc ≤ 1048576
  rank : 0 ≤ d.rank ∧ d.rank ≤ 7
  rate : 0 ≤ d.rate
  rsz : Sz 8 d.rate
  frm : 0 ≤ d.frm ∧ d.frm ≤ 1048576
  nofrm : d.rate = 0 → d.frm = 0
  sec : -1 ≤ d.sec ∧ d.sec ≤ 7
/-- the factor on the amount, and the error -/
def factD (d : Dc) (l : List Qt) (cut : Int) : Rat × Int :=
  if cut < d.inc then (0, 16)
  else if (rateQ l d.code cut).2 ≠ 0 then (0, (rateQ l d.code cut).2)
  else if d.rate = 0 ∨ cut < d.frm then ((rateQ l d.code cut).1, 0)
  else ((rateQ l d.code cut).1 * (1 + d.rate * ((cut - d.frm : Int) : Rat) / ((365 : Int) : Rat)), 0)
def Dc.setA (d : Dc) (x : Rat) : Dc := ⟨d.id, d.est, d.cred, d.code, x, d.inc, d.rank, d.rate, d.frm, d.sec⟩
theorem factD_setA (d : Dc) (x : Rat) (l : List Qt) (cut : Int) : factD (d.setA x) l cut = factD d l cut := rfl
theorem Dc.Ok.setA {k m : Nat} {d : Dc} (h : d.Ok k) {x : Rat} (hx : 0 ≤ x) (hs : Sz m x) : (d.setA x).Ok m := ⟨h.id, h.est, h.cred, h.code, hx, hs, h.inc, h.rank, h.rate, h.rsz, h.frm, h.nofrm, h.sec⟩

end Go.Proofs.YtjlicnhkemfmiaaDoor

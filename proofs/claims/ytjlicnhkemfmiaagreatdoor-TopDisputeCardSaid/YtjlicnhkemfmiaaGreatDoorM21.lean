/- Merged of FixP Pty PtyB PtyM Clm. -/
import Derived.Test.YtjlicnhkemfmiaaGreatDoorM15
import Derived.Test.YtjlicnhkemfmiaaGreatDoorValid
/- What a struct of a sign and two strings means as a rational number: plain. -/
set_option linter.unusedVariables false
set_option linter.unusedSimpArgs false
namespace Go.Proofs.YtjlicnhkemfmiaaGreatDoor
open Go.RowKit

structure FQ where
 neg : Bool
 num : ByteArray
 den : ByteArray
def FQ.vl (a : FQ) : Bool := vld a.neg a.num a.den
def FQ.fits (k : Nat) (a : FQ) : Prop := a.num.size ≤ k ∧ a.den.size ≤ k
def FQ.cells (a : FQ) : List Value := [.bool a.neg, .string a.num, .string a.den]
def FQ.val (a : FQ) : Value := .agg #[.bool a.neg, .string a.num, .string a.den]
/-- what it stands for; what is not valid stands for nought -/
def fixR (a : FQ) : Rat := if a.vl = true then rv a.neg (snum a.num) (if snum a.den = 0 then 1 else snum a.den) else 0
theorem fixR_not {a : FQ} (h : a.vl = false) : fixR a = 0 := by unfold fixR; rw [h]; rfl
theorem snum_lt_size (s : ByteArray) : snum s < 256 ^ s.size := by
 have := num_lt s.data.toList
 have e : s.data.toList.length = s.size := Array.length_toList
 rw [e] at this
 exact this
theorem fix_fields {a : FQ} (h : a.vl = true) : rneg (fixR a) = a.neg ∧ rnum (fixR a) = a.num ∧ rden (fixR a) = a.den := by
 obtain ⟨neg, num, den⟩ := a
 have hv := h
 unfold FQ.vl vld at h
 simp only [Bool.and_eq_true, decide_eq_true_eq] at h
 obtain ⟨h1, h2, h3⟩ := h
 unfold fixR
 rw [if_pos hv]
 dsimp only
 by_cases h0 : snum num = 0
 ·
  rw [if_pos h0, Bool.and_eq_true, decide_eq_true_eq] at h3
  obtain ⟨h3, h4⟩ := h3
  have hn : neg = false := by simpa using h3
  rw [h0, rv_zero, rneg_zero, rnum_zero, rden_zero, nrm_zero h1 h0, nrm_zero h2 h4, hn]
  exact ⟨rfl, rfl, rfl⟩
 ·
  rw [if_neg h0] at h3
  by_cases hd : snum den = 0
  ·
   rw [if_pos hd]
   have e2 : (rv neg (snum num) 1).den = 1 := by rw [rv_den (by decide), Nat.gcd_one_right]
   have e3 : (rv neg (snum num) 1).num.natAbs = snum num := by rw [rv_num (by decide), Nat.gcd_one_right, Nat.div_one]
   refine ⟨rv_neg h0 (by decide), ?_, ?_⟩
   ·
    rw [rnum, e3]; exact h1
   ·
    rw [rden, if_pos e2]; exact (nrm_zero h2 hd).symm
  ·
   rw [if_neg hd]
   have hg : snum den ≠ 1 ∧ Nat.gcd (snum num) (snum den) = 1 := by simpa [hd] using h3
   have e2 : (rv neg (snum num) (snum den)).den = snum den := by rw [rv_den hd, hg.2, Nat.div_one]
   have e3 : (rv neg (snum num) (snum den)).num.natAbs = snum num := by rw [rv_num hd, hg.2, Nat.div_one]
   refine ⟨rv_neg h0 hd, ?_, ?_⟩
   ·
    rw [rnum, e3]; exact h1
   ·
    rw [rden, if_neg (by rw [e2]; exact hg.1), e2]; exact h2
theorem fix_val {a : FQ} (h : a.vl = true) : ratV (fixR a) = a.val := by
 obtain ⟨h1, h2, h3⟩ := fix_fields h
 rw [ratV, h1, h2, h3]; rfl
theorem fix_sz {a : FQ} {k : Nat} (h : a.fits k) (hk : 0 < k) : Sz k (fixR a) := by
 have hp : 1 < 256 ^ k := Nat.one_lt_pow (by omega) (by decide)
 unfold fixR
 split
 ·
  have h1 := Nat.lt_of_lt_of_le (snum_lt_size a.num) (Nat.pow_le_pow_right (by decide) h.1)
  have h2 := Nat.lt_of_lt_of_le (snum_lt_size a.den) (Nat.pow_le_pow_right (by decide) h.2)
  split
  ·
   exact Sz.rv (by decide) h1 hp
  ·
   rename_i h0; exact Sz.rv h0 h1 h2
 ·
  exact ⟨by show 0 < _; omega, by show 1 < _; exact hp⟩
/-- a number's own struct -/
def fqOf (q : Rat) : FQ := ⟨rneg q, rnum q, rden q⟩
theorem fqOf_val (q : Rat) : (fqOf q).val = ratV q := rfl
theorem vld_rqP (q : Rat) : (fqOf q).vl = true := by
 have hn : nrm (rnum q) = rnum q := by unfold nrm rnum; rw [snum_ncan]
 have hs : snum (rnum q) = q.num.natAbs := by unfold rnum; rw [snum_ncan]
 have hd0 := q.den_nz
 have hr : Nat.gcd q.num.natAbs q.den = 1 := q.reduced
 show vld (rneg q) (rnum q) (rden q) = true
 by_cases h1 : q.den = 1
 ·
  have e : rden q = ⟨#[]⟩ := if_pos h1
  have e2 : nrm (⟨#[]⟩ : ByteArray) = ⟨#[]⟩ := by unfold nrm; rw [snum_emptyB, ncan_zero']
  unfold vld
  rw [hn, hs, e, e2, snum_emptyB]
  by_cases h0 : q.num.natAbs = 0
  ·
   have : rneg q = false := by unfold rneg; exact decide_eq_false (by omega)
   simp [h0, this]
  ·
   simp [h0]
 ·
  have e : rden q = ncan q.den := if_neg h1
  have e2 : nrm (ncan q.den) = ncan q.den := by unfold nrm; rw [snum_ncan]
  have h0 : q.num.natAbs ≠ 0 := fun h => by rw [h, Nat.gcd_zero_left] at hr; exact h1 hr
  unfold vld
  rw [hn, hs, e, e2, snum_ncan, if_neg h0]
  simp [h1, hr]
theorem fixR_of (q : Rat) : fixR (fqOf q) = q := by
 obtain ⟨h1, h2, h3⟩ := fix_fields (vld_rqP q)
 exact rat_inj h1 h2 h3
theorem sgnR_pos {q : Rat} : 0 < sgnR q ↔ 0 < q := by
 unfold sgnR
 by_cases h0 : q = 0
 ·
  rw [if_pos h0, h0]; constructor <;> intro h <;> first | exact absurd h (by decide) | omega
 ·
  rw [if_neg h0]
  rw [rneg_lt]
  by_cases hn : q < 0
  ·
   rw [decide_eq_true hn, if_pos rfl]
   constructor
   ·
    intro h; omega
   ·
    intro h; exact absurd (Rat.le_of_lt h) (Rat.not_le.2 hn)
  ·
   rw [decide_eq_false hn]
   constructor
   ·
    intro _
    exact Rat.lt_of_le_of_ne (Rat.not_lt.1 hn) (Ne.symm h0)
   ·
    intro _; decide

end Go.Proofs.YtjlicnhkemfmiaaGreatDoor

/- Parties: plain laws. Nothing of the program's text. -/
namespace Go.Proofs.YtjlicnhkemfmiaaGreatDoor
open Go.RowKit

structure Stk where
 o : Int
 c : Int
 v : FQ
structure Prt where
 kinds : List Int
 stakes : List Stk
 ties : List (Int × Int)
def inN (n : Nat) (a : Int) : Bool := decide (0 ≤ a) && decide (a < (n : Int))
def kindAt (ks : List Int) (a : Int) : Int := ks.getD a.toNat 0
/-- a stake's parties are right -/
def stkFine (ks : List Int) (s : Stk) : Bool := inN ks.length s.o && (inN ks.length s.c && (decide (kindAt ks s.c = 2) && decide (s.o ≠ s.c)))
/-- the votes of the stakes that f tells -/
def vs (f : Stk → Bool) (l : List Stk) : Rat := l.foldl (fun s x => if f x = true then s + fixR x.v else s) 0
def tieFine (n : Nat) (t : Int × Int) : Bool := inN n t.1 && (inN n t.2 && decide (t.1 ≠ t.2))
/-- what Check = 0 tells -/
structure Good (P : Prt) : Prop where
 kl : P.kinds.length ≤ 32
 sl : P.stakes.length ≤ 64
 tl : P.ties.length ≤ 64
 s : ∀ x ∈ P.stakes, stkFine P.kinds x = true ∧ 0 < fixR x.v
 t : ∀ t ∈ P.ties, tieFine P.kinds.length t = true
theorem Good.pos {P : Prt} (h : Good P) : ∀ s ∈ P.stakes, 0 ≤ fixR s.v := fun s hs => Rat.le_of_lt (h.s s hs).2
/-! control: the least set that is closed -/
noncomputable section
open Classical
def hold (own : Int) (S : Nat → Bool) (c : Int) (s : Stk) : Bool := (s.c == c) && ((s.o == own) || S s.o.toNat)
variable {P : Prt} {own : Int}
end

end Go.Proofs.YtjlicnhkemfmiaaGreatDoor

/- Parties: plain laws for the statements. Nothing of the program's text. -/
namespace Go.Proofs.YtjlicnhkemfmiaaGreatDoor
open Go.RowKit

/-! the list of a set -/
end Go.Proofs.YtjlicnhkemfmiaaGreatDoor

/- Parties in memory. -/
namespace Go.Proofs.YtjlicnhkemfmiaaGreatDoor
open Go.RowKit

def i64b (x : Int) : Prop := -9223372036854775808 ≤ x ∧ x ≤ 9223372036854775807
def intV (x : Int) : List Value := [.int .i64 x]
def stkV (s : Stk) : List Value := [.int .i64 s.o, .int .i64 s.c, .bool s.v.neg, .string s.v.num, .string s.v.den]
def tieV (t : Int × Int) : List Value := [.int .i64 t.1, .int .i64 t.2]
structure PRd (Ak : Option Addr) (nk : Nat) (As : Option Addr) (ns : Nat) (At : Option Addr) (nt : Nat) (P : Prt) (W : World) : Prop where
 k : Rd W W.heap.size 1 Ak P.kinds.length (P.kinds.flatMap intV)
 s : Rd W W.heap.size 5 As P.stakes.length (P.stakes.flatMap stkV)
 t : Rd W W.heap.size 2 At P.ties.length (P.ties.flatMap tieV)
 nk : nk = P.kinds.length
 ns : ns = P.stakes.length
 nt : nt = P.ties.length
theorem PRd.next {Ak : Option Addr} {nk : Nat} {As : Option Addr} {ns : Nat} {At : Option Addr} {nt : Nat} {P : Prt} {W W' : World} (h : PRd Ak nk As ns At nt P W) (hb : Below W.heap.size W W') : PRd Ak nk As ns At nt P W' :=
 ⟨h.k.next hb, h.s.next hb, h.t.next hb, h.nk, h.ns, h.nt⟩
/-- how great the parties' numbers are -/
structure PB (m : Nat) (P : Prt) : Prop where
 m1 : 0 < m
 m2 : m ≤ 1000
 k : ∀ x ∈ P.kinds, i64b x
 s : ∀ x ∈ P.stakes, i64b x.o ∧ i64b x.c ∧ x.v.fits m
 t : ∀ x ∈ P.ties, i64b x.1 ∧ i64b x.2
 kl : P.kinds.length ≤ maxLen
 sl : P.stakes.length ≤ maxLen
 tl : P.ties.length ≤ maxLen
theorem PB.sz {m : Nat} {P : Prt} (h : PB m P) : ∀ s ∈ P.stakes, Sz m (fixR s.v) := fun s hs => fix_sz (h.s s hs).2.2 h.m1
end Go.Proofs.YtjlicnhkemfmiaaGreatDoor

/- Quotes, documents and what a claim is worth: plain. -/
namespace Go.Proofs.YtjlicnhkemfmiaaGreatDoor
open Go.RowKit

def eurB : ByteArray := ⟨#[69, 85, 82]⟩
structure Qt where
 code : ByteArray
 day : Int
 rate : Rat
def Qt.cells (q : Qt) : List Value := [.string q.code, .int .i64 q.day, .bool (rneg q.rate), .string (rnum q.rate), .string (rden q.rate)]
/-- three letters A to Z -/
def codeOk (s : ByteArray) : Prop := s.size = 3 ∧ ∀ i (h : i < s.size), 65 ≤ s[i].toNat ∧ s[i].toNat ≤ 90
structure Qt.Ok (q : Qt) : Prop where
 code : codeOk q.code
 eur : q.code ≠ eurB
 day : 0 ≤ q.day ∧ q.day ≤ 1048576
 rate : 0 < q.rate
 sz : Sz 8 q.rate
structure QtsOk (l : List Qt) : Prop where
 len : l.length ≤ 8
 each : ∀ q ∈ l, q.Ok
 apart : l.Pairwise (fun a b => ¬ (a.code = b.code ∧ a.day = b.day))
theorem QtsOk.nil : QtsOk [] := ⟨by simp, (fun q h => by cases h), List.Pairwise.nil⟩

/-- the day of the element at an index -/
def dayAt (l : List Qt) (b : Int) : Int := match l[b.toNat]? with | some q => q.day | none => 0
def knownQ (l : List Qt) (code : ByteArray) (k : Nat) : Bool := (l.take k).any fun q => decide (q.code = code)
/-- the index that the loop has chosen after k rounds -/
def bst (l : List Qt) (code : ByteArray) (day : Int) : Nat → Int
 | 0 => -1
 | k + 1 => match l[k]? with
  | none => bst l code day k
  | some q => if q.code = code ∧ q.day ≤ day ∧ (bst l code day k < 0 ∨ dayAt l (bst l code day k) < q.day) then (k : Int) else bst l code day k
theorem bst_bd (l : List Qt) (code : ByteArray) (day : Int) : ∀ k, -1 ≤ bst l code day k ∧ bst l code day k < k ∧ bst l code day k < l.length
 | 0 => by unfold bst; omega
 | k + 1 => by
  have := bst_bd l code day k
  unfold bst
  split
  ·
   omega
  ·
   rename_i q hq
   have := (List.getElem?_eq_some_iff.1 hq).1
   split <;> omega
def rateAt (l : List Qt) (b : Int) : Rat := match l[b.toNat]? with | some q => q.rate | none => 0
/-- the rate and the error -/
def rateQ (l : List Qt) (code : ByteArray) (day : Int) : Rat × Int :=
 if code = eurB then (1, 0)
 else if knownQ l code l.length = false then (0, 8)
 else if bst l code day l.length < 0 then (0, 9)
 else (rateAt l (bst l code day l.length), 0)
theorem sz_one : Sz 8 (1 : Rat) := ⟨by decide, by decide⟩
theorem sz_zero : Sz 8 (0 : Rat) := ⟨by decide, by decide⟩
theorem rateAt_sz {l : List Qt} (h : QtsOk l) (b : Int) : Sz 8 (rateAt l b) := by
 unfold rateAt
 split
 ·
  rename_i q hq; exact (h.each q (List.mem_of_getElem? hq)).sz
 ·
  exact sz_zero
theorem rateAt_nn {l : List Qt} (h : QtsOk l) (b : Int) : 0 ≤ rateAt l b := by
 unfold rateAt
 split
 ·
  rename_i q hq; exact Rat.le_of_lt (h.each q (List.mem_of_getElem? hq)).rate
 ·
  exact Rat.le_refl
theorem rateQ_sz {l : List Qt} (h : QtsOk l) (code : ByteArray) (day : Int) : Sz 8 (rateQ l code day).1 := by
 unfold rateQ
 split
 ·
  exact sz_one
 ·
  split
  ·
   exact sz_zero
  ·
   split
   ·
    exact sz_zero
   ·
    exact rateAt_sz h _
theorem rateQ_nn {l : List Qt} (h : QtsOk l) (code : ByteArray) (day : Int) : 0 ≤ (rateQ l code day).1 := by
 unfold rateQ
 split
 ·
  show (0 : Rat) ≤ 1; decide
 ·
  split
  ·
   exact Rat.le_refl
  ·
   split
   ·
    exact Rat.le_refl
   ·
    exact rateAt_nn h _
theorem rateQ_err {l : List Qt} {code : ByteArray} {day : Int} (h : (rateQ l code day).2 ≠ 0) : (rateQ l code day).1 = 0 := by
 unfold rateQ at h ⊢
 split
 ·
  rename_i hc; rw [if_pos hc] at h; exact absurd rfl h
 ·
  rename_i hc
  rw [if_neg hc] at h
  split
  ·
   rfl
  ·
   rename_i hk
   rw [if_neg hk] at h
   split
   ·
    rfl
   ·
    rename_i hb; rw [if_neg hb] at h; exact absurd rfl h

/-- a document -/
structure Dc where
 id : ByteArray
 est : Int
 cred : Int
 code : ByteArray
 amt : Rat
 inc : Int
 rank : Int
 rate : Rat
 frm : Int
 sec : Int
def Dc.cells (d : Dc) : List Value := [.string d.id, .int .i64 d.est, .int .i64 d.cred, .string d.code, .bool (rneg d.amt), .string (rnum d.amt), .string (rden d.amt), .int .i64 d.inc, .int .i64 d.rank, .bool (rneg d.rate), .string (rnum d.rate), .string (rden d.rate), .int .i64 d.frm, .int .i64 d.sec]
def isLet (n : Nat) : Bool := (decide (97 ≤ n) && decide (n ≤ 122)) || (decide (65 ≤ n) && decide (n ≤ 90))
def isDig (n : Nat) : Bool := decide (48 ≤ n) && decide (n ≤ 57)
structure nameOk (s : ByteArray) : Prop where
 pos : 0 < s.size
 len : s.size ≤ 32
 head : isLet (s[0]'pos).toNat = true
 each : ∀ i (h : i < s.size), isLet s[i].toNat = true ∨ isDig s[i].toNat = true ∨ s[i].toNat = 45 ∨ s[i].toNat = 95
structure Dc.Ok (k : Nat) (d : Dc) : Prop where
 id : nameOk d.id
 est : 0 ≤ d.est ∧ d.est ≤ 7
 cred : 0 ≤ d.cred ∧ d.cred ≤ 31
 code : codeOk d.code
 amt : 0 ≤ d.amt
 asz : Sz k d.amt
 inc : 0 ≤ d.inc ∧ d.inc ≤ 1048576
 rank : 0 ≤ d.rank ∧ d.rank ≤ 7
 rate : 0 ≤ d.rate
 rsz : Sz 8 d.rate
 frm : 0 ≤ d.frm ∧ d.frm ≤ 1048576
 nofrm : d.rate = 0 → d.frm = 0
 sec : -1 ≤ d.sec ∧ d.sec ≤ 7
/-- the factor on the amount, and the error -/
def factD (d : Dc) (l : List Qt) (cut : Int) : Rat × Int :=
 if cut < d.inc then (0, 16)
 else if (rateQ l d.code cut).2 ≠ 0 then (0, (rateQ l d.code cut).2)
 else if d.rate = 0 ∨ cut < d.frm then ((rateQ l d.code cut).1, 0)
 else ((rateQ l d.code cut).1 * (1 + d.rate * ((cut - d.frm : Int) : Rat) / ((365 : Int) : Rat)), 0)
def Dc.setA (d : Dc) (x : Rat) : Dc := ⟨d.id, d.est, d.cred, d.code, x, d.inc, d.rank, d.rate, d.frm, d.sec⟩
theorem Dc.Ok.setA {k m : Nat} {d : Dc} (h : d.Ok k) {x : Rat} (hx : 0 ≤ x) (hs : Sz m x) : (d.setA x).Ok m := ⟨h.id, h.est, h.cred, h.code, hx, hs, h.inc, h.rank, h.rate, h.rsz, h.frm, h.nofrm, h.sec⟩

end Go.Proofs.YtjlicnhkemfmiaaGreatDoor

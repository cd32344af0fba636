/- What a reader takes from bytes: plain laws. Nothing of the program's text. -/
import Derived.Test.YtcljkdjmmolfoaaDoorM10
import Derived.Test.YtcljkdjmmolfoaaDoorRefV
set_option linter.unusedVariables false
set_option linter.unusedSimpArgs false
namespace Go.Proofs.YtcljkdjmmolfoaaDoor
open Go.RowKit

/-- a number without a sign: at most f bytes; whether its last byte is an idle nought; the rest -/
def rdX : Nat → Bool → List Nat → Option (Nat × Bool × List Nat)
  | 0, _, _ => none
  | _ + 1, _, [] => none
  | f + 1, fst, x :: L => if x < 128 then some (x, (!fst && x == 0), L) else (rdX f false L).map fun t => (x % 128 + 128 * t.1, t.2.1, t.2.2)
def unzig (u : Nat) : Int := if u % 2 = 1 then -((u / 2 : Nat) : Int) - 1 else ((u / 2 : Nat) : Int)
theorem unzig_zig (z : Int) : unzig (zig z) = z := by
  unfold unzig zig
  by_cases h : z < 0
  · rw [if_pos h, if_pos (by omega)]; omega
  · rw [if_neg h, if_neg (by omega)]; omega
theorem rdX_vint : ∀ (f : Nat) (u : Nat) (fst : Bool) (R : List Nat), u < 128 ^ f → (fst = false → 0 < u) → rdX f fst (vint u ++ R) = if f = 0 then none else some (u, false, R)
  | 0, _, _, _, _, _ => rfl
  | f + 1, u, fst, R, h, h0 => by
    rw [if_neg (by omega)]
    by_cases hu : u < 128
    · rw [vint_small hu]
      have e : (!fst && u == 0) = false := by
        cases fst
        · have := h0 rfl; simp; omega
        · rfl
      simp [rdX, hu, e]
    · rw [vint_big hu]
      have hq : u / 128 < 128 ^ f := by rw [Nat.pow_succ] at h; omega
      have ih := rdX_vint f (u / 128) false R hq (fun _ => by omega)
      have hf : f ≠ 0 := by intro e; subst e; simp at h; omega
      rw [if_neg hf] at ih
      have hb : ¬ u % 128 + 128 < 128 := by omega
      simp only [List.cons_append, rdX, if_neg hb, ih, Option.map_some]
      congr 2
      omega
theorem rdX_bound : ∀ (f : Nat) (fst : Bool) (L : List Nat) (u : Nat) (o : Bool) (R : List Nat), rdX f fst L = some (u, o, R) → u < 128 ^ f ∧ R.length < L.length ∧ ∃ k, R = L.drop k
  | 0, _, _, _, _, _, h => by simp [rdX] at h
  | _ + 1, _, [], _, _, _, h => by simp [rdX] at h
  | f + 1, fst, x :: L, u, o, R, h => by
    by_cases hx : x < 128
    · simp [rdX, hx] at h
      obtain ⟨rfl, _, rfl⟩ := h
      refine ⟨Nat.lt_of_lt_of_le hx ?_, by simp, 1, rfl⟩
      rw [Nat.pow_succ]
      have := Nat.one_le_pow f 128 (by decide)
      omega
    · simp only [rdX, if_neg hx, Option.map_eq_some_iff] at h
      obtain ⟨⟨u', o', R'⟩, h1, h2⟩ := h
      simp only [Prod.mk.injEq] at h2
      obtain ⟨rfl, rfl, rfl⟩ := h2
      obtain ⟨a, b, k, hk⟩ := rdX_bound f false L u' o' R' h1
      refine ⟨by rw [Nat.pow_succ]; have := Nat.mod_lt x (show 0 < 128 by decide); omega, by simp; omega, k + 1, by rw [hk]; rfl⟩

/-- the state of a reader: what is left, the mark -/
abbrev St := List Nat × Bool
/-- the program's number -/
def pNum (s : St) : Int × St := match rdX 9 true s.1 with
  | some (u, _, R) => (unzig u, (R, s.2))
  | none => (0, (s.1, true))
/-- the definition's number -/
def dNum (s : St) : Int × St := if s.2 = true then (0, s) else match rdX 9 true s.1 with
  | some (u, o, R) => (unzig u, (R, o))
  | none => (0, (s.1, true))
def rCount (N : St → Int × St) (most : Nat) (s : St) : Nat × St :=
  if (N s).2.2 = true ∨ (N s).1 < 0 ∨ (most : Int) < (N s).1 then (0, ((N s).2.1, true)) else ((N s).1.toNat, (N s).2)
def rText (N : St → Int × St) (s : St) : ByteArray × St :=
  if (N s).2.2 = true ∨ (N s).1 < 0 ∨ ((N s).2.1.length : Int) < (N s).1 then (⟨#[]⟩, ((N s).2.1, true)) else (nstr ((N s).2.1.take (N s).1.toNat), ((N s).2.1.drop (N s).1.toNat, (N s).2.2))
def pRat (s : St) : RQ × St :=
  (⟨decide ((pNum s).1 = 1), (rText pNum (pNum s).2).1, (rText pNum (rText pNum (pNum s).2).2).1⟩, (rText pNum (rText pNum (pNum s).2).2).2)
def dMark (n : Int) (s : St) : St := if n < 0 ∨ 1 < n then (s.1, true) else s
def dRat (s : St) : RQ × St :=
  (⟨decide ((dNum s).1 = 1), (rText dNum (dMark (dNum s).1 (dNum s).2)).1, (rText dNum (rText dNum (dMark (dNum s).1 (dNum s).2)).2).1⟩, (rText dNum (rText dNum (dMark (dNum s).1 (dNum s).2)).2).2)
/-- a list of n elements -/
def rList {α : Type} (f : St → α × St) : Nat → St → List α × St
  | 0, s => ([], s)
  | n + 1, s => ((rList f n s).1 ++ [(f (rList f n s).2).1], (f (rList f n s).2).2)
def rPair (N : St → Int × St) (s : St) : (Int × Int) × St := (((N s).1, (N (N s).2).1), (N (N s).2).2)
def rOpt (N : St → Int × St) (Q : St → RQ × St) (s : St) : (RQ × Int) × St := (((Q s).1, (N (Q s).2).1), (N (Q s).2).2)
def rPay (N : St → Int × St) (s : St) : Pay × St :=
  (⟨(N s).1, (N (N s).2).1, (N (N (N s).2).2).1, (N (N (N (N s).2).2).2).1⟩, (N (N (N (N s).2).2).2).2)

/-- a reader takes back what was written, whatever stands behind it -/
def Takes {α : Type} (f : St → α × St) (b : List Nat) (x : α) : Prop := ∀ R : List Nat, f (b ++ R, false) = (x, (R, false))
theorem zig_lt56 {z : Int} (h : rngN z = true) : zig z < 128 ^ 9 := by
  simp only [rngN, Bool.and_eq_true, decide_eq_true_eq] at h
  have e : (128 : Nat) ^ 9 = 9223372036854775808 := by decide
  rw [e]; unfold zig
  split <;> omega
theorem zig_small {n : Nat} (h : n ≤ 1000000) : zig (n : Int) < 128 ^ 9 := by
  have e : (128 : Nat) ^ 9 = 9223372036854775808 := by decide
  rw [e]; unfold zig
  split <;> omega
theorem pNum_takes {z : Int} (h : zig z < 128 ^ 9) : Takes pNum (vint (zig z)) z := fun R => by
  have := rdX_vint 9 (zig z) true R h (fun h => by cases h)
  simp only [pNum, this]
  rw [if_neg (by decide)]
  simp [unzig_zig]
theorem dNum_takes {z : Int} (h : zig z < 128 ^ 9) : Takes dNum (vint (zig z)) z := fun R => by
  have := rdX_vint 9 (zig z) true R h (fun h => by cases h)
  simp only [dNum, this]
  rw [if_neg (by decide)]
  simp [unzig_zig]
/-- a number reader that takes back what is small -/
def NumOk (N : St → Int × St) : Prop := ∀ z, zig z < 128 ^ 9 → Takes N (vint (zig z)) z
theorem pNum_ok : NumOk pNum := fun _ h => pNum_takes h
theorem dNum_ok : NumOk dNum := fun _ h => dNum_takes h
theorem nstr_byts (s : ByteArray) : nstr (byts s) = s := by
  unfold nstr byts
  rw [List.map_map]
  have : (UInt8.ofNat ∘ UInt8.toNat) = id := by funext x; simp
  rw [this, List.map_id]
  exact bstr_data s
theorem count_takes {N : St → Int × St} (hN : NumOk N) {n most : Nat} (h : n ≤ most) (hm : most ≤ 1000000) : Takes (rCount N most) (vint (zig (n : Int))) n := fun R => by
  have h1 := hN (n : Int) (zig_small (by omega)) R
  unfold rCount
  rw [h1]
  rw [if_neg (by simp; omega)]
  simp
theorem text_takes {N : St → Int × St} (hN : NumOk N) {s : ByteArray} (h : s.size ≤ 1000000) : Takes (rText N) (txt s) s := fun R => by
  have h1 := hN (s.size : Int) (zig_small h) (byts s ++ R)
  unfold rText
  rw [txt, List.append_assoc, h1]
  have hb := byts_len s
  rw [if_neg (by simp [hb]; omega)]
  simp only [Int.toNat_natCast]
  rw [← hb, List.take_left, List.drop_left, nstr_byts]
theorem sgn_takes {N : St → Int × St} (hN : NumOk N) (neg : Bool) : Takes N (vint (if neg = true then 2 else 0)) (if neg = true then 1 else 0) := by
  cases neg
  · exact hN 0 (by decide)
  · exact hN 1 (by decide)
theorem pRat_takes {q : RQ} (h1 : q.num.size ≤ 1000000) (h2 : q.den.size ≤ 1000000) : Takes pRat q.bytes q := fun R => by
  obtain ⟨neg, nu, de⟩ := q
  have s1 := sgn_takes pNum_ok neg (txt nu ++ (txt de ++ R))
  have s2 := text_takes pNum_ok h1 (txt de ++ R)
  have s3 := text_takes pNum_ok h2 R
  unfold pRat
  dsimp only at s2 s3
  rw [RQ.bytes, ratB]
  simp only [List.append_assoc]
  rw [s1]
  dsimp only
  rw [s2]
  dsimp only
  rw [s3]
  cases neg <;> rfl
theorem dRat_takes {q : RQ} (h1 : q.num.size ≤ 1000000) (h2 : q.den.size ≤ 1000000) : Takes dRat q.bytes q := fun R => by
  obtain ⟨neg, nu, de⟩ := q
  have s1 := sgn_takes dNum_ok neg (txt nu ++ (txt de ++ R))
  have s2 := text_takes dNum_ok h1 (txt de ++ R)
  have s3 := text_takes dNum_ok h2 R
  unfold dRat
  dsimp only at s2 s3
  rw [RQ.bytes, ratB]
  simp only [List.append_assoc]
  rw [s1]
  dsimp only
  have em : dMark (if neg = true then 1 else 0) (txt nu ++ (txt de ++ R), false) = (txt nu ++ (txt de ++ R), false) := by
    unfold dMark; cases neg <;> rfl
  rw [em, s2]
  dsimp only
  rw [s3]
  cases neg <;> rfl
theorem pair_takes {N : St → Int × St} (hN : NumOk N) {p : Int × Int} (h : legOk p = true) : Takes (rPair N) (legB p) p := fun R => by
  simp only [legOk, List.all_cons, List.all_nil, Bool.and_true, Bool.and_eq_true] at h
  have s1 := hN p.1 (zig_lt56 h.1) (vint (zig p.2) ++ R)
  have s2 := hN p.2 (zig_lt56 h.2) R
  unfold rPair
  rw [legB, numsB]
  simp only [List.flatMap_cons, List.flatMap_nil, List.append_nil, List.append_assoc]
  rw [s1]; dsimp only; rw [s2]
theorem opt_takes {N : St → Int × St} {Q : St → RQ × St} (hN : NumOk N) (hQ : ∀ q : RQ, q.num.size ≤ 1000000 → q.den.size ≤ 1000000 → Takes Q q.bytes q) {p : RQ × Int} (h : rngN p.2 = true) (h1 : p.1.num.size ≤ 1000000) (h2 : p.1.den.size ≤ 1000000) : Takes (rOpt N Q) (optB p) p := fun R => by
  have s1 := hQ p.1 h1 h2 (vint (zig p.2) ++ R)
  have s2 := hN p.2 (zig_lt56 h) R
  unfold rOpt
  rw [optB, numsB]
  simp only [List.flatMap_cons, List.flatMap_nil, List.append_nil, List.append_assoc]
  rw [s1]; dsimp only; rw [s2]
theorem pay_takes {N : St → Int × St} (hN : NumOk N) {p : Pay} (h : payOk p = true) : Takes (rPay N) (payB p) p := fun R => by
  simp only [payOk, List.all_cons, List.all_nil, Bool.and_true, Bool.and_eq_true] at h
  obtain ⟨⟨h1, h2, h3⟩, h4⟩ := h
  have s1 := hN p.debt (zig_lt56 h1) (vint (zig p.estate) ++ (vint (zig p.claim) ++ (vint (zig p.cents) ++ R)))
  have s2 := hN p.estate (zig_lt56 h2) (vint (zig p.claim) ++ (vint (zig p.cents) ++ R))
  have s3 := hN p.claim (zig_lt56 h3) (vint (zig p.cents) ++ R)
  have s4 := hN p.cents (zig_lt56 h4) R
  unfold rPay
  rw [payB, numsB]
  simp only [List.flatMap_cons, List.flatMap_nil, List.append_nil, List.append_assoc]
  rw [s1]; dsimp only; rw [s2]; dsimp only; rw [s3]; dsimp only; rw [s4]
theorem list_takes {α : Type} {f : St → α × St} {b : α → List Nat} : ∀ (l : List α), (∀ x ∈ l, Takes f (b x) x) → Takes (rList f l.length) (l.flatMap b) l := by
  have key : ∀ (n : Nat) (l : List α), l.length = n → (∀ x ∈ l, Takes f (b x) x) → Takes (rList f n) (l.flatMap b) l := by
    intro n
    induction n with
    | zero => intro l hl _ R; obtain rfl : l = [] := List.eq_nil_of_length_eq_zero hl; rfl
    | succ n ih =>
      intro l hl h R
      obtain ⟨l', x, rfl⟩ : ∃ l' x, l = l' ++ [x] := by
        rcases List.eq_nil_or_concat l with rfl | ⟨l', x, rfl⟩
        · simp at hl
        · exact ⟨l', x, by simp⟩
      have hl' : l'.length = n := by simpa using hl
      have i1 := ih l' hl' (fun y hy => h y (List.mem_append_left _ hy)) (b x ++ R)
      have i2 := h x (by simp) R
      rw [rList]
      simp only [List.flatMap_append, List.flatMap_cons, List.flatMap_nil, List.append_nil, List.append_assoc]
      rw [i1]; dsimp only; rw [i2]
  exact fun l h => key l.length l rfl h

end Go.Proofs.YtcljkdjmmolfoaaDoor

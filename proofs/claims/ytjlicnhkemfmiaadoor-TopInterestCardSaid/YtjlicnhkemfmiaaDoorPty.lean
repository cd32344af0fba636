/- Parties: plain laws. Nothing of the program's text. -/
import Derived.Test.YtjlicnhkemfmiaaDoorFixP
set_option linter.unusedVariables false
set_option linter.unusedSimpArgs false
namespace Go.Proofs.YtjlicnhkemfmiaaDoor
open Go.RowKit

structure Stk where
  o : Int
  c : Int
  v : FQ
structure Prt where
  kinds : List Int
  stakes : List Stk
  ties : List (Int × Int)
def inN (n : Nat) (a : Int) : Bool := decide (0 ≤ a) && decide (a < (n : Int))
theorem inN_true {n : Nat} {a : Int} (h : inN n a = true) : 0 ≤ a ∧ a < n := by simpa [inN] using h
theorem inN_iff {n : Nat} {a : Int} : inN n a = true ↔ 0 ≤ a ∧ a < n := by simp [inN]
def kindAt (ks : List Int) (a : Int) : Int := ks.getD a.toNat 0
/-- a stake's parties are right -/
def stkFine (ks : List Int) (s : Stk) : Bool := inN ks.length s.o && (inN ks.length s.c && (decide (kindAt ks s.c = 2) && decide (s.o ≠ s.c)))
def stkErr (ks : List Int) (s : Stk) : Int := if stkFine ks s = true then (if 0 < fixR s.v then 0 else 1) else 14
def stksErr (ks : List Int) : List Stk → Int
  | [] => 0
  | s :: r => if stkErr ks s = 0 then stksErr ks r else stkErr ks s
/-- the votes of the stakes that f tells -/
def vs (f : Stk → Bool) (l : List Stk) : Rat := l.foldl (fun s x => if f x = true then s + fixR x.v else s) 0
def overAt (l : List Stk) (c : Nat) : Bool := decide (1 < vs (fun s => s.c == (c : Int)) l)
def overs (n : Nat) (l : List Stk) : Bool := (List.range n).any (overAt l)
def tieFine (n : Nat) (t : Int × Int) : Bool := inN n t.1 && (inN n t.2 && decide (t.1 ≠ t.2))
def kindBad (k : Int) : Bool := decide (k ≠ 1) && decide (k ≠ 2)
def chk (P : Prt) : Int :=
  if 32 < P.kinds.length ∨ 64 < P.stakes.length ∨ 64 < P.ties.length then 2
  else if P.kinds.any kindBad = true then 1
  else if stksErr P.kinds P.stakes ≠ 0 then stksErr P.kinds P.stakes
  else if overs P.kinds.length P.stakes = true then 6
  else if P.ties.all (tieFine P.kinds.length) = true then 0 else 14

theorem vs_snoc (f : Stk → Bool) (l : List Stk) (x : Stk) : vs f (l ++ [x]) = if f x = true then vs f l + fixR x.v else vs f l := by
  unfold vs; rw [List.foldl_append]; rfl
theorem vs_take {f : Stk → Bool} {l : List Stk} {k : Nat} {x : Stk} (h : l[k]? = some x) : vs f (l.take (k + 1)) = if f x = true then vs f (l.take k) + fixR x.v else vs f (l.take k) := by
  rw [List.take_add_one, h]; exact vs_snoc f _ x
theorem vs_congr {f g : Stk → Bool} {l : List Stk} (h : ∀ s ∈ l, f s = g s) : vs f l = vs g l := by
  unfold vs
  have : ∀ (l : List Stk) (a : Rat), (∀ s ∈ l, f s = g s) → l.foldl (fun s x => if f x = true then s + fixR x.v else s) a = l.foldl (fun s x => if g x = true then s + fixR x.v else s) a := by
    intro l
    induction l with
    | nil => intro a _; rfl
    | cons x l ih =>
      intro a h
      rw [List.foldl_cons, List.foldl_cons, h x (by simp)]
      exact ih _ (fun s hs => h s (by simp [hs]))
  exact this l 0 h
theorem vs_mono_aux {f g : Stk → Bool} : ∀ (l : List Stk) (a b : Rat), a ≤ b → (∀ s ∈ l, 0 ≤ fixR s.v) → (∀ s ∈ l, f s = true → g s = true) →
    l.foldl (fun s x => if f x = true then s + fixR x.v else s) a ≤ l.foldl (fun s x => if g x = true then s + fixR x.v else s) b := by
  intro l
  induction l with
  | nil => intro a b h _ _; exact h
  | cons x l ih =>
    intro a b h hp hfg
    rw [List.foldl_cons, List.foldl_cons]
    refine ih _ _ ?_ (fun s hs => hp s (by simp [hs])) (fun s hs => hfg s (by simp [hs]))
    have hx := hp x (by simp)
    by_cases h1 : f x = true
    · rw [if_pos h1, if_pos (hfg x (by simp) h1)]
      exact Rat.add_le_add_right.2 h
    · rw [if_neg h1]
      split
      · refine Rat.le_trans h ?_
        have := (Rat.add_le_add_left (c := b)).2 hx
        rwa [Rat.add_zero] at this
      · exact h
theorem vs_mono {f g : Stk → Bool} {l : List Stk} (hp : ∀ s ∈ l, 0 ≤ fixR s.v) (hfg : ∀ s ∈ l, f s = true → g s = true) : vs f l ≤ vs g l := vs_mono_aux l 0 0 Rat.le_refl hp hfg
theorem vs_none {f : Stk → Bool} {l : List Stk} (h : ∀ s ∈ l, f s = false) : vs f l = 0 := by
  rw [vs_congr (g := fun _ => false) h]
  unfold vs
  induction l with
  | nil => rfl
  | cons x l ih => rw [List.foldl_cons]; exact ih (fun s hs => h s (by simp [hs]))
/-- how great the sums grow: m digits a stake -/
theorem vs_sz {f : Stk → Bool} {l : List Stk} {m : Nat} (h : ∀ s ∈ l, Sz m (fixR s.v)) : Sz (1 + (m + 1) * l.length) (vs f l) := by
  unfold vs
  have : ∀ (l : List Stk) (a : Rat) (k : Nat), Sz k a → (∀ s ∈ l, Sz m (fixR s.v)) → Sz (k + (m + 1) * l.length) (l.foldl (fun s x => if f x = true then s + fixR x.v else s) a) := by
    intro l
    induction l with
    | nil => intro a k ha _; exact ha
    | cons x l ih =>
      intro a k ha h
      rw [List.foldl_cons, List.length_cons]
      have := ih (if f x = true then a + fixR x.v else a) (k + m + 1) (by
        split
        · exact ha.add (h x (by simp))
        · exact ha.mono (by omega)) (fun s hs => h s (by simp [hs]))
      exact this.mono (by rw [Nat.mul_succ]; omega)
  exact this l 0 1 ⟨by decide, by decide⟩ h

/-- what Check = 0 tells -/
structure Good (P : Prt) : Prop where
  kl : P.kinds.length ≤ 32
  sl : P.stakes.length ≤ 64
  tl : P.ties.length ≤ 64
  s : ∀ x ∈ P.stakes, stkFine P.kinds x = true ∧ 0 < fixR x.v
  t : ∀ t ∈ P.ties, tieFine P.kinds.length t = true
theorem stks_ok {ks : List Int} : ∀ {l : List Stk}, stksErr ks l = 0 → ∀ x ∈ l, stkErr ks x = 0
  | [], _, x, hx => by cases hx
  | y :: l, h, x, hx => by
    unfold stksErr at h
    split at h
    · rename_i h0
      rcases List.mem_cons.1 hx with rfl | hx
      · exact h0
      · exact stks_ok h x hx
    · rename_i h0; exact absurd h h0
theorem stkErr_zero {ks : List Int} {s : Stk} (h : stkErr ks s = 0) : stkFine ks s = true ∧ 0 < fixR s.v := by
  unfold stkErr at h
  split at h
  · rename_i h1
    split at h
    · rename_i h2; exact ⟨h1, h2⟩
    · omega
  · omega
theorem Good.of_chk {P : Prt} (h : chk P = 0) : Good P := by
  unfold chk at h
  split at h
  · omega
  · rename_i h1
    split at h
    · omega
    · split at h
      · rename_i h3; exact absurd h h3
      · rename_i h3
        split at h
        · omega
        · split at h
          · rename_i h5
            refine ⟨by omega, by omega, by omega, fun x hx => stkErr_zero (stks_ok (by omega) x hx), fun t ht => List.all_eq_true.1 h5 t ht⟩
          · omega
theorem Good.pos {P : Prt} (h : Good P) : ∀ s ∈ P.stakes, 0 ≤ fixR s.v := fun s hs => Rat.le_of_lt (h.s s hs).2
theorem fine_parts {ks : List Int} {s : Stk} (h : stkFine ks s = true) : (0 ≤ s.o ∧ s.o < ks.length) ∧ (0 ≤ s.c ∧ s.c < ks.length) ∧ kindAt ks s.c = 2 ∧ s.o ≠ s.c := by
  simp only [stkFine, Bool.and_eq_true, decide_eq_true_eq] at h
  exact ⟨inN_true h.1, inN_true h.2.1, h.2.2.1, h.2.2.2⟩

/-! control: the least set that is closed -/
noncomputable section
open Classical
def halfR : Rat := rv false 1 2
def hold (own : Int) (S : Nat → Bool) (c : Int) (s : Stk) : Bool := (s.c == c) && ((s.o == own) || S s.o.toNat)
def vt (P : Prt) (own : Int) (S : Nat → Bool) (c : Nat) : Rat := vs (hold own S c) P.stakes
def Cls (P : Prt) (own : Int) (S : Nat → Bool) : Prop := ∀ c : Nat, c < P.kinds.length → (c : Int) ≠ own → halfR < vt P own S c → S c = true
def ctl (P : Prt) (own : Int) (c : Nat) : Bool := decide (c < P.kinds.length ∧ ∀ S, Cls P own S → S c = true)
theorem ctl_iff {P : Prt} {own : Int} {c : Nat} : ctl P own c = true ↔ c < P.kinds.length ∧ ∀ S, Cls P own S → S c = true := by unfold ctl; exact decide_eq_true_iff
variable {P : Prt} {own : Int}
theorem vt_mono {S S' : Nat → Bool} (hp : ∀ s ∈ P.stakes, 0 ≤ fixR s.v) (h : ∀ c, S c = true → S' c = true) (c : Nat) : vt P own S c ≤ vt P own S' c := by
  refine vs_mono hp (fun s hs h1 => ?_)
  simp only [hold, Bool.and_eq_true, Bool.or_eq_true] at h1 ⊢
  exact ⟨h1.1, h1.2.elim .inl (fun h2 => .inr (h _ h2))⟩
theorem ctl_least {S : Nat → Bool} (h : Cls P own S) {c : Nat} (hc : ctl P own c = true) : S c = true := (ctl_iff.1 hc).2 S h
theorem ctl_lt {c : Nat} (hc : ctl P own c = true) : c < P.kinds.length := (ctl_iff.1 hc).1
theorem ctl_closed (hp : ∀ s ∈ P.stakes, 0 ≤ fixR s.v) : Cls P own (ctl P own) := fun c hc hn h =>
  ctl_iff.2 ⟨hc, fun S hS => hS c hc hn (Rat.not_le.1 (fun h2 => absurd (Rat.le_trans (vt_mono hp (fun d hd => ctl_least hS hd) c) h2) (Rat.not_le.2 h)))⟩
theorem ctl_ne {c : Nat} (hc : ctl P own c = true) : (c : Int) ≠ own := by
  have := ctl_least (S := fun d => decide ((d : Int) ≠ own)) (fun d _ hn _ => decide_eq_true hn) hc
  exact of_decide_eq_true this
theorem ctl_more (hp : ∀ s ∈ P.stakes, 0 ≤ fixR s.v) {c : Nat} (hc : ctl P own c = true) : halfR < vt P own (ctl P own) c := by
  have := ctl_least (S := fun d => ctl P own d && decide (halfR < vt P own (ctl P own) d)) (fun d hd hn h => by
    have h2 : halfR < vt P own (ctl P own) d := Rat.not_le.1 (fun h3 => absurd (Rat.le_trans (vt_mono hp (fun x hx => by simp only [Bool.and_eq_true] at hx; exact hx.1) d) h3) (Rat.not_le.2 h))
    rw [Bool.and_eq_true]
    exact ⟨ctl_closed hp d hd hn h2, decide_eq_true h2⟩) hc
  rw [Bool.and_eq_true] at this
  exact of_decide_eq_true this.2
/-- a set that is sound and closed is the one -/
theorem ctl_eq {S : Nat → Bool} (hs : ∀ c, S c = true → ctl P own c = true) (hc : Cls P own S) (c : Nat) : S c = ctl P own c := by
  rcases h : ctl P own c with _ | _
  · rcases h2 : S c with _ | _
    · rfl
    · rw [hs c h2] at h; cases h
  · exact ctl_least hc h
theorem ctl_step (hp : ∀ s ∈ P.stakes, 0 ≤ fixR s.v) {S : Nat → Bool} (hs : ∀ c, S c = true → ctl P own c = true) {c : Nat} (hc : c < P.kinds.length) (hn : (c : Int) ≠ own) (h : halfR < vt P own S c) : ctl P own c = true :=
  ctl_closed hp c hc hn (Rat.not_le.1 (fun h3 => absurd (Rat.le_trans (vt_mono hp hs c) h3) (Rat.not_le.2 h)))
/-- control is transitive -/
theorem ctl_trans (hp : ∀ s ∈ P.stakes, 0 ≤ fixR s.v) {a b c : Nat} (h1 : ctl P (a : Int) b = true) (h2 : ctl P (b : Int) c = true) (hg : ∀ s ∈ P.stakes, 0 ≤ s.o) (hne : c ≠ a) : ctl P (a : Int) c = true := by
  have := ctl_least (own := (b : Int)) (S := fun d => ctl P (a : Int) d || d == a) (fun d hd hn h => by
    by_cases hda : d = a
    · simp [hda]
    · rw [Bool.or_eq_true]
      left
      refine ctl_closed hp d hd (by omega) (Rat.not_le.1 (fun h3 => absurd (Rat.le_trans ?_ h3) (Rat.not_le.2 h)))
      refine vs_mono hp (fun s hs hh => ?_)
      simp only [hold, Bool.and_eq_true, Bool.or_eq_true, beq_iff_eq] at hh ⊢
      refine ⟨hh.1, ?_⟩
      have h0 := hg s hs
      rcases hh.2 with h4 | h4 | h4
      · right; rw [h4]; exact h1
      · right; exact h4
      · left; omega) h2
  rw [Bool.or_eq_true, beq_iff_eq] at this
  exact this.elim id (fun h => absurd h hne)
/-- a party that is connected with another one -/
def con (P : Prt) (a b : Nat) : Bool := decide (b = a ∨ (∃ t ∈ P.ties, (t.1 = a ∧ t.2 = b) ∨ (t.1 = b ∧ t.2 = a)) ∨ ∃ o, o < P.kinds.length ∧ (o = a ∨ ctl P (o : Int) a = true) ∧ (o = b ∨ ctl P (o : Int) b = true))
theorem con_iff {P : Prt} {a b : Nat} : con P a b = true ↔ (b = a ∨ (∃ t ∈ P.ties, (t.1 = a ∧ t.2 = b) ∨ (t.1 = b ∧ t.2 = a)) ∨ ∃ o, o < P.kinds.length ∧ (o = a ∨ ctl P (o : Int) a = true) ∧ (o = b ∨ ctl P (o : Int) b = true)) := by unfold con; exact decide_eq_true_iff
theorem con_symm {P : Prt} {a b : Nat} : con P a b = con P b a := by
  have h : ∀ {a b : Nat}, con P a b = true → con P b a = true := by
    intro a b h
    rw [con_iff] at h ⊢
    rcases h with h | ⟨t, ht, h⟩ | ⟨o, ho, h1, h2⟩
    · exact .inl h.symm
    · exact .inr (.inl ⟨t, ht, h.elim (fun x => .inr x) (fun x => .inl x)⟩)
    · exact .inr (.inr ⟨o, ho, h2, h1⟩)
  rcases h1 : con P a b with _ | _
  · rcases h2 : con P b a with _ | _
    · rfl
    · rw [h h2] at h1; cases h1
  · exact (h h1).symm
/-- the list of a set below n -/
def idxs (S : Nat → Bool) (n : Nat) : List Int := ((List.range n).filter S).map Int.ofNat
def flags (S : Nat → Bool) (n : Nat) : List Bool := (List.range n).map S
end

end Go.Proofs.YtjlicnhkemfmiaaDoor

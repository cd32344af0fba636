/- Control: plain laws of the loops; rows of flags and of votes in memory. -/
import Derived.Test.YtomfcmlomfcghaaGreatDoorM41
set_option linter.unusedVariables false
set_option linter.unusedSimpArgs false
namespace Go.Proofs.YtomfcmlomfcghaaGreatDoor
open Go.RowKit

/-! votes that a test lets in, by company -/
def votesW (n : Nat) (p : Stk → Bool) (l : List Stk) : List Rat := (List.range n).map fun (c : Nat) => vs (fun s => (s.c == (c : Int)) && p s) l
theorem votesW_len (n : Nat) (p : Stk → Bool) (l : List Stk) : (votesW n p l).length = n := by unfold votesW; rw [List.length_map, List.length_range]
theorem votesW_at {n c : Nat} (h : c < n) (p : Stk → Bool) (l : List Stk) : (votesW n p l)[c]? = some (vs (fun s => (s.c == (c : Int)) && p s) l) := by
  unfold votesW
  rw [List.getElem?_map, List.getElem?_range h]; rfl
theorem votesW_snoc {n c : Nat} (h : c < n) {p : Stk → Bool} (l : List Stk) (o : Int) (v : FQ) (hp : p ⟨o, (c : Int), v⟩ = true) : votesW n p (l ++ [⟨o, (c : Int), v⟩]) = (votesW n p l).set c (vs (fun s => (s.c == (c : Int)) && p s) l + fixR v) := by
  apply List.ext_getElem?
  intro d
  rw [List.getElem?_set, votesW_len]
  by_cases hd : d < n
  · rw [votesW_at hd, vs_snoc]
    dsimp only
    rw [hp, Bool.and_true]
    by_cases hdc : c = d
    · subst hdc
      rw [if_pos rfl, if_pos hd, if_pos (by simp)]
    · rw [if_neg hdc, votesW_at hd, if_neg (by simp; omega)]
  · have e1 : (votesW n p (l ++ [⟨o, (c : Int), v⟩]))[d]? = none := List.getElem?_eq_none (by rw [votesW_len]; omega)
    have e2 : (votesW n p l)[d]? = none := List.getElem?_eq_none (by rw [votesW_len]; omega)
    rw [e1, e2, if_neg (by omega)]
theorem votesW_skip {n : Nat} {p : Stk → Bool} (l : List Stk) {s : Stk} (hp : p s = false) : votesW n p (l ++ [s]) = votesW n p l := by
  unfold votesW
  refine List.map_congr_left (fun c _ => ?_)
  rw [vs_snoc, hp, Bool.and_false]; rfl
theorem votesW_nil (n : Nat) (p : Stk → Bool) : votesW n p [] = List.replicate n 0 := by
  apply List.ext_getElem?
  intro c
  by_cases h : c < n
  · rw [votesW_at h, List.getElem?_replicate, if_pos h]; rfl
  · rw [List.getElem?_eq_none (by rw [votesW_len]; omega), List.getElem?_eq_none (by rw [List.length_replicate]; omega)]
theorem VRow.madeW (W : World) (n : Nat) (p : Stk → Bool) : VRow W.heap.size (votesW n p []) (W.alloc (.cells (madeCells zc3.toArray (n * 3)) 70)) := by
  unfold VRow
  rw [votesW_nil, ← made_flat_arr n]
  exact blk_new _ _
def inP (own : Int) (S : Nat → Bool) (s : Stk) : Bool := (s.o == own) || S s.o.toNat
/-! sets -/
def addS (S : Nat → Bool) (c : Nat) : Nat → Bool := fun d => S d || d == c
def cnt (S : Nat → Bool) (n : Nat) : Nat := (idxs S n).length
theorem cnt_le (S : Nat → Bool) (n : Nat) : cnt S n ≤ n := idxs_len S n
theorem cnt_succ (S : Nat → Bool) (k : Nat) : cnt S (k + 1) = cnt S k + (if S k = true then 1 else 0) := by
  unfold cnt
  rw [idxs_take]
  split
  · rw [List.length_append]; rfl
  · rfl
theorem cnt_add {S : Nat → Bool} {c : Nat} (h : S c = false) : ∀ n, cnt (addS S c) n = cnt S n + (if c < n then 1 else 0)
  | 0 => rfl
  | n + 1 => by
    rw [cnt_succ, cnt_succ, cnt_add h n]
    by_cases h1 : n = c
    · subst h1
      have : addS S n n = true := by unfold addS; simp
      simp [this, h]
    · have : addS S c n = S n := by unfold addS; simp [h1]
      rw [this]
      by_cases h2 : c < n
      · rw [if_pos h2, if_pos (show c < n + 1 by omega)]; omega
      · rw [if_neg h2, if_neg (show ¬ c < n + 1 by omega)]; omega
theorem flags_set (S : Nat → Bool) (n c : Nat) : (flags S n).set c true = flags (addS S c) n := by
  apply List.ext_getElem?
  intro d
  rw [List.getElem?_set, flags_len]
  by_cases hd : d < n
  · rw [flags_at hd]
    by_cases hdc : c = d
    · subst hdc
      rw [if_pos rfl, if_pos hd, flags_at hd]; unfold addS; simp
    · rw [if_neg hdc, flags_at hd]; unfold addS; rw [show (d == c) = false from beq_eq_false_iff_ne.2 (Ne.symm hdc), Bool.or_false]
  · have e1 : (flags (addS S c) n)[d]? = none := List.getElem?_eq_none (by rw [flags_len]; omega)
    have e2 : (flags S n)[d]? = none := List.getElem?_eq_none (by rw [flags_len]; omega)
    rw [e1, e2]
    split
    · rw [if_neg (by omega)]
    · rfl
theorem flags_congr {S S' : Nat → Bool} {n : Nat} (h : ∀ c, c < n → S c = S' c) : flags S n = flags S' n := by
  unfold flags
  exact List.map_congr_left (fun c hc => h c (List.mem_range.1 hc))
theorem flags_none (n : Nat) : flags (fun _ => false) n = List.replicate n false := by
  unfold flags
  apply List.ext_getElem?
  intro d
  by_cases hd : d < n
  · rw [List.getElem?_map, List.getElem?_range hd, List.getElem?_replicate, if_pos hd]; rfl
  · rw [List.getElem?_eq_none (by rw [List.length_map, List.length_range]; omega), List.getElem?_eq_none (by rw [List.length_replicate]; omega)]
/-- a row of bools -/
def FRow (I : Nat) (fl : List Bool) (W : World) : Prop := W.heap[I]? = some (.cells (fl.flatMap boolV).toArray 4 (0, 0))
section
variable {I : Nat} {fl : List Bool} {W W' : World}
theorem FRow.next (h : FRow I fl W) (hb : Below W.heap.size W W') : FRow I fl W' := blk_next h hb
theorem FRow.lt (h : FRow I fl W) : I < W.heap.size := (Array.getElem?_eq_some_iff.1 h).1
theorem boolV_get : ∀ (fl : List Bool) (k : Nat), (fl.flatMap boolV)[k]? = (fl[k]?).map Value.bool
  | [], k => by simp
  | b :: fl, 0 => rfl
  | b :: fl, k + 1 => by
    show ([Value.bool b] ++ fl.flatMap boolV)[k + 1]? = _
    rw [List.singleton_append, List.getElem?_cons_succ, List.getElem?_cons_succ]
    exact boolV_get fl k
theorem boolV_len (fl : List Bool) : (fl.flatMap boolV).length = fl.length := by rw [flat_len boolV 1 (fun _ => rfl), Nat.mul_one]
theorem FRow.cell (h : FRow I fl W) {k : Nat} {b : Bool} (hk : fl[k]? = some b) : W.cell? ⟨I, k, none⟩ = some (.bool b) := by
  rw [cell_of_row W I k _ _ (0, 0) h]
  have := boolV_get fl k
  rw [hk] at this
  simpa using this
theorem FRow.frozen (h : FRow I fl W) (k : Nat) : W.frozen? ⟨I, k, none⟩ = false := frozen_of_row W I k _ _ h
theorem FRow.set (h : FRow I fl W) (k : Nat) (b : Bool) : FRow I (fl.set k b) (W.setCell ⟨I, k, none⟩ (.bool b)) := by
  have e := heap_setCell_same W I k _ _ (.bool b) h
  unfold FRow
  rw [e]
  congr 2
  rw [List.setIfInBounds_toArray]
  congr 1
  apply List.ext_getElem?
  intro j
  rw [boolV_get, List.getElem?_set, List.getElem?_set, boolV_get, boolV_len]
  by_cases hjk : k = j
  · subst hjk
    rw [if_pos rfl, if_pos rfl]
    by_cases hl : k < fl.length
    · rw [if_pos hl, if_pos hl]; rfl
    · rw [if_neg hl, if_neg hl]; rfl
  · rw [if_neg hjk, if_neg hjk]
theorem FRow.other (h : FRow I fl W) {a : Addr} (ha : I ≠ a.block) (u : Value) : FRow I fl (W.setCell a u) := (heap_setCell_other W a I u ha).trans h
theorem FRow.rd (h : FRow I fl W) : Rd W W.heap.size 1 (some ⟨I, 0, none⟩) fl.length (fl.flatMap boolV) := by
  refine ⟨by rw [boolV_len, Nat.mul_one], fun _ => ⟨I, 0, rfl, h.lt, fun j u hu => ?_⟩⟩
  rw [Nat.zero_add, cell_of_row W I j _ _ (0, 0) h]
  simpa using hu
theorem FRow.made (W : World) (n : Nat) : FRow W.heap.size (flags (fun _ => false) n) (W.alloc (.cells (madeCells (boolV false).toArray (n * 1)) 4)) := by
  unfold FRow
  rw [flags_none, ← arr_of_list (made_flat boolV 1 (fun _ => rfl) (by decide) false n)]
  exact blk_new _ _
end
theorem VRow.other {V : Nat} {vl : List Rat} {W : World} (h : VRow V vl W) {a : Addr} (ha : V ≠ a.block) (u : Value) : VRow V vl (W.setCell a u) := (heap_setCell_other W a V u ha).trans h
theorem PBox.other {q : Nat} {Ak : Option Addr} {nk ck : Nat} {As : Option Addr} {ns cs : Nat} {At : Option Addr} {nt ct : Nat} {W : World} (h : PBox q Ak nk ck As ns cs At nt ct W) {a : Addr} (ha : q ≠ a.block) (u : Value) : PBox q Ak nk ck As ns cs At nt ct (W.setCell a u) := (heap_setCell_other W a q u ha).trans h
/-- how many flags of a row in memory are set -/
noncomputable def cntW (I n : Nat) (W : World) : Nat := by
  classical
  exact ((List.range n).filter (fun c => decide (W.cell? ⟨I, c, none⟩ = some (.bool true)))).length
theorem cntW_eq {I n : Nat} {S : Nat → Bool} {W : World} (h : FRow I (flags S n) W) : cntW I n W = cnt S n := by
  unfold cntW cnt idxs
  rw [List.length_map]
  congr 1
  refine List.filter_congr (fun c hc => ?_)
  rw [h.cell (flags_at (List.mem_range.1 hc))]
  rcases S c with _ | _
  · simp
  · simp
def bOf : Value → Nat
  | .bool true => 1
  | _ => 0
def lenOf : Value → Nat
  | .slice _ n _ => n
  | _ => 0

/-! the loops of control -/
def Sound (P : Prt) (own : Int) (S : Nat → Bool) : Prop := ∀ c, S c = true → ctl P own c = true
/-- what the votes told is in the set, for all companies below k -/
def ClsTo (P : Prt) (own : Int) (S S' : Nat → Bool) (k : Nat) : Prop := ∀ c : Nat, c < k → (c : Int) ≠ own → halfR < vt P own S c → S' c = true
structure RoundS (P : Prt) (own : Int) (S S' : Nat → Bool) (ch : Bool) (k : Nat) : Prop where
  sound : Sound P own S'
  grow : ∀ c, S c = true → S' c = true
  upto : ClsTo P own S S' k
  ch : (ch = false ∧ S' = S) ∨ (ch = true ∧ cnt S P.kinds.length < cnt S' P.kinds.length)
theorem RoundS.start {P : Prt} {own : Int} {S : Nat → Bool} (h : Sound P own S) : RoundS P own S S false 0 := ⟨h, fun _ h => h, fun c hc => absurd hc (Nat.not_lt_zero _), .inl ⟨rfl, rfl⟩⟩
theorem RoundS.skip {P : Prt} {own : Int} {S S' : Nat → Bool} {ch : Bool} {k : Nat} (h : RoundS P own S S' ch k) (hk : (k : Int) = own ∨ S' k = true ∨ ¬ halfR < vt P own S k) : RoundS P own S S' ch (k + 1) :=
  ⟨h.sound, h.grow, fun c hc hn hh => by
    by_cases e : c = k
    · subst e
      rcases hk with hk | hk | hk
      · exact absurd hk hn
      · exact hk
      · exact absurd hh hk
    · exact h.upto c (by omega) hn hh, h.ch⟩
theorem RoundS.put {P : Prt} {own : Int} {S S' : Nat → Bool} {ch : Bool} {k : Nat} (h : RoundS P own S S' ch k) (hp : ∀ s ∈ P.stakes, 0 ≤ fixR s.v) (hk : k < P.kinds.length) (hn : (k : Int) ≠ own) (hf : S' k = false) (hh : halfR < vt P own S' k) : RoundS P own S (addS S' k) true (k + 1) := by
  have hg : ∀ c, S' c = true → addS S' k c = true := fun c hc => by unfold addS; rw [hc]; rfl
  have hkk : addS S' k k = true := by unfold addS; simp
  refine ⟨fun c hc => ?_, fun c hc => hg c (h.grow c hc), fun c hc hn2 hh2 => ?_, .inr ⟨rfl, ?_⟩⟩
  · unfold addS at hc
    rw [Bool.or_eq_true, beq_iff_eq] at hc
    rcases hc with hc | hc
    · exact h.sound c hc
    · subst hc
      exact ctl_step hp h.sound hk hn hh
  · by_cases e : c = k
    · rw [e]; exact hkk
    · exact hg c (h.upto c (by omega) hn2 hh2)
  · rw [cnt_add hf, if_pos hk]
    rcases h.ch with ⟨_, e⟩ | ⟨_, e⟩
    · rw [e]; omega
    · omega
theorem RoundS.more {P : Prt} {own : Int} {S S' : Nat → Bool} {ch : Bool} {k : Nat} (h : RoundS P own S S' ch k) (hp : ∀ s ∈ P.stakes, 0 ≤ fixR s.v) {c : Nat} (hh : halfR < vt P own S c) : halfR < vt P own S' c := Rat.not_le.1 (fun h3 => absurd (Rat.le_trans (vt_mono hp h.grow c) h3) (Rat.not_le.2 hh))
theorem RoundS.closed {P : Prt} {own : Int} {S S' : Nat → Bool} (h : RoundS P own S S' false P.kinds.length) : Cls P own S' := by
  rcases h.ch with ⟨_, e⟩ | ⟨e, _⟩
  · have := h.upto
    rw [e] at this ⊢
    exact fun c hc hn hh => this c hc hn hh
  · cases e
theorem ctl_flags {P : Prt} {own : Int} {S : Nat → Bool} (hs : Sound P own S) (hc : Cls P own S) (n : Nat) : flags S n = flags (ctl P own) n := flags_congr (fun c _ => ctl_eq hs hc c)

/-! connection, step by step -/
def updS (S : Nat → Bool) (c : Nat) (v : Bool) : Nat → Bool := fun d => if d = c then v else S d
theorem flags_upd (S : Nat → Bool) (n c : Nat) (v : Bool) : (flags S n).set c v = flags (updS S c v) n := by
  apply List.ext_getElem?
  intro d
  rw [List.getElem?_set, flags_len]
  by_cases hd : d < n
  · rw [flags_at hd]
    by_cases hdc : c = d
    · subst hdc
      rw [if_pos rfl, if_pos hd, flags_at hd]; unfold updS; rw [if_pos rfl]
    · rw [if_neg hdc, flags_at hd]; unfold updS; rw [if_neg (Ne.symm hdc)]
  · have e1 : (flags (updS S c v) n)[d]? = none := List.getElem?_eq_none (by rw [flags_len]; omega)
    have e2 : (flags S n)[d]? = none := List.getElem?_eq_none (by rw [flags_len]; omega)
    rw [e1, e2]
    split
    · rw [if_neg (by omega)]
    · rfl
def tieHit (a b : Nat) (t : Int × Int) : Bool := ((t.1 == (a : Int)) && (t.2 == (b : Int))) || ((t.1 == (b : Int)) && (t.2 == (a : Int)))
def tieAt (P : Prt) (k a b : Nat) : Bool := (P.ties.take k).any (tieHit a b)
noncomputable def ownHit (P : Prt) (a b o : Nat) : Bool := (o == a || ctl P (o : Int) a) && (o == b || ctl P (o : Int) b)
theorem con_eq (P : Prt) (a b : Nat) : con P a b = ((b == a) || (P.ties.any (tieHit a b) || (List.range P.kinds.length).any (ownHit P a b))) := by
  rw [Bool.eq_iff_iff, con_iff]
  simp only [Bool.or_eq_true, beq_iff_eq, List.any_eq_true, tieHit, ownHit, Bool.and_eq_true, List.mem_range]
noncomputable def T1 (P : Prt) (a k b : Nat) : Bool := (ctl P (a : Int) b || b == a) || tieAt P k a b
noncomputable def T2 (P : Prt) (a k b : Nat) : Bool := T1 P a P.ties.length b || (List.range k).any fun o => ctl P (o : Int) a && (o == b || ctl P (o : Int) b)
noncomputable def T3 (P : Prt) (a k j b : Nat) : Bool := (T2 P a k b || b == k) || (decide (b < j) && ctl P (k : Int) b)
theorem T1_zero (P : Prt) (a : Nat) : T1 P a 0 = updS (ctl P (a : Int)) a true := by
  funext b
  unfold T1 tieAt updS
  by_cases h : b = a
  · subst h; simp
  · simp [h]
theorem T1_succ {P : Prt} {a k : Nat} {x y : Nat} (ht : P.ties[k]? = some ((x : Int), (y : Int))) : T1 P a (k + 1) = (fun S => if y = a then updS S x true else S) (if x = a then updS (T1 P a k) y true else T1 P a k) := by
  funext b
  have e : tieAt P (k + 1) a b = (tieAt P k a b || tieHit a b ((x : Int), (y : Int))) := by
    unfold tieAt
    rw [List.take_add_one, ht, List.any_append]
    simp
  have e2 : tieHit a b ((x : Int), (y : Int)) = ((decide (x = a) && decide (y = b)) || (decide (x = b) && decide (y = a))) := by
    unfold tieHit
    rw [Bool.eq_iff_iff]
    simp only [Bool.or_eq_true, Bool.and_eq_true, beq_iff_eq, decide_eq_true_eq]
    omega
  have e3 : T1 P a (k + 1) b = (T1 P a k b || ((decide (x = a) && decide (y = b)) || (decide (x = b) && decide (y = a)))) := by
    unfold T1
    rw [e, e2]
    simp only [Bool.or_assoc]
  rw [e3]
  dsimp only
  by_cases h1 : x = a
  · by_cases h2 : y = a
    · rw [if_pos h1, if_pos h2]
      unfold updS
      by_cases h3 : b = x
      · rw [if_pos h3, decide_eq_true h3.symm, decide_eq_true h2]; simp
      · rw [if_neg h3]
        by_cases h4 : b = y
        · omega
        · rw [if_neg h4, decide_eq_false (show ¬ y = b by omega), decide_eq_false (show ¬ x = b by omega)]; simp
    · rw [if_pos h1, if_neg h2]
      unfold updS
      by_cases h4 : b = y
      · rw [if_pos h4, decide_eq_true h1, decide_eq_true h4.symm]; simp
      · rw [if_neg h4, decide_eq_false (show ¬ y = b by omega), decide_eq_false h2]; simp
  · by_cases h2 : y = a
    · rw [if_neg h1, if_pos h2]
      unfold updS
      by_cases h3 : b = x
      · rw [if_pos h3, decide_eq_true h3.symm, decide_eq_true h2]; simp
      · rw [if_neg h3, decide_eq_false h1, decide_eq_false (show ¬ x = b by omega)]; simp
    · rw [if_neg h1, if_neg h2, decide_eq_false h1, decide_eq_false h2]; simp
theorem T2_zero (P : Prt) (a : Nat) : T2 P a 0 = T1 P a P.ties.length := by
  funext b
  unfold T2
  simp
theorem any_range_succ (f : Nat → Bool) (k : Nat) : (List.range (k + 1)).any f = ((List.range k).any f || f k) := by
  rw [List.range_succ, List.any_append]; simp
theorem T2_skip {P : Prt} {a k : Nat} (h : ctl P (k : Int) a = false) : T2 P a (k + 1) = T2 P a k := by
  funext b
  unfold T2
  rw [any_range_succ, h, Bool.false_and, Bool.or_false]
theorem T3_zero (P : Prt) (a k : Nat) : T3 P a k 0 = updS (T2 P a k) k true := by
  funext b
  unfold T3 updS
  by_cases h : b = k
  · subst h; simp
  · simp [h]
theorem T3_succ (P : Prt) (a k j : Nat) : T3 P a k (j + 1) = updS (T3 P a k j) j (T3 P a k j j || ctl P (k : Int) j) := by
  funext b
  unfold T3 updS
  by_cases h : b = j
  · subst h; simp
  · rw [if_neg h]
    congr 2
    rw [Bool.eq_iff_iff]; simp only [decide_eq_true_eq]; omega
theorem T3_end {P : Prt} {a k : Nat} (h : ctl P (k : Int) a = true) {b : Nat} (hb : b < P.kinds.length) : T3 P a k P.kinds.length b = T2 P a (k + 1) b := by
  unfold T3 T2
  rw [any_range_succ, h, Bool.true_and, decide_eq_true hb, Bool.true_and]
  have : (b == k) = (k == b) := by rw [Bool.eq_iff_iff]; simp only [beq_iff_eq]; omega
  rw [this]
  simp only [Bool.or_assoc]
theorem T2_end {P : Prt} {a : Nat} (ha : a < P.kinds.length) (b : Nat) : T2 P a P.kinds.length b = con P a b := by
  rw [con_eq]
  unfold T2 T1 tieAt
  rw [List.take_length]
  rw [Bool.eq_iff_iff]
  simp only [Bool.or_eq_true, beq_iff_eq, List.any_eq_true, ownHit, Bool.and_eq_true, List.mem_range]
  constructor
  · rintro (((h | h) | h) | ⟨o, ho, h1, h2⟩)
    · exact .inr (.inr ⟨a, ha, .inl rfl, .inr h⟩)
    · exact .inl h
    · exact .inr (.inl h)
    · exact .inr (.inr ⟨o, ho, .inr h1, h2⟩)
  · rintro (h | h | ⟨o, ho, h1, h2⟩)
    · exact .inl (.inl (.inr h))
    · exact .inl (.inr h)
    · rcases h1 with h1 | h1
      · subst h1
        rcases h2 with h2 | h2
        · exact .inl (.inl (.inr h2.symm))
        · exact .inl (.inl (.inl h2))
      · exact .inr ⟨o, ho, h1, h2⟩

end Go.Proofs.YtomfcmlomfcghaaGreatDoor

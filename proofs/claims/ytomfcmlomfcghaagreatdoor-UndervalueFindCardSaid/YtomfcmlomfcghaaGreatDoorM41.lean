/- Merged of PtyB PtyM PBase PChkM PMake. -/
import Derived.Test.YtomfcmlomfcghaaGreatDoorPty
import Derived.Test.YtomfcmlomfcghaaGreatDoorM3
import Derived.Deep.QuietTactic
import Derived.StillTailTactics
import Derived.Test.YtomfcmlomfcghaaGreatDoorM15
/- Parties: plain laws for the statements. Nothing of the program's text. -/
set_option linter.unusedVariables false
set_option linter.unusedSimpArgs false
namespace Go.Proofs.YtomfcmlomfcghaaGreatDoor
open Go.RowKit

theorem stks_all {ks : List Int} : ∀ {l : List Stk}, (∀ x ∈ l, stkErr ks x = 0) → stksErr ks l = 0
  | [], _ => rfl
  | y :: l, h => by
    unfold stksErr
    rw [if_pos (h y (by simp))]
    exact stks_all (fun x hx => h x (by simp [hx]))
theorem chk_of {P : Prt} (h1 : P.kinds.length ≤ 32 ∧ P.stakes.length ≤ 64 ∧ P.ties.length ≤ 64) (h2 : P.kinds.any kindBad = false) (h3 : ∀ x ∈ P.stakes, stkErr P.kinds x = 0) (h4 : overs P.kinds.length P.stakes = false) (h5 : P.ties.all (tieFine P.kinds.length) = true) : chk P = 0 := by
  unfold chk
  rw [if_neg (by omega), if_neg (by rw [h2]; decide), if_neg (by rw [stks_all h3]; omega), if_neg (by rw [h4]; decide), if_pos h5]
theorem stkErr_of {ks : List Int} {s : Stk} (h1 : stkFine ks s = true) (h2 : 0 < fixR s.v) : stkErr ks s = 0 := by unfold stkErr; rw [if_pos h1, if_pos h2]
theorem overs_false {n : Nat} {l : List Stk} : overs n l = false ↔ ∀ c : Nat, c < n → vs (fun s => s.c == (c : Int)) l ≤ 1 := by
  unfold overs
  rw [List.any_eq_false]
  constructor
  · intro h c hc
    have := h c (List.mem_range.2 hc)
    unfold overAt at this
    exact Rat.not_lt.1 (fun h2 => this (decide_eq_true h2))
  · intro h c hc
    unfold overAt
    have := h c (List.mem_range.1 hc)
    intro h2
    exact absurd this (Rat.not_le.2 (of_decide_eq_true h2))
/-! the list of a set -/
theorem mem_idxs {S : Nat → Bool} {n : Nat} {x : Int} : x ∈ idxs S n ↔ ∃ c : Nat, c < n ∧ S c = true ∧ x = (c : Int) := by
  unfold idxs
  simp only [List.mem_map, List.mem_filter, List.mem_range]
  constructor
  · rintro ⟨c, ⟨h1, h2⟩, rfl⟩; exact ⟨c, h1, h2, rfl⟩
  · rintro ⟨c, h1, h2, rfl⟩; exact ⟨c, ⟨h1, h2⟩, rfl⟩
theorem has_idxs {S : Nat → Bool} {n c : Nat} (hc : c < n) : (idxs S n).any (· == (c : Int)) = S c := by
  rcases h : S c with _ | _
  · rw [List.any_eq_false]
    intro x hx
    obtain ⟨d, _, hd, rfl⟩ := mem_idxs.1 hx
    intro h2
    simp only [beq_iff_eq] at h2
    have : d = c := by omega
    rw [this, h] at hd; cases hd
  · rw [List.any_eq_true]
    exact ⟨(c : Int), mem_idxs.2 ⟨c, hc, h, rfl⟩, by simp⟩
theorem idxs_take (S : Nat → Bool) (k : Nat) : idxs S (k + 1) = if S k = true then idxs S k ++ [(k : Int)] else idxs S k := by
  unfold idxs
  rw [List.range_succ, List.filter_append, List.map_append]
  split
  · rename_i h; simp [List.filter, h]
  · rename_i h; simp [List.filter, h]
theorem idxs_len (S : Nat → Bool) (n : Nat) : (idxs S n).length ≤ n := by
  unfold idxs
  rw [List.length_map]
  exact Nat.le_trans (List.length_filter_le _ _) (by rw [List.length_range]; exact Nat.le_refl _)
theorem con_self {P : Prt} {a : Nat} : con P a a = true := con_iff.2 (.inl rfl)
end Go.Proofs.YtomfcmlomfcghaaGreatDoor

/- Parties in memory. -/
set_option linter.unusedVariables false
set_option linter.unusedSimpArgs false
namespace Go.Proofs.YtomfcmlomfcghaaGreatDoor
open Go.RowKit

def i64b (x : Int) : Prop := -9223372036854775808 ≤ x ∧ x ≤ 9223372036854775807
def intV (x : Int) : List Value := [.int .i64 x]
def stkV (s : Stk) : List Value := [.int .i64 s.o, .int .i64 s.c, .bool s.v.neg, .string s.v.num, .string s.v.den]
def tieV (t : Int × Int) : List Value := [.int .i64 t.1, .int .i64 t.2]
/-- the parties' value -/
abbrev ptyVal (Ak : Option Addr) (nk ck : Nat) (As : Option Addr) (ns cs : Nat) (At : Option Addr) (nt ct : Nat) : Value := .agg #[.slice Ak nk ck, .slice As ns cs, .slice At nt ct]
structure PRd (Ak : Option Addr) (nk : Nat) (As : Option Addr) (ns : Nat) (At : Option Addr) (nt : Nat) (P : Prt) (W : World) : Prop where
  k : Rd W W.heap.size 1 Ak P.kinds.length (P.kinds.flatMap intV)
  s : Rd W W.heap.size 5 As P.stakes.length (P.stakes.flatMap stkV)
  t : Rd W W.heap.size 2 At P.ties.length (P.ties.flatMap tieV)
  nk : nk = P.kinds.length
  ns : ns = P.stakes.length
  nt : nt = P.ties.length
theorem PRd.next {Ak : Option Addr} {nk : Nat} {As : Option Addr} {ns : Nat} {At : Option Addr} {nt : Nat} {P : Prt} {W W' : World} (h : PRd Ak nk As ns At nt P W) (hb : Below W.heap.size W W') : PRd Ak nk As ns At nt P W' :=
  ⟨h.k.next hb, h.s.next hb, h.t.next hb, h.nk, h.ns, h.nt⟩
/-- how great the parties' numbers are -/
structure PB (m : Nat) (P : Prt) : Prop where
  m1 : 0 < m
  m2 : m ≤ 1000
  k : ∀ x ∈ P.kinds, i64b x
  s : ∀ x ∈ P.stakes, i64b x.o ∧ i64b x.c ∧ x.v.fits m
  t : ∀ x ∈ P.ties, i64b x.1 ∧ i64b x.2
  kl : P.kinds.length ≤ maxLen
  sl : P.stakes.length ≤ maxLen
  tl : P.ties.length ≤ maxLen
theorem PB.sz {m : Nat} {P : Prt} (h : PB m P) : ∀ s ∈ P.stakes, Sz m (fixR s.v) := fun s hs => fix_sz (h.s s hs).2.2 h.m1
/-- the box of a parties' struct -/
def PBox (q : Nat) (Ak : Option Addr) (nk ck : Nat) (As : Option Addr) (ns cs : Nat) (At : Option Addr) (nt ct : Nat) (W : World) : Prop := W.heap[q]? = some (.cells #[.slice Ak nk ck, .slice As ns cs, .slice At nt ct] 26 (0, 0))
theorem PBox.next {q : Nat} {Ak : Option Addr} {nk ck : Nat} {As : Option Addr} {ns cs : Nat} {At : Option Addr} {nt ct : Nat} {W W' : World} (h : PBox q Ak nk ck As ns cs At nt ct W) (hb : Below W.heap.size W W') : PBox q Ak nk ck As ns cs At nt ct W' := blk_next h hb
theorem PBox.cells {q : Nat} {Ak : Option Addr} {nk ck : Nat} {As : Option Addr} {ns cs : Nat} {At : Option Addr} {nt ct : Nat} {W : World} (h : PBox q Ak nk ck As ns cs At nt ct W) :
    W.cell? ⟨q, 0, none⟩ = some (.slice Ak nk ck) ∧ W.cell? ⟨q, 1, none⟩ = some (.slice As ns cs) ∧ W.cell? ⟨q, 2, none⟩ = some (.slice At nt ct) := by
  refine ⟨?_, ?_, ?_⟩
  · rw [cell_of_row W q 0 _ _ (0, 0) h]; rfl
  · rw [cell_of_row W q 1 _ _ (0, 0) h]; rfl
  · rw [cell_of_row W q 2 _ _ (0, 0) h]; rfl
theorem rd_int {w : World} {B : Nat} {A : Option Addr} {l : List Int} (h : Rd w B 1 A l.length (l.flatMap intV)) {k : Nat} {x : Int} (hk : l[k]? = some x) : ∃ b off, A = some ⟨b, off, none⟩ ∧ b < B ∧ w.cell? ⟨b, off + k, none⟩ = some (.int .i64 x) := by
  obtain ⟨b, off, e, hb, hc⟩ := Rd.at_ (enc := intV) (fun _ => rfl) h hk
  have := hc 0 _ rfl
  rw [Nat.mul_one, Nat.add_zero] at this
  exact ⟨b, off, e, hb, this⟩

end Go.Proofs.YtomfcmlomfcghaaGreatDoor

/- party.is, list. -/
set_option linter.unusedVariables false
set_option linter.unusedSimpArgs false
namespace Go.Proofs.YtomfcmlomfcghaaGreatDoor
open Go.RowKit

theorem own_below {w w' : World} {base e size n : Nat} {v : Value} {xs : List Value} (h : w.ownsRow base e size v n xs) (hb : Below w.heap.size w w') : w'.ownsRow base e size v n xs := by
  refine ⟨h.1, ?_⟩
  rcases h.2 with hn | ⟨g, cap, cur, rfl, hb2, hgg, rest⟩
  · exact .inl hn
  · refine .inr ⟨g, cap, cur, rfl, hb2, ?_, rest⟩
    rw [hb.block g (Array.getElem?_eq_some_iff.1 hgg).1]; exact hgg
theorem Tryz.info_int : (Tryz.prog.info? 3).map (fun i => (i.zero, i.size, i.bytes)) = some (some (.int .i64 0), 1, 8) := by kernel_rfl
def boolV (b : Bool) : List Value := [.bool b]
theorem flags_len (S : Nat → Bool) (n : Nat) : (flags S n).length = n := by unfold flags; rw [List.length_map, List.length_range]
theorem flags_at {S : Nat → Bool} {n k : Nat} (h : k < n) : (flags S n)[k]? = some (S k) := by
  unfold flags
  rw [List.getElem?_map, List.getElem?_range h]; rfl

set_option maxHeartbeats 1000000 in
theorem is_calls (Ak : Option Addr) (nk ck : Nat) (As : Option Addr) (ns cs : Nat) (At : Option Addr) (nt ct : Nat) (a : Int) (w : World) (hk : nk ≤ maxLen) :
    Calls Tryz.prog 38 #[ptyVal Ak nk ck As ns cs At nt ct, .int .i64 a] w fun e w' => e = .returned (.bool (inN nk a)) ∧ Below w.heap.size w w' := by
  unfold maxLen at hk
  unfold inN
  by_cases h0 : 0 ≤ a
  · have d0 : decide ((0 : Int) ≤ a) = true := decide_eq_true h0
    by_cases h1 : a < (nk : Int)
    · have d1 : decide (a < (nk : Int)) = true := decide_eq_true h1
      rw [d0, d1]
      go_enter Tryz.func38, Tryz.ntmps38
      go_wp2_with fail
      go_ret
      exact ⟨rfl, bel_alloc _ _⟩
    · have d1 : decide (a < (nk : Int)) = false := decide_eq_false h1
      rw [d0, d1]
      go_enter Tryz.func38, Tryz.ntmps38
      go_wp2_with fail
      go_ret
      exact ⟨rfl, bel_alloc _ _⟩
  · have d0 : decide ((0 : Int) ≤ a) = false := decide_eq_false h0
    rw [d0, Bool.false_and]
    go_enter Tryz.func38, Tryz.ntmps38
    go_wp2_with fail
    go_ret
    exact ⟨rfl, bel_alloc _ _⟩

/-- a list of integers that a function returns -/
def IntsPost (l : List Int) (w : World) (e : Ending) (w' : World) : Prop := ∃ A c, e = .returned (.slice A l.length c) ∧ Rd w' w'.heap.size 1 A l.length (l.flatMap intV) ∧ Below w.heap.size w w'
end Go.Proofs.YtomfcmlomfcghaaGreatDoor

/- party.Check: what lies in memory: a stake's box, a tie's box, the row of votes. -/
set_option linter.unusedVariables false
set_option linter.unusedSimpArgs false
namespace Go.Proofs.YtomfcmlomfcghaaGreatDoor
open Go.RowKit

def SBox (g : Nat) (s : Stk) (W : World) : Prop := W.heap[g]? = some (.cells #[.int .i64 s.o, .int .i64 s.c, .bool s.v.neg, .string s.v.num, .string s.v.den] 72 (0, 0))
theorem SBox.next {g : Nat} {s : Stk} {W W' : World} (h : SBox g s W) (hb : Below W.heap.size W W') : SBox g s W' := blk_next h hb
theorem SBox.cells {g : Nat} {s : Stk} {W : World} (h : SBox g s W) : W.cell? ⟨g, 0, none⟩ = some (.int .i64 s.o) ∧ W.cell? ⟨g, 1, none⟩ = some (.int .i64 s.c) ∧ W.cell? ⟨g, 2, none⟩ = some (.bool s.v.neg) ∧ W.cell? ⟨g, 3, none⟩ = some (.string s.v.num) ∧ W.cell? ⟨g, 4, none⟩ = some (.string s.v.den) := by
  refine ⟨?_, ?_, ?_, ?_, ?_⟩
  · rw [cell_of_row W g 0 _ _ (0, 0) h]; rfl
  · rw [cell_of_row W g 1 _ _ (0, 0) h]; rfl
  · rw [cell_of_row W g 2 _ _ (0, 0) h]; rfl
  · rw [cell_of_row W g 3 _ _ (0, 0) h]; rfl
  · rw [cell_of_row W g 4 _ _ (0, 0) h]; rfl
def TBox (g : Nat) (a b : Int) (W : World) : Prop := W.heap[g]? = some (.cells #[.int .i64 a, .int .i64 b] 87 (0, 0))
theorem TBox.next {g : Nat} {a b : Int} {W W' : World} (h : TBox g a b W) (hb : Below W.heap.size W W') : TBox g a b W' := blk_next h hb
theorem TBox.cells {g : Nat} {a b : Int} {W : World} (h : TBox g a b W) : W.cell? ⟨g, 0, none⟩ = some (.int .i64 a) ∧ W.cell? ⟨g, 1, none⟩ = some (.int .i64 b) := by
  refine ⟨?_, ?_⟩
  · rw [cell_of_row W g 0 _ _ (0, 0) h]; rfl
  · rw [cell_of_row W g 1 _ _ (0, 0) h]; rfl
/-- a row of rational numbers -/
def VRow (V : Nat) (vl : List Rat) (W : World) : Prop := W.heap[V]? = some (.cells (vl.flatMap ratCells).toArray 70 (0, 0))
theorem VRow.next {V : Nat} {vl : List Rat} {W W' : World} (h : VRow V vl W) (hb : Below W.heap.size W W') : VRow V vl W' := blk_next h hb
theorem ratCells_len (q : Rat) : (ratCells q).length = 3 := rfl
theorem VRow.three {V : Nat} {vl : List Rat} {W : World} (h : VRow V vl W) {j : Nat} {q : Rat} (hj : vl[j]? = some q) :
    W.cell? ⟨V, j * 3, none⟩ = some (.bool (rneg q)) ∧ W.cell? ⟨V, j * 3 + 1, none⟩ = some (.string (rnum q)) ∧ W.cell? ⟨V, j * 3 + 2, none⟩ = some (.string (rden q)) ∧ W.frozen? ⟨V, j * 3, none⟩ = false ∧ W.frozen? ⟨V, j * 3 + 1, none⟩ = false ∧ W.frozen? ⟨V, j * 3 + 2, none⟩ = false ∧ V < W.heap.size := by
  have c : ∀ (i : Nat) (u : Value), i < 3 → (ratCells q)[i]? = some u → W.cell? ⟨V, j * 3 + i, none⟩ = some u := fun i u hi hu => by
    rw [cell_of_row W V _ _ _ (0, 0) h]
    have := flat_get ratCells 3 ratCells_len vl j i q hj hi
    simpa [hu] using this
  exact ⟨c 0 _ (by decide) rfl, c 1 _ (by decide) rfl, c 2 _ (by decide) rfl, frozen_of_row W V _ _ _ h, frozen_of_row W V _ _ _ h, frozen_of_row W V _ _ _ h, (Array.getElem?_eq_some_iff.1 h).1⟩
theorem setCells_list (b : Nat) (T : TypeId) : ∀ (vs pre old post : List Value) (W : World), W.heap[b]? = some (.cells (pre ++ old ++ post).toArray T (0, 0)) → old.length = vs.length → (W.setCells b pre.length vs).heap[b]? = some (.cells (pre ++ vs ++ post).toArray T (0, 0))
  | [], pre, old, post, W, h, hl => by
    obtain rfl : old = [] := List.eq_nil_of_length_eq_zero hl
    exact h
  | v :: r, pre, old, post, W, h, hl => by
    cases old with
    | nil => simp at hl
    | cons x old =>
      have h1 := heap_setCell_same W b pre.length _ _ v h
      have e : (pre ++ x :: old ++ post).toArray.setIfInBounds pre.length v = ((pre ++ [v]) ++ old ++ post).toArray := by
        rw [List.setIfInBounds_toArray]
        congr 1
        simp
      rw [e] at h1
      have h2 := setCells_list b T r (pre ++ [v]) old post _ h1 (by simpa using hl)
      rw [World.setCells]
      rw [List.length_append, List.length_singleton] at h2
      simpa using h2
theorem VRow.set {V : Nat} {vl : List Rat} {W : World} (h : VRow V vl W) {j : Nat} {q : Rat} (hj : vl[j]? = some q) (r : Rat) :
    VRow V (vl.set j r) (((W.setCell ⟨V, j * 3, none⟩ (.bool (rneg r))).setCell ⟨V, j * 3 + 1, none⟩ (.string (rnum r))).setCell ⟨V, j * 3 + 2, none⟩ (.string (rden r))) := by
  have hlt : j < vl.length := (List.getElem?_eq_some_iff.1 hj).1
  have e0 : vl = vl.take j ++ q :: vl.drop (j + 1) := by
    have : vl[j] = q := by rw [List.getElem?_eq_getElem hlt] at hj; exact Option.some.inj hj
    rw [← this, ← List.drop_eq_getElem_cons hlt, List.take_append_drop]
  have e1 : vl.set j r = vl.take j ++ r :: vl.drop (j + 1) := List.set_eq_take_append_cons_drop.trans (if_pos hlt)
  have hl : ((vl.take j).flatMap ratCells).length = j * 3 := by rw [flat_len ratCells 3 ratCells_len, List.length_take]; congr 1; omega
  have h2 : W.heap[V]? = some (.cells ((vl.take j).flatMap ratCells ++ ratCells q ++ (vl.drop (j + 1)).flatMap ratCells).toArray 70 (0, 0)) := by
    have : vl.flatMap ratCells = (vl.take j).flatMap ratCells ++ ratCells q ++ (vl.drop (j + 1)).flatMap ratCells := by
      conv => lhs; rw [e0]
      rw [List.flatMap_append, List.flatMap_cons, List.append_assoc]
    rw [← this]; exact h
  have h3 := setCells_list V 70 (ratCells r) _ _ _ W h2 rfl
  rw [hl] at h3
  unfold VRow
  rw [e1, List.flatMap_append, List.flatMap_cons, ← List.append_assoc]
  exact h3
/-- the votes so far -/
def votesTo (n : Nat) (l : List Stk) : List Rat := (List.range n).map fun (c : Nat) => vs (fun s => s.c == (c : Int)) l
theorem votesTo_len (n : Nat) (l : List Stk) : (votesTo n l).length = n := by unfold votesTo; rw [List.length_map, List.length_range]
theorem votesTo_at {n c : Nat} (h : c < n) (l : List Stk) : (votesTo n l)[c]? = some (vs (fun s => s.c == (c : Int)) l) := by
  unfold votesTo
  rw [List.getElem?_map, List.getElem?_range h]; rfl
theorem votesTo_snoc {n c : Nat} (h : c < n) (l : List Stk) (o : Int) (v : FQ) : votesTo n (l ++ [⟨o, (c : Int), v⟩]) = (votesTo n l).set c (vs (fun s => s.c == (c : Int)) l + fixR v) := by
  apply List.ext_getElem?
  intro d
  rw [List.getElem?_set, votesTo_len]
  by_cases hd : d < n
  · rw [votesTo_at hd, vs_snoc]
    dsimp only
    by_cases hdc : c = d
    · subst hdc
      rw [if_pos rfl, if_pos hd, if_pos (by simp)]
    · rw [if_neg hdc, votesTo_at hd, if_neg (by simp; omega)]
  · have e1 : (votesTo n (l ++ [⟨o, (c : Int), v⟩]))[d]? = none := List.getElem?_eq_none (by rw [votesTo_len]; omega)
    have e2 : (votesTo n l)[d]? = none := List.getElem?_eq_none (by rw [votesTo_len]; omega)
    rw [e1, e2, if_neg (by omega)]

end Go.Proofs.YtomfcmlomfcghaaGreatDoor

/- make([]api.Rat, n), make([]bool, n). -/
set_option linter.unusedVariables false
set_option linter.unusedSimpArgs false
namespace Go.Proofs.YtomfcmlomfcghaaGreatDoor
open Go.RowKit

theorem made_flat {α : Type} (en : α → List Value) (S : Nat) (hS : ∀ x, (en x).length = S) (h0 : 0 < S) (x : α) (n : Nat) : (madeCells (en x).toArray (n * S)).toList = (List.replicate n x).flatMap en := by
  apply List.ext_getElem?
  intro j
  by_cases hj : j < n * S
  · have hk : j / S < n := Nat.div_lt_of_lt_mul (by rw [Nat.mul_comm]; exact hj)
    have hm := Nat.mod_lt j h0
    have hjj : j / S * S + j % S = j := by rw [Nat.mul_comm]; exact Nat.div_add_mod j S
    have h1 := flat_get en S hS (List.replicate n x) (j / S) (j % S) x (by simp [hk]) hm
    rw [hjj] at h1
    rw [h1]
    have hml : j % S < (en x).length := by rw [hS]; exact hm
    simp only [madeCells, Array.getElem?_toList]
    rw [Array.getElem?_map, Array.getElem?_range, if_pos hj]
    simp only [Option.map_some, List.size_toArray, hS]
    rw [List.getElem?_eq_getElem hml]
    simp [hml]
  · have h2 := flat_len en S hS (List.replicate n x)
    rw [List.length_replicate] at h2
    rw [List.getElem?_eq_none (by rw [Array.length_toList, size_madeCells]; omega), List.getElem?_eq_none (by rw [h2]; omega)]

theorem Tryz.info_rat3 : (Tryz.prog.info? 70).map (fun i => (i.zero, i.size, i.bytes)) = some (some (.agg #[.bool false, .string ⟨#[]⟩, .string ⟨#[]⟩]), 3, 40) := by kernel_rfl
theorem Tryz.info_bool1 : (Tryz.prog.info? 4).map (fun i => (i.zero, i.size, i.bytes)) = some (some (.bool false), 1, 1) := by kernel_rfl
def zc3 : List Value := [.bool false, .string ⟨#[]⟩, .string ⟨#[]⟩]
theorem ratCells_zero : ratCells 0 = zc3 := by rw [ratCells, rneg_zero, rnum_zero, rden_zero]; rfl
theorem cells_rat3 : (Value.agg #[.bool false, .string ⟨#[]⟩, .string ⟨#[]⟩]).cells = zc3.toArray := by kernel_rfl
theorem cells_bool1 : (Value.bool false).cells = (boolV false).toArray := by kernel_rfl
theorem make_votes (m : Nat) (hm : m ≤ 1000) (W : World) : (Instr.makeSlice 89 (.int .i64 (m : Int)) (.int .i64 (m : Int))).run Tryz.prog W = .ok (.slice (some ⟨W.heap.size, 0, none⟩) m m) (W.alloc (.cells (madeCells zc3.toArray (m * 3)) 70)) := by
  obtain ⟨i, hi, hz, hs, hb⟩ := info_parts Tryz.info_rat3
  have hc := cells_rat3
  have := run_make (P := Tryz.prog) W 89 70 i _ Tryz.underlying89 hi hz .i64 .i64 m m (by omega) (Int.le_refl _) (by rw [hb]; omega) (by omega)
  simp only [Int.toNat_natCast, hs, hc] at this
  exact this
theorem make_flags (m : Nat) (hm : m ≤ 1000) (W : World) : (Instr.makeSlice 77 (.int .i64 (m : Int)) (.int .i64 (m : Int))).run Tryz.prog W = .ok (.slice (some ⟨W.heap.size, 0, none⟩) m m) (W.alloc (.cells (madeCells (boolV false).toArray (m * 1)) 4)) := by
  obtain ⟨i, hi, hz, hs, hb⟩ := info_parts Tryz.info_bool1
  have hc := cells_bool1
  have := run_make (P := Tryz.prog) W 77 4 i _ Tryz.underlying77 hi hz .i64 .i64 m m (by omega) (Int.le_refl _) (by rw [hb]; omega) (by omega)
  simp only [Int.toNat_natCast, hs, hc] at this
  exact this
theorem arr_of_list {a : Array Value} {l : List Value} (h : a.toList = l) : a = l.toArray := by rw [← h]
theorem votesTo_nil (n : Nat) : votesTo n [] = List.replicate n 0 := by
  apply List.ext_getElem?
  intro c
  by_cases h : c < n
  · rw [votesTo_at h, List.getElem?_replicate, if_pos h]; rfl
  · rw [List.getElem?_eq_none (by rw [votesTo_len]; omega), List.getElem?_eq_none (by rw [List.length_replicate]; omega)]
theorem made_flat_arr (n : Nat) : madeCells zc3.toArray (n * 3) = ((List.replicate n (0 : Rat)).flatMap ratCells).toArray := by
  have := made_flat ratCells 3 ratCells_len (by decide) 0 n
  rw [ratCells_zero] at this
  exact arr_of_list this
theorem VRow.made (W : World) (n : Nat) : VRow W.heap.size (votesTo n []) (W.alloc (.cells (madeCells zc3.toArray (n * 3)) 70)) := by
  unfold VRow
  rw [votesTo_nil, ← made_flat_arr n]
  exact blk_new _ _

end Go.Proofs.YtomfcmlomfcghaaGreatDoor

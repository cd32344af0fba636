/- Numbers as the codec writes them: plain laws; a writer in memory. -/
import Derived.Test.YtcljkdjmmolfoaaDoorCmp
set_option linter.unusedVariables false
set_option linter.unusedSimpArgs false
namespace Go.Proofs.YtcljkdjmmolfoaaDoor
open Go.RowKit

def vint (n : Nat) : List Nat := if n < 128 then [n] else (n % 128 + 128) :: vint (n / 128)
termination_by n
decreasing_by omega
theorem vint_small {n : Nat} (h : n < 128) : vint n = [n] := by rw [vint, if_pos h]
theorem vint_big {n : Nat} (h : ¬ n < 128) : vint n = (n % 128 + 128) :: vint (n / 128) := by rw [vint, if_neg h]
theorem vint_len (n : Nat) : ∀ k, n < 128 ^ k → (vint n).length ≤ k + 1 := by
  induction n using Nat.strongRecOn with
  | ind n ih =>
    intro k hk
    by_cases h : n < 128
    · rw [vint_small h]; simp
    · rw [vint_big h]
      cases k with
      | zero => simp at hk; omega
      | succ k =>
        have := ih (n / 128) (by omega) k (by rw [Nat.pow_succ] at hk; omega)
        simp; omega
theorem vint_len10 {n : Nat} (h : n < 18446744073709551616) : (vint n).length ≤ 11 := vint_len n 10 (Nat.lt_of_lt_of_le h (by decide))
theorem vint_pos (n : Nat) : 0 < (vint n).length := by
  by_cases h : n < 128
  · rw [vint_small h]; simp
  · rw [vint_big h]; simp
theorem vint_byt (n : Nat) : Byt (vint n) := by
  induction n using Nat.strongRecOn with
  | ind n ih =>
    by_cases h : n < 128
    · rw [vint_small h]; intro x hx; simp at hx; omega
    · rw [vint_big h]
      intro x hx
      rcases List.mem_cons.1 hx with rfl | hx
      · omega
      · exact ih (n / 128) (by omega) x hx

/-- a signed number without a sign -/
def zig (z : Int) : Nat := if z < 0 then (-2 * z - 1).toNat else (2 * z).toNat
/-- the range of numbers -/
def rngN (z : Int) : Bool := decide (-1125899906842624 ≤ z) && decide (z ≤ 1125899906842624)

theorem or128 (x : Nat) (h : x < 256) : bits .or .u8 (x : Int) 128 = ((x % 128 + 128 : Nat) : Int) := by
  have h1 := bits_or .u8 8 rfl rfl x 128 (by omega) (by omega)
  have h2 : ∀ y : Fin 256, y.val ||| 128 = y.val % 128 + 128 := by decide +kernel
  rw [show ((128 : Nat) : Int) = 128 from rfl] at h1
  rw [h1, h2 ⟨x, h⟩]

def u8s (l : List Nat) : List Value := l.map fun (x : Nat) => Value.int .u8 (x : Int)
theorem u8s_append (a b : List Nat) : u8s (a ++ b) = u8s a ++ u8s b := List.map_append
theorem u8s_len (a : List Nat) : (u8s a).length = a.length := List.length_map _

/-- a writer in block g, its bytes and its mark; what it owns lies from block B on -/
def Wr (B g : Nat) (bs : List Nat) (ok : Bool) (W : World) : Prop :=
  ∃ v, W.heap[g]? = some (.cells #[v, .bool ok] 101 (0, 0)) ∧ W.ownsRow B 5 1 v bs.length (u8s bs) ∧ B ≤ g

/-- every block of cells other than g that holds no bytes is as it was -/
def KeepT (g : Nat) (W W' : World) : Prop := ∀ q cur T f, W.heap[q]? = some (.cells cur T f) → T ≠ 5 → q ≠ g → W'.heap[q]? = some (.cells cur T f)
theorem KeepT.refl (g : Nat) (W : World) : KeepT g W W := fun _ _ _ _ h _ _ => h
theorem KeepT.trans {g : Nat} {W W' W'' : World} (h : KeepT g W W') (h2 : KeepT g W' W'') : KeepT g W W'' := fun q c T f a b d => h2 q c T f (h q c T f a b d) b d
theorem KeepT.setCell {g j : Nat} {W W' : World} {u : Value} (h : KeepT g W W') : KeepT g W (W'.setCell ⟨g, j, none⟩ u) := fun q c T f a b d => by
  rw [heap_setCell_other W' ⟨g, j, none⟩ q u d]; exact h q c T f a b d
theorem KeepT.alloc {g : Nat} {W W' : World} (h : KeepT g W W') (o : Obj) : KeepT g W (W'.alloc o) := fun q c T f a b d => by
  have h1 := h q c T f a b d
  exact (Below.heap_alloc W' o q (Array.getElem?_eq_some_iff.1 h1).1).trans h1
theorem KeepT.below {g : Nat} {W W' W'' : World} (h : KeepT g W W') (hb : Below W'.heap.size W' W'') : KeepT g W W'' := fun q c T f a b d => by
  have h1 := h q c T f a b d
  exact (hb.block q (Array.getElem?_eq_some_iff.1 h1).1).trans h1
theorem KeepT.grown {g : Nat} {W W' W'' : World} {v : Value} {n : Nat} {B : Nat} {xs : List Value} (h : KeepT g W W') (ho : W'.ownsRow B 5 1 v n xs) (hg : W'.grownBy W'' v.ownBlock) : KeepT g W W'' := fun q c T f a b d => by
  have h1 := h q c T f a b d
  refine (hg.block q (Array.getElem?_eq_some_iff.1 h1).1 fun e => ?_).trans h1
  rcases ho.2 with ⟨rfl, _⟩ | ⟨g', cap, cur, rfl, _, hgg, _⟩
  · simp [Value.ownBlock] at e
  · simp only [Value.ownBlock, Option.some.injEq] at e
    subst e
    rw [h1] at hgg
    simp only [Option.some.injEq, Obj.cells.injEq] at hgg
    exact b hgg.2.1

theorem own_other {W : World} {B n g j : Nat} {v u : Value} {xs : List Value} {T : TypeId} {c : Array Value} {f : Nat × Nat} (h : W.ownsRow B 5 1 v n xs) (hg : W.heap[g]? = some (.cells c T f)) (hT : T ≠ 5) : (W.setCell ⟨g, j, none⟩ u).ownsRow B 5 1 v n xs := by
  refine ⟨h.1, ?_⟩
  rcases h.2 with h' | ⟨g', cap, cur, e, hb, hgg, r⟩
  · exact .inl h'
  · refine .inr ⟨g', cap, cur, e, hb, ?_, r⟩
    rw [heap_setCell_other W ⟨g, j, none⟩ g' u ?_]
    · exact hgg
    · rintro rfl
      rw [hg] at hgg
      simp only [Option.some.injEq, Obj.cells.injEq] at hgg
      exact hT hgg.2.1

theorem own_tne {W : World} {B n g : Nat} {v : Value} {xs : List Value} {T : TypeId} {c : Array Value} {f : Nat × Nat} (h : W.ownsRow B 5 1 v n xs) (hg : W.heap[g]? = some (.cells c T f)) (hT : T ≠ 5) : some g ≠ v.ownBlock := by
  intro e
  rcases h.2 with ⟨rfl, _⟩ | ⟨g', cap, cur, rfl, _, hgg, _⟩
  · simp [Value.ownBlock] at e
  · simp only [Value.ownBlock, Option.some.injEq] at e
    subst e
    rw [hg] at hgg
    simp only [Option.some.injEq, Obj.cells.injEq] at hgg
    exact hT hgg.2.1

theorem own_below {w w' : World} {base e size n : Nat} {v : Value} {xs : List Value} (h : w.ownsRow base e size v n xs) (hb : Below w.heap.size w w') : w'.ownsRow base e size v n xs := by
  refine ⟨h.1, ?_⟩
  rcases h.2 with hn | ⟨g, cap, cur, rfl, hb2, hgg, rest⟩
  · exact .inl hn
  · refine .inr ⟨g, cap, cur, rfl, hb2, ?_, rest⟩
    rw [hb.block g (Array.getElem?_eq_some_iff.1 hgg).1]; exact hgg

theorem Wr.next {B g : Nat} {bs : List Nat} {ok : Bool} {W W' : World} (h : Wr B g bs ok W) (hb : Below W.heap.size W W') : Wr B g bs ok W' := by
  obtain ⟨v, hg, ho, hBg⟩ := h
  exact ⟨v, (hb.block g (Array.getElem?_eq_some_iff.1 hg).1).trans hg, own_below ho hb, hBg⟩
theorem Wr.setOk {B g : Nat} {bs : List Nat} {ok ok' : Bool} {W : World} (h : Wr B g bs ok W) : Wr B g bs ok' (W.setCell ⟨g, 1, none⟩ (.bool ok')) := by
  obtain ⟨v, hg, ho, hBg⟩ := h
  exact ⟨v, heap_setCell_same W g 1 _ _ _ hg, own_other ho hg (by decide), hBg⟩
theorem Wr.lt {B g : Nat} {bs : List Nat} {ok : Bool} {W : World} (h : Wr B g bs ok W) : g < W.heap.size := by
  obtain ⟨v, hg, _⟩ := h
  exact (Array.getElem?_eq_some_iff.1 hg).1
theorem Wr.ge {B g : Nat} {bs : List Nat} {ok : Bool} {W : World} (h : Wr B g bs ok W) : B ≤ g := by
  obtain ⟨v, hg, ho, hBg⟩ := h
  exact hBg
/-- what the walk needs of a writer -/
theorem Wr.open_ {B g : Nat} {bs : List Nat} {ok : Bool} {W : World} (h : Wr B g bs ok W) : ∃ A c, W.cell? ⟨g, 0, none⟩ = some (.slice A bs.length c) ∧ W.cell? ⟨g, 1, none⟩ = some (.bool ok) ∧ W.frozen? ⟨g, 0, none⟩ = false ∧ W.frozen? ⟨g, 1, none⟩ = false ∧
    W.heap[g]? = some (.cells #[.slice A bs.length c, .bool ok] 101 (0, 0)) ∧ W.ownsRow B 5 1 (.slice A bs.length c) bs.length (u8s bs) := by
  obtain ⟨v, hg, ho, hBg⟩ := h
  obtain ⟨A, c, rfl, _, _⟩ := own_shape ho
  refine ⟨A, c, ?_, ?_, frozen_of_row W g 0 _ _ hg, frozen_of_row W g 1 _ _ hg, hg, ho⟩
  · rw [cell_of_row W g 0 _ _ (0, 0) hg]; rfl
  · rw [cell_of_row W g 1 _ _ (0, 0) hg]; rfl
/-- behind an append: the writer's slice is stored back -/
theorem Wr.grow {B g : Nat} {bs : List Nat} {ok : Bool} {W W' : World} {v v' : Value} {n : Nat} {ys : List Value} (hg : W.heap[g]? = some (.cells #[v, .bool ok] 101 (0, 0))) (ho : W.ownsRow B 5 1 v n ys) (hBg : B ≤ g) (hgr : W.grownBy W' v.ownBlock) (h2 : W'.ownsRow B 5 1 v' bs.length (u8s bs)) :
    Wr B g bs ok (W'.setCell ⟨g, 0, none⟩ v') := by
  have h1 : W'.heap[g]? = some (.cells #[v, .bool ok] 101 (0, 0)) := by
    refine (hgr.block g (Array.getElem?_eq_some_iff.1 hg).1 fun e => ?_).trans hg
    rcases ho.2 with ⟨rfl, _⟩ | ⟨g', cap, cur, rfl, _, hgg, _⟩
    · simp [Value.ownBlock] at e
    · simp only [Value.ownBlock, Option.some.injEq] at e
      subst e
      rw [hg] at hgg
      simp only [Option.some.injEq, Obj.cells.injEq] at hgg
      exact absurd hgg.2.1 (by decide)
  exact ⟨v', heap_setCell_same W' g 0 _ _ _ h1, own_other h2 h1 (by decide), hBg⟩

end Go.Proofs.YtcljkdjmmolfoaaDoor

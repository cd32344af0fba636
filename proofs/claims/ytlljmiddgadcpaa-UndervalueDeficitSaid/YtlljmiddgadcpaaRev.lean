/- slices.Reverse on bytes; natural.Divide, GCD. -/
import Derived.Test.YtlljmiddgadcpaaDivide
import Derived.BigRegion
import Derived.Deep.LoopGhost
set_option linter.unusedVariables false
set_option linter.unusedSimpArgs false
namespace Go.Proofs.Ytlljmiddgadcpaa
open Go.RowKit

theorem rev_step {xs ys : List Nat} {n k : Nat} (hl : ys.length = n) (hk : k < n - 1 - k) (h : ∀ p, p < n → ys.getD p 0 = if p < k ∨ n - 1 - k < p then xs.getD (n - 1 - p) 0 else xs.getD p 0) :
    ∀ p, p < n → ((ys.set k (ys.getD (n - 1 - k) 0)).set (n - 1 - k) (ys.getD k 0)).getD p 0 = if p < k + 1 ∨ n - 1 - (k + 1) < p then xs.getD (n - 1 - p) 0 else xs.getD p 0 := by
  intro p hp
  have hs : ∀ (l : List Nat) (i v : Nat), i < l.length → (l.set i v).getD p 0 = if i = p then v else l.getD p 0 := by
    intro l i v hi
    by_cases e : i = p
    · subst e; rw [if_pos rfl, List.getD_eq_getElem?_getD, List.getElem?_set_self hi]; rfl
    · rw [if_neg e, List.getD_eq_getElem?_getD, List.getElem?_set_ne e, ← List.getD_eq_getElem?_getD]
  rw [hs _ _ _ (by simp; omega), hs _ _ _ (by omega)]
  have h1 := h k (by omega)
  have h2 := h (n - 1 - k) (by omega)
  rw [if_neg (by omega)] at h1 h2
  by_cases e1 : n - 1 - k = p
  · subst e1
    rw [if_pos rfl, h1, if_pos (by omega)]
    congr 1; omega
  · rw [if_neg e1]
    by_cases e2 : k = p
    · subst e2
      rw [if_pos rfl, h2, if_pos (by omega)]
    · rw [if_neg e2, h p hp]
      by_cases e3 : p < k ∨ n - 1 - k < p
      · rw [if_pos e3, if_pos (by omega)]
      · rw [if_neg e3, if_neg (by omega)]

theorem rev_end {xs ys : List Nat} {n k : Nat} (hx : xs.length = n) (hl : ys.length = n) (hk : n ≤ k + (k + 1)) (h : ∀ p, p < n → ys.getD p 0 = if p < k ∨ n - 1 - k < p then xs.getD (n - 1 - p) 0 else xs.getD p 0) : ys = xs.reverse := by
  apply List.ext_getElem?
  intro p
  by_cases hp : p < n
  · have h1 := h p hp
    have e : ys.getD p 0 = xs.getD (n - 1 - p) 0 := by
      rw [h1]
      by_cases e3 : p < k ∨ n - 1 - k < p
      · rw [if_pos e3]
      · rw [if_neg e3]; congr 1; omega
    rw [List.getElem?_reverse (by omega), hx]
    rw [getElem?_getD (show p < ys.length by omega), getElem?_getD (show n - 1 - p < xs.length by omega), e]
  · rw [List.getElem?_eq_none (by omega), List.getElem?_eq_none (by simp; omega)]

/-! ### Divide, GCD -/
theorem snum_len8 {s : ByteArray} (hs : s.size ≤ 100000000) : (limbs (snum s)).length ≤ 100000000 := by
  rw [limbs_len_canon]; have := canon_num_len s.data.toList; rw [← Lib.size_eq] at this; show ((canon (num s.data.toList)).length + 3) / 4 ≤ _; omega

theorem limbs_mono {a b : Nat} (h : a ≤ b) : (limbs a).length ≤ (limbs b).length := by
  rcases Nat.lt_or_ge (limbs b).length (limbs a).length with h2 | h2
  · have := lt_of_len h2; omega
  · exact h2

/-- what Divide answers -/
def DivAns (a b : Nat) (w : World) (e : Ending) (w' : World) : Prop :=
  e = .returned (if b = 0 then .tuple #[.string ⟨#[]⟩, .string ⟨#[]⟩, .bool false] else .tuple #[.string (ncan (a / b)), .string (ncan (a % b)), .bool true]) ∧ Below w.heap.size w w'

end Go.Proofs.Ytlljmiddgadcpaa

/- natural.Multiply; the definition's times. -/
import Derived.Test.YtcljkdjmmolfoaaDoorAdd
import Derived.BigQuiet
import Derived.Deep.QuietTactic
set_option linter.unusedVariables false
set_option linter.unusedSimpArgs false
namespace Go.Proofs.YtcljkdjmmolfoaaDoor
open Go.RowKit

/-- a product while it is made: what has been added stands, the rest is nought -/
structure Pr (os : List Nat) (n i ly x y : Nat) : Prop where
  len : os.length = n
  dig : Dig os
  val : valL os = valL ((limbs x).take i) * y
  zero : ∀ j, i + ly ≤ j → os.getD j 0 = 0

/-- in the inner loop -/
structure Pi (qs os : List Nat) (n i ly k c u y : Nat) : Prop where
  len : qs.length = n
  dig : Dig qs
  val : valL qs + 4294967296 ^ (i + k) * c = valL os + 4294967296 ^ i * (u * valL ((limbs y).take k))
  zero : ∀ j, i + ly ≤ j → qs.getD j 0 = 0

theorem getD_set_ne (l : List Nat) (i j v : Nat) (h : i ≠ j) : (l.set i v).getD j 0 = l.getD j 0 := by
  rw [List.getD_eq_getElem?_getD, List.getElem?_set_ne h, ← List.getD_eq_getElem?_getD]

theorem Pi.start {os : List Nat} {n i ly x y u : Nat} (h : Pr os n i ly x y) : Pi os os n i ly 0 0 u y := ⟨h.len, h.dig, by simp [valL], h.zero⟩

theorem Pi.step {qs os : List Nat} {n i ly k c u y lo c' : Nat} (h : Pi qs os n i ly k c u y) (hk : k < ly) (hn : i + ly < n) (hlo : lo < 4294967296) (e : lo + 4294967296 * c' = u * (limbs y).getD k 0 + qs.getD (i + k) 0 + c) : Pi (qs.set (i + k) lo) os n i ly (k + 1) c' u y :=
  ⟨by simp [h.len], h.dig.set _ hlo, mul_step h.val (by rw [h.len]; omega) e, fun j hj => by rw [getD_set_ne _ _ _ _ (by omega)]; exact h.zero j hj⟩

theorem Pi.last {qs os : List Nat} {n i ly c x y : Nat} (hly : (limbs y).length = ly) (hlx : i < (limbs x).length) (h0 : Pr os n i ly x y) (h : Pi qs os n i ly ly c ((limbs x).getD i 0) y) (hn : i + ly < n) (hc : c < 4294967296) : Pr (qs.set (i + ly) c) n (i + 1) ly x y := by
  refine ⟨by simp [h.len], h.dig.set _ hc, ?_, fun j hj => ?_⟩
  · have hv := h.val
    rw [← hly] at hv
    have := mul_last hv (by rw [h.len, hly]; exact hn) (h.zero _ (by omega))
    rw [valL_limbs] at this
    rw [← hly, this, h0.val, valL_take_succ']
    grind
  · rw [getD_set_ne _ _ _ _ (by omega)]; exact h.zero j (by omega)

theorem Pr.end_ {os : List Nat} {n i ly x y : Nat} (h : Pr os n i ly x y) (hi : i = (limbs x).length) : valL os = x * y := by
  rw [h.val, List.take_of_length_le (by omega), valL_limbs]

end Go.Proofs.YtcljkdjmmolfoaaDoor

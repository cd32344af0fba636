/- insolvencylaw1.awake. -/
import Derived.Test.YtcljkdjmmolfoaaDoorFmt
set_option linter.unusedVariables false
set_option linter.unusedSimpArgs false
namespace Go.Proofs.YtcljkdjmmolfoaaDoor
open Go.RowKit

theorem aw_a : snum ⟨#[3, 232]⟩ = 1000 := by decide +kernel
theorem aw_b : snum ⟨#[7]⟩ = 7 := by decide +kernel
theorem aw_c : snum ⟨#[255]⟩ = 255 := by decide +kernel
theorem aw_d : snum ⟨#[1]⟩ = 1 := by decide +kernel
theorem aw_e : ncan 256 = ⟨#[1, 0]⟩ := by
  unfold ncan canon
  rw [canB_pos (by decide), canB_pos (by decide)]
  simp only [Nat.reduceDiv]
  rw [canB_zero]; rfl
theorem aw_f : decOf 142 = [49, 52, 50] := by
  unfold decOf
  rw [if_neg (by decide), decs_pos (by decide), decs_pos (by decide), decs_pos (by decide)]
  simp only [Nat.reduceDiv]
  rw [decs_zero]; rfl
theorem aw_g : decOf 6 = [54] := by
  unfold decOf
  rw [if_neg (by decide), decs_pos (by decide)]
  simp only [Nat.reduceDiv]
  rw [decs_zero]; rfl

end Go.Proofs.YtcljkdjmmolfoaaDoor

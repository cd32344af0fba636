/- natural.Add, subtract, Subtract. -/
import Derived.Test.YtcljkdjmmolfoaaDoorDivS
import Derived.Deep.DeepCutAuto
set_option linter.unusedVariables false
set_option linter.unusedSimpArgs false
namespace Go.Proofs.YtcljkdjmmolfoaaDoor
open Go.RowKit

theorem hi_set (o : List Nat) (m d : Nat) : (o ++ List.replicate (m + 1) 0).set o.length d = (o ++ [d]) ++ List.replicate m 0 := by
  rw [List.set_append_right _ _ (Nat.le_refl _)]
  simp [List.replicate_succ]

theorem hi_getD (o : List Nat) (m : Nat) : (o ++ List.replicate (m + 1) 0).getD o.length 0 = 0 := by
  rw [List.getD_eq_getElem?_getD, List.getElem?_append_right (Nat.le_refl _)]
  simp

theorem add_carry {x y c : Nat} (hx : x < 4294967296) (hy : y < 4294967296) (hc : c ≤ 1) : (x + y + c) / 4294967296 ≤ 1 := by omega

/-- the loop of Add and what stands behind it: x is not shorter than y -/
theorem add_end {o : List Nat} {n c a b : Nat} (hol : o.length = n) (hn : (limbs a).length = n) (hb : (limbs b).length ≤ n) (h : valL o + 4294967296 ^ n * c = valL ((limbs a).take n) + valL ((limbs b).take n)) : valL (o ++ [c]) = a + b := by
  rw [valL_snoc, hol, h, List.take_of_length_le (by omega), List.take_of_length_le (by omega), valL_limbs, valL_limbs]

theorem snum_len {s : ByteArray} (hs : s.size ≤ 1000000000) : (limbs (snum s)).length ≤ 1000000000 := by
  rw [limbs_len_canon]; have := canon_num_len s.data.toList; rw [← Lib.size_eq] at this; show ((canon (num s.data.toList)).length + 3) / 4 ≤ _; omega

end Go.Proofs.YtcljkdjmmolfoaaDoor

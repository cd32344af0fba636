/- natural.Compare (strings.Compare), Subtract. -/
import Derived.Test.YtcljkdjmmolfoaaDoorAdd
import Derived.Lib.Bytealg
import Derived.Shelf.Strings.Search1
set_option linter.unusedVariables false
set_option linter.unusedSimpArgs false
namespace Go.Proofs.YtcljkdjmmolfoaaDoor
open Go.RowKit

/-- strings of the same length compare as their numbers -/
theorem cmp_num : ∀ (a b : List UInt8), a.length = b.length → Lib.compareBytes a b = cmpN (num a) (num b)
  | [], [], _ => rfl
  | [], _ :: _, h => by simp at h
  | _ :: _, [], h => by simp at h
  | x :: a, y :: b, h => by
    have hl : a.length = b.length := by simpa using h
    have ih := cmp_num a b hl
    have ha := num_lt a
    have hb := num_lt b
    rw [Lib.compareBytes, num_cons, num_cons, ← hl]
    rw [hl.symm] at hb
    generalize 256 ^ a.length = P at *
    have hx : ∀ u v : UInt8, u < v ↔ u.toNat < v.toNat := fun u v => UInt8.lt_iff_toNat_lt
    by_cases h1 : x < y
    · rw [if_pos h1]
      have h2 := (hx x y).1 h1
      have h3 : P * (x.toNat + 1) ≤ P * y.toNat := Nat.mul_le_mul_left _ h2
      rw [Nat.mul_add] at h3
      unfold cmpN; rw [if_pos (by omega)]
    · rw [if_neg h1]
      by_cases h2 : y < x
      · rw [if_pos h2]
        have h3 := (hx y x).1 h2
        have h4 : P * (y.toNat + 1) ≤ P * x.toNat := Nat.mul_le_mul_left _ h3
        rw [Nat.mul_add] at h4
        unfold cmpN; rw [if_neg (by omega), if_pos (by omega)]
      · rw [if_neg h2, ih]
        have h3 : x.toNat = y.toNat := by
          have := mt (hx x y).2 h1
          have := mt (hx y x).2 h2
          omega
        rw [h3]
        simp only [cmpN, Nat.add_lt_add_iff_right]

theorem cmp_canon_len {a b : Nat} (h : (canon a).length < (canon b).length) : a < b := by
  have hb : b ≠ 0 := by rintro rfl; rw [canon_zero] at h; simp at h
  have h1 := num_lt (canon a)
  rw [num_canon] at h1
  have h2 := pow_le_canon hb
  have h3 : 256 ^ (canon a).length ≤ 256 ^ ((canon b).length - 1) := Nat.pow_le_pow_right (by omega) (by omega)
  omega

/-- what Subtract answers -/
def SubAns (a b : Nat) (w : World) (e : Ending) (w' : World) : Prop :=
  e = .returned (if a < b then .tuple #[.string ⟨#[]⟩, .bool false] else .tuple #[.string (ncan (a - b)), .bool true]) ∧ Below w.heap.size w w'

theorem snum_len8' {s : ByteArray} (hs : s.size ≤ 100000000) : (limbs (snum s)).length ≤ 100000000 := by
  rw [limbs_len_canon]; have := canon_num_len s.data.toList; rw [← Lib.size_eq] at this; show ((canon (num s.data.toList)).length + 3) / 4 ≤ _; omega
theorem limbs_mono' {a b : Nat} (h : a ≤ b) : (limbs a).length ≤ (limbs b).length := by
  rcases Nat.lt_or_ge (limbs b).length (limbs a).length with h2 | h2
  · have := lt_of_len h2; omega
  · exact h2

end Go.Proofs.YtcljkdjmmolfoaaDoor

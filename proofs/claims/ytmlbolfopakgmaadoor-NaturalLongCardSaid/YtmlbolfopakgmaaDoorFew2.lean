/- small facts of ncan for the laws -/
import Derived.Test.YtmlbolfopakgmaaDoorFew
set_option linter.unusedVariables false
set_option linter.unusedSimpArgs false
namespace Go.Proofs.YtmlbolfopakgmaaDoor
open Go.RowKit

theorem ncan_zero : ncan 0 = ⟨#[]⟩ := by rw [ncan, canon_zero]; rfl
theorem ncan_ne {n : Nat} (h : n ≠ 0) : ncan n ≠ ⟨#[]⟩ := by
  intro e
  have h1 := snum_ncan n
  rw [e] at h1
  exact h h1.symm
theorem ncan_dec {n : Nat} (h : n ≠ 0) : decide (ncan n = ⟨#[]⟩) = false := decide_eq_false (ncan_ne h)

section
variable {s t : ByteArray} {x y z : Nat}
theorem op_sub_lt (hs : Sm s x) (ht : Sm t y) (hlt : x < y) (w : World) : Calls Tryd.prog 38 #[.string s, .string t] w fun e w' => e = .returned (.tuple #[.string ⟨#[]⟩, .bool false]) ∧ Below w.heap.size w w' := by
  refine (natSubtract_calls s t w (by have := hs.2; omega) (by have := ht.2; omega)).mono ?_
  rintro e w1 ⟨rfl, h2⟩
  rw [hs.1, ht.1, if_pos hlt]
  exact ⟨rfl, h2⟩
end

/-- leading zero bytes -/
def lead (m : Nat) : ByteArray := bstr (List.replicate m 0)
theorem lead_size (m : Nat) : (lead m).size = m := by rw [lead, bstr_size, List.length_replicate]
theorem lead_extract {m : Nat} (h : m ≤ 7) : (⟨#[0, 0, 0, 0, 0, 0, 0]⟩ : ByteArray).extract 0 m = lead m := by
  obtain rfl | rfl | rfl | rfl | rfl | rfl | rfl | rfl : m = 0 ∨ m = 1 ∨ m = 2 ∨ m = 3 ∨ m = 4 ∨ m = 5 ∨ m = 6 ∨ m = 7 := by omega
  all_goals rfl
theorem lead_snum (m : Nat) (a : ByteArray) : snum (lead m ++ a) = snum a := by
  unfold snum lead
  have e : (bstr (List.replicate m 0) ++ a).data.toList = List.replicate m 0 ++ a.data.toList := by simp [bstr]
  rw [e]; clear e
  induction m with
  | zero => rfl
  | succ m ih => rw [List.replicate_succ, List.cons_append, num_cons, ih]; simp

end Go.Proofs.YtmlbolfopakgmaaDoor

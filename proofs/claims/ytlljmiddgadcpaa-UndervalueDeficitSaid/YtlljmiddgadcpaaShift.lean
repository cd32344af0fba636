/- natural.shift, unshift. -/
import Derived.Test.YtlljmiddgadcpaaAdd
set_option linter.unusedVariables false
set_option linter.unusedSimpArgs false
namespace Go.Proofs.Ytlljmiddgadcpaa
open Go.RowKit

/-- the row while it is shifted: the digits that stand, the carry, noughts -/
def shRow (n : Nat) (o : List Nat) (hi : Nat) : List Nat := (o ++ hi :: List.replicate n 0).take n
theorem shRow_len (n : Nat) (o : List Nat) (hi : Nat) : (shRow n o hi).length = n := by simp [shRow]; omega
theorem shRow_zero (n : Nat) : shRow n [] 0 = List.replicate n 0 := by
  unfold shRow
  rw [List.nil_append, ← List.replicate_succ, List.take_replicate]
  congr 1; omega
theorem shRow_getD {n : Nat} {o : List Nat} {hi : Nat} (h : o.length < n) : (shRow n o hi).getD o.length 0 = hi := by
  unfold shRow
  rw [List.getD_eq_getElem?_getD, List.getElem?_take, if_pos h, List.getElem?_append_right (Nat.le_refl _)]
  simp
theorem shRow_getD2 {n : Nat} {o : List Nat} {hi : Nat} (h : o.length + 1 < n) : (shRow n o hi).getD (o.length + 1) 0 = 0 := by
  unfold shRow
  rw [List.getD_eq_getElem?_getD, List.getElem?_take, if_pos h, List.getElem?_append_right (by omega)]
  simp [show o.length + 1 - o.length = 1 by omega]
  rcases n with _ | n
  · omega
  · rw [List.replicate_succ]; rfl
theorem shRow_set {n : Nat} {o : List Nat} {hi lo : Nat} (h : o.length < n) : (shRow n o hi).set o.length lo = shRow n (o ++ [lo]) 0 := by
  unfold shRow
  rw [← List.take_set, List.set_append_right _ _ (Nat.le_refl _)]
  rw [Nat.sub_self, List.set_cons_zero]
  have e : o ++ [lo] ++ 0 :: List.replicate n 0 = (o ++ lo :: List.replicate n 0) ++ [0] := by
    rw [← List.replicate_succ, List.replicate_succ']; simp
  have hle : n ≤ (o ++ lo :: List.replicate n 0).length := by simp; omega
  rw [e, List.take_append_of_le_length hle]
theorem shRow_set2 {n : Nat} {o : List Nat} {hi : Nat} (h : o.length < n) : (shRow n o 0).set o.length hi = shRow n o hi := by
  unfold shRow
  rw [← List.take_set, List.set_append_right _ _ (Nat.le_refl _), Nat.sub_self, List.set_cons_zero]
theorem shRow_full {n : Nat} {o : List Nat} {hi : Nat} (h : o.length = n) : shRow n o hi = o := by
  unfold shRow
  rw [List.take_append_of_le_length (by omega), List.take_of_length_le (by omega)]
theorem shRow_val (n : Nat) (o : List Nat) (hi : Nat) (h : o.length < n) : valL (shRow n o hi) = valL o + 4294967296 ^ o.length * hi := by
  have e : shRow n o hi = o ++ hi :: List.replicate (n - o.length - 1) 0 := by
    unfold shRow
    rw [List.take_append, List.take_of_length_le (by omega)]
    congr 1
    obtain ⟨m, hm⟩ : ∃ m, n - o.length = m + 1 := ⟨n - o.length - 1, by omega⟩
    rw [hm, List.take_succ_cons, List.take_replicate]
    congr 2; omega
  rw [e, valL_append, valL, valL_zeros]
  simp
theorem shRow_dig {n : Nat} {o : List Nat} {hi : Nat} (ho : Dig o) (h : hi < 4294967296) : Dig (shRow n o hi) := (ho.append (Dig.cons h (Dig.zeros n))).take n

theorem shRow_end {n hi P x m : Nat} {o : List Nat} (hm : (limbs x).length = m) (hol : o.length = m) (hod : Dig o) (hmn : m ≤ n) (hhi : hi < 4294967296) (hv : valL o + 4294967296 ^ m * hi = valL ((limbs x).take m) * P) (hb : x * P < 4294967296 ^ n) :
    (shRow n o hi).length = n ∧ Dig (shRow n o hi) ∧ valL (shRow n o hi) = x * P := by
  rw [List.take_of_length_le (by omega), valL_limbs] at hv
  refine ⟨shRow_len _ _ _, shRow_dig hod hhi, ?_⟩
  rcases Nat.lt_or_ge m n with h | h
  · rw [shRow_val _ _ _ (by omega), hol, hv]
  · obtain rfl : m = n := by omega
    rw [shRow_full hol]
    rcases Nat.eq_zero_or_pos hi with h0 | h0
    · subst h0; simpa using hv
    · exfalso
      have := Nat.mul_le_mul_left (4294967296 ^ m) h0
      omega

theorem shl_lo {u P M : Nat} (hM : P * M = 4294967296) : u * P % 4294967296 = P * (u % M) ∧ u * P / 4294967296 = u / M := by
  have hP : 0 < P := by rcases Nat.eq_zero_or_pos P with h | h; (· rw [h] at hM; simp at hM); exact h
  rw [← hM, Nat.mul_comm u P, Nat.mul_mod_mul_left, Nat.mul_div_mul_left _ _ hP]
  exact ⟨rfl, rfl⟩

theorem pow_split {s : Nat} (h : s < 32) : 2 ^ s * 2 ^ (32 - s) = 4294967296 ∧ 0 < 2 ^ s ∧ 2 ^ s ≤ 2147483648 ∧ 0 < 2 ^ (32 - s) := by
  refine ⟨by rw [← Nat.pow_add]; have : s + (32 - s) = 32 := by omega
             rw [this], Nat.pow_pos (by omega), ?_, Nat.pow_pos (by omega)⟩
  calc 2 ^ s ≤ 2 ^ 31 := Nat.pow_le_pow_right (by omega) (by omega)
    _ = 2147483648 := by decide

end Go.Proofs.Ytlljmiddgadcpaa

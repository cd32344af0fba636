/- math/bits: Len32, LeadingZeros32. -/
import Derived.Test.YtlljmiddgadcpaaMem
import Derived.Lib.BitFns
set_option linter.unusedVariables false
set_option linter.unusedSimpArgs false
namespace Go.Proofs.Ytlljmiddgadcpaa
open Go.RowKit

theorem bitLenAux_spec : ∀ (f x : Nat), x < 2 ^ f → x < 2 ^ Lib.bitLenAux f x ∧ (x ≠ 0 → 1 ≤ Lib.bitLenAux f x ∧ 2 ^ (Lib.bitLenAux f x - 1) ≤ x) ∧ Lib.bitLenAux f x ≤ f
  | 0, x, h => by
    simp at h; subst h; simp [Lib.bitLenAux]
  | f + 1, x, h => by
    by_cases h0 : x = 0
    · subst h0; simp [Lib.bitLenAux]
    · have e : Lib.bitLenAux (f + 1) x = 1 + Lib.bitLenAux f (x / 2) := by simp [Lib.bitLenAux, h0]
      obtain ⟨i1, i2, i3⟩ := bitLenAux_spec f (x / 2) (by rw [Nat.pow_succ] at h; omega)
      rw [e]
      have e1 : 2 ^ (1 + Lib.bitLenAux f (x / 2)) = 2 * 2 ^ Lib.bitLenAux f (x / 2) := by rw [Nat.pow_add]
      refine ⟨by rw [e1]; omega, fun _ => ⟨by omega, ?_⟩, by omega⟩
      rw [Nat.add_sub_cancel_left]
      by_cases h2 : x / 2 = 0
      · rw [h2]
        have : Lib.bitLenAux f 0 = 0 := by cases f <;> simp [Lib.bitLenAux]
        rw [this]; omega
      · obtain ⟨j1, j2⟩ := i2 h2
        obtain ⟨k, hk⟩ : ∃ k, Lib.bitLenAux f (x / 2) = k + 1 := ⟨_, (Nat.sub_add_cancel j1).symm⟩
        rw [hk] at j2 ⊢
        rw [Nat.pow_succ]
        simp at j2
        omega

theorem bitLen_shift {x : Nat} (h0 : 0 < x) (h : x < 4294967296) : Lib.bitLen x ≤ 32 ∧ 32 - Lib.bitLen x < 32 ∧ 2147483648 ≤ x * 2 ^ (32 - Lib.bitLen x) ∧ x * 2 ^ (32 - Lib.bitLen x) < 4294967296 := by
  obtain ⟨h1, h2, _⟩ := bitLenAux_spec 64 x (by omega)
  obtain ⟨h3, h4⟩ := h2 (by omega)
  change x < 2 ^ Lib.bitLen x at h1
  change 1 ≤ Lib.bitLen x at h3
  change 2 ^ (Lib.bitLen x - 1) ≤ x at h4
  have h5 : Lib.bitLen x ≤ 32 := by
    rcases Nat.lt_or_ge 32 (Lib.bitLen x) with hh | hh
    · exfalso
      have : 2 ^ 32 ≤ 2 ^ (Lib.bitLen x - 1) := Nat.pow_le_pow_right (by omega) (by omega)
      omega
    · exact hh
  generalize Lib.bitLen x = L at *
  have hp : 0 < 2 ^ (32 - L) := Nat.pow_pos (by omega)
  refine ⟨h5, by omega, ?_, ?_⟩
  · calc 2147483648 = 2 ^ (L - 1) * 2 ^ (32 - L) := by
          rw [← Nat.pow_add]
          have : L - 1 + (32 - L) = 31 := by omega
          rw [this]
      _ ≤ x * 2 ^ (32 - L) := Nat.mul_le_mul_right _ h4
  · calc x * 2 ^ (32 - L) < 2 ^ L * 2 ^ (32 - L) := Nat.mul_lt_mul_of_pos_right h1 hp
      _ = 4294967296 := by
          rw [← Nat.pow_add]
          have : L + (32 - L) = 32 := by omega
          rw [this]

theorem len8_size : Lib.len8tab.size = 256 := by decide +kernel
theorem len8_tab : ∀ n : Fin 256, ∀ h, (Lib.len8tab[n.val]'h).toNat = Lib.bitLen n.val := by decide +kernel

end Go.Proofs.Ytlljmiddgadcpaa

/- math/bits: Len32, LeadingZeros32. -/
import Derived.Test.YtcljkdjmmolfoaaDoorMem
import Derived.Lib.BitFns
set_option linter.unusedVariables false
set_option linter.unusedSimpArgs false
namespace Go.Proofs.YtcljkdjmmolfoaaDoor
open Go.RowKit

theorem bitLenAux_spec : ∀ (f x : Nat), x < 2 ^ f → x < 2 ^ Lib.bitLenAux f x ∧ (x ≠ 0 → 1 ≤ Lib.bitLenAux f x ∧ 2 ^ (Lib.bitLenAux f x - 1) ≤ x) ∧ Lib.bitLenAux f x ≤ f
  | 0, x, h => by
    simp at h; subst h; simp [Lib.bitLenAux]
  | f + 1, x, h => by
    by_cases h0 : x = 0
    · subst h0; simp [Lib.bitLenAux]
    · have e : Lib.bitLenAux (f + 1) x = 1 + Lib.bitLenAux f (x / 2) := by simp [Lib.bitLenAux, h0]
      obtain ⟨i1, i2, i3⟩ := bitLenAux_spec f (x / 2) (by rw [Nat.pow_succ] at h; omega)
      rw [e]
      have e1 : 2 ^ (1 + Lib.bitLenAux f (x / 2)) = 2 * 2 ^ Lib.bitLenAux f (x / 2) := by rw [Nat.pow_add]
      refine ⟨by rw [e1]; omega, fun _ => ⟨by omega, ?_⟩, by omega⟩
      rw [Nat.add_sub_cancel_left]
      by_cases h2 : x / 2 = 0
      · rw [h2]
        have : Lib.bitLenAux f 0 = 0 := by cases f <;> simp [Lib.bitLenAux]
        rw [this]; omega
      · obtain ⟨j1, j2⟩ := i2 h2
        obtain ⟨k, hk⟩ : ∃ k, Lib.bitLenAux f (x / 2) = k + 1 := ⟨_, (Nat.sub_add_cancel j1).symm⟩
        rw [hk] at j2 ⊢
        rw [Nat.pow_succ]
        simp at j2
        omega

theorem bitLen_shift {x : Nat} (h0 : 0 < x) (h : x < 4294967296) : Lib.bitLen x ≤ 32 ∧ 32 - Lib.bitLen x < 32 ∧ 2147483648 ≤ x * 2 ^ (32 - Lib.bitLen x) ∧ x * 2 ^ (32 - Lib.bitLen x) < 4294967296 := by
  obtain ⟨h1, h2, _⟩ := bitLenAux_spec 64 x (by omega)
  obtain ⟨h3, h4⟩ := h2 (by omega)
  change x < 2 ^ Lib.bitLen x at h1
  change 1 ≤ Lib.bitLen x at h3
  change 2 ^ (Lib.bitLen x - 1) ≤ x at h4
  have h5 : Lib.bitLen x ≤ 32 := by
    rcases Nat.lt_or_ge 32 (Lib.bitLen x) with hh | hh
    · exfalso
      have : 2 ^ 32 ≤ 2 ^ (Lib.bitLen x - 1) := Nat.pow_le_pow_right (by omega) (by omega)
      omega
    · exact hh
  generalize Lib.bitLen x = L at *
  have hp : 0 < 2 ^ (32 - L) := Nat.pow_pos (by omega)
  refine ⟨h5, by omega, ?_, ?_⟩
  · calc 2147483648 = 2 ^ (L - 1) * 2 ^ (32 - L) := by
          rw [← Nat.pow_add]
          have : L - 1 + (32 - L) = 31 := by omega
          rw [this]
      _ ≤ x * 2 ^ (32 - L) := Nat.mul_le_mul_right _ h4
  · calc x * 2 ^ (32 - L) < 2 ^ L * 2 ^ (32 - L) := Nat.mul_lt_mul_of_pos_right h1 hp
      _ = 4294967296 := by
          rw [← Nat.pow_add]
          have : L + (32 - L) = 32 := by omega
          rw [this]

theorem len8_size : Lib.len8tab.size = 256 := by decide +kernel
theorem len8_tab : ∀ n : Fin 256, ∀ h, (Lib.len8tab[n.val]'h).toNat = Lib.bitLen n.val := by decide +kernel

set_option maxHeartbeats 2000000 in
set_option maxRecDepth 1000000 in
theorem len32_calls (x : Nat) (w : World) (h1 : x < 4294967296) :
    Calls Tryd.prog 95 #[.int .u32 x] w fun e w' => e = .returned (.int .i64 (Lib.bitLen x : Nat)) ∧ w' = w := by
  obtain ⟨q, m, y, hq, hm, hy, hL, hyb, hc⟩ : ∃ q m y : Nat, q = (if 65536 ≤ x then x / 65536 else x) ∧ m = (if 65536 ≤ x then 16 else 0) ∧ y = (if 256 ≤ q then q / 256 else q) ∧ Lib.bitLen x = m + (if 256 ≤ q then 8 else 0) + Lib.bitLen y ∧ y < 256 ∧ q < 65536 := by
    refine ⟨_, _, _, rfl, rfl, rfl, ?_, ?_, ?_⟩
    · by_cases h2 : 65536 ≤ x
      · rw [if_pos h2, if_pos h2]
        by_cases h3 : 256 ≤ x / 65536
        · rw [if_pos h3, if_pos h3, Nat.div_div_eq_div_mul]
          have := Lib.bitLen_shift24 x (by omega) (by omega)
          simpa using this
        · rw [if_neg h3, if_neg h3]
          have := Lib.bitLen_shift16 x (by omega) (by omega)
          omega
      · rw [if_neg h2, if_neg h2]
        by_cases h3 : 256 ≤ x
        · rw [if_pos h3, if_pos h3]
          have := Lib.bitLen_shift8 x (by omega) (by omega)
          omega
        · rw [if_neg h3, if_neg h3]; omega
    · split <;> split <;> omega
    · split <;> omega
  have hsz : (y : Int) < (Lib.len8tab.size : Int) := by rw [len8_size]; omega
  have hsz2 : y < Lib.len8tab.size := by rw [len8_size]; omega
  obtain ⟨z, hz⟩ : ∃ z, z = Lib.bitLen y := ⟨_, rfl⟩
  have hzb : z ≤ 8 := by rw [hz]; exact Lib.bitLen_le8 ⟨y, hyb⟩
  have htab : ∀ h, ((Lib.len8tab[y]'h).toNat) = z := fun h => by rw [hz]; exact len8_tab ⟨y, hyb⟩ h
  rw [← hz] at hL
  have HLN := Lib.hid hL
  clear hz hL
  by_cases h2 : 65536 ≤ x
  · rw [if_pos h2] at hq hm
    have hq' : (x : Int) / 65536 = (q : Int) := by omega
    have t1 : decide ((65536 : Int) ≤ (x : Int)) = true := by simp; omega
    by_cases h3 : 256 ≤ q
    · rw [if_pos h3] at hy HLN
      have hy' : (q : Int) / 256 = (y : Int) := by omega
      have t2 : decide ((256 : Int) ≤ (q : Int)) = true := by simp; omega
      have HE : Hid (Lib.bitLen x = 24 + z) := by have := HLN.out; show _ = _; omega
      clear HLN hq hm hy h2 h3
      go_enter Tryd.func95, Tryd.ntmps95
      go_wp2_with fail
      go_ret
      exact ⟨ret_int (by rw [HE.out]; simp), rfl⟩
    · rw [if_neg h3] at hy HLN
      subst hy
      have t2 : decide ((256 : Int) ≤ (y : Int)) = false := by simp; omega
      have HE : Hid (Lib.bitLen x = 16 + z) := by have := HLN.out; show _ = _; omega
      clear HLN hq hm h2 h3
      go_enter Tryd.func95, Tryd.ntmps95
      go_wp2_with fail
      go_ret
      exact ⟨ret_int (by rw [HE.out]; simp), rfl⟩
  · rw [if_neg h2] at hq hm
    subst hq
    have t1 : decide ((65536 : Int) ≤ (q : Int)) = false := by simp; omega
    by_cases h3 : 256 ≤ q
    · rw [if_pos h3] at hy HLN
      have hy' : (q : Int) / 256 = (y : Int) := by omega
      have t2 : decide ((256 : Int) ≤ (q : Int)) = true := by simp; omega
      have HE : Hid (Lib.bitLen q = 8 + z) := by have := HLN.out; show _ = _; omega
      clear HLN hm hy h2 h3
      go_enter Tryd.func95, Tryd.ntmps95
      go_wp2_with fail
      go_ret
      exact ⟨ret_int (by rw [HE.out]; simp), rfl⟩
    · rw [if_neg h3] at hy HLN
      subst hy
      have t2 : decide ((256 : Int) ≤ (y : Int)) = false := by simp; omega
      have HE : Hid (Lib.bitLen y = z) := by have := HLN.out; show _ = _; omega
      clear HLN hm h2 h3
      go_enter Tryd.func95, Tryd.ntmps95
      go_wp2_with fail
      go_ret
      exact ⟨ret_int (by rw [HE.out]), rfl⟩

theorem lz32_calls (x : Nat) (w : World) (h0 : 0 < x) (h1 : x < 4294967296) :
    Calls Tryd.prog 86 #[.int .u32 x] w fun e w' => e = .returned (.int .i64 ((32 - Lib.bitLen x : Nat) : Int)) ∧ w' = w := by
  have hb := (bitLen_shift h0 h1).1
  have HE : Hid ((32 - (Lib.bitLen x : Int)) = ((32 - Lib.bitLen x : Nat) : Int)) := by show _ = _; omega
  have HL := len32_calls x w (by omega)
  have HLL := Lib.hid HL
  clear HL
  go_enter Tryd.func86, Tryd.ntmps86
  go_wp2_with fail
  refine HLL.out.mono ?_
  rintro e w' ⟨rfl, rfl⟩
  go_wp2_with fail
  go_ret
  exact ⟨ret_int HE.out, rfl⟩

end Go.Proofs.YtcljkdjmmolfoaaDoor

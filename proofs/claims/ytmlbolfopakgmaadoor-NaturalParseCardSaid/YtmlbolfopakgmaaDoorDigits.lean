/- insolvencyref1.Digits. -/
import Derived.Test.YtmlbolfopakgmaaDoorParseNon
set_option linter.unusedVariables false
set_option linter.unusedSimpArgs false
namespace Go.Proofs.YtmlbolfopakgmaaDoor
open Go.RowKit

theorem dgt_step {l : List UInt8} {k : Nat} {x : UInt8} (hx : l[k]? = some x) (h : ∀ b ∈ l.take k, 48 ≤ b.toNat ∧ b.toNat ≤ 57) (h2 : 48 ≤ x.toNat ∧ x.toNat ≤ 57) : ∀ b ∈ l.take (k + 1), 48 ≤ b.toNat ∧ b.toNat ≤ 57 := by
  intro b hb
  rw [List.take_add_one, hx] at hb
  rcases List.mem_append.1 hb with hb | hb
  · exact h b hb
  · simp at hb; subst hb; exact h2

set_option maxHeartbeats 4000000 in
set_option maxRecDepth 100000 in
theorem digits_non_calls (s : ByteArray) (w : World) (hs : s.size ≤ 9223372036854775807) (hd : ¬ Dgt s.data.toList) :
    Calls Tryd.prog 51 #[.string s] w fun e w' => e = .returned (.bool false) ∧ w' = w := by
  have HD := Lib.hid hd
  clear hd
  go_enter Tryd.func51, Tryd.ntmps51
  go_wp2_with fail
  go_loop [3] (fun ii => ∃ k : Nat, k ≤ s.size ∧ ii = .int .i64 (k : Int) ∧ Hid (∀ b ∈ s.data.toList.take k, 48 ≤ b.toNat ∧ b.toNat ≤ 57)) (fun ii => s.size - (intOf ii).toNat)
  case atStart => exact ⟨0, by omega, rfl, by simp [Hid]⟩
  case round =>
    obtain ⟨k, hk, rfl, HI⟩ := hrel
    by_cases hlt : k < s.size
    · obtain ⟨x, hx⟩ : ∃ x : UInt8, s[k]'hlt = x := ⟨_, rfl⟩
      have hxl : s.data.toList[k]? = some x := by rw [← hx]; exact Lib.data_getElem? s k hlt
      have HX := Lib.hid hxl
      clear hxl
      rcases (show x.toNat < 48 ∨ 57 < x.toNat ∨ (48 ≤ x.toNat ∧ x.toNat ≤ 57) by omega) with h | h | h
      · have t1 : decide ((x.toNat : Int) < 48) = true := by simp; omega
        go_wp2_with fail
        go_ret
        exact ⟨rfl, rfl⟩
      · have t1 : decide ((x.toNat : Int) < 48) = false := by simp; omega
        have t2 : decide ((57 : Int) < (x.toNat : Int)) = true := by simp; omega
        go_wp2_with fail
        go_ret
        exact ⟨rfl, rfl⟩
      · have t1 : decide ((x.toNat : Int) < 48) = false := by simp; omega
        have t2 : decide ((57 : Int) < (x.toNat : Int)) = false := by simp; omega
        have HI2 := Lib.hid (dgt_step HX.out HI.out h)
        go_wp2_with fail
        go_round
        case measure => simp [intOf] <;> omega
        case rel => exact ⟨k + 1, by omega, by go_num, HI2⟩
    · exfalso
      apply HD.out
      have := HI.out
      rw [List.take_of_length_le (by rw [← Lib.size_eq]; omega)] at this
      exact this

set_option maxHeartbeats 4000000 in
set_option maxRecDepth 100000 in
theorem digits_calls (s : ByteArray) (w : World) (hs : s.size ≤ 9223372036854775807) (h0 : 0 < s.size) (hd : Dgt s.data.toList) (r : Bool) (hr : r = true ↔ (s.size = 1 ∨ (s[0]'h0).toNat ≠ 48)) :
    Calls Tryd.prog 51 #[.string s] w fun e w' => e = .returned (.bool r) ∧ w' = w := by
  have HD := Lib.hid hd
  have HR := Lib.hid hr
  have hemps := emp_false h0
  clear hd hr
  go_enter Tryd.func51, Tryd.ntmps51
  go_wp2_with fail
  go_loop [3] (fun ii => ∃ k : Nat, k ≤ s.size ∧ ii = .int .i64 (k : Int)) (fun ii => s.size - (intOf ii).toNat)
  case atStart => exact ⟨0, by omega, rfl⟩
  case round =>
    obtain ⟨k, hk, rfl⟩ := hrel
    by_cases hlt : k < s.size
    · obtain ⟨x, hx⟩ : ∃ x : UInt8, s[k]'hlt = x := ⟨_, rfl⟩
      have hxl : s.data.toList[k]? = some x := by rw [← hx]; exact Lib.data_getElem? s k hlt
      have h := HD.out x (List.mem_of_getElem? hxl)
      clear hxl
      have t1 : decide ((x.toNat : Int) < 48) = false := by simp; omega
      have t2 : decide ((57 : Int) < (x.toNat : Int)) = false := by simp; omega
      go_wp2_with fail
      go_round
      case measure => simp [intOf] <;> omega
      case rel => exact ⟨k + 1, by omega, by go_num⟩
    · obtain rfl : k = s.size := by omega
      by_cases hx48 : (s[0]'h0).toNat = 48
      · have t1 : (((s[0]'h0).toNat : Int) == 48) = true := by simp; omega
        have t3 : (((s[0]'h0).toNat : Int) != 48) = false := by simp; omega
        by_cases h1 : s.size = 1
        · have hrt : r = true := HR.out.2 (.inl h1)
          have t2 : ((s.size : Int) == 1) = true := by simp; omega
          subst hrt
          go_wp2_with fail
          go_ret
          exact ⟨rfl, rfl⟩
        · have hrt : r = false := by
            rw [Bool.eq_false_iff]; intro h; rcases HR.out.1 h with h | h <;> omega
          have t2 : ((s.size : Int) == 1) = false := by simp; omega
          subst hrt
          go_wp2_with fail
          go_ret
          exact ⟨rfl, rfl⟩
      · have hrt : r = true := HR.out.2 (.inr hx48)
        have t1 : (((s[0]'h0).toNat : Int) == 48) = false := by simp; omega
        have t3 : (((s[0]'h0).toNat : Int) != 48) = true := by simp; omega
        subst hrt
        go_wp2_with fail
        go_ret
        exact ⟨rfl, rfl⟩

end Go.Proofs.YtmlbolfopakgmaaDoor

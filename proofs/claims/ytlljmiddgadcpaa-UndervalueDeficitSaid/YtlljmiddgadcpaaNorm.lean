/- natural.Normalize (strings.TrimLeft at one byte) and the definition's Normalize. -/
import Derived.Test.YtlljmiddgadcpaaMem
set_option linter.unusedVariables false
set_option linter.unusedSimpArgs false
namespace Go.Proofs.Ytlljmiddgadcpaa
open Go.RowKit

theorem bstr_head (l : List UInt8) (h : 0 < (bstr l).size) : (bstr l)[0]'h = l.head (by intro e; subst e; simp [bstr_size] at h) := by
  rcases l with _ | ⟨c, l⟩
  · simp [bstr_size] at h
  · rfl

theorem extract_bstr (s : ByteArray) (k : Nat) : s.extract k s.size = bstr (s.data.toList.drop k) := by
  apply ByteArray.ext
  apply Array.ext'
  simp only [bstr, ByteArray.data_extract, Array.toList_extract, List.extract_eq_take_drop]
  rw [List.take_of_length_le (by simp)]

theorem bstr_tail (l : List UInt8) : (bstr l).extract 1 (bstr l).size = bstr (l.drop 1) := extract_bstr (bstr l) 1

theorem ret_str {a b : ByteArray} (h : a = b) : Ending.returned (.string a) = .returned (.string b) := by rw [h]

/-- what stands before the first byte that is not c -/
theorem dropWhile_from (c : UInt8) (l : List UInt8) (k : Nat) (h1 : ∀ (j : Nat) b, j < k → l[j]? = some b → b = c) : l.dropWhile (· == c) = (l.drop k).dropWhile (· == c) := by
  induction k generalizing l with
  | zero => simp
  | succ k ih =>
    rcases l with _ | ⟨x, l⟩
    · simp
    · have hx : x = c := h1 0 x (by omega) rfl
      subst hx
      simp only [List.drop_succ_cons]
      rw [List.dropWhile_cons_of_pos (by simp)]
      exact ih l (fun j b hj hb => h1 (j + 1) b (by omega) (by simpa using hb))

theorem drop_keep (s : ByteArray) (k : Nat) (hb : ∀ h : k < s.size, s[k] ≠ 0) : (s.data.toList.drop k).dropWhile (· == 0) = s.data.toList.drop k := by
  rcases hd : s.data.toList.drop k with _ | ⟨x, l⟩
  · rfl
  · have hlt : k < s.size := by
      rcases Nat.lt_or_ge k s.size with h | h
      · exact h
      · rw [List.drop_of_length_le (by rw [← Lib.size_eq]; exact h)] at hd
        simp at hd
    have hx : x = s[k] := by
      have h1 : (s.data.toList.drop k)[0]? = some x := by rw [hd]; rfl
      rw [List.getElem?_drop, Nat.add_zero, List.getElem?_eq_getElem (by rw [← Lib.size_eq]; exact hlt)] at h1
      injection h1 with h1
      rw [← h1]; rfl
    rw [List.dropWhile_cons_of_neg]
    rw [hx]
    simpa using hb hlt

set_option maxHeartbeats 1000000 in
theorem normRef_calls (s : ByteArray) (w : World) (hs : s.size ≤ 9223372036854775807) :
    Calls Try.prog 32 #[.string s] w fun e w' => e = .returned (.string (ncan (snum s))) ∧ w' = w := by
  go_enter Try.func32, Try.ntmps32
  go_wp2_with fail
  go_loop [3] (fun i => ∃ k : Nat, k ≤ s.size ∧ i = .int .i64 k ∧ Hid (∀ (j : Nat) b, j < k → s.data.toList[j]? = some b → b = 0)) (fun i => s.size - (intOf i).toNat)
  case atStart => exact ⟨0, Nat.zero_le _, rfl, fun j b hj => absurd hj (Nat.not_lt_zero _)⟩
  case round =>
    obtain ⟨k, hk, rfl, HC⟩ := hrel
    have HE : Hid (k ≤ s.size → (∀ h : k < s.size, s[k] ≠ 0) → s.extract k s.size = ncan (snum s)) := by
      intro hk hb
      show _ = bstr (canon (num s.data.toList))
      rw [← dropZero_eq, dropWhile_from 0 _ k HC.out, extract_bstr]
      rw [drop_keep s k hb]
    by_cases hlt : k < s.size
    · by_cases h0 : s[k] = 0
      · have h0' : ((s[k].toNat : Int) == 0) = true := by simp [h0]
        have HC2 : Hid (∀ (j : Nat) b, j < k + 1 → s.data.toList[j]? = some b → b = 0) := by
          intro j b hj hb
          by_cases e : j = k
          · subst e
            have : s.data.toList[j]? = some s[j] := by rw [List.getElem?_eq_getElem (by rw [← Lib.size_eq]; exact hlt)]; rfl
            rw [this] at hb
            injection hb with hb
            rw [← hb, h0]
          · exact HC.out j b (by omega) hb
        clear h0 HE
        go_wp2
        go_round
        case rel => exact ⟨k + 1, by omega, by go_num, HC2⟩
        case measure => simp [intOf]; omega
      · have h0' : ((s[k].toNat : Int) == 0) = false := by
          simp
          intro h
          exact h0 (UInt8.toNat_inj.1 h)
        have HZ := Lib.hid h0
        clear h0
        go_wp2
        go_ret
        exact ⟨ret_str (HE.out hk (fun _ => HZ.out)), rfl⟩
    · go_wp2
      go_ret
      exact ⟨ret_str (HE.out hk (fun h => absurd h hlt)), rfl⟩

end Go.Proofs.Ytlljmiddgadcpaa

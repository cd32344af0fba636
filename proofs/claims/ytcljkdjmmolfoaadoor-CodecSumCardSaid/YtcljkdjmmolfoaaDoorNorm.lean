/- natural.Normalize (strings.TrimLeft at one byte) and the definition's Normalize. -/
import Derived.Test.YtcljkdjmmolfoaaDoorMem
set_option linter.unusedVariables false
set_option linter.unusedSimpArgs false
namespace Go.Proofs.YtcljkdjmmolfoaaDoor
open Go.RowKit

theorem bstr_head (l : List UInt8) (h : 0 < (bstr l).size) : (bstr l)[0]'h = l.head (by intro e; subst e; simp [bstr_size] at h) := by
  rcases l with _ | ⟨c, l⟩
  · simp [bstr_size] at h
  · rfl

theorem extract_bstr (s : ByteArray) (k : Nat) : s.extract k s.size = bstr (s.data.toList.drop k) := by
  apply ByteArray.ext
  apply Array.ext'
  simp only [bstr, ByteArray.data_extract, Array.toList_extract, List.extract_eq_take_drop]
  rw [List.take_of_length_le (by simp)]

theorem bstr_tail (l : List UInt8) : (bstr l).extract 1 (bstr l).size = bstr (l.drop 1) := extract_bstr (bstr l) 1

theorem ret_str {a b : ByteArray} (h : a = b) : Ending.returned (.string a) = .returned (.string b) := by rw [h]

/-- what stands before the first byte that is not c -/
theorem dropWhile_from (c : UInt8) (l : List UInt8) (k : Nat) (h1 : ∀ (j : Nat) b, j < k → l[j]? = some b → b = c) : l.dropWhile (· == c) = (l.drop k).dropWhile (· == c) := by
  induction k generalizing l with
  | zero => simp
  | succ k ih =>
    rcases l with _ | ⟨x, l⟩
    · simp
    · have hx : x = c := h1 0 x (by omega) rfl
      subst hx
      simp only [List.drop_succ_cons]
      rw [List.dropWhile_cons_of_pos (by simp)]
      exact ih l (fun j b hj hb => h1 (j + 1) b (by omega) (by simpa using hb))

set_option maxHeartbeats 1000000 in
theorem trimLeftByte_calls (s : ByteArray) (c : UInt8) (w : World) :
    Calls Tryd.prog 79 #[.string s, .int .u8 c.toNat] w fun e w' => e = .returned (.string (bstr (s.data.toList.dropWhile (· == c)))) ∧ w' = w := by
  go_enter Tryd.func79, Tryd.ntmps79
  go_wp2_with fail
  go_loop [0] (fun v => ∃ l : List UInt8, v = .string (bstr l) ∧ Hid (s.data.toList.dropWhile (· == c) = l.dropWhile (· == c))) (fun v => Lib.strSize v)
  case atStart => exact ⟨s.data.toList, rfl, rfl⟩
  case round =>
    obtain ⟨l, rfl, HC⟩ := hrel
    rcases l with _ | ⟨x, l⟩
    · have hz : (bstr ([] : List UInt8)).size = 0 := rfl
      go_wp2
      go_ret
      exact ⟨ret_str (by rw [HC.out]; rfl), rfl⟩
    · have hsz : (bstr (x :: l)).size = l.length + 1 := bstr_size _
      have hd : ∀ h, (bstr (x :: l))[0]'h = x := fun h => bstr_head _ h
      have htl : (bstr (x :: l)).extract 1 (l.length + 1) = bstr l := by rw [← hsz]; exact bstr_tail _
      have hs2 : Hid ((bstr l).size = l.length) := bstr_size _
      have HB : Hid (∃ t, t = bstr (x :: l)) := ⟨_, rfl⟩
      by_cases heq : x = c
      · have HC2 : Hid (s.data.toList.dropWhile (· == c) = l.dropWhile (· == c)) := by
          rw [HC.out, List.dropWhile_cons_of_pos (by simp [heq])]; rfl
        have heq' : ((x.toNat : Int) == (c.toNat : Int)) = true := by simp [heq]
        have HQ := Lib.hid heq
        clear HC heq
        go_wp2
        go_round
        case rel => exact ⟨l, rfl, HC2⟩
        case measure => simp [Lib.strSize, hsz, hs2.out]
      · have hne : ((x.toNat : Int) == (c.toNat : Int)) = false := by
          simp
          intro h
          exact heq (UInt8.toNat_inj.1 (by omega))
        have HQ := Lib.hid heq
        clear heq
        go_wp2
        go_ret
        exact ⟨ret_str (by rw [HC.out, List.dropWhile_cons_of_neg (by simpa using HQ.out)]), rfl⟩

set_option maxHeartbeats 1000000 in
set_option maxRecDepth 1000000 in
theorem trimLeft_calls (s : ByteArray) (c : UInt8) (hc : c.toNat < 128) (w : World) :
    Calls Tryd.prog 71 #[.string s, .string ⟨#[c]⟩] w fun e w' => e = .returned (.string (bstr (s.data.toList.dropWhile (· == c)))) ∧ w' = w := by
  have hcc : ∀ h, (⟨#[c]⟩ : ByteArray)[0]'h = c := fun _ => rfl
  have hcs : (⟨#[c]⟩ : ByteArray).size = 1 := rfl
  by_cases hs : s.data.toList = []
  · have hs0 : s = ⟨#[]⟩ := by rw [← bstr_data s, hs]; rfl
    subst hs0
    go_enter Tryd.func71, Tryd.ntmps71
    go_wp2_with fail
    go_ret
    exact ⟨rfl, rfl⟩
  · have hs1 : s.toList.isEmpty = false := by rw [Lib.toList_data]; simpa using hs
    have hs2 : ¬ s.toList = [] := by rw [Lib.toList_data]; exact hs
    have HS := Lib.hid hs
    clear hs
    go_enter Tryd.func71, Tryd.ntmps71
    go_wp2_with (go_at_call 79; refine (trimLeftByte_calls s c _).mono ?_; rintro e w' ⟨rfl, rfl⟩)
    all_goals
      go_ret
      exact ⟨rfl, rfl⟩

theorem normalize_calls (s : ByteArray) (w : World) :
    Calls Tryd.prog 64 #[.string s] w fun e w' => e = .returned (.string (ncan (snum s))) ∧ w' = w := by
  have HN : Hid (bstr (s.data.toList.dropWhile (· == 0)) = ncan (snum s)) := by show _ = _; rw [dropZero_eq]; rfl
  go_enter Tryd.func64, Tryd.ntmps64
  go_wp2_with (go_at_call 71; refine (trimLeft_calls s 0 (by decide) _).mono ?_; rintro e w' ⟨rfl, rfl⟩)
  go_ret
  exact ⟨ret_str HN.out, rfl⟩

theorem drop_keep (s : ByteArray) (k : Nat) (hb : ∀ h : k < s.size, s[k] ≠ 0) : (s.data.toList.drop k).dropWhile (· == 0) = s.data.toList.drop k := by
  rcases hd : s.data.toList.drop k with _ | ⟨x, l⟩
  · rfl
  · have hlt : k < s.size := by
      rcases Nat.lt_or_ge k s.size with h | h
      · exact h
      · rw [List.drop_of_length_le (by rw [← Lib.size_eq]; exact h)] at hd
        simp at hd
    have hx : x = s[k] := by
      have h1 : (s.data.toList.drop k)[0]? = some x := by rw [hd]; rfl
      rw [List.getElem?_drop, Nat.add_zero, List.getElem?_eq_getElem (by rw [← Lib.size_eq]; exact hlt)] at h1
      injection h1 with h1
      rw [← h1]; rfl
    rw [List.dropWhile_cons_of_neg]
    rw [hx]
    simpa using hb hlt

set_option maxHeartbeats 1000000 in
theorem normRef_calls (s : ByteArray) (w : World) (hs : s.size ≤ 9223372036854775807) :
    Calls Tryd.prog 49 #[.string s] w fun e w' => e = .returned (.string (ncan (snum s))) ∧ w' = w := by
  go_enter Tryd.func49, Tryd.ntmps49
  go_wp2_with fail
  go_loop [3] (fun i => ∃ k : Nat, k ≤ s.size ∧ i = .int .i64 k ∧ Hid (∀ (j : Nat) b, j < k → s.data.toList[j]? = some b → b = 0)) (fun i => s.size - (intOf i).toNat)
  case atStart => exact ⟨0, Nat.zero_le _, rfl, fun j b hj => absurd hj (Nat.not_lt_zero _)⟩
  case round =>
    obtain ⟨k, hk, rfl, HC⟩ := hrel
    have HE : Hid (k ≤ s.size → (∀ h : k < s.size, s[k] ≠ 0) → s.extract k s.size = ncan (snum s)) := by
      intro hk hb
      show _ = bstr (canon (num s.data.toList))
      rw [← dropZero_eq, dropWhile_from 0 _ k HC.out, extract_bstr]
      rw [drop_keep s k hb]
    by_cases hlt : k < s.size
    · by_cases h0 : s[k] = 0
      · have h0' : ((s[k].toNat : Int) == 0) = true := by simp [h0]
        have HC2 : Hid (∀ (j : Nat) b, j < k + 1 → s.data.toList[j]? = some b → b = 0) := by
          intro j b hj hb
          by_cases e : j = k
          · subst e
            have : s.data.toList[j]? = some s[j] := by rw [List.getElem?_eq_getElem (by rw [← Lib.size_eq]; exact hlt)]; rfl
            rw [this] at hb
            injection hb with hb
            rw [← hb, h0]
          · exact HC.out j b (by omega) hb
        clear h0 HE
        go_wp2
        go_round
        case rel => exact ⟨k + 1, by omega, by go_num, HC2⟩
        case measure => simp [intOf]; omega
      · have h0' : ((s[k].toNat : Int) == 0) = false := by
          simp
          intro h
          exact h0 (UInt8.toNat_inj.1 h)
        have HZ := Lib.hid h0
        clear h0
        go_wp2
        go_ret
        exact ⟨ret_str (HE.out hk (fun _ => HZ.out)), rfl⟩
    · go_wp2
      go_ret
      exact ⟨ret_str (HE.out hk (fun h => absurd h hlt)), rfl⟩

end Go.Proofs.YtcljkdjmmolfoaaDoor

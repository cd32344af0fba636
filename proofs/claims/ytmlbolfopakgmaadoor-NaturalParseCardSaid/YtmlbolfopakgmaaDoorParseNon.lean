/- natural.Parse at a string with a byte that is no digit. -/
import Derived.Test.YtmlbolfopakgmaaDoorParseBad
set_option linter.unusedVariables false
set_option linter.unusedSimpArgs false
namespace Go.Proofs.YtmlbolfopakgmaaDoor
open Go.RowKit

theorem dw_nil {p : UInt8 → Bool} : ∀ (r : List UInt8), r.dropWhile p = [] → ∀ b ∈ r, p b = true
  | [], _, b, hb => by simp at hb
  | c :: r, h, b, hb => by
    rw [List.dropWhile_cons] at h
    split at h
    · rename_i hc
      rcases List.mem_cons.1 hb with rfl | hb
      · exact hc
      · exact dw_nil r h b hb
    · simp at h
theorem dw_head {p : UInt8 → Bool} : ∀ (r : List UInt8) (c : UInt8) (t : List UInt8), r.dropWhile p = c :: t → p c = false
  | [], _, _, h => by simp at h
  | x :: r, c, t, h => by
    rw [List.dropWhile_cons] at h
    split at h
    · exact dw_head r c t h
    · rename_i hc
      simp only [List.cons.injEq] at h
      rw [← h.1]; simpa using hc

theorem trimS_some {l : List UInt8} (h : ¬ Dgt l) : Lib.trimS l dgs.data.toList ≠ [] := by
  intro e
  apply h
  unfold Lib.trimS Lib.trimLeftS Lib.trimRightS at e
  have h1 := dw_nil _ e
  have h2 : l.reverse.dropWhile (dgs.data.toList.contains ·) = [] := by
    rcases hq : l.reverse.dropWhile (dgs.data.toList.contains ·) with _ | ⟨c, t⟩
    · rfl
    · exfalso
      have h3 := dw_head _ _ _ hq
      have h4 := h1 c (by rw [hq]; simp)
      rw [h3] at h4
      exact Bool.noConfusion h4
  have h5 := dw_nil _ h2
  intro b hb
  have := h5 b (List.mem_reverse.2 hb)
  rw [dgs_contains] at this
  exact of_decide_eq_true this

set_option maxHeartbeats 1000000 in
set_option maxRecDepth 100000 in
theorem parse_non_calls (s : ByteArray) (w : World) (h0 : 0 < s.size) (hs : s.size ≤ 9223372036854775807) (hz : (h : 0 < s.size) → s.size = 1 ∨ (s[0]'h).toNat ≠ 48) (hd : ¬ Dgt s.data.toList) :
    Calls Tryd.prog 23 #[.string s] w fun e w' => e = .returned (.tuple #[.string ⟨#[]⟩, .int .i64 3]) ∧ Below w.heap.size w w' := by
  have HT0 := fun w => trim_dgs_calls s w h0 hs
  obtain ⟨t, ht⟩ : ∃ t, t = bstr (Lib.trimS s.data.toList dgs.data.toList) := ⟨_, rfl⟩
  have htl : t.toList.isEmpty = false := by
    rw [Lib.toList_data, List.isEmpty_eq_false_iff, ht]
    simpa [bstr] using trimS_some hd
  rw [← ht] at HT0
  have HT := Lib.hid HT0
  have hemps := emp_false h0
  have hz1 := hz h0
  clear HT0 ht hd hz
  by_cases hs1 : s.size = 1
  · have hd1 : decide ((1 : Int) < (s.size : Int)) = false := by simp; omega
    go_enter Tryd.func23, Tryd.ntmps23
    go_wp2_with fail
    refine (HT.out _).mono ?_
    rintro e w1 ⟨rfl, hb1⟩
    go_wp2_with fail
    go_ret2
    exact ⟨rfl, hb1⟩
  · have hd1 : decide ((1 : Int) < (s.size : Int)) = true := by simp; omega
    have hne : (s[0]'h0).toNat ≠ 48 := hz1.resolve_left hs1
    have hne2 : (((s[0]'h0).toNat : Int) == 48) = false := by simp; omega
    clear hz1 hne
    go_enter Tryd.func23, Tryd.ntmps23
    go_wp2_with fail
    refine (HT.out _).mono ?_
    rintro e w1 ⟨rfl, hb1⟩
    go_wp2_with fail
    go_ret2
    exact ⟨rfl, hb1⟩

end Go.Proofs.YtmlbolfopakgmaaDoor

/- natural.Parse: what is refused. -/
import Derived.Test.YtmlbolfopakgmaaDoorParseTen
set_option linter.unusedVariables false
set_option linter.unusedSimpArgs false
namespace Go.Proofs.YtmlbolfopakgmaaDoor
open Go.RowKit

theorem emp_false {s : ByteArray} (h0 : 0 < s.size) : s.toList.isEmpty = false := by
  rw [Lib.toList_data]
  cases h : s.data.toList with
  | nil => have := Lib.size_eq s; rw [h, List.length_nil] at this; omega
  | cons _ _ => rfl

set_option maxHeartbeats 1000000 in
set_option maxRecDepth 100000 in
theorem parse_long_calls (s : ByteArray) (w : World) (h1 : 2000 < s.size) (hs : s.size ≤ 9223372036854775807) (hz : (h : 0 < s.size) → (s[0]'h).toNat ≠ 48) (hd : Dgt s.data.toList) :
    Calls Tryd.prog 23 #[.string s] w fun e w' => e = .returned (.tuple #[.string ⟨#[]⟩, .int .i64 2]) ∧ Below w.heap.size w w' := by
  have h0 : 0 < s.size := by omega
  have HT0 := fun w => trim_dgs_calls s w h0 (by omega)
  rw [trimS_all hd, show bstr [] = (⟨#[]⟩ : ByteArray) from rfl] at HT0
  have HT := Lib.hid HT0
  have hemps := emp_false h0
  have hne := hz h0
  have hne2 : (((s[0]'h0).toNat : Int) == 48) = false := by simp; omega
  have hd1 : decide ((1 : Int) < (s.size : Int)) = true := by simp; omega
  clear HT0 hd hz hne
  go_enter Tryd.func23, Tryd.ntmps23
  go_wp2_with fail
  refine (HT.out _).mono ?_
  rintro e w1 ⟨rfl, hb1⟩
  go_wp2_with fail
  go_ret2
  exact ⟨rfl, hb1⟩

set_option maxHeartbeats 1000000 in
theorem parse_empty_calls (w : World) :
    Calls Tryd.prog 23 #[.string ⟨#[]⟩] w fun e w' => e = .returned (.tuple #[.string ⟨#[]⟩, .int .i64 3]) ∧ w' = w := by
  go_enter Tryd.func23, Tryd.ntmps23
  go_wp2_with fail
  go_ret2
  exact ⟨rfl, rfl⟩

set_option maxHeartbeats 1000000 in
theorem parse_zero_calls (s : ByteArray) (w : World) (h1 : 1 < s.size) (hz : (h : 0 < s.size) → (s[0]'h).toNat = 48) :
    Calls Tryd.prog 23 #[.string s] w fun e w' => e = .returned (.tuple #[.string ⟨#[]⟩, .int .i64 3]) ∧ w' = w := by
  have h0 : 0 < s.size := by omega
  have hemps := emp_false h0
  have hne := hz h0
  have hne2 : (((s[0]'h0).toNat : Int) == 48) = true := by simp; omega
  have hd1 : decide ((1 : Int) < (s.size : Int)) = true := by simp; omega
  clear hz hne
  go_enter Tryd.func23, Tryd.ntmps23
  go_wp2_with fail
  go_ret2
  exact ⟨rfl, rfl⟩

end Go.Proofs.YtmlbolfopakgmaaDoor

/- NaturalNormalize: Normalize removes exactly the leading zero bytes. No condition. -/
import Derived.Test.YtmlbolfopakgmaaDoorAwake1
import Derived.Test.YtmlbolfopakgmaaDoorLaid
import Derived.Test.YtmlbolfopakgmaaDoorDec
set_option linter.unusedVariables false
set_option linter.unusedSimpArgs false
namespace Go.Proofs.YtmlbolfopakgmaaDoor
open Go.RowKit

set_option maxHeartbeats 1000000 in
theorem normalizeLaw (s : ByteArray) (w : World) (hs : s.size ≤ maxLen) : Calls Tryd.prog 3 #[.string s] w fun e w' => e = .returned (.bool true) ∧ Below w.heap.size w w' := by
  unfold maxLen at hs
  by_cases hb : 300 < s.size
  · go_enter Tryd.func3, Tryd.ntmps3
    go_wp2_with fail
    refine (awake1_calls _).mono ?_
    rintro e w1 ⟨rfl, hb1⟩
    go_wp2_with fail
    go_ret
    exact ⟨rfl, hb1⟩
  · have hb2 : s.size ≤ 300 := by omega
    clear hb
    have HN := Lib.hid (fun w => normalize_calls s w)
    have HM := Lib.hid (fun w => normRef_calls s w (by omega))
    clear hs
    go_enter Tryd.func3, Tryd.ntmps3
    go_wp2_with fail
    refine (awake1_calls _).mono ?_
    rintro e w1 ⟨rfl, hb1⟩
    go_wp2_with fail
    refine (HN.out _).mono ?_
    rintro e w2 ⟨rfl, rfl⟩
    go_wp2_with fail
    refine (HM.out _).mono ?_
    rintro e w2 ⟨rfl, rfl⟩
    go_wp2_with fail
    go_ret
    exact ⟨rfl, hb1⟩

end Go.Proofs.YtmlbolfopakgmaaDoor

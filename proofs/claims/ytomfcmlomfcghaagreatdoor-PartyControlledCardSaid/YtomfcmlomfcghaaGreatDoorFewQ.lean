/- insolvencylaw0.Few. -/
import Derived.Test.YtomfcmlomfcghaaGreatDoorPtyM
set_option linter.unusedVariables false
set_option linter.unusedSimpArgs false
namespace Go.Proofs.YtomfcmlomfcghaaGreatDoor
open Go.RowKit

def fewF (q : FQ) : Bool := decide (q.num.size ≤ 24) && decide (q.den.size ≤ 24)
set_option maxHeartbeats 1000000 in
theorem fewF_calls (neg : Bool) (num den : ByteArray) (w : World) (h1 : num.size ≤ maxLen) (h2 : den.size ≤ maxLen) (c : Bool) (hc : c = fewF ⟨neg, num, den⟩) :
    Calls Tryz.prog 36 #[.agg #[.bool neg, .string num, .string den]] w fun e w' => e = .returned (.bool c) ∧ Below w.heap.size w w' := by
  unfold maxLen at h1 h2
  unfold fewF at hc
  have HC := Lib.hid hc
  clear hc
  by_cases g1 : num.size ≤ 24
  · have d1 : decide ((num.size : Int) ≤ 24) = true := decide_eq_true (by omega)
    have e1 := Lib.hid (show decide (num.size ≤ 24) = true from decide_eq_true g1)
    by_cases g2 : den.size ≤ 24
    · have d2 : decide ((den.size : Int) ≤ 24) = true := decide_eq_true (by omega)
      have e2 := Lib.hid (show decide (den.size ≤ 24) = true from decide_eq_true g2)
      have hof : c = true := by rw [HC.out]; dsimp only; rw [e1.out, e2.out]; rfl
      subst hof
      go_enter Tryz.func36, Tryz.ntmps36
      go_wp2_with fail
      go_ret
      exact ⟨rfl, bel_alloc _ _⟩
    · have d2 : decide ((den.size : Int) ≤ 24) = false := decide_eq_false (by omega)
      have e2 := Lib.hid (show decide (den.size ≤ 24) = false from decide_eq_false g2)
      have hof : c = false := by rw [HC.out]; dsimp only; rw [e1.out, e2.out]; rfl
      subst hof
      go_enter Tryz.func36, Tryz.ntmps36
      go_wp2_with fail
      go_ret
      exact ⟨rfl, bel_alloc _ _⟩
  · have d1 : decide ((num.size : Int) ≤ 24) = false := decide_eq_false (by omega)
    have e1 := Lib.hid (show decide (num.size ≤ 24) = false from decide_eq_false g1)
    have hof : c = false := by rw [HC.out]; dsimp only; rw [e1.out]; rfl
    subst hof
    go_enter Tryz.func36, Tryz.ntmps36
    go_wp2_with fail
    go_ret
    exact ⟨rfl, bel_alloc _ _⟩

end Go.Proofs.YtomfcmlomfcghaaGreatDoor

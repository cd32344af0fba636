/- natural.divide, Divide, GCD. -/
import Derived.Test.YtlljmiddgadcpaaStep
import Derived.Test.YtlljmiddgadcpaaLen
import Derived.Test.YtlljmiddgadcpaaDivPl
import Derived.Deep.RegionWith
set_option linter.unusedVariables false
set_option linter.unusedSimpArgs false
namespace Go.Proofs.Ytlljmiddgadcpaa
open Go.RowKit

theorem limbs_one {r : Nat} (h : r < 4294967296) : valL [r] = r := by simp [valL]

/-- two slices that hold numbers -/
def Two (w : World) (x y : Nat) (e : Ending) (w' : World) : Prop :=
  ∃ Q cq R cr, e = .returned (.tuple #[.slice Q (limbs x).length cq, .slice R (limbs y).length cr]) ∧ (limbs x).length ≤ cq ∧ (limbs y).length ≤ cr ∧ KRd .u32 w' w'.heap.size Q (limbs x) ∧ KRd .u32 w' w'.heap.size R (limbs y) ∧ Below w.heap.size w w'

theorem cmpN_lt {a b : Nat} (h : a < b) : cmpN a b = -1 := if_pos h
theorem cmpN_ge {a b : Nat} (h : b ≤ a) : 0 ≤ cmpN a b := by unfold cmpN; rw [if_neg (by omega)]; split <;> omega

theorem hDrow3 {k : IntKind} {T : TypeId} {w w' : World} {g : Nat} {xs : List Nat} (h : KRow k T w g xs) (hb : Below w.heap.size w w') : KRow k T w' g xs := h.next hb

end Go.Proofs.Ytlljmiddgadcpaa

/- insolvencylaw26: the sanity check and the walks of the two laws on Exposure. -/
import Derived.Test.YtlljmiddgadcpaaExpo
import Derived.Test.YtlljmiddgadcpaaGen
set_option linter.unusedVariables false
set_option linter.unusedSimpArgs false
namespace Go.Proofs.Ytlljmiddgadcpaa
open Go.RowKit

theorem awake26_val : expo 0 1 0 0 [⟨0, 1, 0, 1, 100, 0⟩, ⟨0, 2, 1, 0, 120, 0⟩, ⟨0, 1, 0, 1, 50, 0⟩] = 50 := by decide +kernel

theorem rd_new (w : World) (cs : List Value) (t : TypeId) (S n N : Nat) (hN : N = w.heap.size) (hl : cs.length = n * S) : Rd (w.alloc (.cells cs.toArray t)) (w.alloc (.cells cs.toArray t)).heap.size S (some ⟨N, 0, none⟩) n cs := by
  subst hN
  refine ⟨hl, fun _ => ⟨_, _, rfl, by simp, fun j u hu => ?_⟩⟩
  have := new_cells w cs t _ rfl j u hu
  rwa [Addr.add_lit] at this

end Go.Proofs.Ytlljmiddgadcpaa

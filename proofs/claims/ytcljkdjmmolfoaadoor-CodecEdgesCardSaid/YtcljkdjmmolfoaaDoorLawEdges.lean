/- CodecEdges: the plain walk. -/
import Derived.Test.YtcljkdjmmolfoaaDoorEdgA
import Derived.Test.YtcljkdjmmolfoaaDoorEdgB
import Derived.Test.YtcljkdjmmolfoaaDoorEdgC
namespace Go.Proofs.YtcljkdjmmolfoaaDoor
open Go.RowKit

theorem codecEdgesLaw (x : Int) (f lg op pa di : Nat) (w : World) (x0 : -128 ≤ x) (x1 : x ≤ 127) (hf2 : f ≤ 255) (hlg : lg ≤ 255) (hop : op ≤ 255) (hpa : pa ≤ 65535) (hdi : di ≤ 65535) :
    Calls Tryd.prog 6 #[.int .i8 x, .int .u8 (f : Int), .int .u8 (lg : Int), .int .u8 (op : Int), .int .u16 (pa : Int), .int .u16 (di : Int)] w fun e w' => e = .returned (.bool true) ∧ Below w.heap.size w w' := by
  have h : f % 12 < 12 := Nat.mod_lt _ (by decide)
  obtain ⟨j, hj⟩ : ∃ j, j = f % 12 := ⟨_, rfl⟩
  rw [← hj] at h
  have hj := hj.symm
  match j, h, hj with
  | 0, _, hj => exact edges_0 x f lg op pa di w x0 x1 hj hf2 hlg hop hpa hdi
  | 1, _, hj => exact edges_1 x f lg op pa di w x0 x1 hj hf2 hlg hop hpa hdi
  | 2, _, hj => exact edges_2 x f lg op pa di w x0 x1 hj hf2 hlg hop hpa hdi
  | 3, _, hj => exact edges_3 x f lg op pa di w x0 x1 hj hf2 hlg hop hpa hdi
  | 4, _, hj => exact edges_4 x f lg op pa di w x0 x1 hj hf2 hlg hop hpa hdi
  | 5, _, hj => exact edges_5 x f lg op pa di w x0 x1 hj hf2 hlg hop hpa hdi
  | 6, _, hj => exact edges_6 x f lg op pa di w x0 x1 hj hf2 hlg hop hpa hdi
  | 7, _, hj => exact edges_7 x f lg op pa di w x0 x1 hj hf2 hlg hop hpa hdi
  | 8, _, hj => exact edges_8 x f lg op pa di w x0 x1 hj hf2 hlg hop hpa hdi
  | 9, _, hj => exact edges_9 x f lg op pa di w x0 x1 hj hf2 hlg hop hpa hdi
  | 10, _, hj => exact edges_10 x f lg op pa di w x0 x1 hj hf2 hlg hop hpa hdi
  | 11, _, hj => exact edges_11 x f lg op pa di w x0 x1 hj hf2 hlg hop hpa hdi

theorem codecEdgesLawI (x f lg op pa di : Int) (w : World) (x0 : -128 ≤ x) (x1 : x ≤ 127) (f0 : 0 ≤ f) (hf2 : f ≤ 255) (lg0 : 0 ≤ lg) (hlg : lg ≤ 255) (op0 : 0 ≤ op) (hop : op ≤ 255) (pa0 : 0 ≤ pa) (hpa : pa ≤ 65535) (di0 : 0 ≤ di) (hdi : di ≤ 65535) :
    Calls Tryd.prog 6 #[.int .i8 x, .int .u8 f, .int .u8 lg, .int .u8 op, .int .u16 pa, .int .u16 di] w fun e w' => e = .returned (.bool true) ∧ Below w.heap.size w w' := by
  obtain ⟨f, rfl⟩ := Int.eq_ofNat_of_zero_le f0
  obtain ⟨lg, rfl⟩ := Int.eq_ofNat_of_zero_le lg0
  obtain ⟨op, rfl⟩ := Int.eq_ofNat_of_zero_le op0
  obtain ⟨pa, rfl⟩ := Int.eq_ofNat_of_zero_le pa0
  obtain ⟨di, rfl⟩ := Int.eq_ofNat_of_zero_le di0
  exact codecEdgesLaw x f lg op pa di w x0 x1 (by omega) (by omega) (by omega) (by omega) (by omega)

end Go.Proofs.YtcljkdjmmolfoaaDoor

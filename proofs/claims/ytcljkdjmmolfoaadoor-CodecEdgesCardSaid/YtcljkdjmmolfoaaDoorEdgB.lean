/- insolvencylaw35.CodecEdges, further fields. -/
import Derived.Test.YtcljkdjmmolfoaaDoorEdge0
set_option linter.unusedVariables false
set_option linter.unusedSimpArgs false
namespace Go.Proofs.YtcljkdjmmolfoaaDoor
open Go.RowKit

set_option maxHeartbeats 4000000 in
set_option maxRecDepth 100000 in
theorem edges_4 (x : Int) (f lg op pa di : Nat) (w : World) (x0 : -128 ≤ x) (x1 : x ≤ 127) (hf : f % 12 = 4) (hf2 : f ≤ 255) (hlg : lg ≤ 255) (hop : op ≤ 255) (hpa : pa ≤ 65535) (hdi : di ≤ 65535) :
    Calls Tryd.prog 6 #[.int .i8 x, .int .u8 (f : Int), .int .u8 (lg : Int), .int .u8 (op : Int), .int .u16 (pa : Int), .int .u16 (di : Int)] w fun e w' => e = .returned (.bool true) ∧ Below w.heap.size w w' := by
  have hm : (f : Int) % 12 = 4 := by omega
  clear hf
  go_enter Tryd.func6, Tryd.ntmps6
  go_upto_if 23 with fail
  go_cut [13] (fun s13 wx => EdgeN x s13 w wx)
  case first =>
    go_wp2_with fail
    · go_meet
      exact ⟨_, rfl, (edge_m x).1, (edge_m x).2, rfl⟩
    · go_meet
      exact ⟨_, rfl, (edge_n x).1, (edge_n x).2, rfl⟩
  case rest =>
    obtain ⟨z, rfl, z0, z1, rfl⟩ := hcut
    go_wp2_with fail
    have HW := Lib.hid (awake35_calls ((w.alloc (.cells #[.int .i64 0, .int .i64 0, .int .i64 0, .int .i64 0, .int .i64 0, .int .i64 0, .bool false, .string ⟨#[]⟩, .string ⟨#[]⟩, .bool false, .string ⟨#[]⟩, .string ⟨#[]⟩, .slice (none) 0 0, .slice (some ⟨w.heap.size + 1, 0, none⟩) 1 1, .slice (none) 0 0] 37)).alloc (.cells #[.bool false, .string ⟨#[]⟩, .string ⟨#[]⟩, .int .i64 z] 51)))
    have HR0 : Hid (RecS w.heap.size 0 0 0 0 0 0 false ⟨#[]⟩ ⟨#[]⟩ false ⟨#[]⟩ ⟨#[]⟩ none 0 0 (some ⟨w.heap.size + 1, 0, none⟩) 1 1 none 0 0 ((w.alloc (.cells #[.int .i64 0, .int .i64 0, .int .i64 0, .int .i64 0, .int .i64 0, .int .i64 0, .bool false, .string ⟨#[]⟩, .string ⟨#[]⟩, .bool false, .string ⟨#[]⟩, .string ⟨#[]⟩, .slice (none) 0 0, .slice (some ⟨w.heap.size + 1, 0, none⟩) 1 1, .slice (none) 0 0] 37)).alloc (.cells #[.bool false, .string ⟨#[]⟩, .string ⟨#[]⟩, .int .i64 z] 51))) := blk_alloc (blk_new _ _)
    have HB0 : Hid (Below w.heap.size w ((w.alloc (.cells #[.int .i64 0, .int .i64 0, .int .i64 0, .int .i64 0, .int .i64 0, .int .i64 0, .bool false, .string ⟨#[]⟩, .string ⟨#[]⟩, .bool false, .string ⟨#[]⟩, .string ⟨#[]⟩, .slice (none) 0 0, .slice (some ⟨w.heap.size + 1, 0, none⟩) 1 1, .slice (none) 0 0] 37)).alloc (.cells #[.bool false, .string ⟨#[]⟩, .string ⟨#[]⟩, .int .i64 z] 51))) := (bel_alloc _ _).alloc (by simp) _
    have HL0 : Hid (((w.alloc (.cells #[.int .i64 0, .int .i64 0, .int .i64 0, .int .i64 0, .int .i64 0, .int .i64 0, .bool false, .string ⟨#[]⟩, .string ⟨#[]⟩, .bool false, .string ⟨#[]⟩, .string ⟨#[]⟩, .slice (none) 0 0, .slice (some ⟨w.heap.size + 1, 0, none⟩) 1 1, .slice (none) 0 0] 37)).alloc (.cells #[.bool false, .string ⟨#[]⟩, .string ⟨#[]⟩, .int .i64 z] 51)).heap[w.heap.size + 1]? = some (.cells #[.bool false, .string ⟨#[]⟩, .string ⟨#[]⟩, .int .i64 z] 51 (0, 0))) := by have := blk_new (w.alloc (.cells #[.int .i64 0, .int .i64 0, .int .i64 0, .int .i64 0, .int .i64 0, .int .i64 0, .bool false, .string ⟨#[]⟩, .string ⟨#[]⟩, .bool false, .string ⟨#[]⟩, .string ⟨#[]⟩, .slice (none) 0 0, .slice (some ⟨w.heap.size + 1, 0, none⟩) 1 1, .slice (none) 0 0] 37)) (.cells #[.bool false, .string ⟨#[]⟩, .string ⟨#[]⟩, .int .i64 z] 51); rwa [World.size_alloc] at this
    refine HW.out.mono ?_
    rintro e w1 ⟨rfl, hb⟩
    have HR : Hid (RecS w.heap.size 0 0 0 0 0 0 false ⟨#[]⟩ ⟨#[]⟩ false ⟨#[]⟩ ⟨#[]⟩ none 0 0 (some ⟨w.heap.size + 1, 0, none⟩) 1 1 none 0 0 w1) := RecS.below 0 0 0 0 0 0 false ⟨#[]⟩ ⟨#[]⟩ false ⟨#[]⟩ ⟨#[]⟩ none 0 0 (some ⟨w.heap.size + 1, 0, none⟩) 1 1 none 0 0 HR0.out hb
    have HL : Hid (w1.heap[w.heap.size + 1]? = some (.cells #[.bool false, .string ⟨#[]⟩, .string ⟨#[]⟩, .int .i64 z] 51 (0, 0))) := blk_next HL0.out hb
    have HB : Hid (Below w.heap.size w w1) := HB0.out.trans (hb.mono HB0.out.size)
    clear hb HW HR0 HB0 HL0
    have HF := Lib.hid (same_calls 0 0 0 0 0 0 false ⟨#[]⟩ ⟨#[]⟩ false ⟨#[]⟩ ⟨#[]⟩ none 0 0 (some ⟨w.heap.size + 1, 0, none⟩) 1 1 none 0 0 [] [(q0, z)] [] w1 (fit_edge 0 0 0 0 0 0 ⟨#[]⟩ (none) 0 0 (some ⟨w.heap.size + 1, 0, none⟩) 1 1 (none) 0 0 [] [(q0, z)] [] w1 zero_edge zero_edge zero_edge zero_edge zero_edge zero_edge (by decide) rfl rfl rfl Rd.nil no_mem (rd_block HL.out rfl rfl) (mem_one ⟨(show q0.num.size ≤ 5000 ∧ q0.den.size ≤ 5000 by decide), (i64b_edge ⟨z0, z1⟩)⟩) Rd.nil no_mem (by omega) (by omega) (by omega)))
    obtain ⟨k0, k1, k2, k3, k4, k5, k6, k7, k8, k9, k10, k11, k12, k13, k14⟩ := RecS.cells 0 0 0 0 0 0 false ⟨#[]⟩ ⟨#[]⟩ false ⟨#[]⟩ ⟨#[]⟩ none 0 0 (some ⟨w.heap.size + 1, 0, none⟩) 1 1 none 0 0 HR.out
    go_wp2_with fail
    clear k0 k1 k2 k3 k4 k5 k6 k7 k8 k9 k10 k11 k12 k13 k14
    refine HF.out.mono ?_
    rintro e w2 ⟨rfl, hb⟩
    have HB2 : Hid (Below w.heap.size w w2) := HB.out.trans (hb.mono HB.out.size)
    clear hb HF
    go_wp2_with fail
    go_ret
    exact ⟨rfl, HB2.out⟩

set_option maxHeartbeats 4000000 in
set_option maxRecDepth 100000 in
theorem edges_5 (x : Int) (f lg op pa di : Nat) (w : World) (x0 : -128 ≤ x) (x1 : x ≤ 127) (hf : f % 12 = 5) (hf2 : f ≤ 255) (hlg : lg ≤ 255) (hop : op ≤ 255) (hpa : pa ≤ 65535) (hdi : di ≤ 65535) :
    Calls Tryd.prog 6 #[.int .i8 x, .int .u8 (f : Int), .int .u8 (lg : Int), .int .u8 (op : Int), .int .u16 (pa : Int), .int .u16 (di : Int)] w fun e w' => e = .returned (.bool true) ∧ Below w.heap.size w w' := by
  have hm : (f : Int) % 12 = 5 := by omega
  clear hf
  go_enter Tryd.func6, Tryd.ntmps6
  go_upto_if 23 with fail
  go_cut [13] (fun s13 wx => EdgeN x s13 w wx)
  case first =>
    go_wp2_with fail
    · go_meet
      exact ⟨_, rfl, (edge_m x).1, (edge_m x).2, rfl⟩
    · go_meet
      exact ⟨_, rfl, (edge_n x).1, (edge_n x).2, rfl⟩
  case rest =>
    obtain ⟨z, rfl, z0, z1, rfl⟩ := hcut
    go_wp2_with fail
    have HW := Lib.hid (awake35_calls ((w.alloc (.cells #[.int .i64 0, .int .i64 0, .int .i64 0, .int .i64 0, .int .i64 0, .int .i64 0, .bool false, .string ⟨#[]⟩, .string ⟨#[]⟩, .bool false, .string ⟨#[]⟩, .string ⟨#[]⟩, .slice (none) 0 0, .slice (none) 0 0, .slice (some ⟨w.heap.size + 1, 0, none⟩) 1 1] 37)).alloc (.cells #[.int .i64 0, .int .i64 0, .int .i64 0, .int .i64 z] 55)))
    have HR0 : Hid (RecS w.heap.size 0 0 0 0 0 0 false ⟨#[]⟩ ⟨#[]⟩ false ⟨#[]⟩ ⟨#[]⟩ none 0 0 none 0 0 (some ⟨w.heap.size + 1, 0, none⟩) 1 1 ((w.alloc (.cells #[.int .i64 0, .int .i64 0, .int .i64 0, .int .i64 0, .int .i64 0, .int .i64 0, .bool false, .string ⟨#[]⟩, .string ⟨#[]⟩, .bool false, .string ⟨#[]⟩, .string ⟨#[]⟩, .slice (none) 0 0, .slice (none) 0 0, .slice (some ⟨w.heap.size + 1, 0, none⟩) 1 1] 37)).alloc (.cells #[.int .i64 0, .int .i64 0, .int .i64 0, .int .i64 z] 55))) := blk_alloc (blk_new _ _)
    have HB0 : Hid (Below w.heap.size w ((w.alloc (.cells #[.int .i64 0, .int .i64 0, .int .i64 0, .int .i64 0, .int .i64 0, .int .i64 0, .bool false, .string ⟨#[]⟩, .string ⟨#[]⟩, .bool false, .string ⟨#[]⟩, .string ⟨#[]⟩, .slice (none) 0 0, .slice (none) 0 0, .slice (some ⟨w.heap.size + 1, 0, none⟩) 1 1] 37)).alloc (.cells #[.int .i64 0, .int .i64 0, .int .i64 0, .int .i64 z] 55))) := (bel_alloc _ _).alloc (by simp) _
    have HL0 : Hid (((w.alloc (.cells #[.int .i64 0, .int .i64 0, .int .i64 0, .int .i64 0, .int .i64 0, .int .i64 0, .bool false, .string ⟨#[]⟩, .string ⟨#[]⟩, .bool false, .string ⟨#[]⟩, .string ⟨#[]⟩, .slice (none) 0 0, .slice (none) 0 0, .slice (some ⟨w.heap.size + 1, 0, none⟩) 1 1] 37)).alloc (.cells #[.int .i64 0, .int .i64 0, .int .i64 0, .int .i64 z] 55)).heap[w.heap.size + 1]? = some (.cells #[.int .i64 0, .int .i64 0, .int .i64 0, .int .i64 z] 55 (0, 0))) := by have := blk_new (w.alloc (.cells #[.int .i64 0, .int .i64 0, .int .i64 0, .int .i64 0, .int .i64 0, .int .i64 0, .bool false, .string ⟨#[]⟩, .string ⟨#[]⟩, .bool false, .string ⟨#[]⟩, .string ⟨#[]⟩, .slice (none) 0 0, .slice (none) 0 0, .slice (some ⟨w.heap.size + 1, 0, none⟩) 1 1] 37)) (.cells #[.int .i64 0, .int .i64 0, .int .i64 0, .int .i64 z] 55); rwa [World.size_alloc] at this
    refine HW.out.mono ?_
    rintro e w1 ⟨rfl, hb⟩
    have HR : Hid (RecS w.heap.size 0 0 0 0 0 0 false ⟨#[]⟩ ⟨#[]⟩ false ⟨#[]⟩ ⟨#[]⟩ none 0 0 none 0 0 (some ⟨w.heap.size + 1, 0, none⟩) 1 1 w1) := RecS.below 0 0 0 0 0 0 false ⟨#[]⟩ ⟨#[]⟩ false ⟨#[]⟩ ⟨#[]⟩ none 0 0 none 0 0 (some ⟨w.heap.size + 1, 0, none⟩) 1 1 HR0.out hb
    have HL : Hid (w1.heap[w.heap.size + 1]? = some (.cells #[.int .i64 0, .int .i64 0, .int .i64 0, .int .i64 z] 55 (0, 0))) := blk_next HL0.out hb
    have HB : Hid (Below w.heap.size w w1) := HB0.out.trans (hb.mono HB0.out.size)
    clear hb HW HR0 HB0 HL0
    have HF := Lib.hid (same_calls 0 0 0 0 0 0 false ⟨#[]⟩ ⟨#[]⟩ false ⟨#[]⟩ ⟨#[]⟩ none 0 0 none 0 0 (some ⟨w.heap.size + 1, 0, none⟩) 1 1 [] [] [⟨0, 0, 0, z⟩] w1 (fit_edge 0 0 0 0 0 0 ⟨#[]⟩ (none) 0 0 (none) 0 0 (some ⟨w.heap.size + 1, 0, none⟩) 1 1 [] [] [⟨0, 0, 0, z⟩] w1 zero_edge zero_edge zero_edge zero_edge zero_edge zero_edge (by decide) rfl rfl rfl Rd.nil no_mem Rd.nil no_mem (rd_block HL.out rfl rfl) (mem_one ⟨(i64b_edge zero_edge), (i64b_edge zero_edge), (i64b_edge zero_edge), (i64b_edge ⟨z0, z1⟩)⟩) (by omega) (by omega) (by omega)))
    obtain ⟨k0, k1, k2, k3, k4, k5, k6, k7, k8, k9, k10, k11, k12, k13, k14⟩ := RecS.cells 0 0 0 0 0 0 false ⟨#[]⟩ ⟨#[]⟩ false ⟨#[]⟩ ⟨#[]⟩ none 0 0 none 0 0 (some ⟨w.heap.size + 1, 0, none⟩) 1 1 HR.out
    go_wp2_with fail
    clear k0 k1 k2 k3 k4 k5 k6 k7 k8 k9 k10 k11 k12 k13 k14
    refine HF.out.mono ?_
    rintro e w2 ⟨rfl, hb⟩
    have HB2 : Hid (Below w.heap.size w w2) := HB.out.trans (hb.mono HB.out.size)
    clear hb HF
    go_wp2_with fail
    go_ret
    exact ⟨rfl, HB2.out⟩

set_option maxHeartbeats 4000000 in
set_option maxRecDepth 100000 in
theorem edges_6 (x : Int) (f lg op pa di : Nat) (w : World) (x0 : -128 ≤ x) (x1 : x ≤ 127) (hf : f % 12 = 6) (hf2 : f ≤ 255) (hlg : lg ≤ 255) (hop : op ≤ 255) (hpa : pa ≤ 65535) (hdi : di ≤ 65535) :
    Calls Tryd.prog 6 #[.int .i8 x, .int .u8 (f : Int), .int .u8 (lg : Int), .int .u8 (op : Int), .int .u16 (pa : Int), .int .u16 (di : Int)] w fun e w' => e = .returned (.bool true) ∧ Below w.heap.size w w' := by
  have hm : (f : Int) % 12 = 6 := by omega
  clear hf
  go_enter Tryd.func6, Tryd.ntmps6
  go_upto_if 23 with fail
  go_cut [13] (fun s13 wx => EdgeN x s13 w wx)
  case first =>
    go_wp2_with fail
    · go_meet
      exact ⟨_, rfl, (edge_m x).1, (edge_m x).2, rfl⟩
    · go_meet
      exact ⟨_, rfl, (edge_n x).1, (edge_n x).2, rfl⟩
  case rest =>
    obtain ⟨z, rfl, z0, z1, rfl⟩ := hcut
    go_wp2_with fail
    have HW := Lib.hid (awake35_calls ((w.alloc (.cells #[.int .i64 0, .int .i64 0, .int .i64 0, .int .i64 0, .int .i64 0, .int .i64 0, .bool false, .string ⟨#[]⟩, .string ⟨#[]⟩, .bool false, .string ⟨#[]⟩, .string ⟨#[]⟩, .slice (none) 0 0, .slice (none) 0 0, .slice (some ⟨w.heap.size + 1, 0, none⟩) 1 1] 37)).alloc (.cells #[.int .i64 z, .int .i64 0, .int .i64 0, .int .i64 0] 55)))
    have HR0 : Hid (RecS w.heap.size 0 0 0 0 0 0 false ⟨#[]⟩ ⟨#[]⟩ false ⟨#[]⟩ ⟨#[]⟩ none 0 0 none 0 0 (some ⟨w.heap.size + 1, 0, none⟩) 1 1 ((w.alloc (.cells #[.int .i64 0, .int .i64 0, .int .i64 0, .int .i64 0, .int .i64 0, .int .i64 0, .bool false, .string ⟨#[]⟩, .string ⟨#[]⟩, .bool false, .string ⟨#[]⟩, .string ⟨#[]⟩, .slice (none) 0 0, .slice (none) 0 0, .slice (some ⟨w.heap.size + 1, 0, none⟩) 1 1] 37)).alloc (.cells #[.int .i64 z, .int .i64 0, .int .i64 0, .int .i64 0] 55))) := blk_alloc (blk_new _ _)
    have HB0 : Hid (Below w.heap.size w ((w.alloc (.cells #[.int .i64 0, .int .i64 0, .int .i64 0, .int .i64 0, .int .i64 0, .int .i64 0, .bool false, .string ⟨#[]⟩, .string ⟨#[]⟩, .bool false, .string ⟨#[]⟩, .string ⟨#[]⟩, .slice (none) 0 0, .slice (none) 0 0, .slice (some ⟨w.heap.size + 1, 0, none⟩) 1 1] 37)).alloc (.cells #[.int .i64 z, .int .i64 0, .int .i64 0, .int .i64 0] 55))) := (bel_alloc _ _).alloc (by simp) _
    have HL0 : Hid (((w.alloc (.cells #[.int .i64 0, .int .i64 0, .int .i64 0, .int .i64 0, .int .i64 0, .int .i64 0, .bool false, .string ⟨#[]⟩, .string ⟨#[]⟩, .bool false, .string ⟨#[]⟩, .string ⟨#[]⟩, .slice (none) 0 0, .slice (none) 0 0, .slice (some ⟨w.heap.size + 1, 0, none⟩) 1 1] 37)).alloc (.cells #[.int .i64 z, .int .i64 0, .int .i64 0, .int .i64 0] 55)).heap[w.heap.size + 1]? = some (.cells #[.int .i64 z, .int .i64 0, .int .i64 0, .int .i64 0] 55 (0, 0))) := by have := blk_new (w.alloc (.cells #[.int .i64 0, .int .i64 0, .int .i64 0, .int .i64 0, .int .i64 0, .int .i64 0, .bool false, .string ⟨#[]⟩, .string ⟨#[]⟩, .bool false, .string ⟨#[]⟩, .string ⟨#[]⟩, .slice (none) 0 0, .slice (none) 0 0, .slice (some ⟨w.heap.size + 1, 0, none⟩) 1 1] 37)) (.cells #[.int .i64 z, .int .i64 0, .int .i64 0, .int .i64 0] 55); rwa [World.size_alloc] at this
    refine HW.out.mono ?_
    rintro e w1 ⟨rfl, hb⟩
    have HR : Hid (RecS w.heap.size 0 0 0 0 0 0 false ⟨#[]⟩ ⟨#[]⟩ false ⟨#[]⟩ ⟨#[]⟩ none 0 0 none 0 0 (some ⟨w.heap.size + 1, 0, none⟩) 1 1 w1) := RecS.below 0 0 0 0 0 0 false ⟨#[]⟩ ⟨#[]⟩ false ⟨#[]⟩ ⟨#[]⟩ none 0 0 none 0 0 (some ⟨w.heap.size + 1, 0, none⟩) 1 1 HR0.out hb
    have HL : Hid (w1.heap[w.heap.size + 1]? = some (.cells #[.int .i64 z, .int .i64 0, .int .i64 0, .int .i64 0] 55 (0, 0))) := blk_next HL0.out hb
    have HB : Hid (Below w.heap.size w w1) := HB0.out.trans (hb.mono HB0.out.size)
    clear hb HW HR0 HB0 HL0
    have HF := Lib.hid (same_calls 0 0 0 0 0 0 false ⟨#[]⟩ ⟨#[]⟩ false ⟨#[]⟩ ⟨#[]⟩ none 0 0 none 0 0 (some ⟨w.heap.size + 1, 0, none⟩) 1 1 [] [] [⟨z, 0, 0, 0⟩] w1 (fit_edge 0 0 0 0 0 0 ⟨#[]⟩ (none) 0 0 (none) 0 0 (some ⟨w.heap.size + 1, 0, none⟩) 1 1 [] [] [⟨z, 0, 0, 0⟩] w1 zero_edge zero_edge zero_edge zero_edge zero_edge zero_edge (by decide) rfl rfl rfl Rd.nil no_mem Rd.nil no_mem (rd_block HL.out rfl rfl) (mem_one ⟨(i64b_edge ⟨z0, z1⟩), (i64b_edge zero_edge), (i64b_edge zero_edge), (i64b_edge zero_edge)⟩) (by omega) (by omega) (by omega)))
    obtain ⟨k0, k1, k2, k3, k4, k5, k6, k7, k8, k9, k10, k11, k12, k13, k14⟩ := RecS.cells 0 0 0 0 0 0 false ⟨#[]⟩ ⟨#[]⟩ false ⟨#[]⟩ ⟨#[]⟩ none 0 0 none 0 0 (some ⟨w.heap.size + 1, 0, none⟩) 1 1 HR.out
    go_wp2_with fail
    clear k0 k1 k2 k3 k4 k5 k6 k7 k8 k9 k10 k11 k12 k13 k14
    refine HF.out.mono ?_
    rintro e w2 ⟨rfl, hb⟩
    have HB2 : Hid (Below w.heap.size w w2) := HB.out.trans (hb.mono HB.out.size)
    clear hb HF
    go_wp2_with fail
    go_ret
    exact ⟨rfl, HB2.out⟩

set_option maxHeartbeats 4000000 in
set_option maxRecDepth 100000 in
theorem edges_7 (x : Int) (f lg op pa di : Nat) (w : World) (x0 : -128 ≤ x) (x1 : x ≤ 127) (hf : f % 12 = 7) (hf2 : f ≤ 255) (hlg : lg ≤ 255) (hop : op ≤ 255) (hpa : pa ≤ 65535) (hdi : di ≤ 65535) :
    Calls Tryd.prog 6 #[.int .i8 x, .int .u8 (f : Int), .int .u8 (lg : Int), .int .u8 (op : Int), .int .u16 (pa : Int), .int .u16 (di : Int)] w fun e w' => e = .returned (.bool true) ∧ Below w.heap.size w w' := by
  have hm : (f : Int) % 12 = 7 := by omega
  clear hf
  obtain ⟨m, hm_⟩ : ∃ m, m = lg % 12 := ⟨_, rfl⟩
  have hmi : (lg : Int) % 12 = (m : Int) := by omega
  have hml : m ≤ 11 := by omega
  have hmk := make_legs m (by omega)
  clear hm_
  go_enter Tryd.func6, Tryd.ntmps6
  go_upto_if 23 with fail
  go_cut [13] (fun s13 wx => EdgeN x s13 w wx)
  case first =>
    go_wp2_with fail
    · go_meet
      exact ⟨_, rfl, (edge_m x).1, (edge_m x).2, rfl⟩
    · go_meet
      exact ⟨_, rfl, (edge_n x).1, (edge_n x).2, rfl⟩
  case rest =>
    obtain ⟨z, rfl, z0, z1, rfl⟩ := hcut
    go_wp2_with fail
    have HW := Lib.hid (awake35_calls ((w.alloc (.cells #[.int .i64 0, .int .i64 0, .int .i64 0, .int .i64 0, .int .i64 0, .int .i64 0, .bool false, .string ⟨#[]⟩, .string ⟨#[]⟩, .bool false, .string ⟨#[]⟩, .string ⟨#[]⟩, .slice (some ⟨w.heap.size + 1, 0, none⟩) m m, .slice (none) 0 0, .slice (none) 0 0] 37)).alloc (.cells (madeCells (legV leg0).toArray (m * 2)) 49)))
    have HR0 : Hid (RecS w.heap.size 0 0 0 0 0 0 false ⟨#[]⟩ ⟨#[]⟩ false ⟨#[]⟩ ⟨#[]⟩ (some ⟨w.heap.size + 1, 0, none⟩) m m none 0 0 none 0 0 ((w.alloc (.cells #[.int .i64 0, .int .i64 0, .int .i64 0, .int .i64 0, .int .i64 0, .int .i64 0, .bool false, .string ⟨#[]⟩, .string ⟨#[]⟩, .bool false, .string ⟨#[]⟩, .string ⟨#[]⟩, .slice (some ⟨w.heap.size + 1, 0, none⟩) m m, .slice (none) 0 0, .slice (none) 0 0] 37)).alloc (.cells (madeCells (legV leg0).toArray (m * 2)) 49))) := blk_alloc (blk_new _ _)
    have HB0 : Hid (Below w.heap.size w ((w.alloc (.cells #[.int .i64 0, .int .i64 0, .int .i64 0, .int .i64 0, .int .i64 0, .int .i64 0, .bool false, .string ⟨#[]⟩, .string ⟨#[]⟩, .bool false, .string ⟨#[]⟩, .string ⟨#[]⟩, .slice (some ⟨w.heap.size + 1, 0, none⟩) m m, .slice (none) 0 0, .slice (none) 0 0] 37)).alloc (.cells (madeCells (legV leg0).toArray (m * 2)) 49))) := (bel_alloc _ _).alloc (by simp) _
    have HL0 : Hid (((w.alloc (.cells #[.int .i64 0, .int .i64 0, .int .i64 0, .int .i64 0, .int .i64 0, .int .i64 0, .bool false, .string ⟨#[]⟩, .string ⟨#[]⟩, .bool false, .string ⟨#[]⟩, .string ⟨#[]⟩, .slice (some ⟨w.heap.size + 1, 0, none⟩) m m, .slice (none) 0 0, .slice (none) 0 0] 37)).alloc (.cells (madeCells (legV leg0).toArray (m * 2)) 49)).heap[w.heap.size + 1]? = some (.cells (madeCells (legV leg0).toArray (m * 2)) 49 (0, 0))) := by have := blk_new (w.alloc (.cells #[.int .i64 0, .int .i64 0, .int .i64 0, .int .i64 0, .int .i64 0, .int .i64 0, .bool false, .string ⟨#[]⟩, .string ⟨#[]⟩, .bool false, .string ⟨#[]⟩, .string ⟨#[]⟩, .slice (some ⟨w.heap.size + 1, 0, none⟩) m m, .slice (none) 0 0, .slice (none) 0 0] 37)) (.cells (madeCells (legV leg0).toArray (m * 2)) 49); rwa [World.size_alloc] at this
    refine HW.out.mono ?_
    rintro e w1 ⟨rfl, hb⟩
    have HR : Hid (RecS w.heap.size 0 0 0 0 0 0 false ⟨#[]⟩ ⟨#[]⟩ false ⟨#[]⟩ ⟨#[]⟩ (some ⟨w.heap.size + 1, 0, none⟩) m m none 0 0 none 0 0 w1) := RecS.below 0 0 0 0 0 0 false ⟨#[]⟩ ⟨#[]⟩ false ⟨#[]⟩ ⟨#[]⟩ (some ⟨w.heap.size + 1, 0, none⟩) m m none 0 0 none 0 0 HR0.out hb
    have HL : Hid (w1.heap[w.heap.size + 1]? = some (.cells (madeCells (legV leg0).toArray (m * 2)) 49 (0, 0))) := blk_next HL0.out hb
    have HB : Hid (Below w.heap.size w w1) := HB0.out.trans (hb.mono HB0.out.size)
    clear hb HW HR0 HB0 HL0 hmk
    have HF := Lib.hid (same_calls 0 0 0 0 0 0 false ⟨#[]⟩ ⟨#[]⟩ false ⟨#[]⟩ ⟨#[]⟩ (some ⟨w.heap.size + 1, 0, none⟩) m m none 0 0 none 0 0 (List.replicate m leg0) [] [] w1 (fit_edge 0 0 0 0 0 0 ⟨#[]⟩ (some ⟨w.heap.size + 1, 0, none⟩) m m (none) 0 0 (none) 0 0 (List.replicate m leg0) [] [] w1 zero_edge zero_edge zero_edge zero_edge zero_edge zero_edge (by decide) (by simp) rfl rfl (by rw [List.length_replicate]; exact rd_block HL.out (made_flat legV 2 (fun _ => rfl) (by decide) leg0 m) (by rw [flat_len legV 2 (fun _ => rfl), List.length_replicate])) (mem_rep ⟨(i64b_edge zero_edge), (i64b_edge zero_edge)⟩) Rd.nil no_mem Rd.nil no_mem (by omega) (by omega) (by omega)))
    obtain ⟨k0, k1, k2, k3, k4, k5, k6, k7, k8, k9, k10, k11, k12, k13, k14⟩ := RecS.cells 0 0 0 0 0 0 false ⟨#[]⟩ ⟨#[]⟩ false ⟨#[]⟩ ⟨#[]⟩ (some ⟨w.heap.size + 1, 0, none⟩) m m none 0 0 none 0 0 HR.out
    go_wp2_with fail
    clear k0 k1 k2 k3 k4 k5 k6 k7 k8 k9 k10 k11 k12 k13 k14
    refine HF.out.mono ?_
    rintro e w2 ⟨rfl, hb⟩
    have HB2 : Hid (Below w.heap.size w w2) := HB.out.trans (hb.mono HB.out.size)
    clear hb HF
    go_wp2_with fail
    go_ret
    exact ⟨rfl, HB2.out⟩

end Go.Proofs.YtcljkdjmmolfoaaDoor

/- insolvencylaw35.CodecEdges, further fields. -/
import Derived.Test.YtcljkdjmmolfoaaDoorEdge0
set_option linter.unusedVariables false
set_option linter.unusedSimpArgs false
namespace Go.Proofs.YtcljkdjmmolfoaaDoor
open Go.RowKit

set_option maxHeartbeats 4000000 in
set_option maxRecDepth 100000 in
theorem edges_8 (x : Int) (f lg op pa di : Nat) (w : World) (x0 : -128 ≤ x) (x1 : x ≤ 127) (hf : f % 12 = 8) (hf2 : f ≤ 255) (hlg : lg ≤ 255) (hop : op ≤ 255) (hpa : pa ≤ 65535) (hdi : di ≤ 65535) :
    Calls Tryd.prog 6 #[.int .i8 x, .int .u8 (f : Int), .int .u8 (lg : Int), .int .u8 (op : Int), .int .u16 (pa : Int), .int .u16 (di : Int)] w fun e w' => e = .returned (.bool true) ∧ Below w.heap.size w w' := by
  have hm : (f : Int) % 12 = 8 := by omega
  clear hf
  obtain ⟨m, hm_⟩ : ∃ m, m = op % 8 := ⟨_, rfl⟩
  have hmi : (op : Int) % 8 = (m : Int) := by omega
  have hml : m ≤ 7 := by omega
  have hmk := make_opts m (by omega)
  clear hm_
  go_enter Tryd.func6, Tryd.ntmps6
  go_upto_if 23 with fail
  go_cut [13] (fun s13 wx => EdgeN x s13 w wx)
  case first =>
    go_wp2_with fail
    · go_meet
      exact ⟨_, rfl, (edge_m x).1, (edge_m x).2, rfl⟩
    · go_meet
      exact ⟨_, rfl, (edge_n x).1, (edge_n x).2, rfl⟩
  case rest =>
    obtain ⟨z, rfl, z0, z1, rfl⟩ := hcut
    go_wp2_with fail
    have HW := Lib.hid (awake35_calls ((w.alloc (.cells #[.int .i64 0, .int .i64 0, .int .i64 0, .int .i64 0, .int .i64 0, .int .i64 0, .bool false, .string ⟨#[]⟩, .string ⟨#[]⟩, .bool false, .string ⟨#[]⟩, .string ⟨#[]⟩, .slice (none) 0 0, .slice (some ⟨w.heap.size + 1, 0, none⟩) m m, .slice (none) 0 0] 37)).alloc (.cells (madeCells (optV opt0).toArray (m * 4)) 51)))
    have HR0 : Hid (RecS w.heap.size 0 0 0 0 0 0 false ⟨#[]⟩ ⟨#[]⟩ false ⟨#[]⟩ ⟨#[]⟩ none 0 0 (some ⟨w.heap.size + 1, 0, none⟩) m m none 0 0 ((w.alloc (.cells #[.int .i64 0, .int .i64 0, .int .i64 0, .int .i64 0, .int .i64 0, .int .i64 0, .bool false, .string ⟨#[]⟩, .string ⟨#[]⟩, .bool false, .string ⟨#[]⟩, .string ⟨#[]⟩, .slice (none) 0 0, .slice (some ⟨w.heap.size + 1, 0, none⟩) m m, .slice (none) 0 0] 37)).alloc (.cells (madeCells (optV opt0).toArray (m * 4)) 51))) := blk_alloc (blk_new _ _)
    have HB0 : Hid (Below w.heap.size w ((w.alloc (.cells #[.int .i64 0, .int .i64 0, .int .i64 0, .int .i64 0, .int .i64 0, .int .i64 0, .bool false, .string ⟨#[]⟩, .string ⟨#[]⟩, .bool false, .string ⟨#[]⟩, .string ⟨#[]⟩, .slice (none) 0 0, .slice (some ⟨w.heap.size + 1, 0, none⟩) m m, .slice (none) 0 0] 37)).alloc (.cells (madeCells (optV opt0).toArray (m * 4)) 51))) := (bel_alloc _ _).alloc (by simp) _
    have HL0 : Hid (((w.alloc (.cells #[.int .i64 0, .int .i64 0, .int .i64 0, .int .i64 0, .int .i64 0, .int .i64 0, .bool false, .string ⟨#[]⟩, .string ⟨#[]⟩, .bool false, .string ⟨#[]⟩, .string ⟨#[]⟩, .slice (none) 0 0, .slice (some ⟨w.heap.size + 1, 0, none⟩) m m, .slice (none) 0 0] 37)).alloc (.cells (madeCells (optV opt0).toArray (m * 4)) 51)).heap[w.heap.size + 1]? = some (.cells (madeCells (optV opt0).toArray (m * 4)) 51 (0, 0))) := by have := blk_new (w.alloc (.cells #[.int .i64 0, .int .i64 0, .int .i64 0, .int .i64 0, .int .i64 0, .int .i64 0, .bool false, .string ⟨#[]⟩, .string ⟨#[]⟩, .bool false, .string ⟨#[]⟩, .string ⟨#[]⟩, .slice (none) 0 0, .slice (some ⟨w.heap.size + 1, 0, none⟩) m m, .slice (none) 0 0] 37)) (.cells (madeCells (optV opt0).toArray (m * 4)) 51); rwa [World.size_alloc] at this
    refine HW.out.mono ?_
    rintro e w1 ⟨rfl, hb⟩
    have HR : Hid (RecS w.heap.size 0 0 0 0 0 0 false ⟨#[]⟩ ⟨#[]⟩ false ⟨#[]⟩ ⟨#[]⟩ none 0 0 (some ⟨w.heap.size + 1, 0, none⟩) m m none 0 0 w1) := RecS.below 0 0 0 0 0 0 false ⟨#[]⟩ ⟨#[]⟩ false ⟨#[]⟩ ⟨#[]⟩ none 0 0 (some ⟨w.heap.size + 1, 0, none⟩) m m none 0 0 HR0.out hb
    have HL : Hid (w1.heap[w.heap.size + 1]? = some (.cells (madeCells (optV opt0).toArray (m * 4)) 51 (0, 0))) := blk_next HL0.out hb
    have HB : Hid (Below w.heap.size w w1) := HB0.out.trans (hb.mono HB0.out.size)
    clear hb HW HR0 HB0 HL0 hmk
    have HF := Lib.hid (same_calls 0 0 0 0 0 0 false ⟨#[]⟩ ⟨#[]⟩ false ⟨#[]⟩ ⟨#[]⟩ none 0 0 (some ⟨w.heap.size + 1, 0, none⟩) m m none 0 0 [] (List.replicate m opt0) [] w1 (fit_edge 0 0 0 0 0 0 ⟨#[]⟩ (none) 0 0 (some ⟨w.heap.size + 1, 0, none⟩) m m (none) 0 0 [] (List.replicate m opt0) [] w1 zero_edge zero_edge zero_edge zero_edge zero_edge zero_edge (by decide) rfl (by simp) rfl Rd.nil no_mem (by rw [List.length_replicate]; exact rd_block HL.out (made_flat optV 4 (fun _ => rfl) (by decide) opt0 m) (by rw [flat_len optV 4 (fun _ => rfl), List.length_replicate])) (mem_rep ⟨⟨by decide, by decide⟩, (i64b_edge zero_edge)⟩) Rd.nil no_mem (by omega) (by omega) (by omega)))
    obtain ⟨k0, k1, k2, k3, k4, k5, k6, k7, k8, k9, k10, k11, k12, k13, k14⟩ := RecS.cells 0 0 0 0 0 0 false ⟨#[]⟩ ⟨#[]⟩ false ⟨#[]⟩ ⟨#[]⟩ none 0 0 (some ⟨w.heap.size + 1, 0, none⟩) m m none 0 0 HR.out
    go_wp2_with fail
    clear k0 k1 k2 k3 k4 k5 k6 k7 k8 k9 k10 k11 k12 k13 k14
    refine HF.out.mono ?_
    rintro e w2 ⟨rfl, hb⟩
    have HB2 : Hid (Below w.heap.size w w2) := HB.out.trans (hb.mono HB.out.size)
    clear hb HF
    go_wp2_with fail
    go_ret
    exact ⟨rfl, HB2.out⟩

set_option maxHeartbeats 4000000 in
set_option maxRecDepth 100000 in
theorem edges_9 (x : Int) (f lg op pa di : Nat) (w : World) (x0 : -128 ≤ x) (x1 : x ≤ 127) (hf : f % 12 = 9) (hf2 : f ≤ 255) (hlg : lg ≤ 255) (hop : op ≤ 255) (hpa : pa ≤ 65535) (hdi : di ≤ 65535) :
    Calls Tryd.prog 6 #[.int .i8 x, .int .u8 (f : Int), .int .u8 (lg : Int), .int .u8 (op : Int), .int .u16 (pa : Int), .int .u16 (di : Int)] w fun e w' => e = .returned (.bool true) ∧ Below w.heap.size w w' := by
  have hm : (f : Int) % 12 = 9 := by omega
  clear hf
  obtain ⟨m, hm_⟩ : ∃ m, m = pa % 300 := ⟨_, rfl⟩
  have hmi : (pa : Int) % 300 = (m : Int) := by omega
  have hml : m ≤ 299 := by omega
  have hmk := make_pays m (by omega)
  clear hm_
  go_enter Tryd.func6, Tryd.ntmps6
  go_upto_if 23 with fail
  go_cut [13] (fun s13 wx => EdgeN x s13 w wx)
  case first =>
    go_wp2_with fail
    · go_meet
      exact ⟨_, rfl, (edge_m x).1, (edge_m x).2, rfl⟩
    · go_meet
      exact ⟨_, rfl, (edge_n x).1, (edge_n x).2, rfl⟩
  case rest =>
    obtain ⟨z, rfl, z0, z1, rfl⟩ := hcut
    go_wp2_with fail
    have HW := Lib.hid (awake35_calls ((w.alloc (.cells #[.int .i64 0, .int .i64 0, .int .i64 0, .int .i64 0, .int .i64 0, .int .i64 0, .bool false, .string ⟨#[]⟩, .string ⟨#[]⟩, .bool false, .string ⟨#[]⟩, .string ⟨#[]⟩, .slice (none) 0 0, .slice (none) 0 0, .slice (some ⟨w.heap.size + 1, 0, none⟩) m m] 37)).alloc (.cells (madeCells (payV pay0).toArray (m * 4)) 55)))
    have HR0 : Hid (RecS w.heap.size 0 0 0 0 0 0 false ⟨#[]⟩ ⟨#[]⟩ false ⟨#[]⟩ ⟨#[]⟩ none 0 0 none 0 0 (some ⟨w.heap.size + 1, 0, none⟩) m m ((w.alloc (.cells #[.int .i64 0, .int .i64 0, .int .i64 0, .int .i64 0, .int .i64 0, .int .i64 0, .bool false, .string ⟨#[]⟩, .string ⟨#[]⟩, .bool false, .string ⟨#[]⟩, .string ⟨#[]⟩, .slice (none) 0 0, .slice (none) 0 0, .slice (some ⟨w.heap.size + 1, 0, none⟩) m m] 37)).alloc (.cells (madeCells (payV pay0).toArray (m * 4)) 55))) := blk_alloc (blk_new _ _)
    have HB0 : Hid (Below w.heap.size w ((w.alloc (.cells #[.int .i64 0, .int .i64 0, .int .i64 0, .int .i64 0, .int .i64 0, .int .i64 0, .bool false, .string ⟨#[]⟩, .string ⟨#[]⟩, .bool false, .string ⟨#[]⟩, .string ⟨#[]⟩, .slice (none) 0 0, .slice (none) 0 0, .slice (some ⟨w.heap.size + 1, 0, none⟩) m m] 37)).alloc (.cells (madeCells (payV pay0).toArray (m * 4)) 55))) := (bel_alloc _ _).alloc (by simp) _
    have HL0 : Hid (((w.alloc (.cells #[.int .i64 0, .int .i64 0, .int .i64 0, .int .i64 0, .int .i64 0, .int .i64 0, .bool false, .string ⟨#[]⟩, .string ⟨#[]⟩, .bool false, .string ⟨#[]⟩, .string ⟨#[]⟩, .slice (none) 0 0, .slice (none) 0 0, .slice (some ⟨w.heap.size + 1, 0, none⟩) m m] 37)).alloc (.cells (madeCells (payV pay0).toArray (m * 4)) 55)).heap[w.heap.size + 1]? = some (.cells (madeCells (payV pay0).toArray (m * 4)) 55 (0, 0))) := by have := blk_new (w.alloc (.cells #[.int .i64 0, .int .i64 0, .int .i64 0, .int .i64 0, .int .i64 0, .int .i64 0, .bool false, .string ⟨#[]⟩, .string ⟨#[]⟩, .bool false, .string ⟨#[]⟩, .string ⟨#[]⟩, .slice (none) 0 0, .slice (none) 0 0, .slice (some ⟨w.heap.size + 1, 0, none⟩) m m] 37)) (.cells (madeCells (payV pay0).toArray (m * 4)) 55); rwa [World.size_alloc] at this
    refine HW.out.mono ?_
    rintro e w1 ⟨rfl, hb⟩
    have HR : Hid (RecS w.heap.size 0 0 0 0 0 0 false ⟨#[]⟩ ⟨#[]⟩ false ⟨#[]⟩ ⟨#[]⟩ none 0 0 none 0 0 (some ⟨w.heap.size + 1, 0, none⟩) m m w1) := RecS.below 0 0 0 0 0 0 false ⟨#[]⟩ ⟨#[]⟩ false ⟨#[]⟩ ⟨#[]⟩ none 0 0 none 0 0 (some ⟨w.heap.size + 1, 0, none⟩) m m HR0.out hb
    have HL : Hid (w1.heap[w.heap.size + 1]? = some (.cells (madeCells (payV pay0).toArray (m * 4)) 55 (0, 0))) := blk_next HL0.out hb
    have HB : Hid (Below w.heap.size w w1) := HB0.out.trans (hb.mono HB0.out.size)
    clear hb HW HR0 HB0 HL0 hmk
    have HF := Lib.hid (same_calls 0 0 0 0 0 0 false ⟨#[]⟩ ⟨#[]⟩ false ⟨#[]⟩ ⟨#[]⟩ none 0 0 none 0 0 (some ⟨w.heap.size + 1, 0, none⟩) m m [] [] (List.replicate m pay0) w1 (fit_edge 0 0 0 0 0 0 ⟨#[]⟩ (none) 0 0 (none) 0 0 (some ⟨w.heap.size + 1, 0, none⟩) m m [] [] (List.replicate m pay0) w1 zero_edge zero_edge zero_edge zero_edge zero_edge zero_edge (by decide) rfl rfl (by simp) Rd.nil no_mem Rd.nil no_mem (by rw [List.length_replicate]; exact rd_block HL.out (made_flat payV 4 (fun _ => rfl) (by decide) pay0 m) (by rw [flat_len payV 4 (fun _ => rfl), List.length_replicate])) (mem_rep ⟨(i64b_edge zero_edge), (i64b_edge zero_edge), (i64b_edge zero_edge), (i64b_edge zero_edge)⟩) (by omega) (by omega) (by omega)))
    obtain ⟨k0, k1, k2, k3, k4, k5, k6, k7, k8, k9, k10, k11, k12, k13, k14⟩ := RecS.cells 0 0 0 0 0 0 false ⟨#[]⟩ ⟨#[]⟩ false ⟨#[]⟩ ⟨#[]⟩ none 0 0 none 0 0 (some ⟨w.heap.size + 1, 0, none⟩) m m HR.out
    go_wp2_with fail
    clear k0 k1 k2 k3 k4 k5 k6 k7 k8 k9 k10 k11 k12 k13 k14
    refine HF.out.mono ?_
    rintro e w2 ⟨rfl, hb⟩
    have HB2 : Hid (Below w.heap.size w w2) := HB.out.trans (hb.mono HB.out.size)
    clear hb HF
    go_wp2_with fail
    go_ret
    exact ⟨rfl, HB2.out⟩

theorem sv_step {v m k : Nat} {xs : List Nat} (hl : xs.length = m) (hk : k < m) (hp : ∀ j, j < k → xs.getD j 0 = v) :
    (xs.set k v).length = m ∧ ∀ j, j < k + 1 → (xs.set k v).getD j 0 = v := by
  refine ⟨by simp [hl], fun j hj => ?_⟩
  by_cases e : j = k
  · subst e; simp [List.getD, List.getElem?_set, hl, hk]
  · have h1 := hp j (by omega)
    simp only [List.getD, List.getElem?_set, if_neg (Ne.symm e)] at h1 ⊢
    exact h1
theorem sv_end {v m : Nat} {xs : List Nat} (hl : xs.length = m) (hp : ∀ j, j < m → xs.getD j 0 = v) : xs = List.replicate m v := by
  apply List.ext_getElem
  · simp [hl]
  · intro i h1 h2
    have := hp i (by omega)
    simp only [List.getD, List.getElem?_eq_getElem h1, Option.getD_some] at this
    rw [this]; simp
def Rec0 (q : Nat) (W : World) : Prop := W.heap[q]? = some (.cells #[.int .i64 0, .int .i64 0, .int .i64 0, .int .i64 0, .int .i64 0, .int .i64 0, .bool false, .string ⟨#[]⟩, .string ⟨#[]⟩, .bool false, .string ⟨#[]⟩, .string ⟨#[]⟩, .slice (none) 0 0, .slice (none) 0 0, .slice (none) 0 0] 37 (0, 0))

set_option maxHeartbeats 4000000 in
set_option maxRecDepth 100000 in
theorem edges_10 (x : Int) (f lg op pa di : Nat) (w : World) (x0 : -128 ≤ x) (x1 : x ≤ 127) (hf : f % 12 = 10) (hf2 : f ≤ 255) (hlg : lg ≤ 255) (hop : op ≤ 255) (hpa : pa ≤ 65535) (hdi : di ≤ 65535) :
    Calls Tryd.prog 6 #[.int .i8 x, .int .u8 (f : Int), .int .u8 (lg : Int), .int .u8 (op : Int), .int .u16 (pa : Int), .int .u16 (di : Int)] w fun e w' => e = .returned (.bool true) ∧ Below w.heap.size w w' := by
  have hm : (f : Int) % 12 = 10 := by omega
  clear hf
  obtain ⟨d, hd⟩ : ∃ d, d = di % 50 := ⟨_, rfl⟩
  have hdm : (di : Int) % 50 = (d : Int) := by omega
  obtain ⟨m, hme⟩ : ∃ m, m = 4060 + d := ⟨_, rfl⟩
  have hms : (4060 : Int) + (d : Int) = (m : Int) := by omega
  have hml : m ≤ 4110 := by omega
  have hdl : d < 50 := by omega
  have hmk := run_make_row' (P := Tryd.prog) 22 5 (.int .u8 0) 1 Tryd.underlying22 Tryd.info_u8 rfl .i64 .i64 m (by omega) (by omega)
  clear hd hme
  go_enter Tryd.func6, Tryd.ntmps6
  go_upto_if 23 with fail
  go_cut [13] (fun s13 wx => EdgeN x s13 w wx)
  case first =>
    go_wp2_with fail
    · go_meet
      exact ⟨_, rfl, (edge_m x).1, (edge_m x).2, rfl⟩
    · go_meet
      exact ⟨_, rfl, (edge_n x).1, (edge_n x).2, rfl⟩
  case rest =>
    obtain ⟨z, rfl, z0, z1, rfl⟩ := hcut
    obtain ⟨q, hq⟩ : ∃ q, q = w.heap.size + 1 := ⟨_, rfl⟩
    go_wp2_with fail
    rw [← hq]
    go_loopw [103] (fun i wr => ∃ (k : Nat) (xs : List Nat), k ≤ m ∧ i = .int .i64 (k : Int) ∧ Hid (KRow .u8 5 wr q xs) ∧ Hid (xs.length = m ∧ ∀ j, j < k → xs.getD j 0 = 7) ∧ Hid (Below w.heap.size w wr) ∧ Hid (Rec0 w.heap.size wr)) (fun i wr => m - (intOf i).toNat)
    case atStart => exact ⟨0, List.replicate m 0, Nat.zero_le _, rfl, KRow.made _ _ _ (by rw [hq, World.size_alloc]), ⟨by simp, fun j hj => by omega⟩, (bel_alloc _ _).alloc (by simp) _, blk_alloc (blk_new _ _)⟩
    case round =>
      obtain ⟨k, xs, hk, rfl, HROW, HX, HBEL, HREC⟩ := hrel
      by_cases hlt : k < m
      · have HS := Lib.hid (sv_step HX.out.1 hlt HX.out.2)
        have hfr := HROW.out.frozen k
        have hc := HROW.out.getD (j := k) (by rw [HX.out.1]; exact hlt)
        obtain ⟨old, hold⟩ : ∃ old, old = xs.getD k 0 := ⟨_, rfl⟩
        rw [← hold] at hc
        have hsz := HROW.out.lt
        have HQ := Lib.hid hq
        clear hold hmk hq
        go_wp2_with fail
        go_roundw
        case measure => simp [intOf]; omega
        case rel => exact ⟨k + 1, _, by omega, by go_num, HROW.out.setI k 7 rfl rfl, HS.out, HBEL.out.setCell (by rw [HQ.out]; simp) _, by
          show Rec0 _ _
          unfold Rec0
          rw [heap_setCell_other _ _ _ _ (by rw [HQ.out]; simp)]
          exact HREC.out⟩
      · obtain rfl : k = m := by omega
        have hxe := sv_end HX.out.1 HX.out.2
        have hrow := HROW.out
        rw [hxe] at hrow
        have hcv := conv_bytes (P := Tryd.prog) wr wr.heap.size 22 9 5 (some ⟨q, 0, none⟩) (List.replicate k 7) k Tryd.underlying22 Tryd.underlying5 Tryd.underlying9 hrow.rd (by intro x hx; rw [(List.mem_replicate.1 hx).2]; omega)
        rw [List.length_replicate] at hcv
        have hsz : (nstr (List.replicate k 7)).size ≤ 5000 := by rw [nstr_size, List.length_replicate]; omega
        obtain ⟨s, hs⟩ : ∃ s, s = nstr (List.replicate k 7) := ⟨_, rfl⟩
        rw [← hs] at hcv hsz
        have h7 : wr.cell? ⟨w.heap.size, 7, none⟩ = some (.string ⟨#[]⟩) := by rw [cell_of_row wr _ 7 _ _ (0, 0) HREC.out]; rfl
        have f7 : wr.frozen? ⟨w.heap.size, 7, none⟩ = false := frozen_of_row wr _ 7 _ _ HREC.out
        have l7 : w.heap.size < wr.heap.size := (Array.getElem?_eq_some_iff.1 HREC.out).1
        have HQ := Lib.hid hq
        clear hs hmk hq hxe hrow HROW HX
        go_wp2_with fail
        have HR0 : Hid (RecS w.heap.size 0 0 0 0 0 0 false s ⟨#[]⟩ false ⟨#[]⟩ ⟨#[]⟩ none 0 0 none 0 0 none 0 0 (wr.setCell ⟨w.heap.size, 7, none⟩ (.string s))) := heap_setCell_same wr w.heap.size 7 _ _ _ HREC.out
        have HB0 : Hid (Below w.heap.size w (wr.setCell ⟨w.heap.size, 7, none⟩ (.string s))) := HBEL.out.setCell (Nat.le_refl _) _
        clear h7 f7 hcv HREC HBEL
        refine (awake35_calls _).mono ?_
        rintro e w1 ⟨rfl, hb⟩
        have HR : Hid (RecS w.heap.size 0 0 0 0 0 0 false s ⟨#[]⟩ false ⟨#[]⟩ ⟨#[]⟩ none 0 0 none 0 0 none 0 0 w1) := RecS.below 0 0 0 0 0 0 false s ⟨#[]⟩ false ⟨#[]⟩ ⟨#[]⟩ none 0 0 none 0 0 none 0 0 HR0.out hb
        have HB : Hid (Below w.heap.size w w1) := HB0.out.trans (hb.mono HB0.out.size)
        clear hb HR0 HB0
        have HF := Lib.hid (same_calls 0 0 0 0 0 0 false s ⟨#[]⟩ false ⟨#[]⟩ ⟨#[]⟩ none 0 0 none 0 0 none 0 0 [] [] [] w1 (fit_edge 0 0 0 0 0 0 s none 0 0 none 0 0 none 0 0 [] [] [] w1 zero_edge zero_edge zero_edge zero_edge zero_edge zero_edge hsz rfl rfl rfl Rd.nil no_mem Rd.nil no_mem Rd.nil no_mem (by omega) (by omega) (by omega)))
        obtain ⟨k0, k1, k2, k3, k4, k5, k6, k7, k8, k9, k10, k11, k12, k13, k14⟩ := RecS.cells 0 0 0 0 0 0 false s ⟨#[]⟩ false ⟨#[]⟩ ⟨#[]⟩ none 0 0 none 0 0 none 0 0 HR.out
        go_wp2_with fail
        clear k0 k1 k2 k3 k4 k5 k6 k7 k8 k9 k10 k11 k12 k13 k14
        refine HF.out.mono ?_
        rintro e w2 ⟨rfl, hb⟩
        have HB2 : Hid (Below w.heap.size w w2) := HB.out.trans (hb.mono HB.out.size)
        clear hb HF
        go_wp2_with fail
        go_ret
        exact ⟨rfl, HB2.out⟩

set_option maxHeartbeats 4000000 in
set_option maxRecDepth 100000 in
theorem edges_11 (x : Int) (f lg op pa di : Nat) (w : World) (x0 : -128 ≤ x) (x1 : x ≤ 127) (hf : f % 12 = 11) (hf2 : f ≤ 255) (hlg : lg ≤ 255) (hop : op ≤ 255) (hpa : pa ≤ 65535) (hdi : di ≤ 65535) :
    Calls Tryd.prog 6 #[.int .i8 x, .int .u8 (f : Int), .int .u8 (lg : Int), .int .u8 (op : Int), .int .u16 (pa : Int), .int .u16 (di : Int)] w fun e w' => e = .returned (.bool true) ∧ Below w.heap.size w w' := by
  have hm : (f : Int) % 12 = 11 := by omega
  clear hf
  go_enter Tryd.func6, Tryd.ntmps6
  go_upto_if 23 with fail
  go_cut [13] (fun s13 wx => EdgeN x s13 w wx)
  case first =>
    go_wp2_with fail
    · go_meet
      exact ⟨_, rfl, (edge_m x).1, (edge_m x).2, rfl⟩
    · go_meet
      exact ⟨_, rfl, (edge_n x).1, (edge_n x).2, rfl⟩
  case rest =>
    obtain ⟨z, rfl, z0, z1, rfl⟩ := hcut
    go_wp2_with fail
    have HW := Lib.hid (awake35_calls (w.alloc (.cells #[.int .i64 0, .int .i64 0, .int .i64 0, .int .i64 0, .int .i64 0, .int .i64 0, .bool false, .string ⟨#[]⟩, .string ⟨#[]⟩, .bool false, .string ⟨#[]⟩, .string ⟨#[]⟩, .slice (none) 0 0, .slice (none) 0 0, .slice (none) 0 0] 37)))
    have HR0 : Hid (RecS w.heap.size 0 0 0 0 0 0 false ⟨#[]⟩ ⟨#[]⟩ false ⟨#[]⟩ ⟨#[]⟩ none 0 0 none 0 0 none 0 0 (w.alloc (.cells #[.int .i64 0, .int .i64 0, .int .i64 0, .int .i64 0, .int .i64 0, .int .i64 0, .bool false, .string ⟨#[]⟩, .string ⟨#[]⟩, .bool false, .string ⟨#[]⟩, .string ⟨#[]⟩, .slice (none) 0 0, .slice (none) 0 0, .slice (none) 0 0] 37))) := blk_new _ _
    have HB0 : Hid (Below w.heap.size w (w.alloc (.cells #[.int .i64 0, .int .i64 0, .int .i64 0, .int .i64 0, .int .i64 0, .int .i64 0, .bool false, .string ⟨#[]⟩, .string ⟨#[]⟩, .bool false, .string ⟨#[]⟩, .string ⟨#[]⟩, .slice (none) 0 0, .slice (none) 0 0, .slice (none) 0 0] 37))) := bel_alloc _ _
    refine HW.out.mono ?_
    rintro e w1 ⟨rfl, hb⟩
    have HR : Hid (RecS w.heap.size 0 0 0 0 0 0 false ⟨#[]⟩ ⟨#[]⟩ false ⟨#[]⟩ ⟨#[]⟩ none 0 0 none 0 0 none 0 0 w1) := RecS.below 0 0 0 0 0 0 false ⟨#[]⟩ ⟨#[]⟩ false ⟨#[]⟩ ⟨#[]⟩ none 0 0 none 0 0 none 0 0 HR0.out hb
    have HB : Hid (Below w.heap.size w w1) := HB0.out.trans (hb.mono HB0.out.size)
    clear hb HW HR0 HB0
    have HF := Lib.hid (same_calls 0 0 0 0 0 0 false ⟨#[]⟩ ⟨#[]⟩ false ⟨#[]⟩ ⟨#[]⟩ none 0 0 none 0 0 none 0 0 [] [] [] w1 (fit_edge 0 0 0 0 0 0 ⟨#[]⟩ (none) 0 0 (none) 0 0 (none) 0 0 [] [] [] w1 zero_edge zero_edge zero_edge zero_edge zero_edge zero_edge (by decide) rfl rfl rfl Rd.nil no_mem Rd.nil no_mem Rd.nil no_mem (by omega) (by omega) (by omega)))
    obtain ⟨k0, k1, k2, k3, k4, k5, k6, k7, k8, k9, k10, k11, k12, k13, k14⟩ := RecS.cells 0 0 0 0 0 0 false ⟨#[]⟩ ⟨#[]⟩ false ⟨#[]⟩ ⟨#[]⟩ none 0 0 none 0 0 none 0 0 HR.out
    go_wp2_with fail
    clear k0 k1 k2 k3 k4 k5 k6 k7 k8 k9 k10 k11 k12 k13 k14
    refine HF.out.mono ?_
    rintro e w2 ⟨rfl, hb⟩
    have HB2 : Hid (Below w.heap.size w w2) := HB.out.trans (hb.mono HB.out.size)
    clear hb HF
    go_wp2_with fail
    go_ret
    exact ⟨rfl, HB2.out⟩

end Go.Proofs.YtcljkdjmmolfoaaDoor

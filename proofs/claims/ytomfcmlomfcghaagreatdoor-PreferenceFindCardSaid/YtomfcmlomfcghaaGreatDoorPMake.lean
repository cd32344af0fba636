/- make([]api.Rat, n), make([]bool, n). -/
import Derived.Test.YtomfcmlomfcghaaGreatDoorPChkM
set_option linter.unusedVariables false
set_option linter.unusedSimpArgs false
namespace Go.Proofs.YtomfcmlomfcghaaGreatDoor
open Go.RowKit

theorem made_flat {α : Type} (en : α → List Value) (S : Nat) (hS : ∀ x, (en x).length = S) (h0 : 0 < S) (x : α) (n : Nat) : (madeCells (en x).toArray (n * S)).toList = (List.replicate n x).flatMap en := by
  apply List.ext_getElem?
  intro j
  by_cases hj : j < n * S
  · have hk : j / S < n := Nat.div_lt_of_lt_mul (by rw [Nat.mul_comm]; exact hj)
    have hm := Nat.mod_lt j h0
    have hjj : j / S * S + j % S = j := by rw [Nat.mul_comm]; exact Nat.div_add_mod j S
    have h1 := flat_get en S hS (List.replicate n x) (j / S) (j % S) x (by simp [hk]) hm
    rw [hjj] at h1
    rw [h1]
    have hml : j % S < (en x).length := by rw [hS]; exact hm
    simp only [madeCells, Array.getElem?_toList]
    rw [Array.getElem?_map, Array.getElem?_range, if_pos hj]
    simp only [Option.map_some, List.size_toArray, hS]
    rw [List.getElem?_eq_getElem hml]
    simp [hml]
  · have h2 := flat_len en S hS (List.replicate n x)
    rw [List.length_replicate] at h2
    rw [List.getElem?_eq_none (by rw [Array.length_toList, size_madeCells]; omega), List.getElem?_eq_none (by rw [h2]; omega)]

theorem Tryz.info_rat3 : (Tryz.prog.info? 70).map (fun i => (i.zero, i.size, i.bytes)) = some (some (.agg #[.bool false, .string ⟨#[]⟩, .string ⟨#[]⟩]), 3, 40) := by kernel_rfl
theorem Tryz.info_bool1 : (Tryz.prog.info? 4).map (fun i => (i.zero, i.size, i.bytes)) = some (some (.bool false), 1, 1) := by kernel_rfl
def zc3 : List Value := [.bool false, .string ⟨#[]⟩, .string ⟨#[]⟩]
theorem ratCells_zero : ratCells 0 = zc3 := by rw [ratCells, rneg_zero, rnum_zero, rden_zero]; rfl
theorem cells_rat3 : (Value.agg #[.bool false, .string ⟨#[]⟩, .string ⟨#[]⟩]).cells = zc3.toArray := by kernel_rfl
theorem cells_bool1 : (Value.bool false).cells = (boolV false).toArray := by kernel_rfl
theorem make_votes (m : Nat) (hm : m ≤ 1000) (W : World) : (Instr.makeSlice 89 (.int .i64 (m : Int)) (.int .i64 (m : Int))).run Tryz.prog W = .ok (.slice (some ⟨W.heap.size, 0, none⟩) m m) (W.alloc (.cells (madeCells zc3.toArray (m * 3)) 70)) := by
  obtain ⟨i, hi, hz, hs, hb⟩ := info_parts Tryz.info_rat3
  have hc := cells_rat3
  have := run_make (P := Tryz.prog) W 89 70 i _ Tryz.underlying89 hi hz .i64 .i64 m m (by omega) (Int.le_refl _) (by rw [hb]; omega) (by omega)
  simp only [Int.toNat_natCast, hs, hc] at this
  exact this
theorem make_flags (m : Nat) (hm : m ≤ 1000) (W : World) : (Instr.makeSlice 77 (.int .i64 (m : Int)) (.int .i64 (m : Int))).run Tryz.prog W = .ok (.slice (some ⟨W.heap.size, 0, none⟩) m m) (W.alloc (.cells (madeCells (boolV false).toArray (m * 1)) 4)) := by
  obtain ⟨i, hi, hz, hs, hb⟩ := info_parts Tryz.info_bool1
  have hc := cells_bool1
  have := run_make (P := Tryz.prog) W 77 4 i _ Tryz.underlying77 hi hz .i64 .i64 m m (by omega) (Int.le_refl _) (by rw [hb]; omega) (by omega)
  simp only [Int.toNat_natCast, hs, hc] at this
  exact this
theorem arr_of_list {a : Array Value} {l : List Value} (h : a.toList = l) : a = l.toArray := by rw [← h]
theorem votesTo_nil (n : Nat) : votesTo n [] = List.replicate n 0 := by
  apply List.ext_getElem?
  intro c
  by_cases h : c < n
  · rw [votesTo_at h, List.getElem?_replicate, if_pos h]; rfl
  · rw [List.getElem?_eq_none (by rw [votesTo_len]; omega), List.getElem?_eq_none (by rw [List.length_replicate]; omega)]
theorem made_flat_arr (n : Nat) : madeCells zc3.toArray (n * 3) = ((List.replicate n (0 : Rat)).flatMap ratCells).toArray := by
  have := made_flat ratCells 3 ratCells_len (by decide) 0 n
  rw [ratCells_zero] at this
  exact arr_of_list this
theorem VRow.made (W : World) (n : Nat) : VRow W.heap.size (votesTo n []) (W.alloc (.cells (madeCells zc3.toArray (n * 3)) 70)) := by
  unfold VRow
  rw [votesTo_nil, ← made_flat_arr n]
  exact blk_new _ _

end Go.Proofs.YtomfcmlomfcghaaGreatDoor

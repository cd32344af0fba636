/- codec: the writer's numbers. -/
import Derived.Test.YtcljkdjmmolfoaaDoorWriteR
set_option linter.unusedVariables false
set_option linter.unusedSimpArgs false
namespace Go.Proofs.YtcljkdjmmolfoaaDoor
open Go.RowKit

def numsB (zs : List Int) : List Nat := zs.flatMap fun z => vint (zig z)
theorem numsB_snoc (zs : List Int) (z : Int) : numsB (zs ++ [z]) = numsB zs ++ vint (zig z) := by simp [numsB]
def i64s (zs : List Int) : Prop := ∀ z ∈ zs, -9223372036854775808 ≤ z ∧ z ≤ 9223372036854775807

set_option maxHeartbeats 4000000 in
set_option maxRecDepth 100000 in
theorem numbersT (B g n b c : Nat) (T : List Nat) (ok : Bool) (zs : List Int) (w : World) (hW : WrT B g T ok n w) (hB : B ≤ w.heap.size) (hn : n ≤ 700000) (hl : zs.length ≤ 1000) (hz : i64s zs)
    (hb : w.heap[b]? = some (.cells (zs.map (Value.int .i64)).toArray 3 (0, 0))) (hbg : b ≠ g) (ok' : Bool) (hok : ok' = (ok && zs.all rngN)) (T' : List Nat) (hT : T' = T ++ numsB zs) :
    Calls Tryd.prog 44 #[.pointer (some ⟨g, 0, none⟩), .slice (some ⟨b, 0, none⟩) zs.length c] w (WPost B g T' ok' (n + 11 * zs.length) w) := by
  have HZ := Lib.hid hz
  have HW := Lib.hid hW
  have HBK := Lib.hid hb
  have HOK := Lib.hid hok
  have HT := Lib.hid hT
  obtain ⟨m, hm⟩ : ∃ m, m = zs.length := ⟨_, rfl⟩
  rw [← hm] at hl ⊢
  have HM := Lib.hid hm
  clear hW hb hok hT hz hm
  go_enter Tryd.func44, Tryd.ntmps44
  go_wp2_with fail
  go_loopw [8] (fun i wr => ∃ k : Nat, k ≤ m ∧ i = .int .i64 (k : Int) ∧ Hid (WrT B g (T ++ numsB (zs.take k)) (ok && (zs.take k).all rngN) (n + 11 * k) wr) ∧ Hid (Below B w wr) ∧ Hid (KeepT g w wr)) (fun i _ => m - (intOf i).toNat)
  case atStart => exact ⟨0, Nat.zero_le _, rfl, (show WrT B g (T ++ numsB (zs.take 0)) (ok && (zs.take 0).all rngN) (n + 11 * 0) w by simpa [numsB] using HW.out), Below.refl _ _, KeepT.refl _ _⟩
  case round =>
    obtain ⟨k, hk, rfl, HWR, HBR, HKR⟩ := hrel
    by_cases hlt : k < m
    · have hr := HKR.out _ _ _ _ HBK.out (by decide) hbg
      obtain ⟨z, hz⟩ : ∃ z, zs[k]? = some z := getElem?_of_lt (by have := HM.out; omega)
      have hzm := HZ.out z (List.mem_of_getElem? hz)
      have c0 : wr.cell? ⟨b, k, none⟩ = some (.int .i64 z) := by
        rw [cell_of_row wr b k _ _ (0, 0) hr]; simp [hz]
      have hbl : b < wr.heap.size := (Array.getElem?_eq_some_iff.1 hr).1
      have htk : zs.take (k + 1) = zs.take k ++ [z] := by rw [List.take_add_one, hz]; rfl
      have HN := Lib.hid (numberT B g (n + 11 * k) (T ++ numsB (zs.take k)) (ok && (zs.take k).all rngN) z wr HWR.out (Nat.le_trans hB HBR.out.size) (by omega) hzm.1 hzm.2 (ok && (zs.take (k + 1)).all rngN) (by rw [htk, List.all_append]; simp [Bool.and_assoc]) (T ++ numsB (zs.take (k + 1))) (by rw [htk, numsB_snoc, List.append_assoc]))
      clear hr hz htk hzm HWR
      go_wp2_with fail
      refine HN.out.mono ?_
      rintro e w1 ⟨rfl, hw1, hb1, hk1⟩
      have HW1 := Lib.hid hw1
      have HB1 : Hid (Below B w w1) := HBR.out.trans hb1
      have HK1 : Hid (KeepT g w w1) := HKR.out.trans hk1
      clear hw1 hb1 hk1 HN c0
      go_wp2_with fail
      go_roundw
      case measure => simp [intOf]; omega
      case rel => exact ⟨k + 1, by omega, by go_num, HW1, HB1, HK1⟩
    · obtain rfl : k = m := by omega
      have HE : Hid (WrT B g T' ok' (n + 11 * k) wr) := by
        have := HWR.out
        rw [List.take_of_length_le (by have := HM.out; omega), ← HOK.out, ← HT.out] at this
        exact this
      clear HWR
      go_wp2_with fail
      go_end0
      exact ⟨rfl, HE.out, HBR.out, HKR.out⟩

end Go.Proofs.YtcljkdjmmolfoaaDoor

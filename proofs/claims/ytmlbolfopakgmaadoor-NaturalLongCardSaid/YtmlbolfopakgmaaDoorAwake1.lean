/- insolvencylaw1.awake. -/
import Derived.Test.YtmlbolfopakgmaaDoorFmt
set_option linter.unusedVariables false
set_option linter.unusedSimpArgs false
namespace Go.Proofs.YtmlbolfopakgmaaDoor
open Go.RowKit

set_option maxHeartbeats 1000000 in
set_option maxRecDepth 100000 in
theorem parse007_calls (w : World) : Calls Tryd.prog 23 #[.string ⟨#[48, 48, 55]⟩] w fun e w' => e = .returned (.tuple #[.string ⟨#[]⟩, .int .i64 3]) ∧ w' = w := by
  go_enter Tryd.func23, Tryd.ntmps23
  go_wp2_with fail
  go_ret2
  exact ⟨rfl, rfl⟩

theorem aw_a : snum ⟨#[3, 232]⟩ = 1000 := by decide +kernel
theorem aw_b : snum ⟨#[7]⟩ = 7 := by decide +kernel
theorem aw_c : snum ⟨#[255]⟩ = 255 := by decide +kernel
theorem aw_d : snum ⟨#[1]⟩ = 1 := by decide +kernel
theorem aw_e : ncan 256 = ⟨#[1, 0]⟩ := by
  unfold ncan canon
  rw [canB_pos (by decide), canB_pos (by decide)]
  simp only [Nat.reduceDiv]
  rw [canB_zero]; rfl
theorem aw_f : decOf 142 = [49, 52, 50] := by
  unfold decOf
  rw [if_neg (by decide), decs_pos (by decide), decs_pos (by decide), decs_pos (by decide)]
  simp only [Nat.reduceDiv]
  rw [decs_zero]; rfl
theorem aw_g : decOf 6 = [54] := by
  unfold decOf
  rw [if_neg (by decide), decs_pos (by decide)]
  simp only [Nat.reduceDiv]
  rw [decs_zero]; rfl

set_option maxHeartbeats 4000000 in
set_option maxRecDepth 100000 in
theorem awake1_calls (w : World) : Calls Tryd.prog 17 #[] w fun e w' => e = .returned (.bool true) ∧ Below w.heap.size w w' := by
  have H1 := Lib.hid (fun w => natDivide_calls ⟨#[3, 232]⟩ ⟨#[7]⟩ w (by decide) (by decide))
  have H2 := Lib.hid (fun w => natAdd_calls ⟨#[255]⟩ ⟨#[1]⟩ w (by decide) (by decide))
  have H3 := Lib.hid (fun w => natFormat_calls (ncan 142) w (by rw [ncan_size]; exact Nat.le_trans (canon_len_le (n := 142) (k := 1) (by decide)) (by decide)))
  have H4 := Lib.hid (fun w => natFormat_calls (ncan 6) w (by rw [ncan_size]; exact Nat.le_trans (canon_len_le (n := 6) (k := 1) (by decide)) (by decide)))
  rw [aw_a, aw_b] at H1
  rw [aw_c, aw_d] at H2
  rw [snum_ncan, aw_f] at H3
  rw [snum_ncan, aw_g] at H4
  have e1 : (255 : Nat) + 1 = 256 := rfl
  rw [e1, aw_e] at H2
  go_enter Tryd.func17, Tryd.ntmps17
  go_wp2_with fail
  refine (H1.out _).mono ?_
  rintro e w1 ⟨he, hb1⟩
  have he2 : e = .returned (.tuple #[.string (ncan 142), .string (ncan 6), .bool true]) := by rw [he, if_neg (by decide)]
  subst he2
  clear he
  go_wp2_with fail
  refine (parse007_calls _).mono ?_
  rintro e w2 ⟨rfl, rfl⟩
  go_wp2_with fail
  refine (H2.out _).mono ?_
  rintro e w3 ⟨rfl, hb2⟩
  have hb3 := hb1.trans (hb2.mono hb1.size)
  have HB3 := Lib.hid hb3
  clear hb1 hb2 hb3
  go_wp2_with fail
  refine (H3.out _).mono ?_
  rintro e w4 ⟨rfl, hb4⟩
  have HB4 : Hid (Below w.heap.size w w4) := HB3.out.trans (hb4.mono HB3.out.size)
  clear hb4
  have n1 : nstr [49, 52, 50] = ⟨#[49, 52, 50]⟩ := rfl
  have n2 : nstr [54] = ⟨#[54]⟩ := rfl
  rw [n1]
  rw [n2] at H4
  clear n1 n2
  go_wp2_with fail
  refine (H4.out _).mono ?_
  rintro e w5 ⟨rfl, hb5⟩
  have HB5 : Hid (Below w.heap.size w w5) := HB4.out.trans (hb5.mono HB4.out.size)
  clear hb5
  go_wp2_with fail
  go_ret
  exact ⟨rfl, HB5.out⟩

end Go.Proofs.YtmlbolfopakgmaaDoor

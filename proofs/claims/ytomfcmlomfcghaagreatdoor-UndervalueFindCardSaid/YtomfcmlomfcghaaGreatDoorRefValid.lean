/- insolvencyref1.Valid. -/
import Derived.Test.YtomfcmlomfcghaaGreatDoorValid
import Derived.Test.YtomfcmlomfcghaaGreatDoorRefDiv
set_option linter.unusedVariables false
set_option linter.unusedSimpArgs false
namespace Go.Proofs.YtomfcmlomfcghaaGreatDoor
open Go.RowKit

set_option maxHeartbeats 2000000 in
set_option maxRecDepth 100000 in
theorem validR_num (neg : Bool) (num den : ByteArray) (w : World) (hz1 : num.size ≤ 100000) (hz2 : den.size ≤ 100000) (hne : nrm num ≠ num) :
    Calls Tryz.prog 112 #[.agg #[.bool neg, .string num, .string den]] w fun e w' => e = .returned (.bool false) ∧ Below w.heap.size w w' := by
  have N1' := fun w => normRef_calls num w (by omega)
  obtain ⟨nn, hnn⟩ : ∃ nn, nn = ncan (snum num) := ⟨_, rfl⟩
  rw [← hnn] at N1'
  have tl : ¬ nn.toList = num.toList := toList_ne (by rw [hnn]; exact hne)
  have N1 := Lib.hid N1'
  clear N1' hnn hne
  clear hz1 hz2
  go_enter Tryz.func112, Tryz.ntmps112
  go_wp2_with fail
  obtain ⟨W0, hW0⟩ : ∃ W0, W0 = (w.alloc (.cells #[.bool neg, .string num, .string den] 70)).drew := ⟨_, rfl⟩
  have hS : Q3 w.heap.size neg num den W0 := by rw [hW0]; exact blk_new _ _
  have HB0 : Hid (Below w.heap.size w W0) := by rw [hW0]; exact (bel_alloc _ _).drew
  refine wp_region_held_drew (S := Q3 w.heap.size neg num den) (by kernel_rfl) (by rw [← hW0]; exact hS) ?_
  rw [← hW0]
  intro _
  clear hW0
  refine wpAnyH_take (i := 0) rfl (by kernel_rfl) (by kernel_rfl) (by kernel_rfl) (fun _ _ _ h => h) (Or.inl ⟨by kernel_rfl, (by intro w' _; go_simp; with_reducible rfl)⟩) hS ?_
  go_simp
  refine wpAnyH_take (i := 1) (v := .string num) rfl (by kernel_rfl) (by kernel_rfl) (by kernel_rfl) (fun _ _ _ h => h) (Or.inl ⟨by kernel_rfl, (by intro w' hw'; obtain ⟨q0, q1, q2⟩ := hw'.cells; go_simp)⟩) hS ?_
  go_simp
  refine wpAnyH_take (i := 3) rfl (by kernel_rfl) (by kernel_rfl) (by kernel_rfl) (fun _ _ _ h => h) (Or.inl ⟨by kernel_rfl, (by intro w' _; go_simp; with_reducible rfl)⟩) hS ?_
  go_simp
  refine wpAnyH_take (i := 4) (v := .string num) rfl (by kernel_rfl) (by kernel_rfl) (by kernel_rfl) (fun _ _ _ h => h) (Or.inl ⟨by kernel_rfl, (by intro w' hw'; obtain ⟨q0, q1, q2⟩ := hw'.cells; go_simp)⟩) hS ?_
  go_simp
  refine wpAnyH_ready (rs := [2]) (by kernel_rfl) (by simp) ?_
  refine AllReadyH.cons rfl (fun K hK => ?_) AllReadyH.nil
  go_simp
  refine (N1.out _).mono ?_
  rintro e w1 ⟨rfl, rfl⟩
  refine hK.out _ _ hS (fun _ => ?_)
  clear hK K
  refine wpAnyH_take (i := 5) (v := .bool true) rfl (by kernel_rfl) (by kernel_rfl) (by kernel_rfl) (fun _ _ _ h => h) (Or.inl ⟨by kernel_rfl, (by intro w' _; go_simp)⟩) hS ?_
  go_simp
  refine wpAnyH_take (i := 6) (v := .bool true) rfl (by kernel_rfl) (by kernel_rfl) (by kernel_rfl) (fun _ _ _ h => h) (Or.inl ⟨by kernel_rfl, (by intro w' _; go_simp)⟩) hS ?_
  go_simp
  refine wpAnyH_take (i := 7) (v := undef) rfl (by kernel_rfl) (by kernel_rfl) (by kernel_rfl) (fun _ _ _ h => h) (Or.inr ⟨by kernel_rfl, rfl⟩) hS ?_
  go_simp
  refine wpAnyH_take (i := 8) (v := undef) rfl (by kernel_rfl) (by kernel_rfl) (by kernel_rfl) (fun _ _ _ h => h) (Or.inr ⟨by kernel_rfl, rfl⟩) hS ?_
  go_simp
  refine wpAnyH_take (i := 9) (v := undef) rfl (by kernel_rfl) (by kernel_rfl) (by kernel_rfl) (fun _ _ _ h => h) (Or.inr ⟨by kernel_rfl, rfl⟩) hS ?_
  go_simp
  refine wpAnyH_take (i := 10) (v := undef) rfl (by kernel_rfl) (by kernel_rfl) (by kernel_rfl) (fun _ _ _ h => h) (Or.inr ⟨by kernel_rfl, rfl⟩) hS ?_
  go_simp
  refine wpAnyH_take (i := 11) (v := undef) rfl (by kernel_rfl) (by kernel_rfl) (by kernel_rfl) (fun _ _ _ h => h) (Or.inr ⟨by kernel_rfl, rfl⟩) hS ?_
  go_simp
  refine wpAnyH_take (i := 12) (v := undef) rfl (by kernel_rfl) (by kernel_rfl) (by kernel_rfl) (fun _ _ _ h => h) (Or.inr ⟨by kernel_rfl, rfl⟩) hS ?_
  go_simp
  refine wpAnyH_take (i := 13) (v := .bool true) rfl (by kernel_rfl) (by kernel_rfl) (by kernel_rfl) (fun _ _ _ h => h) (Or.inl ⟨by kernel_rfl, (by intro w' _; go_simp)⟩) hS ?_
  go_simp
  refine wpAnyH_take (i := 14) (v := .bool true) rfl (by kernel_rfl) (by kernel_rfl) (by kernel_rfl) (fun _ _ _ h => h) (Or.inl ⟨by kernel_rfl, (by intro w' _; go_simp)⟩) hS ?_
  go_simp
  refine wpAnyH_take (i := 15) (v := undef) rfl (by kernel_rfl) (by kernel_rfl) (by kernel_rfl) (fun _ _ _ h => h) (Or.inr ⟨by kernel_rfl, rfl⟩) hS ?_
  go_simp
  refine wpAnyH_take (i := 16) (v := undef) rfl (by kernel_rfl) (by kernel_rfl) (by kernel_rfl) (fun _ _ _ h => h) (Or.inr ⟨by kernel_rfl, rfl⟩) hS ?_
  go_simp
  refine wpAnyH_take (i := 17) (v := undef) rfl (by kernel_rfl) (by kernel_rfl) (by kernel_rfl) (fun _ _ _ h => h) (Or.inr ⟨by kernel_rfl, rfl⟩) hS ?_
  go_simp
  refine wpAnyH_take (i := 18) (v := .bool true) rfl (by kernel_rfl) (by kernel_rfl) (by kernel_rfl) (fun _ _ _ h => h) (Or.inl ⟨by kernel_rfl, (by intro w' _; go_simp)⟩) hS ?_
  go_simp
  refine wpAnyH_done (by kernel_rfl) ?_ _
  go_wp2_with fail
  go_ret
  exact ⟨rfl, HB0.out⟩

set_option maxHeartbeats 2000000 in
set_option maxRecDepth 100000 in
theorem validR_den (neg : Bool) (num den : ByteArray) (w : World) (hz1 : num.size ≤ 100000) (hz2 : den.size ≤ 100000) (h1 : nrm num = num) (hne : nrm den ≠ den) :
    Calls Tryz.prog 112 #[.agg #[.bool neg, .string num, .string den]] w fun e w' => e = .returned (.bool false) ∧ Below w.heap.size w w' := by
  have N1' := fun w => normRef_calls num w (by omega)
  rw [show ncan (snum num) = num from h1] at N1'
  have N1 := Lib.hid N1'
  clear N1' h1
  have N2' := fun w => normRef_calls den w (by omega)
  obtain ⟨mm, hmm⟩ : ∃ mm, mm = ncan (snum den) := ⟨_, rfl⟩
  rw [← hmm] at N2'
  have tl : ¬ mm.toList = den.toList := toList_ne (by rw [hmm]; exact hne)
  have N2 := Lib.hid N2'
  clear N2' hmm hne
  clear hz1 hz2
  go_enter Tryz.func112, Tryz.ntmps112
  go_wp2_with fail
  obtain ⟨W0, hW0⟩ : ∃ W0, W0 = (w.alloc (.cells #[.bool neg, .string num, .string den] 70)).drew := ⟨_, rfl⟩
  have hS : Q3 w.heap.size neg num den W0 := by rw [hW0]; exact blk_new _ _
  have HB0 : Hid (Below w.heap.size w W0) := by rw [hW0]; exact (bel_alloc _ _).drew
  refine wp_region_held_drew (S := Q3 w.heap.size neg num den) (by kernel_rfl) (by rw [← hW0]; exact hS) ?_
  rw [← hW0]
  intro _
  clear hW0
  refine wpAnyH_take (i := 0) rfl (by kernel_rfl) (by kernel_rfl) (by kernel_rfl) (fun _ _ _ h => h) (Or.inl ⟨by kernel_rfl, (by intro w' _; go_simp; with_reducible rfl)⟩) hS ?_
  go_simp
  refine wpAnyH_take (i := 1) (v := .string num) rfl (by kernel_rfl) (by kernel_rfl) (by kernel_rfl) (fun _ _ _ h => h) (Or.inl ⟨by kernel_rfl, (by intro w' hw'; obtain ⟨q0, q1, q2⟩ := hw'.cells; go_simp)⟩) hS ?_
  go_simp
  refine wpAnyH_take (i := 3) rfl (by kernel_rfl) (by kernel_rfl) (by kernel_rfl) (fun _ _ _ h => h) (Or.inl ⟨by kernel_rfl, (by intro w' _; go_simp; with_reducible rfl)⟩) hS ?_
  go_simp
  refine wpAnyH_take (i := 4) (v := .string num) rfl (by kernel_rfl) (by kernel_rfl) (by kernel_rfl) (fun _ _ _ h => h) (Or.inl ⟨by kernel_rfl, (by intro w' hw'; obtain ⟨q0, q1, q2⟩ := hw'.cells; go_simp)⟩) hS ?_
  go_simp
  refine wpAnyH_ready (rs := [2]) (by kernel_rfl) (by simp) ?_
  refine AllReadyH.cons rfl (fun K hK => ?_) AllReadyH.nil
  go_simp
  refine (N1.out _).mono ?_
  rintro e w1 ⟨rfl, rfl⟩
  refine hK.out _ _ hS (fun _ => ?_)
  clear hK K
  refine wpAnyH_take (i := 5) (v := .bool false) rfl (by kernel_rfl) (by kernel_rfl) (by kernel_rfl) (fun _ _ _ h => h) (Or.inl ⟨by kernel_rfl, (by intro w' _; go_simp)⟩) hS ?_
  go_simp
  refine wpAnyH_take (i := 6) (v := .bool false) rfl (by kernel_rfl) (by kernel_rfl) (by kernel_rfl) (fun _ _ _ h => h) (Or.inl ⟨by kernel_rfl, (by intro w' _; go_simp)⟩) hS ?_
  go_simp
  refine wpAnyH_take (i := 7) rfl (by kernel_rfl) (by kernel_rfl) (by kernel_rfl) (fun _ _ _ h => h) (Or.inl ⟨by kernel_rfl, (by intro w' _; go_simp; with_reducible rfl)⟩) hS ?_
  go_simp
  refine wpAnyH_take (i := 8) (v := .string den) rfl (by kernel_rfl) (by kernel_rfl) (by kernel_rfl) (fun _ _ _ h => h) (Or.inl ⟨by kernel_rfl, (by intro w' hw'; obtain ⟨q0, q1, q2⟩ := hw'.cells; go_simp)⟩) hS ?_
  go_simp
  refine wpAnyH_take (i := 10) rfl (by kernel_rfl) (by kernel_rfl) (by kernel_rfl) (fun _ _ _ h => h) (Or.inl ⟨by kernel_rfl, (by intro w' _; go_simp; with_reducible rfl)⟩) hS ?_
  go_simp
  refine wpAnyH_take (i := 11) (v := .string den) rfl (by kernel_rfl) (by kernel_rfl) (by kernel_rfl) (fun _ _ _ h => h) (Or.inl ⟨by kernel_rfl, (by intro w' hw'; obtain ⟨q0, q1, q2⟩ := hw'.cells; go_simp)⟩) hS ?_
  go_simp
  refine wpAnyH_ready (rs := [9]) (by kernel_rfl) (by simp) ?_
  refine AllReadyH.cons rfl (fun K hK => ?_) AllReadyH.nil
  go_simp
  refine (N2.out _).mono ?_
  rintro e w2 ⟨rfl, rfl⟩
  refine hK.out _ _ hS (fun _ => ?_)
  clear hK K
  refine wpAnyH_take (i := 12) (v := .bool true) rfl (by kernel_rfl) (by kernel_rfl) (by kernel_rfl) (fun _ _ _ h => h) (Or.inl ⟨by kernel_rfl, (by intro w' _; go_simp)⟩) hS ?_
  go_simp
  refine wpAnyH_take (i := 13) (v := .bool true) rfl (by kernel_rfl) (by kernel_rfl) (by kernel_rfl) (fun _ _ _ h => h) (Or.inl ⟨by kernel_rfl, (by intro w' _; go_simp)⟩) hS ?_
  go_simp
  refine wpAnyH_take (i := 14) (v := .bool true) rfl (by kernel_rfl) (by kernel_rfl) (by kernel_rfl) (fun _ _ _ h => h) (Or.inl ⟨by kernel_rfl, (by intro w' _; go_simp)⟩) hS ?_
  go_simp
  refine wpAnyH_take (i := 15) (v := undef) rfl (by kernel_rfl) (by kernel_rfl) (by kernel_rfl) (fun _ _ _ h => h) (Or.inr ⟨by kernel_rfl, rfl⟩) hS ?_
  go_simp
  refine wpAnyH_take (i := 16) (v := undef) rfl (by kernel_rfl) (by kernel_rfl) (by kernel_rfl) (fun _ _ _ h => h) (Or.inr ⟨by kernel_rfl, rfl⟩) hS ?_
  go_simp
  refine wpAnyH_take (i := 17) (v := undef) rfl (by kernel_rfl) (by kernel_rfl) (by kernel_rfl) (fun _ _ _ h => h) (Or.inr ⟨by kernel_rfl, rfl⟩) hS ?_
  go_simp
  refine wpAnyH_take (i := 18) (v := .bool true) rfl (by kernel_rfl) (by kernel_rfl) (by kernel_rfl) (fun _ _ _ h => h) (Or.inl ⟨by kernel_rfl, (by intro w' _; go_simp)⟩) hS ?_
  go_simp
  refine wpAnyH_done (by kernel_rfl) ?_ _
  go_wp2_with fail
  go_ret
  exact ⟨rfl, HB0.out⟩

set_option maxHeartbeats 2000000 in
set_option maxRecDepth 100000 in
theorem validR_one (neg : Bool) (num den : ByteArray) (w : World) (hz1 : num.size ≤ 100000) (hz2 : den.size ≤ 100000) (h1 : nrm num = num) (h2 : nrm den = den) (hd : den = ⟨#[1]⟩) :
    Calls Tryz.prog 112 #[.agg #[.bool neg, .string num, .string den]] w fun e w' => e = .returned (.bool false) ∧ Below w.heap.size w w' := by
  have N1' := fun w => normRef_calls num w (by omega)
  rw [show ncan (snum num) = num from h1] at N1'
  have N1 := Lib.hid N1'
  clear N1' h1
  have N2' := fun w => normRef_calls den w (by omega)
  rw [show ncan (snum den) = den from h2] at N2'
  have N2 := Lib.hid N2'
  clear N2' h2
  clear hz1 hz2
  subst hd
  go_enter Tryz.func112, Tryz.ntmps112
  go_wp2_with fail
  obtain ⟨W0, hW0⟩ : ∃ W0, W0 = (w.alloc (.cells #[.bool neg, .string num, .string (⟨#[1]⟩ : ByteArray)] 70)).drew := ⟨_, rfl⟩
  have hS : Q3 w.heap.size neg num (⟨#[1]⟩ : ByteArray) W0 := by rw [hW0]; exact blk_new _ _
  have HB0 : Hid (Below w.heap.size w W0) := by rw [hW0]; exact (bel_alloc _ _).drew
  refine wp_region_held_drew (S := Q3 w.heap.size neg num (⟨#[1]⟩ : ByteArray)) (by kernel_rfl) (by rw [← hW0]; exact hS) ?_
  rw [← hW0]
  intro _
  clear hW0
  refine wpAnyH_take (i := 0) rfl (by kernel_rfl) (by kernel_rfl) (by kernel_rfl) (fun _ _ _ h => h) (Or.inl ⟨by kernel_rfl, (by intro w' _; go_simp; with_reducible rfl)⟩) hS ?_
  go_simp
  refine wpAnyH_take (i := 1) (v := .string num) rfl (by kernel_rfl) (by kernel_rfl) (by kernel_rfl) (fun _ _ _ h => h) (Or.inl ⟨by kernel_rfl, (by intro w' hw'; obtain ⟨q0, q1, q2⟩ := hw'.cells; go_simp)⟩) hS ?_
  go_simp
  refine wpAnyH_take (i := 3) rfl (by kernel_rfl) (by kernel_rfl) (by kernel_rfl) (fun _ _ _ h => h) (Or.inl ⟨by kernel_rfl, (by intro w' _; go_simp; with_reducible rfl)⟩) hS ?_
  go_simp
  refine wpAnyH_take (i := 4) (v := .string num) rfl (by kernel_rfl) (by kernel_rfl) (by kernel_rfl) (fun _ _ _ h => h) (Or.inl ⟨by kernel_rfl, (by intro w' hw'; obtain ⟨q0, q1, q2⟩ := hw'.cells; go_simp)⟩) hS ?_
  go_simp
  refine wpAnyH_ready (rs := [2]) (by kernel_rfl) (by simp) ?_
  refine AllReadyH.cons rfl (fun K hK => ?_) AllReadyH.nil
  go_simp
  refine (N1.out _).mono ?_
  rintro e w1 ⟨rfl, rfl⟩
  refine hK.out _ _ hS (fun _ => ?_)
  clear hK K
  refine wpAnyH_take (i := 5) (v := .bool false) rfl (by kernel_rfl) (by kernel_rfl) (by kernel_rfl) (fun _ _ _ h => h) (Or.inl ⟨by kernel_rfl, (by intro w' _; go_simp)⟩) hS ?_
  go_simp
  refine wpAnyH_take (i := 6) (v := .bool false) rfl (by kernel_rfl) (by kernel_rfl) (by kernel_rfl) (fun _ _ _ h => h) (Or.inl ⟨by kernel_rfl, (by intro w' _; go_simp)⟩) hS ?_
  go_simp
  refine wpAnyH_take (i := 7) rfl (by kernel_rfl) (by kernel_rfl) (by kernel_rfl) (fun _ _ _ h => h) (Or.inl ⟨by kernel_rfl, (by intro w' _; go_simp; with_reducible rfl)⟩) hS ?_
  go_simp
  refine wpAnyH_take (i := 8) (v := .string (⟨#[1]⟩ : ByteArray)) rfl (by kernel_rfl) (by kernel_rfl) (by kernel_rfl) (fun _ _ _ h => h) (Or.inl ⟨by kernel_rfl, (by intro w' hw'; obtain ⟨q0, q1, q2⟩ := hw'.cells; go_simp)⟩) hS ?_
  go_simp
  refine wpAnyH_take (i := 10) rfl (by kernel_rfl) (by kernel_rfl) (by kernel_rfl) (fun _ _ _ h => h) (Or.inl ⟨by kernel_rfl, (by intro w' _; go_simp; with_reducible rfl)⟩) hS ?_
  go_simp
  refine wpAnyH_take (i := 11) (v := .string (⟨#[1]⟩ : ByteArray)) rfl (by kernel_rfl) (by kernel_rfl) (by kernel_rfl) (fun _ _ _ h => h) (Or.inl ⟨by kernel_rfl, (by intro w' hw'; obtain ⟨q0, q1, q2⟩ := hw'.cells; go_simp)⟩) hS ?_
  go_simp
  refine wpAnyH_ready (rs := [9]) (by kernel_rfl) (by simp) ?_
  refine AllReadyH.cons rfl (fun K hK => ?_) AllReadyH.nil
  go_simp
  refine (N2.out _).mono ?_
  rintro e w2 ⟨rfl, rfl⟩
  refine hK.out _ _ hS (fun _ => ?_)
  clear hK K
  refine wpAnyH_take (i := 12) (v := .bool false) rfl (by kernel_rfl) (by kernel_rfl) (by kernel_rfl) (fun _ _ _ h => h) (Or.inl ⟨by kernel_rfl, (by intro w' _; go_simp)⟩) hS ?_
  go_simp
  refine wpAnyH_take (i := 13) (v := .bool false) rfl (by kernel_rfl) (by kernel_rfl) (by kernel_rfl) (fun _ _ _ h => h) (Or.inl ⟨by kernel_rfl, (by intro w' _; go_simp)⟩) hS ?_
  go_simp
  refine wpAnyH_take (i := 14) (v := .bool false) rfl (by kernel_rfl) (by kernel_rfl) (by kernel_rfl) (fun _ _ _ h => h) (Or.inl ⟨by kernel_rfl, (by intro w' _; go_simp)⟩) hS ?_
  go_simp
  refine wpAnyH_take (i := 15) rfl (by kernel_rfl) (by kernel_rfl) (by kernel_rfl) (fun _ _ _ h => h) (Or.inl ⟨by kernel_rfl, (by intro w' _; go_simp; with_reducible rfl)⟩) hS ?_
  go_simp
  refine wpAnyH_take (i := 16) (v := .string (⟨#[1]⟩ : ByteArray)) rfl (by kernel_rfl) (by kernel_rfl) (by kernel_rfl) (fun _ _ _ h => h) (Or.inl ⟨by kernel_rfl, (by intro w' hw'; obtain ⟨q0, q1, q2⟩ := hw'.cells; go_simp)⟩) hS ?_
  go_simp
  refine wpAnyH_take (i := 17) (v := .bool true) rfl (by kernel_rfl) (by kernel_rfl) (by kernel_rfl) (fun _ _ _ h => h) (Or.inl ⟨by kernel_rfl, (by intro w' _; go_simp)⟩) hS ?_
  go_simp
  refine wpAnyH_take (i := 18) (v := .bool true) rfl (by kernel_rfl) (by kernel_rfl) (by kernel_rfl) (fun _ _ _ h => h) (Or.inl ⟨by kernel_rfl, (by intro w' _; go_simp)⟩) hS ?_
  go_simp
  refine wpAnyH_done (by kernel_rfl) ?_ _
  obtain ⟨q0, q1, q2⟩ := hS.cells
  go_wp2_with fail
  go_ret
  exact ⟨rfl, HB0.out⟩

set_option maxHeartbeats 2000000 in
set_option maxRecDepth 100000 in
theorem validR_zneg (neg : Bool) (num den : ByteArray) (w : World) (hz1 : num.size ≤ 100000) (hz2 : den.size ≤ 100000) (h1 : nrm num = num) (h2 : nrm den = den) (hd1 : den ≠ ⟨#[1]⟩) (h0 : num = ⟨#[]⟩) (hb : neg = true) :
    Calls Tryz.prog 112 #[.agg #[.bool neg, .string num, .string den]] w fun e w' => e = .returned (.bool false) ∧ Below w.heap.size w w' := by
  have tn : ¬ den.toList = [1] := toList_ne1 hd1
  clear hd1
  have N1' := fun w => normRef_calls num w (by omega)
  rw [show ncan (snum num) = num from h1] at N1'
  have N1 := Lib.hid N1'
  clear N1' h1
  have N2' := fun w => normRef_calls den w (by omega)
  rw [show ncan (snum den) = den from h2] at N2'
  have N2 := Lib.hid N2'
  clear N2' h2
  clear hz1 hz2
  subst h0 hb
  go_enter Tryz.func112, Tryz.ntmps112
  go_wp2_with fail
  obtain ⟨W0, hW0⟩ : ∃ W0, W0 = (w.alloc (.cells #[.bool true, .string (⟨#[]⟩ : ByteArray), .string den] 70)).drew := ⟨_, rfl⟩
  have hS : Q3 w.heap.size true (⟨#[]⟩ : ByteArray) den W0 := by rw [hW0]; exact blk_new _ _
  have HB0 : Hid (Below w.heap.size w W0) := by rw [hW0]; exact (bel_alloc _ _).drew
  refine wp_region_held_drew (S := Q3 w.heap.size true (⟨#[]⟩ : ByteArray) den) (by kernel_rfl) (by rw [← hW0]; exact hS) ?_
  rw [← hW0]
  intro _
  clear hW0
  refine wpAnyH_take (i := 0) rfl (by kernel_rfl) (by kernel_rfl) (by kernel_rfl) (fun _ _ _ h => h) (Or.inl ⟨by kernel_rfl, (by intro w' _; go_simp; with_reducible rfl)⟩) hS ?_
  go_simp
  refine wpAnyH_take (i := 1) (v := .string (⟨#[]⟩ : ByteArray)) rfl (by kernel_rfl) (by kernel_rfl) (by kernel_rfl) (fun _ _ _ h => h) (Or.inl ⟨by kernel_rfl, (by intro w' hw'; obtain ⟨q0, q1, q2⟩ := hw'.cells; go_simp)⟩) hS ?_
  go_simp
  refine wpAnyH_take (i := 3) rfl (by kernel_rfl) (by kernel_rfl) (by kernel_rfl) (fun _ _ _ h => h) (Or.inl ⟨by kernel_rfl, (by intro w' _; go_simp; with_reducible rfl)⟩) hS ?_
  go_simp
  refine wpAnyH_take (i := 4) (v := .string (⟨#[]⟩ : ByteArray)) rfl (by kernel_rfl) (by kernel_rfl) (by kernel_rfl) (fun _ _ _ h => h) (Or.inl ⟨by kernel_rfl, (by intro w' hw'; obtain ⟨q0, q1, q2⟩ := hw'.cells; go_simp)⟩) hS ?_
  go_simp
  refine wpAnyH_ready (rs := [2]) (by kernel_rfl) (by simp) ?_
  refine AllReadyH.cons rfl (fun K hK => ?_) AllReadyH.nil
  go_simp
  refine (N1.out _).mono ?_
  rintro e w1 ⟨rfl, rfl⟩
  refine hK.out _ _ hS (fun _ => ?_)
  clear hK K
  refine wpAnyH_take (i := 5) (v := .bool false) rfl (by kernel_rfl) (by kernel_rfl) (by kernel_rfl) (fun _ _ _ h => h) (Or.inl ⟨by kernel_rfl, (by intro w' _; go_simp)⟩) hS ?_
  go_simp
  refine wpAnyH_take (i := 6) (v := .bool false) rfl (by kernel_rfl) (by kernel_rfl) (by kernel_rfl) (fun _ _ _ h => h) (Or.inl ⟨by kernel_rfl, (by intro w' _; go_simp)⟩) hS ?_
  go_simp
  refine wpAnyH_take (i := 7) rfl (by kernel_rfl) (by kernel_rfl) (by kernel_rfl) (fun _ _ _ h => h) (Or.inl ⟨by kernel_rfl, (by intro w' _; go_simp; with_reducible rfl)⟩) hS ?_
  go_simp
  refine wpAnyH_take (i := 8) (v := .string den) rfl (by kernel_rfl) (by kernel_rfl) (by kernel_rfl) (fun _ _ _ h => h) (Or.inl ⟨by kernel_rfl, (by intro w' hw'; obtain ⟨q0, q1, q2⟩ := hw'.cells; go_simp)⟩) hS ?_
  go_simp
  refine wpAnyH_take (i := 10) rfl (by kernel_rfl) (by kernel_rfl) (by kernel_rfl) (fun _ _ _ h => h) (Or.inl ⟨by kernel_rfl, (by intro w' _; go_simp; with_reducible rfl)⟩) hS ?_
  go_simp
  refine wpAnyH_take (i := 11) (v := .string den) rfl (by kernel_rfl) (by kernel_rfl) (by kernel_rfl) (fun _ _ _ h => h) (Or.inl ⟨by kernel_rfl, (by intro w' hw'; obtain ⟨q0, q1, q2⟩ := hw'.cells; go_simp)⟩) hS ?_
  go_simp
  refine wpAnyH_ready (rs := [9]) (by kernel_rfl) (by simp) ?_
  refine AllReadyH.cons rfl (fun K hK => ?_) AllReadyH.nil
  go_simp
  refine (N2.out _).mono ?_
  rintro e w2 ⟨rfl, rfl⟩
  refine hK.out _ _ hS (fun _ => ?_)
  clear hK K
  refine wpAnyH_take (i := 12) (v := .bool false) rfl (by kernel_rfl) (by kernel_rfl) (by kernel_rfl) (fun _ _ _ h => h) (Or.inl ⟨by kernel_rfl, (by intro w' _; go_simp)⟩) hS ?_
  go_simp
  refine wpAnyH_take (i := 13) (v := .bool false) rfl (by kernel_rfl) (by kernel_rfl) (by kernel_rfl) (fun _ _ _ h => h) (Or.inl ⟨by kernel_rfl, (by intro w' _; go_simp)⟩) hS ?_
  go_simp
  refine wpAnyH_take (i := 14) (v := .bool false) rfl (by kernel_rfl) (by kernel_rfl) (by kernel_rfl) (fun _ _ _ h => h) (Or.inl ⟨by kernel_rfl, (by intro w' _; go_simp)⟩) hS ?_
  go_simp
  refine wpAnyH_take (i := 15) rfl (by kernel_rfl) (by kernel_rfl) (by kernel_rfl) (fun _ _ _ h => h) (Or.inl ⟨by kernel_rfl, (by intro w' _; go_simp; with_reducible rfl)⟩) hS ?_
  go_simp
  refine wpAnyH_take (i := 16) (v := .string den) rfl (by kernel_rfl) (by kernel_rfl) (by kernel_rfl) (fun _ _ _ h => h) (Or.inl ⟨by kernel_rfl, (by intro w' hw'; obtain ⟨q0, q1, q2⟩ := hw'.cells; go_simp)⟩) hS ?_
  go_simp
  refine wpAnyH_take (i := 17) (v := .bool false) rfl (by kernel_rfl) (by kernel_rfl) (by kernel_rfl) (fun _ _ _ h => h) (Or.inl ⟨by kernel_rfl, (by intro w' _; go_simp)⟩) hS ?_
  go_simp
  refine wpAnyH_take (i := 18) (v := .bool false) rfl (by kernel_rfl) (by kernel_rfl) (by kernel_rfl) (fun _ _ _ h => h) (Or.inl ⟨by kernel_rfl, (by intro w' _; go_simp)⟩) hS ?_
  go_simp
  refine wpAnyH_done (by kernel_rfl) ?_ _
  obtain ⟨q0, q1, q2⟩ := hS.cells
  go_wp2_with fail
  go_ret
  exact ⟨rfl, HB0.out⟩

set_option maxHeartbeats 2000000 in
set_option maxRecDepth 100000 in
theorem validR_zden (neg : Bool) (num den : ByteArray) (w : World) (hz1 : num.size ≤ 100000) (hz2 : den.size ≤ 100000) (h1 : nrm num = num) (h2 : nrm den = den) (hd1 : den ≠ ⟨#[1]⟩) (h0 : num = ⟨#[]⟩) (hb : neg = false) (c : Bool) (hd : (c = true ∧ den = ⟨#[]⟩) ∨ (c = false ∧ den.toList.isEmpty = false)) :
    Calls Tryz.prog 112 #[.agg #[.bool neg, .string num, .string den]] w fun e w' => e = .returned (.bool c) ∧ Below w.heap.size w w' := by
  have tn : ¬ den.toList = [1] := toList_ne1 hd1
  clear hd1
  have N1' := fun w => normRef_calls num w (by omega)
  rw [show ncan (snum num) = num from h1] at N1'
  have N1 := Lib.hid N1'
  clear N1' h1
  have N2' := fun w => normRef_calls den w (by omega)
  rw [show ncan (snum den) = den from h2] at N2'
  have N2 := Lib.hid N2'
  clear N2' h2
  clear hz1 hz2
  subst h0 hb
  rcases hd with ⟨rfl, rfl⟩ | ⟨rfl, he⟩
  · go_enter Tryz.func112, Tryz.ntmps112
    go_wp2_with fail
    obtain ⟨W0, hW0⟩ : ∃ W0, W0 = (w.alloc (.cells #[.bool false, .string (⟨#[]⟩ : ByteArray), .string (⟨#[]⟩ : ByteArray)] 70)).drew := ⟨_, rfl⟩
    have hS : Q3 w.heap.size false (⟨#[]⟩ : ByteArray) (⟨#[]⟩ : ByteArray) W0 := by rw [hW0]; exact blk_new _ _
    have HB0 : Hid (Below w.heap.size w W0) := by rw [hW0]; exact (bel_alloc _ _).drew
    refine wp_region_held_drew (S := Q3 w.heap.size false (⟨#[]⟩ : ByteArray) (⟨#[]⟩ : ByteArray)) (by kernel_rfl) (by rw [← hW0]; exact hS) ?_
    rw [← hW0]
    intro _
    clear hW0
    refine wpAnyH_take (i := 0) rfl (by kernel_rfl) (by kernel_rfl) (by kernel_rfl) (fun _ _ _ h => h) (Or.inl ⟨by kernel_rfl, (by intro w' _; go_simp; with_reducible rfl)⟩) hS ?_
    go_simp
    refine wpAnyH_take (i := 1) (v := .string (⟨#[]⟩ : ByteArray)) rfl (by kernel_rfl) (by kernel_rfl) (by kernel_rfl) (fun _ _ _ h => h) (Or.inl ⟨by kernel_rfl, (by intro w' hw'; obtain ⟨q0, q1, q2⟩ := hw'.cells; go_simp)⟩) hS ?_
    go_simp
    refine wpAnyH_take (i := 3) rfl (by kernel_rfl) (by kernel_rfl) (by kernel_rfl) (fun _ _ _ h => h) (Or.inl ⟨by kernel_rfl, (by intro w' _; go_simp; with_reducible rfl)⟩) hS ?_
    go_simp
    refine wpAnyH_take (i := 4) (v := .string (⟨#[]⟩ : ByteArray)) rfl (by kernel_rfl) (by kernel_rfl) (by kernel_rfl) (fun _ _ _ h => h) (Or.inl ⟨by kernel_rfl, (by intro w' hw'; obtain ⟨q0, q1, q2⟩ := hw'.cells; go_simp)⟩) hS ?_
    go_simp
    refine wpAnyH_ready (rs := [2]) (by kernel_rfl) (by simp) ?_
    refine AllReadyH.cons rfl (fun K hK => ?_) AllReadyH.nil
    go_simp
    refine (N1.out _).mono ?_
    rintro e w1 ⟨rfl, rfl⟩
    refine hK.out _ _ hS (fun _ => ?_)
    clear hK K
    refine wpAnyH_take (i := 5) (v := .bool false) rfl (by kernel_rfl) (by kernel_rfl) (by kernel_rfl) (fun _ _ _ h => h) (Or.inl ⟨by kernel_rfl, (by intro w' _; go_simp)⟩) hS ?_
    go_simp
    refine wpAnyH_take (i := 6) (v := .bool false) rfl (by kernel_rfl) (by kernel_rfl) (by kernel_rfl) (fun _ _ _ h => h) (Or.inl ⟨by kernel_rfl, (by intro w' _; go_simp)⟩) hS ?_
    go_simp
    refine wpAnyH_take (i := 7) rfl (by kernel_rfl) (by kernel_rfl) (by kernel_rfl) (fun _ _ _ h => h) (Or.inl ⟨by kernel_rfl, (by intro w' _; go_simp; with_reducible rfl)⟩) hS ?_
    go_simp
    refine wpAnyH_take (i := 8) (v := .string (⟨#[]⟩ : ByteArray)) rfl (by kernel_rfl) (by kernel_rfl) (by kernel_rfl) (fun _ _ _ h => h) (Or.inl ⟨by kernel_rfl, (by intro w' hw'; obtain ⟨q0, q1, q2⟩ := hw'.cells; go_simp)⟩) hS ?_
    go_simp
    refine wpAnyH_take (i := 10) rfl (by kernel_rfl) (by kernel_rfl) (by kernel_rfl) (fun _ _ _ h => h) (Or.inl ⟨by kernel_rfl, (by intro w' _; go_simp; with_reducible rfl)⟩) hS ?_
    go_simp
    refine wpAnyH_take (i := 11) (v := .string (⟨#[]⟩ : ByteArray)) rfl (by kernel_rfl) (by kernel_rfl) (by kernel_rfl) (fun _ _ _ h => h) (Or.inl ⟨by kernel_rfl, (by intro w' hw'; obtain ⟨q0, q1, q2⟩ := hw'.cells; go_simp)⟩) hS ?_
    go_simp
    refine wpAnyH_ready (rs := [9]) (by kernel_rfl) (by simp) ?_
    refine AllReadyH.cons rfl (fun K hK => ?_) AllReadyH.nil
    go_simp
    refine (N2.out _).mono ?_
    rintro e w2 ⟨rfl, rfl⟩
    refine hK.out _ _ hS (fun _ => ?_)
    clear hK K
    refine wpAnyH_take (i := 12) (v := .bool false) rfl (by kernel_rfl) (by kernel_rfl) (by kernel_rfl) (fun _ _ _ h => h) (Or.inl ⟨by kernel_rfl, (by intro w' _; go_simp)⟩) hS ?_
    go_simp
    refine wpAnyH_take (i := 13) (v := .bool false) rfl (by kernel_rfl) (by kernel_rfl) (by kernel_rfl) (fun _ _ _ h => h) (Or.inl ⟨by kernel_rfl, (by intro w' _; go_simp)⟩) hS ?_
    go_simp
    refine wpAnyH_take (i := 14) (v := .bool false) rfl (by kernel_rfl) (by kernel_rfl) (by kernel_rfl) (fun _ _ _ h => h) (Or.inl ⟨by kernel_rfl, (by intro w' _; go_simp)⟩) hS ?_
    go_simp
    refine wpAnyH_take (i := 15) rfl (by kernel_rfl) (by kernel_rfl) (by kernel_rfl) (fun _ _ _ h => h) (Or.inl ⟨by kernel_rfl, (by intro w' _; go_simp; with_reducible rfl)⟩) hS ?_
    go_simp
    refine wpAnyH_take (i := 16) (v := .string (⟨#[]⟩ : ByteArray)) rfl (by kernel_rfl) (by kernel_rfl) (by kernel_rfl) (fun _ _ _ h => h) (Or.inl ⟨by kernel_rfl, (by intro w' hw'; obtain ⟨q0, q1, q2⟩ := hw'.cells; go_simp)⟩) hS ?_
    go_simp
    refine wpAnyH_take (i := 17) (v := .bool false) rfl (by kernel_rfl) (by kernel_rfl) (by kernel_rfl) (fun _ _ _ h => h) (Or.inl ⟨by kernel_rfl, (by intro w' _; go_simp)⟩) hS ?_
    go_simp
    refine wpAnyH_take (i := 18) (v := .bool false) rfl (by kernel_rfl) (by kernel_rfl) (by kernel_rfl) (fun _ _ _ h => h) (Or.inl ⟨by kernel_rfl, (by intro w' _; go_simp)⟩) hS ?_
    go_simp
    refine wpAnyH_done (by kernel_rfl) ?_ _
    obtain ⟨q0, q1, q2⟩ := hS.cells
    go_wp2_with fail
    go_ret
    exact ⟨rfl, HB0.out⟩
  · go_enter Tryz.func112, Tryz.ntmps112
    go_wp2_with fail
    obtain ⟨W0, hW0⟩ : ∃ W0, W0 = (w.alloc (.cells #[.bool false, .string (⟨#[]⟩ : ByteArray), .string den] 70)).drew := ⟨_, rfl⟩
    have hS : Q3 w.heap.size false (⟨#[]⟩ : ByteArray) den W0 := by rw [hW0]; exact blk_new _ _
    have HB0 : Hid (Below w.heap.size w W0) := by rw [hW0]; exact (bel_alloc _ _).drew
    refine wp_region_held_drew (S := Q3 w.heap.size false (⟨#[]⟩ : ByteArray) den) (by kernel_rfl) (by rw [← hW0]; exact hS) ?_
    rw [← hW0]
    intro _
    clear hW0
    refine wpAnyH_take (i := 0) rfl (by kernel_rfl) (by kernel_rfl) (by kernel_rfl) (fun _ _ _ h => h) (Or.inl ⟨by kernel_rfl, (by intro w' _; go_simp; with_reducible rfl)⟩) hS ?_
    go_simp
    refine wpAnyH_take (i := 1) (v := .string (⟨#[]⟩ : ByteArray)) rfl (by kernel_rfl) (by kernel_rfl) (by kernel_rfl) (fun _ _ _ h => h) (Or.inl ⟨by kernel_rfl, (by intro w' hw'; obtain ⟨q0, q1, q2⟩ := hw'.cells; go_simp)⟩) hS ?_
    go_simp
    refine wpAnyH_take (i := 3) rfl (by kernel_rfl) (by kernel_rfl) (by kernel_rfl) (fun _ _ _ h => h) (Or.inl ⟨by kernel_rfl, (by intro w' _; go_simp; with_reducible rfl)⟩) hS ?_
    go_simp
    refine wpAnyH_take (i := 4) (v := .string (⟨#[]⟩ : ByteArray)) rfl (by kernel_rfl) (by kernel_rfl) (by kernel_rfl) (fun _ _ _ h => h) (Or.inl ⟨by kernel_rfl, (by intro w' hw'; obtain ⟨q0, q1, q2⟩ := hw'.cells; go_simp)⟩) hS ?_
    go_simp
    refine wpAnyH_ready (rs := [2]) (by kernel_rfl) (by simp) ?_
    refine AllReadyH.cons rfl (fun K hK => ?_) AllReadyH.nil
    go_simp
    refine (N1.out _).mono ?_
    rintro e w1 ⟨rfl, rfl⟩
    refine hK.out _ _ hS (fun _ => ?_)
    clear hK K
    refine wpAnyH_take (i := 5) (v := .bool false) rfl (by kernel_rfl) (by kernel_rfl) (by kernel_rfl) (fun _ _ _ h => h) (Or.inl ⟨by kernel_rfl, (by intro w' _; go_simp)⟩) hS ?_
    go_simp
    refine wpAnyH_take (i := 6) (v := .bool false) rfl (by kernel_rfl) (by kernel_rfl) (by kernel_rfl) (fun _ _ _ h => h) (Or.inl ⟨by kernel_rfl, (by intro w' _; go_simp)⟩) hS ?_
    go_simp
    refine wpAnyH_take (i := 7) rfl (by kernel_rfl) (by kernel_rfl) (by kernel_rfl) (fun _ _ _ h => h) (Or.inl ⟨by kernel_rfl, (by intro w' _; go_simp; with_reducible rfl)⟩) hS ?_
    go_simp
    refine wpAnyH_take (i := 8) (v := .string den) rfl (by kernel_rfl) (by kernel_rfl) (by kernel_rfl) (fun _ _ _ h => h) (Or.inl ⟨by kernel_rfl, (by intro w' hw'; obtain ⟨q0, q1, q2⟩ := hw'.cells; go_simp)⟩) hS ?_
    go_simp
    refine wpAnyH_take (i := 10) rfl (by kernel_rfl) (by kernel_rfl) (by kernel_rfl) (fun _ _ _ h => h) (Or.inl ⟨by kernel_rfl, (by intro w' _; go_simp; with_reducible rfl)⟩) hS ?_
    go_simp
    refine wpAnyH_take (i := 11) (v := .string den) rfl (by kernel_rfl) (by kernel_rfl) (by kernel_rfl) (fun _ _ _ h => h) (Or.inl ⟨by kernel_rfl, (by intro w' hw'; obtain ⟨q0, q1, q2⟩ := hw'.cells; go_simp)⟩) hS ?_
    go_simp
    refine wpAnyH_ready (rs := [9]) (by kernel_rfl) (by simp) ?_
    refine AllReadyH.cons rfl (fun K hK => ?_) AllReadyH.nil
    go_simp
    refine (N2.out _).mono ?_
    rintro e w2 ⟨rfl, rfl⟩
    refine hK.out _ _ hS (fun _ => ?_)
    clear hK K
    refine wpAnyH_take (i := 12) (v := .bool false) rfl (by kernel_rfl) (by kernel_rfl) (by kernel_rfl) (fun _ _ _ h => h) (Or.inl ⟨by kernel_rfl, (by intro w' _; go_simp)⟩) hS ?_
    go_simp
    refine wpAnyH_take (i := 13) (v := .bool false) rfl (by kernel_rfl) (by kernel_rfl) (by kernel_rfl) (fun _ _ _ h => h) (Or.inl ⟨by kernel_rfl, (by intro w' _; go_simp)⟩) hS ?_
    go_simp
    refine wpAnyH_take (i := 14) (v := .bool false) rfl (by kernel_rfl) (by kernel_rfl) (by kernel_rfl) (fun _ _ _ h => h) (Or.inl ⟨by kernel_rfl, (by intro w' _; go_simp)⟩) hS ?_
    go_simp
    refine wpAnyH_take (i := 15) rfl (by kernel_rfl) (by kernel_rfl) (by kernel_rfl) (fun _ _ _ h => h) (Or.inl ⟨by kernel_rfl, (by intro w' _; go_simp; with_reducible rfl)⟩) hS ?_
    go_simp
    refine wpAnyH_take (i := 16) (v := .string den) rfl (by kernel_rfl) (by kernel_rfl) (by kernel_rfl) (fun _ _ _ h => h) (Or.inl ⟨by kernel_rfl, (by intro w' hw'; obtain ⟨q0, q1, q2⟩ := hw'.cells; go_simp)⟩) hS ?_
    go_simp
    refine wpAnyH_take (i := 17) (v := .bool false) rfl (by kernel_rfl) (by kernel_rfl) (by kernel_rfl) (fun _ _ _ h => h) (Or.inl ⟨by kernel_rfl, (by intro w' _; go_simp)⟩) hS ?_
    go_simp
    refine wpAnyH_take (i := 18) (v := .bool false) rfl (by kernel_rfl) (by kernel_rfl) (by kernel_rfl) (fun _ _ _ h => h) (Or.inl ⟨by kernel_rfl, (by intro w' _; go_simp)⟩) hS ?_
    go_simp
    refine wpAnyH_done (by kernel_rfl) ?_ _
    obtain ⟨q0, q1, q2⟩ := hS.cells
    go_wp2_with fail
    go_ret
    exact ⟨rfl, HB0.out⟩

set_option maxHeartbeats 2000000 in
set_option maxRecDepth 100000 in
theorem validR_whole (neg : Bool) (num den : ByteArray) (w : World) (hz1 : num.size ≤ 100000) (hz2 : den.size ≤ 100000) (h1 : nrm num = num) (h2 : nrm den = den) (h0 : num.toList.isEmpty = false) (hd : den = ⟨#[]⟩) :
    Calls Tryz.prog 112 #[.agg #[.bool neg, .string num, .string den]] w fun e w' => e = .returned (.bool true) ∧ Below w.heap.size w w' := by
  have N1' := fun w => normRef_calls num w (by omega)
  rw [show ncan (snum num) = num from h1] at N1'
  have N1 := Lib.hid N1'
  clear N1' h1
  have N2' := fun w => normRef_calls den w (by omega)
  rw [show ncan (snum den) = den from h2] at N2'
  have N2 := Lib.hid N2'
  clear N2' h2
  clear hz1 hz2
  subst hd
  go_enter Tryz.func112, Tryz.ntmps112
  go_wp2_with fail
  obtain ⟨W0, hW0⟩ : ∃ W0, W0 = (w.alloc (.cells #[.bool neg, .string num, .string (⟨#[]⟩ : ByteArray)] 70)).drew := ⟨_, rfl⟩
  have hS : Q3 w.heap.size neg num (⟨#[]⟩ : ByteArray) W0 := by rw [hW0]; exact blk_new _ _
  have HB0 : Hid (Below w.heap.size w W0) := by rw [hW0]; exact (bel_alloc _ _).drew
  refine wp_region_held_drew (S := Q3 w.heap.size neg num (⟨#[]⟩ : ByteArray)) (by kernel_rfl) (by rw [← hW0]; exact hS) ?_
  rw [← hW0]
  intro _
  clear hW0
  refine wpAnyH_take (i := 0) rfl (by kernel_rfl) (by kernel_rfl) (by kernel_rfl) (fun _ _ _ h => h) (Or.inl ⟨by kernel_rfl, (by intro w' _; go_simp; with_reducible rfl)⟩) hS ?_
  go_simp
  refine wpAnyH_take (i := 1) (v := .string num) rfl (by kernel_rfl) (by kernel_rfl) (by kernel_rfl) (fun _ _ _ h => h) (Or.inl ⟨by kernel_rfl, (by intro w' hw'; obtain ⟨q0, q1, q2⟩ := hw'.cells; go_simp)⟩) hS ?_
  go_simp
  refine wpAnyH_take (i := 3) rfl (by kernel_rfl) (by kernel_rfl) (by kernel_rfl) (fun _ _ _ h => h) (Or.inl ⟨by kernel_rfl, (by intro w' _; go_simp; with_reducible rfl)⟩) hS ?_
  go_simp
  refine wpAnyH_take (i := 4) (v := .string num) rfl (by kernel_rfl) (by kernel_rfl) (by kernel_rfl) (fun _ _ _ h => h) (Or.inl ⟨by kernel_rfl, (by intro w' hw'; obtain ⟨q0, q1, q2⟩ := hw'.cells; go_simp)⟩) hS ?_
  go_simp
  refine wpAnyH_ready (rs := [2]) (by kernel_rfl) (by simp) ?_
  refine AllReadyH.cons rfl (fun K hK => ?_) AllReadyH.nil
  go_simp
  refine (N1.out _).mono ?_
  rintro e w1 ⟨rfl, rfl⟩
  refine hK.out _ _ hS (fun _ => ?_)
  clear hK K
  refine wpAnyH_take (i := 5) (v := .bool false) rfl (by kernel_rfl) (by kernel_rfl) (by kernel_rfl) (fun _ _ _ h => h) (Or.inl ⟨by kernel_rfl, (by intro w' _; go_simp)⟩) hS ?_
  go_simp
  refine wpAnyH_take (i := 6) (v := .bool false) rfl (by kernel_rfl) (by kernel_rfl) (by kernel_rfl) (fun _ _ _ h => h) (Or.inl ⟨by kernel_rfl, (by intro w' _; go_simp)⟩) hS ?_
  go_simp
  refine wpAnyH_take (i := 7) rfl (by kernel_rfl) (by kernel_rfl) (by kernel_rfl) (fun _ _ _ h => h) (Or.inl ⟨by kernel_rfl, (by intro w' _; go_simp; with_reducible rfl)⟩) hS ?_
  go_simp
  refine wpAnyH_take (i := 8) (v := .string (⟨#[]⟩ : ByteArray)) rfl (by kernel_rfl) (by kernel_rfl) (by kernel_rfl) (fun _ _ _ h => h) (Or.inl ⟨by kernel_rfl, (by intro w' hw'; obtain ⟨q0, q1, q2⟩ := hw'.cells; go_simp)⟩) hS ?_
  go_simp
  refine wpAnyH_take (i := 10) rfl (by kernel_rfl) (by kernel_rfl) (by kernel_rfl) (fun _ _ _ h => h) (Or.inl ⟨by kernel_rfl, (by intro w' _; go_simp; with_reducible rfl)⟩) hS ?_
  go_simp
  refine wpAnyH_take (i := 11) (v := .string (⟨#[]⟩ : ByteArray)) rfl (by kernel_rfl) (by kernel_rfl) (by kernel_rfl) (fun _ _ _ h => h) (Or.inl ⟨by kernel_rfl, (by intro w' hw'; obtain ⟨q0, q1, q2⟩ := hw'.cells; go_simp)⟩) hS ?_
  go_simp
  refine wpAnyH_ready (rs := [9]) (by kernel_rfl) (by simp) ?_
  refine AllReadyH.cons rfl (fun K hK => ?_) AllReadyH.nil
  go_simp
  refine (N2.out _).mono ?_
  rintro e w2 ⟨rfl, rfl⟩
  refine hK.out _ _ hS (fun _ => ?_)
  clear hK K
  refine wpAnyH_take (i := 12) (v := .bool false) rfl (by kernel_rfl) (by kernel_rfl) (by kernel_rfl) (fun _ _ _ h => h) (Or.inl ⟨by kernel_rfl, (by intro w' _; go_simp)⟩) hS ?_
  go_simp
  refine wpAnyH_take (i := 13) (v := .bool false) rfl (by kernel_rfl) (by kernel_rfl) (by kernel_rfl) (fun _ _ _ h => h) (Or.inl ⟨by kernel_rfl, (by intro w' _; go_simp)⟩) hS ?_
  go_simp
  refine wpAnyH_take (i := 14) (v := .bool false) rfl (by kernel_rfl) (by kernel_rfl) (by kernel_rfl) (fun _ _ _ h => h) (Or.inl ⟨by kernel_rfl, (by intro w' _; go_simp)⟩) hS ?_
  go_simp
  refine wpAnyH_take (i := 15) rfl (by kernel_rfl) (by kernel_rfl) (by kernel_rfl) (fun _ _ _ h => h) (Or.inl ⟨by kernel_rfl, (by intro w' _; go_simp; with_reducible rfl)⟩) hS ?_
  go_simp
  refine wpAnyH_take (i := 16) (v := .string (⟨#[]⟩ : ByteArray)) rfl (by kernel_rfl) (by kernel_rfl) (by kernel_rfl) (fun _ _ _ h => h) (Or.inl ⟨by kernel_rfl, (by intro w' hw'; obtain ⟨q0, q1, q2⟩ := hw'.cells; go_simp)⟩) hS ?_
  go_simp
  refine wpAnyH_take (i := 17) (v := .bool false) rfl (by kernel_rfl) (by kernel_rfl) (by kernel_rfl) (fun _ _ _ h => h) (Or.inl ⟨by kernel_rfl, (by intro w' _; go_simp)⟩) hS ?_
  go_simp
  refine wpAnyH_take (i := 18) (v := .bool false) rfl (by kernel_rfl) (by kernel_rfl) (by kernel_rfl) (fun _ _ _ h => h) (Or.inl ⟨by kernel_rfl, (by intro w' _; go_simp)⟩) hS ?_
  go_simp
  refine wpAnyH_done (by kernel_rfl) ?_ _
  obtain ⟨q0, q1, q2⟩ := hS.cells
  go_wp2_with fail
  go_ret
  exact ⟨rfl, HB0.out⟩

set_option maxHeartbeats 2000000 in
set_option maxRecDepth 100000 in
theorem validR_gcd (neg : Bool) (num den : ByteArray) (w : World) (hz1 : num.size ≤ 100000) (hz2 : den.size ≤ 100000) (h1 : nrm num = num) (h2 : nrm den = den) (h0 : num.toList.isEmpty = false) (hd : den.toList.isEmpty = false) (hd1 : den ≠ ⟨#[1]⟩) (hg : Nat.gcd (snum num) (snum den) = 1) :
    Calls Tryz.prog 112 #[.agg #[.bool neg, .string num, .string den]] w fun e w' => e = .returned (.bool true) ∧ Below w.heap.size w w' := by
  have GG' := fun w => ref_gcd (s := num) (t := den) ⟨rfl, hz1⟩ ⟨rfl, hz2⟩ (rfl : Nat.gcd (snum num) (snum den) = _) w
  rw [hg, ncan_one] at GG'
  have GG := Lib.hid GG'
  clear GG' hg
  have tn : ¬ den.toList = [1] := toList_ne1 hd1
  clear hd1
  have N1' := fun w => normRef_calls num w (by omega)
  rw [show ncan (snum num) = num from h1] at N1'
  have N1 := Lib.hid N1'
  clear N1' h1
  have N2' := fun w => normRef_calls den w (by omega)
  rw [show ncan (snum den) = den from h2] at N2'
  have N2 := Lib.hid N2'
  clear N2' h2
  clear hz1 hz2
  go_enter Tryz.func112, Tryz.ntmps112
  go_wp2_with fail
  obtain ⟨W0, hW0⟩ : ∃ W0, W0 = (w.alloc (.cells #[.bool neg, .string num, .string den] 70)).drew := ⟨_, rfl⟩
  have hS : Q3 w.heap.size neg num den W0 := by rw [hW0]; exact blk_new _ _
  have HB0 : Hid (Below w.heap.size w W0) := by rw [hW0]; exact (bel_alloc _ _).drew
  refine wp_region_held_drew (S := Q3 w.heap.size neg num den) (by kernel_rfl) (by rw [← hW0]; exact hS) ?_
  rw [← hW0]
  intro _
  clear hW0
  refine wpAnyH_take (i := 0) rfl (by kernel_rfl) (by kernel_rfl) (by kernel_rfl) (fun _ _ _ h => h) (Or.inl ⟨by kernel_rfl, (by intro w' _; go_simp; with_reducible rfl)⟩) hS ?_
  go_simp
  refine wpAnyH_take (i := 1) (v := .string num) rfl (by kernel_rfl) (by kernel_rfl) (by kernel_rfl) (fun _ _ _ h => h) (Or.inl ⟨by kernel_rfl, (by intro w' hw'; obtain ⟨q0, q1, q2⟩ := hw'.cells; go_simp)⟩) hS ?_
  go_simp
  refine wpAnyH_take (i := 3) rfl (by kernel_rfl) (by kernel_rfl) (by kernel_rfl) (fun _ _ _ h => h) (Or.inl ⟨by kernel_rfl, (by intro w' _; go_simp; with_reducible rfl)⟩) hS ?_
  go_simp
  refine wpAnyH_take (i := 4) (v := .string num) rfl (by kernel_rfl) (by kernel_rfl) (by kernel_rfl) (fun _ _ _ h => h) (Or.inl ⟨by kernel_rfl, (by intro w' hw'; obtain ⟨q0, q1, q2⟩ := hw'.cells; go_simp)⟩) hS ?_
  go_simp
  refine wpAnyH_ready (rs := [2]) (by kernel_rfl) (by simp) ?_
  refine AllReadyH.cons rfl (fun K hK => ?_) AllReadyH.nil
  go_simp
  refine (N1.out _).mono ?_
  rintro e w1 ⟨rfl, rfl⟩
  refine hK.out _ _ hS (fun _ => ?_)
  clear hK K
  refine wpAnyH_take (i := 5) (v := .bool false) rfl (by kernel_rfl) (by kernel_rfl) (by kernel_rfl) (fun _ _ _ h => h) (Or.inl ⟨by kernel_rfl, (by intro w' _; go_simp)⟩) hS ?_
  go_simp
  refine wpAnyH_take (i := 6) (v := .bool false) rfl (by kernel_rfl) (by kernel_rfl) (by kernel_rfl) (fun _ _ _ h => h) (Or.inl ⟨by kernel_rfl, (by intro w' _; go_simp)⟩) hS ?_
  go_simp
  refine wpAnyH_take (i := 7) rfl (by kernel_rfl) (by kernel_rfl) (by kernel_rfl) (fun _ _ _ h => h) (Or.inl ⟨by kernel_rfl, (by intro w' _; go_simp; with_reducible rfl)⟩) hS ?_
  go_simp
  refine wpAnyH_take (i := 8) (v := .string den) rfl (by kernel_rfl) (by kernel_rfl) (by kernel_rfl) (fun _ _ _ h => h) (Or.inl ⟨by kernel_rfl, (by intro w' hw'; obtain ⟨q0, q1, q2⟩ := hw'.cells; go_simp)⟩) hS ?_
  go_simp
  refine wpAnyH_take (i := 10) rfl (by kernel_rfl) (by kernel_rfl) (by kernel_rfl) (fun _ _ _ h => h) (Or.inl ⟨by kernel_rfl, (by intro w' _; go_simp; with_reducible rfl)⟩) hS ?_
  go_simp
  refine wpAnyH_take (i := 11) (v := .string den) rfl (by kernel_rfl) (by kernel_rfl) (by kernel_rfl) (fun _ _ _ h => h) (Or.inl ⟨by kernel_rfl, (by intro w' hw'; obtain ⟨q0, q1, q2⟩ := hw'.cells; go_simp)⟩) hS ?_
  go_simp
  refine wpAnyH_ready (rs := [9]) (by kernel_rfl) (by simp) ?_
  refine AllReadyH.cons rfl (fun K hK => ?_) AllReadyH.nil
  go_simp
  refine (N2.out _).mono ?_
  rintro e w2 ⟨rfl, rfl⟩
  refine hK.out _ _ hS (fun _ => ?_)
  clear hK K
  refine wpAnyH_take (i := 12) (v := .bool false) rfl (by kernel_rfl) (by kernel_rfl) (by kernel_rfl) (fun _ _ _ h => h) (Or.inl ⟨by kernel_rfl, (by intro w' _; go_simp)⟩) hS ?_
  go_simp
  refine wpAnyH_take (i := 13) (v := .bool false) rfl (by kernel_rfl) (by kernel_rfl) (by kernel_rfl) (fun _ _ _ h => h) (Or.inl ⟨by kernel_rfl, (by intro w' _; go_simp)⟩) hS ?_
  go_simp
  refine wpAnyH_take (i := 14) (v := .bool false) rfl (by kernel_rfl) (by kernel_rfl) (by kernel_rfl) (fun _ _ _ h => h) (Or.inl ⟨by kernel_rfl, (by intro w' _; go_simp)⟩) hS ?_
  go_simp
  refine wpAnyH_take (i := 15) rfl (by kernel_rfl) (by kernel_rfl) (by kernel_rfl) (fun _ _ _ h => h) (Or.inl ⟨by kernel_rfl, (by intro w' _; go_simp; with_reducible rfl)⟩) hS ?_
  go_simp
  refine wpAnyH_take (i := 16) (v := .string den) rfl (by kernel_rfl) (by kernel_rfl) (by kernel_rfl) (fun _ _ _ h => h) (Or.inl ⟨by kernel_rfl, (by intro w' hw'; obtain ⟨q0, q1, q2⟩ := hw'.cells; go_simp)⟩) hS ?_
  go_simp
  refine wpAnyH_take (i := 17) (v := .bool false) rfl (by kernel_rfl) (by kernel_rfl) (by kernel_rfl) (fun _ _ _ h => h) (Or.inl ⟨by kernel_rfl, (by intro w' _; go_simp)⟩) hS ?_
  go_simp
  refine wpAnyH_take (i := 18) (v := .bool false) rfl (by kernel_rfl) (by kernel_rfl) (by kernel_rfl) (fun _ _ _ h => h) (Or.inl ⟨by kernel_rfl, (by intro w' _; go_simp)⟩) hS ?_
  go_simp
  refine wpAnyH_done (by kernel_rfl) ?_ _
  obtain ⟨q0, q1, q2⟩ := hS.cells
  go_wp2_with fail
  refine (GG.out _).mono ?_
  rintro e w5 ⟨rfl, hb5⟩
  have HB5 := Lib.hid (HB0.out.trans (hb5.mono HB0.out.size))
  clear hb5
  go_wp2_with fail
  go_ret
  exact ⟨by simp [tn], HB5.out⟩

set_option maxHeartbeats 2000000 in
set_option maxRecDepth 100000 in
theorem validR_ngcd (neg : Bool) (num den : ByteArray) (w : World) (hz1 : num.size ≤ 100000) (hz2 : den.size ≤ 100000) (h1 : nrm num = num) (h2 : nrm den = den) (h0 : num.toList.isEmpty = false) (hd : den.toList.isEmpty = false) (hd1 : den ≠ ⟨#[1]⟩) (hg : Nat.gcd (snum num) (snum den) ≠ 1) :
    Calls Tryz.prog 112 #[.agg #[.bool neg, .string num, .string den]] w fun e w' => e = .returned (.bool false) ∧ Below w.heap.size w w' := by
  have GG' := fun w => ref_gcd (s := num) (t := den) ⟨rfl, hz1⟩ ⟨rfl, hz2⟩ (rfl : Nat.gcd (snum num) (snum den) = _) w
  obtain ⟨gg, hgg⟩ : ∃ gg, gg = ncan (Nat.gcd (snum num) (snum den)) := ⟨_, rfl⟩
  have tg : ¬ gg.toList = [1] := toList_ne1 (by rw [hgg, ← ncan_one]; exact fun e => hg (by have := congrArg snum e; rwa [snum_ncan, snum_ncan] at this))
  rw [← hgg] at GG'
  have GG := Lib.hid GG'
  clear GG' hg hgg
  have tn : ¬ den.toList = [1] := toList_ne1 hd1
  clear hd1
  have N1' := fun w => normRef_calls num w (by omega)
  rw [show ncan (snum num) = num from h1] at N1'
  have N1 := Lib.hid N1'
  clear N1' h1
  have N2' := fun w => normRef_calls den w (by omega)
  rw [show ncan (snum den) = den from h2] at N2'
  have N2 := Lib.hid N2'
  clear N2' h2
  clear hz1 hz2
  go_enter Tryz.func112, Tryz.ntmps112
  go_wp2_with fail
  obtain ⟨W0, hW0⟩ : ∃ W0, W0 = (w.alloc (.cells #[.bool neg, .string num, .string den] 70)).drew := ⟨_, rfl⟩
  have hS : Q3 w.heap.size neg num den W0 := by rw [hW0]; exact blk_new _ _
  have HB0 : Hid (Below w.heap.size w W0) := by rw [hW0]; exact (bel_alloc _ _).drew
  refine wp_region_held_drew (S := Q3 w.heap.size neg num den) (by kernel_rfl) (by rw [← hW0]; exact hS) ?_
  rw [← hW0]
  intro _
  clear hW0
  refine wpAnyH_take (i := 0) rfl (by kernel_rfl) (by kernel_rfl) (by kernel_rfl) (fun _ _ _ h => h) (Or.inl ⟨by kernel_rfl, (by intro w' _; go_simp; with_reducible rfl)⟩) hS ?_
  go_simp
  refine wpAnyH_take (i := 1) (v := .string num) rfl (by kernel_rfl) (by kernel_rfl) (by kernel_rfl) (fun _ _ _ h => h) (Or.inl ⟨by kernel_rfl, (by intro w' hw'; obtain ⟨q0, q1, q2⟩ := hw'.cells; go_simp)⟩) hS ?_
  go_simp
  refine wpAnyH_take (i := 3) rfl (by kernel_rfl) (by kernel_rfl) (by kernel_rfl) (fun _ _ _ h => h) (Or.inl ⟨by kernel_rfl, (by intro w' _; go_simp; with_reducible rfl)⟩) hS ?_
  go_simp
  refine wpAnyH_take (i := 4) (v := .string num) rfl (by kernel_rfl) (by kernel_rfl) (by kernel_rfl) (fun _ _ _ h => h) (Or.inl ⟨by kernel_rfl, (by intro w' hw'; obtain ⟨q0, q1, q2⟩ := hw'.cells; go_simp)⟩) hS ?_
  go_simp
  refine wpAnyH_ready (rs := [2]) (by kernel_rfl) (by simp) ?_
  refine AllReadyH.cons rfl (fun K hK => ?_) AllReadyH.nil
  go_simp
  refine (N1.out _).mono ?_
  rintro e w1 ⟨rfl, rfl⟩
  refine hK.out _ _ hS (fun _ => ?_)
  clear hK K
  refine wpAnyH_take (i := 5) (v := .bool false) rfl (by kernel_rfl) (by kernel_rfl) (by kernel_rfl) (fun _ _ _ h => h) (Or.inl ⟨by kernel_rfl, (by intro w' _; go_simp)⟩) hS ?_
  go_simp
  refine wpAnyH_take (i := 6) (v := .bool false) rfl (by kernel_rfl) (by kernel_rfl) (by kernel_rfl) (fun _ _ _ h => h) (Or.inl ⟨by kernel_rfl, (by intro w' _; go_simp)⟩) hS ?_
  go_simp
  refine wpAnyH_take (i := 7) rfl (by kernel_rfl) (by kernel_rfl) (by kernel_rfl) (fun _ _ _ h => h) (Or.inl ⟨by kernel_rfl, (by intro w' _; go_simp; with_reducible rfl)⟩) hS ?_
  go_simp
  refine wpAnyH_take (i := 8) (v := .string den) rfl (by kernel_rfl) (by kernel_rfl) (by kernel_rfl) (fun _ _ _ h => h) (Or.inl ⟨by kernel_rfl, (by intro w' hw'; obtain ⟨q0, q1, q2⟩ := hw'.cells; go_simp)⟩) hS ?_
  go_simp
  refine wpAnyH_take (i := 10) rfl (by kernel_rfl) (by kernel_rfl) (by kernel_rfl) (fun _ _ _ h => h) (Or.inl ⟨by kernel_rfl, (by intro w' _; go_simp; with_reducible rfl)⟩) hS ?_
  go_simp
  refine wpAnyH_take (i := 11) (v := .string den) rfl (by kernel_rfl) (by kernel_rfl) (by kernel_rfl) (fun _ _ _ h => h) (Or.inl ⟨by kernel_rfl, (by intro w' hw'; obtain ⟨q0, q1, q2⟩ := hw'.cells; go_simp)⟩) hS ?_
  go_simp
  refine wpAnyH_ready (rs := [9]) (by kernel_rfl) (by simp) ?_
  refine AllReadyH.cons rfl (fun K hK => ?_) AllReadyH.nil
  go_simp
  refine (N2.out _).mono ?_
  rintro e w2 ⟨rfl, rfl⟩
  refine hK.out _ _ hS (fun _ => ?_)
  clear hK K
  refine wpAnyH_take (i := 12) (v := .bool false) rfl (by kernel_rfl) (by kernel_rfl) (by kernel_rfl) (fun _ _ _ h => h) (Or.inl ⟨by kernel_rfl, (by intro w' _; go_simp)⟩) hS ?_
  go_simp
  refine wpAnyH_take (i := 13) (v := .bool false) rfl (by kernel_rfl) (by kernel_rfl) (by kernel_rfl) (fun _ _ _ h => h) (Or.inl ⟨by kernel_rfl, (by intro w' _; go_simp)⟩) hS ?_
  go_simp
  refine wpAnyH_take (i := 14) (v := .bool false) rfl (by kernel_rfl) (by kernel_rfl) (by kernel_rfl) (fun _ _ _ h => h) (Or.inl ⟨by kernel_rfl, (by intro w' _; go_simp)⟩) hS ?_
  go_simp
  refine wpAnyH_take (i := 15) rfl (by kernel_rfl) (by kernel_rfl) (by kernel_rfl) (fun _ _ _ h => h) (Or.inl ⟨by kernel_rfl, (by intro w' _; go_simp; with_reducible rfl)⟩) hS ?_
  go_simp
  refine wpAnyH_take (i := 16) (v := .string den) rfl (by kernel_rfl) (by kernel_rfl) (by kernel_rfl) (fun _ _ _ h => h) (Or.inl ⟨by kernel_rfl, (by intro w' hw'; obtain ⟨q0, q1, q2⟩ := hw'.cells; go_simp)⟩) hS ?_
  go_simp
  refine wpAnyH_take (i := 17) (v := .bool false) rfl (by kernel_rfl) (by kernel_rfl) (by kernel_rfl) (fun _ _ _ h => h) (Or.inl ⟨by kernel_rfl, (by intro w' _; go_simp)⟩) hS ?_
  go_simp
  refine wpAnyH_take (i := 18) (v := .bool false) rfl (by kernel_rfl) (by kernel_rfl) (by kernel_rfl) (fun _ _ _ h => h) (Or.inl ⟨by kernel_rfl, (by intro w' _; go_simp)⟩) hS ?_
  go_simp
  refine wpAnyH_done (by kernel_rfl) ?_ _
  obtain ⟨q0, q1, q2⟩ := hS.cells
  go_wp2_with fail
  refine (GG.out _).mono ?_
  rintro e w5 ⟨rfl, hb5⟩
  have HB5 := Lib.hid (HB0.out.trans (hb5.mono HB0.out.size))
  clear hb5
  go_wp2_with fail
  go_ret
  exact ⟨by simp [tn, tg], HB5.out⟩

theorem validR_calls (neg : Bool) (num den : ByteArray) (w : World) (hs1 : num.size ≤ 100000) (hs2 : den.size ≤ 100000) :
    Calls Tryz.prog 112 #[.agg #[.bool neg, .string num, .string den]] w fun e w' => e = .returned (.bool (vld neg num den)) ∧ Below w.heap.size w w' := by
  unfold vld
  by_cases h1 : nrm num = num
  · rw [decide_eq_true h1, Bool.true_and]
    by_cases h2 : nrm den = den
    · rw [decide_eq_true h2, Bool.true_and]
      by_cases hd1 : snum den = 1
      · rw [hd1]
        have := validR_one neg num den w hs1 hs2 h1 h2 (nrm_one h2 hd1)
        by_cases h0 : snum num = 0
        · rw [if_pos h0]; cases neg <;> exact this
        · rw [if_neg h0]; exact this
      · have hn1 := nrm_oneN h2 hd1
        by_cases h0 : snum num = 0
        · rw [if_pos h0]
          cases neg
          · refine validR_zden false num den w hs1 hs2 h1 h2 hn1 (nrm_zero h1 h0) rfl _ ?_
            by_cases hd : snum den = 0
            · exact .inl ⟨by simp [hd], nrm_zero h2 hd⟩
            · exact .inr ⟨by simp [hd], nrm_pos h2 hd⟩
          · exact validR_zneg true num den w hs1 hs2 h1 h2 hn1 (nrm_zero h1 h0) rfl
        · rw [if_neg h0]
          by_cases hd : snum den = 0
          · rw [decide_eq_true hd, Bool.true_or]
            exact validR_whole neg num den w hs1 hs2 h1 h2 (nrm_pos h1 h0) (nrm_zero h2 hd)
          · rw [decide_eq_false hd, Bool.false_or, decide_eq_true hd1, Bool.true_and]
            by_cases hg : Nat.gcd (snum num) (snum den) = 1
            · rw [decide_eq_true hg]
              exact validR_gcd neg num den w hs1 hs2 h1 h2 (nrm_pos h1 h0) (nrm_pos h2 hd) hn1 hg
            · rw [decide_eq_false hg]
              exact validR_ngcd neg num den w hs1 hs2 h1 h2 (nrm_pos h1 h0) (nrm_pos h2 hd) hn1 hg
    · rw [decide_eq_false h2, Bool.false_and]
      exact validR_den neg num den w hs1 hs2 h1 h2
  · rw [decide_eq_false h1, Bool.false_and]
    exact validR_num neg num den w hs1 hs2 h1

end Go.Proofs.YtomfcmlomfcghaaGreatDoor

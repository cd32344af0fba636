/- rational.Valid. -/
import Derived.Test.YtjlicnhkemfmiaaGreatDoorSq
import Derived.Test.YtjlicnhkemfmiaaGreatDoorM2
import Derived.Test.YtjlicnhkemfmiaaGreatDoorM6
import Derived.Deep.RegionHeld3
set_option linter.unusedVariables false
set_option linter.unusedSimpArgs false
set_option maxHeartbeats 8000000
set_option maxRecDepth 100000
namespace Go.Proofs.YtjlicnhkemfmiaaGreatDoor
open Go.RowKit

/-- three cells in a block -/
def Q3 (g : Nat) (neg : Bool) (num den : ByteArray) (W : World) : Prop := W.heap[g]? = some (.cells #[.bool neg, .string num, .string den] 33 (0, 0))
theorem Q3.cells {g : Nat} {neg : Bool} {num den : ByteArray} {W : World} (h : Q3 g neg num den W) : W.cell? ⟨g, 0, none⟩ = some (.bool neg) ∧ W.cell? ⟨g, 1, none⟩ = some (.string num) ∧ W.cell? ⟨g, 2, none⟩ = some (.string den) := by
 obtain ⟨a, b, c, _⟩ := three_of h
 exact ⟨a, b, c⟩
theorem Q3.next {g : Nat} {neg : Bool} {num den : ByteArray} {W W' : World} (h : Q3 g neg num den W) (hb : Below W.heap.size W W') : Q3 g neg num den W' := blk_next h hb
/-- a string without leading zeros -/
def nrm (s : ByteArray) : ByteArray := ncan (snum s)

theorem toList_ne {a b : ByteArray} (h : a ≠ b) : ¬ a.toList = b.toList := fun e => h (by
 rw [Lib.toList_data, Lib.toList_data] at e
 exact congrArg ByteArray.mk (Array.toList_inj.1 e))
theorem ncan_one : ncan 1 = ⟨#[1]⟩ := by
 unfold ncan canon
 rw [canB_pos (by decide)]
 simp only [Nat.reduceDiv]
 rw [canB_zero]; rfl
theorem toList_ne1 {a : ByteArray} (h : a ≠ ⟨#[1]⟩) : ¬ a.toList = [1] := by
 have := toList_ne h
 rwa [show (⟨#[1]⟩ : ByteArray).toList = [1] by rw [Lib.toList_data]] at this
theorem snum_emptyB : snum (⟨#[]⟩ : ByteArray) = 0 := rfl

theorem validP_num (neg : Bool) (num den : ByteArray) (w : World) (hne : nrm num ≠ num) :
 Calls Tryz.prog 63 #[.agg #[.bool neg, .string num, .string den]] w fun e w' => e = .returned (.bool false) ∧ Below w.heap.size w w' := by
 have N1' := fun w => normalize_calls num w
 obtain ⟨nn, hnn⟩ : ∃ nn, nn = ncan (snum num) := ⟨_, rfl⟩
 rw [← hnn] at N1'
 have tl : ¬ nn.toList = num.toList := toList_ne (by rw [hnn]; exact hne)
 have N1 := Lib.hid N1'
 clear N1' hnn hne
 go_enter Tryz.func63, Tryz.ntmps63
 go_wp2_with fail
 obtain ⟨W0, hW0⟩ : ∃ W0, W0 = (w.alloc (.cells #[.bool neg, .string num, .string den] 33)).drew := ⟨_, rfl⟩
 have hS : Q3 w.heap.size neg num den W0 := by rw [hW0]; exact blk_new _ _
 have HB0 : Hid (Below w.heap.size w W0) := by rw [hW0]; exact (bel_alloc _ _).drew
 refine wp_region_held_drew (S := Q3 w.heap.size neg num den) (by kernel_rfl) (by rw [← hW0]; exact hS) ?_
 rw [← hW0]
 intro _
 clear hW0
 refine tk 0 hS ?_
 go_simp
 refine tv 1 (.string num) rfl (by intro w' hw'; obtain ⟨q0, q1, q2⟩ := hw'.cells; go_simp) hS ?_
 go_simp
 refine tk 3 hS ?_
 go_simp
 refine tv 4 (.string num) rfl (by intro w' hw'; obtain ⟨q0, q1, q2⟩ := hw'.cells; go_simp) hS ?_
 go_simp
 refine tr 2 (fun K hK => ?_)
 go_simp
 refine (N1.out _).mono ?_
 rintro e w1 ⟨rfl, rfl⟩
 refine hK.out _ _ hS (fun _ => ?_)
 clear hK K
 refine tv 5 (.bool true) rfl (by intro w' _; go_simp) hS ?_
 go_simp
 refine tv 6 (.bool true) rfl (by intro w' _; go_simp) hS ?_
 go_simp
 refine tu 7 hS ?_
 go_simp
 refine tu 8 hS ?_
 go_simp
 refine tu 9 hS ?_
 go_simp
 refine tu 10 hS ?_
 go_simp
 refine tu 11 hS ?_
 go_simp
 refine tu 12 hS ?_
 go_simp
 refine tv 13 (.bool true) rfl (by intro w' _; go_simp) hS ?_
 go_simp
 refine wpAnyH_done (by kernel_rfl) ?_ _
 go_wp2_with fail
 go_ret
 exact ⟨rfl, HB0.out⟩

theorem validP_den (neg : Bool) (num den : ByteArray) (w : World) (h1 : nrm num = num) (hne : nrm den ≠ den) :
 Calls Tryz.prog 63 #[.agg #[.bool neg, .string num, .string den]] w fun e w' => e = .returned (.bool false) ∧ Below w.heap.size w w' := by
 have N1' := fun w => normalize_calls num w
 rw [show ncan (snum num) = num from h1] at N1'
 have N1 := Lib.hid N1'
 clear N1' h1
 have N2' := fun w => normalize_calls den w
 obtain ⟨mm, hmm⟩ : ∃ mm, mm = ncan (snum den) := ⟨_, rfl⟩
 rw [← hmm] at N2'
 have tl : ¬ mm.toList = den.toList := toList_ne (by rw [hmm]; exact hne)
 have N2 := Lib.hid N2'
 clear N2' hmm hne
 go_enter Tryz.func63, Tryz.ntmps63
 go_wp2_with fail
 obtain ⟨W0, hW0⟩ : ∃ W0, W0 = (w.alloc (.cells #[.bool neg, .string num, .string den] 33)).drew := ⟨_, rfl⟩
 have hS : Q3 w.heap.size neg num den W0 := by rw [hW0]; exact blk_new _ _
 have HB0 : Hid (Below w.heap.size w W0) := by rw [hW0]; exact (bel_alloc _ _).drew
 refine wp_region_held_drew (S := Q3 w.heap.size neg num den) (by kernel_rfl) (by rw [← hW0]; exact hS) ?_
 rw [← hW0]
 intro _
 clear hW0
 refine tk 0 hS ?_
 go_simp
 refine tv 1 (.string num) rfl (by intro w' hw'; obtain ⟨q0, q1, q2⟩ := hw'.cells; go_simp) hS ?_
 go_simp
 refine tk 3 hS ?_
 go_simp
 refine tv 4 (.string num) rfl (by intro w' hw'; obtain ⟨q0, q1, q2⟩ := hw'.cells; go_simp) hS ?_
 go_simp
 refine tr 2 (fun K hK => ?_)
 go_simp
 refine (N1.out _).mono ?_
 rintro e w1 ⟨rfl, rfl⟩
 refine hK.out _ _ hS (fun _ => ?_)
 clear hK K
 refine tv 5 (.bool false) rfl (by intro w' _; go_simp) hS ?_
 go_simp
 refine tv 6 (.bool false) rfl (by intro w' _; go_simp) hS ?_
 go_simp
 refine tk 7 hS ?_
 go_simp
 refine tv 8 (.string den) rfl (by intro w' hw'; obtain ⟨q0, q1, q2⟩ := hw'.cells; go_simp) hS ?_
 go_simp
 refine tk 10 hS ?_
 go_simp
 refine tv 11 (.string den) rfl (by intro w' hw'; obtain ⟨q0, q1, q2⟩ := hw'.cells; go_simp) hS ?_
 go_simp
 refine tr 9 (fun K hK => ?_)
 go_simp
 refine (N2.out _).mono ?_
 rintro e w2 ⟨rfl, rfl⟩
 refine hK.out _ _ hS (fun _ => ?_)
 clear hK K
 refine tv 12 (.bool true) rfl (by intro w' _; go_simp) hS ?_
 go_simp
 refine tv 13 (.bool true) rfl (by intro w' _; go_simp) hS ?_
 go_simp
 refine wpAnyH_done (by kernel_rfl) ?_ _
 go_wp2_with fail
 go_ret
 exact ⟨rfl, HB0.out⟩

theorem validP_zneg (neg : Bool) (num den : ByteArray) (w : World) (h1 : nrm num = num) (h2 : nrm den = den) (h0 : num = ⟨#[]⟩) (hb : neg = true) :
 Calls Tryz.prog 63 #[.agg #[.bool neg, .string num, .string den]] w fun e w' => e = .returned (.bool false) ∧ Below w.heap.size w w' := by
 have N1' := fun w => normalize_calls num w
 rw [show ncan (snum num) = num from h1] at N1'
 have N1 := Lib.hid N1'
 clear N1' h1
 have N2' := fun w => normalize_calls den w
 rw [show ncan (snum den) = den from h2] at N2'
 have N2 := Lib.hid N2'
 clear N2' h2
 subst h0 hb
 go_enter Tryz.func63, Tryz.ntmps63
 go_wp2_with fail
 obtain ⟨W0, hW0⟩ : ∃ W0, W0 = (w.alloc (.cells #[.bool true, .string (⟨#[]⟩ : ByteArray), .string den] 33)).drew := ⟨_, rfl⟩
 have hS : Q3 w.heap.size true (⟨#[]⟩ : ByteArray) den W0 := by rw [hW0]; exact blk_new _ _
 have HB0 : Hid (Below w.heap.size w W0) := by rw [hW0]; exact (bel_alloc _ _).drew
 refine wp_region_held_drew (S := Q3 w.heap.size true (⟨#[]⟩ : ByteArray) den) (by kernel_rfl) (by rw [← hW0]; exact hS) ?_
 rw [← hW0]
 intro _
 clear hW0
 refine tk 0 hS ?_
 go_simp
 refine tv 1 (.string (⟨#[]⟩ : ByteArray)) rfl (by intro w' hw'; obtain ⟨q0, q1, q2⟩ := hw'.cells; go_simp) hS ?_
 go_simp
 refine tk 3 hS ?_
 go_simp
 refine tv 4 (.string (⟨#[]⟩ : ByteArray)) rfl (by intro w' hw'; obtain ⟨q0, q1, q2⟩ := hw'.cells; go_simp) hS ?_
 go_simp
 refine tr 2 (fun K hK => ?_)
 go_simp
 refine (N1.out _).mono ?_
 rintro e w1 ⟨rfl, rfl⟩
 refine hK.out _ _ hS (fun _ => ?_)
 clear hK K
 refine tv 5 (.bool false) rfl (by intro w' _; go_simp) hS ?_
 go_simp
 refine tv 6 (.bool false) rfl (by intro w' _; go_simp) hS ?_
 go_simp
 refine tk 7 hS ?_
 go_simp
 refine tv 8 (.string den) rfl (by intro w' hw'; obtain ⟨q0, q1, q2⟩ := hw'.cells; go_simp) hS ?_
 go_simp
 refine tk 10 hS ?_
 go_simp
 refine tv 11 (.string den) rfl (by intro w' hw'; obtain ⟨q0, q1, q2⟩ := hw'.cells; go_simp) hS ?_
 go_simp
 refine tr 9 (fun K hK => ?_)
 go_simp
 refine (N2.out _).mono ?_
 rintro e w2 ⟨rfl, rfl⟩
 refine hK.out _ _ hS (fun _ => ?_)
 clear hK K
 refine tv 12 (.bool false) rfl (by intro w' _; go_simp) hS ?_
 go_simp
 refine tv 13 (.bool false) rfl (by intro w' _; go_simp) hS ?_
 go_simp
 refine wpAnyH_done (by kernel_rfl) ?_ _
 obtain ⟨q0, q1, q2⟩ := hS.cells
 go_wp2_with fail
 go_ret
 exact ⟨rfl, HB0.out⟩

theorem validP_zden (neg : Bool) (num den : ByteArray) (w : World) (h1 : nrm num = num) (h2 : nrm den = den) (h0 : num = ⟨#[]⟩) (hb : neg = false) (c : Bool) (hd : (c = true ∧ den = ⟨#[]⟩) ∨ (c = false ∧ den.toList.isEmpty = false)) :
 Calls Tryz.prog 63 #[.agg #[.bool neg, .string num, .string den]] w fun e w' => e = .returned (.bool c) ∧ Below w.heap.size w w' := by
 have N1' := fun w => normalize_calls num w
 rw [show ncan (snum num) = num from h1] at N1'
 have N1 := Lib.hid N1'
 clear N1' h1
 have N2' := fun w => normalize_calls den w
 rw [show ncan (snum den) = den from h2] at N2'
 have N2 := Lib.hid N2'
 clear N2' h2
 subst h0 hb
 rcases hd with ⟨rfl, rfl⟩ | ⟨rfl, he⟩
 ·
  go_enter Tryz.func63, Tryz.ntmps63
  go_wp2_with fail
  obtain ⟨W0, hW0⟩ : ∃ W0, W0 = (w.alloc (.cells #[.bool false, .string (⟨#[]⟩ : ByteArray), .string (⟨#[]⟩ : ByteArray)] 33)).drew := ⟨_, rfl⟩
  have hS : Q3 w.heap.size false (⟨#[]⟩ : ByteArray) (⟨#[]⟩ : ByteArray) W0 := by rw [hW0]; exact blk_new _ _
  have HB0 : Hid (Below w.heap.size w W0) := by rw [hW0]; exact (bel_alloc _ _).drew
  refine wp_region_held_drew (S := Q3 w.heap.size false (⟨#[]⟩ : ByteArray) (⟨#[]⟩ : ByteArray)) (by kernel_rfl) (by rw [← hW0]; exact hS) ?_
  rw [← hW0]
  intro _
  clear hW0
  refine tk 0 hS ?_
  go_simp
  refine tv 1 (.string (⟨#[]⟩ : ByteArray)) rfl (by intro w' hw'; obtain ⟨q0, q1, q2⟩ := hw'.cells; go_simp) hS ?_
  go_simp
  refine tk 3 hS ?_
  go_simp
  refine tv 4 (.string (⟨#[]⟩ : ByteArray)) rfl (by intro w' hw'; obtain ⟨q0, q1, q2⟩ := hw'.cells; go_simp) hS ?_
  go_simp
  refine tr 2 (fun K hK => ?_)
  go_simp
  refine (N1.out _).mono ?_
  rintro e w1 ⟨rfl, rfl⟩
  refine hK.out _ _ hS (fun _ => ?_)
  clear hK K
  refine tv 5 (.bool false) rfl (by intro w' _; go_simp) hS ?_
  go_simp
  refine tv 6 (.bool false) rfl (by intro w' _; go_simp) hS ?_
  go_simp
  refine tk 7 hS ?_
  go_simp
  refine tv 8 (.string (⟨#[]⟩ : ByteArray)) rfl (by intro w' hw'; obtain ⟨q0, q1, q2⟩ := hw'.cells; go_simp) hS ?_
  go_simp
  refine tk 10 hS ?_
  go_simp
  refine tv 11 (.string (⟨#[]⟩ : ByteArray)) rfl (by intro w' hw'; obtain ⟨q0, q1, q2⟩ := hw'.cells; go_simp) hS ?_
  go_simp
  refine tr 9 (fun K hK => ?_)
  go_simp
  refine (N2.out _).mono ?_
  rintro e w2 ⟨rfl, rfl⟩
  refine hK.out _ _ hS (fun _ => ?_)
  clear hK K
  refine tv 12 (.bool false) rfl (by intro w' _; go_simp) hS ?_
  go_simp
  refine tv 13 (.bool false) rfl (by intro w' _; go_simp) hS ?_
  go_simp
  refine wpAnyH_done (by kernel_rfl) ?_ _
  obtain ⟨q0, q1, q2⟩ := hS.cells
  go_wp2_with fail
  go_ret
  exact ⟨rfl, HB0.out⟩
 ·
  go_enter Tryz.func63, Tryz.ntmps63
  go_wp2_with fail
  obtain ⟨W0, hW0⟩ : ∃ W0, W0 = (w.alloc (.cells #[.bool false, .string (⟨#[]⟩ : ByteArray), .string den] 33)).drew := ⟨_, rfl⟩
  have hS : Q3 w.heap.size false (⟨#[]⟩ : ByteArray) den W0 := by rw [hW0]; exact blk_new _ _
  have HB0 : Hid (Below w.heap.size w W0) := by rw [hW0]; exact (bel_alloc _ _).drew
  refine wp_region_held_drew (S := Q3 w.heap.size false (⟨#[]⟩ : ByteArray) den) (by kernel_rfl) (by rw [← hW0]; exact hS) ?_
  rw [← hW0]
  intro _
  clear hW0
  refine tk 0 hS ?_
  go_simp
  refine tv 1 (.string (⟨#[]⟩ : ByteArray)) rfl (by intro w' hw'; obtain ⟨q0, q1, q2⟩ := hw'.cells; go_simp) hS ?_
  go_simp
  refine tk 3 hS ?_
  go_simp
  refine tv 4 (.string (⟨#[]⟩ : ByteArray)) rfl (by intro w' hw'; obtain ⟨q0, q1, q2⟩ := hw'.cells; go_simp) hS ?_
  go_simp
  refine tr 2 (fun K hK => ?_)
  go_simp
  refine (N1.out _).mono ?_
  rintro e w1 ⟨rfl, rfl⟩
  refine hK.out _ _ hS (fun _ => ?_)
  clear hK K
  refine tv 5 (.bool false) rfl (by intro w' _; go_simp) hS ?_
  go_simp
  refine tv 6 (.bool false) rfl (by intro w' _; go_simp) hS ?_
  go_simp
  refine tk 7 hS ?_
  go_simp
  refine tv 8 (.string den) rfl (by intro w' hw'; obtain ⟨q0, q1, q2⟩ := hw'.cells; go_simp) hS ?_
  go_simp
  refine tk 10 hS ?_
  go_simp
  refine tv 11 (.string den) rfl (by intro w' hw'; obtain ⟨q0, q1, q2⟩ := hw'.cells; go_simp) hS ?_
  go_simp
  refine tr 9 (fun K hK => ?_)
  go_simp
  refine (N2.out _).mono ?_
  rintro e w2 ⟨rfl, rfl⟩
  refine hK.out _ _ hS (fun _ => ?_)
  clear hK K
  refine tv 12 (.bool false) rfl (by intro w' _; go_simp) hS ?_
  go_simp
  refine tv 13 (.bool false) rfl (by intro w' _; go_simp) hS ?_
  go_simp
  refine wpAnyH_done (by kernel_rfl) ?_ _
  obtain ⟨q0, q1, q2⟩ := hS.cells
  go_wp2_with fail
  go_ret
  exact ⟨rfl, HB0.out⟩

theorem validP_whole (neg : Bool) (num den : ByteArray) (w : World) (h1 : nrm num = num) (h2 : nrm den = den) (h0 : num.toList.isEmpty = false) (hd : den = ⟨#[]⟩) :
 Calls Tryz.prog 63 #[.agg #[.bool neg, .string num, .string den]] w fun e w' => e = .returned (.bool true) ∧ Below w.heap.size w w' := by
 have N1' := fun w => normalize_calls num w
 rw [show ncan (snum num) = num from h1] at N1'
 have N1 := Lib.hid N1'
 clear N1' h1
 have N2' := fun w => normalize_calls den w
 rw [show ncan (snum den) = den from h2] at N2'
 have N2 := Lib.hid N2'
 clear N2' h2
 subst hd
 go_enter Tryz.func63, Tryz.ntmps63
 go_wp2_with fail
 obtain ⟨W0, hW0⟩ : ∃ W0, W0 = (w.alloc (.cells #[.bool neg, .string num, .string (⟨#[]⟩ : ByteArray)] 33)).drew := ⟨_, rfl⟩
 have hS : Q3 w.heap.size neg num (⟨#[]⟩ : ByteArray) W0 := by rw [hW0]; exact blk_new _ _
 have HB0 : Hid (Below w.heap.size w W0) := by rw [hW0]; exact (bel_alloc _ _).drew
 refine wp_region_held_drew (S := Q3 w.heap.size neg num (⟨#[]⟩ : ByteArray)) (by kernel_rfl) (by rw [← hW0]; exact hS) ?_
 rw [← hW0]
 intro _
 clear hW0
 refine tk 0 hS ?_
 go_simp
 refine tv 1 (.string num) rfl (by intro w' hw'; obtain ⟨q0, q1, q2⟩ := hw'.cells; go_simp) hS ?_
 go_simp
 refine tk 3 hS ?_
 go_simp
 refine tv 4 (.string num) rfl (by intro w' hw'; obtain ⟨q0, q1, q2⟩ := hw'.cells; go_simp) hS ?_
 go_simp
 refine tr 2 (fun K hK => ?_)
 go_simp
 refine (N1.out _).mono ?_
 rintro e w1 ⟨rfl, rfl⟩
 refine hK.out _ _ hS (fun _ => ?_)
 clear hK K
 refine tv 5 (.bool false) rfl (by intro w' _; go_simp) hS ?_
 go_simp
 refine tv 6 (.bool false) rfl (by intro w' _; go_simp) hS ?_
 go_simp
 refine tk 7 hS ?_
 go_simp
 refine tv 8 (.string (⟨#[]⟩ : ByteArray)) rfl (by intro w' hw'; obtain ⟨q0, q1, q2⟩ := hw'.cells; go_simp) hS ?_
 go_simp
 refine tk 10 hS ?_
 go_simp
 refine tv 11 (.string (⟨#[]⟩ : ByteArray)) rfl (by intro w' hw'; obtain ⟨q0, q1, q2⟩ := hw'.cells; go_simp) hS ?_
 go_simp
 refine tr 9 (fun K hK => ?_)
 go_simp
 refine (N2.out _).mono ?_
 rintro e w2 ⟨rfl, rfl⟩
 refine hK.out _ _ hS (fun _ => ?_)
 clear hK K
 refine tv 12 (.bool false) rfl (by intro w' _; go_simp) hS ?_
 go_simp
 refine tv 13 (.bool false) rfl (by intro w' _; go_simp) hS ?_
 go_simp
 refine wpAnyH_done (by kernel_rfl) ?_ _
 obtain ⟨q0, q1, q2⟩ := hS.cells
 go_wp2_with fail
 go_ret
 exact ⟨rfl, HB0.out⟩

theorem validP_one (neg : Bool) (num den : ByteArray) (w : World) (h1 : nrm num = num) (h2 : nrm den = den) (h0 : num.toList.isEmpty = false) (hd : den = ⟨#[1]⟩) :
 Calls Tryz.prog 63 #[.agg #[.bool neg, .string num, .string den]] w fun e w' => e = .returned (.bool false) ∧ Below w.heap.size w w' := by
 have N1' := fun w => normalize_calls num w
 rw [show ncan (snum num) = num from h1] at N1'
 have N1 := Lib.hid N1'
 clear N1' h1
 have N2' := fun w => normalize_calls den w
 rw [show ncan (snum den) = den from h2] at N2'
 have N2 := Lib.hid N2'
 clear N2' h2
 subst hd
 go_enter Tryz.func63, Tryz.ntmps63
 go_wp2_with fail
 obtain ⟨W0, hW0⟩ : ∃ W0, W0 = (w.alloc (.cells #[.bool neg, .string num, .string (⟨#[1]⟩ : ByteArray)] 33)).drew := ⟨_, rfl⟩
 have hS : Q3 w.heap.size neg num (⟨#[1]⟩ : ByteArray) W0 := by rw [hW0]; exact blk_new _ _
 have HB0 : Hid (Below w.heap.size w W0) := by rw [hW0]; exact (bel_alloc _ _).drew
 refine wp_region_held_drew (S := Q3 w.heap.size neg num (⟨#[1]⟩ : ByteArray)) (by kernel_rfl) (by rw [← hW0]; exact hS) ?_
 rw [← hW0]
 intro _
 clear hW0
 refine tk 0 hS ?_
 go_simp
 refine tv 1 (.string num) rfl (by intro w' hw'; obtain ⟨q0, q1, q2⟩ := hw'.cells; go_simp) hS ?_
 go_simp
 refine tk 3 hS ?_
 go_simp
 refine tv 4 (.string num) rfl (by intro w' hw'; obtain ⟨q0, q1, q2⟩ := hw'.cells; go_simp) hS ?_
 go_simp
 refine tr 2 (fun K hK => ?_)
 go_simp
 refine (N1.out _).mono ?_
 rintro e w1 ⟨rfl, rfl⟩
 refine hK.out _ _ hS (fun _ => ?_)
 clear hK K
 refine tv 5 (.bool false) rfl (by intro w' _; go_simp) hS ?_
 go_simp
 refine tv 6 (.bool false) rfl (by intro w' _; go_simp) hS ?_
 go_simp
 refine tk 7 hS ?_
 go_simp
 refine tv 8 (.string (⟨#[1]⟩ : ByteArray)) rfl (by intro w' hw'; obtain ⟨q0, q1, q2⟩ := hw'.cells; go_simp) hS ?_
 go_simp
 refine tk 10 hS ?_
 go_simp
 refine tv 11 (.string (⟨#[1]⟩ : ByteArray)) rfl (by intro w' hw'; obtain ⟨q0, q1, q2⟩ := hw'.cells; go_simp) hS ?_
 go_simp
 refine tr 9 (fun K hK => ?_)
 go_simp
 refine (N2.out _).mono ?_
 rintro e w2 ⟨rfl, rfl⟩
 refine hK.out _ _ hS (fun _ => ?_)
 clear hK K
 refine tv 12 (.bool false) rfl (by intro w' _; go_simp) hS ?_
 go_simp
 refine tv 13 (.bool false) rfl (by intro w' _; go_simp) hS ?_
 go_simp
 refine wpAnyH_done (by kernel_rfl) ?_ _
 obtain ⟨q0, q1, q2⟩ := hS.cells
 go_wp2_with fail
 go_ret
 exact ⟨rfl, HB0.out⟩

theorem validP_gcd (neg : Bool) (num den : ByteArray) (w : World) (h1 : nrm num = num) (h2 : nrm den = den) (h0 : num.toList.isEmpty = false) (hd : den.toList.isEmpty = false) (hd1 : den ≠ ⟨#[1]⟩) (hs1 : num.size ≤ 100000000) (hs2 : den.size ≤ 100000000) (hg : Nat.gcd (snum num) (snum den) = 1) :
 Calls Tryz.prog 63 #[.agg #[.bool neg, .string num, .string den]] w fun e w' => e = .returned (.bool true) ∧ Below w.heap.size w w' := by
 have GG' := fun w => natGCD_calls num den w (by omega) (by omega)
 rw [hg, ncan_one] at GG'
 have GG := Lib.hid GG'
 have tn : ¬ den.toList = [1] := toList_ne1 hd1
 clear GG' hg hs1 hs2 hd1
 have N1' := fun w => normalize_calls num w
 rw [show ncan (snum num) = num from h1] at N1'
 have N1 := Lib.hid N1'
 clear N1' h1
 have N2' := fun w => normalize_calls den w
 rw [show ncan (snum den) = den from h2] at N2'
 have N2 := Lib.hid N2'
 clear N2' h2
 go_enter Tryz.func63, Tryz.ntmps63
 go_wp2_with fail
 obtain ⟨W0, hW0⟩ : ∃ W0, W0 = (w.alloc (.cells #[.bool neg, .string num, .string den] 33)).drew := ⟨_, rfl⟩
 have hS : Q3 w.heap.size neg num den W0 := by rw [hW0]; exact blk_new _ _
 have HB0 : Hid (Below w.heap.size w W0) := by rw [hW0]; exact (bel_alloc _ _).drew
 refine wp_region_held_drew (S := Q3 w.heap.size neg num den) (by kernel_rfl) (by rw [← hW0]; exact hS) ?_
 rw [← hW0]
 intro _
 clear hW0
 refine tk 0 hS ?_
 go_simp
 refine tv 1 (.string num) rfl (by intro w' hw'; obtain ⟨q0, q1, q2⟩ := hw'.cells; go_simp) hS ?_
 go_simp
 refine tk 3 hS ?_
 go_simp
 refine tv 4 (.string num) rfl (by intro w' hw'; obtain ⟨q0, q1, q2⟩ := hw'.cells; go_simp) hS ?_
 go_simp
 refine tr 2 (fun K hK => ?_)
 go_simp
 refine (N1.out _).mono ?_
 rintro e w1 ⟨rfl, rfl⟩
 refine hK.out _ _ hS (fun _ => ?_)
 clear hK K
 refine tv 5 (.bool false) rfl (by intro w' _; go_simp) hS ?_
 go_simp
 refine tv 6 (.bool false) rfl (by intro w' _; go_simp) hS ?_
 go_simp
 refine tk 7 hS ?_
 go_simp
 refine tv 8 (.string den) rfl (by intro w' hw'; obtain ⟨q0, q1, q2⟩ := hw'.cells; go_simp) hS ?_
 go_simp
 refine tk 10 hS ?_
 go_simp
 refine tv 11 (.string den) rfl (by intro w' hw'; obtain ⟨q0, q1, q2⟩ := hw'.cells; go_simp) hS ?_
 go_simp
 refine tr 9 (fun K hK => ?_)
 go_simp
 refine (N2.out _).mono ?_
 rintro e w2 ⟨rfl, rfl⟩
 refine hK.out _ _ hS (fun _ => ?_)
 clear hK K
 refine tv 12 (.bool false) rfl (by intro w' _; go_simp) hS ?_
 go_simp
 refine tv 13 (.bool false) rfl (by intro w' _; go_simp) hS ?_
 go_simp
 refine wpAnyH_done (by kernel_rfl) ?_ _
 obtain ⟨q0, q1, q2⟩ := hS.cells
 go_wp2_with fail
 refine (GG.out _).mono ?_
 rintro e w5 ⟨rfl, hb5⟩
 have HB5 := Lib.hid (HB0.out.trans (hb5.mono HB0.out.size))
 clear hb5
 go_wp2_with fail
 go_ret
 exact ⟨by simp [tn], HB5.out⟩

theorem validP_ngcd (neg : Bool) (num den : ByteArray) (w : World) (h1 : nrm num = num) (h2 : nrm den = den) (h0 : num.toList.isEmpty = false) (hd : den.toList.isEmpty = false) (hd1 : den ≠ ⟨#[1]⟩) (hs1 : num.size ≤ 100000000) (hs2 : den.size ≤ 100000000) (hg : Nat.gcd (snum num) (snum den) ≠ 1) :
 Calls Tryz.prog 63 #[.agg #[.bool neg, .string num, .string den]] w fun e w' => e = .returned (.bool false) ∧ Below w.heap.size w w' := by
 have GG' := fun w => natGCD_calls num den w (by omega) (by omega)
 obtain ⟨gg, hgg⟩ : ∃ gg, gg = ncan (Nat.gcd (snum num) (snum den)) := ⟨_, rfl⟩
 have tg : ¬ gg.toList = [1] := toList_ne1 (by rw [hgg, ← ncan_one]; exact fun e => hg (by have := congrArg snum e; rwa [snum_ncan, snum_ncan] at this))
 rw [← hgg] at GG'
 have GG := Lib.hid GG'
 have tn : ¬ den.toList = [1] := toList_ne1 hd1
 clear GG' hg hs1 hs2 hd1 hgg
 have N1' := fun w => normalize_calls num w
 rw [show ncan (snum num) = num from h1] at N1'
 have N1 := Lib.hid N1'
 clear N1' h1
 have N2' := fun w => normalize_calls den w
 rw [show ncan (snum den) = den from h2] at N2'
 have N2 := Lib.hid N2'
 clear N2' h2
 go_enter Tryz.func63, Tryz.ntmps63
 go_wp2_with fail
 obtain ⟨W0, hW0⟩ : ∃ W0, W0 = (w.alloc (.cells #[.bool neg, .string num, .string den] 33)).drew := ⟨_, rfl⟩
 have hS : Q3 w.heap.size neg num den W0 := by rw [hW0]; exact blk_new _ _
 have HB0 : Hid (Below w.heap.size w W0) := by rw [hW0]; exact (bel_alloc _ _).drew
 refine wp_region_held_drew (S := Q3 w.heap.size neg num den) (by kernel_rfl) (by rw [← hW0]; exact hS) ?_
 rw [← hW0]
 intro _
 clear hW0
 refine tk 0 hS ?_
 go_simp
 refine tv 1 (.string num) rfl (by intro w' hw'; obtain ⟨q0, q1, q2⟩ := hw'.cells; go_simp) hS ?_
 go_simp
 refine tk 3 hS ?_
 go_simp
 refine tv 4 (.string num) rfl (by intro w' hw'; obtain ⟨q0, q1, q2⟩ := hw'.cells; go_simp) hS ?_
 go_simp
 refine tr 2 (fun K hK => ?_)
 go_simp
 refine (N1.out _).mono ?_
 rintro e w1 ⟨rfl, rfl⟩
 refine hK.out _ _ hS (fun _ => ?_)
 clear hK K
 refine tv 5 (.bool false) rfl (by intro w' _; go_simp) hS ?_
 go_simp
 refine tv 6 (.bool false) rfl (by intro w' _; go_simp) hS ?_
 go_simp
 refine tk 7 hS ?_
 go_simp
 refine tv 8 (.string den) rfl (by intro w' hw'; obtain ⟨q0, q1, q2⟩ := hw'.cells; go_simp) hS ?_
 go_simp
 refine tk 10 hS ?_
 go_simp
 refine tv 11 (.string den) rfl (by intro w' hw'; obtain ⟨q0, q1, q2⟩ := hw'.cells; go_simp) hS ?_
 go_simp
 refine tr 9 (fun K hK => ?_)
 go_simp
 refine (N2.out _).mono ?_
 rintro e w2 ⟨rfl, rfl⟩
 refine hK.out _ _ hS (fun _ => ?_)
 clear hK K
 refine tv 12 (.bool false) rfl (by intro w' _; go_simp) hS ?_
 go_simp
 refine tv 13 (.bool false) rfl (by intro w' _; go_simp) hS ?_
 go_simp
 refine wpAnyH_done (by kernel_rfl) ?_ _
 obtain ⟨q0, q1, q2⟩ := hS.cells
 go_wp2_with fail
 refine (GG.out _).mono ?_
 rintro e w5 ⟨rfl, hb5⟩
 have HB5 := Lib.hid (HB0.out.trans (hb5.mono HB0.out.size))
 clear hb5
 go_wp2_with fail
 go_ret
 exact ⟨by simp [tn, tg], HB5.out⟩

/-- what Valid answers -/
def vld (neg : Bool) (num den : ByteArray) : Bool :=
 decide (nrm num = num) && (decide (nrm den = den) && (if snum num = 0 then !neg && decide (snum den = 0) else decide (snum den = 0) || (decide (snum den ≠ 1) && decide (Nat.gcd (snum num) (snum den) = 1))))
theorem nrm_zero {s : ByteArray} (h : nrm s = s) : snum s = 0 → s = ⟨#[]⟩ := fun e => by rw [← h, nrm, e, ncan_zero']
theorem nrm_pos {s : ByteArray} (h : nrm s = s) (h0 : snum s ≠ 0) : s.toList.isEmpty = false := by
 rw [← h, nrm]; exact ncan_isEmpty' h0
theorem nrm_oneN {s : ByteArray} (h : nrm s = s) (h1 : snum s ≠ 1) : s ≠ ⟨#[1]⟩ := fun e => h1 (by rw [e]; decide)
theorem nrm_one {s : ByteArray} (h : nrm s = s) (h1 : snum s = 1) : s = ⟨#[1]⟩ := by rw [← h, nrm, h1, ncan_one]

theorem validP_calls (neg : Bool) (num den : ByteArray) (w : World) (hs1 : num.size ≤ 100000000) (hs2 : den.size ≤ 100000000) :
 Calls Tryz.prog 63 #[.agg #[.bool neg, .string num, .string den]] w fun e w' => e = .returned (.bool (vld neg num den)) ∧ Below w.heap.size w w' := by
 unfold vld
 by_cases h1 : nrm num = num
 ·
  rw [decide_eq_true h1, Bool.true_and]
  by_cases h2 : nrm den = den
  ·
   rw [decide_eq_true h2, Bool.true_and]
   by_cases h0 : snum num = 0
   ·
    rw [if_pos h0]
    cases neg
    ·
     refine validP_zden false num den w h1 h2 (nrm_zero h1 h0) rfl _ ?_
     by_cases hd : snum den = 0
     ·
      exact .inl ⟨by simp [hd], nrm_zero h2 hd⟩
     ·
      exact .inr ⟨by simp [hd], nrm_pos h2 hd⟩
    ·
     exact validP_zneg true num den w h1 h2 (nrm_zero h1 h0) rfl
   ·
    rw [if_neg h0]
    by_cases hd : snum den = 0
    ·
     rw [decide_eq_true hd, Bool.true_or]
     exact validP_whole neg num den w h1 h2 (nrm_pos h1 h0) (nrm_zero h2 hd)
    ·
     rw [decide_eq_false hd, Bool.false_or]
     by_cases hd1 : snum den = 1
     ·
      rw [decide_eq_false (show ¬ snum den ≠ 1 from fun h => h hd1), Bool.false_and]
      exact validP_one neg num den w h1 h2 (nrm_pos h1 h0) (nrm_one h2 hd1)
     ·
      rw [decide_eq_true hd1, Bool.true_and]
      by_cases hg : Nat.gcd (snum num) (snum den) = 1
      ·
       rw [decide_eq_true hg]
       exact validP_gcd neg num den w h1 h2 (nrm_pos h1 h0) (nrm_pos h2 hd) (nrm_oneN h2 hd1) hs1 hs2 hg
      ·
       rw [decide_eq_false hg]
       exact validP_ngcd neg num den w h1 h2 (nrm_pos h1 h0) (nrm_pos h2 hd) (nrm_oneN h2 hd1) hs1 hs2 hg
  ·
   rw [decide_eq_false h2, Bool.false_and]
   exact validP_den neg num den w h1 h2
 ·
  rw [decide_eq_false h1, Bool.false_and]
  exact validP_num neg num den w h1

end Go.Proofs.YtjlicnhkemfmiaaGreatDoor

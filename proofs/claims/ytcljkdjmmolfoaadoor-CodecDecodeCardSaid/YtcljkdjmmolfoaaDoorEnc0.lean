/- codec.encode of the empty record. -/
import Derived.Test.YtcljkdjmmolfoaaDoorM8
import Derived.Test.YtcljkdjmmolfoaaDoorValid
import Derived.Deep.RegionHeld3
import Derived.Deep.QuietTactic
import Derived.BigQuiet
set_option linter.unusedVariables false
set_option linter.unusedSimpArgs false
namespace Go.Proofs.YtcljkdjmmolfoaaDoor
open Go.RowKit

def recObj0 : Obj := .cells #[.int .i64 0, .int .i64 0, .int .i64 0, .int .i64 0, .int .i64 0, .int .i64 0, .bool false, .string ⟨#[]⟩, .string ⟨#[]⟩, .bool false, .string ⟨#[]⟩, .string ⟨#[]⟩, .slice none 0 0, .slice none 0 0, .slice none 0 0] 37 (0, 0)
def actObj0 : Obj := .cells #[.int .i64 0, .int .i64 0, .int .i64 0, .int .i64 0, .int .i64 0, .int .i64 0, .bool false, .string ⟨#[]⟩, .string ⟨#[]⟩, .bool false, .string ⟨#[]⟩, .string ⟨#[]⟩, .slice none 0 0, .slice none 0 0] 34 (0, 0)
theorem KeepT.rec {g q : Nat} {W W' : World} (h : KeepT g W W') (hr : W.heap[q]? = some recObj0) (hq : q ≠ g) : W'.heap[q]? = some recObj0 := h _ _ _ _ hr (by decide) hq
theorem KeepT.act {g q : Nat} {W W' : World} (h : KeepT g W W') (hr : W.heap[q]? = some actObj0) (hq : q ≠ g) : W'.heap[q]? = some actObj0 := h _ _ _ _ hr (by decide) hq
theorem blk_allocT {w : World} {g : Nat} {o o' : Obj} (h : w.heap[g]? = some o) : (w.alloc o').heap[g]? = some o :=
  (Below.heap_alloc w o' g (Array.getElem?_eq_some_iff.1 h).1).trans h
theorem act_cells {W : World} {q : Nat} (h : W.heap[q]? = some actObj0) : W.cell? ⟨q, 0, none⟩ = some (.int .i64 0) ∧ W.cell? ⟨q, 1, none⟩ = some (.int .i64 0) ∧ W.cell? ⟨q, 2, none⟩ = some (.int .i64 0) ∧ W.cell? ⟨q, 3, none⟩ = some (.int .i64 0) ∧ W.cell? ⟨q, 4, none⟩ = some (.int .i64 0) ∧ W.cell? ⟨q, 5, none⟩ = some (.int .i64 0) ∧ W.cell? ⟨q, 6, none⟩ = some (.bool false) ∧ W.cell? ⟨q, 7, none⟩ = some (.string ⟨#[]⟩) ∧ W.cell? ⟨q, 8, none⟩ = some (.string ⟨#[]⟩) ∧ W.cell? ⟨q, 9, none⟩ = some (.bool false) ∧ W.cell? ⟨q, 10, none⟩ = some (.string ⟨#[]⟩) ∧ W.cell? ⟨q, 11, none⟩ = some (.string ⟨#[]⟩) ∧ W.cell? ⟨q, 12, none⟩ = some (.slice none 0 0) ∧ W.cell? ⟨q, 13, none⟩ = some (.slice none 0 0) := by
  refine ⟨?_, ?_, ?_, ?_, ?_, ?_, ?_, ?_, ?_, ?_, ?_, ?_, ?_, ?_⟩
  · rw [cell_of_row W q 0 _ _ (0, 0) h]; rfl
  · rw [cell_of_row W q 1 _ _ (0, 0) h]; rfl
  · rw [cell_of_row W q 2 _ _ (0, 0) h]; rfl
  · rw [cell_of_row W q 3 _ _ (0, 0) h]; rfl
  · rw [cell_of_row W q 4 _ _ (0, 0) h]; rfl
  · rw [cell_of_row W q 5 _ _ (0, 0) h]; rfl
  · rw [cell_of_row W q 6 _ _ (0, 0) h]; rfl
  · rw [cell_of_row W q 7 _ _ (0, 0) h]; rfl
  · rw [cell_of_row W q 8 _ _ (0, 0) h]; rfl
  · rw [cell_of_row W q 9 _ _ (0, 0) h]; rfl
  · rw [cell_of_row W q 10 _ _ (0, 0) h]; rfl
  · rw [cell_of_row W q 11 _ _ (0, 0) h]; rfl
  · rw [cell_of_row W q 12 _ _ (0, 0) h]; rfl
  · rw [cell_of_row W q 13 _ _ (0, 0) h]; rfl
theorem rec_cells {W : World} {q : Nat} (h : W.heap[q]? = some recObj0) : W.cell? ⟨q, 14, none⟩ = some (.slice none 0 0) := by
  rw [cell_of_row W q 14 _ _ (0, 0) h]; rfl

theorem valid_zero : vld false ⟨#[]⟩ ⟨#[]⟩ = true := by decide +kernel
theorem enc0_a : numsB [0, 0, 0, 0, 0, 0] = [0, 0, 0, 0, 0, 0] := by
  simp [numsB, zig, vint_small]
theorem enc0_b : ratB false ⟨#[]⟩ ⟨#[]⟩ = [0, 0, 0] := by
  simp [ratB, txt, byts, zig, vint_small, ByteArray.size]
theorem enc0_c : numsB [0] = [0] := by
  simp [numsB, zig, vint_small]

set_option maxHeartbeats 8000000 in
set_option maxRecDepth 100000 in
theorem encode0_calls (w : World) : Calls Tryd.prog 27 #[.agg #[.int .i64 0, .int .i64 0, .int .i64 0, .int .i64 0, .int .i64 0, .int .i64 0, .bool false, .string ⟨#[]⟩, .string ⟨#[]⟩, .bool false, .string ⟨#[]⟩, .string ⟨#[]⟩, .slice none 0 0, .slice none 0 0, .slice none 0 0]] w fun e w' => ∃ A c, e = .returned (.tuple #[.slice A 15 c, .bool true]) ∧ KRd .u8 w' w'.heap.size A (List.replicate 15 0) ∧ Below w.heap.size w w' := by
  have HV : Hid (∀ W, Calls Tryd.prog 56 #[.agg #[.bool false, .string ⟨#[]⟩, .string ⟨#[]⟩]] W fun e W' => e = .returned (.bool true) ∧ Below W.heap.size W W') := by
    intro W
    have := validP_calls false ⟨#[]⟩ ⟨#[]⟩ W (by decide) (by decide)
    rwa [valid_zero] at this
  go_enter Tryd.func27, Tryd.ntmps27
  go_wp2_with fail
  obtain ⟨w0, hw0⟩ : ∃ w0, w0 = ((w.alloc (.cells #[.int .i64 0, .int .i64 0, .int .i64 0, .int .i64 0, .int .i64 0, .int .i64 0, .bool false, .string ⟨#[]⟩, .string ⟨#[]⟩, .bool false, .string ⟨#[]⟩, .string ⟨#[]⟩, .slice none 0 0, .slice none 0 0, .slice none 0 0] 37)).alloc (.cells #[.int .i64 0, .int .i64 0, .int .i64 0, .int .i64 0, .int .i64 0, .int .i64 0, .bool false, .string ⟨#[]⟩, .string ⟨#[]⟩, .bool false, .string ⟨#[]⟩, .string ⟨#[]⟩, .slice none 0 0, .slice none 0 0] 34)).alloc (.cells #[.slice none 0 0, .bool true] 101) := ⟨_, rfl⟩
  have hsz0 : w0.heap.size = w.heap.size + 1 + 1 + 1 := by rw [hw0]; simp
  have HB0 : Hid (Below w.heap.size w w0) := by rw [hw0]; exact (((Below.refl _ _).alloc (Nat.le_refl _) _).alloc (by simp) _).alloc (by simp <;> omega) _
  have HA0 : Hid (w0.heap[w.heap.size + 1]? = some actObj0) := by
    rw [hw0]
    have := blk_new (w.alloc (.cells #[.int .i64 0, .int .i64 0, .int .i64 0, .int .i64 0, .int .i64 0, .int .i64 0, .bool false, .string ⟨#[]⟩, .string ⟨#[]⟩, .bool false, .string ⟨#[]⟩, .string ⟨#[]⟩, .slice none 0 0, .slice none 0 0, .slice none 0 0] 37)) (.cells #[.int .i64 0, .int .i64 0, .int .i64 0, .int .i64 0, .int .i64 0, .int .i64 0, .bool false, .string ⟨#[]⟩, .string ⟨#[]⟩, .bool false, .string ⟨#[]⟩, .string ⟨#[]⟩, .slice none 0 0, .slice none 0 0] 34)
    rw [World.size_alloc] at this
    exact blk_allocT this
  have HR0 : Hid (w0.heap[w.heap.size]? = some recObj0) := by rw [hw0]; exact blk_allocT (blk_allocT (blk_new _ _))
  have HW0 : Hid (WrT w.heap.size (w.heap.size + 1 + 1) [] true 0 w0) := by
    have := blk_new ((w.alloc (.cells #[.int .i64 0, .int .i64 0, .int .i64 0, .int .i64 0, .int .i64 0, .int .i64 0, .bool false, .string ⟨#[]⟩, .string ⟨#[]⟩, .bool false, .string ⟨#[]⟩, .string ⟨#[]⟩, .slice none 0 0, .slice none 0 0, .slice none 0 0] 37)).alloc (.cells #[.int .i64 0, .int .i64 0, .int .i64 0, .int .i64 0, .int .i64 0, .int .i64 0, .bool false, .string ⟨#[]⟩, .string ⟨#[]⟩, .bool false, .string ⟨#[]⟩, .string ⟨#[]⟩, .slice none 0 0, .slice none 0 0] 34)) (.cells #[.slice none 0 0, .bool true] 101)
    rw [World.size_alloc, World.size_alloc, ← hw0] at this
    exact ⟨[], ⟨.slice none 0 0, this, World.ownsRow_nil _ _ _ _, by omega⟩, by simp, fun _ => rfl⟩
  rw [← hw0]
  clear hw0
  have hbk1 := blk_new w0 (.cells #[.int .i64 0, .int .i64 0, .int .i64 0, .int .i64 0, .int .i64 0, .int .i64 0] 3)
  rw [hsz0] at hbk1
  have HN1 := Lib.hid (numbersT w.heap.size (w.heap.size + 1 + 1) 0 _ 6 [] true ([0, 0, 0, 0, 0, 0] : List Int) (w0.alloc (.cells #[.int .i64 0, .int .i64 0, .int .i64 0, .int .i64 0, .int .i64 0, .int .i64 0] 3)) (HW0.out.next (bel_alloc _ _)) (by have := HB0.out.size; simp; omega) (by omega) (by decide) (by intro z hz; simp at hz; omega) hbk1 (by omega) true rfl [0, 0, 0, 0, 0, 0] (by simp [enc0_a]))
  clear hbk1
  refine HN1.out.mono ?_
  rintro e w1 ⟨rfl, hw1, hb1, hk1⟩
  have HW1 := Lib.hid hw1
  have HB1 : Hid (Below w.heap.size w w1) := (HB0.out.alloc (by have := HB0.out.size; omega) _).trans hb1
  have HA1 : Hid (w1.heap[w.heap.size + 1]? = some actObj0) := hk1.act (blk_allocT HA0.out) (by omega)
  have HR1 : Hid (w1.heap[w.heap.size]? = some recObj0) := hk1.rec (blk_allocT HR0.out) (by omega)
  have hl1 := HW1.out.lt
  clear hw1 hb1 hk1 HW0 HB0 HA0 HR0 HN1
  obtain ⟨k0, k1, k2, k3, k4, k5, k6, k7, k8, k9, k10, k11, k12, k13⟩ := act_cells HA1.out
  have HN2 := Lib.hid (ratT w.heap.size (w.heap.size + 1 + 1) 66 [0, 0, 0, 0, 0, 0] true false true ⟨#[]⟩ ⟨#[]⟩ w1 HW1.out (by have := HB1.out.size; omega) (by omega) (by decide) (by decide) (fun _ _ => HV.out) true rfl [0, 0, 0, 0, 0, 0, 0, 0, 0] (by rw [enc0_b]; rfl))
  go_wp2_with fail
  refine HN2.out.mono ?_
  rintro e w2 ⟨rfl, hw2, hb2, hk2⟩
  clear k0 k1 k2 k3 k4 k5 k6 k7 k8 k9 k10 k11 k12 k13
  have HW2 := Lib.hid hw2
  have HB2 : Hid (Below w.heap.size w w2) := HB1.out.trans hb2
  have HA2 : Hid (w2.heap[w.heap.size + 1]? = some actObj0) := hk2.act HA1.out (by omega)
  have HR2 : Hid (w2.heap[w.heap.size]? = some recObj0) := hk2.rec HR1.out (by omega)
  have hl2 := HW2.out.lt
  clear hw2 hb2 hk2 HW1 HB1 HA1 HR1 HN2
  obtain ⟨k0, k1, k2, k3, k4, k5, k6, k7, k8, k9, k10, k11, k12, k13⟩ := act_cells HA2.out
  have HN3 := Lib.hid (ratT w.heap.size (w.heap.size + 1 + 1) 10166 [0, 0, 0, 0, 0, 0, 0, 0, 0] true false true ⟨#[]⟩ ⟨#[]⟩ w2 HW2.out (by have := HB2.out.size; omega) (by omega) (by decide) (by decide) (fun _ _ => HV.out) true rfl [0, 0, 0, 0, 0, 0, 0, 0, 0, 0, 0, 0] (by rw [enc0_b]; rfl))
  go_wp2_with fail
  refine HN3.out.mono ?_
  rintro e w3 ⟨rfl, hw3, hb3, hk3⟩
  clear k0 k1 k2 k3 k4 k5 k6 k7 k8 k9 k10 k11 k12 k13
  have HW3 := Lib.hid hw3
  have HB3 : Hid (Below w.heap.size w w3) := HB2.out.trans hb3
  have HA3 : Hid (w3.heap[w.heap.size + 1]? = some actObj0) := hk3.act HA2.out (by omega)
  have HR3 : Hid (w3.heap[w.heap.size]? = some recObj0) := hk3.rec HR2.out (by omega)
  have hl3 := HW3.out.lt
  clear hw3 hb3 hk3 HW2 HB2 HA2 HR2 HN3
  obtain ⟨k0, k1, k2, k3, k4, k5, k6, k7, k8, k9, k10, k11, k12, k13⟩ := act_cells HA3.out
  have hbk4 := blk_new w3 (.cells #[.int .i64 0] 3)
  have HN4 := Lib.hid (numbersT w.heap.size (w.heap.size + 1 + 1) 20266 _ 1 [0, 0, 0, 0, 0, 0, 0, 0, 0, 0, 0, 0] true ([0] : List Int) (w3.alloc (.cells #[.int .i64 0] 3)) (HW3.out.next (bel_alloc _ _)) (by have := HB3.out.size; simp; omega) (by omega) (by decide) (by intro z hz; simp at hz; omega) hbk4 (by omega) true rfl [0, 0, 0, 0, 0, 0, 0, 0, 0, 0, 0, 0, 0] (by simp [enc0_c]))
  clear hbk4
  go_wp2_with fail
  refine HN4.out.mono ?_
  rintro e w4 ⟨rfl, hw4, hb4, hk4⟩
  clear k0 k1 k2 k3 k4 k5 k6 k7 k8 k9 k10 k11 k12 k13
  have HW4 := Lib.hid hw4
  have HB4 : Hid (Below w.heap.size w w4) := (HB3.out.alloc (by have := HB3.out.size; omega) _).trans hb4
  have HA4 : Hid (w4.heap[w.heap.size + 1]? = some actObj0) := hk4.act (blk_allocT HA3.out) (by omega)
  have HR4 : Hid (w4.heap[w.heap.size]? = some recObj0) := hk4.rec (blk_allocT HR3.out) (by omega)
  have hl4 := HW4.out.lt
  clear hw4 hb4 hk4 HW3 HB3 HA3 HR3 HN4
  obtain ⟨k0, k1, k2, k3, k4, k5, k6, k7, k8, k9, k10, k11, k12, k13⟩ := act_cells HA4.out
  go_wp2_with fail
  go_loop [64] (fun ii => ii = .int .i64 0) (fun _ => 0)
  case atStart => rfl
  case round =>
    subst hrel
    obtain ⟨k0, k1, k2, k3, k4, k5, k6, k7, k8, k9, k10, k11, k12, k13⟩ := act_cells HA4.out
    have hbk5 := blk_new w4 (.cells #[.int .i64 0] 3)
    have HN5 := Lib.hid (numbersT w.heap.size (w.heap.size + 1 + 1) 20277 _ 1 [0, 0, 0, 0, 0, 0, 0, 0, 0, 0, 0, 0, 0] true ([0] : List Int) (w4.alloc (.cells #[.int .i64 0] 3)) (HW4.out.next (bel_alloc _ _)) (by have := HB4.out.size; simp; omega) (by omega) (by decide) (by intro z hz; simp at hz; omega) hbk5 (by omega) true rfl [0, 0, 0, 0, 0, 0, 0, 0, 0, 0, 0, 0, 0, 0] (by simp [enc0_c]))
    clear hbk5
    go_wp2_with fail
    refine HN5.out.mono ?_
    rintro e w5 ⟨rfl, hw5, hb5, hk5⟩
    clear k0 k1 k2 k3 k4 k5 k6 k7 k8 k9 k10 k11 k12 k13
    have HW5 := Lib.hid hw5
    have HB5 : Hid (Below w.heap.size w w5) := (HB4.out.alloc (by have := HB4.out.size; omega) _).trans hb5
    have HA5 : Hid (w5.heap[w.heap.size + 1]? = some actObj0) := hk5.act (blk_allocT HA4.out) (by omega)
    have HR5 : Hid (w5.heap[w.heap.size]? = some recObj0) := hk5.rec (blk_allocT HR4.out) (by omega)
    have hl5 := HW5.out.lt
    clear hw5 hb5 hk5 HW4 HB4 HA4 HR4 HN5
    obtain ⟨k0, k1, k2, k3, k4, k5, k6, k7, k8, k9, k10, k11, k12, k13⟩ := act_cells HA5.out
    go_wp2_with fail
    go_loop [85] (fun ii => ii = .int .i64 0) (fun _ => 0)
    case atStart => rfl
    case round =>
      subst hrel
      obtain ⟨k0, k1, k2, k3, k4, k5, k6, k7, k8, k9, k10, k11, k12, k13⟩ := act_cells HA5.out
      have krec := rec_cells HR5.out
      have hbk6 := blk_new w5 (.cells #[.int .i64 0] 3)
      have HN6 := Lib.hid (numbersT w.heap.size (w.heap.size + 1 + 1) 20288 _ 1 [0, 0, 0, 0, 0, 0, 0, 0, 0, 0, 0, 0, 0, 0] true ([0] : List Int) (w5.alloc (.cells #[.int .i64 0] 3)) (HW5.out.next (bel_alloc _ _)) (by have := HB5.out.size; simp; omega) (by omega) (by decide) (by intro z hz; simp at hz; omega) hbk6 (by omega) true rfl [0, 0, 0, 0, 0, 0, 0, 0, 0, 0, 0, 0, 0, 0, 0] (by simp [enc0_c]))
      clear hbk6
      go_wp2_with fail
      refine HN6.out.mono ?_
      rintro e w6 ⟨rfl, hw6, hb6, hk6⟩
      clear k0 k1 k2 k3 k4 k5 k6 k7 k8 k9 k10 k11 k12 k13 krec
      have HW6 := Lib.hid hw6
      have HB6 : Hid (Below w.heap.size w w6) := (HB5.out.alloc (by have := HB5.out.size; omega) _).trans hb6
      have HA6 : Hid (w6.heap[w.heap.size + 1]? = some actObj0) := hk6.act (blk_allocT HA5.out) (by omega)
      have HR6 : Hid (w6.heap[w.heap.size]? = some recObj0) := hk6.rec (blk_allocT HR5.out) (by omega)
      have hl6 := HW6.out.lt
      clear hw6 hb6 hk6 HW5 HB5 HA5 HR5 HN6
      obtain ⟨k0, k1, k2, k3, k4, k5, k6, k7, k8, k9, k10, k11, k12, k13⟩ := act_cells HA6.out
      have krec := rec_cells HR6.out
      go_wp2_with fail
      go_loop [108] (fun ii => ii = .int .i64 0) (fun _ => 0)
      case atStart => rfl
      case round =>
        subst hrel
        obtain ⟨bs, hwr, _, hbs⟩ := HW6.out
        have hbse := hbs rfl
        subst hbse
        obtain ⟨A, c, c0, c1, f0, f1, hg, hown⟩ := hwr.open_
        have HKR : Hid (KRd .u8 w6 w6.heap.size A (List.replicate 15 0)) := KRd.of_own hown
        simp only [List.length_cons, List.length_nil, Nat.zero_add, Nat.reduceAdd] at c0
        clear k0 k1 k2 k3 k4 k5 k6 k7 k8 k9 k10 k11 k12 k13 krec hwr hbs hg hown f0 f1
        go_wp2_with fail
        go_quiet (fail)
        go_wp2_with fail
        go_ret2
        exact ⟨A, c, rfl, HKR.out, HB6.out.drewN _⟩

end Go.Proofs.YtcljkdjmmolfoaaDoor

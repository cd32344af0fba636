/- (*tracer).move -/
import Derived.Test.YtlljmiddgadcpaaTrc
import Derived.Test.YtlljmiddgadcpaaHist
import Derived.Deep.RegionLaw
set_option linter.unusedVariables false
set_option linter.unusedSimpArgs false
namespace Go.Proofs.Ytlljmiddgadcpaa
open Go.RowKit

set_option maxHeartbeats 1000000 in
set_option maxRecDepth 100000 in
theorem move_calls (p gb gt n cb ct : Nat) (bal tr : List Int) (lost : Int) (r : Row) (x y : Nat) (w : World) (h : Trc w p gb gt n cb ct bal tr lost)
    (hx : r.frm = x) (hy : r.to = y) (hxn : x < n) (hyn : y < n) :
    Calls Try.prog 14 #[.pointer (some ⟨p, 0, none⟩), .agg #[.int .i64 r.day, .int .i64 r.kind, .int .i64 r.frm, .int .i64 r.to, .int .i64 r.amount, .int .i64 r.worth]] w fun e w' =>
      e = .returned (.tuple #[]) ∧ Trc w' p gb gt n cb ct ((bal.set x (wrap64 (bal.getD x 0 + moneyOf r r.frm))).set y (wrap64 ((bal.set x (wrap64 (bal.getD x 0 + moneyOf r r.frm))).getD y 0 + moneyOf r r.to))) tr lost ∧ Deep p gb gt w w' := by
  obtain ⟨d, k, f, t, a, wo⟩ := r
  dsimp only at hx hy ⊢
  subst hx hy
  have c0 := h.c0
  have hp := h.plt
  have hgb := h.b.lt
  have cx := h.b.getD (k := x) (by rw [h.lb]; exact hxn)
  have fx := h.b.frozen x
  have i0 : ∀ w, (Instr.index 56 (.agg #[.int .i64 (x : Int), .int .i64 (y : Int)]) (.int .i64 0)).run Try.prog w = .ok (.int .i64 (x : Int)) w := fun _ => by kernel_rfl
  have i1 : ∀ w, (Instr.index 56 (.agg #[.int .i64 (x : Int), .int .i64 (y : Int)]) (.int .i64 1)).run Try.prog w = .ok (.int .i64 (y : Int)) w := fun _ => by kernel_rfl
  go_enter Try.func14, Try.ntmps14
  go_wp2_with fail
  have HX : Hid (∀ m : Int, m = moneyOf ⟨d, k, x, y, a, wo⟩ x → bal.set x (wrap64 (bal.getD x 0 + m)) = bal.set x (wrap64 (bal.getD x 0 + moneyOf ⟨d, k, x, y, a, wo⟩ x))) := fun m hm => by rw [hm]
  go_loopw [11] (fun i wr => ∃ (q : Nat) (bb : List Int), q ≤ 2 ∧ i = .int .i64 q ∧ Trc wr p gb gt n cb ct bb tr lost ∧
      Hid (bb = if q = 0 then bal else if q = 1 then bal.set x (wrap64 (bal.getD x 0 + moneyOf ⟨d, k, x, y, a, wo⟩ x)) else
        (bal.set x (wrap64 (bal.getD x 0 + moneyOf ⟨d, k, x, y, a, wo⟩ x))).set y (wrap64 ((bal.set x (wrap64 (bal.getD x 0 + moneyOf ⟨d, k, x, y, a, wo⟩ x))).getD y 0 + moneyOf ⟨d, k, x, y, a, wo⟩ y))) ∧
      wr.heap[w.heap.size]? = some (.cells #[.int .i64 d, .int .i64 k, .int .i64 (x : Int), .int .i64 (y : Int), .int .i64 a, .int .i64 wo] 23 (0, 0)) ∧ Hid (gb < w.heap.size ∧ gt < w.heap.size ∧ p < w.heap.size) ∧ Deep p gb gt w wr) (fun i _ => 2 - (intOf i).toNat)
  case atStart => exact ⟨0, bal, by omega, rfl, h.alloc _, by simp [Hid], heap_alloc_new _ _, ⟨h.b.lt, h.t.lt, h.plt⟩, (Deep.refl _ _ _ _).alloc _⟩
  case round =>
    clear cx fx c0 h
    obtain ⟨q, bb, hq, rfl, h, HB, hbx, HL, hD⟩ := hrel
    have c0 := h.c0
    have hp := h.plt
    have hgb := h.b.lt
    have e0 : wr.cell? ⟨w.heap.size, 0, none⟩ = some (.int .i64 d) := by rw [cell_of_row _ _ _ _ _ _ hbx]; rfl
    have e1 : wr.cell? ⟨w.heap.size, 1, none⟩ = some (.int .i64 k) := by rw [cell_of_row _ _ _ _ _ _ hbx]; rfl
    have e2 : wr.cell? ⟨w.heap.size, 2, none⟩ = some (.int .i64 (x : Int)) := by rw [cell_of_row _ _ _ _ _ _ hbx]; rfl
    have e3 : wr.cell? ⟨w.heap.size, 3, none⟩ = some (.int .i64 (y : Int)) := by rw [cell_of_row _ _ _ _ _ _ hbx]; rfl
    have e4 : wr.cell? ⟨w.heap.size, 4, none⟩ = some (.int .i64 a) := by rw [cell_of_row _ _ _ _ _ _ hbx]; rfl
    have e5 : wr.cell? ⟨w.heap.size, 5, none⟩ = some (.int .i64 wo) := by rw [cell_of_row _ _ _ _ _ _ hbx]; rfl
    have hbl : w.heap.size < wr.heap.size := (Array.getElem?_eq_some_iff.1 hbx).1
    have HBX := Lib.hid hbx
    clear hbx
    by_cases hq2 : q = 2
    · have hq3 : 2 ≤ q := by omega
      have HF : Hid (bb = (bal.set x (wrap64 (bal.getD x 0 + moneyOf ⟨d, k, x, y, a, wo⟩ x))).set y (wrap64 ((bal.set x (wrap64 (bal.getD x 0 + moneyOf ⟨d, k, x, y, a, wo⟩ x))).getD y 0 + moneyOf ⟨d, k, x, y, a, wo⟩ y))) := by
        have := HB.out
        rw [hq2] at this
        simpa [Hid] using this
      clear hq2 HB
      go_wp2_with fail
      go_end0
      exact ⟨rfl, by rw [← HF.out]; exact h, hD⟩
    · have hz : ∃ z : Nat, z < n ∧ (∀ w, (Instr.index 56 (.agg #[.int .i64 (x : Int), .int .i64 (y : Int)]) (.int .i64 q)).run Try.prog w = .ok (.int .i64 (z : Int)) w) ∧
          Hid (∀ m, m = moneyOf ⟨d, k, x, y, a, wo⟩ z → bb.set z (wrap64 (bb.getD z 0 + m)) = if q + 1 = 0 then bal else if q + 1 = 1 then bal.set x (wrap64 (bal.getD x 0 + moneyOf ⟨d, k, x, y, a, wo⟩ x)) else
        (bal.set x (wrap64 (bal.getD x 0 + moneyOf ⟨d, k, x, y, a, wo⟩ x))).set y (wrap64 ((bal.set x (wrap64 (bal.getD x 0 + moneyOf ⟨d, k, x, y, a, wo⟩ x))).getD y 0 + moneyOf ⟨d, k, x, y, a, wo⟩ y))) := by
        have hb := HB.out
        rcases q with _ | _ | q
        · exact ⟨x, hxn, i0, fun m hm => by simp at hb; rw [hm, hb]; rfl⟩
        · exact ⟨y, hyn, i1, fun m hm => by simp at hb; rw [hm, hb]; rfl⟩
        · omega
      obtain ⟨z, hzn, iz, HZ⟩ := hz
      have cx := h.b.getD (k := z) (by rw [h.lb]; exact hzn)
      have fx := h.b.frozen z
      have hq3 : q < 2 := by omega
      clear hq2 HB i0 i1 HX
      go_wp2_with fail
      go_region_law (go_simp; go_at_call 26; refine (money_calls ⟨d, k, x, y, a, wo⟩ _ _).mono ?_; rintro e w1 ⟨rfl, hb1⟩; have h1 : Trc w1 p gb gt n cb ct bb tr lost := (h.drew).next hb1; have c01 := h1.c0; have cx1 := h1.b.getD (k := z) (by rw [h1.lb]; exact hzn); have fx1 := h1.b.frozen z; have hx1 : w1.heap[w.heap.size]? = wr.heap[w.heap.size]? := hb1.block _ hbl; have hD1 := (hD.drew).next hb1)
      all_goals go_wp2_with fail
      all_goals
        go_roundw
        case measure => simp [intOf] <;> omega
        case rel =>
          refine ⟨q + 1, _, by omega, by go_num, h1.setB _ _, HZ.out _ rfl, ?_, HL, hD1.setB _ _⟩
          rw [heap_setCell_other _ _ _ _ (by have := HL.out.1; simp; omega), hx1]
          exact HBX.out

end Go.Proofs.Ytlljmiddgadcpaa

/- The readers: integer, count, text (the program's). -/
import Derived.Test.YtcljkdjmmolfoaaDoorRdNumR
set_option linter.unusedVariables false
set_option linter.unusedSimpArgs false
namespace Go.Proofs.YtcljkdjmmolfoaaDoor
open Go.RowKit

section
variable {g : Nat} {w w1 w2 : World}
theorem Only.alloc (h : Only g w w1) (o : Obj) : Only g w (w1.alloc o) :=
  ⟨h.os, h.tape, h.output, by rw [World.size_alloc]; exact Nat.le_succ_of_le h.size, fun k hk hn => (Below.heap_alloc w1 o k (Nat.lt_of_lt_of_le hk h.size)).trans (h.block k hk hn)⟩
theorem Only.setNew (h : Only g w w1) {q j : Nat} (hq : w.heap.size ≤ q) (u : Value) : Only g w (w1.setCell ⟨q, j, none⟩ u) :=
  ⟨h.os, h.tape, h.output, by simp [World.setCell]; exact h.size, fun k hk hn => (heap_setCell_other w1 ⟨q, j, none⟩ k u (by show k ≠ q; omega)).trans (h.block k hk hn)⟩
theorem Only.of_below {B : Nat} (hb : Below w.heap.size w w1) : Only g w w1 := ⟨hb.os, hb.tape, hb.output, hb.size, fun k hk _ => hb.block k hk⟩
end
theorem rdX_le {f : Nat} {b : Bool} {L R : List Nat} {u : Nat} {o : Bool} (h : rdX f b L = some (u, o, R)) : R.length ≤ L.length := by have := (rdX_bound f b L u o R h).2.1; omega
theorem pNum_len (s : St) : (pNum s).2.1.length ≤ s.1.length := by
  unfold pNum
  split
  · exact rdX_le (by assumption)
  · exact Nat.le_refl _
theorem dNum_len (s : St) : (dNum s).2.1.length ≤ s.1.length := by
  unfold dNum
  split
  · exact Nat.le_refl _
  · split
    · exact rdX_le (by assumption)
    · exact Nat.le_refl _
theorem i64b_zero : i64b 0 := by unfold i64b; omega
theorem rdX_bnd {L R : List Nat} {u : Nat} {o : Bool} (h : rdX 9 true L = some (u, o, R)) : i64b (unzig u) := by
  have := (rdX_bound 9 true L u o R h).1
  have e : (128 : Nat) ^ 9 = 9223372036854775808 := by decide
  rw [e] at this
  unfold i64b unzig
  split <;> omega
theorem pNum_bnd (s : St) : i64b (pNum s).1 := by
  unfold pNum
  split
  · exact rdX_bnd (by assumption)
  · exact i64b_zero
theorem dNum_bnd (s : St) : i64b (dNum s).1 := by
  unfold dNum
  split
  · exact i64b_zero
  · split
    · exact rdX_bnd (by assumption)
    · exact i64b_zero
theorem RdS.cells {T : TypeId} {g Bk : Nat} {L : List Nat} {b : Bool} {w : World} (h : RdS T g Bk (L, b) w) :
    ∃ A c, w.cell? ⟨g, 0, none⟩ = some (.slice A L.length c) ∧ w.cell? ⟨g, 1, none⟩ = some (.bool b) ∧ w.frozen? ⟨g, 0, none⟩ = false ∧ w.frozen? ⟨g, 1, none⟩ = false ∧ g < w.heap.size ∧ KRd .u8 w Bk A L ∧ Bk ≤ g ∧ L.length ≤ c ∧ c ≤ maxLen ∧ Byt L ∧ w.heap[g]? = some (.cells #[.slice A L.length c, .bool b] T (0, 0)) := by
  obtain ⟨A, c, h1, h2, h3, h4, h5, h6⟩ := h
  refine ⟨A, c, ?_, ?_, frozen_of_row w g 0 _ _ h1, frozen_of_row w g 1 _ _ h1, (Array.getElem?_eq_some_iff.1 h1).1, h2, h3, h4, h5, h6, h1⟩
  · rw [cell_of_row w g 0 _ _ (0, 0) h1]; rfl
  · rw [cell_of_row w g 1 _ _ (0, 0) h1]; rfl
def CntPost (T : TypeId) (g Bk : Nat) (r : Nat × St) (w : World) (e : Ending) (w' : World) : Prop := e = .returned (.int .i64 (r.1 : Int)) ∧ RdS T g Bk r.2 w' ∧ Only g w w'
def TxtPost (T : TypeId) (g Bk : Nat) (r : ByteArray × St) (w : World) (e : Ending) (w' : World) : Prop := e = .returned (.string r.1) ∧ RdS T g Bk r.2 w' ∧ Only g w w'

set_option maxHeartbeats 1000000 in
theorem pInteger_calls (g Bk : Nat) (s : St) (w : World) (h : RdS 81 g Bk s w) (hBw : Bk ≤ w.heap.size) :
    Calls Tryd.prog 30 #[.pointer (some ⟨g, 0, none⟩)] w (NumPost 81 g Bk (pNum s) w) := by
  have H := Lib.hid (pNumber_calls g Bk s w h hBw)
  have HZ := Lib.hid (pNum_bnd s)
  obtain ⟨r, hr⟩ : ∃ r, r = pNum s := ⟨_, rfl⟩
  rw [← hr] at H HZ ⊢
  clear h hr
  obtain ⟨z, s1⟩ := r
  go_enter Tryd.func30, Tryd.ntmps30
  go_wp2_with fail
  refine H.out.mono ?_
  rintro e w1 ⟨rfl, hr, ho⟩
  have HR := Lib.hid hr
  have HO := Lib.hid ho
  have hz1 : -9223372036854775808 ≤ z := HZ.out.1
  have hz2 : z ≤ 9223372036854775807 := HZ.out.2
  clear hr ho H
  go_wp2_with fail
  go_ret
  exact ⟨rfl, HR.out, HO.out⟩

set_option maxHeartbeats 2000000 in
theorem pCount_calls (g Bk most : Nat) (s : St) (w : World) (h : RdS 81 g Bk s w) (hBw : Bk ≤ w.heap.size) (hm : most ≤ maxLen) :
    Calls Tryd.prog 29 #[.pointer (some ⟨g, 0, none⟩), .int .i64 (most : Int)] w (CntPost 81 g Bk (rCount pNum most s) w) := by
  unfold maxLen at hm
  have H := Lib.hid (pNumber_calls g Bk s w h hBw)
  have HZ := Lib.hid (pNum_bnd s)
  obtain ⟨r, hr⟩ : ∃ r, r = pNum s := ⟨_, rfl⟩
  have HC : Hid (rCount pNum most s = if r.2.2 = true ∨ r.1 < 0 ∨ (most : Int) < r.1 then (0, (r.2.1, true)) else (r.1.toNat, r.2)) := by rw [hr]; rfl
  rw [← hr] at H HZ
  clear h hr
  obtain ⟨z, L1, b1⟩ := r
  dsimp only at HC
  go_enter Tryd.func29, Tryd.ntmps29
  go_wp2_with fail
  refine H.out.mono ?_
  rintro e w1 ⟨rfl, hr, ho⟩
  have HR := Lib.hid hr
  have HO := Lib.hid ho
  have hz1 : -9223372036854775808 ≤ z := HZ.out.1
  have hz2 : z ≤ 9223372036854775807 := HZ.out.2
  obtain ⟨A, c, c0, c1, f0, f1, lg, hk, hBg, hlc, hcm, hby, hg⟩ := RdS.cells hr
  have hBw1 : Bk ≤ w1.heap.size := Nat.le_trans hBw ho.size
  clear hr ho H hk hby hg hlc hcm
  cases b1
  · by_cases h0 : z < 0
    · have d0 : decide (z < 0) = true := decide_eq_true h0
      have HF := HC.out.trans (if_pos (.inr (.inl h0)))
      have HF := Lib.hid HF
      clear h0
      go_wp2_with fail
      go_ret
      rw [HF.out]
      exact ⟨rfl, HR.out.bad hBw1 true, HO.out.setC 1 _⟩
    · have d0 : decide (z < 0) = false := decide_eq_false h0
      by_cases h1 : (most : Int) < z
      · have d1 : decide ((most : Int) < z) = true := decide_eq_true h1
        have HF := Lib.hid (HC.out.trans (if_pos (.inr (.inr h1))))
        clear h0 h1
        go_wp2_with fail
        go_ret
        rw [HF.out]
        exact ⟨rfl, HR.out.bad hBw1 true, HO.out.setC 1 _⟩
      · have d1 : decide ((most : Int) < z) = false := decide_eq_false h1
        have HF := Lib.hid (HC.out.trans (if_neg (by simp; omega)))
        have HZ0 : Hid (z = ((z.toNat : Nat) : Int)) := by show _ = _; omega
        clear h0 h1
        go_wp2_with fail
        go_ret
        rw [HF.out]
        exact ⟨ret_int HZ0.out, HR.out, HO.out⟩
  · have HF := Lib.hid (HC.out.trans (if_pos (.inl rfl)))
    go_wp2_with fail
    go_ret
    rw [HF.out]
    exact ⟨rfl, HR.out.bad hBw1 true, HO.out.setC 1 _⟩

set_option maxHeartbeats 2000000 in
theorem dMany_calls (g Bk most : Nat) (s : St) (w : World) (h : RdS 96 g Bk s w) (hBw : Bk ≤ w.heap.size) (hm : most ≤ maxLen) :
    Calls Tryd.prog 43 #[.pointer (some ⟨g, 0, none⟩), .int .i64 (most : Int)] w (CntPost 96 g Bk (rCount dNum most s) w) := by
  unfold maxLen at hm
  have H := Lib.hid (dNumber_calls g Bk s w h hBw)
  have HZ := Lib.hid (dNum_bnd s)
  obtain ⟨r, hr⟩ : ∃ r, r = dNum s := ⟨_, rfl⟩
  have HC : Hid (rCount dNum most s = if r.2.2 = true ∨ r.1 < 0 ∨ (most : Int) < r.1 then (0, (r.2.1, true)) else (r.1.toNat, r.2)) := by rw [hr]; rfl
  rw [← hr] at H HZ
  clear h hr
  obtain ⟨z, L1, b1⟩ := r
  dsimp only at HC
  go_enter Tryd.func43, Tryd.ntmps43
  go_wp2_with fail
  refine H.out.mono ?_
  rintro e w1 ⟨rfl, hr, ho⟩
  have HR := Lib.hid hr
  have HO := Lib.hid ho
  have hz1 : -9223372036854775808 ≤ z := HZ.out.1
  have hz2 : z ≤ 9223372036854775807 := HZ.out.2
  obtain ⟨A, c, c0, c1, f0, f1, lg, hk, hBg, hlc, hcm, hby, hg⟩ := RdS.cells hr
  have hBw1 : Bk ≤ w1.heap.size := Nat.le_trans hBw ho.size
  clear hr ho H hk hby hg hlc hcm
  cases b1
  · by_cases h0 : z < 0
    · have d0 : decide (z < 0) = true := decide_eq_true h0
      have HF := HC.out.trans (if_pos (.inr (.inl h0)))
      have HF := Lib.hid HF
      clear h0
      go_wp2_with fail
      go_ret
      rw [HF.out]
      exact ⟨rfl, HR.out.bad hBw1 true, HO.out.setC 1 _⟩
    · have d0 : decide (z < 0) = false := decide_eq_false h0
      by_cases h1 : (most : Int) < z
      · have d1 : decide ((most : Int) < z) = true := decide_eq_true h1
        have HF := Lib.hid (HC.out.trans (if_pos (.inr (.inr h1))))
        clear h0 h1
        go_wp2_with fail
        go_ret
        rw [HF.out]
        exact ⟨rfl, HR.out.bad hBw1 true, HO.out.setC 1 _⟩
      · have d1 : decide ((most : Int) < z) = false := decide_eq_false h1
        have HF := Lib.hid (HC.out.trans (if_neg (by simp; omega)))
        have HZ0 : Hid (z = ((z.toNat : Nat) : Int)) := by show _ = _; omega
        clear h0 h1
        go_wp2_with fail
        go_ret
        rw [HF.out]
        exact ⟨ret_int HZ0.out, HR.out, HO.out⟩
  · have HF := Lib.hid (HC.out.trans (if_pos (.inl rfl)))
    go_wp2_with fail
    go_ret
    rw [HF.out]
    exact ⟨rfl, HR.out.bad hBw1 true, HO.out.setC 1 _⟩

end Go.Proofs.YtcljkdjmmolfoaaDoor

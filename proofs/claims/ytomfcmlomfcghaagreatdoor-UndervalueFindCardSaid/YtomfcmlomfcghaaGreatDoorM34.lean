/- Merged of QTraceDef QTrc QTrClip. -/
import Derived.Test.YtomfcmlomfcghaaGreatDoorM21
import Derived.Test.YtomfcmlomfcghaaGreatDoorRows
import Derived.Laws.Rows
/- Lean's model of Trace, and its plain laws. Nothing of the program. -/
set_option linter.unusedVariables false
set_option linter.unusedSimpArgs false
namespace Go.Proofs.YtomfcmlomfcghaaGreatDoor
open Go.RowKit

def gt (l : List Int) (p : Int) : Int := l.getD p.toNat 0
def st (l : List Int) (p : Int) (v : Int) : List Int := l.set p.toNat v

def payer (r : Row) : Int := if r.kind = 3 then r.to else r.frm
def payee (r : Row) : Int := if r.kind = 3 then r.frm else r.to
end Go.Proofs.YtomfcmlomfcghaaGreatDoor

/- A tracer in memory: its struct, its two rows of numbers. -/
set_option linter.unusedVariables false
set_option linter.unusedSimpArgs false
namespace Go.Proofs.YtomfcmlomfcghaaGreatDoor
open Go.RowKit

def IRow (w : World) (g : Nat) (xs : List Int) : Prop :=
  ∃ cur, w.heap[g]? = some (.cells cur 2 (0, 0)) ∧ cur.toList.take xs.length = xs.map (Value.int .i64) ∧ xs.length ≤ cur.size

theorem IRow.lt {w : World} {g : Nat} {xs : List Int} (h : IRow w g xs) : g < w.heap.size := by
  obtain ⟨cur, hg, _⟩ := h
  exact (Array.getElem?_eq_some_iff.1 hg).1
theorem IRow.cell {w : World} {g : Nat} {xs : List Int} (h : IRow w g xs) {k : Nat} {x : Int} (hk : xs[k]? = some x) : w.cell? ⟨g, k, none⟩ = some (.int .i64 x) := by
  obtain ⟨cur, hg, ht, hl⟩ := h
  have hlt := (List.getElem?_eq_some_iff.1 hk).1
  rw [cell_of_row w g k cur _ (0, 0) hg]
  have : (xs.map (Value.int .i64))[k]? = some (.int .i64 x) := by simp [hk]
  rw [← ht, List.getElem?_take, if_pos hlt] at this
  simpa using this
theorem IRow.getD {w : World} {g : Nat} {xs : List Int} (h : IRow w g xs) {k : Nat} (hk : k < xs.length) : w.cell? ⟨g, k, none⟩ = some (.int .i64 (xs.getD k 0)) :=
  h.cell (by simp [List.getD, List.getElem?_eq_getElem hk])
theorem IRow.frozen {w : World} {g : Nat} {xs : List Int} (h : IRow w g xs) (k : Nat) : w.frozen? ⟨g, k, none⟩ = false := by
  obtain ⟨cur, hg, _⟩ := h
  exact frozen_of_row w g k cur _ hg
theorem IRow.set_ {w : World} {g : Nat} {xs : List Int} (h : IRow w g xs) (k : Nat) (v : Int) : IRow (w.setCell ⟨g, k, none⟩ (.int .i64 v)) g (xs.set k v) := by
  obtain ⟨cur, hg, ht, hl⟩ := h
  refine ⟨cur.setIfInBounds k (.int .i64 v), heap_setCell_same w g k cur _ _ hg, ?_, by simpa using hl⟩
  rw [Array.toList_setIfInBounds, List.length_set, List.map_set, ← ht, List.take_set]
theorem IRow.same {w w' : World} {g : Nat} {xs : List Int} (h : IRow w g xs) (hb : w'.heap[g]? = w.heap[g]?) : IRow w' g xs := by
  obtain ⟨cur, hg, r⟩ := h
  exact ⟨cur, hb.trans hg, r⟩
theorem IRow.other {w : World} {g : Nat} {xs : List Int} (h : IRow w g xs) {a : Addr} (ha : g ≠ a.block) (u : Value) : IRow (w.setCell a u) g xs := h.same (heap_setCell_other w a g u ha)
theorem IRow.alloc {w : World} {g : Nat} {xs : List Int} (h : IRow w g xs) (o : Obj) : IRow (w.alloc o) g xs := h.same (Below.heap_alloc w o g h.lt)
theorem IRow.drew {w : World} {g : Nat} {xs : List Int} (h : IRow w g xs) : IRow w.drew g xs := h
theorem IRow.drewN {w : World} {g : Nat} {xs : List Int} (h : IRow w g xs) (n : Nat) : IRow (w.drewN n) g xs := h
theorem IRow.below {w w' : World} {B g : Nat} {xs : List Int} (h : IRow w g xs) (hb : Below B w w') (hg : g < B) : IRow w' g xs := h.same (hb.block g hg)

/-- the tracer's struct at block p, its rows at blocks gb, gt -/
structure Trc (w : World) (p gb gt n cb ct : Nat) (bal tr : List Int) (lost : Int) : Prop where
  head : w.heap[p]? = some (.cells #[.slice (some ⟨gb, 0, none⟩) n cb, .slice (some ⟨gt, 0, none⟩) n ct, .int .i64 lost] 125 (0, 0))
  b : IRow w gb bal
  t : IRow w gt tr
  lb : bal.length = n
  lt : tr.length = n
  ne : gb ≠ gt

section
variable {w w' : World} {p gb gt n cb ct : Nat} {bal tr : List Int} {lost : Int}
theorem Trc.plt (h : Trc w p gb gt n cb ct bal tr lost) : p < w.heap.size := (Array.getElem?_eq_some_iff.1 h.head).1
theorem Trc.pb (h : Trc w p gb gt n cb ct bal tr lost) : p ≠ gb := by
  rintro rfl
  obtain ⟨cur, hg, _⟩ := h.b
  rw [h.head] at hg
  simp at hg
theorem Trc.pt (h : Trc w p gb gt n cb ct bal tr lost) : p ≠ gt := by
  rintro rfl
  obtain ⟨cur, hg, _⟩ := h.t
  rw [h.head] at hg
  simp at hg
theorem Trc.c0 (h : Trc w p gb gt n cb ct bal tr lost) : w.cell? ⟨p, 0, none⟩ = some (.slice (some ⟨gb, 0, none⟩) n cb) := by rw [cell_of_row _ _ _ _ _ _ h.head]; rfl
theorem Trc.c1 (h : Trc w p gb gt n cb ct bal tr lost) : w.cell? ⟨p, 1, none⟩ = some (.slice (some ⟨gt, 0, none⟩) n ct) := by rw [cell_of_row _ _ _ _ _ _ h.head]; rfl
theorem Trc.c2 (h : Trc w p gb gt n cb ct bal tr lost) : w.cell? ⟨p, 2, none⟩ = some (.int .i64 lost) := by rw [cell_of_row _ _ _ _ _ _ h.head]; rfl
theorem Trc.f2 (h : Trc w p gb gt n cb ct bal tr lost) (k : Nat) : w.frozen? ⟨p, k, none⟩ = false := frozen_of_row _ _ _ _ _ h.head
theorem Trc.same (h : Trc w p gb gt n cb ct bal tr lost) (h1 : w'.heap[p]? = w.heap[p]?) (h2 : w'.heap[gb]? = w.heap[gb]?) (h3 : w'.heap[gt]? = w.heap[gt]?) : Trc w' p gb gt n cb ct bal tr lost :=
  ⟨h1.trans h.head, h.b.same h2, h.t.same h3, h.lb, h.lt, h.ne⟩
theorem Trc.alloc (h : Trc w p gb gt n cb ct bal tr lost) (o : Obj) : Trc (w.alloc o) p gb gt n cb ct bal tr lost :=
  h.same (Below.heap_alloc w o p h.plt) (Below.heap_alloc w o gb h.b.lt) (Below.heap_alloc w o gt h.t.lt)
theorem Trc.drew (h : Trc w p gb gt n cb ct bal tr lost) : Trc w.drew p gb gt n cb ct bal tr lost := h.same rfl rfl rfl
theorem Trc.drewN (h : Trc w p gb gt n cb ct bal tr lost) (k : Nat) : Trc (w.drewN k) p gb gt n cb ct bal tr lost := h.same rfl rfl rfl
theorem Trc.next (h : Trc w p gb gt n cb ct bal tr lost) (hb : Below w.heap.size w w') : Trc w' p gb gt n cb ct bal tr lost :=
  h.same (hb.block _ h.plt) (hb.block _ h.b.lt) (hb.block _ h.t.lt)
theorem Trc.setB (h : Trc w p gb gt n cb ct bal tr lost) (k : Nat) (v : Int) : Trc (w.setCell ⟨gb, k, none⟩ (.int .i64 v)) p gb gt n cb ct (bal.set k v) tr lost :=
  ⟨(heap_setCell_other w ⟨gb, k, none⟩ p _ h.pb).trans h.head, h.b.set_ k v, h.t.other (a := ⟨gb, k, none⟩) (Ne.symm h.ne) _, by simpa using h.lb, h.lt, h.ne⟩
theorem Trc.setT (h : Trc w p gb gt n cb ct bal tr lost) (k : Nat) (v : Int) : Trc (w.setCell ⟨gt, k, none⟩ (.int .i64 v)) p gb gt n cb ct bal (tr.set k v) lost :=
  ⟨(heap_setCell_other w ⟨gt, k, none⟩ p _ h.pt).trans h.head, h.b.other (a := ⟨gt, k, none⟩) h.ne _, h.t.set_ k v, h.lb, by simpa using h.lt, h.ne⟩
theorem Trc.setL (h : Trc w p gb gt n cb ct bal tr lost) (v : Int) : Trc (w.setCell ⟨p, 2, none⟩ (.int .i64 v)) p gb gt n cb ct bal tr v :=
  ⟨by rw [heap_setCell_same w p 2 _ _ _ h.head]; rfl, h.b.other (a := ⟨p, 2, none⟩) (Ne.symm h.pb) _, h.t.other (a := ⟨p, 2, none⟩) (Ne.symm h.pt) _, h.lb, h.lt, h.ne⟩

/-- only the blocks p, gb, gt have turned, and new ones have come -/
structure Deep (p gb gt : Nat) (w w' : World) : Prop where
  os : w'.os = w.os
  tape : w'.tape = w.tape
  output : w'.output = w.output
  size : w.heap.size ≤ w'.heap.size
  block : ∀ k, k < w.heap.size → k ≠ p → k ≠ gb → k ≠ gt → w'.heap[k]? = w.heap[k]?
theorem Deep.at_ {w1 w2 : World} (h : Deep p gb gt w1 w2) (B : Nat) (h0 : B ≤ w1.heap.size) (h1 : B ≤ p) (h2 : B ≤ gb) (h3 : B ≤ gt) : Below B w1 w2 :=
  ⟨h.os, h.tape, h.output, h.size, fun k hk => h.block k (by omega) (by omega) (by omega) (by omega)⟩
theorem Deep.refl (p gb gt : Nat) (w : World) : Deep p gb gt w w := ⟨rfl, rfl, rfl, Nat.le_refl _, fun _ _ _ _ _ => rfl⟩
theorem Deep.trans {w1 w2 w3 : World} (h : Deep p gb gt w1 w2) (k : Deep p gb gt w2 w3) : Deep p gb gt w1 w3 :=
  ⟨k.os.trans h.os, k.tape.trans h.tape, k.output.trans h.output, Nat.le_trans h.size k.size, fun i hi h1 h2 h3 => (k.block i (Nat.lt_of_lt_of_le hi h.size) h1 h2 h3).trans (h.block i hi h1 h2 h3)⟩
theorem Deep.next {w1 w2 w3 : World} (h : Deep p gb gt w1 w2) (k : Below w2.heap.size w2 w3) : Deep p gb gt w1 w3 :=
  h.trans ⟨k.os, k.tape, k.output, k.size, fun i hi _ _ _ => k.block i hi⟩
theorem Deep.alloc {w1 w2 : World} (h : Deep p gb gt w1 w2) (o : Obj) : Deep p gb gt w1 (w2.alloc o) := h.next ((Below.refl _ _).alloc (Nat.le_refl _) o)
theorem Deep.drew {w1 w2 : World} (h : Deep p gb gt w1 w2) : Deep p gb gt w1 w2.drew := ⟨h.os, h.tape, h.output, h.size, h.block⟩
theorem Deep.drewN {w1 w2 : World} (h : Deep p gb gt w1 w2) (k : Nat) : Deep p gb gt w1 (w2.drewN k) := ⟨h.os, h.tape, h.output, h.size, h.block⟩
theorem Deep.set_ {w1 w2 : World} (h : Deep p gb gt w1 w2) (a : Addr) (u : Value) (ha : a.block = p ∨ a.block = gb ∨ a.block = gt) : Deep p gb gt w1 (w2.setCell a u) :=
  h.trans ⟨rfl, rfl, rfl, by simp [World.setCell], fun k hk h1 h2 h3 => heap_setCell_other w2 a k u (by omega)⟩
theorem Deep.setB {w1 w2 : World} (h : Deep p gb gt w1 w2) (k : Nat) (u : Value) : Deep p gb gt w1 (w2.setCell ⟨gb, k, none⟩ u) := h.set_ _ u (.inr (.inl rfl))
theorem Deep.setT {w1 w2 : World} (h : Deep p gb gt w1 w2) (k : Nat) (u : Value) : Deep p gb gt w1 (w2.setCell ⟨gt, k, none⟩ u) := h.set_ _ u (.inr (.inr rfl))
theorem Deep.setP {w1 w2 : World} (h : Deep p gb gt w1 w2) (k : Nat) (u : Value) : Deep p gb gt w1 (w2.setCell ⟨p, k, none⟩ u) := h.set_ _ u (.inl rfl)
end
end Go.Proofs.YtomfcmlomfcghaaGreatDoor

/- (*tracer).clip -/
set_option linter.unusedVariables false
set_option linter.unusedSimpArgs false
namespace Go.Proofs.YtomfcmlomfcghaaGreatDoor
open Go.RowKit

/-- max(n, 0) as the walk spells it -/
def pos (n : Int) : Int := if n < 0 then 0 else n
def clipOneW (bal tr : List Int) (lost : Int) (k : Nat) : List Int × Int :=
  if pos (bal.getD k 0) < tr.getD k 0 then (tr.set k (pos (bal.getD k 0)), wrap64 (lost + wrap64 (tr.getD k 0 - pos (bal.getD k 0)))) else (tr, lost)
def clipToW (bal : List Int) : Nat → List Int × Int → List Int × Int
  | 0, s => s
  | k + 1, s => let s' := clipToW bal k s; clipOneW bal s'.1 s'.2 k

set_option maxHeartbeats 1000000 in
set_option maxRecDepth 100000 in
theorem clip_calls (p gb gt n cb ct : Nat) (bal tr : List Int) (lost : Int) (w : World) (h : Trc w p gb gt n cb ct bal tr lost) (hn : n ≤ 9223372036854775807) :
    Calls Tryz.prog 83 #[.pointer (some ⟨p, 0, none⟩)] w fun e w' =>
      e = .returned (.tuple #[]) ∧ Trc w' p gb gt n cb ct bal (clipToW bal n (tr, lost)).1 (clipToW bal n (tr, lost)).2 ∧ Deep p gb gt w w' := by
  have c1 := h.c1
  have hp := h.plt
  go_enter Tryz.func83, Tryz.ntmps83
  go_wp2_with fail
  go_loopw [10] (fun i wr => ∃ (q : Nat) (tt : List Int) (ll : Int), q ≤ n ∧ i = .int .i64 q ∧ Trc wr p gb gt n cb ct bal tt ll ∧ Hid ((tt, ll) = clipToW bal q (tr, lost)) ∧ Deep p gb gt w wr) (fun i _ => n - (intOf i).toNat)
  case atStart => exact ⟨0, tr, lost, by omega, rfl, h, rfl, Deep.refl _ _ _ _⟩
  case round =>
    clear c1 h hp
    obtain ⟨q, tt, ll, hq, rfl, h, HT, hD⟩ := hrel
    by_cases hlt : q < n
    · have HN : Hid (clipToW bal (q + 1) (tr, lost) = clipOneW bal tt ll q) := by
        show clipOneW bal (clipToW bal q (tr, lost)).1 (clipToW bal q (tr, lost)).2 q = _
        rw [← HT.out]
      obtain ⟨tv, htv⟩ : ∃ tv, tv = tt.getD q 0 := ⟨_, rfl⟩
      obtain ⟨bv, hbv⟩ : ∃ bv, bv = bal.getD q 0 := ⟨_, rfl⟩
      have c0 := h.c0
      have c1 := h.c1
      have c2 := h.c2
      have f2 := h.f2 2
      have hp := h.plt
      have hgt := h.t.lt
      have hgb := h.b.lt
      have kt := h.t.getD (k := q) (by rw [h.lt]; exact hlt)
      have kb := h.b.getD (k := q) (by rw [h.lb]; exact hlt)
      have ft := h.t.frozen q
      rw [← htv] at kt
      rw [← hbv] at kb
      have HTV := Lib.hid htv
      have HBV := Lib.hid hbv
      have n1 : p ≠ gt := h.pt
      clear htv hbv HT
      go_wp2_with fail
      · have hlt2 : (if bv < 0 then 0 else bv) < tv := by assumption
        have HC : Hid (clipOneW bal tt ll q = (tt.set q (if bv < 0 then 0 else bv), wrap64 (ll + wrap64 (tv - if bv < 0 then 0 else bv)))) := by
          unfold clipOneW pos
          rw [← HBV.out, ← HTV.out, if_pos hlt2]; rfl
        go_roundw
        case measure => simp [intOf] <;> omega
        case rel =>
          exact ⟨q + 1, _, _, by omega, by go_num, (h.setL _).setT _ _, (HN.out.trans HC.out).symm, (hD.setP _ _).setT _ _⟩
      · have hge : tv ≤ (if bv < 0 then 0 else bv) := by assumption
        have HC : Hid (clipOneW bal tt ll q = (tt, ll)) := by
          unfold clipOneW pos
          rw [← HBV.out, ← HTV.out, if_neg (by omega)]; rfl
        go_roundw
        case measure => simp [intOf] <;> omega
        case rel =>
          exact ⟨q + 1, _, _, by omega, by go_num, h, (HN.out.trans HC.out).symm, hD⟩
    · have : q = n := by omega
      go_wp2_with fail
      go_end0
      have e1 := HT.out
      rw [this] at e1
      refine ⟨rfl, ?_, hD⟩
      rw [← e1]
      exact h

end Go.Proofs.YtomfcmlomfcghaaGreatDoor

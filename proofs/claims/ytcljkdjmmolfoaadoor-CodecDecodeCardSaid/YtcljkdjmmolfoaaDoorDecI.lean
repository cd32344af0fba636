/- A record that a decoder builds: the invariant of its loops. -/
import Derived.Test.YtcljkdjmmolfoaaDoorActB
import Derived.Test.YtcljkdjmmolfoaaDoorDecPl
set_option linter.unusedVariables false
set_option linter.unusedSimpArgs false
namespace Go.Proofs.YtcljkdjmmolfoaaDoor
open Go.RowKit

def zeroRec : Obj := .cells #[.int .i64 0, .int .i64 0, .int .i64 0, .int .i64 0, .int .i64 0, .int .i64 0, .bool false, .string ⟨#[]⟩, .string ⟨#[]⟩, .bool false, .string ⟨#[]⟩, .string ⟨#[]⟩, .slice none 0 0, .slice none 0 0, .slice none 0 0] 37 (0, 0)
structure DecI (T : TypeId) (w : World) (g Bk qr B : Nat) (z1 z2 z3 z4 z5 z6 : Int) (a c : RQ) (A1 : Option Addr) (c1 : Nat) (legs : List (Int × Int)) (A2 : Option Addr) (c2 : Nat) (opts : List (RQ × Int)) (A3 : Option Addr) (c3 : Nat) (pays : List Pay) (s : St) (W : World) : Prop where
  r : W.heap[qr]? = some (.cells #[.int .i64 z1, .int .i64 z2, .int .i64 z3, .int .i64 z4, .int .i64 z5, .int .i64 z6, .bool a.neg, .string a.num, .string a.den, .bool c.neg, .string c.num, .string c.den, .slice A1 legs.length c1, .slice A2 opts.length c2, .slice A3 pays.length c3] 37 (0, 0))
  z : W.heap[w.heap.size]? = some zeroRec
  l : W.ownsRow B 49 2 (.slice A1 legs.length c1) legs.length (legs.flatMap legV)
  o : W.ownsRow B 51 4 (.slice A2 opts.length c2) opts.length (opts.flatMap optV)
  p : W.ownsRow B 55 4 (.slice A3 pays.length c3) pays.length (pays.flatMap payV)
  d : RdS T g Bk s W
  b : Below w.heap.size w W
  sz : B ≤ W.heap.size
  gw : w.heap.size < g
  wq : w.heap.size < qr
  ne : g ≠ qr
  wB : w.heap.size ≤ B
  kB : Bk ≤ w.heap.size
  t : T ≠ 49 ∧ T ≠ 51 ∧ T ≠ 55
section
variable {T : TypeId} {w : World} {g Bk qr B : Nat} {z1 z2 z3 z4 z5 z6 : Int} {a c : RQ} {A1 : Option Addr} {c1 : Nat} {legs : List (Int × Int)} {A2 : Option Addr} {c2 : Nat} {opts : List (RQ × Int)} {A3 : Option Addr} {c3 : Nat} {pays : List Pay} {s s' : St} {W W' : World}
theorem DecI.next (h : DecI T w g Bk qr B z1 z2 z3 z4 z5 z6 a c A1 c1 legs A2 c2 opts A3 c3 pays s W) (hd : RdS T g Bk s' W') (ho : Only g W W') : DecI T w g Bk qr B z1 z2 z3 z4 z5 z6 a c A1 c1 legs A2 c2 opts A3 c3 pays s' W' := by
  obtain ⟨cur, hb⟩ := h.d.blk
  have h1 := h.gw
  have h2 := h.wq
  have h3 := h.ne
  exact ⟨blk_only h.r ho (Ne.symm h3), blk_only h.z ho (by omega), own_only h.l hb h.t.1 ho, own_only h.o hb h.t.2.1 ho, own_only h.p hb h.t.2.2 ho, hd, h.b.trans (ho.at_ w.heap.size h.b.size (by omega)), Nat.le_trans h.sz ho.size, h.gw, h.wq, h.ne, h.wB, h.kB, h.t⟩
theorem DecI.alloc (h : DecI T w g Bk qr B z1 z2 z3 z4 z5 z6 a c A1 c1 legs A2 c2 opts A3 c3 pays s W) (o : Obj) : DecI T w g Bk qr B z1 z2 z3 z4 z5 z6 a c A1 c1 legs A2 c2 opts A3 c3 pays s (W.alloc o) := h.next (h.d.next h.d.le (bel_alloc W o)) ((Only.refl g W).alloc o)
theorem DecI.drew (h : DecI T w g Bk qr B z1 z2 z3 z4 z5 z6 a c A1 c1 legs A2 c2 opts A3 c3 pays s W) : DecI T w g Bk qr B z1 z2 z3 z4 z5 z6 a c A1 c1 legs A2 c2 opts A3 c3 pays s W.drew := ⟨h.r, h.z, h.l, h.o, h.p, h.d, h.b.drew, h.sz, h.gw, h.wq, h.ne, h.wB, h.kB, h.t⟩
theorem DecI.leg (h : DecI T w g Bk qr B z1 z2 z3 z4 z5 z6 a c A1 c1 legs A2 c2 opts A3 c3 pays s W) {g' cap : Nat} {x y : Int}
    (hown : W'.ownsRow B 49 2 (.slice (some ⟨g', 0, none⟩) (legs.length + 1) cap) (legs.length + 1) (legs.flatMap legV ++ [.int .i64 x, .int .i64 y])) (hgr : W.grownBy W' (Value.slice A1 legs.length c1).ownBlock) :
    DecI T w g Bk qr B z1 z2 z3 z4 z5 z6 a c (some ⟨g', 0, none⟩) cap (legs ++ [(x, y)]) A2 c2 opts A3 c3 pays s (W'.setCell ⟨qr, 12, none⟩ (.slice (some ⟨g', 0, none⟩) (legs.length + 1) cap)) := by
  have hg1 := blk_grown h.l h.r (by decide) hgr
  have hz1 := blk_grown h.l h.z (by decide) hgr
  have h1 := h.gw
  have h2 := h.wq
  have h3 := h.ne
  have h4 := h.wB
  have h5 := h.kB
  have e : (legs ++ [(x, y)]).length = legs.length + 1 := by simp
  refine ⟨?_, ?_, ?_, ?_, ?_, ?_, ?_, ?_, h1, h2, h3, h4, h5, h.t⟩
  · rw [e]; exact heap_setCell_same W' qr 12 _ _ _ hg1
  · exact (heap_setCell_other W' ⟨qr, 12, none⟩ _ _ (by show w.heap.size ≠ qr; omega)).trans hz1
  · rw [e, ← flat_snocL]; exact own_set hown hg1 (by decide)
  · exact own_set (own_grown h.l h.o (by decide) hgr) hg1 (by decide)
  · exact own_set (own_grown h.l h.p (by decide) hgr) hg1 (by decide)
  · exact (h.d.grown h.l h.t.1 hgr (by omega)).far h3 (by omega)
  · exact (Below.grown h.b hgr (Nat.le_trans h4 h.sz) (fun q hq => Nat.le_trans h4 (h.l.lt q hq).1)).setCell (by show w.heap.size ≤ qr; omega) _
  · rw [show (W'.setCell ⟨qr, 12, none⟩ (.slice (some ⟨g', 0, none⟩) (legs.length + 1) cap)).heap.size = W'.heap.size by simp]; exact Nat.le_trans h.sz hgr.size
theorem DecI.opt (h : DecI T w g Bk qr B z1 z2 z3 z4 z5 z6 a c A1 c1 legs A2 c2 opts A3 c3 pays s W) {g' cap : Nat} {q : RQ} {y : Int}
    (hown : W'.ownsRow B 51 4 (.slice (some ⟨g', 0, none⟩) (opts.length + 1) cap) (opts.length + 1) (opts.flatMap optV ++ [.bool q.neg, .string q.num, .string q.den, .int .i64 y])) (hgr : W.grownBy W' (Value.slice A2 opts.length c2).ownBlock) :
    DecI T w g Bk qr B z1 z2 z3 z4 z5 z6 a c A1 c1 legs (some ⟨g', 0, none⟩) cap (opts ++ [(q, y)]) A3 c3 pays s (W'.setCell ⟨qr, 13, none⟩ (.slice (some ⟨g', 0, none⟩) (opts.length + 1) cap)) := by
  have hg1 := blk_grown h.o h.r (by decide) hgr
  have hz1 := blk_grown h.o h.z (by decide) hgr
  have h1 := h.gw
  have h2 := h.wq
  have h3 := h.ne
  have h4 := h.wB
  have h5 := h.kB
  have e : (opts ++ [(q, y)]).length = opts.length + 1 := by simp
  refine ⟨?_, ?_, ?_, ?_, ?_, ?_, ?_, ?_, h1, h2, h3, h4, h5, h.t⟩
  · rw [e]; exact heap_setCell_same W' qr 13 _ _ _ hg1
  · exact (heap_setCell_other W' ⟨qr, 13, none⟩ _ _ (by show w.heap.size ≠ qr; omega)).trans hz1
  · exact own_set (own_grown h.o h.l (by decide) hgr) hg1 (by decide)
  · rw [e, ← flat_snocL]; exact own_set hown hg1 (by decide)
  · exact own_set (own_grown h.o h.p (by decide) hgr) hg1 (by decide)
  · exact (h.d.grown h.o h.t.2.1 hgr (by omega)).far h3 (by omega)
  · exact (Below.grown h.b hgr (Nat.le_trans h4 h.sz) (fun q hq => Nat.le_trans h4 (h.o.lt q hq).1)).setCell (by show w.heap.size ≤ qr; omega) _
  · rw [show (W'.setCell ⟨qr, 13, none⟩ (.slice (some ⟨g', 0, none⟩) (opts.length + 1) cap)).heap.size = W'.heap.size by simp]; exact Nat.le_trans h.sz hgr.size
theorem DecI.pay (h : DecI T w g Bk qr B z1 z2 z3 z4 z5 z6 a c A1 c1 legs A2 c2 opts A3 c3 pays s W) {g' cap : Nat} {x y u v : Int}
    (hown : W'.ownsRow B 55 4 (.slice (some ⟨g', 0, none⟩) (pays.length + 1) cap) (pays.length + 1) (pays.flatMap payV ++ [.int .i64 x, .int .i64 y, .int .i64 u, .int .i64 v])) (hgr : W.grownBy W' (Value.slice A3 pays.length c3).ownBlock) :
    DecI T w g Bk qr B z1 z2 z3 z4 z5 z6 a c A1 c1 legs A2 c2 opts (some ⟨g', 0, none⟩) cap (pays ++ [(⟨x, y, u, v⟩ : Pay)]) s (W'.setCell ⟨qr, 14, none⟩ (.slice (some ⟨g', 0, none⟩) (pays.length + 1) cap)) := by
  have hg1 := blk_grown h.p h.r (by decide) hgr
  have hz1 := blk_grown h.p h.z (by decide) hgr
  have h1 := h.gw
  have h2 := h.wq
  have h3 := h.ne
  have h4 := h.wB
  have h5 := h.kB
  have e : (pays ++ [(⟨x, y, u, v⟩ : Pay)]).length = pays.length + 1 := by simp
  refine ⟨?_, ?_, ?_, ?_, ?_, ?_, ?_, ?_, h1, h2, h3, h4, h5, h.t⟩
  · rw [e]; exact heap_setCell_same W' qr 14 _ _ _ hg1
  · exact (heap_setCell_other W' ⟨qr, 14, none⟩ _ _ (by show w.heap.size ≠ qr; omega)).trans hz1
  · exact own_set (own_grown h.p h.l (by decide) hgr) hg1 (by decide)
  · exact own_set (own_grown h.p h.o (by decide) hgr) hg1 (by decide)
  · rw [e, ← flat_snocL]; exact own_set hown hg1 (by decide)
  · exact (h.d.grown h.p h.t.2.2 hgr (by omega)).far h3 (by omega)
  · exact (Below.grown h.b hgr (Nat.le_trans h4 h.sz) (fun q hq => Nat.le_trans h4 (h.p.lt q hq).1)).setCell (by show w.heap.size ≤ qr; omega) _
  · rw [show (W'.setCell ⟨qr, 14, none⟩ (.slice (some ⟨g', 0, none⟩) (pays.length + 1) cap)).heap.size = W'.heap.size by simp]; exact Nat.le_trans h.sz hgr.size
theorem DecI.cells (h : DecI T w g Bk qr B z1 z2 z3 z4 z5 z6 a c A1 c1 legs A2 c2 opts A3 c3 pays s W) : W.cell? ⟨qr, 12, none⟩ = some (.slice A1 legs.length c1) ∧ W.cell? ⟨qr, 13, none⟩ = some (.slice A2 opts.length c2) ∧ W.cell? ⟨qr, 14, none⟩ = some (.slice A3 pays.length c3) := by
  refine ⟨?_, ?_, ?_⟩
  · rw [cell_of_row W qr 12 _ _ (0, 0) h.r]; rfl
  · rw [cell_of_row W qr 13 _ _ (0, 0) h.r]; rfl
  · rw [cell_of_row W qr 14 _ _ (0, 0) h.r]; rfl
end
/-- what a decoder leaves -/
def DecPost (o : Option RecD) (w : World) (e : Ending) (w' : World) : Prop :=
  (o = none → e = .returned (.tuple #[.agg #[.int .i64 0, .int .i64 0, .int .i64 0, .int .i64 0, .int .i64 0, .int .i64 0, .bool false, .string ⟨#[]⟩, .string ⟨#[]⟩, .bool false, .string ⟨#[]⟩, .string ⟨#[]⟩, .slice none 0 0, .slice none 0 0, .slice none 0 0], .int .i64 44])) ∧
  (∀ r, o = some r → ∃ A1 c1 A2 c2 A3 c3, e = .returned (.tuple #[.agg #[.int .i64 r.1.z1, .int .i64 r.1.z2, .int .i64 r.1.z3, .int .i64 r.1.z4, .int .i64 r.1.z5, .int .i64 r.1.z6, .bool r.1.a.neg, .string r.1.a.num, .string r.1.a.den, .bool r.1.c.neg, .string r.1.c.num, .string r.1.c.den, .slice A1 r.1.legs.length c1, .slice A2 r.1.opts.length c2, .slice A3 r.2.length c3], .int .i64 0]) ∧ Rd w' w'.heap.size 2 A1 r.1.legs.length (r.1.legs.flatMap legV) ∧ Rd w' w'.heap.size 4 A2 r.1.opts.length (r.1.opts.flatMap optV) ∧ Rd w' w'.heap.size 4 A3 r.2.length (r.2.flatMap payV)) ∧ Below w.heap.size w w'

end Go.Proofs.YtcljkdjmmolfoaaDoor

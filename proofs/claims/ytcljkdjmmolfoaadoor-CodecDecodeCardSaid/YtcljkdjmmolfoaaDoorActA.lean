/- (*codec.reader).act: what it reads; the invariant of its loops. -/
import Derived.Test.YtcljkdjmmolfoaaDoorRdRatR
import Derived.Test.YtcljkdjmmolfoaaDoorRecB
set_option linter.unusedVariables false
set_option linter.unusedSimpArgs false
namespace Go.Proofs.YtcljkdjmmolfoaaDoor
open Go.RowKit

structure ActD where
  z1 : Int
  z2 : Int
  z3 : Int
  z4 : Int
  z5 : Int
  z6 : Int
  a : RQ
  c : RQ
  legs : List (Int × Int)
  opts : List (RQ × Int)
def rAct (N : St → Int × St) (Q : St → RQ × St) (s : St) : ActD × St :=
  let t1 := N s
  let t2 := N t1.2
  let t3 := N t2.2
  let t4 := N t3.2
  let t5 := N t4.2
  let t6 := N t5.2
  let ta := Q t6.2
  let tc := Q ta.2
  let n1 := rCount N 8 tc.2
  let l := rList (rPair N) n1.1 n1.2
  let n2 := rCount N 4 l.2
  let o := rList (rOpt N Q) n2.1 n2.2
  (⟨t1.1, t2.1, t3.1, t4.1, t5.1, t6.1, ta.1, tc.1, l.1, o.1⟩, o.2)
theorem rCount_le (N : St → Int × St) (m : Nat) (s : St) : (rCount N m s).1 ≤ m := by
  unfold rCount
  split
  · exact Nat.zero_le _
  · rename_i h
    simp only [not_or] at h
    show (N s).1.toNat ≤ m
    omega
theorem rList_len {α : Type} (f : St → α × St) (n : Nat) (s : St) : (rList f n s).1.length = n := by
  induction n with
  | zero => rfl
  | succ n ih => simp [rList, ih]

section
variable {g : Nat} {w w1 w2 : World}
theorem Only.grown (h : Only g w w1) {row : Option Nat} (hg : w1.grownBy w2 row) (hr : ∀ q, row = some q → w.heap.size ≤ q) : Only g w w2 :=
  ⟨hg.os.trans h.os, hg.tape.trans h.tape, hg.output.trans h.output, Nat.le_trans h.size hg.size, fun k hk hn => (hg.block k (Nat.lt_of_lt_of_le hk h.size) (fun e => by have := hr k e.symm; omega)).trans (h.block k hk hn)⟩
end
theorem only_sets {g q : Nat} {w : World} (hq : w.heap.size ≤ q) : ∀ (vs : List Value) (o : Nat) (w1 : World), Only g w w1 → Only g w (w1.setCells q o vs)
  | [], _, _, h => h
  | v :: r, o, w1, h => by rw [World.setCells]; exact only_sets hq r (o + 1) _ (h.setNew hq v)
theorem own_only {w w' : World} {base e size n g : Nat} {v : Value} {xs : List Value} {T : TypeId} {c : Array Value} {f : Nat × Nat} (h : w.ownsRow base e size v n xs) (hg : w.heap[g]? = some (.cells c T f)) (hT : T ≠ e) (ho : Only g w w') : w'.ownsRow base e size v n xs := by
  refine ⟨h.1, ?_⟩
  rcases h.2 with hn | ⟨q, cap, cur, rfl, hb2, hgg, rest⟩
  · exact .inl hn
  · refine .inr ⟨q, cap, cur, rfl, hb2, ?_, rest⟩
    have hne : q ≠ g := fun e => by
      subst e
      rw [hg] at hgg
      simp only [Option.some.injEq, Obj.cells.injEq] at hgg
      exact hT hgg.2.1
    rw [ho.block q (Array.getElem?_eq_some_iff.1 hgg).1 hne]; exact hgg
theorem RdS.blk {T : TypeId} {g Bk : Nat} {s : St} {w : World} (h : RdS T g Bk s w) : ∃ cur, w.heap[g]? = some (.cells cur T (0, 0)) := by
  obtain ⟨A, c, h1, _⟩ := h; exact ⟨_, h1⟩
theorem RdS.grown {T : TypeId} {g Bk B n S : Nat} {s : St} {w w' : World} {v : Value} {xs : List Value} {E : TypeId} (h : RdS T g Bk s w) (hl : w.ownsRow B E S v n xs) (hT : T ≠ E) (hgr : w.grownBy w' v.ownBlock) (hB : Bk ≤ B) : RdS T g Bk s w' := by
  obtain ⟨A, c, h1, h2, h3, h4, h5, h6⟩ := h
  refine ⟨A, c, blk_grown hl h1 hT hgr, ?_, h3, h4, h5, h6⟩
  exact h2.below ⟨hgr.os, hgr.tape, hgr.output, hgr.size, fun k hk => hgr.block k (by have := (Array.getElem?_eq_some_iff.1 h1).1; omega) (fun e => by have := (hl.lt k e.symm).1; omega)⟩

def zeroAct : Obj := .cells #[.int .i64 0, .int .i64 0, .int .i64 0, .int .i64 0, .int .i64 0, .int .i64 0, .bool false, .string ⟨#[]⟩, .string ⟨#[]⟩, .bool false, .string ⟨#[]⟩, .string ⟨#[]⟩, .slice none 0 0, .slice none 0 0] 34 (0, 0)
structure ActI (w : World) (g Bk qa B : Nat) (z1 z2 z3 z4 z5 z6 : Int) (a c : RQ) (A1 : Option Addr) (c1 : Nat) (legs : List (Int × Int)) (A2 : Option Addr) (c2 : Nat) (opts : List (RQ × Int)) (s : St) (W : World) : Prop where
  r : W.heap[qa]? = some (.cells #[.int .i64 z1, .int .i64 z2, .int .i64 z3, .int .i64 z4, .int .i64 z5, .int .i64 z6, .bool a.neg, .string a.num, .string a.den, .bool c.neg, .string c.num, .string c.den, .slice A1 legs.length c1, .slice A2 opts.length c2] 34 (0, 0))
  z : W.heap[w.heap.size]? = some zeroAct
  l : W.ownsRow B 49 2 (.slice A1 legs.length c1) legs.length (legs.flatMap legV)
  o : W.ownsRow B 51 4 (.slice A2 opts.length c2) opts.length (opts.flatMap optV)
  d : RdS 81 g Bk s W
  b : Only g w W
  sz : B ≤ W.heap.size
  gw : g < w.heap.size
  wq : w.heap.size < qa
  qB : qa < B
section
variable {w : World} {g Bk qa B : Nat} {z1 z2 z3 z4 z5 z6 : Int} {a c : RQ} {A1 : Option Addr} {c1 : Nat} {legs : List (Int × Int)} {A2 : Option Addr} {c2 : Nat} {opts : List (RQ × Int)} {s s' : St} {W W' : World}
theorem ActI.next (h : ActI w g Bk qa B z1 z2 z3 z4 z5 z6 a c A1 c1 legs A2 c2 opts s W) (hd : RdS 81 g Bk s' W') (ho : Only g W W') : ActI w g Bk qa B z1 z2 z3 z4 z5 z6 a c A1 c1 legs A2 c2 opts s' W' := by
  obtain ⟨cur, hb⟩ := h.d.blk
  have h1 := h.gw
  have h2 := h.wq
  exact ⟨blk_only h.r ho (by omega), blk_only h.z ho (by omega), own_only h.l hb (by decide) ho, own_only h.o hb (by decide) ho, hd, h.b.trans ho, Nat.le_trans h.sz ho.size, h.gw, h.wq, h.qB⟩
theorem ActI.alloc (h : ActI w g Bk qa B z1 z2 z3 z4 z5 z6 a c A1 c1 legs A2 c2 opts s W) (o : Obj) : ActI w g Bk qa B z1 z2 z3 z4 z5 z6 a c A1 c1 legs A2 c2 opts s (W.alloc o) := h.next (h.d.next h.d.le (bel_alloc W o)) ((Only.refl g W).alloc o)
theorem ActI.drew (h : ActI w g Bk qa B z1 z2 z3 z4 z5 z6 a c A1 c1 legs A2 c2 opts s W) : ActI w g Bk qa B z1 z2 z3 z4 z5 z6 a c A1 c1 legs A2 c2 opts s W.drew := ⟨h.r, h.z, h.l, h.o, h.d, h.b.drew, h.sz, h.gw, h.wq, h.qB⟩
theorem ActI.bkB (h : ActI w g Bk qa B z1 z2 z3 z4 z5 z6 a c A1 c1 legs A2 c2 opts s W) : Bk ≤ g := by obtain ⟨_, _, _, _, h3, _⟩ := h.d; exact h3
theorem ActI.leg (h : ActI w g Bk qa B z1 z2 z3 z4 z5 z6 a c A1 c1 legs A2 c2 opts s W) {g' cap : Nat} {x y : Int}
    (hown : W'.ownsRow B 49 2 (.slice (some ⟨g', 0, none⟩) (legs.length + 1) cap) (legs.length + 1) (legs.flatMap legV ++ [.int .i64 x, .int .i64 y])) (hgr : W.grownBy W' (Value.slice A1 legs.length c1).ownBlock) :
    ActI w g Bk qa B z1 z2 z3 z4 z5 z6 a c (some ⟨g', 0, none⟩) cap (legs ++ [(x, y)]) A2 c2 opts s (W'.setCell ⟨qa, 12, none⟩ (.slice (some ⟨g', 0, none⟩) (legs.length + 1) cap)) := by
  have hg1 := blk_grown h.l h.r (by decide) hgr
  have hz1 := blk_grown h.l h.z (by decide) hgr
  have h1 := h.gw
  have h2 := h.wq
  have h3 := h.qB
  have h4 := h.bkB
  have e : (legs ++ [(x, y)]).length = legs.length + 1 := by simp
  refine ⟨?_, ?_, ?_, ?_, ?_, ?_, ?_, h1, h2, h3⟩
  · rw [e]; exact heap_setCell_same W' qa 12 _ _ _ hg1
  · exact (heap_setCell_other W' ⟨qa, 12, none⟩ _ _ (by show w.heap.size ≠ qa; omega)).trans hz1
  · rw [e, ← flat_snocL]; exact own_set hown hg1 (by decide)
  · exact own_set (own_grown h.l h.o (by decide) hgr) hg1 (by decide)
  · exact (h.d.grown h.l (by decide) hgr (by omega)).far (by omega) (by omega)
  · exact (h.b.grown hgr (fun q hq => by have := (h.l.lt q hq).1; omega)).setNew (by omega) _
  · rw [show (W'.setCell ⟨qa, 12, none⟩ (.slice (some ⟨g', 0, none⟩) (legs.length + 1) cap)).heap.size = W'.heap.size by simp]; exact Nat.le_trans h.sz hgr.size
theorem ActI.opt (h : ActI w g Bk qa B z1 z2 z3 z4 z5 z6 a c A1 c1 legs A2 c2 opts s W) {g' cap : Nat} {q : RQ} {y : Int}
    (hown : W'.ownsRow B 51 4 (.slice (some ⟨g', 0, none⟩) (opts.length + 1) cap) (opts.length + 1) (opts.flatMap optV ++ [.bool q.neg, .string q.num, .string q.den, .int .i64 y])) (hgr : W.grownBy W' (Value.slice A2 opts.length c2).ownBlock) :
    ActI w g Bk qa B z1 z2 z3 z4 z5 z6 a c A1 c1 legs (some ⟨g', 0, none⟩) cap (opts ++ [(q, y)]) s (W'.setCell ⟨qa, 13, none⟩ (.slice (some ⟨g', 0, none⟩) (opts.length + 1) cap)) := by
  have hg1 := blk_grown h.o h.r (by decide) hgr
  have hz1 := blk_grown h.o h.z (by decide) hgr
  have h1 := h.gw
  have h2 := h.wq
  have h3 := h.qB
  have h4 := h.bkB
  have e : (opts ++ [(q, y)]).length = opts.length + 1 := by simp
  refine ⟨?_, ?_, ?_, ?_, ?_, ?_, ?_, h1, h2, h3⟩
  · rw [e]; exact heap_setCell_same W' qa 13 _ _ _ hg1
  · exact (heap_setCell_other W' ⟨qa, 13, none⟩ _ _ (by show w.heap.size ≠ qa; omega)).trans hz1
  · exact own_set (own_grown h.o h.l (by decide) hgr) hg1 (by decide)
  · rw [e, ← flat_snocL]; exact own_set hown hg1 (by decide)
  · exact (h.d.grown h.o (by decide) hgr (by omega)).far (by omega) (by omega)
  · exact (h.b.grown hgr (fun q hq => by have := (h.o.lt q hq).1; omega)).setNew (by omega) _
  · rw [show (W'.setCell ⟨qa, 13, none⟩ (.slice (some ⟨g', 0, none⟩) (opts.length + 1) cap)).heap.size = W'.heap.size by simp]; exact Nat.le_trans h.sz hgr.size
theorem ActI.cells (h : ActI w g Bk qa B z1 z2 z3 z4 z5 z6 a c A1 c1 legs A2 c2 opts s W) : W.cell? ⟨qa, 12, none⟩ = some (.slice A1 legs.length c1) ∧ W.cell? ⟨qa, 13, none⟩ = some (.slice A2 opts.length c2) := by
  refine ⟨?_, ?_⟩
  · rw [cell_of_row W qa 12 _ _ (0, 0) h.r]; rfl
  · rw [cell_of_row W qa 13 _ _ (0, 0) h.r]; rfl
end
def ActPost (T : TypeId) (g Bk : Nat) (r : ActD × St) (w : World) (e : Ending) (w' : World) : Prop :=
  ∃ (B : Nat) (A1 : Option Addr) (c1 : Nat) (A2 : Option Addr) (c2 : Nat), e = .returned (.agg #[.int .i64 r.1.z1, .int .i64 r.1.z2, .int .i64 r.1.z3, .int .i64 r.1.z4, .int .i64 r.1.z5, .int .i64 r.1.z6, .bool r.1.a.neg, .string r.1.a.num, .string r.1.a.den, .bool r.1.c.neg, .string r.1.c.num, .string r.1.c.den, .slice A1 r.1.legs.length c1, .slice A2 r.1.opts.length c2]) ∧ w.heap.size ≤ B ∧ w'.ownsRow B 49 2 (.slice A1 r.1.legs.length c1) r.1.legs.length (r.1.legs.flatMap legV) ∧ w'.ownsRow B 51 4 (.slice A2 r.1.opts.length c2) r.1.opts.length (r.1.opts.flatMap optV) ∧ RdS T g Bk r.2 w' ∧ Only g w w' ∧ B ≤ w'.heap.size
def AMid1 (w : World) (g Bk qa B : Nat) (z1 z2 z3 z4 z5 z6 : Int) (a c : RQ) (n : Nat) (s : St) (W : World) : Prop := ∃ A1 c1, ActI w g Bk qa B z1 z2 z3 z4 z5 z6 a c A1 c1 (rList (rPair pNum) n s).1 none 0 [] (rList (rPair pNum) n s).2 W
def AMid2 (w : World) (g Bk qa B : Nat) (z1 z2 z3 z4 z5 z6 : Int) (a c : RQ) (A1 : Option Addr) (c1 : Nat) (legs : List (Int × Int)) (n : Nat) (s : St) (W : World) : Prop := ∃ A2 c2, ActI w g Bk qa B z1 z2 z3 z4 z5 z6 a c A1 c1 legs A2 c2 (rList (rOpt pNum pRat) n s).1 (rList (rOpt pNum pRat) n s).2 W

end Go.Proofs.YtcljkdjmmolfoaaDoor

/- Merged of WLad WAdd. -/
import Derived.Test.YtjlicnhkemfmiaaGreatDoorM22
import Derived.Test.YtjlicnhkemfmiaaGreatDoorM17
import Derived.Test.YtjlicnhkemfmiaaGreatDoorM16
import Derived.OwnWalk
import Derived.Laws.AppendOwn
import Derived.Maps.AppendAt
import Derived.Test.YtjlicnhkemfmiaaGreatDoorSq
/- The ladder of a waterfall in memory: a block of tiers, each with a row of parts of its own. -/
set_option linter.unusedVariables false
set_option linter.unusedSimpArgs false
namespace Go.Proofs.YtjlicnhkemfmiaaGreatDoor
open Go.RowKit

theorem flat_set {α : Type} (f : α → List Value) (S : Nat) (hS : ∀ x, (f x).length = S) : ∀ (l : List α) (k j : Nat) (x y : α) (v : Value), l[k]? = some x → j < S → f y = (f x).set j v → (l.flatMap f).set (k * S + j) v = (l.set k y).flatMap f
 | [], k, j, x, y, v, h, _, _ => by simp at h
 | z :: l, 0, j, x, y, v, h, hj, e => by
  simp at h
  subst h
  simp only [List.flatMap_cons, List.set_cons_zero, Nat.zero_mul, Nat.zero_add]
  rw [List.set_append_left _ _ (by rw [hS]; exact hj), e]
 | z :: l, k + 1, j, x, y, v, h, hj, e => by
  have ih := flat_set f S hS l k j x y v (by simpa using h) hj e
  have e1 : (k + 1) * S = k * S + S := Nat.succ_mul k S
  simp only [List.flatMap_cons, List.set_cons_succ]
  rw [List.set_append_right _ _ (by rw [hS]; omega), hS, show (k + 1) * S + j - S = k * S + j by omega, ih]
theorem blk_set_list {W : World} {g j : Nat} {l : List Value} {T : TypeId} (h : W.heap[g]? = some (.cells l.toArray T (0, 0))) (v : Value) : (W.setCell ⟨g, j, none⟩ v).heap[g]? = some (.cells (l.set j v).toArray T (0, 0)) := by
 rw [heap_setCell_same W g j _ _ v h, List.setIfInBounds_toArray]
theorem cell_of_list {W : World} {g j : Nat} {l : List Value} {T : TypeId} {v : Value} (h : W.heap[g]? = some (.cells l.toArray T (0, 0))) (hv : l[j]? = some v) : W.cell? ⟨g, j, none⟩ = some v := by
 rw [cell_of_row W g j _ _ (0, 0) h]
 simpa using hv
/-- a block of another element type than the row's is not written -/
theorem blk_grownT {W W' : World} {B n g S : Nat} {v : Value} {xs : List Value} {T E : TypeId} {c : Array Value} {f : Nat × Nat} (h : W.ownsRow B E S v n xs) (hg : W.heap[g]? = some (.cells c T f)) (hT : T ≠ E) (hgr : W.grownBy W' v.ownBlock) : W'.heap[g]? = some (.cells c T f) := by
 rw [hgr.block g (blk_lt hg) (fun e => ?_)]
 ·
  exact hg
 ·
  rcases h.2 with ⟨rfl, _⟩ | ⟨q, cap, cur, rfl, _, hq, _⟩
  ·
   cases e
  ·
   injection e with e
   subst e
   rw [hq] at hg
   injection hg with hg
   injection hg with _ hg
   exact hT hg.symm
/-- only blocks of the element types T1, T2 are written -/
structure OffT (T1 T2 : TypeId) (w w' : World) : Prop where
 size : w.heap.size ≤ w'.heap.size
 blk : ∀ (k : Nat) (cur : Array Value) (T : TypeId) (f : Nat × Nat), w.heap[k]? = some (.cells cur T f) → T ≠ T1 → T ≠ T2 → w'.heap[k]? = some (.cells cur T f)
theorem OffT.refl {T1 T2 : TypeId} (w : World) : OffT T1 T2 w w := ⟨Nat.le_refl _, fun k c T f h _ _ => h⟩
theorem OffT.next {T1 T2 : TypeId} {w W W' : World} (h : OffT T1 T2 w W) (hb : Below W.heap.size W W') : OffT T1 T2 w W' := ⟨Nat.le_trans h.size hb.size, fun k c T f hk h1 h2 => blk_next (h.blk k c T f hk h1 h2) hb⟩
theorem OffT.drew {T1 T2 : TypeId} {w W : World} (h : OffT T1 T2 w W) : OffT T1 T2 w W.drew := ⟨h.size, h.blk⟩
theorem OffT.trans {T1 T2 : TypeId} {w W W' : World} (h : OffT T1 T2 w W) (k : OffT T1 T2 W W') : OffT T1 T2 w W' := ⟨Nat.le_trans h.size k.size, fun i c T f hi h1 h2 => k.blk i c T f (h.blk i c T f hi h1 h2) h1 h2⟩
theorem OffT.setC {T1 T2 : TypeId} {w W : World} (h : OffT T1 T2 w W) {g j : Nat} {cur : Array Value} {f : Nat × Nat} (hg : W.heap[g]? = some (.cells cur T1 f)) (v : Value) : OffT T1 T2 w (W.setCell ⟨g, j, none⟩ v) :=
 ⟨by rw [World.size_setCell]; exact h.size, fun k c T f2 hk h1 h2 => by
  have hk2 := h.blk k c T f2 hk h1 h2
  refine (heap_setCell_other _ ⟨g, j, none⟩ k _ (fun e => ?_)).trans hk2
  have e2 : k = g := e
  subst e2
  rw [hg] at hk2
  injection hk2 with hk2
  injection hk2 with _ hk2
  exact h1 hk2.symm⟩
theorem OffT.grown {T1 T2 : TypeId} {w W W' : World} (h : OffT T1 T2 w W) {B S n : Nat} {v : Value} {xs : List Value} (ho : W.ownsRow B T2 S v n xs) (hgr : W.grownBy W' v.ownBlock) : OffT T1 T2 w W' :=
 ⟨Nat.le_trans h.size hgr.size, fun k c T f hk h1 h2 => blk_grownT ho (h.blk k c T f hk h1 h2) h2 hgr⟩

structure Tr where
 A : Option Addr
 c : Nat
 ps : List Pt
 sum : Rat
def ptV (p : Pt) : List Value := [.int .i64 (p.1 : Int), .bool (rneg p.2), .string (rnum p.2), .string (rden p.2)]
def Tr.sl (t : Tr) : Value := .slice t.A t.ps.length t.c
def trV (t : Tr) : List Value := [.slice t.A t.ps.length t.c, .bool (rneg t.sum), .string (rnum t.sum), .string (rden t.sum)]
theorem trV_len (t : Tr) : (trV t).length = 4 := rfl
abbrev ownP (B : Nat) (t : Tr) (W : World) : Prop := W.ownsRow B 184 4 (.slice t.A t.ps.length t.c) t.ps.length (t.ps.flatMap ptV)
structure LadM (B R : Nat) (ts : List Tr) (W : World) : Prop where
 base : B ≤ R
 blk : W.heap[R]? = some (.cells (ts.flatMap trV).toArray 136 (0, 0))
 rows : ∀ (r : Nat) (t : Tr), ts[r]? = some t → ownP B t W
 apart : ∀ (r s : Nat) (t u : Tr), ts[r]? = some t → ts[s]? = some u → r ≠ s → ∀ g, t.sl.ownBlock = some g → u.sl.ownBlock ≠ some g
section
variable {B R : Nat} {ts : List Tr} {W W' : World} {r : Nat} {t : Tr}
theorem LadM.lt (h : LadM B R ts W) : R < W.heap.size := blk_lt h.blk
theorem LadM.next (h : LadM B R ts W) (hb : Below W.heap.size W W') : LadM B R ts W' := ⟨h.base, blk_next h.blk hb, fun r t hr => own_belowQ (h.rows r t hr) hb, h.apart⟩
theorem LadM.drew (h : LadM B R ts W) : LadM B R ts W.drew := ⟨h.base, h.blk, h.rows, h.apart⟩
theorem LadM.cell (h : LadM B R ts W) (hr : ts[r]? = some t) {j : Nat} {v : Value} (hv : (trV t)[j]? = some v) : W.cell? ⟨R, r * 4 + j, none⟩ = some v :=
 cell_of_list h.blk (by rw [flat_get trV 4 trV_len ts r j t hr (by have := (List.getElem?_eq_some_iff.1 hv).1; exact this)]; exact hv)
theorem LadM.cells (h : LadM B R ts W) (hr : ts[r]? = some t) : W.cell? ⟨R, r * 4, none⟩ = some (.slice t.A t.ps.length t.c) ∧ W.cell? ⟨R, r * 4 + 1, none⟩ = some (.bool (rneg t.sum)) ∧ W.cell? ⟨R, r * 4 + 2, none⟩ = some (.string (rnum t.sum)) ∧ W.cell? ⟨R, r * 4 + 3, none⟩ = some (.string (rden t.sum)) :=
 ⟨h.cell (j := 0) hr rfl, h.cell hr rfl, h.cell hr rfl, h.cell hr rfl⟩
theorem LadM.free (h : LadM B R ts W) (j : Nat) : W.frozen? ⟨R, j, none⟩ = false := frozen_of_row W R j _ _ h.blk
theorem own_off {B S n : Nat} {T : TypeId} {v : Value} {xs : List Value} {g j : Nat} {u : Value} (h : W.ownsRow B T S v n xs) {cur : Array Value} {T1 : TypeId} {f : Nat × Nat} (hg : W.heap[g]? = some (.cells cur T1 f)) (hT : T1 ≠ T) : (W.setCell ⟨g, j, none⟩ u).ownsRow B T S v n xs := by
 refine ⟨h.1, ?_⟩
 rcases h.2 with hn | ⟨q, cap, cur2, rfl, hb2, hgg, rest⟩
 ·
  exact .inl hn
 ·
  refine .inr ⟨q, cap, cur2, rfl, hb2, ?_, rest⟩
  refine (heap_setCell_other _ ⟨g, j, none⟩ q _ (fun e => ?_)).trans hgg
  have e2 : q = g := e
  subst e2
  rw [hg] at hgg
  injection hgg with hgg
  injection hgg with _ hgg
  exact hT hgg
theorem set_get {α : Type} {l : List α} {r s : Nat} {x y : α} (h : (l.set r x)[s]? = some y) : (s = r ∧ y = x) ∨ (s ≠ r ∧ l[s]? = some y) := by
 rw [List.getElem?_set] at h
 by_cases e : r = s
 ·
  subst e
  rw [if_pos rfl] at h
  split at h
  ·
   exact Or.inl ⟨rfl, (Option.some.inj h).symm⟩
  ·
   cases h
 ·
  rw [if_neg e] at h
  exact Or.inr ⟨fun e2 => e e2.symm, h⟩
/-- a part has been appended to the row of tier r and the tier's slice is stored -/
theorem LadM.grow (h : LadM B R ts W) (hr : ts[r]? = some t) {p : Pt} {g cap : Nat} (ho : W'.ownsRow B 184 4 (.slice (some ⟨g, 0, none⟩) (t.ps.length + 1) cap) (t.ps.length + 1) (t.ps.flatMap ptV ++ ptV p)) (hgr : W.grownBy W' t.sl.ownBlock) (hor : t.sl.ownBlock = some g ∨ g = W.heap.size) :
 LadM B R (ts.set r ⟨some ⟨g, 0, none⟩, cap, t.ps ++ [p], t.sum⟩) (W'.setCell ⟨R, r * 4, none⟩ (.slice (some ⟨g, 0, none⟩) (t.ps.length + 1) cap)) := by
 have hR : W'.heap[R]? = some (.cells (ts.flatMap trV).toArray 136 (0, 0)) := blk_grownT (h.rows r t hr) h.blk (by decide) hgr
 have hlt : ∀ (s : Nat) (u : Tr), ts[s]? = some u → ∀ q, u.sl.ownBlock = some q → q < W.heap.size := fun s u hs q hq => ((h.rows s u hs).lt q hq).2
 refine ⟨h.base, ?_, fun s u hs => ?_, fun s1 s2 u1 u2 h1 h2 hne q hq => ?_⟩
 ·
  have e := flat_set trV 4 trV_len ts r 0 t ⟨some ⟨g, 0, none⟩, cap, t.ps ++ [p], t.sum⟩ (.slice (some ⟨g, 0, none⟩) (t.ps.length + 1) cap) hr (by decide) (by simp [trV])
  rw [← e]
  exact blk_set_list hR _
 ·
  refine own_off ?_ hR (by decide)
  rcases set_get hs with ⟨rfl, rfl⟩ | ⟨hne, hs⟩
  ·
   show W'.ownsRow B 184 4 (.slice (some ⟨g, 0, none⟩) (t.ps ++ [p]).length cap) (t.ps ++ [p]).length ((t.ps ++ [p]).flatMap ptV)
   rw [List.length_append, List.flatMap_append]
   simpa using ho
  ·
   refine (h.rows s u hs).kept hgr ?_
   show u.sl.ownBlock = none ∨ u.sl.ownBlock ≠ t.sl.ownBlock
   rcases hu : u.sl.ownBlock with _ | q
   ·
    exact Or.inl rfl
   ·
    exact Or.inr (fun e => h.apart s r u t hs hr hne q hu e.symm)
 ·
  rcases set_get h1 with ⟨e1, rfl⟩ | ⟨n1, h1⟩ <;> rcases set_get h2 with ⟨e2, rfl⟩ | ⟨n2, h2⟩
  ·
   exact absurd (e1.trans e2.symm) hne
  ·
   have hg : g = q := by injection hq
   subst hg
   intro h3
   rcases hor with hor | hor
   ·
    exact h.apart r s2 t u2 hr h2 (fun e => n2 e.symm) g hor h3
   ·
    have := hlt s2 u2 h2 g h3; omega
  ·
   intro h3
   have hg : g = q := by injection h3
   subst hg
   rcases hor with hor | hor
   ·
    exact h.apart s1 r u1 t h1 hr n1 g hq hor
   ·
    have := hlt s1 u1 h1 g hq; omega
  ·
   exact h.apart s1 s2 u1 u2 h1 h2 hne q hq
/-- the sum of tier r is stored -/
theorem LadM.setSum (h : LadM B R ts W) (hr : ts[r]? = some t) (q : Rat) :
 LadM B R (ts.set r ⟨t.A, t.c, t.ps, q⟩) (((W.setCell ⟨R, r * 4 + 1, none⟩ (.bool (rneg q))).setCell ⟨R, r * 4 + 2, none⟩ (.string (rnum q))).setCell ⟨R, r * 4 + 3, none⟩ (.string (rden q))) := by
 have b1 := blk_set_list (j := r * 4 + 1) h.blk (.bool (rneg q))
 have b2 := blk_set_list (j := r * 4 + 2) b1 (.string (rnum q))
 have b3 := blk_set_list (j := r * 4 + 3) b2 (.string (rden q))
 refine ⟨h.base, ?_, fun s u hs => ?_, fun s1 s2 u1 u2 h1 h2 hne g hq => ?_⟩
 ·
  have f1 : ts.flatMap trV = ts.flatMap trV := rfl
  have e : (((ts.flatMap trV).set (r * 4 + 1) (.bool (rneg q))).set (r * 4 + 2) (.string (rnum q))).set (r * 4 + 3) (.string (rden q)) = (ts.set r ⟨t.A, t.c, t.ps, q⟩).flatMap trV := by
   have hl := flat_len trV 4 trV_len ts
   have hrl := (List.getElem?_eq_some_iff.1 hr).1
   have e2 := flat_len trV 4 trV_len (ts.set r ⟨t.A, t.c, t.ps, q⟩)
   rw [List.length_set] at e2
   refine List.ext_getElem? fun i => ?_
   by_cases hi : i < ts.length * 4
   ·
    obtain ⟨x, hx⟩ := getElem?_of_lt (l := ts) (k := i / 4) (by omega)
    have g1 := flat_get trV 4 trV_len ts (i / 4) (i % 4) x hx (by omega)
    rw [show i / 4 * 4 + i % 4 = i by omega] at g1
    simp only [List.getElem?_set, List.length_set, hl]
    by_cases hir : i / 4 = r
    ·
     have g2 := flat_get trV 4 trV_len (ts.set r ⟨t.A, t.c, t.ps, q⟩) r (i % 4) ⟨t.A, t.c, t.ps, q⟩ (by rw [List.getElem?_set, if_pos rfl, if_pos hrl]) (by omega)
     rw [show r * 4 + i % 4 = i by omega] at g2
     rw [g2, g1]
     rw [hir, hr] at hx
     obtain rfl := Option.some.inj hx
     have h4 : i % 4 = 0 ∨ i % 4 = 1 ∨ i % 4 = 2 ∨ i % 4 = 3 := by omega
     rcases h4 with h4 | h4 | h4 | h4
     ·
      rw [if_neg (by omega), if_neg (by omega), if_neg (by omega), h4]; rfl
     ·
      rw [if_neg (by omega), if_neg (by omega), if_pos (by omega), if_pos (by omega), h4]; rfl
     ·
      rw [if_neg (by omega), if_pos (by omega), if_pos (by omega), h4]; rfl
     ·
      rw [if_pos (by omega), if_pos (by omega), h4]; rfl
    ·
     have g2 := flat_get trV 4 trV_len (ts.set r ⟨t.A, t.c, t.ps, q⟩) (i / 4) (i % 4) x (by rw [List.getElem?_set, if_neg (fun e => hir e.symm)]; exact hx) (by omega)
     rw [show i / 4 * 4 + i % 4 = i by omega] at g2
     rw [if_neg (by omega), if_neg (by omega), if_neg (by omega), g1, g2]
   ·
    rw [List.getElem?_eq_none (by simp only [List.length_set]; omega), List.getElem?_eq_none (by omega)]
  rw [← e]; exact b3
 ·
  have hs' : ownP B u W := by
   rcases set_get hs with ⟨rfl, rfl⟩ | ⟨hne, hs⟩
   ·
    exact h.rows s t hr
   ·
    exact h.rows s u hs
  exact own_off (own_off (own_off hs' h.blk (by decide)) b1 (by decide)) b2 (by decide)
 ·
  rcases set_get h1 with ⟨e1, rfl⟩ | ⟨n1, h1⟩ <;> rcases set_get h2 with ⟨e2, rfl⟩ | ⟨n2, h2⟩
  ·
   exact absurd (e1.trans e2.symm) hne
  ·
   exact h.apart r s2 t u2 hr h2 (fun e => n2 e.symm) g hq
  ·
   exact h.apart s1 r u1 t h1 hr n1 g hq
  ·
   exact h.apart s1 s2 u1 u2 h1 h2 hne g hq
theorem LadM.offSum {w : World} (h : LadM B R ts W) {T2 : TypeId} (ho : OffT 136 T2 w W) (r : Nat) (q : Rat) : OffT 136 T2 w (((W.setCell ⟨R, r * 4 + 1, none⟩ (.bool (rneg q))).setCell ⟨R, r * 4 + 2, none⟩ (.string (rnum q))).setCell ⟨R, r * 4 + 3, none⟩ (.string (rden q))) := by
 have b1 := blk_set_list (j := r * 4 + 1) h.blk (.bool (rneg q))
 have b2 := blk_set_list (j := r * 4 + 2) b1 (.string (rnum q))
 exact ((ho.setC h.blk _).setC b1 _).setC b2 _
end

end Go.Proofs.YtjlicnhkemfmiaaGreatDoor

/- (*waterfall.tier).add on a tier of a ladder. -/
set_option maxHeartbeats 8000000
set_option maxRecDepth 100000
namespace Go.Proofs.YtjlicnhkemfmiaaGreatDoor
open Go.RowKit

theorem Tryz.info_part : (Tryz.prog.info? 184).map (fun i => (i.zero, i.size, i.bytes)) = some (some (.agg #[.int .i64 0, .bool false, .string ⟨#[]⟩, .string ⟨#[]⟩]), 4, 48) := by kernel_rfl
def TAddPost (B R : Nat) (ts : List Tr) (r : Nat) (t : Tr) (p : Pt) (w : World) (e : Ending) (w' : World) : Prop :=
 ∃ A c, e = .returned (.tuple #[]) ∧ LadM B R (ts.set r ⟨A, c, t.ps ++ [p], t.sum + p.2⟩) w' ∧ Below B w w' ∧ OffT 136 184 w w'
theorem LadM.only {B R : Nat} {ts : List Tr} {W : World} (h : LadM B R ts W) {Bw : Nat} {w : World} (hb : Below Bw w W) (hB : Bw ≤ B) (r : Nat) (q : Rat) : Below Bw w (((W.setCell ⟨R, r * 4 + 1, none⟩ (.bool (rneg q))).setCell ⟨R, r * 4 + 2, none⟩ (.string (rnum q))).setCell ⟨R, r * 4 + 3, none⟩ (.string (rden q))) :=
 ((hb.setCell (Nat.le_trans hB h.base) _).setCell (Nat.le_trans hB h.base) _).setCell (Nat.le_trans hB h.base) _
theorem set_at {α : Type} {l : List α} {r : Nat} {x y : α} (h : l[r]? = some x) : (l.set r y)[r]? = some y := by
 rw [List.getElem?_set, if_pos rfl, if_pos (List.getElem?_eq_some_iff.1 h).1]
theorem set_two {α : Type} (l : List α) (r : Nat) (x y : α) : (l.set r x).set r y = l.set r y := by rw [List.set_set]
theorem tAdd_calls (B R r : Nat) (ts : List Tr) (t : Tr) (i : Nat) (q : Rat) (k m : Nat) (w : World) (h : LadM B R ts w) (hr : ts[r]? = some t) (hs : Sz k t.sum) (hq : Sz m q) (k0 : 0 < k) (m0 : 0 < m) (hkm : k + m ≤ 99999) (hi : i ≤ 1000) (hn : t.ps.length ≤ 1000) :
 Calls Tryz.prog 66 #[.pointer (some ⟨R, r * 4, none⟩), .int .i64 (i : Int), ratV q] w (TAddPost B R ts r t (i, q) w) := by
 have HA' := fun W => pAddQ_calls t.sum q k m W hs hq k0 m0 hkm
 obtain ⟨sm, hsm⟩ : ∃ x, x = t.sum + q := ⟨_, rfl⟩
 rw [← hsm] at HA'
 unfold ratV at HA' ⊢
 have HA := Lib.hid HA'
 have HSM := Lib.hid hsm
 have HR := Lib.hid hr
 have HN := Lib.hid (And.intro hi hn)
 have HLd : Hid (LadM B R ts w) := h
 have HBw : Hid (B ≤ w.heap.size) := by have := h.lt; have := h.base; exact (by omega : B ≤ w.heap.size)
 obtain ⟨ip, hi0, hz0, hz1, hz2⟩ := info_parts Tryz.info_part
 have HIP := Lib.hid (And.intro hi0 (And.intro hz0 (And.intro hz1 hz2)))
 have hr4 : r * 4 = r * 4 := rfl
 clear HA' hs hq k0 m0 hkm hsm hr hi hn h hi0 hz0 hz1 hz2 hr4
 go_enter Tryz.func66, Tryz.ntmps66
 go_wp2_with fail
 obtain ⟨ga, hga⟩ : ∃ g, g = w.heap.size := ⟨_, rfl⟩
 obtain ⟨w0, hw0⟩ : ∃ W, W = w.alloc (.cells #[.bool (rneg q), .string (rnum q), .string (rden q)] 33) := ⟨_, rfl⟩
 have HQ0 : Hid (Bk ga (.cells #[.bool (rneg q), .string (rnum q), .string (rden q)] 33) w0) := by rw [hw0, hga]; exact blk_new _ _
 have HL0 : Hid (LadM B R ts w0) := by rw [hw0]; exact HLd.out.next (bel_alloc _ _)
 have HB0 : Hid (Below B w w0) := by rw [hw0]; exact (Below.refl _ _).alloc HBw.out _
 have HO0 : Hid (OffT 136 184 w w0) := by rw [hw0]; exact (OffT.refl w).next (bel_alloc _ _)
 rw [← hw0]
 (try rw [← hga])
 clear hw0 hga HLd
 obtain ⟨w1, hw_w1⟩ : ∃ W, W = w0.drew := ⟨_, rfl⟩
 have HQ1 := bkd HQ0 hw_w1
 have HL1 : Hid (LadM B R ts w1) := by rw [hw_w1]; exact HL0.out.drew
 have HB1 : Hid (Below B w w1) := by rw [hw_w1]; exact HB0.out.drew
 have HO1 : Hid (OffT 136 184 w w1) := by rw [hw_w1]; exact HO0.out.drew
 have hS1 := HQ1.out
 refine wp_region_held_drew (S := (Bk ga (.cells #[.bool (rneg q), .string (rnum q), .string (rden q)] 33))) (by kernel_rfl) (by rw [← hw_w1]; exact hS1) ?_
 rw [← hw_w1]
 intro _
 clear hw_w1 HQ0 HL0 HB0 HO0
 refine tk 0 hS1 ?_
 go_simp
 refine tk 1 hS1 ?_
 go_simp
 refine tk 2 hS1 ?_
 go_simp
 refine tk 3 hS1 ?_
 go_simp
 refine tk 5 hS1 ?_
 go_simp
 refine tv 6 (.agg #[.bool (rneg q), .string (rnum q), .string (rden q)]) rfl (by intro w' hw'; obtain ⟨k0, k1, k2, fk0, fk1, fk2, hzk⟩ := three_of hw'; go_simp) hS1 ?_
 go_simp
 refine tk 7 hS1 ?_
 go_simp
 refine wpAnyH_ready (rs := [4, 8]) (by kernel_rfl) (by simp) ?_
 refine AllReadyH.cons rfl (fun K hK => ?_) (AllReadyH.cons rfl (fun K hK => ?_) AllReadyH.nil)
 ·
  go_simp
  have hcc := HL1.out.cells HR.out
  obtain ⟨l0, l1, l2, l3⟩ := hcc
  go_simp
  clear l0 l1 l2 l3
  refine hK.out _ _ hS1 (fun _ => ?_)
  clear hK K
  refine tr 8 (fun K hK => ?_)
  go_simp
  obtain ⟨gp, hg_gp⟩ : ∃ g, g = w1.heap.size := ⟨_, rfl⟩
  obtain ⟨w2, hw_w2⟩ : ∃ W, W = w1.alloc (.cells #[.int .i64 (i : Int), .bool (rneg q), .string (rnum q), .string (rden q)] 184) := ⟨_, rfl⟩
  have HL_gp := Lib.hid (And.intro (by have := blk_lt HQ1.out; omega : ga < gp) ((by have := HBw.out; have := HB1.out.size; omega : B ≤ gp)))
  have HQ2 := bka HQ1 hw_w2
  have HL2 : Hid (LadM B R ts w2) := by rw [hw_w2]; exact HL1.out.next (bel_alloc _ _)
  have HB2 : Hid (Below B w w2) := by rw [hw_w2]; exact HB1.out.trans ((bel_alloc _ _).mono (Nat.le_trans HBw.out HB1.out.size))
  have HO2 : Hid (OffT 136 184 w w2) := by rw [hw_w2]; exact HO1.out.next (bel_alloc _ _)
  have HP2 : Hid (Bk gp (.cells #[.int .i64 (i : Int), .bool (rneg q), .string (rnum q), .string (rden q)] 184) w2) := by rw [hw_w2, hg_gp]; exact blk_new _ _
  rw [← hw_w2]
  (try rw [← hg_gp])
  clear hw_w2 hg_gp HQ1 HL1 HB1 HO1
  have hS2 := HQ2.out
  refine hK.out _ _ hS2 (fun _ => ?_)
  clear hK K
  refine tr 9 (fun K hK => ?_)
  refine step_append_lies _ rfl (.tmp 10) (.tmp 14) 134 rfl B 184 ip _ 4 48 Tryz.underlying134 HIP.out.1 HIP.out.2.1 HIP.out.2.2.1 HIP.out.2.2.2 rfl (by decide) (.slice t.A t.ps.length t.c) t.ps.length (t.ps.flatMap ptV) (by simp [Act.eval, Act.put]) (HL2.out.rows _ _ HR.out) ⟨gp, 0, none⟩ 1 1 (ptV (i, q)) (by simp [Act.eval, Act.put]) rfl (World.news_of_block HP2.out) (by simp [Value.oneCell', ptV]) (by decide) (by have := HN.out.2; simp only [maxLen]; omega) (by have := HN.out.2; omega) (Nat.le_trans HBw.out HB2.out.size) _ rfl ?_
  intro g' cap wp hown hgr hor hlt
  have HQp : Hid (Bk ga (.cells #[.bool (rneg q), .string (rnum q), .string (rden q)] 33) wp) := blk_grownT (HL2.out.rows _ _ HR.out) HQ2.out (by decide) hgr
  have HBp : Hid (Below B w wp) := HB2.out.grown hgr (Nat.le_trans HBw.out HB2.out.size) (fun j hj => ((HL2.out.rows _ _ HR.out).lt j hj).1)
  have HOp : Hid (OffT 136 184 w wp) := HO2.out.grown (HL2.out.rows _ _ HR.out) hgr
  have HRb : Hid (wp.heap[R]? = some (.cells (ts.flatMap trV).toArray 136 (0, 0))) := blk_grownT (HL2.out.rows _ _ HR.out) HL2.out.blk (by decide) hgr
  have HG := Lib.hid (HL2.out.grow HR.out (p := (i, q)) hown hgr hor)
  have HBR : Hid (B ≤ R) := HL2.out.base
  have kf : wp.cell? ⟨R, r * 4, none⟩ = some (.slice t.A t.ps.length t.c) := by rw [(HL2.out.cells HR.out).1.symm]; exact World.cell?_of_block (HRb.out.trans HL2.out.blk.symm)
  have ff : wp.frozen? ⟨R, r * 4, none⟩ = false := frozen_of_row wp R _ _ _ HRb.out
  have lf : R < wp.heap.size := blk_lt HRb.out
  clear hown hgr hor hlt HL2 HP2 HQ2 HB2 HO2
  have hS := HQp.out
  refine hK.out _ _ hS (fun _ => ?_)
  clear hK K
  have hS99 := hS
  clear hS
  refine tk 10 hS99 ?_
  go_simp
  refine tk 11 hS99 ?_
  go_simp
  refine tr 12 (fun K hK => ?_)
  go_simp
  clear kf ff lf
  obtain ⟨wq, hwq⟩ : ∃ W, W = wp.setCell ⟨R, r * 4, none⟩ (.slice (some ⟨g', 0, none⟩) (t.ps.length + 1) cap) := ⟨_, rfl⟩
  rw [← hwq] at HG
  have ho : Only R wp wq := by rw [hwq]; exact (Only.refl _ _).setC _ _
  have HLt : Hid (LadM B R (ts.set r ⟨some ⟨g', 0, none⟩, cap, t.ps ++ [(i, q)], t.sum⟩) wq) := HG
  have HBq : Hid (Below B w wq) := by rw [hwq]; exact HBp.out.setCell HBR.out _
  have HOq : Hid (OffT 136 184 w wq) := by rw [hwq]; exact HOp.out.setC HRb.out _
  have HQq : Hid (Bk ga (.cells #[.bool (rneg q), .string (rnum q), .string (rden q)] 33) wq) := blk_onlyW HQp.out ho (by
   intro e
   have h1 := HQp.out
   have h2 := HRb.out
   unfold Bk at h1
   rw [e, h2] at h1
   injection h1 with h1
   injection h1 with _ h1
   exact absurd h1 (by decide))
  rw [← hwq]
  clear hwq ho HG HBp HOp HQp HRb HBR
  have hSq := HQq.out
  refine hK.out _ _ hSq (fun _ => ?_)
  clear hK K
  refine wpAnyH_done (by kernel_rfl) ?_ _
  (try go_wp2_with fail)
  have HR2 : Hid ((ts.set r ⟨some ⟨g', 0, none⟩, cap, t.ps ++ [(i, q)], t.sum⟩)[r]? = some ⟨some ⟨g', 0, none⟩, cap, t.ps ++ [(i, q)], t.sum⟩) := set_at HR.out
  obtain ⟨w13, hw_w13⟩ : ∃ W, W = wq.drew := ⟨_, rfl⟩
  have HQ13 := bkd HQq hw_w13
  have HL13 : Hid (LadM B R (ts.set r ⟨some ⟨g', 0, none⟩, cap, t.ps ++ [(i, q)], t.sum⟩) w13) := by rw [hw_w13]; exact HLt.out.drew
  have HB13 : Hid (Below B w w13) := by rw [hw_w13]; exact HBq.out.drew
  have HO13 : Hid (OffT 136 184 w w13) := by rw [hw_w13]; exact HOq.out.drew
  have hS100 := HQ13.out
  refine wp_region_held_drew (S := (Bk ga (.cells #[.bool (rneg q), .string (rnum q), .string (rden q)] 33))) (by kernel_rfl) (by rw [← hw_w13]; exact hS100) ?_
  rw [← hw_w13]
  intro _
  clear hw_w13 HQq HLt HBq HOq
  refine tk 0 hS100 ?_
  go_simp
  refine tk 1 hS100 ?_
  go_simp
  refine tk 2 hS100 ?_
  go_simp
  refine tk 3 hS100 ?_
  go_simp
  refine tv 5 (.agg #[.bool (rneg q), .string (rnum q), .string (rden q)]) rfl (by intro w' hw'; obtain ⟨k0, k1, k2, fk0, fk1, fk2, hzk⟩ := three_of hw'; go_simp) hS100 ?_
  go_simp
  refine tr 4 (fun K hK => ?_)
  obtain ⟨l0, l1, l2, l3⟩ := HL13.out.cells HR2.out
  dsimp only at l1 l2 l3
  go_simp
  clear l0 l1 l2 l3
  refine hK.out _ _ hS100 (fun _ => ?_)
  clear hK K
  refine tr 6 (fun K hK => ?_)
  go_simp
  refine (HA.out _).mono ?_
  rintro e w14 ⟨rfl, hb⟩
  have HQ14 := bkn HQ13 hb
  have HL14 : Hid (LadM B R (ts.set r ⟨some ⟨g', 0, none⟩, cap, t.ps ++ [(i, q)], t.sum⟩) w14) := HL13.out.next hb
  have HB14 : Hid (Below B w w14) := HB13.out.trans (hb.mono (Nat.le_trans HBw.out HB13.out.size))
  have HO14 : Hid (OffT 136 184 w w14) := HO13.out.next hb
  clear hb HQ13 HL13 HB13 HO13
  have hS101 := HQ14.out
  refine hK.out _ _ hS101 (fun _ => ?_)
  clear hK K
  refine tk 7 hS101 ?_
  go_simp
  refine tk 8 hS101 ?_
  go_simp
  refine tr 9 (fun K hK => ?_)
  obtain ⟨l0, l1, l2, l3⟩ := HL14.out.cells HR2.out
  have f1 := HL14.out.free (r * 4 + 1)
  have f2 := HL14.out.free (r * 4 + 2)
  have f3 := HL14.out.free (r * 4 + 3)
  have lf := HL14.out.lt
  dsimp only at l1 l2 l3
  go_simp
  clear l0 l1 l2 l3 f1 f2 f3 lf
  have HLz := Lib.hid (HL14.out.setSum HR2.out sm)
  have HBz := Lib.hid (HL14.out.only HB14.out (Nat.le_refl _) r sm)
  have HOz := Lib.hid (HL14.out.offSum HO14.out r sm)
  have hQz := HQ14.out
  have HQz : Hid (Bk ga (.cells #[.bool (rneg q), .string (rnum q), .string (rden q)] 33) (((w14.setCell ⟨R, r * 4 + 1, none⟩ (.bool (rneg sm))).setCell ⟨R, r * 4 + 2, none⟩ (.string (rnum sm))).setCell ⟨R, r * 4 + 3, none⟩ (.string (rden sm)))) := (OffT.refl _ |> fun o => HL14.out.offSum o r sm : OffT 136 184 w14 _).blk _ _ _ _ hQz (by decide) (by decide)
  refine hK.out _ _ HQz.out (fun _ => ?_)
  clear hK K
  refine wpAnyH_done (by kernel_rfl) ?_ _
  (try go_wp2_with fail)
  go_end0
  rw [set_two] at HLz
  exact ⟨_, _, rfl, by rw [← HSM.out]; exact HLz.out, HBz.out, HOz.out⟩
 ·
  go_simp
  obtain ⟨gp, hg_gp⟩ : ∃ g, g = w1.heap.size := ⟨_, rfl⟩
  obtain ⟨w2, hw_w2⟩ : ∃ W, W = w1.alloc (.cells #[.int .i64 (i : Int), .bool (rneg q), .string (rnum q), .string (rden q)] 184) := ⟨_, rfl⟩
  have HL_gp := Lib.hid (And.intro (by have := blk_lt HQ1.out; omega : ga < gp) ((by have := HBw.out; have := HB1.out.size; omega : B ≤ gp)))
  have HQ2 := bka HQ1 hw_w2
  have HL2 : Hid (LadM B R ts w2) := by rw [hw_w2]; exact HL1.out.next (bel_alloc _ _)
  have HB2 : Hid (Below B w w2) := by rw [hw_w2]; exact HB1.out.trans ((bel_alloc _ _).mono (Nat.le_trans HBw.out HB1.out.size))
  have HO2 : Hid (OffT 136 184 w w2) := by rw [hw_w2]; exact HO1.out.next (bel_alloc _ _)
  have HP2 : Hid (Bk gp (.cells #[.int .i64 (i : Int), .bool (rneg q), .string (rnum q), .string (rden q)] 184) w2) := by rw [hw_w2, hg_gp]; exact blk_new _ _
  rw [← hw_w2]
  (try rw [← hg_gp])
  clear hw_w2 hg_gp HQ1 HL1 HB1 HO1
  have hS2 := HQ2.out
  refine hK.out _ _ hS2 (fun _ => ?_)
  clear hK K
  refine tr 4 (fun K hK => ?_)
  go_simp
  have hcc := HL2.out.cells HR.out
  obtain ⟨l0, l1, l2, l3⟩ := hcc
  go_simp
  clear l0 l1 l2 l3
  refine hK.out _ _ hS2 (fun _ => ?_)
  clear hK K
  refine tr 9 (fun K hK => ?_)
  refine step_append_lies _ rfl (.tmp 10) (.tmp 14) 134 rfl B 184 ip _ 4 48 Tryz.underlying134 HIP.out.1 HIP.out.2.1 HIP.out.2.2.1 HIP.out.2.2.2 rfl (by decide) (.slice t.A t.ps.length t.c) t.ps.length (t.ps.flatMap ptV) (by simp [Act.eval, Act.put]) (HL2.out.rows _ _ HR.out) ⟨gp, 0, none⟩ 1 1 (ptV (i, q)) (by simp [Act.eval, Act.put]) rfl (World.news_of_block HP2.out) (by simp [Value.oneCell', ptV]) (by decide) (by have := HN.out.2; simp only [maxLen]; omega) (by have := HN.out.2; omega) (Nat.le_trans HBw.out HB2.out.size) _ rfl ?_
  intro g' cap wp hown hgr hor hlt
  have HQp : Hid (Bk ga (.cells #[.bool (rneg q), .string (rnum q), .string (rden q)] 33) wp) := blk_grownT (HL2.out.rows _ _ HR.out) HQ2.out (by decide) hgr
  have HBp : Hid (Below B w wp) := HB2.out.grown hgr (Nat.le_trans HBw.out HB2.out.size) (fun j hj => ((HL2.out.rows _ _ HR.out).lt j hj).1)
  have HOp : Hid (OffT 136 184 w wp) := HO2.out.grown (HL2.out.rows _ _ HR.out) hgr
  have HRb : Hid (wp.heap[R]? = some (.cells (ts.flatMap trV).toArray 136 (0, 0))) := blk_grownT (HL2.out.rows _ _ HR.out) HL2.out.blk (by decide) hgr
  have HG := Lib.hid (HL2.out.grow HR.out (p := (i, q)) hown hgr hor)
  have HBR : Hid (B ≤ R) := HL2.out.base
  have kf : wp.cell? ⟨R, r * 4, none⟩ = some (.slice t.A t.ps.length t.c) := by rw [(HL2.out.cells HR.out).1.symm]; exact World.cell?_of_block (HRb.out.trans HL2.out.blk.symm)
  have ff : wp.frozen? ⟨R, r * 4, none⟩ = false := frozen_of_row wp R _ _ _ HRb.out
  have lf : R < wp.heap.size := blk_lt HRb.out
  clear hown hgr hor hlt HL2 HP2 HQ2 HB2 HO2
  have hS := HQp.out
  refine hK.out _ _ hS (fun _ => ?_)
  clear hK K
  have hS99 := hS
  clear hS
  refine tk 10 hS99 ?_
  go_simp
  refine tk 11 hS99 ?_
  go_simp
  refine tr 12 (fun K hK => ?_)
  go_simp
  clear kf ff lf
  obtain ⟨wq, hwq⟩ : ∃ W, W = wp.setCell ⟨R, r * 4, none⟩ (.slice (some ⟨g', 0, none⟩) (t.ps.length + 1) cap) := ⟨_, rfl⟩
  rw [← hwq] at HG
  have ho : Only R wp wq := by rw [hwq]; exact (Only.refl _ _).setC _ _
  have HLt : Hid (LadM B R (ts.set r ⟨some ⟨g', 0, none⟩, cap, t.ps ++ [(i, q)], t.sum⟩) wq) := HG
  have HBq : Hid (Below B w wq) := by rw [hwq]; exact HBp.out.setCell HBR.out _
  have HOq : Hid (OffT 136 184 w wq) := by rw [hwq]; exact HOp.out.setC HRb.out _
  have HQq : Hid (Bk ga (.cells #[.bool (rneg q), .string (rnum q), .string (rden q)] 33) wq) := blk_onlyW HQp.out ho (by
   intro e
   have h1 := HQp.out
   have h2 := HRb.out
   unfold Bk at h1
   rw [e, h2] at h1
   injection h1 with h1
   injection h1 with _ h1
   exact absurd h1 (by decide))
  rw [← hwq]
  clear hwq ho HG HBp HOp HQp HRb HBR
  have hSq := HQq.out
  refine hK.out _ _ hSq (fun _ => ?_)
  clear hK K
  refine wpAnyH_done (by kernel_rfl) ?_ _
  (try go_wp2_with fail)
  have HR2 : Hid ((ts.set r ⟨some ⟨g', 0, none⟩, cap, t.ps ++ [(i, q)], t.sum⟩)[r]? = some ⟨some ⟨g', 0, none⟩, cap, t.ps ++ [(i, q)], t.sum⟩) := set_at HR.out
  obtain ⟨w13, hw_w13⟩ : ∃ W, W = wq.drew := ⟨_, rfl⟩
  have HQ13 := bkd HQq hw_w13
  have HL13 : Hid (LadM B R (ts.set r ⟨some ⟨g', 0, none⟩, cap, t.ps ++ [(i, q)], t.sum⟩) w13) := by rw [hw_w13]; exact HLt.out.drew
  have HB13 : Hid (Below B w w13) := by rw [hw_w13]; exact HBq.out.drew
  have HO13 : Hid (OffT 136 184 w w13) := by rw [hw_w13]; exact HOq.out.drew
  have hS100 := HQ13.out
  refine wp_region_held_drew (S := (Bk ga (.cells #[.bool (rneg q), .string (rnum q), .string (rden q)] 33))) (by kernel_rfl) (by rw [← hw_w13]; exact hS100) ?_
  rw [← hw_w13]
  intro _
  clear hw_w13 HQq HLt HBq HOq
  refine tk 0 hS100 ?_
  go_simp
  refine tk 1 hS100 ?_
  go_simp
  refine tk 2 hS100 ?_
  go_simp
  refine tk 3 hS100 ?_
  go_simp
  refine tv 5 (.agg #[.bool (rneg q), .string (rnum q), .string (rden q)]) rfl (by intro w' hw'; obtain ⟨k0, k1, k2, fk0, fk1, fk2, hzk⟩ := three_of hw'; go_simp) hS100 ?_
  go_simp
  refine tr 4 (fun K hK => ?_)
  obtain ⟨l0, l1, l2, l3⟩ := HL13.out.cells HR2.out
  dsimp only at l1 l2 l3
  go_simp
  clear l0 l1 l2 l3
  refine hK.out _ _ hS100 (fun _ => ?_)
  clear hK K
  refine tr 6 (fun K hK => ?_)
  go_simp
  refine (HA.out _).mono ?_
  rintro e w14 ⟨rfl, hb⟩
  have HQ14 := bkn HQ13 hb
  have HL14 : Hid (LadM B R (ts.set r ⟨some ⟨g', 0, none⟩, cap, t.ps ++ [(i, q)], t.sum⟩) w14) := HL13.out.next hb
  have HB14 : Hid (Below B w w14) := HB13.out.trans (hb.mono (Nat.le_trans HBw.out HB13.out.size))
  have HO14 : Hid (OffT 136 184 w w14) := HO13.out.next hb
  clear hb HQ13 HL13 HB13 HO13
  have hS101 := HQ14.out
  refine hK.out _ _ hS101 (fun _ => ?_)
  clear hK K
  refine tk 7 hS101 ?_
  go_simp
  refine tk 8 hS101 ?_
  go_simp
  refine tr 9 (fun K hK => ?_)
  obtain ⟨l0, l1, l2, l3⟩ := HL14.out.cells HR2.out
  have f1 := HL14.out.free (r * 4 + 1)
  have f2 := HL14.out.free (r * 4 + 2)
  have f3 := HL14.out.free (r * 4 + 3)
  have lf := HL14.out.lt
  dsimp only at l1 l2 l3
  go_simp
  clear l0 l1 l2 l3 f1 f2 f3 lf
  have HLz := Lib.hid (HL14.out.setSum HR2.out sm)
  have HBz := Lib.hid (HL14.out.only HB14.out (Nat.le_refl _) r sm)
  have HOz := Lib.hid (HL14.out.offSum HO14.out r sm)
  have hQz := HQ14.out
  have HQz : Hid (Bk ga (.cells #[.bool (rneg q), .string (rnum q), .string (rden q)] 33) (((w14.setCell ⟨R, r * 4 + 1, none⟩ (.bool (rneg sm))).setCell ⟨R, r * 4 + 2, none⟩ (.string (rnum sm))).setCell ⟨R, r * 4 + 3, none⟩ (.string (rden sm)))) := (OffT.refl _ |> fun o => HL14.out.offSum o r sm : OffT 136 184 w14 _).blk _ _ _ _ hQz (by decide) (by decide)
  refine hK.out _ _ HQz.out (fun _ => ?_)
  clear hK K
  refine wpAnyH_done (by kernel_rfl) ?_ _
  (try go_wp2_with fail)
  go_end0
  rw [set_two] at HLz
  exact ⟨_, _, rfl, by rw [← HSM.out]; exact HLz.out, HBz.out, HOz.out⟩

end Go.Proofs.YtjlicnhkemfmiaaGreatDoor

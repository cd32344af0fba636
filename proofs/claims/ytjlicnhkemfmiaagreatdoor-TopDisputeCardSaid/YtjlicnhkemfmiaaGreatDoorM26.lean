/- Merged of DspP Dsp1. -/
import Derived.Test.YtjlicnhkemfmiaaGreatDoorWAwk
import Derived.Test.YtjlicnhkemfmiaaGreatDoorM23
import Derived.Test.YtjlicnhkemfmiaaGreatDoorTPrf
import Derived.Test.YtjlicnhkemfmiaaGreatDoorM22
import Derived.Test.YtjlicnhkemfmiaaGreatDoorSq
/- TopDispute: documents, entries of a register, what is delivered while a claim is disputed: plain. -/
set_option linter.unusedVariables false
set_option linter.unusedSimpArgs false
namespace Go.Proofs.YtjlicnhkemfmiaaGreatDoor
open Go.RowKit

/-- the name of document i -/
def idB (i : Nat) : ByteArray := ⟨#[UInt8.ofNat (97 + i)]⟩
theorem idB_inj {i j : Nat} (hi : i < 8) (hj : j < 8) (h : idB i = idB j) : i = j := by
 have key : ∀ a b : Fin 8, idB a.val = idB b.val → a.val = b.val := by decide +kernel
 exact key ⟨i, hi⟩ ⟨j, hj⟩ h
theorem idB_ok {i : Nat} (hi : i < 8) : nameOk (idB i) := by
 have key : ∀ a : Fin 8, isLet (UInt8.ofNat (97 + a.val)).toNat = true := by decide +kernel
 exact nameOk1 (key ⟨i, hi⟩)
/-- a document as 'documents' makes it -/
structure DcD (i : Nat) (d : Dc) : Prop where
 ok : d.Ok 8
 id : d.id = idB i
 est : d.est = 0
 code : d.code = eurB
 inc : d.inc ≤ 49
 rank : 1 ≤ d.rank ∧ d.rank ≤ 3
def valD (d : Dc) : Rat := d.amt * (factD d [] 100).1
theorem rateQ_eur (day : Int) : rateQ [] eurB day = (1, 0) := by unfold rateQ; rw [if_pos rfl]
theorem valD_err {i : Nat} {d : Dc} (h : DcD i d) : (factD d [] 100).2 = 0 := by
 have h1 := h.inc
 unfold factD
 rw [if_neg (by omega), h.code, rateQ_eur, if_neg (by simp)]
 split <;> rfl
theorem valD_sz {i : Nat} {d : Dc} (h : DcD i d) : Sz 39 (valD d) := h.ok.asz.mul (factD_sz h.ok QtsOk.nil (by decide))
theorem valD_nn {i : Nat} {d : Dc} (h : DcD i d) : 0 ≤ valD d := by
 have h1 := h.inc
 refine Rat.mul_nonneg h.ok.amt ?_
 unfold factD
 rw [if_neg (by omega), h.code, rateQ_eur, if_neg (by simp)]
 split
 ·
  show (0 : Rat) ≤ 1; decide
 ·
  rename_i h3
  have hf : d.frm ≤ 100 := by
   by_cases hx : (100 : Int) < d.frm
   ·
    exact absurd (Or.inr hx) h3
   ·
    omega
  show (0 : Rat) ≤ 1 * (1 + d.rate * ((100 - d.frm : Int) : Rat) / ((365 : Int) : Rat))
  have h5 : (0 : Rat) ≤ ((100 - d.frm : Int) : Rat) := Rat.intCast_nonneg.2 (by omega)
  have h4 : 0 ≤ d.rate * ((100 - d.frm : Int) : Rat) / ((365 : Int) : Rat) := div_nn (Rat.mul_nonneg h.ok.rate h5) (by decide)
  grind
/-- an entry of a register -/
structure En where
 doc : Dc
 st : Int
 late : Bool
 cl : Rat
 fl : Rat
 ad : Rat
 ce : Rat
 acq : Int
 chg : Int
def En.cells (x : En) : List Value := [.string x.doc.id, .int .i64 x.doc.est, .int .i64 x.doc.cred, .string x.doc.code, .bool (rneg x.doc.amt), .string (rnum x.doc.amt), .string (rden x.doc.amt), .int .i64 x.doc.inc, .int .i64 x.doc.rank, .bool (rneg x.doc.rate), .string (rnum x.doc.rate), .string (rden x.doc.rate), .int .i64 x.doc.frm, .int .i64 x.doc.sec, .int .i64 x.st, .bool x.late, .bool (rneg x.cl), .string (rnum x.cl), .string (rden x.cl), .bool (rneg x.fl), .string (rnum x.fl), .string (rden x.fl), .bool (rneg x.ad), .string (rnum x.ad), .string (rden x.ad), .bool (rneg x.ce), .string (rnum x.ce), .string (rden x.ce), .int .i64 x.acq, .int .i64 x.chg]
theorem En.len (x : En) : x.cells.length = 30 := rfl
theorem En.one (l : List En) : ∀ u ∈ l.flatMap En.cells, u.oneCell' = true := by
 intro u hu
 obtain ⟨x, _, hx⟩ := List.mem_flatMap.1 hu
 simp only [En.cells, List.mem_cons, List.not_mem_nil, or_false] at hx
 rcases hx with rfl | rfl | rfl | rfl | rfl | rfl | rfl | rfl | rfl | rfl | rfl | rfl | rfl | rfl | rfl | rfl | rfl | rfl | rfl | rfl | rfl | rfl | rfl | rfl | rfl | rfl | rfl | rfl | rfl | rfl <;> rfl
theorem Dc.len (x : Dc) : x.cells.length = 14 := rfl
theorem Dc.one (l : List Dc) : ∀ u ∈ l.flatMap Dc.cells, u.oneCell' = true := by
 intro u hu
 obtain ⟨x, _, hx⟩ := List.mem_flatMap.1 hu
 simp only [Dc.cells, List.mem_cons, List.not_mem_nil, or_false] at hx
 rcases hx with rfl | rfl | rfl | rfl | rfl | rfl | rfl | rfl | rfl | rfl | rfl | rfl | rfl | rfl <;> rfl
/-- what 'file' makes of a document -/
def filed (d : Dc) (day : Int) : En := ⟨d, 1, false, valD d, 0, 0, valD d, d.inc, day⟩
/-- what admits it -/
def admd (x : En) (day : Int) : En := ⟨x.doc, 2, x.late, x.cl, x.ce, x.ce, x.ce, x.acq, day⟩
def dispd (x : En) (q : Rat) (day : Int) : En := ⟨x.doc, 3, x.late, x.cl, q, q, x.ce, x.acq, day⟩
def decid (x : En) (q : Rat) (day : Int) : En := ⟨x.doc, 4, x.late, x.cl, x.fl, q, x.ce, x.acq, day⟩
def adm (d : Dc) : En := admd (filed d 150) 150
/-- the index of the first entry with a name -/
def findE (l : List En) (id : ByteArray) : Nat := l.findIdx (fun x => decide (x.doc.id = id))
theorem findE_none {l : List En} {id : ByteArray} (h : ∀ x ∈ l, x.doc.id ≠ id) : findE l id = l.length := by
 unfold findE
 rw [List.findIdx_eq_length]
 intro x hx
 simp [h x hx]
theorem findE_snoc {l : List En} {x : En} {id : ByteArray} (h : ∀ y ∈ l, y.doc.id ≠ id) (hx : x.doc.id = id) : findE (l ++ [x]) id = l.length := by
 have := findE_none h
 unfold findE at this ⊢
 rw [List.findIdx_append, this, if_neg (by omega)]
 simp [hx]
theorem set_last {α : Type} (l : List α) (x y : α) : (l ++ [x]).set l.length y = l ++ [y] := by
 rw [List.set_append_right _ _ (Nat.le_refl _)]; simp
/-- a claim as clauses refer to it -/
structure Nm where
 id : ByteArray
 rank : Int
 amt : Rat
def nmV (x : Nm) : List Value := [.string x.id, .int .i64 x.rank, .bool (rneg x.amt), .string (rnum x.amt), .string (rden x.amt)]
theorem nmV_len (x : Nm) : (nmV x).length = 5 := rfl
def nmE (x : En) : Nm := ⟨x.doc.id, x.doc.rank, x.ad⟩
def clN (x : Nm) : Cl := ⟨x.rank.toNat, x.amt⟩
theorem wfrQ_sz {k m : Nat} {z S : Rat} (hz : Sz k z) (hS : Sz m S) (k0 : 0 < k + m) : Sz (k + m) (wfr z S) := by
 unfold wfr
 split
 ·
  exact sz_zero1 _ k0
 ·
  split
  ·
   exact Sz.mono (k := 1) ⟨by decide, by decide⟩ k0
  ·
   rename_i h1 h2
   exact Sz.div hz hS (by grind)
/-- the size of the tiers' sums -/
theorem addAt_sz {k m : Nat} {x : Rat} (hx : Sz m x) : ∀ (n : Nat) (l : List Rat), (∀ S ∈ l, Sz k S) → ∀ S ∈ addAt n x l, Sz (k + m + 1) S
 | _, [], _, S, h => by simp [addAt] at h
 | 0, a :: l, h, S, hS => by
  simp only [addAt, List.mem_cons] at hS
  rcases hS with rfl | hS
  ·
   exact (h a (by simp)).add hx
  ·
   exact (h S (by simp [hS])).mono (by omega)
 | n + 1, a :: l, h, S, hS => by
  simp only [addAt, List.mem_cons] at hS
  rcases hS with rfl | hS
  ·
   exact (h _ (by simp)).mono (by omega)
  ·
   exact addAt_sz hx n l (fun T hT => h T (by simp [hT])) S hS
theorem tiers_sz_gen {z : Nat} : ∀ (l : List Cl) (L : List Rat) (k : Nat), (∀ c ∈ l, Sz z c.amt) → (∀ S ∈ L, Sz k S) → ∀ S ∈ l.foldl (fun L c => addAt c.rank c.amt L) L, Sz (k + l.length * (z + 1)) S
 | [], L, k, _, h, S, hS => by simpa using h S hS
 | c :: l, L, k, hc, h, S, hS => by
  have := tiers_sz_gen l (addAt c.rank c.amt L) (k + z + 1) (fun d hd => hc d (by simp [hd])) (addAt_sz (hc c (by simp)) _ _ h) S hS
  refine this.mono ?_
  rw [List.length_cons, Nat.add_mul]
  omega
theorem tiers_sz {z : Nat} {l : List Cl} (h : ∀ c ∈ l, Sz z c.amt) : ∀ S ∈ tiersL l, Sz (1 + l.length * (z + 1)) S :=
 tiers_sz_gen l _ 1 h (fun S hS => by rw [(List.mem_replicate.1 hS).2]; exact sz_zero1 1 (by decide))
theorem frs_sz {Y : Nat} : ∀ (L : List Rat) (m : Rat) (k : Nat), 0 < k → Sz k m → (∀ S ∈ L, Sz Y S) → ∀ f ∈ frs m L, Sz (k + L.length * (Y + 1) + Y) f
 | [], _, _, _, _, _, f, hf => by simp [frs] at hf
 | S :: L, m, k, hk, hm, h, f, hf => by
  simp only [frs, List.mem_cons] at hf
  rcases hf with rfl | hf
  ·
   exact (wfrQ_sz hm (h S (by simp)) (by omega)).mono (by rw [List.length_cons, Nat.add_mul]; omega)
  ·
   have := frs_sz L (m - S) (k + Y + 1) (by omega) (hm.sub (h S (by simp))) (fun T hT => h T (by simp [hT])) f hf
   refine this.mono ?_
   rw [List.length_cons, Nat.add_mul]
   omega
theorem deliv_sz {z zm : Nat} {l : List Cl} {m : Rat} (h : ∀ c ∈ l, Sz z c.amt) (hl : l.length ≤ 8) (h0 : 0 < zm) (hm : Sz zm m) : ∀ d ∈ deliv l m, Sz (z + (zm + 8 * (1 + 8 * (z + 1) + 1) + (1 + 8 * (z + 1)))) d := by
 intro d hd
 unfold deliv at hd
 obtain ⟨c, hc, rfl⟩ := List.mem_map.1 hd
 refine (h c hc).mul ?_
 rw [List.getD_eq_getElem?_getD]
 rcases hf : (frs m (tiersL l))[c.rank]? with _ | f
 ·
  exact sz_zero1 _ (by omega)
 ·
  have h8 : ∀ S ∈ tiersL l, Sz (1 + 8 * (z + 1)) S := fun S hS => (tiers_sz h S hS).mono (by have : l.length * (z + 1) ≤ 8 * (z + 1) := Nat.mul_le_mul_right _ hl; omega)
  have hlen : (tiersL l).length = 8 := by
   unfold tiersL
   have : ∀ (l : List Cl) (L : List Rat), (l.foldl (fun L c => addAt c.rank c.amt L) L).length = L.length := by
    intro l
    induction l with
    | nil => intro L; rfl
    | cons c l ih => intro L; rw [List.foldl_cons, ih, addAt_len]
   rw [this]; simp
  have := frs_sz _ m zm h0 hm h8 f (List.mem_of_getElem? hf)
  rw [hlen] at this
  exact this
/-- tenths -/
def tenth (a : Nat) : Rat := quoQ (a : Int) 10
theorem tenth_bd {a : Nat} (ha : a < 11) : 0 ≤ tenth a ∧ tenth a ≤ 1 := by
 have key : ∀ a : Fin 11, 0 ≤ tenth a.val ∧ tenth a.val ≤ 1 := by decide +kernel
 exact key ⟨a, ha⟩
theorem tenth_sz {a : Nat} (ha : a < 11) : Sz 8 (tenth a) := sz_quo (by omega) (by omega) (by decide) (by decide)
theorem mid_bd {c p : Rat} (hc : 0 ≤ c) (h0 : 0 ≤ p) (h1 : p ≤ 1) : 0 ≤ c * p ∧ c * p ≤ c := by
 refine ⟨Rat.mul_nonneg hc h0, ?_⟩
 have := Rat.mul_le_mul_of_nonneg_left h1 hc
 rwa [Rat.mul_one] at this
/-- the floor, and what is decided -/
def flD (c : Rat) (a : Nat) : Rat := c * tenth a
def deD (c : Rat) (a b : Nat) : Rat := flD c a + (c - flD c a) * tenth b
theorem flD_bd {c : Rat} {a : Nat} (hc : 0 ≤ c) (ha : a < 11) : 0 ≤ flD c a ∧ flD c a ≤ c := mid_bd hc (tenth_bd ha).1 (tenth_bd ha).2
theorem deD_bd {c : Rat} {a b : Nat} (hc : 0 ≤ c) (ha : a < 11) (hb : b < 11) : flD c a ≤ deD c a b ∧ deD c a b ≤ c := by
 have h1 := flD_bd hc ha
 have h2 := mid_bd (c := c - flD c a) (by grind) (tenth_bd hb).1 (tenth_bd hb).2
 unfold deD
 constructor <;> grind
theorem flD_sz {c : Rat} {a : Nat} (hc : Sz 39 c) (ha : a < 11) : Sz 47 (flD c a) := hc.mul (tenth_sz ha)
theorem deD_sz {c : Rat} {a b : Nat} (hc : Sz 39 c) (ha : a < 11) (hb : b < 11) : Sz 143 (deD c a b) := by
 have h1 := flD_sz hc ha
 have h2 : Sz 87 (c - flD c a) := (hc.sub h1).mono (by omega)
 have h3 : Sz 95 ((c - flD c a) * tenth b) := (h2.mul (tenth_sz hb)).mono (by omega)
 unfold deD
 exact (h1.add h3).mono (by omega)
/-- one list is nowhere above the other -/
def LeL (a b : List Rat) : Prop := a.length = b.length ∧ ∀ (i : Nat) (x y : Rat), a[i]? = some x → b[i]? = some y → x ≤ y
theorem deliv_less {l : List Cl} (h : ClsOk l) {r : Nat} {x x' m : Rat} (hx : x ≤ x') : LeL ((deliv (l ++ [⟨r, x'⟩]) m).take l.length) ((deliv (l ++ [⟨r, x⟩]) m).take l.length) := by
 refine ⟨by simp [deliv_len], fun i a b ha hb => ?_⟩
 rw [List.getElem?_take] at ha hb
 by_cases hi : i < l.length
 ·
  rw [if_pos hi] at ha hb
  exact deliv_anti h hx hi hb ha
 ·
  rw [if_neg hi] at ha; cases ha
/-- documents as 'admitted' gets them -/
structure DcsOk (l : List Dc) : Prop where
 len : l.length ≤ 8
 each : ∀ d ∈ l, ∃ i, DcD i d
 apart : l.Pairwise (fun a b => a.id ≠ b.id)
theorem DcsOk.of {l : List Dc} (hD : ∀ (i : Nat) (d : Dc), l[i]? = some d → DcD i d) (h8 : l.length ≤ 8) : DcsOk l := by
 refine ⟨h8, fun d hd => ?_, ?_⟩
 ·
  obtain ⟨i, hi⟩ := List.getElem?_of_mem hd
  exact ⟨i, hD i d hi⟩
 ·
  refine List.pairwise_iff_getElem.2 fun i j hi hj hij e => ?_
  have h1 := (hD i _ (List.getElem?_eq_getElem hi)).id
  have h2 := (hD j _ (List.getElem?_eq_getElem hj)).id
  have := idB_inj (by omega) (by omega) (h1.symm.trans (e.trans h2))
  omega
theorem DcsOk.erase {l : List Dc} (h : DcsOk l) (j : Nat) : DcsOk (l.take j ++ l.drop (j + 1)) := by
 rw [← List.eraseIdx_eq_take_drop_succ]
 refine ⟨Nat.le_trans (List.eraseIdx_sublist l j).length_le h.len, fun d hd => h.each d ((List.eraseIdx_sublist l j).subset hd), h.apart.sublist (List.eraseIdx_sublist l j)⟩
/-- a list without one of its elements -/
theorem eraseIdx_mem {l : List Dc} (hD : ∀ (i : Nat) (d : Dc), l[i]? = some d → DcD i d) (h8 : l.length ≤ 8) {j : Nat} {e : Dc} (he : l[j]? = some e) : ∀ d ∈ l.take j ++ l.drop (j + 1), d.id ≠ e.id := by
 intro d hd e2
 have hj : j < l.length := (List.getElem?_eq_some_iff.1 he).1
 have hid := (hD j e he).id
 rcases List.mem_append.1 hd with hd | hd
 ·
  obtain ⟨i, hi⟩ := List.getElem?_of_mem hd
  rw [List.getElem?_take] at hi
  by_cases hij : i < j
  ·
   rw [if_pos hij] at hi
   have := (hD i d hi).id
   have := idB_inj (by omega) (by omega) (this.symm.trans (e2.trans hid))
   omega
  ·
   rw [if_neg hij] at hi; cases hi
 ·
  obtain ⟨i, hi⟩ := List.getElem?_of_mem hd
  rw [List.getElem?_drop] at hi
  have hil := (List.getElem?_eq_some_iff.1 hi).1
  have := (hD _ d hi).id
  have := idB_inj (by omega) (by omega) (this.symm.trans (e2.trans hid))
  omega
end Go.Proofs.YtjlicnhkemfmiaaGreatDoor

/- register.allows, clean, between, New, Rank; entries in memory; change. -/
set_option maxHeartbeats 8000000
set_option maxRecDepth 100000
namespace Go.Proofs.YtjlicnhkemfmiaaGreatDoor
open Go.RowKit

abbrev regV (cut bar day : Int) (A : Option Addr) (n c : Nat) : Value := .agg #[.int .i64 cut, .int .i64 bar, .int .i64 day, .slice A n c]
theorem blk_at {W : World} {g j : Nat} {cur : Array Value} {T : TypeId} {v : Value} (h : W.heap[g]? = some (.cells cur T (0, 0))) (hv : cur[j]? = some v) : W.cell? ⟨g, j, none⟩ = some v := by
 rw [cell_of_row W g j _ _ (0, 0) h]; exact hv
/-- an entry that stands K cells from the head of a row of entries -/
structure EnE (B C c n K : Nat) (pre : List Value) (x : En) (post : List Value) (W : World) : Prop where
 plen : pre.length = K
 own : W.ownsRow B 67 30 (.slice (some ⟨C, 0, none⟩) n c) n (pre ++ (x.cells ++ post))
theorem own_setC {B C c n S j : Nat} {T : TypeId} {xs : List Value} {W : World} (h : W.ownsRow B T S (.slice (some ⟨C, 0, none⟩) n c) n xs) (v : Value) : (W.setCell ⟨C, j, none⟩ v).ownsRow B T S (.slice (some ⟨C, 0, none⟩) n c) n (xs.set j v) := by
 refine ⟨by rw [List.length_set]; exact h.1, ?_⟩
 rcases h.2 with ⟨hn, _⟩ | ⟨g, cap, cur, e, hb, hg, h1, h2, h3, h4⟩
 ·
  cases hn
 ·
  injection e with e e2 e3
  injection e with e
  injection e with e
  subst e; subst e3
  refine .inr ⟨C, c, cur.setIfInBounds j v, rfl, hb, heap_setCell_same W C j _ _ v hg, h1, h2, by rw [Array.size_setIfInBounds]; exact h3, ?_⟩
  rw [Array.toList_setIfInBounds, ← h4, List.take_set]
section
variable {B C c n K : Nat} {pre post : List Value} {x : En} {W W' : World}
theorem EnE.lt (h : EnE B C c n K pre x post W) : C < W.heap.size := (h.own.lt C rfl).2
theorem EnE.base (h : EnE B C c n K pre x post W) : B ≤ C := (h.own.lt C rfl).1
theorem EnE.next (h : EnE B C c n K pre x post W) (hb : Below W.heap.size W W') : EnE B C c n K pre x post W' := ⟨h.plen, own_belowQ h.own hb⟩
theorem EnE.drew (h : EnE B C c n K pre x post W) : EnE B C c n K pre x post W.drew := ⟨h.plen, h.own⟩
theorem own_only9 {B n S c : Nat} {C : Nat} {xs : List Value} {W W' : World} {T : TypeId} (h : W.ownsRow B T S (.slice (some ⟨C, 0, none⟩) n c) n xs) {g : Nat} (ho : Only g W W') (hne : C ≠ g) : W'.ownsRow B T S (.slice (some ⟨C, 0, none⟩) n c) n xs := by
 refine ⟨h.1, ?_⟩
 rcases h.2 with hn | ⟨q, cap, cur2, e1, hb2, hgg, rest⟩
 ·
  exact .inl hn
 ·
  refine .inr ⟨q, cap, cur2, e1, hb2, blk_onlyW hgg ho (fun e => hne ?_), rest⟩
  injection e1 with e1
  injection e1 with e1
  injection e1 with e1
  rw [e1]; exact e
theorem EnE.only (h : EnE B C c n K pre x post W) {g : Nat} (ho : Only g W W') (hne : C ≠ g) : EnE B C c n K pre x post W' := ⟨h.plen, own_only9 h.own ho hne⟩
theorem EnE.at (h : EnE B C c n K pre x post W) {j : Nat} {v : Value} (hv : x.cells[j]? = some v) : W.cell? ⟨C, K + j, none⟩ = some v := by
 have hj : j < 30 := (List.getElem?_eq_some_iff.1 hv).1
 have := h.own.cells (g := C) rfl (K + j) v (by rw [List.getElem?_append_right (by rw [h.plen]; omega), h.plen, show K + j - K = j by omega, List.getElem?_append_left (by rw [En.len]; exact hj)]; exact hv)
 rw [Addr.add_lit, Nat.zero_add] at this
 exact this
theorem EnE.free (h : EnE B C c n K pre x post W) (j : Nat) : W.frozen? ⟨C, j, none⟩ = false := by
 rcases h.own.2 with ⟨hn, _⟩ | ⟨g, cap, cur, e, hb, hg, _⟩
 ·
  cases hn
 ·
  injection e with e
  injection e with e
  injection e with e
  subst e
  exact frozen_of_row W C j _ _ hg
theorem EnE.set1 (h : EnE B C c n K pre x post W) {j : Nat} (hj : j < 30) (v : Value) {x' : En} (hx : x.cells.set j v = x'.cells) : EnE B C c n K pre x' post (W.setCell ⟨C, K + j, none⟩ v) := by
 refine ⟨h.plen, ?_⟩
 have := own_setC (j := K + j) h.own v
 rw [List.set_append_right _ _ (by rw [h.plen]; omega), h.plen, show K + j - K = j by omega, List.set_append_left _ _ (by rw [En.len]; exact hj), hx] at this
 exact this
theorem mid_set {pre row post : List Value} {K j : Nat} (hp : pre.length = K) (hj : j < row.length) (v : Value) : (pre ++ (row ++ post)).set (K + j) v = pre ++ (row.set j v ++ post) := by
 rw [List.set_append_right _ _ (by rw [hp]; omega), hp, show K + j - K = j by omega, List.set_append_left _ _ hj]
theorem EnE.set3 (h : EnE B C c n K pre x post W) {j : Nat} (hj : j < 28) (v0 v1 v2 : Value) {x' : En} (hx : ((x.cells.set j v0).set (j + 1) v1).set (j + 2) v2 = x'.cells) : EnE B C c n K pre x' post (((W.setCell ⟨C, K + j, none⟩ v0).setCell ⟨C, K + (j + 1), none⟩ v1).setCell ⟨C, K + (j + 2), none⟩ v2) := by
 refine ⟨h.plen, ?_⟩
 have h0 := own_setC (j := K + j) h.own v0
 have h1 := own_setC (j := K + (j + 1)) h0 v1
 have h2 := own_setC (j := K + (j + 2)) h1 v2
 rw [mid_set h.plen (by rw [En.len]; omega), mid_set h.plen (by rw [List.length_set, En.len]; omega), mid_set h.plen (by rw [List.length_set, List.length_set, En.len]; omega), hx] at h2
 exact h2
end
theorem allows2_calls (w : World) : Calls Tryz.prog 82 #[.int .i64 2, .int .i64 1] w fun e w' => e = .returned (.bool true) ∧ w' = w := by
 go_enter Tryz.func82, Tryz.ntmps82
 go_wp2_with fail
 go_ret
 exact ⟨rfl, rfl⟩
theorem allows3_calls (w : World) : Calls Tryz.prog 82 #[.int .i64 3, .int .i64 1] w fun e w' => e = .returned (.bool true) ∧ w' = w := by
 go_enter Tryz.func82, Tryz.ntmps82
 go_wp2_with fail
 go_ret
 exact ⟨rfl, rfl⟩
theorem allows4_calls (w : World) : Calls Tryz.prog 82 #[.int .i64 4, .int .i64 3] w fun e w' => e = .returned (.bool true) ∧ w' = w := by
 go_enter Tryz.func82, Tryz.ntmps82
 go_wp2_with fail
 go_ret
 exact ⟨rfl, rfl⟩
theorem rClean_calls (q : Rat) (m : Nat) (w : World) (hq : Sz m q) (m0 : 0 < m) (hkm : m + 8 ≤ 99999) :
 Calls Tryz.prog 83 #[ratV q] w fun e w' => e = .returned (ratV q) ∧ Below w.heap.size w w' := by
 have HA' := fun W => pAddQ_calls q 0 m 8 W hq sz_zero m0 (by decide) hkm
 rw [ratV_zero, Rat.add_zero] at HA'
 unfold ratV at HA' ⊢
 have HA := Lib.hid HA'
 clear HA' hq m0 hkm
 go_enter Tryz.func83, Tryz.ntmps83
 go_wp2_with fail
 obtain ⟨ga, hg_ga⟩ : ∃ g, g = w.heap.size := ⟨_, rfl⟩
 obtain ⟨gr, hg_gr⟩ : ∃ g, g = w.heap.size + 1 := ⟨_, rfl⟩
 obtain ⟨w0, hw_w0⟩ : ∃ W, W = ((w.alloc (.cells #[.bool (rneg q), .string (rnum q), .string (rden q)] 33)).alloc (.cells #[.bool false, .string ⟨#[]⟩, .string ⟨#[]⟩] 33)) := ⟨_, rfl⟩
 have HP0 : Hid (Bk ga (.cells #[.bool (rneg q), .string (rnum q), .string (rden q)] 33) w0) := by rw [hw_w0, hg_ga]; exact blk_alloc (blk_new _ _)
 have HR0 : Hid (Bk gr (.cells #[.bool false, .string ⟨#[]⟩, .string ⟨#[]⟩] 33) w0) := by rw [hw_w0, hg_gr]; exact blk_new1 _ _ _
 have HB0 : Hid (Below w.heap.size w w0) := by rw [hw_w0]; exact (bel_alloc _ _).alloc (by simp) _
 have HL_0 := Lib.hid (And.intro (by omega : w.heap.size ≤ ga) ((by omega : ga < gr)))
 rw [← hw_w0]
 (try rw [← hg_gr]); (try rw [← hg_ga])
 clear hw_w0 hg_ga hg_gr
 refine (HA.out _).mono ?_
 rintro e w1 ⟨rfl, hb⟩
 have HP1 := bkn HP0 hb
 have HR1 := bkn HR0 hb
 have HB1 := ben HB0 hb
 clear hb HP0 HR0 HB0
 obtain ⟨c0, c1, c2, fc0, fc1, fc2, hzc⟩ := three_of HR1.out
 have hlt := HL_0.out
 go_wp2_with fail
 exact bodyPost_ret (v := .agg #[.bool (rneg q), .string (rnum q), .string (rden q)]) (by simp [results, Tryz.results83, go_sem, c0, c1, c2]) rfl ⟨rfl, ((HB1.out.setCell (by simp <;> omega) _).setCell (by simp <;> omega) _).setCell (by simp <;> omega) _⟩
theorem between_calls (q a b : Rat) (m : Nat) (w : World) (hq : Sz m q) (ha : Sz m a) (hb : Sz m b) (m0 : 0 < m) (hkm : m + m ≤ 99999) (h1 : a ≤ q) (h2 : q ≤ b) :
 Calls Tryz.prog 84 #[ratV q, ratV a, ratV b] w fun e w' => e = .returned (.bool true) ∧ Below w.heap.size w w' := by
 have HA' := fun W => pCmpQ_calls q a m m W hq ha m0 m0 hkm
 have HC' := fun W => pCmpQ_calls q b m m W hq hb m0 m0 hkm
 have d1 : decide (0 ≤ cmpR q a) = true := decide_eq_true (cmpR_nn.2 h1)
 have d2 : decide (cmpR q b ≤ 0) = true := decide_eq_true (cmpR_np.2 h2)
 obtain ⟨c1, hc1⟩ : ∃ c, c = cmpR q a := ⟨_, rfl⟩
 obtain ⟨c2, hc2⟩ : ∃ c, c = cmpR q b := ⟨_, rfl⟩
 rw [← hc1] at d1 HA'
 rw [← hc2] at d2 HC'
 unfold ratV at HA' HC' ⊢
 have HA := Lib.hid HA'
 have HC := Lib.hid HC'
 clear HA' HC' hq ha hb h1 h2 m0 hkm hc1 hc2
 go_enter Tryz.func84, Tryz.ntmps84
 go_wp2_with fail
 obtain ⟨ga, hg_ga⟩ : ∃ g, g = w.heap.size := ⟨_, rfl⟩
 obtain ⟨gb, hg_gb⟩ : ∃ g, g = w.heap.size + 1 := ⟨_, rfl⟩
 obtain ⟨gc, hg_gc⟩ : ∃ g, g = w.heap.size + 1 + 1 := ⟨_, rfl⟩
 obtain ⟨w0, hw_w0⟩ : ∃ W, W = (((w.alloc (.cells #[.bool (rneg q), .string (rnum q), .string (rden q)] 33)).alloc (.cells #[.bool (rneg a), .string (rnum a), .string (rden a)] 33)).alloc (.cells #[.bool (rneg b), .string (rnum b), .string (rden b)] 33)) := ⟨_, rfl⟩
 have HP0 : Hid (Bk ga (.cells #[.bool (rneg q), .string (rnum q), .string (rden q)] 33) w0) := by rw [hw_w0, hg_ga]; exact blk_alloc (blk_alloc (blk_new _ _))
 have HQ0 : Hid (Bk gb (.cells #[.bool (rneg a), .string (rnum a), .string (rden a)] 33) w0) := by rw [hw_w0, hg_gb]; exact blk_alloc (blk_new1 _ _ _)
 have HS0 : Hid (Bk gc (.cells #[.bool (rneg b), .string (rnum b), .string (rden b)] 33) w0) := by rw [hw_w0, hg_gc]; exact blk_new2 _ _ _ _
 have HB0 : Hid (Below w.heap.size w w0) := by rw [hw_w0]; exact ((bel_alloc _ _).alloc (by simp) _).alloc (by simp <;> omega) _
 have HL_0 := Lib.hid (And.intro (by omega : w.heap.size ≤ ga) (And.intro (by omega : ga < gb) ((by omega : gb < gc))))
 rw [← hw_w0]
 (try rw [← hg_gc]); (try rw [← hg_gb]); (try rw [← hg_ga])
 clear hw_w0 hg_ga hg_gb hg_gc
 refine (HA.out _).mono ?_
 rintro e w1 ⟨rfl, hb⟩
 have HP1 := bkn HP0 hb
 have HQ1 := bkn HQ0 hb
 have HS1 := bkn HS0 hb
 have HB1 := ben HB0 hb
 clear hb HP0 HQ0 HS0 HB0
 obtain ⟨u0, u1, u2, fu0, fu1, fu2, hzu⟩ := three_of HP1.out
 obtain ⟨v0, v1, v2, fv0, fv1, fv2, hzv⟩ := three_of HS1.out
 go_wp2_with fail
 clear u0 u1 u2 fu0 fu1 fu2 hzu
 clear v0 v1 v2 fv0 fv1 fv2 hzv
 refine (HC.out _).mono ?_
 rintro e w2 ⟨rfl, hb⟩
 have HP2 := bkn HP1 hb
 have HQ2 := bkn HQ1 hb
 have HS2 := bkn HS1 hb
 have HB2 := ben HB1 hb
 clear hb HP1 HQ1 HS1 HB1
 go_wp2_with fail
 go_ret
 exact ⟨rfl, HB2.out⟩
theorem new_calls (w : World) : Calls Tryz.prog 45 #[.int .i64 100, .int .i64 200] w fun e w' => e = .returned (.tuple #[regV 100 200 0 none 0 0, .int .i64 0]) ∧ Below w.heap.size w w' := by
 have HD1 := Lib.hid (fun W => registerDay_calls 100 W (by decide) (by decide))
 have HD2 := Lib.hid (fun W => registerDay_calls 200 W (by decide) (by decide))
 go_enter Tryz.func45, Tryz.ntmps45
 go_upto_region 1 with fail
 obtain ⟨gz, hg_gz⟩ : ∃ g, g = w.heap.size := ⟨_, rfl⟩
 obtain ⟨w0, hw_w0⟩ : ∃ W, W = (w.alloc (.cells #[.int .i64 0, .int .i64 0, .int .i64 0, .slice none 0 0] 57)) := ⟨_, rfl⟩
 have HZ0 : Hid (Bk gz (.cells #[.int .i64 0, .int .i64 0, .int .i64 0, .slice none 0 0] 57) w0) := by rw [hw_w0, hg_gz]; exact blk_new _ _
 have HB0 : Hid (Below w.heap.size w w0) := by rw [hw_w0]; exact bel_alloc _ _
 have HL_0 := Lib.hid ((by omega : w.heap.size ≤ gz))
 rw [← hw_w0]
 (try rw [← hg_gz])
 clear hw_w0 hg_gz
 go_wp2_with fail
 refine (HD1.out _).mono ?_
 rintro e w0 ⟨rfl, rfl⟩
 go_wp2_with fail
 refine (HD2.out _).mono ?_
 rintro e w0 ⟨rfl, rfl⟩
 obtain ⟨z0, z1, z2, z3, zf0, zf1, zf2, zf3, zz⟩ := four_of HZ0.out
 have hlt := HL_0.out
 go_wp2_with fail
 exact bodyPost_ret (v := .tuple #[.agg #[.int .i64 100, .int .i64 200, .int .i64 0, .slice none 0 0], .int .i64 0]) (by simp [results, Tryz.results45, go_sem, z0, z1, z2, z3]) rfl ⟨rfl, (((HB0.out.setCell (by simp <;> omega) _).setCell (by simp <;> omega) _).setCell (by simp <;> omega) _).setCell (by simp <;> omega) _⟩
theorem rank_calls (x : En) (w : World) (hl : x.late = false) : Calls Tryz.prog 54 #[.agg x.cells.toArray] w fun e w' => e = .returned (.int .i64 x.doc.rank) ∧ Below w.heap.size w w' := by
 go_enter Tryz.func54, Tryz.ntmps54
 have HL8 : Hid (x.late = false) := hl
 clear hl
 go_upto_region 1 with fail
 obtain ⟨ga, hg_ga⟩ : ∃ g, g = w.heap.size := ⟨_, rfl⟩
 obtain ⟨w0, hw_w0⟩ : ∃ W, W = (w.alloc (.cells x.cells.toArray 67)) := ⟨_, rfl⟩
 have HE0 : Hid (Bk ga (.cells x.cells.toArray 67) w0) := by rw [hw_w0, hg_ga]; exact blk_new _ _
 have HB0 : Hid (Below w.heap.size w w0) := by rw [hw_w0]; exact bel_alloc _ _
 have HL_0 := Lib.hid ((by omega : w.heap.size ≤ ga))
 rw [← hw_w0]
 (try rw [← hg_ga])
 clear hw_w0 hg_ga
 have k15 := blk_at (j := 15) (v := .bool x.late) HE0.out rfl
 have k8 := blk_at (j := 8) (v := .int .i64 x.doc.rank) HE0.out rfl
 rw [HL8.out] at k15
 go_wp2_with fail
 go_ret
 exact ⟨rfl, HB0.out⟩

end Go.Proofs.YtjlicnhkemfmiaaGreatDoor

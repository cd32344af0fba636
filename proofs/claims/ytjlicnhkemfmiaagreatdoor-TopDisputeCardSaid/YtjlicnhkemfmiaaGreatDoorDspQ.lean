/- TopDispute: contracts and facts in the form that the law asks. -/
import Derived.Test.YtjlicnhkemfmiaaGreatDoorDsp5
import Derived.Test.YtjlicnhkemfmiaaGreatDoorDsp7
import Derived.Test.YtjlicnhkemfmiaaGreatDoorDsp8
import Derived.Test.YtjlicnhkemfmiaaGreatDoorDspA
set_option linter.unusedVariables false
set_option linter.unusedSimpArgs false
namespace Go.Proofs.YtjlicnhkemfmiaaGreatDoor
open Go.RowKit

def TrueW (_ : World) : Prop := True
theorem TrueW.next {W W' : World} (_ : TrueW W) (_ : Below W.heap.size W W') : TrueW W' := trivial
theorem TrueW.drew {W : World} (_ : TrueW W) : TrueW W.drew := trivial
theorem TrueW.only {W W' : World} {g : Nat} (_ : TrueW W) (_ : Only g W W') (_ : True) : TrueW W' := trivial
/-- a document's cells lie in a block -/
def DRg (b o : Nat) (d : Dc) (W : World) : Prop := W.rangeAt b o d.cells ∧ b < W.heap.size
theorem DRg.next {b o : Nat} {d : Dc} {W W' : World} (h : DRg b o d W) (hb : Below W.heap.size W W') : DRg b o d W' :=
 ⟨fun j v hv => (hb.cell (p := ⟨b, o + j, none⟩) h.2).trans (h.1 j v hv), Nat.lt_of_lt_of_le h.2 hb.size⟩
theorem DRg.drew {b o : Nat} {d : Dc} {W : World} (h : DRg b o d W) : DRg b o d W.drew := h
theorem DRg.only {b o g : Nat} {d : Dc} {W W' : World} (h : DRg b o d W) (ho : Only g W W') (hne : b ≠ g) : DRg b o d W' :=
 ⟨fun j v hv => (World.cell?_of_block (ho.block b h.2 hne)).trans (h.1 j v hv), Nat.lt_of_lt_of_le h.2 ho.size⟩
theorem DRg.id {b o : Nat} {d : Dc} {W : World} (h : DRg b o d W) : W.cell? ⟨b, o, none⟩ = some (.string d.id) := h.1 0 _ rfl
theorem dc_take {W : World} {B b off : Nat} {l : List Dc} (h : Rd W B 14 (some ⟨b, off, none⟩) l.length (l.flatMap Dc.cells)) (k : Nat) : ∀ j u, ((l.take k).flatMap Dc.cells)[j]? = some u → W.cell? ((⟨b, off, none⟩ : Addr).add j) = some u := by
 intro j u hu
 have hl : l = l.take k ++ l.drop k := (List.take_append_drop k l).symm
 have hlt := (List.getElem?_eq_some_iff.1 hu).1
 have h0 : 0 < l.length := by
  rcases l with _ | ⟨x, l⟩
  ·
   simp at hlt
  ·
   simp
 obtain ⟨b', off', e, _, hc⟩ := h.2 h0
 simp only [Option.some.injEq, Addr.mk.injEq, and_true] at e
 obtain ⟨rfl, rfl⟩ := e
 rw [Addr.add_lit]
 refine hc j u ?_
 rw [hl, List.flatMap_append, List.getElem?_append_left hlt]
 exact hu
theorem dc_drop {W : World} {B b off : Nat} {l : List Dc} (h : Rd W B 14 (some ⟨b, off, none⟩) l.length (l.flatMap Dc.cells)) {k : Nat} (hk : k ≤ l.length) : ∀ j u, ((l.drop k).flatMap Dc.cells)[j]? = some u → W.cell? ⟨b, off + k * 14 + j, none⟩ = some u := by
 intro j u hu
 have hl : l = l.take k ++ l.drop k := (List.take_append_drop k l).symm
 have hlt := (List.getElem?_eq_some_iff.1 hu).1
 have h0 : 0 < l.length := by
  rcases l with _ | ⟨x, l⟩
  ·
   simp at hlt
  ·
   simp
 obtain ⟨b', off', e, _, hc⟩ := h.2 h0
 simp only [Option.some.injEq, Addr.mk.injEq, and_true] at e
 obtain ⟨rfl, rfl⟩ := e
 rw [Nat.add_assoc]
 refine hc _ u ?_
 have hlen : ((l.take k).flatMap Dc.cells).length = k * 14 := by rw [flat_len Dc.cells 14 Dc.len, List.length_take]; congr 1; omega
 rw [hl, List.flatMap_append, List.getElem?_append_right (by rw [hlen]; omega), hlen, Nat.add_sub_cancel_left]
 exact hu
theorem tail_addrD {W : World} {B b off : Nat} {l : List Dc} {k cs : Nat} (hk : k ≤ l.length) (hc : l.length ≤ cs) (h : Rd W B 14 (some ⟨b, off, none⟩) l.length (l.flatMap Dc.cells)) : ∃ ad : Addr, (if cs = k then (some ⟨b, off, none⟩ : Option Addr) else some ⟨b, off + k * 14, none⟩) = some ad ∧ ∀ (W' : World), (∀ p : Addr, p.block < B → W'.cell? p = W.cell? p) → ∀ j u, ((l.drop k).flatMap Dc.cells)[j]? = some u → W'.cell? (ad.add j) = some u := by
 by_cases e : cs = k
 ·
  rw [if_pos e]
  refine ⟨_, rfl, fun W' _ j u hu => ?_⟩
  have : l.drop k = [] := List.drop_eq_nil_of_le (by omega)
  rw [this] at hu; simp at hu
 ·
  rw [if_neg e]
  refine ⟨_, rfl, fun W' hW j u hu => ?_⟩
  rw [Addr.add_lit]
  exact dc_drop (h.keep hW) hk j u hu
theorem EnE.range {B C c n K : Nat} {pre post : List Value} {x : En} {W : World} (h : EnE B C c n K pre x post W) : W.rangeAt C K x.cells := fun _ _ hv => h.at hv
/-- the last entry -/
theorem EnR.last {B n c m : Nat} {A : Option Addr} {es : List En} {x : En} {W : World} (h : EnR B A n c (es ++ [x]) W) (hm : es.length = m) (hn : m + 1 = n) : ∃ C, A = some ⟨C, 0, none⟩ ∧ EnE B C c n (m * 30) (es.flatMap En.cells) x [] W := by
 obtain ⟨C, c', e, _, _⟩ := World.ownsRow.form h (by omega)
 injection e with e1 _ e3
 subst e1; subst e3
 refine ⟨C, rfl, by rw [flat_len En.cells 30 En.len, hm], ?_⟩
 have h1 := h
 unfold EnR at h1
 rw [List.flatMap_append] at h1
 have e2 : [x].flatMap En.cells = x.cells ++ [] := by simp
 rw [e2] at h1
 exact h1
theorem EnE.row {B n c K C : Nat} {es : List En} {x : En} {W : World} (h : EnE B C c n K (es.flatMap En.cells) x [] W) : EnR B (some ⟨C, 0, none⟩) n c (es ++ [x]) W := by
 have h1 := h.own
 unfold EnR
 rw [List.flatMap_append, show [x].flatMap En.cells = x.cells ++ [] by simp]
 exact h1
abbrev enF (d : Dc) (q : Rat) : En := ⟨d, 1, false, q, 0, 0, q, d.inc, 160⟩
abbrev enP (d : Dc) (q f : Rat) : En := ⟨d, 3, false, q, f, f, q, d.inc, 161⟩
abbrev enD (d : Dc) (q f e : Rat) : En := ⟨d, 4, false, q, f, e, q, d.inc, 162⟩
/-- the disputed document is filed -/
theorem dspF_calls (rest : List Dc) (hl : DcsOk rest) (m n : Nat) (hm : rest.length = m) (hn : m + 1 = n) (h8 : n ≤ 8) (i : Nat) (d : Dc) (hd : DcD i d) (q : Rat) (hq : q = valD d) (hfr : ∀ z ∈ rest, z.id ≠ d.id) (A : Option Addr) (c : Nat) (day0 : Int) (B : Nat) (w : World) (he : EnR B A m c (rest.map adm) w) (h0 : day0 ≤ 150) :
 Calls Tryz.prog 19 #[regV 100 200 day0 A m c, .agg #[.int .i64 1, .int .i64 160, .string ⟨#[]⟩, .bool false, .string ⟨#[]⟩, .string ⟨#[]⟩, .int .i64 0, .string d.id, .int .i64 d.est, .int .i64 d.cred, .string d.code, .bool (rneg d.amt), .string (rnum d.amt), .string (rden d.amt), .int .i64 d.inc, .int .i64 d.rank, .bool (rneg d.rate), .string (rnum d.rate), .string (rden d.rate), .int .i64 d.frm, .int .i64 d.sec], .slice none 0 0] w (APost 160 n (rest.map adm ++ [enF d q]) w) := by
 subst hq; subst hn
 have hlm : m = (rest.map adm).length := by rw [List.length_map, hm]
 exact applyF_calls A m c day0 160 _ i d w (he.rd hlm) hlm he.nil (by omega) (by omega) (by decide) (by decide) hd (findE_none (fun x hx => by obtain ⟨z, hz, rfl⟩ := List.mem_map.1 hx; exact hfr z hz))
/-- the last entry is changed -/
theorem dspC_calls (es : List En) (x y : En) (m n : Nat) (hm : es.length = m) (hn : m + 1 = n) (h8 : n ≤ 8) (hfr : ∀ z ∈ es, z.doc.id ≠ x.doc.id) (kd day0 day : Int) (id : ByteArray) (q : Rat) (A : Option Addr) (c : Nat) (B : Nat) (w : World) (hid : x.doc.id = id) (he : EnR B A n c (es ++ [x]) w) (h0 : day0 ≤ day) (h1 : 0 ≤ day) (h2 : day ≤ 200) (hk1 : 2 ≤ kd) (hk2 : kd ≤ 9)
 (hch : ∀ (C c1 : Nat) (W : World) (K0 : Nat) (pre post : List Value), EnE w.heap.size C c1 n K0 pre x post W → Calls Tryz.prog 50 #[.pointer (some ⟨C, K0, none⟩), .agg #[.int .i64 kd, .int .i64 day, .string id, .bool (rneg q), .string (rnum q), .string (rden q), .int .i64 0, .string ⟨#[]⟩, .int .i64 0, .int .i64 0, .string ⟨#[]⟩, .bool false, .string ⟨#[]⟩, .string ⟨#[]⟩, .int .i64 0, .int .i64 0, .bool false, .string ⟨#[]⟩, .string ⟨#[]⟩, .int .i64 0, .int .i64 0]] W fun e w' => e = .returned (.int .i64 0) ∧ EnE w.heap.size C c1 n K0 pre y post w' ∧ Only C W w') :
 Calls Tryz.prog 19 #[regV 100 200 day0 A n c, .agg #[.int .i64 kd, .int .i64 day, .string id, .bool (rneg q), .string (rnum q), .string (rden q), .int .i64 0, .string ⟨#[]⟩, .int .i64 0, .int .i64 0, .string ⟨#[]⟩, .bool false, .string ⟨#[]⟩, .string ⟨#[]⟩, .int .i64 0, .int .i64 0, .bool false, .string ⟨#[]⟩, .string ⟨#[]⟩, .int .i64 0, .int .i64 0], .slice none 0 0] w (APost day n (es ++ [y]) w) := by
 have hl2 : n = (es ++ [x]).length := by rw [List.length_append, hm]; simp; omega
 have h := applyC_calls A n c day0 day (es ++ [x]) kd id q m x y w (he.rd hl2) hl2 he.nil h8 h0 h1 h2 hk1 hk2 (by rw [findE_snoc (by rw [← hid]; exact hfr) hid, hm]) (snoc_at _ _ hm) (fun C c1 W h => hch C c1 W _ _ _ h)
 rw [set_lastD _ _ _ hm] at h
 exact h
def v3 (a b c : Rat) : Nat → Rat
 | 0 => a
 | 1 => b
 | _ => c
theorem v3_cells {g : Nat} {a b c : Rat} {W : World} (h : Bk g (.cells #[.bool (rneg a), .string (rnum a), .string (rden a), .bool (rneg b), .string (rnum b), .string (rden b), .bool (rneg c), .string (rnum c), .string (rden c)] 33) W) {k : Nat} (hk : k < 3) : QD g (k * 3) (v3 a b c k) W := by
 have hl := blk_lt h
 rcases (by omega : k = 0 ∨ k = 1 ∨ k = 2) with rfl | rfl | rfl
 ·
  exact ⟨blk_at (j := 0) h rfl, blk_at (j := 1) h rfl, blk_at (j := 2) h rfl, hl⟩
 ·
  exact ⟨blk_at (j := 3) h rfl, blk_at (j := 4) h rfl, blk_at (j := 5) h rfl, hl⟩
 ·
  exact ⟨blk_at (j := 6) h rfl, blk_at (j := 7) h rfl, blk_at (j := 8) h rfl, hl⟩
/-- what one way of admitting the claim delivers to the others, as a slice -/
def GotA (gg m : Nat) (qs : List Rat) (G : Value) (W : World) : Prop := ∃ A c, G = .slice A m c ∧ Rd W W.heap.size 3 A m (qs.flatMap rtV) ∧ ∀ b off, A = some ⟨b, off, none⟩ → b ≠ gg
theorem GotA.next {gg m : Nat} {qs : List Rat} {G : Value} {W W' : World} (h : GotA gg m qs G W) (hb : Below W.heap.size W W') : GotA gg m qs G W' := by
 obtain ⟨A, c, e, h1, h2⟩ := h
 exact ⟨A, c, e, h1.next hb, h2⟩
theorem GotA.only {gg m : Nat} {qs : List Rat} {G : Value} {W W' : World} (h : GotA gg m qs G W) (ho : Only gg W W') : GotA gg m qs G W' := by
 obtain ⟨A, c, e, h1, h2⟩ := h
 exact ⟨A, c, e, rd_only9 h1 ho (fun b off e _ => h2 b off e), h2⟩
def GotOk (gg m : Nat) (P : Nat → List Rat) (k : Nat) (G0 G1 G2 : Value) (W : World) : Prop := (0 < k → GotA gg m (P 0) G0 W) ∧ (1 < k → GotA gg m (P 1) G1 W) ∧ (2 < k → GotA gg m (P 2) G2 W)
theorem GotOk.next {gg m k : Nat} {P : Nat → List Rat} {G0 G1 G2 : Value} {W W' : World} (h : GotOk gg m P k G0 G1 G2 W) (hb : Below W.heap.size W W') : GotOk gg m P k G0 G1 G2 W' :=
 ⟨fun h0 => (h.1 h0).next hb, fun h0 => (h.2.1 h0).next hb, fun h0 => (h.2.2 h0).next hb⟩
/-- one more is stored -/
theorem GotOk.step {gg m k : Nat} {P : Nat → List Rat} {G0 G1 G2 G : Value} {W : World} (hk : k < 3) (h : GotOk gg m P k G0 G1 G2 W) (hb : Bk gg (.cells #[G0, G1, G2] 69) W) (hG : GotA gg m (P k) G W) :
 ∃ H0 H1 H2, GotOk gg m P (k + 1) H0 H1 H2 (W.setCell ⟨gg, k, none⟩ G) ∧ Bk gg (.cells #[H0, H1, H2] 69) (W.setCell ⟨gg, k, none⟩ G) := by
 have ho : Only gg W (W.setCell ⟨gg, k, none⟩ G) := (Only.refl _ _).setC _ _
 have hs := heap_setCell_same W gg k _ _ G hb
 rcases (by omega : k = 0 ∨ k = 1 ∨ k = 2) with rfl | rfl | rfl
 ·
  exact ⟨G, G1, G2, ⟨fun _ => hG.only ho, fun h => by omega, fun h => by omega⟩, hs⟩
 ·
  exact ⟨G0, G, G2, ⟨fun _ => (h.1 (by omega)).only ho, fun _ => hG.only ho, fun h => by omega⟩, hs⟩
 ·
  exact ⟨G0, G1, G, ⟨fun _ => (h.1 (by omega)).only ho, fun _ => (h.2.1 (by omega)).only ho, fun _ => hG.only ho⟩, hs⟩
theorem got_cell {gg k : Nat} {G0 G1 G2 : Value} {W : World} (hk : k < 3) (hb : Bk gg (.cells #[G0, G1, G2] 69) W) : ∃ u, W.cell? ⟨gg, k, none⟩ = some u := by
 rcases (by omega : k = 0 ∨ k = 1 ∨ k = 2) with rfl | rfl | rfl
 ·
  exact ⟨G0, blk_at (j := 0) hb rfl⟩
 ·
  exact ⟨G1, blk_at (j := 1) hb rfl⟩
 ·
  exact ⟨G2, blk_at (j := 2) hb rfl⟩
/-- the row of the claims by name, its last amount -/
abbrev NmO (B C n c : Nat) (l : List Nm) (W : World) : Prop := W.ownsRow B 73 5 (.slice (some ⟨C, 0, none⟩) n c) n (l.flatMap nmV)
theorem nm_cells {B C n c m : Nat} {pre : List Nm} {x : Nm} {W : World} (h : NmO B C n c (pre ++ [x]) W) (hm : pre.length = m) : QD C (m * 5 + 2) x.amt W ∧ (∀ j, W.frozen? ⟨C, j, none⟩ = false) := by
 have hc := h.cells (g := C) rfl
 have hat : ∀ j v, (nmV x)[j]? = some v → W.cell? ⟨C, m * 5 + j, none⟩ = some v := fun j v hv => by
  have hj : j < 5 := (List.getElem?_eq_some_iff.1 hv).1
  have h1 := hc (m * 5 + j) v (by rw [List.flatMap_append, List.getElem?_append_right (by rw [flat_len nmV 5 nmV_len, hm]; omega), flat_len nmV 5 nmV_len, hm, show m * 5 + j - m * 5 = j by omega]; simpa using hv)
  rw [Addr.add_lit, Nat.zero_add] at h1
  exact h1
 refine ⟨⟨hat 2 _ rfl, hat 3 _ rfl, hat 4 _ rfl, (h.lt C rfl).2⟩, fun j => ?_⟩
 rcases h.2 with ⟨hn, _⟩ | ⟨g, cap, cur, e, hb, hg, _⟩
 ·
  cases hn
 ·
  injection e with e
  injection e with e
  injection e with e
  subst e
  exact frozen_of_row W C j _ _ hg
theorem nm_set {B C n c m : Nat} {pre : List Nm} {x : Nm} {W : World} (h : NmO B C n c (pre ++ [x]) W) (hm : pre.length = m) (v : Rat) : NmO B C n c (pre ++ [⟨x.id, x.rank, v⟩]) (((W.setCell ⟨C, m * 5 + 2, none⟩ (.bool (rneg v))).setCell ⟨C, m * 5 + 3, none⟩ (.string (rnum v))).setCell ⟨C, m * 5 + 4, none⟩ (.string (rden v))) := by
 have h0 := own_setC (j := m * 5 + 2) h (.bool (rneg v))
 have h1 := own_setC (j := m * 5 + 3) h0 (.string (rnum v))
 have h2 := own_setC (j := m * 5 + 4) h1 (.string (rden v))
 have hp : (pre.flatMap nmV).length = m * 5 := by rw [flat_len nmV 5 nmV_len, hm]
 have e1 : (pre ++ [x]).flatMap nmV = pre.flatMap nmV ++ (nmV x ++ []) := by rw [List.flatMap_append]; simp
 rw [e1, mid_set hp (by rw [nmV_len]; omega), mid_set hp (by rw [List.length_set, nmV_len]; omega), mid_set hp (by rw [List.length_set, List.length_set, nmV_len]; omega)] at h2
 have e2 : (pre ++ [(⟨x.id, x.rank, v⟩ : Nm)]).flatMap nmV = pre.flatMap nmV ++ ((((nmV x).set 2 (.bool (rneg v))).set 3 (.string (rnum v))).set 4 (.string (rden v)) ++ []) := by rw [List.flatMap_append]; simp [nmV]
 show World.ownsRow _ _ _ _ _ _ _
 rw [e2]
 exact h2
/-- the other claims -/
def clsD (rest : List Dc) : List Cl := (rest.map adm).map (fun x => clN (nmE x))
theorem clsD_len (rest : List Dc) : (clsD rest).length = rest.length := by unfold clsD; simp
theorem clsD_ok {rest : List Dc} (h : DcsOk rest) : ClsOk (clsD rest) := by
 refine ⟨fun c hc => ?_⟩
 unfold clsD at hc
 obtain ⟨x, hx, rfl⟩ := List.mem_map.1 hc
 obtain ⟨d, hd, rfl⟩ := List.mem_map.1 hx
 obtain ⟨j, hj⟩ := h.each d hd
 have h1 := hj.rank
 exact ⟨by show d.rank.toNat < 8; omega, valD_nn hj⟩
theorem clsD_sz {rest : List Dc} (h : DcsOk rest) : ∀ c ∈ clsD rest, Sz 143 c.amt := by
 intro c hc
 unfold clsD at hc
 obtain ⟨x, hx, rfl⟩ := List.mem_map.1 hc
 obtain ⟨d, hd, rfl⟩ := List.mem_map.1 hx
 obtain ⟨j, hj⟩ := h.each d hd
 exact (valD_sz hj).mono (by decide)
theorem cls_ok1 {l : List Cl} (h : ClsOk l) {r : Nat} {v : Rat} (hr : r < 8) (hv : 0 ≤ v) : ClsOk (l ++ [⟨r, v⟩]) := by
 refine ⟨fun c hc => ?_⟩
 rcases List.mem_append.1 hc with hc | hc
 ·
  exact h.each c hc
 ·
  rw [List.mem_singleton.1 hc]; exact ⟨hr, hv⟩
theorem cls_sz1 {l : List Cl} (h : ∀ c ∈ l, Sz 143 c.amt) {r : Nat} {v : Rat} (hv : Sz 143 v) : ∀ c ∈ l ++ [(⟨r, v⟩ : Cl)], Sz 143 c.amt := by
 intro c hc
 rcases List.mem_append.1 hc with hc | hc
 ·
  exact h c hc
 ·
  rw [List.mem_singleton.1 hc]; exact hv
/-- what the others get where the disputed claim is v -/
def othD (rest : List Dc) (r : Nat) (mon v : Rat) : List Rat := (deliv (clsD rest ++ [⟨r, v⟩]) mon).take rest.length
theorem othD_len (rest : List Dc) (r : Nat) (mon v : Rat) : (othD rest r mon v).length = rest.length := by
 unfold othD
 rw [List.length_take, deliv_len, List.length_append, clsD_len]
 simp
theorem othD_sz {rest : List Dc} (h : DcsOk rest) {m : Nat} (hm : rest.length = m) (h7 : m ≤ 7) {r : Nat} {mon v : Rat} (hmon : Sz 8 mon) (hv : Sz 143 v) : ∀ q ∈ othD rest r mon v, Sz 10600 q := by
 intro q hq
 have := deliv_sz (cls_sz1 (clsD_sz h) (r := r) hv) (by rw [List.length_append, clsD_len, hm]; simp; omega) (by decide) hmon q (List.mem_of_mem_take hq)
 exact this.mono (by decide)
theorem othD_less {rest : List Dc} (h : DcsOk rest) {r : Nat} {mon x x' : Rat} (hx : x ≤ x') : ∀ (i : Nat) (a b : Rat), (othD rest r mon x')[i]? = some a → (othD rest r mon x)[i]? = some b → a ≤ b := by
 have := (deliv_less (clsD_ok h) (r := r) (m := mon) hx).2
 unfold othD
 rw [← clsD_len rest]
 exact this
def DspM (w1 : World) (rest : List Dc) (m : Nat) (s13 s14 : Value) (W : World) : Prop :=
 ∃ (gr : Nat) (day : Int) (A : Option Addr) (c : Nat), s13 = .pointer (some ⟨gr, 0, none⟩) ∧ s14 = .bool true ∧ (0 ≤ day ∧ day ≤ 150) ∧ Bk gr (.cells #[.int .i64 100, .int .i64 200, .int .i64 day, .slice A m c] 57) W ∧ EnR w1.heap.size A m c (rest.map adm) W ∧ Below w1.heap.size w1 W ∧ w1.heap.size ≤ gr
def DspN (w1 : World) (gr C c n K gc : Nat) (es : List En) (x : En) (q f : Rat) (s17 : Value) (W : World) : Prop :=
 ∃ gf : Nat, s17 = .pointer (some ⟨gf, 0, none⟩) ∧ Bk gf (.cells #[.bool (rneg f), .string (rnum f), .string (rden f)] 33) W ∧ Bk gc (.cells #[.bool (rneg q), .string (rnum q), .string (rden q)] 33) W ∧ Bk gr (.cells #[.int .i64 100, .int .i64 200, .int .i64 160, .slice (some ⟨C, 0, none⟩) n c] 57) W ∧ EnE w1.heap.size C c n K (es.flatMap En.cells) x [] W ∧ Below w1.heap.size w1 W ∧ gr < gf ∧ gc < gf ∧ C < gf ∧ w1.heap.size ≤ gf
def DspO (w1 : World) (gr C c n K gf : Nat) (es : List En) (x : En) (f e : Rat) (s18 : Value) (W : World) : Prop :=
 ∃ ge : Nat, s18 = .pointer (some ⟨ge, 0, none⟩) ∧ Bk ge (.cells #[.bool (rneg e), .string (rnum e), .string (rden e)] 33) W ∧ Bk gf (.cells #[.bool (rneg f), .string (rnum f), .string (rden f)] 33) W ∧ Bk gr (.cells #[.int .i64 100, .int .i64 200, .int .i64 160, .slice (some ⟨C, 0, none⟩) n c] 57) W ∧ EnE w1.heap.size C c n K (es.flatMap En.cells) x [] W ∧ Below w1.heap.size w1 W ∧ gr < ge ∧ gf < ge ∧ C < ge ∧ w1.heap.size ≤ ge

end Go.Proofs.YtjlicnhkemfmiaaGreatDoor

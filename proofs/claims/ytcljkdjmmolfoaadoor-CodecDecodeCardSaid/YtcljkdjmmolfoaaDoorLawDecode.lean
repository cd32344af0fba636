/- insolvencylaw35.decoded; CodecDecode: the plain walk. -/
import Derived.Test.YtcljkdjmmolfoaaDoorSameRec
import Derived.Test.YtcljkdjmmolfoaaDoorRDec
import Derived.Test.YtcljkdjmmolfoaaDoorLawPrefix
import Derived.Test.YtcljkdjmmolfoaaDoorLawChange
set_option linter.unusedVariables false
set_option linter.unusedSimpArgs false
namespace Go.Proofs.YtcljkdjmmolfoaaDoor
open Go.RowKit

theorem decBy_lens {N : St → Int × St} {Q : St → RQ × St} {b : List Nat} {r : RecD} (h : decBy N Q b = some r) : r.1.legs.length ≤ maxLen ∧ r.1.opts.length ≤ maxLen ∧ r.2.length ≤ maxLen := by
  have h1 := refOk_parts (decBy_some h).1
  unfold maxLen
  exact ⟨by have := h1.2.1; omega, by have := h1.2.2.1; omega, by have := h1.2.2.2.1; omega⟩
set_option maxHeartbeats 8000000 in
set_option maxRecDepth 100000 in
theorem decoded_calls (A : Option Addr) (n c : Nat) (b : List Nat) (w : World) (hn : n = b.length) (hr : KRd .u8 w w.heap.size A b) (hby : Byt b) (hnc : n ≤ c) (hcm : c ≤ maxLen) :
    Calls Tryd.prog 17 #[.slice A n c] w fun e w' => e = .returned (.bool true) ∧ Below w.heap.size w w' := by
  have H1 := Lib.hid (pDecode_calls A n c b w hn hr hby hnc hcm)
  have H2 := Lib.hid (fun W (hW : Below w.heap.size w W) => dDecode_calls A n c b W hn (hr.next hW) hby hnc hcm)
  rw [← dec_same] at H2
  have HMX := Lib.hid (And.intro hnc hcm)
  unfold maxLen at hcm
  clear hn hr hby
  rcases hdb : decBy pNum pRat b with _ | r
  · have HDB := Lib.hid hdb
    clear hdb
    go_enter Tryd.func17, Tryd.ntmps17
    go_wp2_with fail
    refine H1.out.mono ?_
    rintro e w1 ⟨hn_, hs_, hb⟩
    obtain rfl := hn_ HDB.out
    have HB1 : Hid (Below w.heap.size w w1) := hb
    obtain ⟨w2, hw2⟩ : ∃ W, W = w1.alloc (.cells #[.int .i64 0, .int .i64 0, .int .i64 0, .int .i64 0, .int .i64 0, .int .i64 0, .bool false, .string ⟨#[]⟩, .string ⟨#[]⟩, .bool false, .string ⟨#[]⟩, .string ⟨#[]⟩, .slice none 0 0, .slice none 0 0, .slice none 0 0] 37) := ⟨_, rfl⟩
    obtain ⟨p, hp⟩ : ∃ p, p = w1.heap.size := ⟨_, rfl⟩
    have hb2 : Below w1.heap.size w1 w2 := by rw [hw2]; exact bel_alloc _ _
    have HB2 : Hid (Below w.heap.size w w2) := HB1.out.trans (hb2.mono HB1.out.size)
    have HR2 : Hid (RecS p 0 0 0 0 0 0 false ⟨#[]⟩ ⟨#[]⟩ false ⟨#[]⟩ ⟨#[]⟩ none 0 0 none 0 0 none 0 0 w2) := by rw [hw2, hp]; exact blk_new _ _
    have HW2 := Lib.hid hw2
    have HP := Lib.hid hp
    clear hn_ hs_ hb hb2 hw2 hp HB1 H1
    go_wp2_with fail
    rw [← HW2.out, ← HP.out]
    clear HW2 HP
    refine (H2.out _ HB2.out).mono ?_
    rintro e w3 ⟨hn_, hs_, hb⟩
    obtain rfl := hn_ HDB.out
    have HB3 : Hid (Below w.heap.size w w3) := HB2.out.trans (hb.mono HB2.out.size)
    have HR3 : Hid (RecS p 0 0 0 0 0 0 false ⟨#[]⟩ ⟨#[]⟩ false ⟨#[]⟩ ⟨#[]⟩ none 0 0 none 0 0 none 0 0 w3) := RecS.below 0 0 0 0 0 0 false ⟨#[]⟩ ⟨#[]⟩ false ⟨#[]⟩ ⟨#[]⟩ none 0 0 none 0 0 none 0 0 HR2.out hb
    obtain ⟨w4, hw4⟩ : ∃ W, W = w3.alloc (.cells #[.int .i64 0, .int .i64 0, .int .i64 0, .int .i64 0, .int .i64 0, .int .i64 0, .bool false, .string ⟨#[]⟩, .string ⟨#[]⟩, .bool false, .string ⟨#[]⟩, .string ⟨#[]⟩, .slice none 0 0, .slice none 0 0, .slice none 0 0] 37) := ⟨_, rfl⟩
    obtain ⟨q, hq⟩ : ∃ q, q = w3.heap.size := ⟨_, rfl⟩
    have hb4 : Below w3.heap.size w3 w4 := by rw [hw4]; exact bel_alloc _ _
    have HB4 : Hid (Below w.heap.size w w4) := HB3.out.trans (hb4.mono HB3.out.size)
    have HQ4 : Hid (RecS q 0 0 0 0 0 0 false ⟨#[]⟩ ⟨#[]⟩ false ⟨#[]⟩ ⟨#[]⟩ none 0 0 none 0 0 none 0 0 w4) := by rw [hw4, hq]; exact blk_new _ _
    have HR4 : Hid (RecS p 0 0 0 0 0 0 false ⟨#[]⟩ ⟨#[]⟩ false ⟨#[]⟩ ⟨#[]⟩ none 0 0 none 0 0 none 0 0 w4) := RecS.below 0 0 0 0 0 0 false ⟨#[]⟩ ⟨#[]⟩ false ⟨#[]⟩ ⟨#[]⟩ none 0 0 none 0 0 none 0 0 HR3.out hb4
    have HW4 := Lib.hid hw4
    have HQ := Lib.hid hq
    clear hn_ hs_ hb hb4 hw4 hq HB2 HB3 HR2 HR3 H2
    have hrc : (w3.alloc (.cells #[.int .i64 0, .int .i64 0, .int .i64 0, .int .i64 0, .int .i64 0, .int .i64 0, .bool false, .string ⟨#[]⟩, .string ⟨#[]⟩, .bool false, .string ⟨#[]⟩, .string ⟨#[]⟩, .slice none 0 0, .slice none 0 0, .slice none 0 0] 37)).rangeAt p 0 [.int .i64 0, .int .i64 0, .int .i64 0, .int .i64 0, .int .i64 0, .int .i64 0, .bool false, .string ⟨#[]⟩, .string ⟨#[]⟩, .bool false, .string ⟨#[]⟩, .string ⟨#[]⟩, .slice none 0 0, .slice none 0 0, .slice none 0 0] := by rw [← HW4.out]; exact fun j v hv => by rw [Nat.zero_add, cell_of_row w4 p j _ _ (0, 0) HR4.out, ← hv]; simp
    have hrd : (w3.alloc (.cells #[.int .i64 0, .int .i64 0, .int .i64 0, .int .i64 0, .int .i64 0, .int .i64 0, .bool false, .string ⟨#[]⟩, .string ⟨#[]⟩, .bool false, .string ⟨#[]⟩, .string ⟨#[]⟩, .slice none 0 0, .slice none 0 0, .slice none 0 0] 37)).rangeAt w3.heap.size 0 [.int .i64 0, .int .i64 0, .int .i64 0, .int .i64 0, .int .i64 0, .int .i64 0, .bool false, .string ⟨#[]⟩, .string ⟨#[]⟩, .bool false, .string ⟨#[]⟩, .string ⟨#[]⟩, .slice none 0 0, .slice none 0 0, .slice none 0 0] := by rw [← HW4.out, ← HQ.out]; exact fun j v hv => by rw [Nat.zero_add, cell_of_row w4 q j _ _ (0, 0) HQ4.out, ← hv]; simp
    go_wp2_with (first | (refine wpList_load_mid rfl 37 (.tmp 3) rfl p 0 rfl [.int .i64 0, .int .i64 0, .int .i64 0, .int .i64 0, .int .i64 0, .int .i64 0, .bool false, .string ⟨#[]⟩, .string ⟨#[]⟩, .bool false, .string ⟨#[]⟩, .string ⟨#[]⟩, .slice none 0 0, .slice none 0 0, .slice none 0 0] _ hrc Tryd.underlying37 rfl (by kernel_rfl) ?_) | (refine wpList_load_mid rfl 37 (.tmp 5) rfl w3.heap.size 0 rfl [.int .i64 0, .int .i64 0, .int .i64 0, .int .i64 0, .int .i64 0, .int .i64 0, .bool false, .string ⟨#[]⟩, .string ⟨#[]⟩, .bool false, .string ⟨#[]⟩, .string ⟨#[]⟩, .slice none 0 0, .slice none 0 0, .slice none 0 0] _ hrd Tryd.underlying37 rfl (by kernel_rfl) ?_))
    rw [← HW4.out, ← HQ.out]
    clear HW4 HQ
    clear hrc hrd HR4 HQ4
    refine (sameRecord_calls 0 0 0 0 0 0 false ⟨#[]⟩ ⟨#[]⟩ false ⟨#[]⟩ ⟨#[]⟩ none 0 0 none 0 0 none 0 0 none 0 none 0 none 0 [] [] [] w4 rfl rfl rfl Rd.nil Rd.nil Rd.nil Rd.nil Rd.nil Rd.nil (Nat.zero_le _) (Nat.zero_le _) (Nat.zero_le _)).mono ?_
    rintro e w5 ⟨rfl, hb⟩
    have HB5 : Hid (Below w.heap.size w w5) := HB4.out.trans (hb.mono HB4.out.size)
    clear hb HB4
    go_wp2_with fail
    go_ret
    exact ⟨rfl, HB5.out⟩
  · obtain ⟨⟨z1, z2, z3, z4, z5, z6, ⟨an, as_, ad_⟩, ⟨cn, cs, cd⟩, legs, opts⟩, pays⟩ := r
    have HF := Lib.hid (decBy_lens hdb)
    have HDB := Lib.hid hdb
    clear hdb
    go_enter Tryd.func17, Tryd.ntmps17
    go_wp2_with fail
    refine H1.out.mono ?_
    rintro e w1 ⟨hn_, hs_, hb⟩
    obtain ⟨A1, c1, A2, c2, A3, c3, rfl, s1, s2, s3⟩ := hs_ _ HDB.out
    dsimp only at s1 s2 s3 ⊢
    have HB1 : Hid (Below w.heap.size w w1) := hb
    obtain ⟨w2, hw2⟩ : ∃ W, W = w1.alloc (.cells #[.int .i64 z1, .int .i64 z2, .int .i64 z3, .int .i64 z4, .int .i64 z5, .int .i64 z6, .bool an, .string as_, .string ad_, .bool cn, .string cs, .string cd, .slice A1 legs.length c1, .slice A2 opts.length c2, .slice A3 pays.length c3] 37) := ⟨_, rfl⟩
    obtain ⟨p, hp⟩ : ∃ p, p = w1.heap.size := ⟨_, rfl⟩
    have hb2 : Below w1.heap.size w1 w2 := by rw [hw2]; exact bel_alloc _ _
    have HB2 : Hid (Below w.heap.size w w2) := HB1.out.trans (hb2.mono HB1.out.size)
    have HR2 : Hid (RecS p z1 z2 z3 z4 z5 z6 an as_ ad_ cn cs cd A1 legs.length c1 A2 opts.length c2 A3 pays.length c3 w2) := by rw [hw2, hp]; exact blk_new _ _
    have HS2 := Lib.hid (And.intro (s1.next hb2) (And.intro (s2.next hb2) (s3.next hb2)))
    have HW2 := Lib.hid hw2
    have HP := Lib.hid hp
    clear hn_ hs_ hb hb2 hw2 hp HB1 H1 s1 s2 s3
    go_wp2_with fail
    rw [← HW2.out, ← HP.out]
    clear HW2 HP
    refine (H2.out _ HB2.out).mono ?_
    rintro e w3 ⟨hn_, hs_, hb⟩
    obtain ⟨B1, e1, B2, e2, B3, e3, rfl, s1, s2, s3⟩ := hs_ _ HDB.out
    dsimp only at s1 s2 s3 ⊢
    have HB3 : Hid (Below w.heap.size w w3) := HB2.out.trans (hb.mono HB2.out.size)
    have HR3 : Hid (RecS p z1 z2 z3 z4 z5 z6 an as_ ad_ cn cs cd A1 legs.length c1 A2 opts.length c2 A3 pays.length c3 w3) := RecS.below z1 z2 z3 z4 z5 z6 an as_ ad_ cn cs cd A1 legs.length c1 A2 opts.length c2 A3 pays.length c3 HR2.out hb
    have HS3 := Lib.hid (And.intro (HS2.out.1.next hb) (And.intro (HS2.out.2.1.next hb) (HS2.out.2.2.next hb)))
    obtain ⟨w4, hw4⟩ : ∃ W, W = w3.alloc (.cells #[.int .i64 z1, .int .i64 z2, .int .i64 z3, .int .i64 z4, .int .i64 z5, .int .i64 z6, .bool an, .string as_, .string ad_, .bool cn, .string cs, .string cd, .slice B1 legs.length e1, .slice B2 opts.length e2, .slice B3 pays.length e3] 37) := ⟨_, rfl⟩
    obtain ⟨q, hq⟩ : ∃ q, q = w3.heap.size := ⟨_, rfl⟩
    have hb4 : Below w3.heap.size w3 w4 := by rw [hw4]; exact bel_alloc _ _
    have HB4 : Hid (Below w.heap.size w w4) := HB3.out.trans (hb4.mono HB3.out.size)
    have HQ4 : Hid (RecS q z1 z2 z3 z4 z5 z6 an as_ ad_ cn cs cd B1 legs.length e1 B2 opts.length e2 B3 pays.length e3 w4) := by rw [hw4, hq]; exact blk_new _ _
    have HR4 : Hid (RecS p z1 z2 z3 z4 z5 z6 an as_ ad_ cn cs cd A1 legs.length c1 A2 opts.length c2 A3 pays.length c3 w4) := RecS.below z1 z2 z3 z4 z5 z6 an as_ ad_ cn cs cd A1 legs.length c1 A2 opts.length c2 A3 pays.length c3 HR3.out hb4
    have HS4 := Lib.hid (And.intro (HS3.out.1.next hb4) (And.intro (HS3.out.2.1.next hb4) (HS3.out.2.2.next hb4)))
    have HT4 := Lib.hid (And.intro (s1.next hb4) (And.intro (s2.next hb4) (s3.next hb4)))
    have HW4 := Lib.hid hw4
    have HQ := Lib.hid hq
    clear hn_ hs_ hb hb4 hw4 hq HB2 HB3 HR2 HR3 H2 s1 s2 s3 HS2 HS3
    have hrc : (w3.alloc (.cells #[.int .i64 z1, .int .i64 z2, .int .i64 z3, .int .i64 z4, .int .i64 z5, .int .i64 z6, .bool an, .string as_, .string ad_, .bool cn, .string cs, .string cd, .slice B1 legs.length e1, .slice B2 opts.length e2, .slice B3 pays.length e3] 37)).rangeAt p 0 [.int .i64 z1, .int .i64 z2, .int .i64 z3, .int .i64 z4, .int .i64 z5, .int .i64 z6, .bool an, .string as_, .string ad_, .bool cn, .string cs, .string cd, .slice A1 legs.length c1, .slice A2 opts.length c2, .slice A3 pays.length c3] := by rw [← HW4.out]; exact fun j v hv => by rw [Nat.zero_add, cell_of_row w4 p j _ _ (0, 0) HR4.out, ← hv]; simp
    have hrd : (w3.alloc (.cells #[.int .i64 z1, .int .i64 z2, .int .i64 z3, .int .i64 z4, .int .i64 z5, .int .i64 z6, .bool an, .string as_, .string ad_, .bool cn, .string cs, .string cd, .slice B1 legs.length e1, .slice B2 opts.length e2, .slice B3 pays.length e3] 37)).rangeAt w3.heap.size 0 [.int .i64 z1, .int .i64 z2, .int .i64 z3, .int .i64 z4, .int .i64 z5, .int .i64 z6, .bool an, .string as_, .string ad_, .bool cn, .string cs, .string cd, .slice B1 legs.length e1, .slice B2 opts.length e2, .slice B3 pays.length e3] := by rw [← HW4.out, ← HQ.out]; exact fun j v hv => by rw [Nat.zero_add, cell_of_row w4 q j _ _ (0, 0) HQ4.out, ← hv]; simp
    go_wp2_with (first | (refine wpList_load_mid rfl 37 (.tmp 3) rfl p 0 rfl [.int .i64 z1, .int .i64 z2, .int .i64 z3, .int .i64 z4, .int .i64 z5, .int .i64 z6, .bool an, .string as_, .string ad_, .bool cn, .string cs, .string cd, .slice A1 legs.length c1, .slice A2 opts.length c2, .slice A3 pays.length c3] _ hrc Tryd.underlying37 rfl (by kernel_rfl) ?_) | (refine wpList_load_mid rfl 37 (.tmp 5) rfl w3.heap.size 0 rfl [.int .i64 z1, .int .i64 z2, .int .i64 z3, .int .i64 z4, .int .i64 z5, .int .i64 z6, .bool an, .string as_, .string ad_, .bool cn, .string cs, .string cd, .slice B1 legs.length e1, .slice B2 opts.length e2, .slice B3 pays.length e3] _ hrd Tryd.underlying37 rfl (by kernel_rfl) ?_))
    rw [← HW4.out, ← HQ.out]
    clear HW4 HQ
    clear hrc hrd HR4 HQ4
    have hf := HF.out
    refine (sameRecord_calls z1 z2 z3 z4 z5 z6 an as_ ad_ cn cs cd A1 _ c1 A2 _ c2 A3 _ c3 B1 e1 B2 e2 B3 e3 legs opts pays w4 rfl rfl rfl HS4.out.1 HS4.out.2.1 HS4.out.2.2 HT4.out.1 HT4.out.2.1 HT4.out.2.2 hf.1 hf.2.1 hf.2.2).mono ?_
    clear hf
    rintro e w5 ⟨rfl, hb⟩
    have HB5 : Hid (Below w.heap.size w w5) := HB4.out.trans (hb.mono HB4.out.size)
    clear hb HB4 HS4 HT4
    go_wp2_with fail
    go_ret
    exact ⟨rfl, HB5.out⟩

theorem byt_set {l : List Nat} (hb : Byt l) {k x : Nat} (hx : x < 256) : Byt (l.set k x) := by
  intro y hy
  rcases List.mem_or_eq_of_mem_set hy with h | h
  · exact hb y h
  · omega
theorem byt_append {a b : List Nat} (ha : Byt a) (hb : Byt b) : Byt (a ++ b) := fun x hx => (List.mem_append.1 hx).elim (ha x) (hb x)
theorem step_append_own {P : Program} {w : World} {ops : Array Oper} {o : Oper} {a : Act} {K : Act → World → Prop} {Q : Exit → Act → World → Prop} {E : Prop} (hgd : o.guard = none) (s x : Operand) (t : TypeId)
    (ho : o.op = .call { callee := .builtin .append, args := #[s, x], argTypes := #[t, t] })
    (base : Nat) (e : TypeId) (i : TypeInfo) (z : Value) (size bytes : Nat) (ht : P.underlying t = some (.slice e)) (hi : P.info? e = some i) (hz : i.zero = some z)
    (hsize : i.size = size) (hby : i.bytes = bytes) (hzs : z.cells.size = size) (hsz : 0 < size)
    (v : Value) (n : Nat) (xs : List Value) (hs : a.eval s = v) (hown : w.ownsRow base e size v n xs)
    (ad : Addr) (m c : Nat) (news : List Value) (hx : a.eval x = .slice (some ad) m c) (hl : news.length = m * size) (hnews : ∀ j u, news[j]? = some u → w.cell? (ad.add j) = some u) (h1 : ∀ u ∈ news, u.oneCell' = true)
    (h63 : n + m ≤ maxLen) (hbytes : (n + m) * bytes ≤ 140737488355328) (hbase : base ≤ w.heap.size)
    (h : ∀ v' w', w'.ownsRow base e size v' (n + m) (xs ++ news) → w.grownBy w' v.ownBlock → (v' = .slice none 0 0 ↔ v = .slice none 0 0 ∧ m = 0) → K (a.put o.dst v') w') :
    if Region.wanted o (yielded ops a.tmps) = true then Oper.wp P o a w K Q else E := by
  have hw : Region.wanted o (yielded ops a.tmps) = true := by simp [Region.wanted, hgd]
  rw [if_pos hw]
  exact wp_append_own w s x t ho base e i z size bytes ht hi hz hsize hby hzs hsz v n xs hs hown ad m c news hx hl hnews h1 h63 hbytes hbase h
/-- a row of bytes that is read, and another one that grows -/
structure CatS (w : World) (s0 g : Nat) (T : List Nat) (v : Value) (cnt : Nat) (xs : List Value) (W : World) : Prop where
  b : Below w.heap.size w W
  ws : w.heap.size ≤ s0
  sz : s0 ≤ W.heap.size
  gl : g < s0
  row : KRow .u8 5 W g T
  own : W.ownsRow s0 5 1 v cnt xs
def One (gc cc : Nat) (W : World) : Prop := W.heap[gc]? = some (.cells #[.int .u8 (cc : Int)] 5 (0, 0))
section
variable {w W W' : World} {s0 g cnt cnt' gc cc : Nat} {T : List Nat} {v v' : Value} {xs xs' : List Value}
theorem CatS.alloc (h : CatS w s0 g T v cnt xs W) (o : Obj) : CatS w s0 g T v cnt xs (W.alloc o) :=
  ⟨h.b.alloc h.b.size o, h.ws, Nat.le_trans h.sz (by simp), h.gl, h.row.alloc o, own_below h.own (bel_allocV W o)⟩
theorem CatS.new (h : CatS w s0 g T v cnt xs W) : CatS w s0 g T (.slice (some ⟨W.heap.size, 0, none⟩) 0 0) 0 [] (W.alloc (.cells #[] 5)) :=
  ⟨h.b.alloc h.b.size _, h.ws, Nat.le_trans h.sz (by simp), h.gl, h.row.alloc _, ⟨rfl, .inr ⟨W.heap.size, 0, #[], rfl, h.sz, heap_alloc_new _ _, Nat.le_refl _, by simp [maxLen], rfl, rfl⟩⟩⟩
theorem CatS.grow (h : CatS w s0 g T v cnt xs W) (hown : W'.ownsRow s0 5 1 v' cnt' xs') (hgr : W.grownBy W' v.ownBlock) : CatS w s0 g T v' cnt' xs' W' := by
  refine ⟨Below.grown h.b hgr h.b.size (fun q hq => Nat.le_trans h.ws (h.own.lt q hq).1), h.ws, Nat.le_trans h.sz hgr.size, h.gl, h.row.same (hgr.block g (Nat.lt_of_lt_of_le h.gl h.sz) (fun e => ?_)), hown⟩
  have := (h.own.lt g e.symm).1
  have := h.gl
  omega
theorem One.new (W : World) : One W.heap.size cc (W.alloc (.cells #[.int .u8 (cc : Int)] 5)) := blk_new _ _
theorem One.alloc (h : One gc cc W) (o : Obj) : One gc cc (W.alloc o) := blk_alloc h
theorem One.grow (h : One gc cc W) (hgr : W.grownBy W' v.ownBlock) (hne : some gc ≠ v.ownBlock) : One gc cc W' := (hgr.block gc (Array.getElem?_eq_some_iff.1 h).1 hne).trans h
theorem One.news (h : One gc cc W) : ∀ (j : Nat) (u : Value), (u8s [cc])[j]? = some u → W.cell? ((⟨gc, 0, none⟩ : Addr).add j) = some u := World.news_of_block h
theorem CatS.takeN (h : CatS w s0 g T v cnt xs W) (k : Nat) : ∀ (j : Nat) (u : Value), (u8s (T.take k))[j]? = some u → W.cell? ((⟨g, 0, none⟩ : Addr).add j) = some u := newsU (h.row.rd.take k)
theorem CatS.dropN (h : CatS w s0 g T v cnt xs W) (k : Nat) : ∀ (j : Nat) (u : Value), (u8s (T.drop k))[j]? = some u → W.cell? ((⟨g, k, none⟩ : Addr).add j) = some u := by
  have := h.row.rd.drop k
  rw [Nat.zero_add] at this
  exact newsU this
end
theorem own_form {W : World} {B n S : Nat} {v : Value} {xs : List Value} {E : TypeId} (h : W.ownsRow B E S v n xs) (hv : v ≠ .slice none 0 0) : ∃ g cap, v = .slice (some ⟨g, 0, none⟩) n cap ∧ B ≤ g := by
  rcases h.2 with ⟨h1, _⟩ | ⟨g, cap, cur, h1, h2, _⟩
  · exact absurd h1 hv
  · exact ⟨g, cap, h1, h2⟩

set_option maxHeartbeats 16000000 in
set_option maxRecDepth 100000 in
theorem codecDecodeLaw (A0 : Option Addr) (n0 c0 : Nat) (raw : List Nat) (a1 a2 a3 a4 a5 a6 : Int) (m1 m2 : Nat) (Al : Option Addr) (nl cl : Nat) (Ao : Option Addr) (no co : Nat) (Ap : Option Addr) (np cp : Nat) (at_ cc hw : Nat) (w : World)
    (en0 : n0 = raw.length) (r0 : KRd .u8 w w.heap.size A0 raw) (hb0 : Byt raw) (hnc0 : n0 ≤ c0 ∧ c0 ≤ maxLen)
    (hm1 : m1 ≤ 65535) (hm2 : m2 ≤ 65535) (b1 : i16b a1) (b2 : i16b a2) (b3 : i16b a3) (b4 : i16b a4) (b5 : i16b a5) (b6 : i16b a6)
    (ll : List (Int × Int)) (lo : List (Int × Int)) (lp : List W4) (enl : nl = ll.length) (eno : no = lo.length) (enp : np = lp.length) (gl : nl ≤ maxLen) (go_ : no ≤ maxLen) (gp : np ≤ maxLen)
    (rl : Rd w w.heap.size 2 Al ll.length (ll.flatMap i8V)) (ol : ∀ p ∈ ll, i8ok p) (ro : Rd w w.heap.size 2 Ao lo.length (lo.flatMap u16V)) (oo : ∀ p ∈ lo, u16ok p) (rp : Rd w w.heap.size 4 Ap lp.length (lp.flatMap i16V)) (op : ∀ p ∈ lp, i16ok p) (hat : at_ ≤ 65535) (hcc : cc ≤ 255) (hhw : hw ≤ 255) :
    Calls Tryd.prog 7 #[.slice A0 n0 c0, .agg #[.int .i16 a1, .int .i16 a2, .int .i16 a3, .int .i16 a4, .int .i16 a5, .int .i16 a6], .agg #[.int .u16 (m1 : Int), .int .u16 (m2 : Int)], .slice Al nl cl, .slice Ao no co, .slice Ap np cp, .int .u16 (at_ : Int), .int .u8 (cc : Int), .int .u8 (hw : Int)] w fun e w' => e = .returned (.bool true) ∧ Below w.heap.size w w' := by
  have HREC := Lib.hid (fun W (hW : Below w.heap.size w W) => record_calls a1 a2 a3 a4 a5 a6 m1 m2 Al nl cl Ao no co Ap np cp W hm1 hm2 b1 b2 b3 b4 b5 b6 ll lo lp enl eno enp gl go_ gp (rl.next hW) ol (ro.next hW) oo (rp.next hW) op)
  clear hm1 hm2 b1 b2 b3 b4 b5 b6 enl eno enp gl go_ gp rl ol ro oo rp op
  have HRAW := Lib.hid (fun W (hW : Below w.heap.size w W) => decoded_calls A0 n0 c0 raw W en0 (r0.next hW) hb0 hnc0.1 hnc0.2)
  obtain ⟨hm1, hm2⟩ := hnc0
  unfold maxLen at hm2
  clear en0 r0 hb0
  obtain ⟨w0, hw0⟩ : ∃ W, W = (w.alloc (.cells #[.int .i16 a1, .int .i16 a2, .int .i16 a3, .int .i16 a4, .int .i16 a5, .int .i16 a6] 39)).alloc (.cells #[.int .u16 (m1 : Int), .int .u16 (m2 : Int)] 40) := ⟨_, rfl⟩
  have HB0 : Hid (Below w.heap.size w w0) := by rw [hw0]; exact (bel_alloc _ _).alloc (by simp) _
  have HA0 : Hid (Arrs w.heap.size a1 a2 a3 a4 a5 a6 m1 m2 w0) := by rw [hw0]; exact arrs_new w a1 a2 a3 a4 a5 a6 m1 m2
  by_cases hbig : 200 < n0
  · have hd : decide ((200 : Int) < (n0 : Int)) = true := decide_eq_true (by omega)
    clear HREC HA0 HRAW
    go_enter Tryd.func7, Tryd.ntmps7
    go_upto_region 1 with fail
    rw [← hw0]
    clear hw0
    go_wp2_with fail
    refine (awake35_calls _).mono ?_
    rintro e w1 ⟨rfl, hb⟩
    have HB1 : Hid (Below w.heap.size w w1) := HB0.out.trans (hb.mono HB0.out.size)
    clear hb
    go_wp2_with fail
    go_ret
    exact ⟨rfl, HB1.out⟩
  · have hd : decide ((200 : Int) < (n0 : Int)) = false := decide_eq_false (by omega)
    go_enter Tryd.func7, Tryd.ntmps7
    go_upto_region 1 with fail
    rw [← hw0]
    clear hw0
    obtain ⟨k0, k1, k2, k3, k4, k5⟩ := HA0.out.1.cells
    obtain ⟨j0, j1⟩ := HA0.out.2.cells
    go_wp2_with fail
    clear k0 k1 k2 k3 k4 k5 j0 j1
    refine (HREC.out _ HB0.out).mono ?_
    rintro e w1 ⟨y1, y2, y3, y4, y5, y6, bn, bs_, bd_, dn, ds, dd, D1, p1, d1, D2, p2, d2, D3, p3, d3, legs2, opts2, pays2, rfl, hf, hsm, hb⟩
    obtain ⟨D, hD⟩ : ∃ D : RecD, D = (⟨y1, y2, y3, y4, y5, y6, ⟨bn, bs_, bd_⟩, ⟨dn, ds, dd⟩, legs2, opts2⟩, pays2) := ⟨_, rfl⟩
    obtain ⟨T, hT⟩ : ∃ T, T = recT D := ⟨_, rfl⟩
    have HOK : Hid (recOk D = true) := by rw [hD]; exact hsm.ok rfl
    have HE := refEncode_calls y1 y2 y3 y4 y5 y6 bn bs_ bd_ dn ds dd D1 p1 d1 D2 p2 d2 D3 p3 d3 legs2 opts2 pays2 w1 hf T (by rw [hT, hD]; rfl) true (by rw [hT]; have := HOK.out; rw [hD] at this ⊢; exact this.symm)
    rw [show recU true T = T from rfl, show recE true = 0 from rfl] at HE
    have HE1 := Lib.hid HE
    have HB1 : Hid (Below w.heap.size w w1) := HB0.out.trans (hb.mono HB0.out.size)
    obtain ⟨n, hn⟩ : ∃ n, n = T.length := ⟨_, rfl⟩
    have HT : Hid (T = recT D ∧ n = T.length) := ⟨hT, hn⟩
    have hnp : 0 < n := by rw [hn, hT]; exact recT_pos D
    have hn4 : n ≤ 4096 := by rw [hn, hT]; exact recOk_len HOK.out
    clear hsm hb HREC HE HB0 HA0 hT hn hf hD
    go_wp2_with fail
    refine HE1.out.mono ?_
    rintro e w2 ⟨Ab, cb, rfl, hk, hb, ho⟩
    rw [← HT.out.2] at ho ⊢
    have HB2 : Hid (Below w.heap.size w w2) := HB1.out.trans (hb.mono HB1.out.size)
    obtain ⟨hc1, hc2⟩ := own_cap ho
    obtain ⟨g, cap, he, hge, hgl⟩ := ho.form hnp
    simp only [Value.slice.injEq, true_and] at he
    obtain ⟨rfl, rfl⟩ := he
    have hrow : KRow .u8 5 w2 g T := KRow.of_own ho
    have HBZ : Hid (Byt T) := by rw [HT.out.1]; exact recT_byt D
    have HROW := Lib.hid hrow
    have hwg : w.heap.size ≤ g := Nat.le_trans HB1.out.size hge
    have hk0 : (at_ : Int) % (n : Int) = ((at_ % n : Nat) : Int) := rfl
    obtain ⟨k, hk'⟩ : ∃ k, k = at_ % n := ⟨_, rfl⟩
    rw [← hk'] at hk0
    have hkn : k < n := by rw [hk']; exact Nat.mod_lt _ hnp
    have hd1 : decide ((0 : Int) < (n : Int)) = true := decide_eq_true (by omega)
    have HNT : Hid (n = T.length) := HT.out.2
    have HC2 := Lib.hid hc2
    unfold maxLen at hc2
    clear hk hb ho HE1 HB1 hk' hrow HT HOK hd
    have h5 : hw % 5 = 0 ∨ hw % 5 = 1 ∨ hw % 5 = 2 ∨ hw % 5 = 3 ∨ hw % 5 = 4 := by omega
    rcases h5 with h5 | h5 | h5 | h5 | h5
    · have h5' : (hw : Int) % 5 = 0 := by omega
      clear h5
      have hc := HROW.out.getD (j := k) (by rw [← HNT.out]; exact hkn)
      have hfr := HROW.out.frozen k
      have hsz := HROW.out.lt
      have HB4 : Hid (Below w.heap.size w (w2.setCell ⟨g, k, none⟩ (.int .u8 (cc : Int)))) := HB2.out.setCell hwg _
      have HK4 : Hid (KRow .u8 5 (w2.setCell ⟨g, k, none⟩ (.int .u8 (cc : Int))) g (T.set k cc)) := HROW.out.set_ k cc
      clear HROW HB2
      go_wp2_with fail
      clear hc hfr hsz
      refine (awake35_calls _).mono ?_
      rintro e wt ⟨rfl, hb⟩
      have HBt : Hid (Below w.heap.size w wt) := HB4.out.trans (hb.mono HB4.out.size)
      have HKt := Lib.hid (HK4.out.rd.next hb)
      clear hb
      go_wp2_with fail
      refine (HRAW.out _ HBt.out).mono ?_
      rintro e wu ⟨rfl, hb⟩
      have HBu : Hid (Below w.heap.size w wu) := HBt.out.trans (hb.mono HBt.out.size)
      have HKu := Lib.hid (HKt.out.next hb)
      clear hb HBt HKt
      go_wp2_with fail
      refine (decoded_calls (some ⟨g, 0, none⟩) n cb (T.set k cc) wu (by rw [List.length_set]; exact HNT.out) HKu.out (byt_set HBZ.out (by omega)) hc1 HC2.out).mono ?_
      rintro e wv ⟨rfl, hb⟩
      have HBv : Hid (Below w.heap.size w wv) := HBu.out.trans (hb.mono HBu.out.size)
      clear hb HBu HKu
      go_wp2_with fail
      go_ret
      exact ⟨rfl, HBv.out⟩
    · have h5' : (hw : Int) % 5 = 1 := by omega
      clear h5
      have hc := HROW.out.getD (j := k) (by rw [← HNT.out]; exact hkn)
      have hfr := HROW.out.frozen k
      have hsz := HROW.out.lt
      obtain ⟨x, hx⟩ : ∃ x, x = T.getD k 0 := ⟨_, rfl⟩
      rw [← hx] at hc
      have hxl : x < 256 := by rw [hx]; exact byt_getD HBZ.out k
      obtain ⟨xe, _, xl⟩ := xor_ne (b := 128) hxl (by omega) (by decide)
      obtain ⟨z, hz⟩ : ∃ z, z = x ^^^ 128 := ⟨_, rfl⟩
      rw [← hz] at xe xl
      have xe' : bits .xor .u8 (x : Int) 128 = (z : Int) := xe
      clear hx hz xe
      have HB4 : Hid (Below w.heap.size w (w2.setCell ⟨g, k, none⟩ (.int .u8 (z : Int)))) := HB2.out.setCell hwg _
      have HK4 : Hid (KRow .u8 5 (w2.setCell ⟨g, k, none⟩ (.int .u8 (z : Int))) g (T.set k z)) := HROW.out.set_ k z
      clear HROW HB2
      go_wp2_with fail
      clear hc hfr hsz xe'
      refine (awake35_calls _).mono ?_
      rintro e wt ⟨rfl, hb⟩
      have HBt : Hid (Below w.heap.size w wt) := HB4.out.trans (hb.mono HB4.out.size)
      have HKt := Lib.hid (HK4.out.rd.next hb)
      clear hb
      go_wp2_with fail
      refine (HRAW.out _ HBt.out).mono ?_
      rintro e wu ⟨rfl, hb⟩
      have HBu : Hid (Below w.heap.size w wu) := HBt.out.trans (hb.mono HBt.out.size)
      have HKu := Lib.hid (HKt.out.next hb)
      clear hb HBt HKt
      go_wp2_with fail
      refine (decoded_calls (some ⟨g, 0, none⟩) n cb (T.set k z) wu (by rw [List.length_set]; exact HNT.out) HKu.out (byt_set HBZ.out xl) hc1 HC2.out).mono ?_
      rintro e wv ⟨rfl, hb⟩
      have HBv : Hid (Below w.heap.size w wv) := HBu.out.trans (hb.mono HBu.out.size)
      clear hb HBu HKu
      go_wp2_with fail
      go_ret
      exact ⟨rfl, HBv.out⟩
    · have hbyt : ∀ x, x ∈ T.take k ++ [cc] ++ T.drop k → x < 256 := fun x hx => by
        simp only [List.mem_append, List.mem_cons, List.not_mem_nil, or_false] at hx
        rcases hx with (h | rfl) | h
        · exact HBZ.out x (List.mem_of_mem_take h)
        · omega
        · exact HBZ.out x (List.mem_of_mem_drop h)
      have hlt : (u8s (T.take k)).length = k * 1 := by rw [u8s_len, List.length_take, ← HNT.out]; omega
      have hld : (u8s (T.drop k)).length = (n - k) * 1 := by rw [u8s_len, List.length_drop, ← HNT.out, Nat.mul_one]
      have HLT := Lib.hid hlt
      have HLD := Lib.hid hld
      clear hlt hld
      have h5' : (hw : Int) % 5 = 2 := by omega
      clear h5
      have hs0 : g < w2.heap.size := HROW.out.lt
      have hkc : (k : Int) ≤ (cb : Int) := by omega
      have hkc2 : (k : Int) + 1 ≤ (cb : Int) := by omega
      have hkn2 : (k : Int) ≤ (n : Int) := by omega
      have hkn3 : (k : Int) + 1 ≤ (n : Int) := by omega
      have hcbk : ¬ cb = k := by omega
      have hk10 : (0 : Int) ≤ (k : Int) + 1 := by omega
      have hkw : IntKind.i64.wrap ((k : Int) + 1) = (k : Int) + 1 := IntWalk.i64_in _ (by omega)
      obtain ⟨i0, hi, hz0', hz1, hz2⟩ := info_parts Tryd.info_u8
      have HI0 : Hid (Tryd.prog.info? 5 = some i0 ∧ i0.zero = some (.int .u8 0) ∧ i0.size = 1 ∧ i0.bytes = 1) := ⟨hi, hz0', hz1, hz2⟩
      clear hi hz0' hz1 hz2
      go_wp2_with fail
      obtain ⟨W0, hW0⟩ : ∃ W0, W0 = w2.drew := ⟨_, rfl⟩
      have HC0 : Hid (CatS w W0.heap.size g T (.slice none 0 0) 0 [] W0) := by rw [hW0]; exact ⟨HB2.out.drew, HB2.out.size, Nat.le_refl _, hs0, HROW.out, World.ownsRow_nil _ _ _ _⟩
      obtain ⟨s0, hs0e⟩ : ∃ s, s = W0.heap.size := ⟨_, rfl⟩
      rw [← hs0e] at HC0
      have hS : (fun _ : World => True) W0 := trivial
      refine wp_region_held_drew (S := fun _ => True) (by kernel_rfl) trivial ?_
      rw [← hW0]
      intro _
      have HS0 := Lib.hid hs0e
      clear hW0 HROW HB2 hs0 hs0e
      refine wpAnyH_take (i := 1) rfl (by kernel_rfl) (by kernel_rfl) (by kernel_rfl) (fun _ _ _ h => h) (Or.inl ⟨by kernel_rfl, (by intro w' _; go_simp; with_reducible rfl)⟩) hS ?_
      go_simp
      refine wpAnyH_take (i := 2) rfl (by kernel_rfl) (by kernel_rfl) (by kernel_rfl) (fun _ _ _ h => h) (Or.inl ⟨by kernel_rfl, (by intro w' _; go_simp; with_reducible rfl)⟩) hS ?_
      go_simp
      refine wpAnyH_take (i := 3) (v := .slice (some ⟨g, 0, none⟩) k cb) rfl (by kernel_rfl) (by kernel_rfl) (by kernel_rfl) (fun _ _ _ h => h) (Or.inl ⟨by kernel_rfl, (by intro w' _; go_simp)⟩) hS ?_
      go_simp
      refine wpAnyH_take (i := 5) rfl (by kernel_rfl) (by kernel_rfl) (by kernel_rfl) (fun _ _ _ h => h) (Or.inl ⟨by kernel_rfl, (by intro w' _; go_simp; with_reducible rfl)⟩) hS ?_
      go_simp
      refine wpAnyH_take (i := 8) rfl (by kernel_rfl) (by kernel_rfl) (by kernel_rfl) (fun _ _ _ h => h) (Or.inl ⟨by kernel_rfl, (by intro w' _; go_simp; with_reducible rfl)⟩) hS ?_
      go_simp
      refine wpAnyH_take (i := 9) rfl (by kernel_rfl) (by kernel_rfl) (by kernel_rfl) (fun _ _ _ h => h) (Or.inl ⟨by kernel_rfl, (by intro w' _; go_simp; with_reducible rfl)⟩) hS ?_
      go_simp
      refine wpAnyH_take (i := 10) (v := .slice (some ⟨g, k, none⟩) (n - k) (cb - k)) rfl (by kernel_rfl) (by kernel_rfl) (by kernel_rfl) (fun _ _ _ h => h) (Or.inl ⟨by kernel_rfl, (by intro w' _; go_simp)⟩) hS ?_
      go_simp
      refine wpAnyH_ready (rs := [0, 6]) (by kernel_rfl) (by simp) ?_
      refine AllReadyH.cons rfl (fun K hK => ?_) (AllReadyH.cons rfl (fun K hK => ?_) AllReadyH.nil)
      · go_simp
        have HC_0 := Lib.hid HC0.out.new
        refine hK.out _ _ trivial (fun _ => ?_)
        clear hK K
        refine wpAnyH_ready (rs := [4, 6]) (by kernel_rfl) (by simp) ?_
        refine AllReadyH.cons rfl (fun K hK => ?_) (AllReadyH.cons rfl (fun K hK => ?_) AllReadyH.nil)
        · refine step_append_own rfl (.tmp 64) (.tmp 67) 22 rfl s0 5 i0 (.int .u8 0) 1 1 Tryd.underlying22 HI0.out.1 HI0.out.2.1 HI0.out.2.2.1 HI0.out.2.2.2 rfl (by decide) (.slice (some ⟨W0.heap.size, 0, none⟩) 0 0) 0 [] (by simp [Act.eval, Act.put]) HC_0.out.own ⟨g, 0, none⟩ k cb (u8s (T.take k)) (by simp [Act.eval, Act.put]) HLT.out (HC_0.out.takeN k) (u8_one _) (by simp only [maxLen]; omega) (by omega) HC_0.out.sz ?_
          intro v_0_4 wg_0_4 hown hgr hnil
          have HC_0_4 := Lib.hid (CatS.grow HC_0.out hown hgr)
          have hnn_0_4 : v_0_4 ≠ .slice none 0 0 := fun e => by have h := (hnil.1 e).1; simp at h
          refine hK.out _ _ trivial (fun _ => ?_)
          clear hK K hown hgr hnil
          refine wpAnyH_ready (rs := [6]) (by kernel_rfl) (by simp) ?_
          refine AllReadyH.cons rfl (fun K hK => ?_) AllReadyH.nil
          go_simp
          have HC_0_4_6 := Lib.hid (CatS.alloc HC_0_4.out (.cells #[.int .u8 (cc : Int)] 5))
          have HO_0_4_6 : Hid (One wg_0_4.heap.size cc (wg_0_4.alloc (.cells #[.int .u8 (cc : Int)] 5))) := One.new _
          refine hK.out _ _ trivial (fun _ => ?_)
          clear hK K
          refine wpAnyH_ready (rs := [7]) (by kernel_rfl) (by simp) ?_
          refine AllReadyH.cons rfl (fun K hK => ?_) AllReadyH.nil
          refine step_append_own rfl (.tmp 68) (.tmp 70) 22 rfl s0 5 i0 (.int .u8 0) 1 1 Tryd.underlying22 HI0.out.1 HI0.out.2.1 HI0.out.2.2.1 HI0.out.2.2.2 rfl (by decide) (v_0_4) (0 + k) ([] ++ (u8s (T.take k))) (by simp [Act.eval, Act.put]) HC_0_4_6.out.own ⟨wg_0_4.heap.size, 0, none⟩ 1 1 (u8s [cc]) (by simp [Act.eval, Act.put]) rfl HO_0_4_6.out.news (u8_one _) (by simp only [maxLen]; omega) (by omega) HC_0_4_6.out.sz ?_
          intro v_0_4_6_7 wg_0_4_6_7 hown hgr hnil
          have HC_0_4_6_7 := Lib.hid (CatS.grow HC_0_4_6.out hown hgr)
          have hnn_0_4_6_7 : v_0_4_6_7 ≠ .slice none 0 0 := fun e => hnn_0_4 (hnil.1 e).1
          refine hK.out _ _ trivial (fun _ => ?_)
          clear hK K hown hgr hnil
          refine wpAnyH_ready (rs := [11]) (by kernel_rfl) (by simp) ?_
          refine AllReadyH.cons rfl (fun K hK => ?_) AllReadyH.nil
          refine step_append_own rfl (.tmp 71) (.tmp 74) 22 rfl s0 5 i0 (.int .u8 0) 1 1 Tryd.underlying22 HI0.out.1 HI0.out.2.1 HI0.out.2.2.1 HI0.out.2.2.2 rfl (by decide) (v_0_4_6_7) ((0 + k) + 1) (([] ++ (u8s (T.take k))) ++ (u8s [cc])) (by simp [Act.eval, Act.put]) HC_0_4_6_7.out.own ⟨g, k, none⟩ (n - k) (cb - k) (u8s (T.drop k)) (by simp [Act.eval, Act.put]) HLD.out (HC_0_4_6_7.out.dropN k) (u8_one _) (by simp only [maxLen]; omega) (by omega) HC_0_4_6_7.out.sz ?_
          intro v_0_4_6_7_11 wg_0_4_6_7_11 hown hgr hnil
          have HC_0_4_6_7_11 := Lib.hid (CatS.grow HC_0_4_6_7.out hown hgr)
          have HNV := Lib.hid hnil
          have hnn_0_4_6_7_11 : v_0_4_6_7_11 ≠ .slice none 0 0 := fun e => hnn_0_4_6_7 (hnil.1 e).1
          refine hK.out _ _ trivial (fun _ => ?_)
          clear hK K hown hgr hnil
          refine wpAnyH_take (i := 12) rfl (by kernel_rfl) (by kernel_rfl) (by kernel_rfl) (fun _ _ _ h => h) (Or.inl ⟨by kernel_rfl, (by intro w' _; go_simp; with_reducible rfl)⟩) hS ?_
          go_simp
          refine wpAnyH_done (by kernel_rfl) ?_ _
          clear hS HS0
          obtain ⟨g2, cap2, he2, _⟩ := own_form HC_0_4_6_7_11.out.own hnn_0_4_6_7_11
          subst he2
          have hq2 := own_cap HC_0_4_6_7_11.out.own
          have HQ2 := Lib.hid hq2
          have HB4 : Hid (Below w.heap.size w wg_0_4_6_7_11) := HC_0_4_6_7_11.out.b
          have HK4 : Hid (KRd .u8 wg_0_4_6_7_11 wg_0_4_6_7_11.heap.size (some ⟨g2, 0, none⟩) (T.take k ++ [cc] ++ T.drop k)) := KRd.of_own (xs := T.take k ++ [cc] ++ T.drop k) (by have h := HC_0_4_6_7_11.out.own; simp only [List.nil_append, ← u8s_append] at h; exact h)
          have hT2 : Byt (T.take k ++ [cc] ++ T.drop k) := hbyt
          have HT2 := Lib.hid hT2
          clear hq2 hT2 HC_0_4_6_7_11 
          go_wp2_with fail
          refine (awake35_calls _).mono ?_
          rintro e wt ⟨rfl, hb⟩
          have HBt : Hid (Below w.heap.size w wt) := HB4.out.trans (hb.mono HB4.out.size)
          have HKt := Lib.hid (HK4.out.next hb)
          clear hb
          go_wp2_with fail
          refine (HRAW.out _ HBt.out).mono ?_
          rintro e wu ⟨rfl, hb⟩
          have HBu : Hid (Below w.heap.size w wu) := HBt.out.trans (hb.mono HBt.out.size)
          have HKu := Lib.hid (HKt.out.next hb)
          clear hb HBt HKt
          go_wp2_with fail
          refine (decoded_calls (some ⟨g2, 0, none⟩) (k + 1 + (n - k)) cap2 (T.take k ++ [cc] ++ T.drop k) wu (by simp only [List.length_append, List.length_take, List.length_drop, List.length_cons, List.length_nil, ← HNT.out]; omega) HKu.out HT2.out (by have := HQ2.out.1; omega) HQ2.out.2).mono ?_
          rintro e wv ⟨rfl, hb⟩
          have HBv : Hid (Below w.heap.size w wv) := HBu.out.trans (hb.mono HBu.out.size)
          clear hb HBu HKu
          go_wp2_with fail
          go_ret
          exact ⟨rfl, HBv.out⟩
        · go_simp
          have HC_0_6 := Lib.hid (CatS.alloc HC_0.out (.cells #[.int .u8 (cc : Int)] 5))
          have HO_0_6 : Hid (One (W0.alloc (.cells #[] 5)).heap.size cc ((W0.alloc (.cells #[] 5)).alloc (.cells #[.int .u8 (cc : Int)] 5))) := One.new _
          refine hK.out _ _ trivial (fun _ => ?_)
          clear hK K
          refine wpAnyH_ready (rs := [4]) (by kernel_rfl) (by simp) ?_
          refine AllReadyH.cons rfl (fun K hK => ?_) AllReadyH.nil
          refine step_append_own rfl (.tmp 64) (.tmp 67) 22 rfl s0 5 i0 (.int .u8 0) 1 1 Tryd.underlying22 HI0.out.1 HI0.out.2.1 HI0.out.2.2.1 HI0.out.2.2.2 rfl (by decide) (.slice (some ⟨W0.heap.size, 0, none⟩) 0 0) 0 [] (by simp [Act.eval, Act.put]) HC_0_6.out.own ⟨g, 0, none⟩ k cb (u8s (T.take k)) (by simp [Act.eval, Act.put]) HLT.out (HC_0_6.out.takeN k) (u8_one _) (by simp only [maxLen]; omega) (by omega) HC_0_6.out.sz ?_
          intro v_0_6_4 wg_0_6_4 hown hgr hnil
          have HC_0_6_4 := Lib.hid (CatS.grow HC_0_6.out hown hgr)
          have HO_0_6_4 := Lib.hid (One.grow HO_0_6.out hgr (by simp [Value.ownBlock]))
          have hnn_0_6_4 : v_0_6_4 ≠ .slice none 0 0 := fun e => by have h := (hnil.1 e).1; simp at h
          refine hK.out _ _ trivial (fun _ => ?_)
          clear hK K hown hgr hnil
          refine wpAnyH_ready (rs := [7]) (by kernel_rfl) (by simp) ?_
          refine AllReadyH.cons rfl (fun K hK => ?_) AllReadyH.nil
          refine step_append_own rfl (.tmp 68) (.tmp 70) 22 rfl s0 5 i0 (.int .u8 0) 1 1 Tryd.underlying22 HI0.out.1 HI0.out.2.1 HI0.out.2.2.1 HI0.out.2.2.2 rfl (by decide) (v_0_6_4) (0 + k) ([] ++ (u8s (T.take k))) (by simp [Act.eval, Act.put]) HC_0_6_4.out.own ⟨(W0.alloc (.cells #[] 5)).heap.size, 0, none⟩ 1 1 (u8s [cc]) (by simp [Act.eval, Act.put]) rfl HO_0_6_4.out.news (u8_one _) (by simp only [maxLen]; omega) (by omega) HC_0_6_4.out.sz ?_
          intro v_0_6_4_7 wg_0_6_4_7 hown hgr hnil
          have HC_0_6_4_7 := Lib.hid (CatS.grow HC_0_6_4.out hown hgr)
          have hnn_0_6_4_7 : v_0_6_4_7 ≠ .slice none 0 0 := fun e => hnn_0_6_4 (hnil.1 e).1
          refine hK.out _ _ trivial (fun _ => ?_)
          clear hK K hown hgr hnil
          refine wpAnyH_ready (rs := [11]) (by kernel_rfl) (by simp) ?_
          refine AllReadyH.cons rfl (fun K hK => ?_) AllReadyH.nil
          refine step_append_own rfl (.tmp 71) (.tmp 74) 22 rfl s0 5 i0 (.int .u8 0) 1 1 Tryd.underlying22 HI0.out.1 HI0.out.2.1 HI0.out.2.2.1 HI0.out.2.2.2 rfl (by decide) (v_0_6_4_7) ((0 + k) + 1) (([] ++ (u8s (T.take k))) ++ (u8s [cc])) (by simp [Act.eval, Act.put]) HC_0_6_4_7.out.own ⟨g, k, none⟩ (n - k) (cb - k) (u8s (T.drop k)) (by simp [Act.eval, Act.put]) HLD.out (HC_0_6_4_7.out.dropN k) (u8_one _) (by simp only [maxLen]; omega) (by omega) HC_0_6_4_7.out.sz ?_
          intro v_0_6_4_7_11 wg_0_6_4_7_11 hown hgr hnil
          have HC_0_6_4_7_11 := Lib.hid (CatS.grow HC_0_6_4_7.out hown hgr)
          have HNV := Lib.hid hnil
          have hnn_0_6_4_7_11 : v_0_6_4_7_11 ≠ .slice none 0 0 := fun e => hnn_0_6_4_7 (hnil.1 e).1
          refine hK.out _ _ trivial (fun _ => ?_)
          clear hK K hown hgr hnil
          refine wpAnyH_take (i := 12) rfl (by kernel_rfl) (by kernel_rfl) (by kernel_rfl) (fun _ _ _ h => h) (Or.inl ⟨by kernel_rfl, (by intro w' _; go_simp; with_reducible rfl)⟩) hS ?_
          go_simp
          refine wpAnyH_done (by kernel_rfl) ?_ _
          clear hS HS0
          obtain ⟨g2, cap2, he2, _⟩ := own_form HC_0_6_4_7_11.out.own hnn_0_6_4_7_11
          subst he2
          have hq2 := own_cap HC_0_6_4_7_11.out.own
          have HQ2 := Lib.hid hq2
          have HB4 : Hid (Below w.heap.size w wg_0_6_4_7_11) := HC_0_6_4_7_11.out.b
          have HK4 : Hid (KRd .u8 wg_0_6_4_7_11 wg_0_6_4_7_11.heap.size (some ⟨g2, 0, none⟩) (T.take k ++ [cc] ++ T.drop k)) := KRd.of_own (xs := T.take k ++ [cc] ++ T.drop k) (by have h := HC_0_6_4_7_11.out.own; simp only [List.nil_append, ← u8s_append] at h; exact h)
          have hT2 : Byt (T.take k ++ [cc] ++ T.drop k) := hbyt
          have HT2 := Lib.hid hT2
          clear hq2 hT2 HC_0_6_4_7_11 
          go_wp2_with fail
          refine (awake35_calls _).mono ?_
          rintro e wt ⟨rfl, hb⟩
          have HBt : Hid (Below w.heap.size w wt) := HB4.out.trans (hb.mono HB4.out.size)
          have HKt := Lib.hid (HK4.out.next hb)
          clear hb
          go_wp2_with fail
          refine (HRAW.out _ HBt.out).mono ?_
          rintro e wu ⟨rfl, hb⟩
          have HBu : Hid (Below w.heap.size w wu) := HBt.out.trans (hb.mono HBt.out.size)
          have HKu := Lib.hid (HKt.out.next hb)
          clear hb HBt HKt
          go_wp2_with fail
          refine (decoded_calls (some ⟨g2, 0, none⟩) (k + 1 + (n - k)) cap2 (T.take k ++ [cc] ++ T.drop k) wu (by simp only [List.length_append, List.length_take, List.length_drop, List.length_cons, List.length_nil, ← HNT.out]; omega) HKu.out HT2.out (by have := HQ2.out.1; omega) HQ2.out.2).mono ?_
          rintro e wv ⟨rfl, hb⟩
          have HBv : Hid (Below w.heap.size w wv) := HBu.out.trans (hb.mono HBu.out.size)
          clear hb HBu HKu
          go_wp2_with fail
          go_ret
          exact ⟨rfl, HBv.out⟩
      · go_simp
        have HC_6 := Lib.hid (CatS.alloc HC0.out (.cells #[.int .u8 (cc : Int)] 5))
        have HO_6 : Hid (One W0.heap.size cc (W0.alloc (.cells #[.int .u8 (cc : Int)] 5))) := One.new _
        refine hK.out _ _ trivial (fun _ => ?_)
        clear hK K
        refine wpAnyH_ready (rs := [0]) (by kernel_rfl) (by simp) ?_
        refine AllReadyH.cons rfl (fun K hK => ?_) AllReadyH.nil
        go_simp
        have HC_6_0 := Lib.hid HC_6.out.new
        have HO_6_0 := Lib.hid (One.alloc HO_6.out (.cells #[] 5))
        refine hK.out _ _ trivial (fun _ => ?_)
        clear hK K
        refine wpAnyH_ready (rs := [4]) (by kernel_rfl) (by simp) ?_
        refine AllReadyH.cons rfl (fun K hK => ?_) AllReadyH.nil
        refine step_append_own rfl (.tmp 64) (.tmp 67) 22 rfl s0 5 i0 (.int .u8 0) 1 1 Tryd.underlying22 HI0.out.1 HI0.out.2.1 HI0.out.2.2.1 HI0.out.2.2.2 rfl (by decide) (.slice (some ⟨(W0.alloc (.cells #[.int .u8 (cc : Int)] 5)).heap.size, 0, none⟩) 0 0) 0 [] (by simp [Act.eval, Act.put]) HC_6_0.out.own ⟨g, 0, none⟩ k cb (u8s (T.take k)) (by simp [Act.eval, Act.put]) HLT.out (HC_6_0.out.takeN k) (u8_one _) (by simp only [maxLen]; omega) (by omega) HC_6_0.out.sz ?_
        intro v_6_0_4 wg_6_0_4 hown hgr hnil
        have HC_6_0_4 := Lib.hid (CatS.grow HC_6_0.out hown hgr)
        have HO_6_0_4 := Lib.hid (One.grow HO_6_0.out hgr (by simp [Value.ownBlock]))
        have hnn_6_0_4 : v_6_0_4 ≠ .slice none 0 0 := fun e => by have h := (hnil.1 e).1; simp at h
        refine hK.out _ _ trivial (fun _ => ?_)
        clear hK K hown hgr hnil
        refine wpAnyH_ready (rs := [7]) (by kernel_rfl) (by simp) ?_
        refine AllReadyH.cons rfl (fun K hK => ?_) AllReadyH.nil
        refine step_append_own rfl (.tmp 68) (.tmp 70) 22 rfl s0 5 i0 (.int .u8 0) 1 1 Tryd.underlying22 HI0.out.1 HI0.out.2.1 HI0.out.2.2.1 HI0.out.2.2.2 rfl (by decide) (v_6_0_4) (0 + k) ([] ++ (u8s (T.take k))) (by simp [Act.eval, Act.put]) HC_6_0_4.out.own ⟨W0.heap.size, 0, none⟩ 1 1 (u8s [cc]) (by simp [Act.eval, Act.put]) rfl HO_6_0_4.out.news (u8_one _) (by simp only [maxLen]; omega) (by omega) HC_6_0_4.out.sz ?_
        intro v_6_0_4_7 wg_6_0_4_7 hown hgr hnil
        have HC_6_0_4_7 := Lib.hid (CatS.grow HC_6_0_4.out hown hgr)
        have hnn_6_0_4_7 : v_6_0_4_7 ≠ .slice none 0 0 := fun e => hnn_6_0_4 (hnil.1 e).1
        refine hK.out _ _ trivial (fun _ => ?_)
        clear hK K hown hgr hnil
        refine wpAnyH_ready (rs := [11]) (by kernel_rfl) (by simp) ?_
        refine AllReadyH.cons rfl (fun K hK => ?_) AllReadyH.nil
        refine step_append_own rfl (.tmp 71) (.tmp 74) 22 rfl s0 5 i0 (.int .u8 0) 1 1 Tryd.underlying22 HI0.out.1 HI0.out.2.1 HI0.out.2.2.1 HI0.out.2.2.2 rfl (by decide) (v_6_0_4_7) ((0 + k) + 1) (([] ++ (u8s (T.take k))) ++ (u8s [cc])) (by simp [Act.eval, Act.put]) HC_6_0_4_7.out.own ⟨g, k, none⟩ (n - k) (cb - k) (u8s (T.drop k)) (by simp [Act.eval, Act.put]) HLD.out (HC_6_0_4_7.out.dropN k) (u8_one _) (by simp only [maxLen]; omega) (by omega) HC_6_0_4_7.out.sz ?_
        intro v_6_0_4_7_11 wg_6_0_4_7_11 hown hgr hnil
        have HC_6_0_4_7_11 := Lib.hid (CatS.grow HC_6_0_4_7.out hown hgr)
        have HNV := Lib.hid hnil
        have hnn_6_0_4_7_11 : v_6_0_4_7_11 ≠ .slice none 0 0 := fun e => hnn_6_0_4_7 (hnil.1 e).1
        refine hK.out _ _ trivial (fun _ => ?_)
        clear hK K hown hgr hnil
        refine wpAnyH_take (i := 12) rfl (by kernel_rfl) (by kernel_rfl) (by kernel_rfl) (fun _ _ _ h => h) (Or.inl ⟨by kernel_rfl, (by intro w' _; go_simp; with_reducible rfl)⟩) hS ?_
        go_simp
        refine wpAnyH_done (by kernel_rfl) ?_ _
        clear hS HS0
        obtain ⟨g2, cap2, he2, _⟩ := own_form HC_6_0_4_7_11.out.own hnn_6_0_4_7_11
        subst he2
        have hq2 := own_cap HC_6_0_4_7_11.out.own
        have HQ2 := Lib.hid hq2
        have HB4 : Hid (Below w.heap.size w wg_6_0_4_7_11) := HC_6_0_4_7_11.out.b
        have HK4 : Hid (KRd .u8 wg_6_0_4_7_11 wg_6_0_4_7_11.heap.size (some ⟨g2, 0, none⟩) (T.take k ++ [cc] ++ T.drop k)) := KRd.of_own (xs := T.take k ++ [cc] ++ T.drop k) (by have h := HC_6_0_4_7_11.out.own; simp only [List.nil_append, ← u8s_append] at h; exact h)
        have hT2 : Byt (T.take k ++ [cc] ++ T.drop k) := hbyt
        have HT2 := Lib.hid hT2
        clear hq2 hT2 HC_6_0_4_7_11 
        go_wp2_with fail
        refine (awake35_calls _).mono ?_
        rintro e wt ⟨rfl, hb⟩
        have HBt : Hid (Below w.heap.size w wt) := HB4.out.trans (hb.mono HB4.out.size)
        have HKt := Lib.hid (HK4.out.next hb)
        clear hb
        go_wp2_with fail
        refine (HRAW.out _ HBt.out).mono ?_
        rintro e wu ⟨rfl, hb⟩
        have HBu : Hid (Below w.heap.size w wu) := HBt.out.trans (hb.mono HBt.out.size)
        have HKu := Lib.hid (HKt.out.next hb)
        clear hb HBt HKt
        go_wp2_with fail
        refine (decoded_calls (some ⟨g2, 0, none⟩) (k + 1 + (n - k)) cap2 (T.take k ++ [cc] ++ T.drop k) wu (by simp only [List.length_append, List.length_take, List.length_drop, List.length_cons, List.length_nil, ← HNT.out]; omega) HKu.out HT2.out (by have := HQ2.out.1; omega) HQ2.out.2).mono ?_
        rintro e wv ⟨rfl, hb⟩
        have HBv : Hid (Below w.heap.size w wv) := HBu.out.trans (hb.mono HBu.out.size)
        clear hb HBu HKu
        go_wp2_with fail
        go_ret
        exact ⟨rfl, HBv.out⟩
    · have hbyt : ∀ x, x ∈ T.take k ++ T.drop (k + 1) → x < 256 := fun x hx => by
        rcases List.mem_append.1 hx with h | h
        · exact HBZ.out x (List.mem_of_mem_take h)
        · exact HBZ.out x (List.mem_of_mem_drop h)
      have hlt : (u8s (T.take k)).length = k * 1 := by rw [u8s_len, List.length_take, ← HNT.out]; omega
      have hld : (u8s (T.drop (k + 1))).length = (n - (k + 1)) * 1 := by rw [u8s_len, List.length_drop, ← HNT.out, Nat.mul_one]
      have HLT := Lib.hid hlt
      have HLD := Lib.hid hld
      clear hlt hld
      by_cases hcb : cb = k + 1
      · have hde : T.drop (k + 1) = [] := List.drop_eq_nil_of_le (by rw [← HNT.out]; omega)
        have HDE := Lib.hid hde
        clear hde
        have hif : (cb = k + 1) = True := eq_true hcb
        clear hcb
        have h5' : (hw : Int) % 5 = 3 := by omega
        clear h5
        have hs0 : g < w2.heap.size := HROW.out.lt
        have hkc : (k : Int) ≤ (cb : Int) := by omega
        have hkc2 : (k : Int) + 1 ≤ (cb : Int) := by omega
        have hkn2 : (k : Int) ≤ (n : Int) := by omega
        have hkn3 : (k : Int) + 1 ≤ (n : Int) := by omega
        have hcbk : ¬ cb = k := by omega
        have hk10 : (0 : Int) ≤ (k : Int) + 1 := by omega
        have hkw : IntKind.i64.wrap ((k : Int) + 1) = (k : Int) + 1 := IntWalk.i64_in _ (by omega)
        obtain ⟨i0, hi, hz0', hz1, hz2⟩ := info_parts Tryd.info_u8
        have HI0 : Hid (Tryd.prog.info? 5 = some i0 ∧ i0.zero = some (.int .u8 0) ∧ i0.size = 1 ∧ i0.bytes = 1) := ⟨hi, hz0', hz1, hz2⟩
        clear hi hz0' hz1 hz2
        go_wp2_with fail
        obtain ⟨W0, hW0⟩ : ∃ W0, W0 = w2.drew := ⟨_, rfl⟩
        have HC0 : Hid (CatS w W0.heap.size g T (.slice none 0 0) 0 [] W0) := by rw [hW0]; exact ⟨HB2.out.drew, HB2.out.size, Nat.le_refl _, hs0, HROW.out, World.ownsRow_nil _ _ _ _⟩
        obtain ⟨s0, hs0e⟩ : ∃ s, s = W0.heap.size := ⟨_, rfl⟩
        rw [← hs0e] at HC0
        have hS : (fun _ : World => True) W0 := trivial
        refine wp_region_held_drew (S := fun _ => True) (by kernel_rfl) trivial ?_
        rw [← hW0]
        intro _
        have HS0 := Lib.hid hs0e
        clear hW0 HROW HB2 hs0 hs0e
        refine wpAnyH_take (i := 1) rfl (by kernel_rfl) (by kernel_rfl) (by kernel_rfl) (fun _ _ _ h => h) (Or.inl ⟨by kernel_rfl, (by intro w' _; go_simp; with_reducible rfl)⟩) hS ?_
        go_simp
        refine wpAnyH_take (i := 2) rfl (by kernel_rfl) (by kernel_rfl) (by kernel_rfl) (fun _ _ _ h => h) (Or.inl ⟨by kernel_rfl, (by intro w' _; go_simp; with_reducible rfl)⟩) hS ?_
        go_simp
        refine wpAnyH_take (i := 3) (v := .slice (some ⟨g, 0, none⟩) k cb) rfl (by kernel_rfl) (by kernel_rfl) (by kernel_rfl) (fun _ _ _ h => h) (Or.inl ⟨by kernel_rfl, (by intro w' _; go_simp)⟩) hS ?_
        go_simp
        refine wpAnyH_take (i := 5) rfl (by kernel_rfl) (by kernel_rfl) (by kernel_rfl) (fun _ _ _ h => h) (Or.inl ⟨by kernel_rfl, (by intro w' _; go_simp; with_reducible rfl)⟩) hS ?_
        go_simp
        refine wpAnyH_take (i := 6) rfl (by kernel_rfl) (by kernel_rfl) (by kernel_rfl) (fun _ _ _ h => h) (Or.inl ⟨by kernel_rfl, (by intro w' _; go_simp; with_reducible rfl)⟩) hS ?_
        go_simp
        refine wpAnyH_take (i := 7) (v := .int .i64 ((k : Int) + 1)) rfl (by kernel_rfl) (by kernel_rfl) (by kernel_rfl) (fun _ _ _ h => h) (Or.inl ⟨by kernel_rfl, (by intro w' _; go_simp)⟩) hS ?_
        go_simp
        refine wpAnyH_take (i := 8) (v := .slice (some ⟨g, 0, none⟩) (n - (k + 1)) (cb - (k + 1))) rfl (by kernel_rfl) (by kernel_rfl) (by kernel_rfl) (fun _ _ _ h => h) (Or.inl ⟨by kernel_rfl, (by intro w' _; go_simp)⟩) hS ?_
        go_simp
        refine wpAnyH_ready (rs := [0]) (by kernel_rfl) (by simp) ?_
        refine AllReadyH.cons rfl (fun K hK => ?_) AllReadyH.nil
        go_simp
        have HC_0 := Lib.hid HC0.out.new
        refine hK.out _ _ trivial (fun _ => ?_)
        clear hK K
        refine wpAnyH_ready (rs := [4]) (by kernel_rfl) (by simp) ?_
        refine AllReadyH.cons rfl (fun K hK => ?_) AllReadyH.nil
        refine step_append_own rfl (.tmp 78) (.tmp 81) 22 rfl s0 5 i0 (.int .u8 0) 1 1 Tryd.underlying22 HI0.out.1 HI0.out.2.1 HI0.out.2.2.1 HI0.out.2.2.2 rfl (by decide) (.slice (some ⟨W0.heap.size, 0, none⟩) 0 0) 0 [] (by simp [Act.eval, Act.put]) HC_0.out.own ⟨g, 0, none⟩ k cb (u8s (T.take k)) (by simp [Act.eval, Act.put]) HLT.out (HC_0.out.takeN k) (u8_one _) (by simp only [maxLen]; omega) (by omega) HC_0.out.sz ?_
        intro v_0_4 wg_0_4 hown hgr hnil
        have HC_0_4 := Lib.hid (CatS.grow HC_0.out hown hgr)
        have hnn_0_4 : v_0_4 ≠ .slice none 0 0 := fun e => by have h := (hnil.1 e).1; simp at h
        refine hK.out _ _ trivial (fun _ => ?_)
        clear hK K hown hgr hnil
        refine wpAnyH_ready (rs := [9]) (by kernel_rfl) (by simp) ?_
        refine AllReadyH.cons rfl (fun K hK => ?_) AllReadyH.nil
        refine step_append_own rfl (.tmp 82) (.tmp 86) 22 rfl s0 5 i0 (.int .u8 0) 1 1 Tryd.underlying22 HI0.out.1 HI0.out.2.1 HI0.out.2.2.1 HI0.out.2.2.2 rfl (by decide) (v_0_4) (0 + k) ([] ++ (u8s (T.take k))) (by simp [Act.eval, Act.put]) HC_0_4.out.own ⟨g, 0, none⟩ (n - (k + 1)) (cb - (k + 1)) (u8s (T.drop (k + 1))) (by simp [Act.eval, Act.put]) HLD.out (fun j u h => by rw [HDE.out] at h; simp [u8s] at h) (u8_one _) (by simp only [maxLen]; omega) (by omega) HC_0_4.out.sz ?_
        intro v_0_4_9 wg_0_4_9 hown hgr hnil
        have HC_0_4_9 := Lib.hid (CatS.grow HC_0_4.out hown hgr)
        have HNV := Lib.hid hnil
        have hnn_0_4_9 : v_0_4_9 ≠ .slice none 0 0 := fun e => hnn_0_4 (hnil.1 e).1
        refine hK.out _ _ trivial (fun _ => ?_)
        clear hK K hown hgr hnil
        refine wpAnyH_take (i := 10) rfl (by kernel_rfl) (by kernel_rfl) (by kernel_rfl) (fun _ _ _ h => h) (Or.inl ⟨by kernel_rfl, (by intro w' _; go_simp; with_reducible rfl)⟩) hS ?_
        go_simp
        refine wpAnyH_done (by kernel_rfl) ?_ _
        clear hS HS0
        obtain ⟨g2, cap2, he2, _⟩ := own_form HC_0_4_9.out.own hnn_0_4_9
        subst he2
        have hq2 := own_cap HC_0_4_9.out.own
        have HQ2 := Lib.hid hq2
        have HB4 : Hid (Below w.heap.size w wg_0_4_9) := HC_0_4_9.out.b
        have HK4 : Hid (KRd .u8 wg_0_4_9 wg_0_4_9.heap.size (some ⟨g2, 0, none⟩) (T.take k ++ T.drop (k + 1))) := KRd.of_own (xs := T.take k ++ T.drop (k + 1)) (by have h := HC_0_4_9.out.own; simp only [List.nil_append, ← u8s_append] at h; exact h)
        have hT2 : Byt (T.take k ++ T.drop (k + 1)) := hbyt
        have HT2 := Lib.hid hT2
        clear hq2 hT2 HC_0_4_9 
        go_wp2_with fail
        refine (awake35_calls _).mono ?_
        rintro e wt ⟨rfl, hb⟩
        have HBt : Hid (Below w.heap.size w wt) := HB4.out.trans (hb.mono HB4.out.size)
        have HKt := Lib.hid (HK4.out.next hb)
        clear hb
        go_wp2_with fail
        refine (HRAW.out _ HBt.out).mono ?_
        rintro e wu ⟨rfl, hb⟩
        have HBu : Hid (Below w.heap.size w wu) := HBt.out.trans (hb.mono HBt.out.size)
        have HKu := Lib.hid (HKt.out.next hb)
        clear hb HBt HKt
        go_wp2_with fail
        refine (decoded_calls (some ⟨g2, 0, none⟩) (k + (n - (k + 1))) cap2 (T.take k ++ T.drop (k + 1)) wu (by simp only [List.length_append, List.length_take, List.length_drop, List.length_cons, List.length_nil, ← HNT.out]; omega) HKu.out HT2.out (by have := HQ2.out.1; omega) HQ2.out.2).mono ?_
        rintro e wv ⟨rfl, hb⟩
        have HBv : Hid (Below w.heap.size w wv) := HBu.out.trans (hb.mono HBu.out.size)
        clear hb HBu HKu
        go_wp2_with fail
        go_ret
        exact ⟨rfl, HBv.out⟩
      · have h5' : (hw : Int) % 5 = 3 := by omega
        clear h5
        have hs0 : g < w2.heap.size := HROW.out.lt
        have hkc : (k : Int) ≤ (cb : Int) := by omega
        have hkc2 : (k : Int) + 1 ≤ (cb : Int) := by omega
        have hkn2 : (k : Int) ≤ (n : Int) := by omega
        have hkn3 : (k : Int) + 1 ≤ (n : Int) := by omega
        have hcbk : ¬ cb = k := by omega
        have hk10 : (0 : Int) ≤ (k : Int) + 1 := by omega
        have hkw : IntKind.i64.wrap ((k : Int) + 1) = (k : Int) + 1 := IntWalk.i64_in _ (by omega)
        obtain ⟨i0, hi, hz0', hz1, hz2⟩ := info_parts Tryd.info_u8
        have HI0 : Hid (Tryd.prog.info? 5 = some i0 ∧ i0.zero = some (.int .u8 0) ∧ i0.size = 1 ∧ i0.bytes = 1) := ⟨hi, hz0', hz1, hz2⟩
        clear hi hz0' hz1 hz2
        go_wp2_with fail
        obtain ⟨W0, hW0⟩ : ∃ W0, W0 = w2.drew := ⟨_, rfl⟩
        have HC0 : Hid (CatS w W0.heap.size g T (.slice none 0 0) 0 [] W0) := by rw [hW0]; exact ⟨HB2.out.drew, HB2.out.size, Nat.le_refl _, hs0, HROW.out, World.ownsRow_nil _ _ _ _⟩
        obtain ⟨s0, hs0e⟩ : ∃ s, s = W0.heap.size := ⟨_, rfl⟩
        rw [← hs0e] at HC0
        have hS : (fun _ : World => True) W0 := trivial
        refine wp_region_held_drew (S := fun _ => True) (by kernel_rfl) trivial ?_
        rw [← hW0]
        intro _
        have HS0 := Lib.hid hs0e
        clear hW0 HROW HB2 hs0 hs0e
        refine wpAnyH_take (i := 1) rfl (by kernel_rfl) (by kernel_rfl) (by kernel_rfl) (fun _ _ _ h => h) (Or.inl ⟨by kernel_rfl, (by intro w' _; go_simp; with_reducible rfl)⟩) hS ?_
        go_simp
        refine wpAnyH_take (i := 2) rfl (by kernel_rfl) (by kernel_rfl) (by kernel_rfl) (fun _ _ _ h => h) (Or.inl ⟨by kernel_rfl, (by intro w' _; go_simp; with_reducible rfl)⟩) hS ?_
        go_simp
        refine wpAnyH_take (i := 3) (v := .slice (some ⟨g, 0, none⟩) k cb) rfl (by kernel_rfl) (by kernel_rfl) (by kernel_rfl) (fun _ _ _ h => h) (Or.inl ⟨by kernel_rfl, (by intro w' _; go_simp)⟩) hS ?_
        go_simp
        refine wpAnyH_take (i := 5) rfl (by kernel_rfl) (by kernel_rfl) (by kernel_rfl) (fun _ _ _ h => h) (Or.inl ⟨by kernel_rfl, (by intro w' _; go_simp; with_reducible rfl)⟩) hS ?_
        go_simp
        refine wpAnyH_take (i := 6) rfl (by kernel_rfl) (by kernel_rfl) (by kernel_rfl) (fun _ _ _ h => h) (Or.inl ⟨by kernel_rfl, (by intro w' _; go_simp; with_reducible rfl)⟩) hS ?_
        go_simp
        refine wpAnyH_take (i := 7) (v := .int .i64 ((k : Int) + 1)) rfl (by kernel_rfl) (by kernel_rfl) (by kernel_rfl) (fun _ _ _ h => h) (Or.inl ⟨by kernel_rfl, (by intro w' _; go_simp)⟩) hS ?_
        go_simp
        refine wpAnyH_take (i := 8) (v := .slice (some ⟨g, k + 1, none⟩) (n - (k + 1)) (cb - (k + 1))) rfl (by kernel_rfl) (by kernel_rfl) (by kernel_rfl) (fun _ _ _ h => h) (Or.inl ⟨by kernel_rfl, (by intro w' _; go_simp)⟩) hS ?_
        go_simp
        refine wpAnyH_ready (rs := [0]) (by kernel_rfl) (by simp) ?_
        refine AllReadyH.cons rfl (fun K hK => ?_) AllReadyH.nil
        go_simp
        have HC_0 := Lib.hid HC0.out.new
        refine hK.out _ _ trivial (fun _ => ?_)
        clear hK K
        refine wpAnyH_ready (rs := [4]) (by kernel_rfl) (by simp) ?_
        refine AllReadyH.cons rfl (fun K hK => ?_) AllReadyH.nil
        refine step_append_own rfl (.tmp 78) (.tmp 81) 22 rfl s0 5 i0 (.int .u8 0) 1 1 Tryd.underlying22 HI0.out.1 HI0.out.2.1 HI0.out.2.2.1 HI0.out.2.2.2 rfl (by decide) (.slice (some ⟨W0.heap.size, 0, none⟩) 0 0) 0 [] (by simp [Act.eval, Act.put]) HC_0.out.own ⟨g, 0, none⟩ k cb (u8s (T.take k)) (by simp [Act.eval, Act.put]) HLT.out (HC_0.out.takeN k) (u8_one _) (by simp only [maxLen]; omega) (by omega) HC_0.out.sz ?_
        intro v_0_4 wg_0_4 hown hgr hnil
        have HC_0_4 := Lib.hid (CatS.grow HC_0.out hown hgr)
        have hnn_0_4 : v_0_4 ≠ .slice none 0 0 := fun e => by have h := (hnil.1 e).1; simp at h
        refine hK.out _ _ trivial (fun _ => ?_)
        clear hK K hown hgr hnil
        refine wpAnyH_ready (rs := [9]) (by kernel_rfl) (by simp) ?_
        refine AllReadyH.cons rfl (fun K hK => ?_) AllReadyH.nil
        refine step_append_own rfl (.tmp 82) (.tmp 86) 22 rfl s0 5 i0 (.int .u8 0) 1 1 Tryd.underlying22 HI0.out.1 HI0.out.2.1 HI0.out.2.2.1 HI0.out.2.2.2 rfl (by decide) (v_0_4) (0 + k) ([] ++ (u8s (T.take k))) (by simp [Act.eval, Act.put]) HC_0_4.out.own ⟨g, k + 1, none⟩ (n - (k + 1)) (cb - (k + 1)) (u8s (T.drop (k + 1))) (by simp [Act.eval, Act.put]) HLD.out (HC_0_4.out.dropN (k + 1)) (u8_one _) (by simp only [maxLen]; omega) (by omega) HC_0_4.out.sz ?_
        intro v_0_4_9 wg_0_4_9 hown hgr hnil
        have HC_0_4_9 := Lib.hid (CatS.grow HC_0_4.out hown hgr)
        have HNV := Lib.hid hnil
        have hnn_0_4_9 : v_0_4_9 ≠ .slice none 0 0 := fun e => hnn_0_4 (hnil.1 e).1
        refine hK.out _ _ trivial (fun _ => ?_)
        clear hK K hown hgr hnil
        refine wpAnyH_take (i := 10) rfl (by kernel_rfl) (by kernel_rfl) (by kernel_rfl) (fun _ _ _ h => h) (Or.inl ⟨by kernel_rfl, (by intro w' _; go_simp; with_reducible rfl)⟩) hS ?_
        go_simp
        refine wpAnyH_done (by kernel_rfl) ?_ _
        clear hS HS0
        obtain ⟨g2, cap2, he2, _⟩ := own_form HC_0_4_9.out.own hnn_0_4_9
        subst he2
        have hq2 := own_cap HC_0_4_9.out.own
        have HQ2 := Lib.hid hq2
        have HB4 : Hid (Below w.heap.size w wg_0_4_9) := HC_0_4_9.out.b
        have HK4 : Hid (KRd .u8 wg_0_4_9 wg_0_4_9.heap.size (some ⟨g2, 0, none⟩) (T.take k ++ T.drop (k + 1))) := KRd.of_own (xs := T.take k ++ T.drop (k + 1)) (by have h := HC_0_4_9.out.own; simp only [List.nil_append, ← u8s_append] at h; exact h)
        have hT2 : Byt (T.take k ++ T.drop (k + 1)) := hbyt
        have HT2 := Lib.hid hT2
        clear hq2 hT2 HC_0_4_9 
        go_wp2_with fail
        refine (awake35_calls _).mono ?_
        rintro e wt ⟨rfl, hb⟩
        have HBt : Hid (Below w.heap.size w wt) := HB4.out.trans (hb.mono HB4.out.size)
        have HKt := Lib.hid (HK4.out.next hb)
        clear hb
        go_wp2_with fail
        refine (HRAW.out _ HBt.out).mono ?_
        rintro e wu ⟨rfl, hb⟩
        have HBu : Hid (Below w.heap.size w wu) := HBt.out.trans (hb.mono HBt.out.size)
        have HKu := Lib.hid (HKt.out.next hb)
        clear hb HBt HKt
        go_wp2_with fail
        refine (decoded_calls (some ⟨g2, 0, none⟩) (k + (n - (k + 1))) cap2 (T.take k ++ T.drop (k + 1)) wu (by simp only [List.length_append, List.length_take, List.length_drop, List.length_cons, List.length_nil, ← HNT.out]; omega) HKu.out HT2.out (by have := HQ2.out.1; omega) HQ2.out.2).mono ?_
        rintro e wv ⟨rfl, hb⟩
        have HBv : Hid (Below w.heap.size w wv) := HBu.out.trans (hb.mono HBu.out.size)
        clear hb HBu HKu
        go_wp2_with fail
        go_ret
        exact ⟨rfl, HBv.out⟩
    · have h5' : (hw : Int) % 5 = 4 := by omega
      clear h5
      go_wp2_with fail
      refine (awake35_calls _).mono ?_
      rintro e wt ⟨rfl, hb⟩
      have HBt : Hid (Below w.heap.size w wt) := HB2.out.trans (hb.mono HB2.out.size)
      have HKt := Lib.hid (HROW.out.rd.next hb)
      clear hb
      go_wp2_with fail
      refine (HRAW.out _ HBt.out).mono ?_
      rintro e wu ⟨rfl, hb⟩
      have HBu : Hid (Below w.heap.size w wu) := HBt.out.trans (hb.mono HBt.out.size)
      have HKu := Lib.hid (HKt.out.next hb)
      clear hb HBt HKt
      go_wp2_with fail
      refine (decoded_calls (some ⟨g, 0, none⟩) n cb T wu HNT.out HKu.out HBZ.out hc1 HC2.out).mono ?_
      rintro e wv ⟨rfl, hb⟩
      have HBv : Hid (Below w.heap.size w wv) := HBu.out.trans (hb.mono HBu.out.size)
      clear hb HBu HKu
      go_wp2_with fail
      go_ret
      exact ⟨rfl, HBv.out⟩

end Go.Proofs.YtcljkdjmmolfoaaDoor

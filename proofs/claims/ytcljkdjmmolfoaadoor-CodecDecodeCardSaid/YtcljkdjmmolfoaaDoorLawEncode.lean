/- CodecEncode: the plain walk. -/
import Derived.Test.YtcljkdjmmolfoaaDoorRecB
import Derived.Test.YtcljkdjmmolfoaaDoorFew35
import Derived.Test.YtcljkdjmmolfoaaDoorM9
set_option linter.unusedVariables false
set_option linter.unusedSimpArgs false
namespace Go.Proofs.YtcljkdjmmolfoaaDoor
open Go.RowKit

theorem fewR_fit (z1 z2 z3 z4 z5 z6 : Int) (an : Bool) (as_ ad_ : ByteArray) (cn : Bool) (cs cd : ByteArray) (A1 : Option Addr) (n1 c1 : Nat) (A2 : Option Addr) (n2 c2 : Nat) (A3 : Option Addr) (n3 c3 : Nat) {legs : List (Int × Int)} {opts : List (RQ × Int)} {pays : List Pay} {w : World} (h : fewR ⟨an, as_, ad_⟩ ⟨cn, cs, cd⟩ legs opts pays = true)
    (hz : i64s [z1, z2, z3, z4, z5, z6]) (e1 : n1 = legs.length) (e2 : n2 = opts.length) (e3 : n3 = pays.length)
    (r1 : Rd w w.heap.size 2 A1 legs.length (legs.flatMap legV)) (o1 : ∀ p ∈ legs, i64b p.1 ∧ i64b p.2)
    (r2 : Rd w w.heap.size 4 A2 opts.length (opts.flatMap optV)) (o2 : ∀ p ∈ opts, p.1.fits ∧ i64b p.2)
    (r3 : Rd w w.heap.size 4 A3 pays.length (pays.flatMap payV)) (o3 : ∀ p ∈ pays, i64b p.debt ∧ i64b p.estate ∧ i64b p.claim ∧ i64b p.cents)
    (g1 : n1 ≤ maxLen) (g2 : n2 ≤ maxLen) (g3 : n3 ≤ maxLen) : RecFit z1 z2 z3 z4 z5 z6 an as_ ad_ cn cs cd A1 n1 c1 A2 n2 c2 A3 n3 c3 legs opts pays w := by
  simp only [fewR, fewQ, Bool.and_eq_true, decide_eq_true_eq, List.all_eq_true] at h
  obtain ⟨_, _, _, ⟨ha1, ha2⟩, ⟨hc1, hc2⟩, ho⟩ := h
  exact ⟨hz, ⟨by omega, by omega⟩, ⟨by omega, by omega⟩, e1, e2, e3, r1, o1, r2, fun p hp => ⟨⟨by have := (ho p hp).1; omega, by have := (ho p hp).2; omega⟩, (o2 p hp).2⟩, r3, o3, g1, g2, g3⟩
def Arr6 (q : Nat) (a1 a2 a3 a4 a5 a6 : Int) (W : World) : Prop := W.heap[q]? = some (.cells #[.int .i16 a1, .int .i16 a2, .int .i16 a3, .int .i16 a4, .int .i16 a5, .int .i16 a6] 39 (0, 0))
def Arr2 (q m1 m2 : Nat) (W : World) : Prop := W.heap[q]? = some (.cells #[.int .u16 (m1 : Int), .int .u16 (m2 : Int)] 40 (0, 0))
theorem Arr6.next {q : Nat} {a1 a2 a3 a4 a5 a6 : Int} {W W' : World} (h : Arr6 q a1 a2 a3 a4 a5 a6 W) (hb : Below W.heap.size W W') : Arr6 q a1 a2 a3 a4 a5 a6 W' := blk_next h hb
theorem Arr2.next {q m1 m2 : Nat} {W W' : World} (h : Arr2 q m1 m2 W) (hb : Below W.heap.size W W') : Arr2 q m1 m2 W' := blk_next h hb
theorem Arr6.cells {q : Nat} {a1 a2 a3 a4 a5 a6 : Int} {W : World} (h : Arr6 q a1 a2 a3 a4 a5 a6 W) : W.cell? ⟨q, 0, none⟩ = some (.int .i16 a1) ∧ W.cell? ⟨q, 1, none⟩ = some (.int .i16 a2) ∧ W.cell? ⟨q, 2, none⟩ = some (.int .i16 a3) ∧ W.cell? ⟨q, 3, none⟩ = some (.int .i16 a4) ∧ W.cell? ⟨q, 4, none⟩ = some (.int .i16 a5) ∧ W.cell? ⟨q, 5, none⟩ = some (.int .i16 a6) := by
  refine ⟨?_, ?_, ?_, ?_, ?_, ?_⟩
  · rw [cell_of_row W q 0 _ _ (0, 0) h]; rfl
  · rw [cell_of_row W q 1 _ _ (0, 0) h]; rfl
  · rw [cell_of_row W q 2 _ _ (0, 0) h]; rfl
  · rw [cell_of_row W q 3 _ _ (0, 0) h]; rfl
  · rw [cell_of_row W q 4 _ _ (0, 0) h]; rfl
  · rw [cell_of_row W q 5 _ _ (0, 0) h]; rfl
theorem Arr2.cells {q m1 m2 : Nat} {W : World} (h : Arr2 q m1 m2 W) : W.cell? ⟨q, 0, none⟩ = some (.int .u16 (m1 : Int)) ∧ W.cell? ⟨q, 1, none⟩ = some (.int .u16 (m2 : Int)) := by
  refine ⟨?_, ?_⟩
  · rw [cell_of_row W q 0 _ _ (0, 0) h]; rfl
  · rw [cell_of_row W q 1 _ _ (0, 0) h]; rfl

set_option maxHeartbeats 8000000 in
set_option maxRecDepth 100000 in
theorem codecEncodeLaw (z1 z2 z3 z4 z5 z6 : Int) (an : Bool) (as_ ad_ : ByteArray) (cn : Bool) (cs cd : ByteArray) (A1 : Option Addr) (n1 c1 : Nat) (A2 : Option Addr) (n2 c2 : Nat) (A3 : Option Addr) (n3 c3 : Nat) (legs : List (Int × Int)) (opts : List (RQ × Int)) (pays : List Pay) (a1 a2 a3 a4 a5 a6 : Int) (m1 m2 : Nat) (Al : Option Addr) (nl cl : Nat) (Ao : Option Addr) (no co : Nat) (Ap : Option Addr) (np cp : Nat) (w : World)
    (hz : i64s [z1, z2, z3, z4, z5, z6]) (ha : as_.size ≤ maxLen ∧ ad_.size ≤ maxLen) (hc : cs.size ≤ maxLen ∧ cd.size ≤ maxLen) (e1 : n1 = legs.length) (e2 : n2 = opts.length) (e3 : n3 = pays.length)
    (r1 : Rd w w.heap.size 2 A1 legs.length (legs.flatMap legV)) (o1 : ∀ p ∈ legs, i64b p.1 ∧ i64b p.2)
    (r2 : Rd w w.heap.size 4 A2 opts.length (opts.flatMap optV)) (o2 : ∀ p ∈ opts, p.1.fits ∧ i64b p.2)
    (r3 : Rd w w.heap.size 4 A3 pays.length (pays.flatMap payV)) (o3 : ∀ p ∈ pays, i64b p.debt ∧ i64b p.estate ∧ i64b p.claim ∧ i64b p.cents)
    (g1 : n1 ≤ maxLen) (g2 : n2 ≤ maxLen) (g3 : n3 ≤ maxLen)
    (hm1 : m1 ≤ 65535) (hm2 : m2 ≤ 65535) (b1 : i16b a1) (b2 : i16b a2) (b3 : i16b a3) (b4 : i16b a4) (b5 : i16b a5) (b6 : i16b a6)
    (ll : List (Int × Int)) (lo : List (Int × Int)) (lp : List W4) (enl : nl = ll.length) (eno : no = lo.length) (enp : np = lp.length) (gl : nl ≤ maxLen) (go_ : no ≤ maxLen) (gp : np ≤ maxLen)
    (rl : Rd w w.heap.size 2 Al ll.length (ll.flatMap i8V)) (ol : ∀ p ∈ ll, i8ok p) (ro : Rd w w.heap.size 2 Ao lo.length (lo.flatMap u16V)) (oo : ∀ p ∈ lo, u16ok p) (rp : Rd w w.heap.size 4 Ap lp.length (lp.flatMap i16V)) (op : ∀ p ∈ lp, i16ok p) :
    Calls Tryd.prog 5 #[.agg #[.int .i64 z1, .int .i64 z2, .int .i64 z3, .int .i64 z4, .int .i64 z5, .int .i64 z6, .bool an, .string as_, .string ad_, .bool cn, .string cs, .string cd, .slice A1 n1 c1, .slice A2 n2 c2, .slice A3 n3 c3], .agg #[.int .i16 a1, .int .i16 a2, .int .i16 a3, .int .i16 a4, .int .i16 a5, .int .i16 a6], .agg #[.int .u16 (m1 : Int), .int .u16 (m2 : Int)], .slice Al nl cl, .slice Ao no co, .slice Ap np cp] w fun e w' => e = .returned (.bool true) ∧ Below w.heap.size w w' := by
  obtain ⟨ok, hok⟩ : ∃ ok, ok = fewR ⟨an, as_, ad_⟩ ⟨cn, cs, cd⟩ legs opts pays := ⟨_, rfl⟩
  have HFEW := Lib.hid (fun W (hW : Below w.heap.size w W) => few35_calls z1 z2 z3 z4 z5 z6 an as_ ad_ cn cs cd A1 n1 c1 A2 n2 c2 A3 n3 c3 legs opts pays W ha hc e1 e2 e3 (r2.next hW) o2 g1 g2 g3 ok hok)
  have HSAME := Lib.hid (fun W (hW : Below w.heap.size w W) (h : ok = true) => same_calls z1 z2 z3 z4 z5 z6 an as_ ad_ cn cs cd A1 n1 c1 A2 n2 c2 A3 n3 c3 legs opts pays W (fewR_fit z1 z2 z3 z4 z5 z6 an as_ ad_ cn cs cd A1 n1 c1 A2 n2 c2 A3 n3 c3 (by rw [← hok]; exact h) hz e1 e2 e3 (r1.next hW) o1 (r2.next hW) o2 (r3.next hW) o3 g1 g2 g3))
  have HREC := Lib.hid (fun W (hW : Below w.heap.size w W) => record_calls a1 a2 a3 a4 a5 a6 m1 m2 Al nl cl Ao no co Ap np cp W hm1 hm2 b1 b2 b3 b4 b5 b6 ll lo lp enl eno enp gl go_ gp (rl.next hW) ol (ro.next hW) oo (rp.next hW) op)
  have HB0 : Hid (Below w.heap.size w (((w.alloc (.cells #[.int .i64 z1, .int .i64 z2, .int .i64 z3, .int .i64 z4, .int .i64 z5, .int .i64 z6, .bool an, .string as_, .string ad_, .bool cn, .string cs, .string cd, .slice A1 n1 c1, .slice A2 n2 c2, .slice A3 n3 c3] 37)).alloc (.cells #[.int .i16 a1, .int .i16 a2, .int .i16 a3, .int .i16 a4, .int .i16 a5, .int .i16 a6] 39)).alloc (.cells #[.int .u16 (m1 : Int), .int .u16 (m2 : Int)] 40))) := ((bel_alloc _ _).alloc (by simp) _).alloc (by simp <;> omega) _
  have HR0 : Hid (RecS w.heap.size z1 z2 z3 z4 z5 z6 an as_ ad_ cn cs cd A1 n1 c1 A2 n2 c2 A3 n3 c3 (((w.alloc (.cells #[.int .i64 z1, .int .i64 z2, .int .i64 z3, .int .i64 z4, .int .i64 z5, .int .i64 z6, .bool an, .string as_, .string ad_, .bool cn, .string cs, .string cd, .slice A1 n1 c1, .slice A2 n2 c2, .slice A3 n3 c3] 37)).alloc (.cells #[.int .i16 a1, .int .i16 a2, .int .i16 a3, .int .i16 a4, .int .i16 a5, .int .i16 a6] 39)).alloc (.cells #[.int .u16 (m1 : Int), .int .u16 (m2 : Int)] 40))) := blk_alloc (blk_alloc (blk_new _ _))
  have H60 : Hid (Arr6 (w.heap.size + 1) a1 a2 a3 a4 a5 a6 (((w.alloc (.cells #[.int .i64 z1, .int .i64 z2, .int .i64 z3, .int .i64 z4, .int .i64 z5, .int .i64 z6, .bool an, .string as_, .string ad_, .bool cn, .string cs, .string cd, .slice A1 n1 c1, .slice A2 n2 c2, .slice A3 n3 c3] 37)).alloc (.cells #[.int .i16 a1, .int .i16 a2, .int .i16 a3, .int .i16 a4, .int .i16 a5, .int .i16 a6] 39)).alloc (.cells #[.int .u16 (m1 : Int), .int .u16 (m2 : Int)] 40))) := by
    have := blk_alloc (o' := (.cells #[.int .u16 (m1 : Int), .int .u16 (m2 : Int)] 40)) (blk_new (w.alloc (.cells #[.int .i64 z1, .int .i64 z2, .int .i64 z3, .int .i64 z4, .int .i64 z5, .int .i64 z6, .bool an, .string as_, .string ad_, .bool cn, .string cs, .string cd, .slice A1 n1 c1, .slice A2 n2 c2, .slice A3 n3 c3] 37)) (.cells #[.int .i16 a1, .int .i16 a2, .int .i16 a3, .int .i16 a4, .int .i16 a5, .int .i16 a6] 39))
    rw [World.size_alloc] at this; exact this
  have H20 : Hid (Arr2 (w.heap.size + 2) m1 m2 (((w.alloc (.cells #[.int .i64 z1, .int .i64 z2, .int .i64 z3, .int .i64 z4, .int .i64 z5, .int .i64 z6, .bool an, .string as_, .string ad_, .bool cn, .string cs, .string cd, .slice A1 n1 c1, .slice A2 n2 c2, .slice A3 n3 c3] 37)).alloc (.cells #[.int .i16 a1, .int .i16 a2, .int .i16 a3, .int .i16 a4, .int .i16 a5, .int .i16 a6] 39)).alloc (.cells #[.int .u16 (m1 : Int), .int .u16 (m2 : Int)] 40))) := by
    have := blk_new ((w.alloc (.cells #[.int .i64 z1, .int .i64 z2, .int .i64 z3, .int .i64 z4, .int .i64 z5, .int .i64 z6, .bool an, .string as_, .string ad_, .bool cn, .string cs, .string cd, .slice A1 n1 c1, .slice A2 n2 c2, .slice A3 n3 c3] 37)).alloc (.cells #[.int .i16 a1, .int .i16 a2, .int .i16 a3, .int .i16 a4, .int .i16 a5, .int .i16 a6] 39)) (.cells #[.int .u16 (m1 : Int), .int .u16 (m2 : Int)] 40)
    rw [World.size_alloc, World.size_alloc] at this; exact this
  clear hz ha hc e1 e2 e3 r1 o1 r2 o2 r3 o3 g1 g2 g3 hm1 hm2 b1 b2 b3 b4 b5 b6 enl eno enp gl go_ gp rl ol ro oo rp op hok
  go_enter Tryd.func5, Tryd.ntmps5
  go_wp2_with fail
  refine (HFEW.out _ HB0.out).mono ?_
  rintro e w1 ⟨rfl, hb⟩
  have HB1 : Hid (Below w.heap.size w w1) := HB0.out.trans (hb.mono HB0.out.size)
  have HR1 : Hid (RecS w.heap.size z1 z2 z3 z4 z5 z6 an as_ ad_ cn cs cd A1 n1 c1 A2 n2 c2 A3 n3 c3 w1) := RecS.below z1 z2 z3 z4 z5 z6 an as_ ad_ cn cs cd A1 n1 c1 A2 n2 c2 A3 n3 c3 HR0.out hb
  have H61 := Lib.hid (H60.out.next hb)
  have H21 := Lib.hid (H20.out.next hb)
  clear hb HB0 HR0 H60 H20 HFEW
  cases ok
  · go_wp2_with fail
    refine (awake35_calls _).mono ?_
    rintro e w2 ⟨rfl, hb⟩
    have HB2 : Hid (Below w.heap.size w w2) := HB1.out.trans (hb.mono HB1.out.size)
    clear hb
    go_wp2_with fail
    go_ret
    exact ⟨rfl, HB2.out⟩
  · go_wp2_with fail
    refine (awake35_calls _).mono ?_
    rintro e w2 ⟨rfl, hb⟩
    have HB2 : Hid (Below w.heap.size w w2) := HB1.out.trans (hb.mono HB1.out.size)
    have HR2 : Hid (RecS w.heap.size z1 z2 z3 z4 z5 z6 an as_ ad_ cn cs cd A1 n1 c1 A2 n2 c2 A3 n3 c3 w2) := RecS.below z1 z2 z3 z4 z5 z6 an as_ ad_ cn cs cd A1 n1 c1 A2 n2 c2 A3 n3 c3 HR1.out hb
    have H62 := Lib.hid (H61.out.next hb)
    have H22 := Lib.hid (H21.out.next hb)
    clear hb HB1 HR1 H61 H21
    obtain ⟨k0, k1, k2, k3, k4, k5, k6, k7, k8, k9, k10, k11, k12, k13, k14⟩ := RecS.cells z1 z2 z3 z4 z5 z6 an as_ ad_ cn cs cd A1 n1 c1 A2 n2 c2 A3 n3 c3 HR2.out
    go_wp2_with fail
    clear k0 k1 k2 k3 k4 k5 k6 k7 k8 k9 k10 k11 k12 k13 k14
    refine (HSAME.out _ HB2.out trivial).mono ?_
    rintro e w3 ⟨rfl, hb⟩
    have HB3 : Hid (Below w.heap.size w w3) := HB2.out.trans (hb.mono HB2.out.size)
    have H63 := Lib.hid (H62.out.next hb)
    have H23 := Lib.hid (H22.out.next hb)
    clear hb HB2 HR2 H62 H22 HSAME
    obtain ⟨k0, k1, k2, k3, k4, k5⟩ := H63.out.cells
    obtain ⟨j0, j1⟩ := H23.out.cells
    go_wp2_with fail
    clear k0 k1 k2 k3 k4 k5 j0 j1
    refine (HREC.out _ HB3.out).mono ?_
    rintro e w4 ⟨y1, y2, y3, y4, y5, y6, bn, bs_, bd_, dn, ds, dd, D1, p1, d1, D2, p2, d2, D3, p3, d3, legs2, opts2, pays2, rfl, hf, _, hb⟩
    have HB4 : Hid (Below w.heap.size w w4) := HB3.out.trans (hb.mono HB3.out.size)
    have HF := Lib.hid hf
    clear hb HB3 HREC hf H63 H23
    go_wp2_with fail
    refine (same_calls _ _ _ _ _ _ _ _ _ _ _ _ _ _ _ _ _ _ _ _ _ _ _ _ _ HF.out).mono ?_
    rintro e w5 ⟨rfl, hb⟩
    have HB5 : Hid (Below w.heap.size w w5) := HB4.out.trans (hb.mono HB4.out.size)
    clear hb HB4 HF
    go_wp2_with fail
    go_ret
    exact ⟨rfl, HB5.out⟩

end Go.Proofs.YtcljkdjmmolfoaaDoor

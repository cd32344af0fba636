/- insolvencyref33.bytesOf. -/
import Derived.Test.YtcljkdjmmolfoaaDoorM10
import Derived.Deep.RegionHeld3
set_option linter.unusedVariables false
set_option linter.unusedSimpArgs false
namespace Go.Proofs.YtcljkdjmmolfoaaDoor
open Go.RowKit

def RecS (q : Nat) (z1 z2 z3 z4 z5 z6 : Int) (an : Bool) (as_ ad_ : ByteArray) (cn : Bool) (cs cd : ByteArray) (A1 : Option Addr) (n1 c1 : Nat) (A2 : Option Addr) (n2 c2 : Nat) (A3 : Option Addr) (n3 c3 : Nat) (W : World) : Prop := W.heap[q]? = some (recObj z1 z2 z3 z4 z5 z6 an as_ ad_ cn cs cd A1 n1 c1 A2 n2 c2 A3 n3 c3)
theorem RecS.cells {q : Nat} {W : World} (z1 z2 z3 z4 z5 z6 : Int) (an : Bool) (as_ ad_ : ByteArray) (cn : Bool) (cs cd : ByteArray) (A1 : Option Addr) (n1 c1 : Nat) (A2 : Option Addr) (n2 c2 : Nat) (A3 : Option Addr) (n3 c3 : Nat) (h : RecS q z1 z2 z3 z4 z5 z6 an as_ ad_ cn cs cd A1 n1 c1 A2 n2 c2 A3 n3 c3 W) : W.cell? ⟨q, 0, none⟩ = some (.int .i64 z1) ∧ W.cell? ⟨q, 1, none⟩ = some (.int .i64 z2) ∧ W.cell? ⟨q, 2, none⟩ = some (.int .i64 z3) ∧ W.cell? ⟨q, 3, none⟩ = some (.int .i64 z4) ∧ W.cell? ⟨q, 4, none⟩ = some (.int .i64 z5) ∧ W.cell? ⟨q, 5, none⟩ = some (.int .i64 z6) ∧ W.cell? ⟨q, 6, none⟩ = some (.bool an) ∧ W.cell? ⟨q, 7, none⟩ = some (.string as_) ∧ W.cell? ⟨q, 8, none⟩ = some (.string ad_) ∧ W.cell? ⟨q, 9, none⟩ = some (.bool cn) ∧ W.cell? ⟨q, 10, none⟩ = some (.string cs) ∧ W.cell? ⟨q, 11, none⟩ = some (.string cd) ∧ W.cell? ⟨q, 12, none⟩ = some (.slice A1 n1 c1) ∧ W.cell? ⟨q, 13, none⟩ = some (.slice A2 n2 c2) ∧ W.cell? ⟨q, 14, none⟩ = some (.slice A3 n3 c3) := by
  unfold RecS at h
  refine ⟨?_, ?_, ?_, ?_, ?_, ?_, ?_, ?_, ?_, ?_, ?_, ?_, ?_, ?_, ?_⟩
  · rw [cell_of_row W q 0 _ _ (0, 0) h]; rfl
  · rw [cell_of_row W q 1 _ _ (0, 0) h]; rfl
  · rw [cell_of_row W q 2 _ _ (0, 0) h]; rfl
  · rw [cell_of_row W q 3 _ _ (0, 0) h]; rfl
  · rw [cell_of_row W q 4 _ _ (0, 0) h]; rfl
  · rw [cell_of_row W q 5 _ _ (0, 0) h]; rfl
  · rw [cell_of_row W q 6 _ _ (0, 0) h]; rfl
  · rw [cell_of_row W q 7 _ _ (0, 0) h]; rfl
  · rw [cell_of_row W q 8 _ _ (0, 0) h]; rfl
  · rw [cell_of_row W q 9 _ _ (0, 0) h]; rfl
  · rw [cell_of_row W q 10 _ _ (0, 0) h]; rfl
  · rw [cell_of_row W q 11 _ _ (0, 0) h]; rfl
  · rw [cell_of_row W q 12 _ _ (0, 0) h]; rfl
  · rw [cell_of_row W q 13 _ _ (0, 0) h]; rfl
  · rw [cell_of_row W q 14 _ _ (0, 0) h]; rfl
theorem RecS.keepB {q : Nat} {W W' : World} (z1 z2 z3 z4 z5 z6 : Int) (an : Bool) (as_ ad_ : ByteArray) (cn : Bool) (cs cd : ByteArray) (A1 : Option Addr) (n1 c1 : Nat) (A2 : Option Addr) (n2 c2 : Nat) (A3 : Option Addr) (n3 c3 : Nat) (h : RecS q z1 z2 z3 z4 z5 z6 an as_ ad_ cn cs cd A1 n1 c1 A2 n2 c2 A3 n3 c3 W) (hk : KeepB W W') : RecS q z1 z2 z3 z4 z5 z6 an as_ ad_ cn cs cd A1 n1 c1 A2 n2 c2 A3 n3 c3 W' := hk _ _ _ _ h (by decide)
/-- a record and one row of a list -/
def RowS (q : Nat) (z1 z2 z3 z4 z5 z6 : Int) (an : Bool) (as_ ad_ : ByteArray) (cn : Bool) (cs cd : ByteArray) (A1 : Option Addr) (n1 c1 : Nat) (A2 : Option Addr) (n2 c2 : Nat) (A3 : Option Addr) (n3 c3 : Nat) (bq o : Nat) (vs : List Value) (W : World) : Prop := RecS q z1 z2 z3 z4 z5 z6 an as_ ad_ cn cs cd A1 n1 c1 A2 n2 c2 A3 n3 c3 W ∧ bq < W.heap.size ∧ ∀ (j : Nat) (u : Value), vs[j]? = some u → W.cell? ⟨bq, o + j, none⟩ = some u
theorem RowS.next {q : Nat} {W W' : World} (z1 z2 z3 z4 z5 z6 : Int) (an : Bool) (as_ ad_ : ByteArray) (cn : Bool) (cs cd : ByteArray) (A1 : Option Addr) (n1 c1 : Nat) (A2 : Option Addr) (n2 c2 : Nat) (A3 : Option Addr) (n3 c3 : Nat) (bq o : Nat) (vs : List Value) (h : RowS q z1 z2 z3 z4 z5 z6 an as_ ad_ cn cs cd A1 n1 c1 A2 n2 c2 A3 n3 c3 bq o vs W) (hk : KeepB W W') (hb : Below q W W') (hq : bq < q) : RowS q z1 z2 z3 z4 z5 z6 an as_ ad_ cn cs cd A1 n1 c1 A2 n2 c2 A3 n3 c3 bq o vs W' :=
  ⟨h.1.keepB z1 z2 z3 z4 z5 z6 an as_ ad_ cn cs cd A1 n1 c1 A2 n2 c2 A3 n3 c3 hk, Nat.lt_of_lt_of_le h.2.1 hb.size, fun j u hj => (hb.cell (p := ⟨bq, o + j, none⟩) hq).trans (h.2.2 j u hj)⟩
/-- a payment in a block -/
def P4 (g : Nat) (x y u v : Int) (W : World) : Prop := W.heap[g]? = some (.cells #[.int .i64 x, .int .i64 y, .int .i64 u, .int .i64 v] 55 (0, 0))
theorem P4.keepB {g : Nat} {x y u v : Int} {W W' : World} (h : P4 g x y u v W) (hk : KeepB W W') : P4 g x y u v W' := hk _ _ _ _ h (by decide)
theorem P4.cells {g : Nat} {x y u v : Int} {W : World} (h : P4 g x y u v W) : W.cell? ⟨g, 0, none⟩ = some (.int .i64 x) ∧ W.cell? ⟨g, 1, none⟩ = some (.int .i64 y) ∧ W.cell? ⟨g, 2, none⟩ = some (.int .i64 u) ∧ W.cell? ⟨g, 3, none⟩ = some (.int .i64 v) := by
  unfold P4 at h
  refine ⟨?_, ?_, ?_, ?_⟩
  · rw [cell_of_row W g 0 _ _ (0, 0) h]; rfl
  · rw [cell_of_row W g 1 _ _ (0, 0) h]; rfl
  · rw [cell_of_row W g 2 _ _ (0, 0) h]; rfl
  · rw [cell_of_row W g 3 _ _ (0, 0) h]; rfl
def BPost (T : List Nat) (w : World) (e : Ending) (w' : World) : Prop := ∃ A c, e = .returned (.slice A T.length c) ∧ OwnB w.heap.size (.slice A T.length c) T w' ∧ Below w.heap.size w w'
theorem six_cell {wr : World} {g k : Nat} {zs : List Int} {z : Int} {t : TypeId} (h : wr.heap[g]? = some (.cells (zs.map (Value.int .i64)).toArray t (0, 0))) (hz : zs[k]? = some z) : wr.cell? ⟨g, k, none⟩ = some (.int .i64 z) := by
  rw [cell_of_row wr g k _ _ (0, 0) h]; simp [hz]
theorem flatR_snoc {α β : Type} (f : α → List β) (l : List α) (k : Nat) (x : α) (h : l[k]? = some x) : (l.take (k + 1)).flatMap f = (l.take k).flatMap f ++ f x := by
  rw [List.take_add_one, h]; simp
theorem ratB_len (n : Bool) (a b : ByteArray) (ha : a.size ≤ 5000) (hb : b.size ≤ 5000) : (ratB n a b).length ≤ 10040 := by
  have h1 := vint_len10 (n := if n = true then 2 else 0) (by split <;> decide)
  have h2 := vint_len10 (zig_lt (n := (a.size : Int)) (by omega) (by omega))
  have h3 := vint_len10 (zig_lt (n := (b.size : Int)) (by omega) (by omega))
  rw [ratB, txt, txt]
  simp only [List.length_append, byts_len]
  omega

set_option maxHeartbeats 16000000 in
set_option maxRecDepth 100000 in
theorem bytesOf_calls (z1 z2 z3 z4 z5 z6 : Int) (an : Bool) (as_ ad_ : ByteArray) (cn : Bool) (cs cd : ByteArray) (A1 : Option Addr) (n1 c1 : Nat) (A2 : Option Addr) (n2 c2 : Nat) (A3 : Option Addr) (n3 c3 : Nat) (legs : List (Int × Int)) (opts : List (RQ × Int)) (pays : List Pay) (w : World)
    (hz : i64s [z1, z2, z3, z4, z5, z6]) (ha : as_.size ≤ 5000 ∧ ad_.size ≤ 5000) (hc : cs.size ≤ 5000 ∧ cd.size ≤ 5000)
    (e1 : n1 = legs.length) (e2 : n2 = opts.length) (e3 : n3 = pays.length)
    (r1 : Rd w w.heap.size 2 A1 legs.length (legs.flatMap legV)) (o1 : ∀ p ∈ legs, i64b p.1 ∧ i64b p.2)
    (r2 : Rd w w.heap.size 4 A2 opts.length (opts.flatMap optV)) (o2 : ∀ p ∈ opts, (p.1.num.size ≤ 5000 ∧ p.1.den.size ≤ 5000) ∧ i64b p.2)
    (r3 : Rd w w.heap.size 4 A3 pays.length (pays.flatMap payV)) (o3 : ∀ p ∈ pays, i64b p.debt ∧ i64b p.estate ∧ i64b p.claim ∧ i64b p.cents)
    (l1 : n1 ≤ 8) (l2 : n2 ≤ 4) (l3 : n3 ≤ 256) (T : List Nat) (hT : T = encB [z1, z2, z3, z4, z5, z6] ⟨an, as_, ad_⟩ ⟨cn, cs, cd⟩ legs opts pays) :
    Calls Tryd.prog 25 #[.agg #[.int .i64 z1, .int .i64 z2, .int .i64 z3, .int .i64 z4, .int .i64 z5, .int .i64 z6, .bool an, .string as_, .string ad_, .bool cn, .string cs, .string cd, .slice A1 n1 c1, .slice A2 n2 c2, .slice A3 n3 c3]] w (BPost T w) := by
  have HZ := Lib.hid hz
  have HQA := Lib.hid ha
  have HQC := Lib.hid hc
  have HN := Lib.hid (And.intro e1 (And.intro e2 e3))
  have HR1 := Lib.hid (And.intro r1 o1)
  have HR2 := Lib.hid (And.intro r2 o2)
  have HR3 := Lib.hid (And.intro r3 o3)
  have HT := Lib.hid hT
  clear hz ha hc e1 e2 e3 r1 o1 r2 o2 r3 o3 hT
  obtain ⟨T1, hT1⟩ : ∃ q, q = numsB [z1, z2, z3, z4, z5, z6] := ⟨_, rfl⟩
  obtain ⟨T2, hT2⟩ : ∃ q, q = T1 ++ ratB an as_ ad_ := ⟨_, rfl⟩
  obtain ⟨T3, hT3⟩ : ∃ q, q = T2 ++ ratB cn cs cd := ⟨_, rfl⟩
  obtain ⟨T4, hT4⟩ : ∃ q, q = T3 ++ vint (zig (n1 : Int)) := ⟨_, rfl⟩
  obtain ⟨T5, hT5⟩ : ∃ q, q = T4 ++ legs.flatMap legB := ⟨_, rfl⟩
  obtain ⟨T6, hT6⟩ : ∃ q, q = T5 ++ vint (zig (n2 : Int)) := ⟨_, rfl⟩
  obtain ⟨T7, hT7⟩ : ∃ q, q = T6 ++ opts.flatMap optB := ⟨_, rfl⟩
  obtain ⟨T8, hT8⟩ : ∃ q, q = T7 ++ vint (zig (n3 : Int)) := ⟨_, rfl⟩
  obtain ⟨T9, hT9⟩ : ∃ q, q = T8 ++ pays.flatMap payB := ⟨_, rfl⟩
  have HTE : Hid (T9 = T) := by
    show _ = _
    rw [HT.out, encB, ← HN.out.1, ← HN.out.2.1, ← HN.out.2.2, hT9, hT8, hT7, hT6, hT5, hT4, hT3, hT2, hT1]
    simp only [numsB, List.flatMap_cons, List.flatMap_nil, List.append_nil, List.append_assoc]
    rfl
  have v1 := vint_len10 (zig_lt (n := (n1 : Int)) (by omega) (by omega))
  have v2 := vint_len10 (zig_lt (n := (n2 : Int)) (by omega) (by omega))
  have v3 := vint_len10 (zig_lt (n := (n3 : Int)) (by omega) (by omega))
  have L2 : T2.length ≤ T1.length + 10040 := by rw [hT2, List.length_append]; have := ratB_len an as_ ad_ HQA.out.1 HQA.out.2; omega
  have L3 : T3.length ≤ T2.length + 10040 := by rw [hT3, List.length_append]; have := ratB_len cn cs cd HQC.out.1 HQC.out.2; omega
  have L4 : T4.length ≤ T3.length + 11 := by rw [hT4, List.length_append]; omega
  have L6 : T6.length ≤ T5.length + 11 := by rw [hT6, List.length_append]; omega
  have L8 : T8.length ≤ T7.length + 11 := by rw [hT8, List.length_append]; omega
  have ET1 := Lib.hid hT1
  have ET2 := Lib.hid hT2
  have ET3 := Lib.hid hT3
  have ET4 := Lib.hid hT4
  have ET5 := Lib.hid hT5
  have ET6 := Lib.hid hT6
  have ET7 := Lib.hid hT7
  have ET8 := Lib.hid hT8
  have ET9 := Lib.hid hT9
  clear hT1 hT2 hT3 hT4 hT5 hT6 hT7 hT8 hT9 HT v1 v2 v3
  have HI := Lib.hid (ints_calls z1 z2 z3 z4 z5 z6 an as_ ad_ cn cs cd A1 n1 c1 A2 n2 c2 (w.alloc (.cells #[.int .i64 z1, .int .i64 z2, .int .i64 z3, .int .i64 z4, .int .i64 z5, .int .i64 z6, .bool an, .string as_, .string ad_, .bool cn, .string cs, .string cd, .slice A1 n1 c1, .slice A2 n2 c2, .slice A3 n3 c3] 37)))
  obtain ⟨g, hg⟩ : ∃ g, g = (w.alloc (.cells #[.int .i64 z1, .int .i64 z2, .int .i64 z3, .int .i64 z4, .int .i64 z5, .int .i64 z6, .bool an, .string as_, .string ad_, .bool cn, .string cs, .string cd, .slice A1 n1 c1, .slice A2 n2 c2, .slice A3 n3 c3] 37)).heap.size + 1 := ⟨_, rfl⟩
  rw [← hg] at HI
  have hgB : g ≠ w.heap.size := by rw [hg, World.size_alloc]; omega
  clear hg
  go_enter Tryd.func25, Tryd.ntmps25
  go_wp2_with fail
  refine HI.out.mono ?_
  rintro e w1 ⟨rfl, hi, hb, hk⟩
  have HI1 := Lib.hid hi
  have HB1 : Hid (Below w.heap.size w w1) := ((Below.refl _ _).alloc (Nat.le_refl _) _).trans (hb.mono (by simp))
  have HC1 : Hid (RecS w.heap.size z1 z2 z3 z4 z5 z6 an as_ ad_ cn cs cd A1 n1 c1 A2 n2 c2 A3 n3 c3 w1) := hk _ _ _ _ (blk_new _ _) (by decide)
  clear hi hb hk HI
  go_wp2_with fail
  go_loopw [3, 5] (fun vb vi wr => ∃ (k : Nat) (Ar : Option Addr) (cr : Nat) (bs : List Nat), k ≤ 6 ∧ vb = .slice Ar bs.length cr ∧ vi = .int .i64 (k : Int) ∧ Hid (OwnB w.heap.size (.slice Ar bs.length cr) bs wr) ∧ Hid (bs = numsB ([z1, z2, z3, z4, z5, z6].take k)) ∧ bs.length ≤ 11 * k ∧ Hid (Below w.heap.size w wr) ∧ Hid (RecS w.heap.size z1 z2 z3 z4 z5 z6 an as_ ad_ cn cs cd A1 n1 c1 A2 n2 c2 A3 n3 c3 wr) ∧ Hid (wr.heap[g]? = some (.cells #[.int .i64 z1, .int .i64 z2, .int .i64 z3, .int .i64 z4, .int .i64 z5, .int .i64 z6] 3 (0, 0)))) (fun _ vi _ => 6 - (intOf vi).toNat)
  case atStart => exact ⟨0, none, 0, [], Nat.zero_le _, rfl, rfl, World.ownsRow_nil _ _ _ _, rfl, by simp, HB1, HC1, HI1⟩
  case round =>
    clear HI1 HB1 HC1
    obtain ⟨k, Ar, cr, bs, hk_, rfl, rfl, HOr, HE, hlr, HBr, HCr, HIr⟩ := hrel
    rename World => wo0
    by_cases hlt : k < 6
    · obtain ⟨z, hz⟩ : ∃ z, [z1, z2, z3, z4, z5, z6][k]? = some z := getElem?_of_lt (by simp; omega)
      have hzm := HZ.out z (List.mem_of_getElem? hz)
      have d0 : wo0.cell? ⟨g, k, none⟩ = some (.int .i64 z) := six_cell (zs := [z1, z2, z3, z4, z5, z6]) HIr.out hz
      have hbl : g < wo0.heap.size := (Array.getElem?_eq_some_iff.1 HIr.out).1
      obtain ⟨bs1, hbs1⟩ : ∃ q, q = bs ++ vint (zig z) := ⟨_, rfl⟩
      have hl1 : bs1.length ≤ 11 * (k + 1) := by rw [hbs1]; have := vint_len10 (zig_lt hzm.1 hzm.2); simp; omega
      have HE1 : Hid (bs1 = numsB ([z1, z2, z3, z4, z5, z6].take (k + 1))) := by
        show _ = _
        rw [hbs1, List.take_add_one, hz, HE.out]; exact (numsB_snoc _ _).symm
      have HN_ := Lib.hid (rnum_calls w.heap.size Ar cr bs z wo0 HOr.out HBr.out.size (by omega) hzm.1 hzm.2 bs1 hbs1)
      clear hz hzm hbs1 HE
      go_wp2_with fail
      refine HN_.out.mono ?_
      rintro e wz ⟨Az, cz, rfl, ho, hb, hk⟩
      have HIz : Hid (wz.heap[g]? = some (.cells #[.int .i64 z1, .int .i64 z2, .int .i64 z3, .int .i64 z4, .int .i64 z5, .int .i64 z6] 3 (0, 0))) := hk _ _ _ _ HIr.out (by decide)
      have hBr := HBr.out.size
      have HOz := Lib.hid ho
      have HBz : Hid (Below w.heap.size w wz) := HBr.out.trans hb
      have HCz : Hid (RecS w.heap.size z1 z2 z3 z4 z5 z6 an as_ ad_ cn cs cd A1 n1 c1 A2 n2 c2 A3 n3 c3 wz) := HCr.out.keepB z1 z2 z3 z4 z5 z6 an as_ ad_ cn cs cd A1 n1 c1 A2 n2 c2 A3 n3 c3 hk
      have hBz : w.heap.size ≤ wz.heap.size := HBz.out.size
      clear ho hb hk HOr HBr HCr hBr
      clear HN_ d0 HIr
      go_wp2_with fail
      go_roundw
      case measure => simp [intOf]; omega
      case rel => exact ⟨k + 1, Az, cz, bs1, by omega, rfl, by go_num, HOz, HE1, hl1, HBz, HCz, HIz⟩
    · have hk6 : k = 6 := by omega
      have hE2 : T1 = bs := by rw [HE.out, ET1.out, hk6]; rfl
      subst hE2
      have LT1 : T1.length ≤ 66 := by omega
      have hBr := HBr.out.size
      clear HE HIr hlr
      obtain ⟨k0, k1, k2, k3, k4, k5, k6, k7, k8, k9, k10, k11, k12, k13, k14⟩ := RecS.cells z1 z2 z3 z4 z5 z6 an as_ ad_ cn cs cd A1 n1 c1 A2 n2 c2 A3 n3 c3 HCr.out
      go_wp2_with fail
      clear k0 k1 k2 k3 k4 k5 k6 k7 k8 k9 k10 k11 k12 k13 k14
      obtain ⟨W0, hW0⟩ : ∃ W0, W0 = wo0.drew := ⟨_, rfl⟩
      have hS : RecS w.heap.size z1 z2 z3 z4 z5 z6 an as_ ad_ cn cs cd A1 n1 c1 A2 n2 c2 A3 n3 c3 W0 := by rw [hW0]; exact HCr.out
      have HO_ : Hid (OwnB w.heap.size (.slice Ar T1.length cr) T1 W0) := by rw [hW0]; exact HOr.out
      have HB_ : Hid (Below w.heap.size w W0) := by rw [hW0]; exact HBr.out.drew
      have HC_ : Hid (RecS w.heap.size z1 z2 z3 z4 z5 z6 an as_ ad_ cn cs cd A1 n1 c1 A2 n2 c2 A3 n3 c3 W0) := by rw [hW0]; exact HCr.out
      have hB_ : w.heap.size ≤ W0.heap.size := HB_.out.size
      refine wp_region_held_drew (S := RecS w.heap.size z1 z2 z3 z4 z5 z6 an as_ ad_ cn cs cd A1 n1 c1 A2 n2 c2 A3 n3 c3) (by kernel_rfl) (by rw [← hW0]; exact hS) ?_
      rw [← hW0]
      intro _
      clear hW0 HOr HBr HCr hBr
      refine wpAnyH_take (i := 0) rfl (by kernel_rfl) (by kernel_rfl) (by kernel_rfl) (fun _ _ _ h => h) (Or.inl ⟨by kernel_rfl, (by intro w' _; go_simp; with_reducible rfl)⟩) hS ?_
      go_simp
      refine wpAnyH_take (i := 1) rfl (by kernel_rfl) (by kernel_rfl) (by kernel_rfl) (fun _ _ _ h => h) (Or.inl ⟨by kernel_rfl, (by intro w' _; go_simp; with_reducible rfl)⟩) hS ?_
      go_simp
      refine wpAnyH_take (i := 2) rfl (by kernel_rfl) (by kernel_rfl) (by kernel_rfl) (fun _ _ _ h => h) (Or.inl ⟨by kernel_rfl, (by intro w' _; go_simp; with_reducible rfl)⟩) hS ?_
      go_simp
      refine wpAnyH_take (i := 3) (v := .agg #[.bool an, .string as_, .string ad_]) rfl (by kernel_rfl) (by kernel_rfl) (by kernel_rfl) (fun _ _ _ h => h) (Or.inl ⟨by kernel_rfl, (by intro w' hw'; obtain ⟨k0, k1, k2, k3, k4, k5, k6, k7, k8, k9, k10, k11, k12, k13, k14⟩ := RecS.cells z1 z2 z3 z4 z5 z6 an as_ ad_ cn cs cd A1 n1 c1 A2 n2 c2 A3 n3 c3 hw'; go_simp)⟩) hS ?_
      go_simp
      refine wpAnyH_take (i := 5) rfl (by kernel_rfl) (by kernel_rfl) (by kernel_rfl) (fun _ _ _ h => h) (Or.inl ⟨by kernel_rfl, (by intro w' _; go_simp; with_reducible rfl)⟩) hS ?_
      go_simp
      refine wpAnyH_take (i := 6) rfl (by kernel_rfl) (by kernel_rfl) (by kernel_rfl) (fun _ _ _ h => h) (Or.inl ⟨by kernel_rfl, (by intro w' _; go_simp; with_reducible rfl)⟩) hS ?_
      go_simp
      refine wpAnyH_take (i := 7) (v := .agg #[.bool cn, .string cs, .string cd]) rfl (by kernel_rfl) (by kernel_rfl) (by kernel_rfl) (fun _ _ _ h => h) (Or.inl ⟨by kernel_rfl, (by intro w' hw'; obtain ⟨k0, k1, k2, k3, k4, k5, k6, k7, k8, k9, k10, k11, k12, k13, k14⟩ := RecS.cells z1 z2 z3 z4 z5 z6 an as_ ad_ cn cs cd A1 n1 c1 A2 n2 c2 A3 n3 c3 hw'; go_simp)⟩) hS ?_
      go_simp
      refine wpAnyH_ready (rs := [4]) (by kernel_rfl) (by simp) ?_
      refine AllReadyH.cons rfl (fun K hK => ?_) AllReadyH.nil
      go_simp
      refine (rrat_calls w.heap.size Ar cr T1 an as_ ad_ _ HO_.out hB_ (by omega) (by have := HQA.out; omega) (by have := HQA.out; omega) T2 ET2.out).mono ?_
      rintro e w2 ⟨A_2, c_2, rfl, ho, hb, hk⟩
      have HO2 := Lib.hid ho
      have HB2 : Hid (Below w.heap.size w w2) := HB_.out.trans hb
      have HC2 : Hid (RecS w.heap.size z1 z2 z3 z4 z5 z6 an as_ ad_ cn cs cd A1 n1 c1 A2 n2 c2 A3 n3 c3 w2) := HC_.out.keepB z1 z2 z3 z4 z5 z6 an as_ ad_ cn cs cd A1 n1 c1 A2 n2 c2 A3 n3 c3 hk
      have hB2 : w.heap.size ≤ w2.heap.size := HB2.out.size
      have hS2 := hS.keepB z1 z2 z3 z4 z5 z6 an as_ ad_ cn cs cd A1 n1 c1 A2 n2 c2 A3 n3 c3 hk
      clear ho hb hk HO_ HB_ HC_ hB_
      refine hK.out _ _ hS2 (fun _ => ?_)
      clear hK K
      refine wpAnyH_ready (rs := [8]) (by kernel_rfl) (by simp) ?_
      refine AllReadyH.cons rfl (fun K hK => ?_) AllReadyH.nil
      go_simp
      refine (rrat_calls w.heap.size A_2 c_2 T2 cn cs cd _ HO2.out hB2 (by omega) (by have := HQC.out; omega) (by have := HQC.out; omega) T3 ET3.out).mono ?_
      rintro e w3 ⟨A_3, c_3, rfl, ho, hb, hk⟩
      have HO3 := Lib.hid ho
      have HB3 : Hid (Below w.heap.size w w3) := HB2.out.trans hb
      have HC3 : Hid (RecS w.heap.size z1 z2 z3 z4 z5 z6 an as_ ad_ cn cs cd A1 n1 c1 A2 n2 c2 A3 n3 c3 w3) := HC2.out.keepB z1 z2 z3 z4 z5 z6 an as_ ad_ cn cs cd A1 n1 c1 A2 n2 c2 A3 n3 c3 hk
      have hB3 : w.heap.size ≤ w3.heap.size := HB3.out.size
      have hS3 := hS2.keepB z1 z2 z3 z4 z5 z6 an as_ ad_ cn cs cd A1 n1 c1 A2 n2 c2 A3 n3 c3 hk
      clear ho hb hk HO2 HB2 HC2 hB2
      refine hK.out _ _ hS3 (fun _ => ?_)
      clear hK K
      refine wpAnyH_take (i := 9) rfl (by kernel_rfl) (by kernel_rfl) (by kernel_rfl) (fun _ _ _ h => h) (Or.inl ⟨by kernel_rfl, (by intro w' _; go_simp; with_reducible rfl)⟩) hS3 ?_
      go_simp
      refine wpAnyH_done (by kernel_rfl) ?_ _
      clear hS hS2 hS3
      obtain ⟨k0, k1, k2, k3, k4, k5, k6, k7, k8, k9, k10, k11, k12, k13, k14⟩ := RecS.cells z1 z2 z3 z4 z5 z6 an as_ ad_ cn cs cd A1 n1 c1 A2 n2 c2 A3 n3 c3 HC3.out
      have HN_ := Lib.hid (rnum_calls w.heap.size A_3 c_3 T3 (n1 : Int) w3 HO3.out hB3 (by omega) (by omega) (by omega) T4 ET4.out)
      go_wp2_with fail
      refine HN_.out.mono ?_
      rintro e v1 ⟨B1, d1_, rfl, ho, hb, hk⟩
      clear k0 k1 k2 k3 k4 k5 k6 k7 k8 k9 k10 k11 k12 k13 k14
      have HOn1_ := Lib.hid ho
      have HBn1_ : Hid (Below w.heap.size w v1) := HB3.out.trans hb
      have HCn1_ : Hid (RecS w.heap.size z1 z2 z3 z4 z5 z6 an as_ ad_ cn cs cd A1 n1 c1 A2 n2 c2 A3 n3 c3 v1) := HC3.out.keepB z1 z2 z3 z4 z5 z6 an as_ ad_ cn cs cd A1 n1 c1 A2 n2 c2 A3 n3 c3 hk
      have hBn1_ : w.heap.size ≤ v1.heap.size := HBn1_.out.size
      clear HN_
      clear ho hb hk HO3 HB3 HC3 hB3
      obtain ⟨k0, k1, k2, k3, k4, k5, k6, k7, k8, k9, k10, k11, k12, k13, k14⟩ := RecS.cells z1 z2 z3 z4 z5 z6 an as_ ad_ cn cs cd A1 n1 c1 A2 n2 c2 A3 n3 c3 HCn1_.out
      go_wp2_with fail
      clear k0 k1 k2 k3 k4 k5 k6 k7 k8 k9 k10 k11 k12 k13 k14
      go_loopw [3, 6] (fun vb vi wr => ∃ (k : Nat) (Ar : Option Addr) (cr : Nat) (bs : List Nat), k ≤ n1 ∧ vb = .slice Ar bs.length cr ∧ vi = .int .i64 (k : Int) ∧ Hid (OwnB w.heap.size (.slice Ar bs.length cr) bs wr) ∧ Hid (bs = T4 ++ (legs.take k).flatMap legB) ∧ bs.length ≤ T4.length + 22 * k ∧ Hid (Below w.heap.size w wr) ∧ Hid (RecS w.heap.size z1 z2 z3 z4 z5 z6 an as_ ad_ cn cs cd A1 n1 c1 A2 n2 c2 A3 n3 c3 wr)) (fun _ vi _ => n1 - (intOf vi).toNat)
      case atStart => exact ⟨0, B1, d1_, T4, Nat.zero_le _, rfl, rfl, HOn1_, (show _ = _ by simp), by omega, HBn1_, HCn1_⟩
      case round =>
        clear HOn1_ HBn1_ HCn1_ hBn1_
        obtain ⟨k, Ar, cr, bs, hk_, rfl, rfl, HOr, HE, hlr, HBr, HCr⟩ := hrel
        rename World => wo1
        have hBr := HBr.out.size
        by_cases hlt : k < n1
        · obtain ⟨p, hp⟩ : ∃ p, legs[k]? = some p := getElem?_of_lt (by have := HN.out; omega)
          have hpm := HR1.out.2 p (List.mem_of_getElem? hp)
          obtain ⟨bq, oq, hAe, hbq, hcq⟩ := Rd.at_ (enc := legV) (fun _ => rfl) (HR1.out.1.below HBr.out) hp
          subst hAe
          obtain ⟨x, y⟩ := p
          have HP := Lib.hid (And.intro hp hpm)
          clear hp hpm
          have hbq2 : bq < wo1.heap.size := by omega
          have HQ : Hid (∀ (j : Nat) (u : Value), ([.int .i64 x, .int .i64 y] : List Value)[j]? = some u → wo1.cell? ⟨bq, oq + k * 2 + j, none⟩ = some u) := fun j u hj => by rw [Nat.add_assoc]; exact hcq j u hj
          clear hcq
          obtain ⟨bs1, hbs1⟩ : ∃ q, q = bs ++ vint (zig x) := ⟨_, rfl⟩
          obtain ⟨bs2, hbs2⟩ : ∃ q, q = bs1 ++ vint (zig y) := ⟨_, rfl⟩
          have HZX := Lib.hid HP.out.2
          have q1 : (vint (zig x)).length ≤ 11 := vint_len10 (zig_lt HZX.out.1.1 HZX.out.1.2)
          have q2 : (vint (zig y)).length ≤ 11 := vint_len10 (zig_lt HZX.out.2.1 HZX.out.2.2)
          have m1 : bs1.length ≤ bs.length + 11 := by rw [hbs1, List.length_append]; omega
          have m2 : bs2.length ≤ bs1.length + 11 := by rw [hbs2, List.length_append]; omega
          clear q1 q2
          have HEn : Hid (bs2 = T4 ++ (legs.take (k + 1)).flatMap legB) := by
            show _ = _
            rw [hbs2, hbs1, HE.out, flatR_snoc _ _ _ _ HP.out.1]
            simp only [legB, optB, RQ.bytes, numsB, List.flatMap_cons, List.flatMap_nil, List.append_nil, List.append_assoc]
          have HX1 := Lib.hid hbs1
          have HX2 := Lib.hid hbs2
          clear hbs1 hbs2 HE
          obtain ⟨k0, k1, k2, k3, k4, k5, k6, k7, k8, k9, k10, k11, k12, k13, k14⟩ := RecS.cells z1 z2 z3 z4 z5 z6 an as_ ad_ cn cs cd (some ⟨bq, oq, none⟩) n1 c1 A2 n2 c2 A3 n3 c3 HCr.out
          go_wp2_with fail
          clear k0 k1 k2 k3 k4 k5 k6 k7 k8 k9 k10 k11 k12 k13 k14
          obtain ⟨W0, hW0⟩ : ∃ W0, W0 = wo1.drew := ⟨_, rfl⟩
          have hS : RowS w.heap.size z1 z2 z3 z4 z5 z6 an as_ ad_ cn cs cd (some ⟨bq, oq, none⟩) n1 c1 A2 n2 c2 A3 n3 c3 bq (oq + k * 2) [.int .i64 x, .int .i64 y] W0 := by rw [hW0]; exact ⟨HCr.out, hbq2, HQ.out⟩
          have HO_ : Hid (OwnB w.heap.size (.slice Ar bs.length cr) bs W0) := by rw [hW0]; exact HOr.out
          have HB_ : Hid (Below w.heap.size w W0) := by rw [hW0]; exact HBr.out.drew
          have HC_ : Hid (RecS w.heap.size z1 z2 z3 z4 z5 z6 an as_ ad_ cn cs cd (some ⟨bq, oq, none⟩) n1 c1 A2 n2 c2 A3 n3 c3 W0) := by rw [hW0]; exact HCr.out
          have hB_ : w.heap.size ≤ W0.heap.size := HB_.out.size
          refine wp_region_held_drew (S := RowS w.heap.size z1 z2 z3 z4 z5 z6 an as_ ad_ cn cs cd (some ⟨bq, oq, none⟩) n1 c1 A2 n2 c2 A3 n3 c3 bq (oq + k * 2) [.int .i64 x, .int .i64 y]) (by kernel_rfl) (by rw [← hW0]; exact hS) ?_
          rw [← hW0]
          intro _
          clear hW0 HOr HBr HCr hBr
          refine wpAnyH_take (i := 0) rfl (by kernel_rfl) (by kernel_rfl) (by kernel_rfl) (fun _ _ _ h => h) (Or.inl ⟨by kernel_rfl, (by intro w' _; go_simp; with_reducible rfl)⟩) hS ?_
          go_simp
          refine wpAnyH_take (i := 1) rfl (by kernel_rfl) (by kernel_rfl) (by kernel_rfl) (fun _ _ _ h => h) (Or.inl ⟨by kernel_rfl, (by intro w' _; go_simp; with_reducible rfl)⟩) hS ?_
          go_simp
          refine wpAnyH_take (i := 2) rfl (by kernel_rfl) (by kernel_rfl) (by kernel_rfl) (fun _ _ _ h => h) (Or.inl ⟨by kernel_rfl, (by intro w' _; go_simp; with_reducible rfl)⟩) hS ?_
          go_simp
          refine wpAnyH_take (i := 3) (v := .slice (some ⟨bq, oq, none⟩) n1 c1) rfl (by kernel_rfl) (by kernel_rfl) (by kernel_rfl) (fun _ _ _ h => h) (Or.inl ⟨by kernel_rfl, (by intro w' hw'; obtain ⟨hr_, hb_, hc_⟩ := hw'; obtain ⟨k0, k1, k2, k3, k4, k5, k6, k7, k8, k9, k10, k11, k12, k13, k14⟩ := RecS.cells z1 z2 z3 z4 z5 z6 an as_ ad_ cn cs cd (some ⟨bq, oq, none⟩) n1 c1 A2 n2 c2 A3 n3 c3 hr_; have d0 := hc_ 0 _ rfl; have d1 := hc_ 1 _ rfl; rw [Nat.add_zero] at d0; go_simp)⟩) hS ?_
          go_simp
          refine wpAnyH_take (i := 4) rfl (by kernel_rfl) (by kernel_rfl) (by kernel_rfl) (fun _ _ _ h => h) (Or.inl ⟨by kernel_rfl, (by intro w' _; go_simp; with_reducible rfl)⟩) hS ?_
          go_simp
          refine wpAnyH_take (i := 5) rfl (by kernel_rfl) (by kernel_rfl) (by kernel_rfl) (fun _ _ _ h => h) (Or.inl ⟨by kernel_rfl, (by intro w' _; go_simp; with_reducible rfl)⟩) hS ?_
          go_simp
          refine wpAnyH_take (i := 6) rfl (by kernel_rfl) (by kernel_rfl) (by kernel_rfl) (fun _ _ _ h => h) (Or.inl ⟨by kernel_rfl, (by intro w' _; go_simp; with_reducible rfl)⟩) hS ?_
          go_simp
          refine wpAnyH_take (i := 7) (v := .int .i64 x) rfl (by kernel_rfl) (by kernel_rfl) (by kernel_rfl) (fun _ _ _ h => h) (Or.inl ⟨by kernel_rfl, (by intro w' hw'; obtain ⟨hr_, hb_, hc_⟩ := hw'; obtain ⟨k0, k1, k2, k3, k4, k5, k6, k7, k8, k9, k10, k11, k12, k13, k14⟩ := RecS.cells z1 z2 z3 z4 z5 z6 an as_ ad_ cn cs cd (some ⟨bq, oq, none⟩) n1 c1 A2 n2 c2 A3 n3 c3 hr_; have d0 := hc_ 0 _ rfl; have d1 := hc_ 1 _ rfl; rw [Nat.add_zero] at d0; go_simp)⟩) hS ?_
          go_simp
          refine wpAnyH_take (i := 9) rfl (by kernel_rfl) (by kernel_rfl) (by kernel_rfl) (fun _ _ _ h => h) (Or.inl ⟨by kernel_rfl, (by intro w' _; go_simp; with_reducible rfl)⟩) hS ?_
          go_simp
          refine wpAnyH_take (i := 10) rfl (by kernel_rfl) (by kernel_rfl) (by kernel_rfl) (fun _ _ _ h => h) (Or.inl ⟨by kernel_rfl, (by intro w' _; go_simp; with_reducible rfl)⟩) hS ?_
          go_simp
          refine wpAnyH_take (i := 11) (v := .slice (some ⟨bq, oq, none⟩) n1 c1) rfl (by kernel_rfl) (by kernel_rfl) (by kernel_rfl) (fun _ _ _ h => h) (Or.inl ⟨by kernel_rfl, (by intro w' hw'; obtain ⟨hr_, hb_, hc_⟩ := hw'; obtain ⟨k0, k1, k2, k3, k4, k5, k6, k7, k8, k9, k10, k11, k12, k13, k14⟩ := RecS.cells z1 z2 z3 z4 z5 z6 an as_ ad_ cn cs cd (some ⟨bq, oq, none⟩) n1 c1 A2 n2 c2 A3 n3 c3 hr_; have d0 := hc_ 0 _ rfl; have d1 := hc_ 1 _ rfl; rw [Nat.add_zero] at d0; go_simp)⟩) hS ?_
          go_simp
          refine wpAnyH_take (i := 12) rfl (by kernel_rfl) (by kernel_rfl) (by kernel_rfl) (fun _ _ _ h => h) (Or.inl ⟨by kernel_rfl, (by intro w' _; go_simp; with_reducible rfl)⟩) hS ?_
          go_simp
          refine wpAnyH_take (i := 13) rfl (by kernel_rfl) (by kernel_rfl) (by kernel_rfl) (fun _ _ _ h => h) (Or.inl ⟨by kernel_rfl, (by intro w' _; go_simp; with_reducible rfl)⟩) hS ?_
          go_simp
          refine wpAnyH_take (i := 14) rfl (by kernel_rfl) (by kernel_rfl) (by kernel_rfl) (fun _ _ _ h => h) (Or.inl ⟨by kernel_rfl, (by intro w' _; go_simp; with_reducible rfl)⟩) hS ?_
          go_simp
          refine wpAnyH_take (i := 15) (v := .int .i64 y) rfl (by kernel_rfl) (by kernel_rfl) (by kernel_rfl) (fun _ _ _ h => h) (Or.inl ⟨by kernel_rfl, (by intro w' hw'; obtain ⟨hr_, hb_, hc_⟩ := hw'; obtain ⟨k0, k1, k2, k3, k4, k5, k6, k7, k8, k9, k10, k11, k12, k13, k14⟩ := RecS.cells z1 z2 z3 z4 z5 z6 an as_ ad_ cn cs cd (some ⟨bq, oq, none⟩) n1 c1 A2 n2 c2 A3 n3 c3 hr_; have d0 := hc_ 0 _ rfl; have d1 := hc_ 1 _ rfl; rw [Nat.add_zero] at d0; go_simp)⟩) hS ?_
          go_simp
          refine wpAnyH_ready (rs := [8]) (by kernel_rfl) (by simp) ?_
          refine AllReadyH.cons rfl (fun K hK => ?_) AllReadyH.nil
          go_simp
          refine (rnum_calls w.heap.size Ar cr bs x _ HO_.out hB_ (by omega) HZX.out.1.1 HZX.out.1.2 bs1 HX1.out).mono ?_
          rintro e w2 ⟨A_2, c_2, rfl, ho, hb, hk⟩
          have HO2 := Lib.hid ho
          have HB2 : Hid (Below w.heap.size w w2) := HB_.out.trans hb
          have HC2 : Hid (RecS w.heap.size z1 z2 z3 z4 z5 z6 an as_ ad_ cn cs cd (some ⟨bq, oq, none⟩) n1 c1 A2 n2 c2 A3 n3 c3 w2) := HC_.out.keepB z1 z2 z3 z4 z5 z6 an as_ ad_ cn cs cd (some ⟨bq, oq, none⟩) n1 c1 A2 n2 c2 A3 n3 c3 hk
          have hB2 : w.heap.size ≤ w2.heap.size := HB2.out.size
          have hS2 := RowS.next z1 z2 z3 z4 z5 z6 an as_ ad_ cn cs cd (some ⟨bq, oq, none⟩) n1 c1 A2 n2 c2 A3 n3 c3 bq (oq + k * 2) [.int .i64 x, .int .i64 y] hS hk hb hbq
          clear ho hb hk HO_ HB_ HC_ hB_
          refine hK.out _ _ hS2 (fun _ => ?_)
          clear hK K
          refine wpAnyH_ready (rs := [16]) (by kernel_rfl) (by simp) ?_
          refine AllReadyH.cons rfl (fun K hK => ?_) AllReadyH.nil
          go_simp
          refine (rnum_calls w.heap.size A_2 c_2 bs1 y _ HO2.out hB2 (by omega) HZX.out.2.1 HZX.out.2.2 bs2 HX2.out).mono ?_
          rintro e w3 ⟨A_3, c_3, rfl, ho, hb, hk⟩
          have HO3 := Lib.hid ho
          have HB3 : Hid (Below w.heap.size w w3) := HB2.out.trans hb
          have HC3 : Hid (RecS w.heap.size z1 z2 z3 z4 z5 z6 an as_ ad_ cn cs cd (some ⟨bq, oq, none⟩) n1 c1 A2 n2 c2 A3 n3 c3 w3) := HC2.out.keepB z1 z2 z3 z4 z5 z6 an as_ ad_ cn cs cd (some ⟨bq, oq, none⟩) n1 c1 A2 n2 c2 A3 n3 c3 hk
          have hB3 : w.heap.size ≤ w3.heap.size := HB3.out.size
          have hS3 := RowS.next z1 z2 z3 z4 z5 z6 an as_ ad_ cn cs cd (some ⟨bq, oq, none⟩) n1 c1 A2 n2 c2 A3 n3 c3 bq (oq + k * 2) [.int .i64 x, .int .i64 y] hS2 hk hb hbq
          clear ho hb hk HO2 HB2 HC2 hB2
          refine hK.out _ _ hS3 (fun _ => ?_)
          clear hK K
          refine wpAnyH_take (i := 17) rfl (by kernel_rfl) (by kernel_rfl) (by kernel_rfl) (fun _ _ _ h => h) (Or.inl ⟨by kernel_rfl, (by intro w' _; go_simp; with_reducible rfl)⟩) hS3 ?_
          go_simp
          refine wpAnyH_done (by kernel_rfl) ?_ _
          clear hS hS2 hS3 HQ HX1 HX2
          go_wp2_with fail
          go_roundw
          case measure => simp [intOf]; omega
          case rel => exact ⟨k + 1, A_3, c_3, bs2, by omega, rfl, by go_num, HO3, HEn, by omega, HB3, HC3⟩
        · have hE2 : T5 = bs := by rw [HE.out, ET5.out, List.take_of_length_le (by have := HN.out; omega)]
          subst hE2
          have LU1 : T5.length ≤ T4.length + 22 * 8 := by have := Nat.mul_le_mul_left 22 (Nat.le_trans hk_ l1); omega
          clear HE hlr
          obtain ⟨k0, k1, k2, k3, k4, k5, k6, k7, k8, k9, k10, k11, k12, k13, k14⟩ := RecS.cells z1 z2 z3 z4 z5 z6 an as_ ad_ cn cs cd A1 n1 c1 A2 n2 c2 A3 n3 c3 HCr.out
          have HN_ := Lib.hid (rnum_calls w.heap.size Ar cr T5 (n2 : Int) wo1 HOr.out hBr (by omega) (by omega) (by omega) T6 ET6.out)
          go_wp2_with fail
          refine HN_.out.mono ?_
          rintro e v2 ⟨B2, d2_, rfl, ho, hb, hk⟩
          clear k0 k1 k2 k3 k4 k5 k6 k7 k8 k9 k10 k11 k12 k13 k14
          have HOn2_ := Lib.hid ho
          have HBn2_ : Hid (Below w.heap.size w v2) := HBr.out.trans hb
          have HCn2_ : Hid (RecS w.heap.size z1 z2 z3 z4 z5 z6 an as_ ad_ cn cs cd A1 n1 c1 A2 n2 c2 A3 n3 c3 v2) := HCr.out.keepB z1 z2 z3 z4 z5 z6 an as_ ad_ cn cs cd A1 n1 c1 A2 n2 c2 A3 n3 c3 hk
          have hBn2_ : w.heap.size ≤ v2.heap.size := HBn2_.out.size
          clear HN_
          clear ho hb hk HOr HBr HCr hBr
          obtain ⟨k0, k1, k2, k3, k4, k5, k6, k7, k8, k9, k10, k11, k12, k13, k14⟩ := RecS.cells z1 z2 z3 z4 z5 z6 an as_ ad_ cn cs cd A1 n1 c1 A2 n2 c2 A3 n3 c3 HCn2_.out
          go_wp2_with fail
          clear k0 k1 k2 k3 k4 k5 k6 k7 k8 k9 k10 k11 k12 k13 k14
          go_loopw [3, 7] (fun vb vi wr => ∃ (k : Nat) (Ar : Option Addr) (cr : Nat) (bs : List Nat), k ≤ n2 ∧ vb = .slice Ar bs.length cr ∧ vi = .int .i64 (k : Int) ∧ Hid (OwnB w.heap.size (.slice Ar bs.length cr) bs wr) ∧ Hid (bs = T6 ++ (opts.take k).flatMap optB) ∧ bs.length ≤ T6.length + 10051 * k ∧ Hid (Below w.heap.size w wr) ∧ Hid (RecS w.heap.size z1 z2 z3 z4 z5 z6 an as_ ad_ cn cs cd A1 n1 c1 A2 n2 c2 A3 n3 c3 wr)) (fun _ vi _ => n2 - (intOf vi).toNat)
          case atStart => exact ⟨0, B2, d2_, T6, Nat.zero_le _, rfl, rfl, HOn2_, (show _ = _ by simp), by omega, HBn2_, HCn2_⟩
          case round =>
            clear HOn2_ HBn2_ HCn2_ hBn2_
            obtain ⟨k, Ar, cr, bs, hk_, rfl, rfl, HOr, HE, hlr, HBr, HCr⟩ := hrel
            rename World => wo2
            have hBr := HBr.out.size
            by_cases hlt : k < n2
            · obtain ⟨p, hp⟩ : ∃ p, opts[k]? = some p := getElem?_of_lt (by have := HN.out; omega)
              have hpm := HR2.out.2 p (List.mem_of_getElem? hp)
              obtain ⟨bq, oq, hAe, hbq, hcq⟩ := Rd.at_ (enc := optV) (fun _ => rfl) (HR2.out.1.below HBr.out) hp
              subst hAe
              obtain ⟨⟨ng, nu, de⟩, x⟩ := p
              have HP := Lib.hid (And.intro hp hpm)
              clear hp hpm
              have hbq2 : bq < wo2.heap.size := by omega
              have HQ : Hid (∀ (j : Nat) (u : Value), ([.bool ng, .string nu, .string de, .int .i64 x] : List Value)[j]? = some u → wo2.cell? ⟨bq, oq + k * 4 + j, none⟩ = some u) := fun j u hj => by rw [Nat.add_assoc]; exact hcq j u hj
              clear hcq
              obtain ⟨bs1, hbs1⟩ : ∃ q, q = bs ++ ratB ng nu de := ⟨_, rfl⟩
              obtain ⟨bs2, hbs2⟩ : ∃ q, q = bs1 ++ vint (zig x) := ⟨_, rfl⟩
              have HZX := Lib.hid HP.out.2
              have q1 : (ratB ng nu de).length ≤ 10040 := ratB_len ng nu de HZX.out.1.1 HZX.out.1.2
              have q2 : (vint (zig x)).length ≤ 11 := vint_len10 (zig_lt HZX.out.2.1 HZX.out.2.2)
              have m1 : bs1.length ≤ bs.length + 10040 := by rw [hbs1, List.length_append]; omega
              have m2 : bs2.length ≤ bs1.length + 11 := by rw [hbs2, List.length_append]; omega
              clear q1 q2
              have HEn : Hid (bs2 = T6 ++ (opts.take (k + 1)).flatMap optB) := by
                show _ = _
                rw [hbs2, hbs1, HE.out, flatR_snoc _ _ _ _ HP.out.1]
                simp only [legB, optB, RQ.bytes, numsB, List.flatMap_cons, List.flatMap_nil, List.append_nil, List.append_assoc]
              have HX1 := Lib.hid hbs1
              have HX2 := Lib.hid hbs2
              clear hbs1 hbs2 HE
              obtain ⟨k0, k1, k2, k3, k4, k5, k6, k7, k8, k9, k10, k11, k12, k13, k14⟩ := RecS.cells z1 z2 z3 z4 z5 z6 an as_ ad_ cn cs cd A1 n1 c1 (some ⟨bq, oq, none⟩) n2 c2 A3 n3 c3 HCr.out
              go_wp2_with fail
              clear k0 k1 k2 k3 k4 k5 k6 k7 k8 k9 k10 k11 k12 k13 k14
              obtain ⟨W0, hW0⟩ : ∃ W0, W0 = wo2.drew := ⟨_, rfl⟩
              have hS : RowS w.heap.size z1 z2 z3 z4 z5 z6 an as_ ad_ cn cs cd A1 n1 c1 (some ⟨bq, oq, none⟩) n2 c2 A3 n3 c3 bq (oq + k * 4) [.bool ng, .string nu, .string de, .int .i64 x] W0 := by rw [hW0]; exact ⟨HCr.out, hbq2, HQ.out⟩
              have HO_ : Hid (OwnB w.heap.size (.slice Ar bs.length cr) bs W0) := by rw [hW0]; exact HOr.out
              have HB_ : Hid (Below w.heap.size w W0) := by rw [hW0]; exact HBr.out.drew
              have HC_ : Hid (RecS w.heap.size z1 z2 z3 z4 z5 z6 an as_ ad_ cn cs cd A1 n1 c1 (some ⟨bq, oq, none⟩) n2 c2 A3 n3 c3 W0) := by rw [hW0]; exact HCr.out
              have hB_ : w.heap.size ≤ W0.heap.size := HB_.out.size
              refine wp_region_held_drew (S := RowS w.heap.size z1 z2 z3 z4 z5 z6 an as_ ad_ cn cs cd A1 n1 c1 (some ⟨bq, oq, none⟩) n2 c2 A3 n3 c3 bq (oq + k * 4) [.bool ng, .string nu, .string de, .int .i64 x]) (by kernel_rfl) (by rw [← hW0]; exact hS) ?_
              rw [← hW0]
              intro _
              clear hW0 HOr HBr HCr hBr
              refine wpAnyH_take (i := 0) rfl (by kernel_rfl) (by kernel_rfl) (by kernel_rfl) (fun _ _ _ h => h) (Or.inl ⟨by kernel_rfl, (by intro w' _; go_simp; with_reducible rfl)⟩) hS ?_
              go_simp
              refine wpAnyH_take (i := 1) rfl (by kernel_rfl) (by kernel_rfl) (by kernel_rfl) (fun _ _ _ h => h) (Or.inl ⟨by kernel_rfl, (by intro w' _; go_simp; with_reducible rfl)⟩) hS ?_
              go_simp
              refine wpAnyH_take (i := 2) rfl (by kernel_rfl) (by kernel_rfl) (by kernel_rfl) (fun _ _ _ h => h) (Or.inl ⟨by kernel_rfl, (by intro w' _; go_simp; with_reducible rfl)⟩) hS ?_
              go_simp
              refine wpAnyH_take (i := 3) (v := .slice (some ⟨bq, oq, none⟩) n2 c2) rfl (by kernel_rfl) (by kernel_rfl) (by kernel_rfl) (fun _ _ _ h => h) (Or.inl ⟨by kernel_rfl, (by intro w' hw'; obtain ⟨hr_, hb_, hc_⟩ := hw'; obtain ⟨k0, k1, k2, k3, k4, k5, k6, k7, k8, k9, k10, k11, k12, k13, k14⟩ := RecS.cells z1 z2 z3 z4 z5 z6 an as_ ad_ cn cs cd A1 n1 c1 (some ⟨bq, oq, none⟩) n2 c2 A3 n3 c3 hr_; have d0 := hc_ 0 _ rfl; have d1 := hc_ 1 _ rfl; have d2 := hc_ 2 _ rfl; have d3 := hc_ 3 _ rfl; rw [Nat.add_zero] at d0; go_simp)⟩) hS ?_
              go_simp
              refine wpAnyH_take (i := 4) rfl (by kernel_rfl) (by kernel_rfl) (by kernel_rfl) (fun _ _ _ h => h) (Or.inl ⟨by kernel_rfl, (by intro w' _; go_simp; with_reducible rfl)⟩) hS ?_
              go_simp
              refine wpAnyH_take (i := 5) rfl (by kernel_rfl) (by kernel_rfl) (by kernel_rfl) (fun _ _ _ h => h) (Or.inl ⟨by kernel_rfl, (by intro w' _; go_simp; with_reducible rfl)⟩) hS ?_
              go_simp
              refine wpAnyH_take (i := 6) rfl (by kernel_rfl) (by kernel_rfl) (by kernel_rfl) (fun _ _ _ h => h) (Or.inl ⟨by kernel_rfl, (by intro w' _; go_simp; with_reducible rfl)⟩) hS ?_
              go_simp
              refine wpAnyH_take (i := 7) (v := .agg #[.bool ng, .string nu, .string de]) rfl (by kernel_rfl) (by kernel_rfl) (by kernel_rfl) (fun _ _ _ h => h) (Or.inl ⟨by kernel_rfl, (by intro w' hw'; obtain ⟨hr_, hb_, hc_⟩ := hw'; obtain ⟨k0, k1, k2, k3, k4, k5, k6, k7, k8, k9, k10, k11, k12, k13, k14⟩ := RecS.cells z1 z2 z3 z4 z5 z6 an as_ ad_ cn cs cd A1 n1 c1 (some ⟨bq, oq, none⟩) n2 c2 A3 n3 c3 hr_; have d0 := hc_ 0 _ rfl; have d1 := hc_ 1 _ rfl; have d2 := hc_ 2 _ rfl; have d3 := hc_ 3 _ rfl; rw [Nat.add_zero] at d0; go_simp)⟩) hS ?_
              go_simp
              refine wpAnyH_take (i := 9) rfl (by kernel_rfl) (by kernel_rfl) (by kernel_rfl) (fun _ _ _ h => h) (Or.inl ⟨by kernel_rfl, (by intro w' _; go_simp; with_reducible rfl)⟩) hS ?_
              go_simp
              refine wpAnyH_take (i := 10) rfl (by kernel_rfl) (by kernel_rfl) (by kernel_rfl) (fun _ _ _ h => h) (Or.inl ⟨by kernel_rfl, (by intro w' _; go_simp; with_reducible rfl)⟩) hS ?_
              go_simp
              refine wpAnyH_take (i := 11) (v := .slice (some ⟨bq, oq, none⟩) n2 c2) rfl (by kernel_rfl) (by kernel_rfl) (by kernel_rfl) (fun _ _ _ h => h) (Or.inl ⟨by kernel_rfl, (by intro w' hw'; obtain ⟨hr_, hb_, hc_⟩ := hw'; obtain ⟨k0, k1, k2, k3, k4, k5, k6, k7, k8, k9, k10, k11, k12, k13, k14⟩ := RecS.cells z1 z2 z3 z4 z5 z6 an as_ ad_ cn cs cd A1 n1 c1 (some ⟨bq, oq, none⟩) n2 c2 A3 n3 c3 hr_; have d0 := hc_ 0 _ rfl; have d1 := hc_ 1 _ rfl; have d2 := hc_ 2 _ rfl; have d3 := hc_ 3 _ rfl; rw [Nat.add_zero] at d0; go_simp)⟩) hS ?_
              go_simp
              refine wpAnyH_take (i := 12) rfl (by kernel_rfl) (by kernel_rfl) (by kernel_rfl) (fun _ _ _ h => h) (Or.inl ⟨by kernel_rfl, (by intro w' _; go_simp; with_reducible rfl)⟩) hS ?_
              go_simp
              refine wpAnyH_take (i := 13) rfl (by kernel_rfl) (by kernel_rfl) (by kernel_rfl) (fun _ _ _ h => h) (Or.inl ⟨by kernel_rfl, (by intro w' _; go_simp; with_reducible rfl)⟩) hS ?_
              go_simp
              refine wpAnyH_take (i := 14) rfl (by kernel_rfl) (by kernel_rfl) (by kernel_rfl) (fun _ _ _ h => h) (Or.inl ⟨by kernel_rfl, (by intro w' _; go_simp; with_reducible rfl)⟩) hS ?_
              go_simp
              refine wpAnyH_take (i := 15) (v := .int .i64 x) rfl (by kernel_rfl) (by kernel_rfl) (by kernel_rfl) (fun _ _ _ h => h) (Or.inl ⟨by kernel_rfl, (by intro w' hw'; obtain ⟨hr_, hb_, hc_⟩ := hw'; obtain ⟨k0, k1, k2, k3, k4, k5, k6, k7, k8, k9, k10, k11, k12, k13, k14⟩ := RecS.cells z1 z2 z3 z4 z5 z6 an as_ ad_ cn cs cd A1 n1 c1 (some ⟨bq, oq, none⟩) n2 c2 A3 n3 c3 hr_; have d0 := hc_ 0 _ rfl; have d1 := hc_ 1 _ rfl; have d2 := hc_ 2 _ rfl; have d3 := hc_ 3 _ rfl; rw [Nat.add_zero] at d0; go_simp)⟩) hS ?_
              go_simp
              refine wpAnyH_ready (rs := [8]) (by kernel_rfl) (by simp) ?_
              refine AllReadyH.cons rfl (fun K hK => ?_) AllReadyH.nil
              go_simp
              refine (rrat_calls w.heap.size Ar cr bs ng nu de _ HO_.out hB_ (by omega) (by have := HZX.out.1; omega) (by have := HZX.out.1; omega) bs1 HX1.out).mono ?_
              rintro e w2 ⟨A_2, c_2, rfl, ho, hb, hk⟩
              have HO2 := Lib.hid ho
              have HB2 : Hid (Below w.heap.size w w2) := HB_.out.trans hb
              have HC2 : Hid (RecS w.heap.size z1 z2 z3 z4 z5 z6 an as_ ad_ cn cs cd A1 n1 c1 (some ⟨bq, oq, none⟩) n2 c2 A3 n3 c3 w2) := HC_.out.keepB z1 z2 z3 z4 z5 z6 an as_ ad_ cn cs cd A1 n1 c1 (some ⟨bq, oq, none⟩) n2 c2 A3 n3 c3 hk
              have hB2 : w.heap.size ≤ w2.heap.size := HB2.out.size
              have hS2 := RowS.next z1 z2 z3 z4 z5 z6 an as_ ad_ cn cs cd A1 n1 c1 (some ⟨bq, oq, none⟩) n2 c2 A3 n3 c3 bq (oq + k * 4) [.bool ng, .string nu, .string de, .int .i64 x] hS hk hb hbq
              clear ho hb hk HO_ HB_ HC_ hB_
              refine hK.out _ _ hS2 (fun _ => ?_)
              clear hK K
              refine wpAnyH_ready (rs := [16]) (by kernel_rfl) (by simp) ?_
              refine AllReadyH.cons rfl (fun K hK => ?_) AllReadyH.nil
              go_simp
              refine (rnum_calls w.heap.size A_2 c_2 bs1 x _ HO2.out hB2 (by omega) HZX.out.2.1 HZX.out.2.2 bs2 HX2.out).mono ?_
              rintro e w3 ⟨A_3, c_3, rfl, ho, hb, hk⟩
              have HO3 := Lib.hid ho
              have HB3 : Hid (Below w.heap.size w w3) := HB2.out.trans hb
              have HC3 : Hid (RecS w.heap.size z1 z2 z3 z4 z5 z6 an as_ ad_ cn cs cd A1 n1 c1 (some ⟨bq, oq, none⟩) n2 c2 A3 n3 c3 w3) := HC2.out.keepB z1 z2 z3 z4 z5 z6 an as_ ad_ cn cs cd A1 n1 c1 (some ⟨bq, oq, none⟩) n2 c2 A3 n3 c3 hk
              have hB3 : w.heap.size ≤ w3.heap.size := HB3.out.size
              have hS3 := RowS.next z1 z2 z3 z4 z5 z6 an as_ ad_ cn cs cd A1 n1 c1 (some ⟨bq, oq, none⟩) n2 c2 A3 n3 c3 bq (oq + k * 4) [.bool ng, .string nu, .string de, .int .i64 x] hS2 hk hb hbq
              clear ho hb hk HO2 HB2 HC2 hB2
              refine hK.out _ _ hS3 (fun _ => ?_)
              clear hK K
              refine wpAnyH_take (i := 17) rfl (by kernel_rfl) (by kernel_rfl) (by kernel_rfl) (fun _ _ _ h => h) (Or.inl ⟨by kernel_rfl, (by intro w' _; go_simp; with_reducible rfl)⟩) hS3 ?_
              go_simp
              refine wpAnyH_done (by kernel_rfl) ?_ _
              clear hS hS2 hS3 HQ HX1 HX2
              go_wp2_with fail
              go_roundw
              case measure => simp [intOf]; omega
              case rel => exact ⟨k + 1, A_3, c_3, bs2, by omega, rfl, by go_num, HO3, HEn, by omega, HB3, HC3⟩
            · have hE2 : T7 = bs := by rw [HE.out, ET7.out, List.take_of_length_le (by have := HN.out; omega)]
              subst hE2
              have LU2 : T7.length ≤ T6.length + 10051 * 4 := by have := Nat.mul_le_mul_left 10051 (Nat.le_trans hk_ l2); omega
              clear HE hlr
              obtain ⟨k0, k1, k2, k3, k4, k5, k6, k7, k8, k9, k10, k11, k12, k13, k14⟩ := RecS.cells z1 z2 z3 z4 z5 z6 an as_ ad_ cn cs cd A1 n1 c1 A2 n2 c2 A3 n3 c3 HCr.out
              have HN_ := Lib.hid (rnum_calls w.heap.size Ar cr T7 (n3 : Int) wo2 HOr.out hBr (by omega) (by omega) (by omega) T8 ET8.out)
              go_wp2_with fail
              refine HN_.out.mono ?_
              rintro e v3 ⟨B3, d3_, rfl, ho, hb, hk⟩
              clear k0 k1 k2 k3 k4 k5 k6 k7 k8 k9 k10 k11 k12 k13 k14
              have HOn3_ := Lib.hid ho
              have HBn3_ : Hid (Below w.heap.size w v3) := HBr.out.trans hb
              have HCn3_ : Hid (RecS w.heap.size z1 z2 z3 z4 z5 z6 an as_ ad_ cn cs cd A1 n1 c1 A2 n2 c2 A3 n3 c3 v3) := HCr.out.keepB z1 z2 z3 z4 z5 z6 an as_ ad_ cn cs cd A1 n1 c1 A2 n2 c2 A3 n3 c3 hk
              have hBn3_ : w.heap.size ≤ v3.heap.size := HBn3_.out.size
              clear HN_
              clear ho hb hk HOr HBr HCr hBr
              obtain ⟨k0, k1, k2, k3, k4, k5, k6, k7, k8, k9, k10, k11, k12, k13, k14⟩ := RecS.cells z1 z2 z3 z4 z5 z6 an as_ ad_ cn cs cd A1 n1 c1 A2 n2 c2 A3 n3 c3 HCn3_.out
              go_wp2_with fail
              clear k0 k1 k2 k3 k4 k5 k6 k7 k8 k9 k10 k11 k12 k13 k14
              go_loopw [3, 8] (fun vb vi wr => ∃ (k : Nat) (Ar : Option Addr) (cr : Nat) (bs : List Nat), k ≤ n3 ∧ vb = .slice Ar bs.length cr ∧ vi = .int .i64 (k : Int) ∧ Hid (OwnB w.heap.size (.slice Ar bs.length cr) bs wr) ∧ Hid (bs = T8 ++ (pays.take k).flatMap payB) ∧ bs.length ≤ T8.length + 44 * k ∧ Hid (Below w.heap.size w wr) ∧ Hid (RecS w.heap.size z1 z2 z3 z4 z5 z6 an as_ ad_ cn cs cd A1 n1 c1 A2 n2 c2 A3 n3 c3 wr)) (fun _ vi _ => n3 - (intOf vi).toNat)
              case atStart => exact ⟨0, B3, d3_, T8, Nat.zero_le _, rfl, rfl, HOn3_, (show _ = _ by simp), by omega, HBn3_, HCn3_⟩
              case round =>
                clear HOn3_ HBn3_ HCn3_ hBn3_
                obtain ⟨k, Ar, cr, bs, hk_, rfl, rfl, HOr, HE, hlr, HBr, HCr⟩ := hrel
                rename World => wo3
                have hBr := HBr.out.size
                by_cases hlt : k < n3
                · obtain ⟨p, hp⟩ : ∃ p, pays[k]? = some p := getElem?_of_lt (by have := HN.out; omega)
                  have hpm := HR3.out.2 p (List.mem_of_getElem? hp)
                  obtain ⟨bq, oq, hAe, hbq, hcq⟩ := Rd.at_ (enc := payV) (fun _ => rfl) (HR3.out.1.below HBr.out) hp
                  subst hAe
                  obtain ⟨x, y, u, v⟩ := p
                  have HP := Lib.hid (And.intro hp hpm)
                  clear hp hpm
                  have hbq2 : bq < wo3.heap.size := by omega
                  have d0 := hcq 0 _ rfl
                  have d1 := hcq 1 _ rfl
                  have d2 := hcq 2 _ rfl
                  have d3 := hcq 3 _ rfl
                  rw [Nat.add_zero] at d0
                  rw [← Nat.add_assoc] at d1 d2 d3
                  clear hcq
                  have HZX := Lib.hid HP.out.2
                  obtain ⟨bs1, hbs1⟩ : ∃ q, q = bs ++ vint (zig x) := ⟨_, rfl⟩
                  have m1 : bs1.length ≤ bs.length + 11 := by rw [hbs1, List.length_append]; have : (vint (zig x)).length ≤ 11 := vint_len10 (zig_lt HZX.out.1.1 HZX.out.1.2); omega
                  obtain ⟨bs2, hbs2⟩ : ∃ q, q = bs1 ++ vint (zig y) := ⟨_, rfl⟩
                  have m2 : bs2.length ≤ bs1.length + 11 := by rw [hbs2, List.length_append]; have : (vint (zig y)).length ≤ 11 := vint_len10 (zig_lt HZX.out.2.1.1 HZX.out.2.1.2); omega
                  obtain ⟨bs3, hbs3⟩ : ∃ q, q = bs2 ++ vint (zig u) := ⟨_, rfl⟩
                  have m3 : bs3.length ≤ bs2.length + 11 := by rw [hbs3, List.length_append]; have : (vint (zig u)).length ≤ 11 := vint_len10 (zig_lt HZX.out.2.2.1.1 HZX.out.2.2.1.2); omega
                  obtain ⟨bs4, hbs4⟩ : ∃ q, q = bs3 ++ vint (zig v) := ⟨_, rfl⟩
                  have m4 : bs4.length ≤ bs3.length + 11 := by rw [hbs4, List.length_append]; have : (vint (zig v)).length ≤ 11 := vint_len10 (zig_lt HZX.out.2.2.2.1 HZX.out.2.2.2.2); omega
                  have HEn : Hid (bs4 = T8 ++ (pays.take (k + 1)).flatMap payB) := by
                    show _ = _
                    rw [hbs4, hbs3, hbs2, hbs1, HE.out, flatR_snoc _ _ _ _ HP.out.1]
                    simp only [payB, numsB, List.flatMap_cons, List.flatMap_nil, List.append_nil, List.append_assoc]
                  have HX1 := Lib.hid hbs1
                  have HX2 := Lib.hid hbs2
                  have HX3 := Lib.hid hbs3
                  have HX4 := Lib.hid hbs4
                  clear hbs1 hbs2 hbs3 hbs4 HE
                  obtain ⟨k0, k1, k2, k3, k4, k5, k6, k7, k8, k9, k10, k11, k12, k13, k14⟩ := RecS.cells z1 z2 z3 z4 z5 z6 an as_ ad_ cn cs cd A1 n1 c1 A2 n2 c2 (some ⟨bq, oq, none⟩) n3 c3 HCr.out
                  go_wp2_with fail
                  clear k0 k1 k2 k3 k4 k5 k6 k7 k8 k9 k10 k11 k12 k13 k14
                  clear d0 d1 d2 d3
                  obtain ⟨wp_, hwp⟩ : ∃ q, q = wo3.alloc (.cells #[.int .i64 x, .int .i64 y, .int .i64 u, .int .i64 v] 55) := ⟨_, rfl⟩
                  have HPay : Hid (P4 wo3.heap.size x y u v wp_) := by rw [hwp]; exact blk_new _ _
                  have HOp : Hid (OwnB w.heap.size (.slice Ar bs.length cr) bs wp_) := by rw [hwp]; exact HOr.out.next (bel_alloc _ _)
                  have HBp : Hid (Below w.heap.size w wp_) := by rw [hwp]; exact HBr.out.alloc hBr _
                  have HCp : Hid (RecS w.heap.size z1 z2 z3 z4 z5 z6 an as_ ad_ cn cs cd A1 n1 c1 A2 n2 c2 (some ⟨bq, oq, none⟩) n3 c3 wp_) := by rw [hwp]; exact HCr.out.keepB z1 z2 z3 z4 z5 z6 an as_ ad_ cn cs cd A1 n1 c1 A2 n2 c2 (some ⟨bq, oq, none⟩) n3 c3 ((KeepB.refl _).alloc _)
                  have hBp := HBp.out.size
                  rw [← hwp]
                  clear hwp HOr HBr HCr
                  obtain ⟨W0, hW0⟩ : ∃ W0, W0 = wp_.drew := ⟨_, rfl⟩
                  have hS : P4 wo3.heap.size x y u v W0 := by rw [hW0]; exact HPay.out
                  have HO_ : Hid (OwnB w.heap.size (.slice Ar bs.length cr) bs W0) := by rw [hW0]; exact HOp.out
                  have HB_ : Hid (Below w.heap.size w W0) := by rw [hW0]; exact HBp.out.drew
                  have HC_ : Hid (RecS w.heap.size z1 z2 z3 z4 z5 z6 an as_ ad_ cn cs cd A1 n1 c1 A2 n2 c2 (some ⟨bq, oq, none⟩) n3 c3 W0) := by rw [hW0]; exact HCp.out
                  have hB_ : w.heap.size ≤ W0.heap.size := HB_.out.size
                  refine wp_region_held_drew (S := P4 wo3.heap.size x y u v) (by kernel_rfl) (by rw [← hW0]; exact hS) ?_
                  rw [← hW0]
                  intro _
                  clear hW0 HOp HBp HCp hBp
                  refine wpAnyH_take (i := 0) rfl (by kernel_rfl) (by kernel_rfl) (by kernel_rfl) (fun _ _ _ h => h) (Or.inl ⟨by kernel_rfl, (by intro w' _; go_simp; with_reducible rfl)⟩) hS ?_
                  go_simp
                  refine wpAnyH_take (i := 1) rfl (by kernel_rfl) (by kernel_rfl) (by kernel_rfl) (fun _ _ _ h => h) (Or.inl ⟨by kernel_rfl, (by intro w' _; go_simp; with_reducible rfl)⟩) hS ?_
                  go_simp
                  refine wpAnyH_take (i := 2) rfl (by kernel_rfl) (by kernel_rfl) (by kernel_rfl) (fun _ _ _ h => h) (Or.inl ⟨by kernel_rfl, (by intro w' _; go_simp; with_reducible rfl)⟩) hS ?_
                  go_simp
                  refine wpAnyH_take (i := 3) (v := .int .i64 x) rfl (by kernel_rfl) (by kernel_rfl) (by kernel_rfl) (fun _ _ _ h => h) (Or.inl ⟨by kernel_rfl, (by intro w' hw'; obtain ⟨d0, d1, d2, d3⟩ := P4.cells hw'; go_simp)⟩) hS ?_
                  go_simp
                  refine wpAnyH_take (i := 5) rfl (by kernel_rfl) (by kernel_rfl) (by kernel_rfl) (fun _ _ _ h => h) (Or.inl ⟨by kernel_rfl, (by intro w' _; go_simp; with_reducible rfl)⟩) hS ?_
                  go_simp
                  refine wpAnyH_take (i := 6) rfl (by kernel_rfl) (by kernel_rfl) (by kernel_rfl) (fun _ _ _ h => h) (Or.inl ⟨by kernel_rfl, (by intro w' _; go_simp; with_reducible rfl)⟩) hS ?_
                  go_simp
                  refine wpAnyH_take (i := 7) rfl (by kernel_rfl) (by kernel_rfl) (by kernel_rfl) (fun _ _ _ h => h) (Or.inl ⟨by kernel_rfl, (by intro w' _; go_simp; with_reducible rfl)⟩) hS ?_
                  go_simp
                  refine wpAnyH_take (i := 8) (v := .int .i64 y) rfl (by kernel_rfl) (by kernel_rfl) (by kernel_rfl) (fun _ _ _ h => h) (Or.inl ⟨by kernel_rfl, (by intro w' hw'; obtain ⟨d0, d1, d2, d3⟩ := P4.cells hw'; go_simp)⟩) hS ?_
                  go_simp
                  refine wpAnyH_take (i := 10) rfl (by kernel_rfl) (by kernel_rfl) (by kernel_rfl) (fun _ _ _ h => h) (Or.inl ⟨by kernel_rfl, (by intro w' _; go_simp; with_reducible rfl)⟩) hS ?_
                  go_simp
                  refine wpAnyH_take (i := 11) rfl (by kernel_rfl) (by kernel_rfl) (by kernel_rfl) (fun _ _ _ h => h) (Or.inl ⟨by kernel_rfl, (by intro w' _; go_simp; with_reducible rfl)⟩) hS ?_
                  go_simp
                  refine wpAnyH_take (i := 12) rfl (by kernel_rfl) (by kernel_rfl) (by kernel_rfl) (fun _ _ _ h => h) (Or.inl ⟨by kernel_rfl, (by intro w' _; go_simp; with_reducible rfl)⟩) hS ?_
                  go_simp
                  refine wpAnyH_take (i := 13) (v := .int .i64 u) rfl (by kernel_rfl) (by kernel_rfl) (by kernel_rfl) (fun _ _ _ h => h) (Or.inl ⟨by kernel_rfl, (by intro w' hw'; obtain ⟨d0, d1, d2, d3⟩ := P4.cells hw'; go_simp)⟩) hS ?_
                  go_simp
                  refine wpAnyH_take (i := 15) rfl (by kernel_rfl) (by kernel_rfl) (by kernel_rfl) (fun _ _ _ h => h) (Or.inl ⟨by kernel_rfl, (by intro w' _; go_simp; with_reducible rfl)⟩) hS ?_
                  go_simp
                  refine wpAnyH_take (i := 16) (v := .int .i64 v) rfl (by kernel_rfl) (by kernel_rfl) (by kernel_rfl) (fun _ _ _ h => h) (Or.inl ⟨by kernel_rfl, (by intro w' hw'; obtain ⟨d0, d1, d2, d3⟩ := P4.cells hw'; go_simp)⟩) hS ?_
                  go_simp
                  refine wpAnyH_ready (rs := [4]) (by kernel_rfl) (by simp) ?_
                  refine AllReadyH.cons rfl (fun K hK => ?_) AllReadyH.nil
                  go_simp
                  refine (rnum_calls w.heap.size Ar cr bs x _ HO_.out hB_ (by omega) HZX.out.1.1 HZX.out.1.2 bs1 HX1.out).mono ?_
                  rintro e w2 ⟨A_2, c_2, rfl, ho, hb, hk⟩
                  have HO2 := Lib.hid ho
                  have HB2 : Hid (Below w.heap.size w w2) := HB_.out.trans hb
                  have HC2 : Hid (RecS w.heap.size z1 z2 z3 z4 z5 z6 an as_ ad_ cn cs cd A1 n1 c1 A2 n2 c2 (some ⟨bq, oq, none⟩) n3 c3 w2) := HC_.out.keepB z1 z2 z3 z4 z5 z6 an as_ ad_ cn cs cd A1 n1 c1 A2 n2 c2 (some ⟨bq, oq, none⟩) n3 c3 hk
                  have hB2 : w.heap.size ≤ w2.heap.size := HB2.out.size
                  have hS2 := hS.keepB hk
                  clear ho hb hk HO_ HB_ HC_ hB_
                  refine hK.out _ _ hS2 (fun _ => ?_)
                  clear hK K
                  refine wpAnyH_ready (rs := [9]) (by kernel_rfl) (by simp) ?_
                  refine AllReadyH.cons rfl (fun K hK => ?_) AllReadyH.nil
                  go_simp
                  refine (rnum_calls w.heap.size A_2 c_2 bs1 y _ HO2.out hB2 (by omega) HZX.out.2.1.1 HZX.out.2.1.2 bs2 HX2.out).mono ?_
                  rintro e w3 ⟨A_3, c_3, rfl, ho, hb, hk⟩
                  have HO3 := Lib.hid ho
                  have HB3 : Hid (Below w.heap.size w w3) := HB2.out.trans hb
                  have HC3 : Hid (RecS w.heap.size z1 z2 z3 z4 z5 z6 an as_ ad_ cn cs cd A1 n1 c1 A2 n2 c2 (some ⟨bq, oq, none⟩) n3 c3 w3) := HC2.out.keepB z1 z2 z3 z4 z5 z6 an as_ ad_ cn cs cd A1 n1 c1 A2 n2 c2 (some ⟨bq, oq, none⟩) n3 c3 hk
                  have hB3 : w.heap.size ≤ w3.heap.size := HB3.out.size
                  have hS3 := hS2.keepB hk
                  clear ho hb hk HO2 HB2 HC2 hB2
                  refine hK.out _ _ hS3 (fun _ => ?_)
                  clear hK K
                  refine wpAnyH_ready (rs := [14]) (by kernel_rfl) (by simp) ?_
                  refine AllReadyH.cons rfl (fun K hK => ?_) AllReadyH.nil
                  go_simp
                  refine (rnum_calls w.heap.size A_3 c_3 bs2 u _ HO3.out hB3 (by omega) HZX.out.2.2.1.1 HZX.out.2.2.1.2 bs3 HX3.out).mono ?_
                  rintro e w4 ⟨A_4, c_4, rfl, ho, hb, hk⟩
                  have HO4 := Lib.hid ho
                  have HB4 : Hid (Below w.heap.size w w4) := HB3.out.trans hb
                  have HC4 : Hid (RecS w.heap.size z1 z2 z3 z4 z5 z6 an as_ ad_ cn cs cd A1 n1 c1 A2 n2 c2 (some ⟨bq, oq, none⟩) n3 c3 w4) := HC3.out.keepB z1 z2 z3 z4 z5 z6 an as_ ad_ cn cs cd A1 n1 c1 A2 n2 c2 (some ⟨bq, oq, none⟩) n3 c3 hk
                  have hB4 : w.heap.size ≤ w4.heap.size := HB4.out.size
                  have hS4 := hS3.keepB hk
                  clear ho hb hk HO3 HB3 HC3 hB3
                  refine hK.out _ _ hS4 (fun _ => ?_)
                  clear hK K
                  refine wpAnyH_ready (rs := [17]) (by kernel_rfl) (by simp) ?_
                  refine AllReadyH.cons rfl (fun K hK => ?_) AllReadyH.nil
                  go_simp
                  refine (rnum_calls w.heap.size A_4 c_4 bs3 v _ HO4.out hB4 (by omega) HZX.out.2.2.2.1 HZX.out.2.2.2.2 bs4 HX4.out).mono ?_
                  rintro e w5 ⟨A_5, c_5, rfl, ho, hb, hk⟩
                  have HO5 := Lib.hid ho
                  have HB5 : Hid (Below w.heap.size w w5) := HB4.out.trans hb
                  have HC5 : Hid (RecS w.heap.size z1 z2 z3 z4 z5 z6 an as_ ad_ cn cs cd A1 n1 c1 A2 n2 c2 (some ⟨bq, oq, none⟩) n3 c3 w5) := HC4.out.keepB z1 z2 z3 z4 z5 z6 an as_ ad_ cn cs cd A1 n1 c1 A2 n2 c2 (some ⟨bq, oq, none⟩) n3 c3 hk
                  have hB5 : w.heap.size ≤ w5.heap.size := HB5.out.size
                  have hS5 := hS4.keepB hk
                  clear ho hb hk HO4 HB4 HC4 hB4
                  refine hK.out _ _ hS5 (fun _ => ?_)
                  clear hK K
                  refine wpAnyH_take (i := 18) rfl (by kernel_rfl) (by kernel_rfl) (by kernel_rfl) (fun _ _ _ h => h) (Or.inl ⟨by kernel_rfl, (by intro w' _; go_simp; with_reducible rfl)⟩) hS5 ?_
                  go_simp
                  refine wpAnyH_done (by kernel_rfl) ?_ _
                  clear hS hS2 hS3 hS4 hS5 HX1 HX2 HX3 HX4 HPay
                  go_wp2_with fail
                  go_roundw
                  case measure => simp [intOf]; omega
                  case rel => exact ⟨k + 1, A_5, c_5, bs4, by omega, rfl, by go_num, HO5, HEn, by omega, HB5, HC5⟩
                · have hE2 : T9 = bs := by rw [HE.out, ET9.out, List.take_of_length_le (by have := HN.out; omega)]
                  subst hE2
                  have LU3 : T9.length ≤ T8.length + 44 * 256 := by have := Nat.mul_le_mul_left 44 (Nat.le_trans hk_ l3); omega
                  clear HE hlr
                  obtain ⟨k0, k1, k2, k3, k4, k5, k6, k7, k8, k9, k10, k11, k12, k13, k14⟩ := RecS.cells z1 z2 z3 z4 z5 z6 an as_ ad_ cn cs cd A1 n1 c1 A2 n2 c2 A3 n3 c3 HCr.out
                  go_wp2_with fail
                  go_ret
                  rw [← HTE.out]
                  exact ⟨Ar, cr, rfl, HOr.out, HBr.out⟩

end Go.Proofs.YtcljkdjmmolfoaaDoor

/- codec.encode: what it writes. -/
import Derived.Test.YtcljkdjmmolfoaaDoorM10
import Derived.Deep.RegionHeld3
set_option linter.unusedVariables false
set_option linter.unusedSimpArgs false
namespace Go.Proofs.YtcljkdjmmolfoaaDoor
open Go.RowKit

def EncPost (T : List Nat) (ok : Bool) (w : World) (e : Ending) (w' : World) : Prop :=
  ∃ A n c, e = .returned (.tuple #[.slice A n c, .bool ok]) ∧ (ok = true → n = T.length ∧ KRd .u8 w' w'.heap.size A T ∧ w'.ownsRow w.heap.size 5 1 (.slice A n c) n (u8s T)) ∧ Below w.heap.size w w'

theorem flat_snoc {α β : Type} (f : α → List β) (l : List α) (k : Nat) (x : α) (h : l[k]? = some x) : (l.take (k + 1)).flatMap f = (l.take k).flatMap f ++ f x := by
  rw [List.take_add_one, h]; simp
theorem all_snoc {α : Type} (f : α → Bool) (l : List α) (k : Nat) (x : α) (h : l[k]? = some x) : (l.take (k + 1)).all f = ((l.take k).all f && f x) := by
  rw [List.take_add_one, h]; simp

set_option maxHeartbeats 16000000 in
set_option maxRecDepth 100000 in
theorem encode_calls (z1 z2 z3 z4 z5 z6 : Int) (an : Bool) (as_ ad_ : ByteArray) (cn : Bool) (cs cd : ByteArray) (A1 : Option Addr) (n1 c1 : Nat) (A2 : Option Addr) (n2 c2 : Nat) (A3 : Option Addr) (n3 c3 : Nat) (legs : List (Int × Int)) (opts : List (RQ × Int)) (pays : List Pay) (w : World)
    (hz : i64s [z1, z2, z3, z4, z5, z6]) (ha : as_.size ≤ maxLen ∧ ad_.size ≤ maxLen) (hc : cs.size ≤ maxLen ∧ cd.size ≤ maxLen)
    (e1 : n1 = legs.length) (e2 : n2 = opts.length) (e3 : n3 = pays.length)
    (r1 : Rd w w.heap.size 2 A1 legs.length (legs.flatMap legV)) (o1 : ∀ p ∈ legs, i64b p.1 ∧ i64b p.2)
    (r2 : Rd w w.heap.size 4 A2 opts.length (opts.flatMap optV)) (o2 : ∀ p ∈ opts, p.1.fits ∧ i64b p.2)
    (r3 : Rd w w.heap.size 4 A3 pays.length (pays.flatMap payV)) (o3 : ∀ p ∈ pays, i64b p.debt ∧ i64b p.estate ∧ i64b p.claim ∧ i64b p.cents)
    (l1 : n1 ≤ 8) (l2 : n2 ≤ 4) (l3 : n3 ≤ 256) (T : List Nat) (hT : T = encB [z1, z2, z3, z4, z5, z6] ⟨an, as_, ad_⟩ ⟨cn, cs, cd⟩ legs opts pays)
    (ok : Bool) (hok : ok = (encOk [z1, z2, z3, z4, z5, z6] ⟨an, as_, ad_⟩ ⟨cn, cs, cd⟩ legs opts pays && decide (T.length ≤ 4096))) :
    Calls Tryd.prog 27 #[.agg #[.int .i64 z1, .int .i64 z2, .int .i64 z3, .int .i64 z4, .int .i64 z5, .int .i64 z6, .bool an, .string as_, .string ad_, .bool cn, .string cs, .string cd, .slice A1 n1 c1, .slice A2 n2 c2, .slice A3 n3 c3]] w (EncPost T ok w) := by
  have HZ := Lib.hid hz
  have HQA := Lib.hid ha
  have HQC := Lib.hid hc
  have HN := Lib.hid (And.intro e1 (And.intro e2 e3))
  have HR1 := Lib.hid (And.intro r1 o1)
  have HR2 := Lib.hid (And.intro r2 o2)
  have HR3 := Lib.hid (And.intro r3 o3)
  have HT := Lib.hid hT
  have HOK := Lib.hid hok
  clear hz ha hc e1 e2 e3 r1 o1 r2 o2 r3 o3 hT hok
  obtain ⟨q1, hq1⟩ : ∃ q, q = [z1, z2, z3, z4, z5, z6].all rngN := ⟨_, rfl⟩
  obtain ⟨q2, hq2⟩ : ∃ q, q = (q1 && (decide (as_.size ≤ 4096) && (decide (ad_.size ≤ 4096) && vld an as_ ad_))) := ⟨_, rfl⟩
  obtain ⟨q3, hq3⟩ : ∃ q, q = (q2 && (decide (cs.size ≤ 4096) && (decide (cd.size ≤ 4096) && vld cn cs cd))) := ⟨_, rfl⟩
  obtain ⟨q4, hq4⟩ : ∃ q, q = (q3 && [(n1 : Int)].all rngN) := ⟨_, rfl⟩
  obtain ⟨q5, hq5⟩ : ∃ q, q = (q4 && legs.all legOk) := ⟨_, rfl⟩
  obtain ⟨q6, hq6⟩ : ∃ q, q = (q5 && [(n2 : Int)].all rngN) := ⟨_, rfl⟩
  obtain ⟨q7, hq7⟩ : ∃ q, q = (q6 && opts.all optOk) := ⟨_, rfl⟩
  obtain ⟨q8, hq8⟩ : ∃ q, q = (q7 && [(n3 : Int)].all rngN) := ⟨_, rfl⟩
  obtain ⟨q9, hq9⟩ : ∃ q, q = (q8 && pays.all payOk) := ⟨_, rfl⟩
  obtain ⟨T1, hT1⟩ : ∃ q, q = numsB [z1, z2, z3, z4, z5, z6] := ⟨_, rfl⟩
  obtain ⟨T2, hT2⟩ : ∃ q, q = T1 ++ ratB an as_ ad_ := ⟨_, rfl⟩
  obtain ⟨T3, hT3⟩ : ∃ q, q = T2 ++ ratB cn cs cd := ⟨_, rfl⟩
  obtain ⟨T4, hT4⟩ : ∃ q, q = T3 ++ numsB [(n1 : Int)] := ⟨_, rfl⟩
  obtain ⟨T5, hT5⟩ : ∃ q, q = T4 ++ legs.flatMap legB := ⟨_, rfl⟩
  obtain ⟨T6, hT6⟩ : ∃ q, q = T5 ++ numsB [(n2 : Int)] := ⟨_, rfl⟩
  obtain ⟨T7, hT7⟩ : ∃ q, q = T6 ++ opts.flatMap optB := ⟨_, rfl⟩
  obtain ⟨T8, hT8⟩ : ∃ q, q = T7 ++ numsB [(n3 : Int)] := ⟨_, rfl⟩
  obtain ⟨T9, hT9⟩ : ∃ q, q = T8 ++ pays.flatMap payB := ⟨_, rfl⟩
  have HTE : Hid (T9 = T) := by
    show _ = _
    rw [HT.out, encB, ← HN.out.1, ← HN.out.2.1, ← HN.out.2.2, hT9, hT8, hT7, hT6, hT5, hT4, hT3, hT2, hT1]
    rfl
  have HQE : Hid (ok = (q9 && decide (T.length ≤ 4096))) := by
    show _ = _
    rw [HOK.out, encOk, ← HN.out.1, ← HN.out.2.1, ← HN.out.2.2, hq9, hq8, hq7, hq6, hq5, hq4, hq3, hq2, hq1]
    rfl
  have EQ1 := Lib.hid hq1
  have EQ2 := Lib.hid hq2
  have EQ3 := Lib.hid hq3
  have EQ4 := Lib.hid hq4
  have EQ5 := Lib.hid hq5
  have EQ6 := Lib.hid hq6
  have EQ7 := Lib.hid hq7
  have EQ8 := Lib.hid hq8
  have EQ9 := Lib.hid hq9
  have ET1 := Lib.hid hT1
  have ET2 := Lib.hid hT2
  have ET3 := Lib.hid hT3
  have ET4 := Lib.hid hT4
  have ET5 := Lib.hid hT5
  have ET6 := Lib.hid hT6
  have ET7 := Lib.hid hT7
  have ET8 := Lib.hid hT8
  have ET9 := Lib.hid hT9
  clear hq1 hq2 hq3 hq4 hq5 hq6 hq7 hq8 hq9 hT1 hT2 hT3 hT4 hT5 hT6 hT7 hT8 hT9 HT HOK
  have t1 : decide ((8 : Int) < (n1 : Int)) = false := decide_eq_false (by omega)
  have t2 : decide ((4 : Int) < (n2 : Int)) = false := decide_eq_false (by omega)
  have t3 : decide ((256 : Int) < (n3 : Int)) = false := decide_eq_false (by omega)
  go_enter Tryd.func27, Tryd.ntmps27
  go_wp2_with fail
  clear t1 t2 t3
  obtain ⟨w0, hw0⟩ : ∃ w0, w0 = ((w.alloc (.cells #[.int .i64 z1, .int .i64 z2, .int .i64 z3, .int .i64 z4, .int .i64 z5, .int .i64 z6, .bool an, .string as_, .string ad_, .bool cn, .string cs, .string cd, .slice A1 n1 c1, .slice A2 n2 c2, .slice A3 n3 c3] 37)).alloc (.cells #[.int .i64 z1, .int .i64 z2, .int .i64 z3, .int .i64 z4, .int .i64 z5, .int .i64 z6, .bool an, .string as_, .string ad_, .bool cn, .string cs, .string cd, .slice A1 n1 c1, .slice A2 n2 c2] 34)).alloc (.cells #[.slice none 0 0, .bool true] 101) := ⟨_, rfl⟩
  have hsz0 : w0.heap.size = w.heap.size + 1 + 1 + 1 := by rw [hw0]; simp
  have HB0 : Hid (Below w.heap.size w w0) := by rw [hw0]; exact (((Below.refl _ _).alloc (Nat.le_refl _) _).alloc (by simp) _).alloc (by simp <;> omega) _
  have HA0 : Hid (w0.heap[w.heap.size + 1]? = some (actObj z1 z2 z3 z4 z5 z6 an as_ ad_ cn cs cd A1 n1 c1 A2 n2 c2 A3 n3 c3)) := by
    rw [hw0]
    have := blk_new (w.alloc (.cells #[.int .i64 z1, .int .i64 z2, .int .i64 z3, .int .i64 z4, .int .i64 z5, .int .i64 z6, .bool an, .string as_, .string ad_, .bool cn, .string cs, .string cd, .slice A1 n1 c1, .slice A2 n2 c2, .slice A3 n3 c3] 37)) (.cells #[.int .i64 z1, .int .i64 z2, .int .i64 z3, .int .i64 z4, .int .i64 z5, .int .i64 z6, .bool an, .string as_, .string ad_, .bool cn, .string cs, .string cd, .slice A1 n1 c1, .slice A2 n2 c2] 34)
    rw [World.size_alloc] at this
    exact blk_allocT this
  have HC0 : Hid (w0.heap[w.heap.size]? = some (recObj z1 z2 z3 z4 z5 z6 an as_ ad_ cn cs cd A1 n1 c1 A2 n2 c2 A3 n3 c3)) := by rw [hw0]; exact blk_allocT (blk_allocT (blk_new _ _))
  have HW0 : Hid (WrT w.heap.size (w.heap.size + 1 + 1) [] true 0 w0) := by
    have := blk_new ((w.alloc (.cells #[.int .i64 z1, .int .i64 z2, .int .i64 z3, .int .i64 z4, .int .i64 z5, .int .i64 z6, .bool an, .string as_, .string ad_, .bool cn, .string cs, .string cd, .slice A1 n1 c1, .slice A2 n2 c2, .slice A3 n3 c3] 37)).alloc (.cells #[.int .i64 z1, .int .i64 z2, .int .i64 z3, .int .i64 z4, .int .i64 z5, .int .i64 z6, .bool an, .string as_, .string ad_, .bool cn, .string cs, .string cd, .slice A1 n1 c1, .slice A2 n2 c2] 34)) (.cells #[.slice none 0 0, .bool true] 101)
    rw [World.size_alloc, World.size_alloc, ← hw0] at this
    exact ⟨[], ⟨.slice none 0 0, this, World.ownsRow_nil _ _ _ _, by omega⟩, by simp, fun _ => rfl⟩
  rw [← hw0]
  clear hw0
  have hbk := blk_new w0 (.cells #[.int .i64 z1, .int .i64 z2, .int .i64 z3, .int .i64 z4, .int .i64 z5, .int .i64 z6] 3)
  rw [hsz0] at hbk
  have HN_ := Lib.hid (numbersT w.heap.size (w.heap.size + 1 + 1) (0) _ 6 [] true [z1, z2, z3, z4, z5, z6] (w0.alloc (.cells #[.int .i64 z1, .int .i64 z2, .int .i64 z3, .int .i64 z4, .int .i64 z5, .int .i64 z6] 3)) (HW0.out.next (bel_alloc _ _)) (by have := HB0.out.size; simp; omega) (by omega) (by simp) HZ.out hbk (by have := HW0.out.lt; omega) q1 (by rw [EQ1.out, Bool.true_and]) T1 (by rw [ET1.out]; rfl))
  clear hbk
  refine HN_.out.mono ?_
  rintro e w1 ⟨rfl, hw, hb, hk⟩
  have HW1 := Lib.hid hw
  have HB1 : Hid (Below w.heap.size w w1) := (HB0.out.alloc (by have := HB0.out.size; omega) _).trans hb
  have HA1 : Hid (w1.heap[w.heap.size + 1]? = some (actObj z1 z2 z3 z4 z5 z6 an as_ ad_ cn cs cd A1 n1 c1 A2 n2 c2 A3 n3 c3)) := KeepT.actG z1 z2 z3 z4 z5 z6 an as_ ad_ cn cs cd A1 n1 c1 A2 n2 c2 A3 n3 c3 hk (blk_allocT HA0.out) (by omega)
  have HC1 : Hid (w1.heap[w.heap.size]? = some (recObj z1 z2 z3 z4 z5 z6 an as_ ad_ cn cs cd A1 n1 c1 A2 n2 c2 A3 n3 c3)) := KeepT.recG z1 z2 z3 z4 z5 z6 an as_ ad_ cn cs cd A1 n1 c1 A2 n2 c2 A3 n3 c3 hk (blk_allocT HC0.out) (by omega)
  have hl1 := HW1.out.lt
  clear hw hb hk HN_ HW0 HB0 HA0 HC0
  obtain ⟨k0, k1, k2, k3, k4, k5, k6, k7, k8, k9, k10, k11, k12, k13⟩ := act_cellsG z1 z2 z3 z4 z5 z6 an as_ ad_ cn cs cd A1 n1 c1 A2 n2 c2 A3 n3 c3 HA1.out
  have HN_ := Lib.hid (ratT w.heap.size (w.heap.size + 1 + 1) 66 T1 q1 an (vld an as_ ad_) as_ ad_ w1 HW1.out (by have := HB1.out.size; omega) (by omega) HQA.out.1 HQA.out.2 (fun h1 h2 W => validP_calls an as_ ad_ W (by omega) (by omega)) q2 EQ2.out T2 ET2.out)
  go_wp2_with fail
  refine HN_.out.mono ?_
  rintro e w2 ⟨rfl, hw, hb, hk⟩
  clear k0 k1 k2 k3 k4 k5 k6 k7 k8 k9 k10 k11 k12 k13
  have HW2 := Lib.hid hw
  have HB2 : Hid (Below w.heap.size w w2) := HB1.out.trans hb
  have HA2 : Hid (w2.heap[w.heap.size + 1]? = some (actObj z1 z2 z3 z4 z5 z6 an as_ ad_ cn cs cd A1 n1 c1 A2 n2 c2 A3 n3 c3)) := KeepT.actG z1 z2 z3 z4 z5 z6 an as_ ad_ cn cs cd A1 n1 c1 A2 n2 c2 A3 n3 c3 hk HA1.out (by omega)
  have HC2 : Hid (w2.heap[w.heap.size]? = some (recObj z1 z2 z3 z4 z5 z6 an as_ ad_ cn cs cd A1 n1 c1 A2 n2 c2 A3 n3 c3)) := KeepT.recG z1 z2 z3 z4 z5 z6 an as_ ad_ cn cs cd A1 n1 c1 A2 n2 c2 A3 n3 c3 hk HC1.out (by omega)
  have hl2 := HW2.out.lt
  clear hw hb hk HN_ HW1 HB1 HA1 HC1
  obtain ⟨k0, k1, k2, k3, k4, k5, k6, k7, k8, k9, k10, k11, k12, k13⟩ := act_cellsG z1 z2 z3 z4 z5 z6 an as_ ad_ cn cs cd A1 n1 c1 A2 n2 c2 A3 n3 c3 HA2.out
  have HN_ := Lib.hid (ratT w.heap.size (w.heap.size + 1 + 1) 10166 T2 q2 cn (vld cn cs cd) cs cd w2 HW2.out (by have := HB2.out.size; omega) (by omega) HQC.out.1 HQC.out.2 (fun h1 h2 W => validP_calls cn cs cd W (by omega) (by omega)) q3 EQ3.out T3 ET3.out)
  go_wp2_with fail
  refine HN_.out.mono ?_
  rintro e w3 ⟨rfl, hw, hb, hk⟩
  clear k0 k1 k2 k3 k4 k5 k6 k7 k8 k9 k10 k11 k12 k13
  have HW3 := Lib.hid hw
  have HB3 : Hid (Below w.heap.size w w3) := HB2.out.trans hb
  have HA3 : Hid (w3.heap[w.heap.size + 1]? = some (actObj z1 z2 z3 z4 z5 z6 an as_ ad_ cn cs cd A1 n1 c1 A2 n2 c2 A3 n3 c3)) := KeepT.actG z1 z2 z3 z4 z5 z6 an as_ ad_ cn cs cd A1 n1 c1 A2 n2 c2 A3 n3 c3 hk HA2.out (by omega)
  have HC3 : Hid (w3.heap[w.heap.size]? = some (recObj z1 z2 z3 z4 z5 z6 an as_ ad_ cn cs cd A1 n1 c1 A2 n2 c2 A3 n3 c3)) := KeepT.recG z1 z2 z3 z4 z5 z6 an as_ ad_ cn cs cd A1 n1 c1 A2 n2 c2 A3 n3 c3 hk HC2.out (by omega)
  have hl3 := HW3.out.lt
  clear hw hb hk HN_ HW2 HB2 HA2 HC2
  obtain ⟨k0, k1, k2, k3, k4, k5, k6, k7, k8, k9, k10, k11, k12, k13⟩ := act_cellsG z1 z2 z3 z4 z5 z6 an as_ ad_ cn cs cd A1 n1 c1 A2 n2 c2 A3 n3 c3 HA3.out
  have hbk := blk_new w3 (.cells #[.int .i64 (n1 : Int)] 3)
  have HN_ := Lib.hid (numbersT w.heap.size (w.heap.size + 1 + 1) (20266) _ 1 T3 q3 [(n1 : Int)] (w3.alloc (.cells #[.int .i64 (n1 : Int)] 3)) (HW3.out.next (bel_alloc _ _)) (by have := HB3.out.size; simp; omega) (by omega) (by simp) (by intro z hz; simp at hz; omega) hbk (by have := HW3.out.lt; omega) q4 EQ4.out T4 ET4.out)
  clear hbk
  go_wp2_with fail
  refine HN_.out.mono ?_
  rintro e v1 ⟨rfl, hw, hb, hk⟩
  clear k0 k1 k2 k3 k4 k5 k6 k7 k8 k9 k10 k11 k12 k13
  have HWn1_ := Lib.hid hw
  have HBn1_ : Hid (Below w.heap.size w v1) := (HB3.out.alloc (by have := HB3.out.size; omega) _).trans hb
  have HAn1_ : Hid (v1.heap[w.heap.size + 1]? = some (actObj z1 z2 z3 z4 z5 z6 an as_ ad_ cn cs cd A1 n1 c1 A2 n2 c2 A3 n3 c3)) := KeepT.actG z1 z2 z3 z4 z5 z6 an as_ ad_ cn cs cd A1 n1 c1 A2 n2 c2 A3 n3 c3 hk (blk_allocT HA3.out) (by omega)
  have HCn1_ : Hid (v1.heap[w.heap.size]? = some (recObj z1 z2 z3 z4 z5 z6 an as_ ad_ cn cs cd A1 n1 c1 A2 n2 c2 A3 n3 c3)) := KeepT.recG z1 z2 z3 z4 z5 z6 an as_ ad_ cn cs cd A1 n1 c1 A2 n2 c2 A3 n3 c3 hk (blk_allocT HC3.out) (by omega)
  have hln1_ := HWn1_.out.lt
  clear hw hb hk HN_ HW3 HB3 HA3 HC3
  obtain ⟨k0, k1, k2, k3, k4, k5, k6, k7, k8, k9, k10, k11, k12, k13⟩ := act_cellsG z1 z2 z3 z4 z5 z6 an as_ ad_ cn cs cd A1 n1 c1 A2 n2 c2 A3 n3 c3 HAn1_.out
  go_wp2_with fail
  go_loopw [64] (fun ii wr => ∃ k : Nat, k ≤ n1 ∧ ii = .int .i64 (k : Int) ∧ Hid (WrT w.heap.size (w.heap.size + 1 + 1) (T4 ++ (legs.take k).flatMap legB) (q4 && (legs.take k).all legOk) (20266 + 11 + 22 * k) wr) ∧ Hid (Below w.heap.size w wr) ∧ Hid (wr.heap[w.heap.size + 1]? = some (actObj z1 z2 z3 z4 z5 z6 an as_ ad_ cn cs cd A1 n1 c1 A2 n2 c2 A3 n3 c3)) ∧ Hid (wr.heap[w.heap.size]? = some (recObj z1 z2 z3 z4 z5 z6 an as_ ad_ cn cs cd A1 n1 c1 A2 n2 c2 A3 n3 c3))) (fun ii _ => n1 - (intOf ii).toNat)
  case atStart => exact ⟨0, Nat.zero_le _, rfl, (show WrT w.heap.size (w.heap.size + 1 + 1) (T4 ++ (legs.take 0).flatMap legB) (q4 && (legs.take 0).all legOk) (20266 + 11 + 22 * 0) v1 by simpa using HWn1_.out), HBn1_, HAn1_, HCn1_⟩
  case round =>
    clear HWn1_ HBn1_ HAn1_ HCn1_
    clear k0 k1 k2 k3 k4 k5 k6 k7 k8 k9 k10 k11 k12 k13
    obtain ⟨k, hk_, rfl, HWr, HBr, HAr, HCr⟩ := hrel
    rename World => wo1
    have hlr := HWr.out.lt
    have hszr := HBr.out.size
    by_cases hlt : k < n1
    · obtain ⟨p, hp⟩ : ∃ p, legs[k]? = some p := getElem?_of_lt (by have := HN.out; omega)
      have hpm := HR1.out.2 p (List.mem_of_getElem? hp)
      obtain ⟨bq, oq, hAe, hbq, hcq⟩ := Rd.at_ (enc := legV) (fun _ => rfl) (HR1.out.1.below HBr.out) hp
      subst hAe
      obtain ⟨x, y⟩ := p
      have d0 := hcq 0 _ rfl
      have d1 := hcq 1 _ rfl
      rw [Nat.add_zero] at d0
      rw [← Nat.add_assoc] at d1
      clear hcq
      have HP := Lib.hid (And.intro hp hpm)
      clear hp hpm
      have hbq2 : bq < wo1.heap.size := by omega
      have hbk := blk_new (wo1.alloc (.cells #[.int .i64 x, .int .i64 y] 49)) (.cells #[.int .i64 x, .int .i64 y] 3)
      rw [World.size_alloc] at hbk
      have HN_ := Lib.hid (numbersT w.heap.size (w.heap.size + 1 + 1) (20266 + 11 + 22 * k) _ 2 (T4 ++ (legs.take k).flatMap legB) (q4 && (legs.take k).all legOk) [x, y] ((wo1.alloc (.cells #[.int .i64 x, .int .i64 y] 49)).alloc (.cells #[.int .i64 x, .int .i64 y] 3)) ((HWr.out.next (bel_alloc _ _)).next (bel_alloc _ _)) (by have := HBr.out.size; simp; omega) (by omega) (by simp) (by intro z hz; simp at hz; have h1 := HP.out.2.1; have h2 := HP.out.2.2; unfold i64b at h1 h2; rcases hz with rfl | rfl <;> assumption) hbk (by have := HWr.out.lt; omega) (q4 && (legs.take (k + 1)).all legOk) (by rw [all_snoc _ _ _ _ HP.out.1, ← Bool.and_assoc]; rfl) (T4 ++ (legs.take (k + 1)).flatMap legB) (by rw [flat_snoc _ _ _ _ HP.out.1, ← List.append_assoc]; rfl))
      clear hbk
      go_wp2_with fail
      refine HN_.out.mono ?_
      rintro e wz ⟨rfl, hw, hb, hk⟩
      have HWz := Lib.hid hw
      have HBz : Hid (Below w.heap.size w wz) := ((HBr.out.alloc (by have := HBr.out.size; simp; omega) _).alloc (by have := HBr.out.size; simp; omega) _).trans hb
      have HAz : Hid (wz.heap[w.heap.size + 1]? = some (actObj z1 z2 z3 z4 z5 z6 an as_ ad_ cn cs cd (some ⟨bq, oq, none⟩) n1 c1 A2 n2 c2 A3 n3 c3)) := KeepT.actG z1 z2 z3 z4 z5 z6 an as_ ad_ cn cs cd (some ⟨bq, oq, none⟩) n1 c1 A2 n2 c2 A3 n3 c3 hk (blk_allocT (blk_allocT HAr.out)) (by omega)
      have HCz : Hid (wz.heap[w.heap.size]? = some (recObj z1 z2 z3 z4 z5 z6 an as_ ad_ cn cs cd (some ⟨bq, oq, none⟩) n1 c1 A2 n2 c2 A3 n3 c3)) := KeepT.recG z1 z2 z3 z4 z5 z6 an as_ ad_ cn cs cd (some ⟨bq, oq, none⟩) n1 c1 A2 n2 c2 A3 n3 c3 hk (blk_allocT (blk_allocT HCr.out)) (by omega)
      have hlz := HWz.out.lt
      clear hw hb hk HN_ HWr HBr HAr HCr d0 d1
      go_wp2_with fail
      go_roundw
      case measure => simp [intOf]; omega
      case rel => exact ⟨k + 1, by omega, by go_num, HWz, HBz, HAz, HCz⟩
    · obtain rfl : n1 = k := by omega
      have HWx1 : Hid (WrT w.heap.size (w.heap.size + 1 + 1) T5 q5 (20266 + 11 + 22 * n1) wo1) := by
        have := HWr.out
        rw [List.take_of_length_le (by have := HN.out; omega), ← ET5.out, ← EQ5.out] at this
        exact this
      have HBx1 := HBr
      have HAx1 := HAr
      have HCx1 := HCr
      clear HWr HBr HAr HCr
      obtain ⟨k0, k1, k2, k3, k4, k5, k6, k7, k8, k9, k10, k11, k12, k13⟩ := act_cellsG z1 z2 z3 z4 z5 z6 an as_ ad_ cn cs cd A1 n1 c1 A2 n2 c2 A3 n3 c3 HAx1.out
      have hbk := blk_new wo1 (.cells #[.int .i64 (n2 : Int)] 3)
      have HN_ := Lib.hid (numbersT w.heap.size (w.heap.size + 1 + 1) (20266 + 11 + 22 * n1) _ 1 T5 q5 [(n2 : Int)] (wo1.alloc (.cells #[.int .i64 (n2 : Int)] 3)) (HWx1.out.next (bel_alloc _ _)) (by have := HBx1.out.size; simp; omega) (by omega) (by simp) (by intro z hz; simp at hz; omega) hbk (by have := HWx1.out.lt; omega) q6 EQ6.out T6 ET6.out)
      clear hbk
      go_wp2_with fail
      refine HN_.out.mono ?_
      rintro e v2 ⟨rfl, hw, hb, hk⟩
      clear k0 k1 k2 k3 k4 k5 k6 k7 k8 k9 k10 k11 k12 k13
      have HWn2_ := Lib.hid hw
      have HBn2_ : Hid (Below w.heap.size w v2) := (HBx1.out.alloc (by have := HBx1.out.size; omega) _).trans hb
      have HAn2_ : Hid (v2.heap[w.heap.size + 1]? = some (actObj z1 z2 z3 z4 z5 z6 an as_ ad_ cn cs cd A1 n1 c1 A2 n2 c2 A3 n3 c3)) := KeepT.actG z1 z2 z3 z4 z5 z6 an as_ ad_ cn cs cd A1 n1 c1 A2 n2 c2 A3 n3 c3 hk (blk_allocT HAx1.out) (by omega)
      have HCn2_ : Hid (v2.heap[w.heap.size]? = some (recObj z1 z2 z3 z4 z5 z6 an as_ ad_ cn cs cd A1 n1 c1 A2 n2 c2 A3 n3 c3)) := KeepT.recG z1 z2 z3 z4 z5 z6 an as_ ad_ cn cs cd A1 n1 c1 A2 n2 c2 A3 n3 c3 hk (blk_allocT HCx1.out) (by omega)
      have hln2_ := HWn2_.out.lt
      clear hw hb hk HN_ HWx1 HBx1 HAx1 HCx1
      obtain ⟨k0, k1, k2, k3, k4, k5, k6, k7, k8, k9, k10, k11, k12, k13⟩ := act_cellsG z1 z2 z3 z4 z5 z6 an as_ ad_ cn cs cd A1 n1 c1 A2 n2 c2 A3 n3 c3 HAn2_.out
      go_wp2_with fail
      go_loopw [85] (fun ii wr => ∃ k : Nat, k ≤ n2 ∧ ii = .int .i64 (k : Int) ∧ Hid (WrT w.heap.size (w.heap.size + 1 + 1) (T6 ++ (opts.take k).flatMap optB) (q6 && (opts.take k).all optOk) (20266 + 11 + 22 * n1 + 11 + 10111 * k) wr) ∧ Hid (Below w.heap.size w wr) ∧ Hid (wr.heap[w.heap.size + 1]? = some (actObj z1 z2 z3 z4 z5 z6 an as_ ad_ cn cs cd A1 n1 c1 A2 n2 c2 A3 n3 c3)) ∧ Hid (wr.heap[w.heap.size]? = some (recObj z1 z2 z3 z4 z5 z6 an as_ ad_ cn cs cd A1 n1 c1 A2 n2 c2 A3 n3 c3))) (fun ii _ => n2 - (intOf ii).toNat)
      case atStart => exact ⟨0, Nat.zero_le _, rfl, (show WrT w.heap.size (w.heap.size + 1 + 1) (T6 ++ (opts.take 0).flatMap optB) (q6 && (opts.take 0).all optOk) (20266 + 11 + 22 * n1 + 11 + 10111 * 0) v2 by simpa using HWn2_.out), HBn2_, HAn2_, HCn2_⟩
      case round =>
        clear HWn2_ HBn2_ HAn2_ HCn2_
        clear k0 k1 k2 k3 k4 k5 k6 k7 k8 k9 k10 k11 k12 k13
        obtain ⟨k, hk_, rfl, HWr, HBr, HAr, HCr⟩ := hrel
        rename World => wo2
        have hlr := HWr.out.lt
        have hszr := HBr.out.size
        by_cases hlt : k < n2
        · obtain ⟨p, hp⟩ : ∃ p, opts[k]? = some p := getElem?_of_lt (by have := HN.out; omega)
          have hpm := HR2.out.2 p (List.mem_of_getElem? hp)
          obtain ⟨bq, oq, hAe, hbq, hcq⟩ := Rd.at_ (enc := optV) (fun _ => rfl) (HR2.out.1.below HBr.out) hp
          subst hAe
          obtain ⟨⟨ng, nu, de⟩, x⟩ := p
          have d0 := hcq 0 _ rfl
          have d1 := hcq 1 _ rfl
          have d2 := hcq 2 _ rfl
          have d3 := hcq 3 _ rfl
          rw [Nat.add_zero] at d0
          rw [← Nat.add_assoc] at d1 d2 d3
          clear hcq
          have HP := Lib.hid (And.intro hp hpm)
          clear hp hpm
          have hbq2 : bq < wo2.heap.size := by omega
          obtain ⟨Ty, hTy⟩ : ∃ q, q = T6 ++ (opts.take k).flatMap optB ++ ratB ng nu de := ⟨_, rfl⟩
          obtain ⟨qy, hqy⟩ : ∃ q, q = (q6 && (opts.take k).all optOk && (decide (nu.size ≤ 4096) && (decide (de.size ≤ 4096) && vld ng nu de))) := ⟨_, rfl⟩
          have HTY := Lib.hid (And.intro hTy hqy)
          clear hTy hqy
          have HN_ := Lib.hid (ratT w.heap.size (w.heap.size + 1 + 1) (20266 + 11 + 22 * n1 + 11 + 10111 * k) (T6 ++ (opts.take k).flatMap optB) (q6 && (opts.take k).all optOk) ng (vld ng nu de) nu de (wo2.alloc (.cells #[.bool ng, .string nu, .string de, .int .i64 x] 51)) (HWr.out.next (bel_alloc _ _)) (by have := HBr.out.size; simp; omega) (by omega) HP.out.2.1.1 HP.out.2.1.2 (fun h1 h2 W => validP_calls ng nu de W (by omega) (by omega)) qy HTY.out.2 Ty HTY.out.1)
          go_wp2_with fail
          refine HN_.out.mono ?_
          rintro e wy ⟨rfl, hw, hb, hk⟩
          have HWy := Lib.hid hw
          have HBy : Hid (Below w.heap.size w wy) := (HBr.out.alloc (by have := HBr.out.size; omega) _).trans hb
          have HAy : Hid (wy.heap[w.heap.size + 1]? = some (actObj z1 z2 z3 z4 z5 z6 an as_ ad_ cn cs cd A1 n1 c1 (some ⟨bq, oq, none⟩) n2 c2 A3 n3 c3)) := KeepT.actG z1 z2 z3 z4 z5 z6 an as_ ad_ cn cs cd A1 n1 c1 (some ⟨bq, oq, none⟩) n2 c2 A3 n3 c3 hk (blk_allocT HAr.out) (by omega)
          have HCy : Hid (wy.heap[w.heap.size]? = some (recObj z1 z2 z3 z4 z5 z6 an as_ ad_ cn cs cd A1 n1 c1 (some ⟨bq, oq, none⟩) n2 c2 A3 n3 c3)) := KeepT.recG z1 z2 z3 z4 z5 z6 an as_ ad_ cn cs cd A1 n1 c1 (some ⟨bq, oq, none⟩) n2 c2 A3 n3 c3 hk (blk_allocT HCr.out) (by omega)
          have hly := HWy.out.lt
          have hly2 := HBy.out.size
          have HOy : Hid (wy.heap[wo2.heap.size]? = some (.cells #[.bool ng, .string nu, .string de, .int .i64 x] 51 (0, 0))) := hk _ _ _ _ (blk_new _ _) (by decide) (by omega)
          have y3 : wy.cell? ⟨wo2.heap.size, 3, none⟩ = some (.int .i64 x) := by rw [cell_of_row wy _ 3 _ _ (0, 0) HOy.out]; rfl
          clear hw hb hk HN_ HWr HBr HAr HCr d0 d1 d2 d3
          have hbk := blk_new wy (.cells #[.int .i64 x] 3)
          have HN_ := Lib.hid (numbersT w.heap.size (w.heap.size + 1 + 1) (20266 + 11 + 22 * n1 + 11 + 10111 * k + 10100) _ 1 Ty qy [x] (wy.alloc (.cells #[.int .i64 x] 3)) (HWy.out.next (bel_alloc _ _)) (by have := HBy.out.size; simp; omega) (by omega) (by simp) (by intro z hz; simp at hz; have h1 := HP.out.2.2; unfold i64b at h1; rw [hz]; exact h1) hbk (by have := HWy.out.lt; omega) (q6 && (opts.take (k + 1)).all optOk) (by rw [all_snoc _ _ _ _ HP.out.1, HTY.out.2]; simp only [optOk, RQ.ok, Bool.and_assoc]) (T6 ++ (opts.take (k + 1)).flatMap optB) (by rw [flat_snoc _ _ _ _ HP.out.1, HTY.out.1]; simp only [optB, RQ.bytes, List.append_assoc]))
          clear hbk
          go_wp2_with fail
          refine HN_.out.mono ?_
          rintro e wz ⟨rfl, hw, hb, hk⟩
          have HWz := Lib.hid hw
          have HBz : Hid (Below w.heap.size w wz) := (HBy.out.alloc (by have := HBy.out.size; omega) _).trans hb
          have HAz : Hid (wz.heap[w.heap.size + 1]? = some (actObj z1 z2 z3 z4 z5 z6 an as_ ad_ cn cs cd A1 n1 c1 (some ⟨bq, oq, none⟩) n2 c2 A3 n3 c3)) := KeepT.actG z1 z2 z3 z4 z5 z6 an as_ ad_ cn cs cd A1 n1 c1 (some ⟨bq, oq, none⟩) n2 c2 A3 n3 c3 hk (blk_allocT HAy.out) (by omega)
          have HCz : Hid (wz.heap[w.heap.size]? = some (recObj z1 z2 z3 z4 z5 z6 an as_ ad_ cn cs cd A1 n1 c1 (some ⟨bq, oq, none⟩) n2 c2 A3 n3 c3)) := KeepT.recG z1 z2 z3 z4 z5 z6 an as_ ad_ cn cs cd A1 n1 c1 (some ⟨bq, oq, none⟩) n2 c2 A3 n3 c3 hk (blk_allocT HCy.out) (by omega)
          have hlz := HWz.out.lt
          clear hw hb hk HN_ HWy HBy HAy HCy HOy y3
          go_wp2_with fail
          go_roundw
          case measure => simp [intOf]; omega
          case rel => exact ⟨k + 1, by omega, by go_num, HWz, HBz, HAz, HCz⟩
        · obtain rfl : n2 = k := by omega
          have HWx2 : Hid (WrT w.heap.size (w.heap.size + 1 + 1) T7 q7 (20266 + 11 + 22 * n1 + 11 + 10111 * n2) wo2) := by
            have := HWr.out
            rw [List.take_of_length_le (by have := HN.out; omega), ← ET7.out, ← EQ7.out] at this
            exact this
          have HBx2 := HBr
          have HAx2 := HAr
          have HCx2 := HCr
          clear HWr HBr HAr HCr
          obtain ⟨k0, k1, k2, k3, k4, k5, k6, k7, k8, k9, k10, k11, k12, k13⟩ := act_cellsG z1 z2 z3 z4 z5 z6 an as_ ad_ cn cs cd A1 n1 c1 A2 n2 c2 A3 n3 c3 HAx2.out
          have krec := rec_cellsG z1 z2 z3 z4 z5 z6 an as_ ad_ cn cs cd A1 n1 c1 A2 n2 c2 A3 n3 c3 HCx2.out
          have hbk := blk_new wo2 (.cells #[.int .i64 (n3 : Int)] 3)
          have HN_ := Lib.hid (numbersT w.heap.size (w.heap.size + 1 + 1) (20266 + 11 + 22 * n1 + 11 + 10111 * n2) _ 1 T7 q7 [(n3 : Int)] (wo2.alloc (.cells #[.int .i64 (n3 : Int)] 3)) (HWx2.out.next (bel_alloc _ _)) (by have := HBx2.out.size; simp; omega) (by omega) (by simp) (by intro z hz; simp at hz; omega) hbk (by have := HWx2.out.lt; omega) q8 EQ8.out T8 ET8.out)
          clear hbk
          go_wp2_with fail
          refine HN_.out.mono ?_
          rintro e v3 ⟨rfl, hw, hb, hk⟩
          clear k0 k1 k2 k3 k4 k5 k6 k7 k8 k9 k10 k11 k12 k13 krec
          have HWn3_ := Lib.hid hw
          have HBn3_ : Hid (Below w.heap.size w v3) := (HBx2.out.alloc (by have := HBx2.out.size; omega) _).trans hb
          have HAn3_ : Hid (v3.heap[w.heap.size + 1]? = some (actObj z1 z2 z3 z4 z5 z6 an as_ ad_ cn cs cd A1 n1 c1 A2 n2 c2 A3 n3 c3)) := KeepT.actG z1 z2 z3 z4 z5 z6 an as_ ad_ cn cs cd A1 n1 c1 A2 n2 c2 A3 n3 c3 hk (blk_allocT HAx2.out) (by omega)
          have HCn3_ : Hid (v3.heap[w.heap.size]? = some (recObj z1 z2 z3 z4 z5 z6 an as_ ad_ cn cs cd A1 n1 c1 A2 n2 c2 A3 n3 c3)) := KeepT.recG z1 z2 z3 z4 z5 z6 an as_ ad_ cn cs cd A1 n1 c1 A2 n2 c2 A3 n3 c3 hk (blk_allocT HCx2.out) (by omega)
          have hln3_ := HWn3_.out.lt
          clear hw hb hk HN_ HWx2 HBx2 HAx2 HCx2
          obtain ⟨k0, k1, k2, k3, k4, k5, k6, k7, k8, k9, k10, k11, k12, k13⟩ := act_cellsG z1 z2 z3 z4 z5 z6 an as_ ad_ cn cs cd A1 n1 c1 A2 n2 c2 A3 n3 c3 HAn3_.out
          have krec := rec_cellsG z1 z2 z3 z4 z5 z6 an as_ ad_ cn cs cd A1 n1 c1 A2 n2 c2 A3 n3 c3 HCn3_.out
          go_wp2_with fail
          go_loopw [108] (fun ii wr => ∃ k : Nat, k ≤ n3 ∧ ii = .int .i64 (k : Int) ∧ Hid (WrT w.heap.size (w.heap.size + 1 + 1) (T8 ++ (pays.take k).flatMap payB) (q8 && (pays.take k).all payOk) (20266 + 11 + 22 * n1 + 11 + 10111 * n2 + 11 + 44 * k) wr) ∧ Hid (Below w.heap.size w wr) ∧ Hid (wr.heap[w.heap.size + 1]? = some (actObj z1 z2 z3 z4 z5 z6 an as_ ad_ cn cs cd A1 n1 c1 A2 n2 c2 A3 n3 c3)) ∧ Hid (wr.heap[w.heap.size]? = some (recObj z1 z2 z3 z4 z5 z6 an as_ ad_ cn cs cd A1 n1 c1 A2 n2 c2 A3 n3 c3))) (fun ii _ => n3 - (intOf ii).toNat)
          case atStart => exact ⟨0, Nat.zero_le _, rfl, (show WrT w.heap.size (w.heap.size + 1 + 1) (T8 ++ (pays.take 0).flatMap payB) (q8 && (pays.take 0).all payOk) (20266 + 11 + 22 * n1 + 11 + 10111 * n2 + 11 + 44 * 0) v3 by simpa using HWn3_.out), HBn3_, HAn3_, HCn3_⟩
          case round =>
            clear HWn3_ HBn3_ HAn3_ HCn3_
            clear k0 k1 k2 k3 k4 k5 k6 k7 k8 k9 k10 k11 k12 k13 krec
            obtain ⟨k, hk_, rfl, HWr, HBr, HAr, HCr⟩ := hrel
            rename World => wo3
            have hlr := HWr.out.lt
            have hszr := HBr.out.size
            by_cases hlt : k < n3
            · obtain ⟨p, hp⟩ : ∃ p, pays[k]? = some p := getElem?_of_lt (by have := HN.out; omega)
              have hpm := HR3.out.2 p (List.mem_of_getElem? hp)
              obtain ⟨bq, oq, hAe, hbq, hcq⟩ := Rd.at_ (enc := payV) (fun _ => rfl) (HR3.out.1.below HBr.out) hp
              subst hAe
              obtain ⟨x, y, u, v⟩ := p
              have d0 := hcq 0 _ rfl
              have d1 := hcq 1 _ rfl
              have d2 := hcq 2 _ rfl
              have d3 := hcq 3 _ rfl
              rw [Nat.add_zero] at d0
              rw [← Nat.add_assoc] at d1 d2 d3
              clear hcq
              have HP := Lib.hid (And.intro hp hpm)
              clear hp hpm
              have hbq2 : bq < wo3.heap.size := by omega
              obtain ⟨Ty, hTy⟩ : ∃ q, q = T8 ++ (pays.take k).flatMap payB ++ numsB [x, y, u] := ⟨_, rfl⟩
              obtain ⟨qy, hqy⟩ : ∃ q, q = (q8 && (pays.take k).all payOk && [x, y, u].all rngN) := ⟨_, rfl⟩
              have HTY := Lib.hid (And.intro hTy hqy)
              clear hTy hqy
              have hbk := blk_new (wo3.alloc (.cells #[.int .i64 x, .int .i64 y, .int .i64 u, .int .i64 v] 55)) (.cells #[.int .i64 x, .int .i64 y, .int .i64 u] 3)
              rw [World.size_alloc] at hbk
              have HN_ := Lib.hid (numbersT w.heap.size (w.heap.size + 1 + 1) (20266 + 11 + 22 * n1 + 11 + 10111 * n2 + 11 + 44 * k) _ 3 (T8 ++ (pays.take k).flatMap payB) (q8 && (pays.take k).all payOk) [x, y, u] ((wo3.alloc (.cells #[.int .i64 x, .int .i64 y, .int .i64 u, .int .i64 v] 55)).alloc (.cells #[.int .i64 x, .int .i64 y, .int .i64 u] 3)) ((HWr.out.next (bel_alloc _ _)).next (bel_alloc _ _)) (by have := HBr.out.size; simp; omega) (by omega) (by simp) (by intro z hz; simp at hz; have h1 := HP.out.2.1; have h2 := HP.out.2.2.1; have h3 := HP.out.2.2.2.1; unfold i64b at h1 h2 h3; rcases hz with rfl | rfl | rfl <;> assumption) hbk (by have := HWr.out.lt; omega) qy HTY.out.2 Ty HTY.out.1)
              clear hbk
              go_wp2_with fail
              refine HN_.out.mono ?_
              rintro e wy ⟨rfl, hw, hb, hk⟩
              have HOy : Hid (wy.heap[wo3.heap.size]? = some (.cells #[.int .i64 x, .int .i64 y, .int .i64 u, .int .i64 v] 55 (0, 0))) := hk _ _ _ _ (blk_allocT (blk_new _ _)) (by decide) (by omega)
              have HWy := Lib.hid hw
              have HBy : Hid (Below w.heap.size w wy) := ((HBr.out.alloc (by have := HBr.out.size; simp; omega) _).alloc (by have := HBr.out.size; simp; omega) _).trans hb
              have HAy : Hid (wy.heap[w.heap.size + 1]? = some (actObj z1 z2 z3 z4 z5 z6 an as_ ad_ cn cs cd A1 n1 c1 A2 n2 c2 (some ⟨bq, oq, none⟩) n3 c3)) := KeepT.actG z1 z2 z3 z4 z5 z6 an as_ ad_ cn cs cd A1 n1 c1 A2 n2 c2 (some ⟨bq, oq, none⟩) n3 c3 hk (blk_allocT (blk_allocT HAr.out)) (by omega)
              have HCy : Hid (wy.heap[w.heap.size]? = some (recObj z1 z2 z3 z4 z5 z6 an as_ ad_ cn cs cd A1 n1 c1 A2 n2 c2 (some ⟨bq, oq, none⟩) n3 c3)) := KeepT.recG z1 z2 z3 z4 z5 z6 an as_ ad_ cn cs cd A1 n1 c1 A2 n2 c2 (some ⟨bq, oq, none⟩) n3 c3 hk (blk_allocT (blk_allocT HCr.out)) (by omega)
              have hly := HWy.out.lt
              have hly2 := HBy.out.size
              have y3 : wy.cell? ⟨wo3.heap.size, 3, none⟩ = some (.int .i64 v) := by rw [cell_of_row wy _ 3 _ _ (0, 0) HOy.out]; rfl
              have hlo : wo3.heap.size < wy.heap.size := (Array.getElem?_eq_some_iff.1 HOy.out).1
              clear hw hb hk HN_ HWr HBr HAr HCr d0 d1 d2 d3
              have HN_ := Lib.hid (numberT w.heap.size (w.heap.size + 1 + 1) (20266 + 11 + 22 * n1 + 11 + 10111 * n2 + 11 + 44 * k + 11 * 3) Ty qy v wy HWy.out (by have := HBy.out.size; omega) (by omega) (by have := HP.out.2.2.2.2; unfold i64b at this; omega) (by have := HP.out.2.2.2.2; unfold i64b at this; omega) (q8 && (pays.take (k + 1)).all payOk) (by rw [all_snoc _ _ _ _ HP.out.1, HTY.out.2]; simp only [payOk, Bool.and_assoc]) (T8 ++ (pays.take (k + 1)).flatMap payB) (by rw [flat_snoc _ _ _ _ HP.out.1, HTY.out.1]; simp only [payB, List.append_assoc]))
              go_wp2_with fail
              refine HN_.out.mono ?_
              rintro e wz ⟨rfl, hw, hb, hk⟩
              have HWz := Lib.hid hw
              have HBz : Hid (Below w.heap.size w wz) := HBy.out.trans hb
              have HAz : Hid (wz.heap[w.heap.size + 1]? = some (actObj z1 z2 z3 z4 z5 z6 an as_ ad_ cn cs cd A1 n1 c1 A2 n2 c2 (some ⟨bq, oq, none⟩) n3 c3)) := KeepT.actG z1 z2 z3 z4 z5 z6 an as_ ad_ cn cs cd A1 n1 c1 A2 n2 c2 (some ⟨bq, oq, none⟩) n3 c3 hk HAy.out (by omega)
              have HCz : Hid (wz.heap[w.heap.size]? = some (recObj z1 z2 z3 z4 z5 z6 an as_ ad_ cn cs cd A1 n1 c1 A2 n2 c2 (some ⟨bq, oq, none⟩) n3 c3)) := KeepT.recG z1 z2 z3 z4 z5 z6 an as_ ad_ cn cs cd A1 n1 c1 A2 n2 c2 (some ⟨bq, oq, none⟩) n3 c3 hk HCy.out (by omega)
              have hlz := HWz.out.lt
              clear hw hb hk HN_ HWy HBy HAy HCy HOy y3
              go_wp2_with fail
              go_roundw
              case measure => simp [intOf]; omega
              case rel => exact ⟨k + 1, by omega, by go_num, HWz, HBz, HAz, HCz⟩
            · obtain rfl : n3 = k := by omega
              have HWx3 : Hid (WrT w.heap.size (w.heap.size + 1 + 1) T9 q9 (20266 + 11 + 22 * n1 + 11 + 10111 * n2 + 11 + 44 * n3) wo3) := by
                have := HWr.out
                rw [List.take_of_length_le (by have := HN.out; omega), ← ET9.out, ← EQ9.out] at this
                exact this
              have HBx3 := HBr
              have HAx3 := HAr
              have HCx3 := HCr
              clear HWr HBr HAr HCr
              obtain ⟨bs, hwr, hbl, hbs⟩ := HWx3.out
              obtain ⟨A, c, d0, d1, f0, f1, hg, hown⟩ := hwr.open_
              have HKR := Lib.hid (And.intro (KRd.of_own hown) hown)
              have HBS := Lib.hid hbs
              have hbl2 : bs.length ≤ 9223372036854775807 := by omega
              clear hwr hbs hg hown f0 f1
              cases q9
              · obtain rfl : ok = false := by rw [HQE.out]; rfl
                go_wp2_with fail
                go_quiet (fail)
                go_wp2_with fail
                go_ret2
                exact ⟨A, bs.length, c, rfl, (fun h => by cases h), HBx3.out.drewN _⟩
              · have HT9 : Hid (bs = T) := (HBS.out rfl).trans HTE.out
                by_cases h4 : bs.length ≤ 4096
                · have t4 : decide ((bs.length : Int) ≤ 4096) = true := decide_eq_true (by omega)
                  obtain rfl : ok = true := by rw [HQE.out, ← HT9.out, decide_eq_true h4]; rfl
                  go_wp2_with fail
                  go_quiet (fail)
                  go_wp2_with fail
                  go_ret2
                  exact ⟨A, bs.length, c, rfl, fun _ => ⟨by rw [HT9.out], by rw [← HT9.out]; exact HKR.out.1, by rw [← HT9.out]; exact HKR.out.2⟩, HBx3.out.drewN _⟩
                · have t4 : decide ((bs.length : Int) ≤ 4096) = false := decide_eq_false (by omega)
                  obtain rfl : ok = false := by rw [HQE.out, ← HT9.out, decide_eq_false h4]; rfl
                  go_wp2_with fail
                  go_quiet (fail)
                  go_wp2_with fail
                  go_ret2
                  exact ⟨A, bs.length, c, rfl, (fun h => by cases h), HBx3.out.drewN _⟩

end Go.Proofs.YtcljkdjmmolfoaaDoor

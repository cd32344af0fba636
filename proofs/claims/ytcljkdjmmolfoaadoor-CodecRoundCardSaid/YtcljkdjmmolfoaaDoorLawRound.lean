/- CodecRound: the plain walk. -/
import Derived.Test.YtcljkdjmmolfoaaDoorSameRec
import Derived.Test.YtcljkdjmmolfoaaDoorSmall
import Derived.Test.YtcljkdjmmolfoaaDoorLawPrefix
set_option linter.unusedVariables false
set_option linter.unusedSimpArgs false
namespace Go.Proofs.YtcljkdjmmolfoaaDoor
open Go.RowKit

set_option maxHeartbeats 8000000 in
set_option maxRecDepth 100000 in
theorem codecRoundLaw (a1 a2 a3 a4 a5 a6 : Int) (m1 m2 : Nat) (Al : Option Addr) (nl cl : Nat) (Ao : Option Addr) (no co : Nat) (Ap : Option Addr) (np cp : Nat) (w : World)
    (hm1 : m1 ≤ 65535) (hm2 : m2 ≤ 65535) (b1 : i16b a1) (b2 : i16b a2) (b3 : i16b a3) (b4 : i16b a4) (b5 : i16b a5) (b6 : i16b a6)
    (ll : List (Int × Int)) (lo : List (Int × Int)) (lp : List W4) (enl : nl = ll.length) (eno : no = lo.length) (enp : np = lp.length) (gl : nl ≤ maxLen) (go_ : no ≤ maxLen) (gp : np ≤ maxLen)
    (rl : Rd w w.heap.size 2 Al ll.length (ll.flatMap i8V)) (ol : ∀ p ∈ ll, i8ok p) (ro : Rd w w.heap.size 2 Ao lo.length (lo.flatMap u16V)) (oo : ∀ p ∈ lo, u16ok p) (rp : Rd w w.heap.size 4 Ap lp.length (lp.flatMap i16V)) (op : ∀ p ∈ lp, i16ok p) :
    Calls Tryd.prog 8 #[.agg #[.int .i16 a1, .int .i16 a2, .int .i16 a3, .int .i16 a4, .int .i16 a5, .int .i16 a6], .agg #[.int .u16 (m1 : Int), .int .u16 (m2 : Int)], .slice Al nl cl, .slice Ao no co, .slice Ap np cp] w fun e w' => e = .returned (.bool true) ∧ Below w.heap.size w w' := by
  have HREC := Lib.hid (fun W (hW : Below w.heap.size w W) => record_calls a1 a2 a3 a4 a5 a6 m1 m2 Al nl cl Ao no co Ap np cp W hm1 hm2 b1 b2 b3 b4 b5 b6 ll lo lp enl eno enp gl go_ gp (rl.next hW) ol (ro.next hW) oo (rp.next hW) op)
  clear hm1 hm2 b1 b2 b3 b4 b5 b6 enl eno enp gl go_ gp rl ol ro oo rp op
  obtain ⟨w0, hw0⟩ : ∃ W, W = (w.alloc (.cells #[.int .i16 a1, .int .i16 a2, .int .i16 a3, .int .i16 a4, .int .i16 a5, .int .i16 a6] 39)).alloc (.cells #[.int .u16 (m1 : Int), .int .u16 (m2 : Int)] 40) := ⟨_, rfl⟩
  have HB0 : Hid (Below w.heap.size w w0) := by rw [hw0]; exact (bel_alloc _ _).alloc (by simp) _
  have HA0 : Hid (Arrs w.heap.size a1 a2 a3 a4 a5 a6 m1 m2 w0) := by rw [hw0]; exact arrs_new w a1 a2 a3 a4 a5 a6 m1 m2
  go_enter Tryd.func8, Tryd.ntmps8
  go_upto_region 1 with fail
  rw [← hw0]
  clear hw0
  obtain ⟨k0, k1, k2, k3, k4, k5⟩ := HA0.out.1.cells
  obtain ⟨j0, j1⟩ := HA0.out.2.cells
  go_wp2_with fail
  clear k0 k1 k2 k3 k4 k5 j0 j1
  refine (HREC.out _ HB0.out).mono ?_
  rintro e w1 ⟨y1, y2, y3, y4, y5, y6, bn, bs_, bd_, dn, ds, dd, D1, p1, d1, D2, p2, d2, D3, p3, d3, legs2, opts2, pays2, rfl, hf, hsm, hb⟩
  have q1 := hf.e1
  subst q1
  have q2 := hf.e2
  subst q2
  have q3 := hf.e3
  subst q3
  obtain ⟨T, hT⟩ : ∃ T, T = recT (⟨y1, y2, y3, y4, y5, y6, ⟨bn, bs_, bd_⟩, ⟨dn, ds, dd⟩, legs2, opts2⟩, pays2) := ⟨_, rfl⟩
  have HOK : Hid (recOk (⟨y1, y2, y3, y4, y5, y6, ⟨bn, bs_, bd_⟩, ⟨dn, ds, dd⟩, legs2, opts2⟩, pays2) = true) := hsm.ok rfl
  have HB1 : Hid (Below w.heap.size w w1) := HB0.out.trans (hb.mono HB0.out.size)
  have HF1 := Lib.hid hf
  obtain ⟨q, hq⟩ : ∃ q, q = w1.heap.size := ⟨_, rfl⟩
  obtain ⟨w2, hw2⟩ : ∃ W, W = w1.alloc (.cells #[.int .i64 y1, .int .i64 y2, .int .i64 y3, .int .i64 y4, .int .i64 y5, .int .i64 y6, .bool bn, .string bs_, .string bd_, .bool dn, .string ds, .string dd, .slice D1 legs2.length d1, .slice D2 opts2.length d2, .slice D3 pays2.length d3] 37) := ⟨_, rfl⟩
  have hb2 : Below w1.heap.size w1 w2 := by rw [hw2]; exact bel_alloc _ _
  have HB2 : Hid (Below w.heap.size w w2) := HB1.out.trans (hb2.mono HB1.out.size)
  have hR2 : RecS q y1 y2 y3 y4 y5 y6 bn bs_ bd_ dn ds dd D1 legs2.length d1 D2 opts2.length d2 D3 pays2.length d3 w2 := by rw [hw2, hq]; exact blk_new _ _
  have HR2 := Lib.hid hR2
  have HF2 : Hid (RecFit y1 y2 y3 y4 y5 y6 bn bs_ bd_ dn ds dd D1 legs2.length d1 D2 opts2.length d2 D3 pays2.length d3 legs2 opts2 pays2 w2) := hf.next y1 y2 y3 y4 y5 y6 bn bs_ bd_ dn ds dd D1 legs2.length d1 D2 opts2.length d2 D3 pays2.length d3 hb2
  have hrc : w2.rangeAt q 0 [.int .i64 y1, .int .i64 y2, .int .i64 y3, .int .i64 y4, .int .i64 y5, .int .i64 y6, .bool bn, .string bs_, .string bd_, .bool dn, .string ds, .string dd, .slice D1 legs2.length d1, .slice D2 opts2.length d2, .slice D3 pays2.length d3] := fun j v hv => by
    rw [Nat.zero_add, cell_of_row w2 q j _ _ (0, 0) hR2, ← hv]; simp
  have HE := encodeW y1 y2 y3 y4 y5 y6 bn bs_ bd_ dn ds dd D1 legs2.length d1 D2 opts2.length d2 D3 pays2.length d3 legs2 opts2 pays2 w2 HF2.out T (by rw [hT]; rfl) true (by rw [hT]; have := HOK.out; exact this.symm)
  rw [show recU true T = T from rfl, show recE true = 0 from rfl] at HE
  have HE1 := Lib.hid HE
  have HT : Hid (T = recT (⟨y1, y2, y3, y4, y5, y6, ⟨bn, bs_, bd_⟩, ⟨dn, ds, dd⟩, legs2, opts2⟩, pays2)) := hT
  have hn4 : T.length ≤ 4096 := by rw [hT]; exact recOk_len HOK.out
  have HBZ : Hid (Byt T) := by show Byt T; rw [hT]; exact recT_byt _
  have HNO : Hid (decBy pNum pRat T = some (⟨y1, y2, y3, y4, y5, y6, ⟨bn, bs_, bd_⟩, ⟨dn, ds, dd⟩, legs2, opts2⟩, pays2)) := by show _ = _; rw [hT]; exact decBy_enc decOkP HOK.out
  have hqw : w.heap.size ≤ q := by rw [hq]; exact HB1.out.size
  have HW2 := Lib.hid hw2
  have HQ := Lib.hid hq
  have HRC := Lib.hid hrc
  clear hsm hb HREC HE HB0 HA0 hT hf hb2 hR2 hw2 hq hrc HB1 HF1 HOK
  have hrc := HRC.out
  rw [HW2.out, HQ.out] at hrc
  go_wp2_with (refine wpList_load_mid rfl 37 (.tmp 11) rfl w1.heap.size 0 rfl [.int .i64 y1, .int .i64 y2, .int .i64 y3, .int .i64 y4, .int .i64 y5, .int .i64 y6, .bool bn, .string bs_, .string bd_, .bool dn, .string ds, .string dd, .slice D1 legs2.length d1, .slice D2 opts2.length d2, .slice D3 pays2.length d3] _ hrc Tryd.underlying37 rfl (by kernel_rfl) ?_)
  rw [← HW2.out, ← HQ.out]
  clear HW2 HQ hrc HRC
  refine HE1.out.mono ?_
  rintro e w3 ⟨Ab, cb, rfl, hk, hb, ho⟩
  have HDP := Lib.hid (pDecode_calls Ab T.length cb T w3 rfl hk HBZ.out (own_cap ho).1 (own_cap ho).2)
  have HB3 : Hid (Below w.heap.size w w3) := HB2.out.trans (hb.mono HB2.out.size)
  have HR3 : Hid (RecS q y1 y2 y3 y4 y5 y6 bn bs_ bd_ dn ds dd D1 legs2.length d1 D2 opts2.length d2 D3 pays2.length d3 w3) := RecS.below y1 y2 y3 y4 y5 y6 bn bs_ bd_ dn ds dd D1 legs2.length d1 D2 opts2.length d2 D3 pays2.length d3 HR2.out hb
  have HF3 : Hid (RecFit y1 y2 y3 y4 y5 y6 bn bs_ bd_ dn ds dd D1 legs2.length d1 D2 opts2.length d2 D3 pays2.length d3 legs2 opts2 pays2 w3) := HF2.out.next y1 y2 y3 y4 y5 y6 bn bs_ bd_ dn ds dd D1 legs2.length d1 D2 opts2.length d2 D3 pays2.length d3 hb
  clear hk hb ho HE1 HB2 HR2 HF2
  go_wp2_with fail
  refine HDP.out.mono ?_
  rintro e w4 ⟨_, hs_, hb⟩
  obtain ⟨B1, e1, B2, e2, B3, e3, rfl, s1, s2, s3⟩ := hs_ _ HNO.out
  dsimp only at s1 s2 s3 ⊢
  have HB4 : Hid (Below w.heap.size w w4) := HB3.out.trans (hb.mono HB3.out.size)
  have hR4 : RecS q y1 y2 y3 y4 y5 y6 bn bs_ bd_ dn ds dd D1 legs2.length d1 D2 opts2.length d2 D3 pays2.length d3 w4 := RecS.below y1 y2 y3 y4 y5 y6 bn bs_ bd_ dn ds dd D1 legs2.length d1 D2 opts2.length d2 D3 pays2.length d3 HR3.out hb
  have hF4 : RecFit y1 y2 y3 y4 y5 y6 bn bs_ bd_ dn ds dd D1 legs2.length d1 D2 opts2.length d2 D3 pays2.length d3 legs2 opts2 pays2 w4 := HF3.out.next y1 y2 y3 y4 y5 y6 bn bs_ bd_ dn ds dd D1 legs2.length d1 D2 opts2.length d2 D3 pays2.length d3 hb
  obtain ⟨w5, hw5⟩ : ∃ W, W = w4.alloc (.cells #[.int .i64 y1, .int .i64 y2, .int .i64 y3, .int .i64 y4, .int .i64 y5, .int .i64 y6, .bool bn, .string bs_, .string bd_, .bool dn, .string ds, .string dd, .slice B1 legs2.length e1, .slice B2 opts2.length e2, .slice B3 pays2.length e3] 37) := ⟨_, rfl⟩
  obtain ⟨p, hp⟩ : ∃ p, p = w4.heap.size := ⟨_, rfl⟩
  have hb5 : Below w4.heap.size w4 w5 := by rw [hw5]; exact bel_alloc _ _
  have HB5 : Hid (Below w.heap.size w w5) := HB4.out.trans (hb5.mono HB4.out.size)
  have HR5 : Hid (RecS q y1 y2 y3 y4 y5 y6 bn bs_ bd_ dn ds dd D1 legs2.length d1 D2 opts2.length d2 D3 pays2.length d3 w5) := RecS.below y1 y2 y3 y4 y5 y6 bn bs_ bd_ dn ds dd D1 legs2.length d1 D2 opts2.length d2 D3 pays2.length d3 hR4 hb5
  have HP5 : Hid (RecS p y1 y2 y3 y4 y5 y6 bn bs_ bd_ dn ds dd B1 legs2.length e1 B2 opts2.length e2 B3 pays2.length e3 w5) := by rw [hw5, hp]; exact blk_new _ _
  have HF5 : Hid (RecFit y1 y2 y3 y4 y5 y6 bn bs_ bd_ dn ds dd D1 legs2.length d1 D2 opts2.length d2 D3 pays2.length d3 legs2 opts2 pays2 w5) := hF4.next y1 y2 y3 y4 y5 y6 bn bs_ bd_ dn ds dd D1 legs2.length d1 D2 opts2.length d2 D3 pays2.length d3 hb5
  have HS5 := Lib.hid (And.intro (s1.next hb5) (And.intro (s2.next hb5) (s3.next hb5)))
  have HW5 := Lib.hid hw5
  have HP := Lib.hid hp
  clear hs_ hb s1 s2 s3 HDP HB3 HR3 HF3 HB4 hR4 hF4 hb5 hw5 hp
  go_wp2_with fail
  rw [← HW5.out, ← HP.out]
  clear HW5 HP
  refine (awake35_calls _).mono ?_
  rintro e w6 ⟨rfl, hb⟩
  have HB6 : Hid (Below w.heap.size w w6) := HB5.out.trans (hb.mono HB5.out.size)
  have HR6 : Hid (RecS q y1 y2 y3 y4 y5 y6 bn bs_ bd_ dn ds dd D1 legs2.length d1 D2 opts2.length d2 D3 pays2.length d3 w6) := RecS.below y1 y2 y3 y4 y5 y6 bn bs_ bd_ dn ds dd D1 legs2.length d1 D2 opts2.length d2 D3 pays2.length d3 HR5.out hb
  have HP6 : Hid (RecS p y1 y2 y3 y4 y5 y6 bn bs_ bd_ dn ds dd B1 legs2.length e1 B2 opts2.length e2 B3 pays2.length e3 w6) := RecS.below y1 y2 y3 y4 y5 y6 bn bs_ bd_ dn ds dd B1 legs2.length e1 B2 opts2.length e2 B3 pays2.length e3 HP5.out hb
  have HF6 : Hid (RecFit y1 y2 y3 y4 y5 y6 bn bs_ bd_ dn ds dd D1 legs2.length d1 D2 opts2.length d2 D3 pays2.length d3 legs2 opts2 pays2 w6) := HF5.out.next y1 y2 y3 y4 y5 y6 bn bs_ bd_ dn ds dd D1 legs2.length d1 D2 opts2.length d2 D3 pays2.length d3 hb
  have HS6 := Lib.hid (And.intro (HS5.out.1.next hb) (And.intro (HS5.out.2.1.next hb) (HS5.out.2.2.next hb)))
  clear hb HB5 HR5 HP5 HF5 HS5
  obtain ⟨k0, k1, k2, k3, k4, k5, k6, k7, k8, k9, k10, k11, k12, k13, k14⟩ := RecS.cells y1 y2 y3 y4 y5 y6 bn bs_ bd_ dn ds dd D1 legs2.length d1 D2 opts2.length d2 D3 pays2.length d3 HR6.out
  obtain ⟨j0, j1, j2, j3, j4, j5, j6, j7, j8, j9, j10, j11, j12, j13, j14⟩ := RecS.cells y1 y2 y3 y4 y5 y6 bn bs_ bd_ dn ds dd B1 legs2.length e1 B2 opts2.length e2 B3 pays2.length e3 HP6.out
  go_wp2_with fail
  clear k0 k1 k2 k3 k4 k5 k6 k7 k8 k9 k10 k11 k12 k13 k14 j0 j1 j2 j3 j4 j5 j6 j7 j8 j9 j10 j11 j12 j13 j14 HR6 HP6
  have hf := HF6.out
  refine (sameRecord_calls y1 y2 y3 y4 y5 y6 bn bs_ bd_ dn ds dd D1 _ d1 D2 _ d2 D3 _ d3 B1 e1 B2 e2 B3 e3 legs2 opts2 pays2 w6 rfl rfl rfl hf.r1 hf.r2 hf.r3 HS6.out.1 HS6.out.2.1 HS6.out.2.2 hf.g1 hf.g2 hf.g3).mono ?_
  clear hf
  rintro e w7 ⟨rfl, hb⟩
  have HB7 : Hid (Below w.heap.size w w7) := HB6.out.trans (hb.mono HB6.out.size)
  clear hb HB6 HF6 HS6
  go_wp2_with fail
  go_ret
  exact ⟨rfl, HB7.out⟩

end Go.Proofs.YtcljkdjmmolfoaaDoor

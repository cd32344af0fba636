/- CodecPrefix: the plain walk. -/
import Derived.Test.YtcljkdjmmolfoaaDoorSmall
import Derived.Test.YtcljkdjmmolfoaaDoorLawEncode
import Derived.Laws.AppendOwnNone
set_option linter.unusedVariables false
set_option linter.unusedSimpArgs false
namespace Go.Proofs.YtcljkdjmmolfoaaDoor
open Go.RowKit

theorem recT_pos (r : RecD) : 0 < (recT r).length := by
  have h := vint_pos (zig r.1.z1)
  simp only [recT, encB, recZ, numsB, List.flatMap_cons, List.length_append]
  omega
theorem recT_byt (r : RecD) : Byt (recT r) := encB_byt _ _ _ _ _ _
theorem newsU {W : World} {B b off : Nat} {l : List Nat} (h : KRd .u8 W B (some ⟨b, off, none⟩) l) : ∀ (j : Nat) (u : Value), (u8s l)[j]? = some u → W.cell? ((⟨b, off, none⟩ : Addr).add j) = some u := by
  intro j u hu
  rw [Addr.add_lit]
  unfold u8s at hu
  rw [List.getElem?_map] at hu
  rcases hj : l[j]? with _ | x
  · rw [hj] at hu; simp at hu
  · rw [hj] at hu
    simp only [Option.map_some, Option.some.injEq] at hu
    subst hu
    obtain ⟨b', off', e, _, hc⟩ := h.at_ hj
    simp only [Option.some.injEq, Addr.mk.injEq, and_true] at e
    obtain ⟨rfl, rfl⟩ := e
    exact hc
theorem u8_one (l : List Nat) : ∀ u ∈ u8s l, u.oneCell' = true := by
  intro u hu; obtain ⟨x, _, rfl⟩ := List.mem_map.1 hu; rfl
/-- a world behind the arrays of a law's own -/
def Arrs (q : Nat) (a1 a2 a3 a4 a5 a6 : Int) (m1 m2 : Nat) (W : World) : Prop := Arr6 q a1 a2 a3 a4 a5 a6 W ∧ Arr2 (q + 1) m1 m2 W
theorem arrs_new (w : World) (a1 a2 a3 a4 a5 a6 : Int) (m1 m2 : Nat) : Arrs w.heap.size a1 a2 a3 a4 a5 a6 m1 m2 ((w.alloc (.cells #[.int .i16 a1, .int .i16 a2, .int .i16 a3, .int .i16 a4, .int .i16 a5, .int .i16 a6] 39)).alloc (.cells #[.int .u16 (m1 : Int), .int .u16 (m2 : Int)] 40)) := by
  refine ⟨blk_alloc (blk_new _ _), ?_⟩
  have := blk_new (w.alloc (.cells #[.int .i16 a1, .int .i16 a2, .int .i16 a3, .int .i16 a4, .int .i16 a5, .int .i16 a6] 39)) (.cells #[.int .u16 (m1 : Int), .int .u16 (m2 : Int)] 40)
  rw [World.size_alloc] at this
  exact this

set_option maxHeartbeats 8000000 in
set_option maxRecDepth 100000 in
theorem codecPrefixLaw (a1 a2 a3 a4 a5 a6 : Int) (m1 m2 : Nat) (Al : Option Addr) (nl cl : Nat) (Ao : Option Addr) (no co : Nat) (Ap : Option Addr) (np cp : Nat) (Am : Option Addr) (nm cm : Nat) (more : List Nat) (w : World)
    (hm1 : m1 ≤ 65535) (hm2 : m2 ≤ 65535) (b1 : i16b a1) (b2 : i16b a2) (b3 : i16b a3) (b4 : i16b a4) (b5 : i16b a5) (b6 : i16b a6)
    (ll : List (Int × Int)) (lo : List (Int × Int)) (lp : List W4) (enl : nl = ll.length) (eno : no = lo.length) (enp : np = lp.length) (gl : nl ≤ maxLen) (go_ : no ≤ maxLen) (gp : np ≤ maxLen)
    (rl : Rd w w.heap.size 2 Al ll.length (ll.flatMap i8V)) (ol : ∀ p ∈ ll, i8ok p) (ro : Rd w w.heap.size 2 Ao lo.length (lo.flatMap u16V)) (oo : ∀ p ∈ lo, u16ok p) (rp : Rd w w.heap.size 4 Ap lp.length (lp.flatMap i16V)) (op : ∀ p ∈ lp, i16ok p) (enm : nm = more.length) (rm : KRd .u8 w w.heap.size Am more) (hbm : Byt more) (hncm : nm ≤ cm ∧ cm ≤ maxLen ∧ (Am = none → cm = 0)) :
    Calls Tryd.prog 9 #[.agg #[.int .i16 a1, .int .i16 a2, .int .i16 a3, .int .i16 a4, .int .i16 a5, .int .i16 a6], .agg #[.int .u16 (m1 : Int), .int .u16 (m2 : Int)], .slice Al nl cl, .slice Ao no co, .slice Ap np cp, .slice Am nm cm] w fun e w' => e = .returned (.bool true) ∧ Below w.heap.size w w' := by
  have HREC := Lib.hid (fun W (hW : Below w.heap.size w W) => record_calls a1 a2 a3 a4 a5 a6 m1 m2 Al nl cl Ao no co Ap np cp W hm1 hm2 b1 b2 b3 b4 b5 b6 ll lo lp enl eno enp gl go_ gp (rl.next hW) ol (ro.next hW) oo (rp.next hW) op)
  clear hm1 hm2 b1 b2 b3 b4 b5 b6 enl eno enp gl go_ gp rl ol ro oo rp op
  have HM := Lib.hid (And.intro enm (And.intro rm (And.intro hbm hncm)))
  obtain ⟨hm1, hm2, hm3⟩ := hncm
  unfold maxLen at hm2
  clear enm rm hbm hm3
  obtain ⟨w0, hw0⟩ : ∃ W, W = (w.alloc (.cells #[.int .i16 a1, .int .i16 a2, .int .i16 a3, .int .i16 a4, .int .i16 a5, .int .i16 a6] 39)).alloc (.cells #[.int .u16 (m1 : Int), .int .u16 (m2 : Int)] 40) := ⟨_, rfl⟩
  have HB0 : Hid (Below w.heap.size w w0) := by rw [hw0]; exact (bel_alloc _ _).alloc (by simp) _
  have HA0 : Hid (Arrs w.heap.size a1 a2 a3 a4 a5 a6 m1 m2 w0) := by rw [hw0]; exact arrs_new w a1 a2 a3 a4 a5 a6 m1 m2
  by_cases hbig : 40 < nm
  · have hd : decide ((40 : Int) < (nm : Int)) = true := decide_eq_true (by omega)
    clear HREC HA0
    go_enter Tryd.func9, Tryd.ntmps9
    go_upto_region 1 with fail
    rw [← hw0]
    clear hw0
    go_wp2_with fail
    refine (awake35_calls _).mono ?_
    rintro e w1 ⟨rfl, hb⟩
    have HB1 : Hid (Below w.heap.size w w1) := HB0.out.trans (hb.mono HB0.out.size)
    clear hb
    go_wp2_with fail
    go_ret
    exact ⟨rfl, HB1.out⟩
  · have hd : decide ((40 : Int) < (nm : Int)) = false := decide_eq_false (by omega)
    go_enter Tryd.func9, Tryd.ntmps9
    go_upto_region 1 with fail
    rw [← hw0]
    clear hw0
    obtain ⟨k0, k1, k2, k3, k4, k5⟩ := HA0.out.1.cells
    obtain ⟨j0, j1⟩ := HA0.out.2.cells
    go_wp2_with fail
    clear k0 k1 k2 k3 k4 k5 j0 j1
    refine (HREC.out _ HB0.out).mono ?_
    rintro e w1 ⟨y1, y2, y3, y4, y5, y6, bn, bs_, bd_, dn, ds, dd, D1, p1, d1, D2, p2, d2, D3, p3, d3, legs2, opts2, pays2, rfl, hf, hsm, hb⟩
    obtain ⟨D, hD⟩ : ∃ D : RecD, D = (⟨y1, y2, y3, y4, y5, y6, ⟨bn, bs_, bd_⟩, ⟨dn, ds, dd⟩, legs2, opts2⟩, pays2) := ⟨_, rfl⟩
    obtain ⟨T, hT⟩ : ∃ T, T = recT D := ⟨_, rfl⟩
    have HOK : Hid (recOk D = true) := by rw [hD]; exact hsm.ok rfl
    have HE := encodeW y1 y2 y3 y4 y5 y6 bn bs_ bd_ dn ds dd D1 p1 d1 D2 p2 d2 D3 p3 d3 legs2 opts2 pays2 w1 hf T (by rw [hT, hD]; rfl) true (by rw [hT]; have := HOK.out; rw [hD] at this ⊢; exact this.symm)
    rw [show recU true T = T from rfl, show recE true = 0 from rfl] at HE
    have HE1 := Lib.hid HE
    have HB1 : Hid (Below w.heap.size w w1) := HB0.out.trans (hb.mono HB0.out.size)
    obtain ⟨n, hn⟩ : ∃ n, n = T.length := ⟨_, rfl⟩
    have HT : Hid (T = recT D ∧ n = T.length) := ⟨hT, hn⟩
    have hnp : 0 < n := by rw [hn, hT]; exact recT_pos D
    have hn4 : n ≤ 4096 := by rw [hn, hT]; exact recOk_len HOK.out
    clear hsm hb HREC HE HB0 HA0 hT hn hf hD
    go_wp2_with fail
    refine HE1.out.mono ?_
    rintro e w2 ⟨Ab, cb, rfl, hk, hb, ho⟩
    rw [← HT.out.2] at ho ⊢
    have HK2 := Lib.hid hk
    have HB2 : Hid (Below w.heap.size w w2) := HB1.out.trans (hb.mono HB1.out.size)
    have hcap := own_cap ho
    obtain ⟨hc1, hc2⟩ := hcap
    have HC2 := Lib.hid hc2
    unfold maxLen at hc2
    have HBZ : Hid (Byt T) := by rw [HT.out.1]; exact recT_byt D
    clear hk hb ho HE1 HB1
    go_wp2_with fail
    go_loopw [15] (fun ii wr => ∃ k : Nat, k ≤ n ∧ ii = .int .i64 (k : Int) ∧ Hid (Below w2.heap.size w2 wr)) (fun ii _ => n - (intOf ii).toNat)
    case atStart => exact ⟨0, Nat.zero_le _, rfl, Below.refl _ _⟩
    case round =>
      obtain ⟨k, hk, rfl, HBr⟩ := hrel
      rename World => wo
      by_cases hlt : k < n
      · have HDP := Lib.hid (pDecode_calls Ab k cb (T.take k) wo (by rw [List.length_take, ← HT.out.2]; omega) ((HK2.out.next HBr.out).take k) (fun x hx => HBZ.out x (List.mem_of_mem_take hx)) (by omega) HC2.out)
        have HNO : Hid (decBy pNum pRat (T.take k) = none) := by show _ = _; rw [HT.out.1]; exact decBy_take decOkP HOK.out (by rw [← HT.out.1, ← HT.out.2]; exact hlt)
        have hkc : (k : Int) ≤ (cb : Int) := by omega
        go_wp2_with fail
        refine HDP.out.mono ?_
        rintro e w3 ⟨hn_, hs_, hb⟩
        obtain rfl := hn_ HNO.out
        have HB3 : Hid (Below w2.heap.size w2 w3) := HBr.out.trans (hb.mono HBr.out.size)
        clear hn_ hs_ hb HDP HNO HBr
        have HN4 := Lib.hid (HB3.out.alloc HB3.out.size (.cells #[.int .i64 0, .int .i64 0, .int .i64 0, .int .i64 0, .int .i64 0, .int .i64 0, .bool false, .string ⟨#[]⟩, .string ⟨#[]⟩, .bool false, .string ⟨#[]⟩, .string ⟨#[]⟩, .slice none 0 0, .slice none 0 0, .slice none 0 0] 37))
        go_wp2_with fail
        go_roundw
        case measure => simp [intOf]; omega
        case rel => exact ⟨k + 1, by omega, by go_num, HN4.out⟩
      · have hkn : k = n := by omega
        subst hkn
        clear hlt
        obtain ⟨b, off, hAb, hbl, _⟩ := HK2.out.open_ (by rw [← HT.out.2]; exact hnp)
        subst hAb
        obtain ⟨i0, hi, hz0', hz1, hz2⟩ := info_parts Tryd.info_u8
        have HI0 : Hid (Tryd.prog.info? 5 = some i0 ∧ i0.zero = some (.int .u8 0) ∧ i0.size = 1 ∧ i0.bytes = 1) := ⟨hi, hz0', hz1, hz2⟩
        clear hi hz0' hz1 hz2
        have HOW : Hid ((wo.alloc (.cells #[] 5)).ownsRow wo.heap.size 5 1 (.slice (some ⟨wo.heap.size, 0, none⟩) 0 0) 0 []) := ⟨rfl, .inr ⟨wo.heap.size, 0, #[], rfl, Nat.le_refl _, heap_alloc_new _ _, Nat.le_refl _, by simp [maxLen], rfl, rfl⟩⟩
        have HNW : Hid (∀ (j : Nat) (u : Value), (u8s T)[j]? = some u → (wo.alloc (.cells #[] 5)).cell? ((⟨b, off, none⟩ : Addr).add j) = some u) := newsU ((HK2.out.next HBr.out).next (bel_alloc wo _))
        have HLN : Hid ((u8s T).length = k * 1) := by show _ = _; rw [u8s_len, ← HT.out.2, Nat.mul_one]
        have HBo : Hid (Below w.heap.size w wo) := HB2.out.trans (HBr.out.mono HB2.out.size)
        have HWO : Hid (w.heap.size ≤ wo.heap.size) := HBo.out.size
        clear HBr HB2
        go_wp2_with (at_builtin; refine wpList_append_own _ rfl (.tmp 52) (.tmp 53) 22 rfl wo.heap.size 5 i0 (.int .u8 0) 1 1 Tryd.underlying22 HI0.out.1 HI0.out.2.1 HI0.out.2.2.1 HI0.out.2.2.2 rfl (by decide) _ 0 [] rfl HOW.out ⟨b, off, none⟩ k cb (u8s T) rfl HLN.out HNW.out (u8_one _) (by simp only [maxLen]; omega) (by omega) (by simp) ?_)
        intro v' w3 hown' hg3 hnil
        have hb3 : Below w.heap.size w w3 := Below.grown (HBo.out.alloc HBo.out.size _) hg3 (by have := HBo.out.size; simp; omega) (fun q hq => Nat.le_trans HBo.out.size (HOW.out.lt q hq).1)
        have HOWN := Lib.hid hown'
        have HB3 := Lib.hid hb3
        have hws : wo.heap.size ≤ w3.heap.size := Nat.le_trans (by simp) hg3.size
        have HWS := Lib.hid hws
        have HMM := Lib.hid (HM.out.2.1.upTo hb3 hb3.size)
        clear hown' hb3 hg3 hnil hws HOW HNW HLN HK2 HBo
        by_cases hz : nm = 0
        · have hq0 : ((nm : Int) == 0) = true := by rw [hz]; rfl
          obtain rfl : more = [] := List.eq_nil_of_length_eq_zero (by rw [← HM.out.1]; exact hz)
          subst hz
          have HNO : Hid (decBy pNum pRat T = some D) := by show _ = _; rw [HT.out.1]; exact decBy_enc decOkP HOK.out
          obtain ⟨g, cap, rfl, hge, hgl⟩ := HOWN.out.form hnp
          cases Am with
          | none =>
            obtain rfl : cm = 0 := HM.out.2.2.2.2.2 rfl
            have HDP := Lib.hid (pDecode_calls (some ⟨g, 0, none⟩) k cap T w3 HT.out.2 (KRd.of_own HOWN.out) HBZ.out (own_cap HOWN.out).1 (own_cap HOWN.out).2)
            have HB4 := HB3
            clear HB3
            go_wp2_with (at_builtin; refine wpList_append_own_none rfl (.tmp 54) (.tmp 55) 22 rfl wo.heap.size 5 i0 1 Tryd.underlying22 HI0.out.1 _ k (u8s T) rfl HOWN.out rfl ?_)
            refine HDP.out.mono ?_
            rintro e w5 ⟨hs_, hn_, hb⟩
            obtain ⟨B1, e1, B2, e2, B3, e3, rfl, _, _, _⟩ := hn_ D HNO.out
            have HB5 : Hid (Below w.heap.size w w5) := HB4.out.trans (hb.mono HB4.out.size)
            clear hn_ hs_ hb HDP HNO HB4
            have HB6 := Lib.hid (HB5.out.alloc HB5.out.size (.cells #[.int .i64 D.1.z1, .int .i64 D.1.z2, .int .i64 D.1.z3, .int .i64 D.1.z4, .int .i64 D.1.z5, .int .i64 D.1.z6, .bool D.1.a.neg, .string D.1.a.num, .string D.1.a.den, .bool D.1.c.neg, .string D.1.c.num, .string D.1.c.den, .slice B1 D.1.legs.length e1, .slice B2 D.1.opts.length e2, .slice B3 D.2.length e3] 37))
            go_wp2_with fail
            refine (awake35_calls _).mono ?_
            rintro e w6 ⟨rfl, hb⟩
            have HB7 : Hid (Below w.heap.size w w6) := HB6.out.trans (hb.mono HB6.out.size)
            clear hb HB6 HB5
            go_wp2_with fail
            go_ret
            exact ⟨rfl, HB7.out⟩
          | some ad =>
            have hbs : w.heap.size ≤ w3.heap.size := HB3.out.size
            go_wp2_with (at_builtin; refine wpList_append_own _ rfl (.tmp 54) (.tmp 55) 22 rfl wo.heap.size 5 i0 (.int .u8 0) 1 1 Tryd.underlying22 HI0.out.1 HI0.out.2.1 HI0.out.2.2.1 HI0.out.2.2.2 rfl (by decide) _ k (u8s T) rfl HOWN.out ad 0 cm [] rfl rfl (fun j u h => by simp at h) (fun u h => by cases h) (by simp only [maxLen]; omega) (by omega) HWS.out ?_)
            intro v' w4 hown4 hg4 hnil
            have hb4 : Below w.heap.size w w4 := Below.grown HB3.out hg4 hbs (fun q hq => Nat.le_trans HWO.out (HOWN.out.lt q hq).1)
            obtain ⟨g2, cap2, rfl, hge2, hgl2⟩ := hown4.form hnp
            have HDP := Lib.hid (pDecode_calls (some ⟨g2, 0, none⟩) k cap2 T w4 HT.out.2 (KRd.of_own hown4) HBZ.out (own_cap hown4).1 (own_cap hown4).2)
            have HB4 := Lib.hid hb4
            clear hb4 hown4 hg4 hnil HB3 HOWN HWS
            go_wp2_with fail
            refine HDP.out.mono ?_
            rintro e w5 ⟨hs_, hn_, hb⟩
            obtain ⟨B1, e1, B2, e2, B3, e3, rfl, _, _, _⟩ := hn_ D HNO.out
            have HB5 : Hid (Below w.heap.size w w5) := HB4.out.trans (hb.mono HB4.out.size)
            clear hn_ hs_ hb HDP HNO HB4
            have HB6 := Lib.hid (HB5.out.alloc HB5.out.size (.cells #[.int .i64 D.1.z1, .int .i64 D.1.z2, .int .i64 D.1.z3, .int .i64 D.1.z4, .int .i64 D.1.z5, .int .i64 D.1.z6, .bool D.1.a.neg, .string D.1.a.num, .string D.1.a.den, .bool D.1.c.neg, .string D.1.c.num, .string D.1.c.den, .slice B1 D.1.legs.length e1, .slice B2 D.1.opts.length e2, .slice B3 D.2.length e3] 37))
            go_wp2_with fail
            refine (awake35_calls _).mono ?_
            rintro e w6 ⟨rfl, hb⟩
            have HB7 : Hid (Below w.heap.size w w6) := HB6.out.trans (hb.mono HB6.out.size)
            clear hb HB6 HB5
            go_wp2_with fail
            go_ret
            exact ⟨rfl, HB7.out⟩
        · have hq0 : ((nm : Int) == 0) = false := by rw [beq_eq_false_iff_ne]; omega
          have HNO : Hid (decBy pNum pRat (T ++ more) = none) := by show _ = _; rw [HT.out.1]; exact decBy_more decOkP HOK.out (fun h => hz (by rw [HM.out.1, h]; rfl))
          obtain ⟨bm, om, rfl, _, _⟩ := HMM.out.open_ (by rw [← HM.out.1]; omega)
          have HNM : Hid (∀ (j : Nat) (u : Value), (u8s more)[j]? = some u → w3.cell? ((⟨bm, om, none⟩ : Addr).add j) = some u) := newsU HMM.out
          have HLM : Hid ((u8s more).length = nm * 1) := by show _ = _; rw [u8s_len, ← HM.out.1, Nat.mul_one]
          have hbs : w.heap.size ≤ w3.heap.size := HB3.out.size
          go_wp2_with (at_builtin; refine wpList_append_own _ rfl (.tmp 54) (.tmp 55) 22 rfl wo.heap.size 5 i0 (.int .u8 0) 1 1 Tryd.underlying22 HI0.out.1 HI0.out.2.1 HI0.out.2.2.1 HI0.out.2.2.2 rfl (by decide) _ k (u8s T) rfl HOWN.out ⟨bm, om, none⟩ nm cm (u8s more) rfl HLM.out HNM.out (u8_one _) (by simp only [maxLen]; omega) (by omega) HWS.out ?_)
          intro v' w4 hown4 hg4 hnil
          have hb4 : Below w.heap.size w w4 := Below.grown HB3.out hg4 hbs (fun q hq => Nat.le_trans HWO.out (HOWN.out.lt q hq).1)
          rw [show u8s T ++ u8s more = u8s (T ++ more) by simp [u8s]] at hown4
          obtain ⟨g2, cap2, rfl, hge2, hgl2⟩ := hown4.form (by omega)
          have hlen : k + nm = (T ++ more).length := by rw [List.length_append, ← HT.out.2, ← HM.out.1]
          have HDP := Lib.hid (pDecode_calls (some ⟨g2, 0, none⟩) (k + nm) cap2 (T ++ more) w4 hlen (KRd.of_own hown4) (fun x hx => (List.mem_append.1 hx).elim (HBZ.out x) (HM.out.2.2.1 x)) (own_cap hown4).1 (own_cap hown4).2)
          have HB4 := Lib.hid hb4
          clear hb4 hown4 hg4 hnil HB3 HOWN HWS hlen HNM HLM
          go_wp2_with fail
          refine HDP.out.mono ?_
          rintro e w5 ⟨hn_, hs_, hb⟩
          obtain rfl := hn_ HNO.out
          have HB5 : Hid (Below w.heap.size w w5) := HB4.out.trans (hb.mono HB4.out.size)
          clear hn_ hs_ hb HDP HNO HB4
          have HB6 := Lib.hid (HB5.out.alloc HB5.out.size (.cells #[.int .i64 0, .int .i64 0, .int .i64 0, .int .i64 0, .int .i64 0, .int .i64 0, .bool false, .string ⟨#[]⟩, .string ⟨#[]⟩, .bool false, .string ⟨#[]⟩, .string ⟨#[]⟩, .slice none 0 0, .slice none 0 0, .slice none 0 0] 37))
          go_wp2_with fail
          refine (awake35_calls _).mono ?_
          rintro e w6 ⟨rfl, hb⟩
          have HB7 : Hid (Below w.heap.size w w6) := HB6.out.trans (hb.mono HB6.out.size)
          clear hb HB6 HB5
          go_wp2_with fail
          go_ret
          exact ⟨rfl, HB7.out⟩

end Go.Proofs.YtcljkdjmmolfoaaDoor

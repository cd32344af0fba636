/- insolvencyref1.long. -/
import Derived.Test.YtjlicnhkemfmiaaGreatDoorM5
import Derived.Test.YtjlicnhkemfmiaaGreatDoorM6
set_option linter.unusedVariables false
set_option linter.unusedSimpArgs false
set_option maxHeartbeats 8000000
namespace Go.Proofs.YtjlicnhkemfmiaaGreatDoor
open Go.RowKit

theorem top_take {o : List Nat} {n V : Nat} (hl : o.length = n + 1) (hd : Dig o) (hv : valL o = V) (hb : V < 4294967296 ^ n) : (o.take n).length = n ∧ Dig (o.take n) ∧ valL (o.take n) = V ∧ o = o.take n ++ [0] := by
 have h1 : o = o.take n ++ [o.getD n 0] := by
  have := take_snoc_getD o n (by omega)
  rw [List.take_of_length_le (by omega)] at this
  exact this
 have hlt : (o.take n).length = n := List.length_take_of_le (by omega)
 have h2 : valL o = valL (o.take n) + 4294967296 ^ n * o.getD n 0 := by
  conv => lhs; rw [h1]
  rw [valL_snoc, hlt]
 have h0 : o.getD n 0 = 0 := by
  rcases Nat.eq_zero_or_pos (o.getD n 0) with h | h
  ·
   exact h
  ·
   exfalso
   have := Nat.mul_le_mul_left (4294967296 ^ n) h
   omega
 refine ⟨hlt, hd.take n, ?_, ?_⟩
 ·
  rw [← hv, h2, h0]; simp
 ·
  rw [h0] at h1; exact h1

theorem and_low (t lo : Nat) (ht : t < 18446744073709551616) (hlo : lo = t % 4294967296) : bits .and .u64 (t : Int) 4294967295 = (lo : Int) := by
 have := bits_mask .u64 64 (by decide) (fun n h0 h1 => by rw [IntKind.wrap_u64]; omega) 32 (by decide) (t : Int) (by omega) (by omega)
 rw [hlo]
 simpa using this

set_option maxRecDepth 1000000 in
theorem long_calls (A B : Option Addr) (ca cb a b n la : Nat) (w : World) (hra : KRd .u32 w w.heap.size A (limbs a)) (hrb : KRd .u32 w w.heap.size B (limbs b)) (hlaa : (limbs a).length = la) (hn : (limbs b).length = n) (hla : la ≤ 100000000) (hn2 : 2 ≤ n) (hnla : n ≤ la) :
 Calls Tryz.prog 167 #[.slice A la ca, .slice B n cb] w fun e w' => Two w (a / b) (a % b) e w' := by
 have hb0 : b ≠ 0 := by rintro rfl; rw [limbs_zero] at hn; simp at hn; omega
 obtain ⟨t, ht⟩ : ∃ t, t = (limbs b).getD (n - 1) 0 := ⟨_, rfl⟩
 have ht0 : t ≠ 0 := by rw [ht, ← hn]; exact limbs_last b hb0
 have htl : t < 4294967296 := by rw [ht]; exact (limbs_dig b).getD _
 obtain ⟨bb, ob, rfl, hbb, hbc⟩ := hrb.open_ (by omega)
 have hbt := hbc (n - 1) t (by rw [ht]; exact getElem?_getD (by omega))
 have HRA := Lib.hid hra
 have HRB := Lib.hid hrb
 have HT := Lib.hid ht
 have HNN := Lib.hid (And.intro hn hlaa)
 have HT0 := Lib.hid ht0
 have n1 : ((n : Int) - 1).toNat = n - 1 := by omega
 clear hra hrb hbc hlaa hn hb0 ht ht0
 go_enter Tryz.func167, Tryz.ntmps167
 go_wp2_with fail
 go_loop [7] (fun ss => ∃ s : Nat, s ≤ 31 ∧ ss = .int .u64 (s : Int) ∧ Hid (t * 2 ^ s < 4294967296)) (fun ss => 31 - (intOf ss).toNat)
 case atStart => exact ⟨0, by omega, rfl, by show _ < _; simpa using htl⟩
 case round =>
  obtain ⟨s, hs, rfl, HS⟩ := hrel
  obtain ⟨p, hp⟩ : ∃ p, p = t * 2 ^ s := ⟨_, rfl⟩
  have hpl : p < 4294967296 := by rw [hp]; exact HS.out
  have e1 : (t : Int) * 2 ^ s = (p : Int) := by rw [hp, Int.natCast_mul]; simp
  have e2 : IntKind.u32.wrap (p : Int) = (p : Int) := IntWalk.u32_in _ (by omega)
  have e3 : (t : Int) * 2 ^ s % 4294967296 = (p : Int) := by rw [e1]; omega
  have HP := Lib.hid hp
  by_cases hlt : p < 2147483648
  ·
   have hs2 : s < 31 := by
    rcases Nat.lt_or_ge s 31 with h | h
    ·
     exact h
    ·
     exfalso
     obtain rfl : s = 31 := by omega
     have h1 := HT0.out
     have h2 : 1 ≤ t := by omega
     have := Nat.mul_le_mul_right (2 ^ 31) h2
     rw [← hp] at this
     have e : (2 : Nat) ^ 31 = 2147483648 := by decide
     omega
   have HS2 : Hid (t * 2 ^ (s + 1) < 4294967296) := by
    show _ < _
    rw [Nat.pow_succ, ← Nat.mul_assoc, ← hp]; omega
   have hd : decide ((p : Int) < 2147483648) = true := by simp; omega
   clear hp hlt hpl
   go_wp2_with fail
   go_round
   case measure => simp [intOf]; omega
   case rel => exact ⟨s + 1, by omega, by go_num, HS2⟩
  ·
   have hd : decide ((p : Int) < 2147483648) = false := by simp; omega
   have HGE : Hid (2147483648 ≤ t * 2 ^ s) := by show _ ≤ _; omega
   have hs32 : s < 32 := by omega
   have hHS := HS.out
   have hHG := HGE.out
   have hb1 := norm_lt HNN.out.1 (by omega) HT.out hs32 HS.out
   have hb2 := norm_ge HNN.out.1 (by omega) HT.out HGE.out
   have HBB := Lib.hid (And.intro hb1 hb2)
   have HSA := shifted_calls A ca a s w HRA.out hs32 (by rw [HNN.out.2]; omega)
   have HSB := Lib.hid (fun w' (h : Below w.heap.size w w') => shifted_calls (some ⟨bb, ob, none⟩) cb b s w' (HRB.out.next h) hs32 (by rw [HNN.out.1]; omega))
   rw [HNN.out.2] at HSA
   rw [HNN.out.1] at HSB
   have HSA := Lib.hid HSA
   clear hp hlt hpl hHS hHG hb1 hb2
   go_wp2_with fail
   refine HSA.out.mono ?_
   rintro e w1 ⟨gu, u0, rfl, hgu, hul, hud, huv, hurow, hw1⟩
   have HB1 := Lib.hid hw1
   have HSB1 := Lib.hid (HSB.out w1 hw1)
   have HU := Lib.hid (And.intro hul (And.intro hud huv))
   have HUROW := Lib.hid hurow
   have hgul := hurow.lt
   clear hul hud huv hurow hw1 HSA HSB e1 e2 e3 hd htl hbt
   go_wp2_with fail
   refine HSB1.out.mono ?_
   rintro e w2 ⟨gv, v0, rfl, hgv, hvl, hvd, hvv, hvrow, hw2⟩
   obtain ⟨D, hD⟩ : ∃ D, D = v0.take n := ⟨_, rfl⟩
   obtain ⟨hDl, hDd, hDv, hDe⟩ := top_take hvl hvd hvv HBB.out.1
   rw [← hD] at hDl hDd hDv hDe
   have hDrow : KRow .u32 152 w2 gv D := by rw [hD]; exact hvrow.take n
   have hV0 : 0 < valL D := by
    rw [hDv]
    have := HBB.out.2
    have hp : 0 < 4294967296 ^ (n - 1) := Nat.pow_pos (by omega)
    omega
   have hst := start_lt HNN.out.2 hs32 rfl (show 1 ≤ n by omega) hnla HU.out.1 HU.out.2.2 (by rw [hDv]; exact HBB.out.2)
   have htop := top_ge hDl (by omega) hDd (by rw [hDv]; exact HBB.out.2)
   have HD := Lib.hid (And.intro hDl (And.intro hDd hDv))
   have HDROW := Lib.hid hDrow
   have HB2 := Lib.hid hw2
   have HB02 := Lib.hid (HB1.out.trans (hw2.mono HB1.out.size))
   have HU2 := Lib.hid (HUROW.out.next hw2)
   have HST := Lib.hid hst
   have HV0 := Lib.hid hV0
   have HTOP := Lib.hid htop
   have hgvl := hDrow.lt
   have hw2s := hw2.size
   have hw1s := HB1.out.size
   obtain ⟨lq, hlq⟩ : ∃ lq, lq = la - n + 1 := ⟨_, rfl⟩
   have hlqI : (la : Int) - (n : Int) + 1 = (lq : Int) := by omega
   have hmk := run_make_row' (P := Tryz.prog) 149 152 (.int .u32 0) 4 Tryz.underlying149 Tryz.info_u32 rfl .i64 .i64 lq (by omega) (by omega)
   have hlqm : lq + n = la + 1 := by omega
   clear hvl hvd hvv hvrow hw2 hD hDl hDd hDv hDe hDrow hV0 hst htop HSB1 hlq
   go_wp2_with fail
   clear hmk hlqI
   go_loopw [11] (fun ii wr => ∃ (k : Nat) (jj : Int) (qs o : List Nat), k ≤ lq ∧ ii = .int .i64 jj ∧ jj = (k : Int) - 1 ∧ KRow .u32 152 wr w2.heap.size (List.replicate k 0 ++ qs) ∧ KRow .u32 152 wr gu (u0.take k ++ (o ++ List.replicate (la + 1 - k - n) 0)) ∧ KRow .u32 152 wr gv D ∧
    Hid (qs.length = lq - k ∧ Dig qs ∧ o.length = n ∧ Dig o ∧ valL qs = valL (u0.drop k) / valL D ∧ valL o = valL (u0.drop k) % valL D) ∧ Below w.heap.size w wr ∧ w2.heap.size ≤ wr.heap.size) (fun ii _ => (intOf ii + 1).toNat)
   case atStart =>
    have hdl : (u0.drop lq).length = n := by rw [List.length_drop, HU.out.1]; omega
    have hs2 : valL (u0.drop lq) < valL D := by
     have e : la + 1 - n = lq := by omega
     have := HST.out
     rwa [e] at this
    refine ⟨lq, _, [], u0.drop lq, Nat.le_refl _, rfl, by omega, (KRow.made _ _ _ rfl).cast (by simp), ?_, HDROW.out.alloc _, ⟨by simp, Dig.nil, hdl, HU.out.2.1.drop _, ?_, ?_⟩, HB02.out.alloc (by omega) _, by simp⟩
    ·
     refine (HU2.out.alloc _).cast ?_
     have e : la + 1 - lq - n = 0 := by omega
     rw [e]; simp
    ·
     rw [Nat.div_eq_of_lt hs2]; rfl
    ·
     rw [Nat.mod_eq_of_lt hs2]
   case round =>
    obtain ⟨k, jj, qs, o, hk, rfl, hjj, hqrow, hurow, hvrow, HI, hbel, hws⟩ := hrel
    rename World => wo
    have hgl := hurow.lt
    have hql := hqrow.lt
    by_cases h0 : k = 0
    ·
     subst h0
     obtain rfl : jj = -1 := by omega
     obtain ⟨hqsl, hqsd, hol, hod, hqv, hov⟩ := HI.out
     rw [List.drop_zero, HU.out.2.2, HD.out.2.2] at hqv hov
     obtain ⟨hPM, hP0, hPle, hM0⟩ := pow_split hs32
     obtain ⟨e1, e2⟩ := shr_quot (a := a) (b := b) hP0
     rw [e1] at hqv
     rw [e2] at hov
     have hqrow' : KRow .u32 152 wo w2.heap.size qs := hqrow
     have hqsl' : qs.length = lq := by omega
     have hurow' : KRow .u32 152 wo gu (o ++ [0]) := by
      refine (hurow.take (n + 1)).cast ?_
      obtain ⟨m, hm⟩ : ∃ m, la + 1 - 0 - n = m + 1 := ⟨la - n, by omega⟩
      rw [List.take_zero, List.nil_append, hm, List.replicate_succ, List.take_append, List.take_of_length_le (by omega), hol]
      simp
     have hval : valL (shrL (2 ^ s) o) = a % b := by
      rw [valL_shrL hP0 hPM o hod, hov]
      exact Nat.mul_div_cancel _ hP0
     obtain ⟨P, hP⟩ : ∃ P, P = 2 ^ s := ⟨_, rfl⟩
     rw [← hP] at hval hP0 hPle
     have hmk := run_make_row' (P := Tryz.prog) 149 152 (.int .u32 0) 4 Tryz.underlying149 Tryz.info_u32 rfl .i64 .i64 n (by omega) (by omega)
     have HPP := Lib.hid hP
     have HOL := Lib.hid (And.intro hol hod)
     have HQ := Lib.hid (And.intro hqrow' (And.intro hqsl' (And.intro hqsd hqv)))
     have HURR := Lib.hid (hurow'.alloc (.cells (madeCells #[.int .u32 0] n) 152))
     have HBEL := Lib.hid hbel
     have HVAL := Lib.hid hval
     clear hqsl hqsd hol hod hqv hov hPM hM0 e1 e2 hqrow' hqsl' hurow' hval hP hbel hqrow hurow hvrow HI hjj hk
     go_wp2_with fail
     clear hmk
     go_loopw [25] (fun ii wx => ∃ (k : Nat), k ≤ n ∧ ii = .int .i64 (k : Int) ∧ KRow .u32 152 wx wo.heap.size ((shrL P o).take k ++ List.replicate (n - k) 0) ∧ KRow .u32 152 wx gu (o ++ [0]) ∧ Below wo.heap.size wo wx) (fun ii _ => n - (intOf ii).toNat)
     case atStart => exact ⟨0, by omega, rfl, (KRow.made _ _ _ rfl).cast (by simp), HURR.out, (Below.refl _ _).alloc (Nat.le_refl _) _⟩
     case round =>
      obtain ⟨k, hk, rfl, hrow, hurow, hbel⟩ := hrel
      have hsz := hrow.lt
      have hgu1 := hurow.lt
      by_cases hlt : k < n
      ·
       have hcx := hurow.getD (j := k) (by rw [List.length_append, HOL.out.1]; simp; omega)
       have hcy := hurow.getD (j := k + 1) (by rw [List.length_append, HOL.out.1]; simp; omega)
       have ha0 : ∀ i : Nat, (o ++ [0]).getD i 0 = o.getD i 0 := by
        intro i
        rcases Nat.lt_or_ge i o.length with h | h
        ·
         rw [List.getD_eq_getElem?_getD, List.getElem?_append_left h, ← List.getD_eq_getElem?_getD]
        ·
         rw [List.getD_eq_getElem?_getD, List.getElem?_append_right h, List.getD_eq_getElem?_getD, List.getElem?_eq_none h]
         rcases Nat.eq_zero_or_pos (i - o.length) with h2 | h2
         ·
          rw [h2]; rfl
         ·
          rw [List.getElem?_eq_none (by simp; omega)]
       rw [ha0] at hcx hcy
       obtain ⟨u, hu⟩ : ∃ u, u = o.getD k 0 := ⟨_, rfl⟩
       have hul : u < 4294967296 := by rw [hu]; exact HOL.out.2.getD k
       rw [← hu] at hcx
       obtain ⟨v, hv⟩ : ∃ v, v = o.getD (k + 1) 0 := ⟨_, rfl⟩
       have hvl : v < 4294967296 := by rw [hv]; exact HOL.out.2.getD (k + 1)
       rw [← hv] at hcy
       obtain ⟨t, ht⟩ : ∃ t, t = v * 4294967296 + u := ⟨_, rfl⟩
       obtain ⟨z, hz⟩ : ∃ z, z = t / P % 4294967296 := ⟨_, rfl⟩
       have hzs : z = (shrL P o).getD k 0 := by rw [hz, ht, hu, hv, shrL_getD P o k (by rw [HOL.out.1]; exact hlt), Nat.mul_comm, Nat.add_comm]
       have f1 : IntKind.i64.wrap ((k : Int) + 1) = (k : Int) + 1 := IntWalk.i64_in _ (by omega)
       have f2 : (0 : Int) ≤ (k : Int) + 1 := by omega
       have f3 : ((k : Int) + 1).toNat = k + 1 := by omega
       have f4 : IntKind.u64.wrap (v : Int) = (v : Int) := IntWalk.u64_in _ (by omega)
       have f5 : IntKind.u64.wrap (u : Int) = (u : Int) := IntWalk.u64_in _ (by omega)
       have f6 : IntKind.u64.wrap ((v : Int) * 4294967296) = (v : Int) * 4294967296 := IntWalk.u64_in _ (by omega)
       have f7 : bits .or .u64 ((v : Int) * 4294967296) (u : Int) = (t : Int) := by
        have := or_u64' u (v * 4294967296) 32 v hul (by omega) (by omega)
        rw [ht, ← this]; simp
       have f8 : (t : Int) / 2 ^ s % 4294967296 = (z : Int) := by
        have e : ((2 : Int) ^ s) = (P : Int) := by rw [HPP.out]; simp
        rw [e, hz]; simp
       have f9 : k + 1 < la + 1 := by omega
       have f10 : k < la + 1 := by omega
       have f11 : k < la := by omega
       have f12 : (k : Int) < (la : Int) := by omega
       have f13 : (k : Int) + 1 < (la : Int) + 1 := by omega
       have f14 : (k : Int) < (la : Int) + 1 := by omega
       have f15 : (k : Int) < (n : Int) := by omega
       have hlk : ((shrL P o).take k).length = k := List.length_take_of_le (by rw [shrL_len, HOL.out.1]; omega)
       have hho := hrow.getD (j := k) (by rw [List.length_append, List.length_replicate, hlk]; omega)
       obtain ⟨old, hold⟩ : ∃ old, old = ((shrL P o).take k ++ List.replicate (n - k) 0).getD k 0 := ⟨_, rfl⟩
       rw [← hold] at hho
       have hhf := hrow.frozen k
       have HSET : Hid (((shrL P o).take k ++ List.replicate (n - k) 0).set k z = (shrL P o).take (k + 1) ++ List.replicate (n - (k + 1)) 0) := by
        show _ = _
        have e1 : n - k = (n - (k + 1)) + 1 := by omega
        rw [e1, take_snoc_getD _ _ (by rw [shrL_len, HOL.out.1]; omega), ← hzs]
        conv => lhs; arg 2; rw [← hlk]
        exact hi_set _ _ _
       have HROW := Lib.hid hrow
       have HUR := Lib.hid hurow
       have hne : gu ≠ wo.heap.size := by omega
       have HNE := Lib.hid hne
       clear hu hv ht hz hzs hlk hold hrow hurow ha0 hne
       go_wp2_with fail
       go_still_tail 19, (by kernel_rfl)
       change wpList _ _ _ _ _ wr.drew
       clear f1 f2 f3 f4 f5 f6 f7 f12 f13 f14 f15
       go_wp2_with fail
       go_roundw
       case measure => simp [intOf] <;> omega
       case rel => exact ⟨k + 1, by omega, by go_num, HROW.out.drew.setI k z rfl HSET.out, HUR.out.drew.other (a := ⟨wo.heap.size, k, none⟩) HNE.out _, hbel.drew.setCell (p := ⟨wo.heap.size, k, none⟩) (by simp) _⟩
      ·
       obtain rfl : k = n := by omega
       have hln : (shrL P o).length = k := by rw [shrL_len, HOL.out.1]
       have hrow' : KRow .u32 152 wr wo.heap.size (shrL P o) := hrow.cast (by rw [Nat.sub_self, List.take_of_length_le (by omega)]; simp)
       have hod := shrL_dig P o
       have hqrd := (HQ.out.1.next hbel).rd
       have HT1 := strip_calls (some ⟨w2.heap.size, 0, none⟩) lq qs wr hqrd HQ.out.2.2.1 (Nat.le_of_eq HQ.out.2.1) (by rw [HQ.out.2.1]; omega)
       rw [HQ.out.2.2.2, HQ.out.2.1] at HT1
       have HT2 := strip_calls (some ⟨wo.heap.size, 0, none⟩) k (shrL P o) wr hrow'.rd hod (Nat.le_of_eq hln) (by rw [hln]; omega)
       rw [HVAL.out, hln] at HT2
       have HR1 : Hid (KRd .u32 wr wr.heap.size (some ⟨w2.heap.size, 0, none⟩) (limbs (a / b)) ∧ (limbs (a / b)).length ≤ lq) := by
        refine ⟨hqrd.limbs HQ.out.2.2.1 HQ.out.2.2.2, ?_⟩
        have := (take_limbs HQ.out.2.2.1).2
        rw [HQ.out.2.2.2, HQ.out.2.1] at this
        exact this
       have HR2 : Hid (KRd .u32 wr wr.heap.size (some ⟨wo.heap.size, 0, none⟩) (limbs (a % b)) ∧ (limbs (a % b)).length ≤ k) := by
        refine ⟨hrow'.rd.limbs hod HVAL.out, ?_⟩
        have := (take_limbs hod).2
        rw [HVAL.out, hln] at this
        exact this
       have HS1 := Lib.hid HT1
       have HS2 := Lib.hid HT2
       have HBZ := Lib.hid (HBEL.out.trans (hbel.mono HBEL.out.size))
       clear HT1 HT2 hqrd hrow' hrow hurow hod hln hbel
       go_wp2_with fail
       refine HS1.out.mono ?_
       rintro e w9 ⟨rfl, hw9⟩
       subst hw9
       go_wp2_with fail
       refine HS2.out.mono ?_
       rintro e w9 ⟨rfl, hw9⟩
       subst hw9
       go_wp2_with fail
       go_ret2
       exact ⟨_, lq, _, k, rfl, HR1.out.2, HR2.out.2, HR1.out.1, HR2.out.1, HBZ.out⟩
    ·
     obtain ⟨j, rfl⟩ : ∃ j, k = j + 1 := ⟨k - 1, by omega⟩
     obtain rfl : jj = (j : Int) := by omega
     obtain ⟨hqsl, hqsd, hol, hod, hqv, hov⟩ := HI.out
     have hju : j < u0.length := by rw [HU.out.1]; omega
     obtain ⟨x, hx⟩ : ∃ x, x = u0.getD j 0 := ⟨_, rfl⟩
     have hxl : x < 4294967296 := by rw [hx]; exact HU.out.2.1.getD j
     have hrow2 : KRow .u32 152 wo gu (u0.take j ++ ((x :: o) ++ List.replicate (la + 1 - (j + 1) - n) 0)) := by
      refine hurow.cast ?_
      rw [take_snoc_getD _ _ hju, ← hx, List.append_assoc]; rfl
     have hvlt : valL o < valL D := by rw [hov]; exact Nat.mod_lt _ HV0.out
     have hkn : Kn n (x :: o) D := ⟨hn2, by simp [hol], HD.out.1, Dig.cons hxl hod, HD.out.2.1, HTOP.out, us_lt hxl hvlt⟩
     have hrd := round_div (qd := valL (x :: o) / valL D) hju HV0.out hqv hov (by rw [← hx])
     rw [← hx] at hrd
     have HRD := Lib.hid hrd
     have HQS := Lib.hid (And.intro hqsl hqsd)
     have hql2 : ((List.replicate (j + 1) 0 ++ qs)).length = lq := by simp; omega
     have hgs := hurow.lt
     have hul := hkn.lu
     have hdl := hkn.ld
     have hgne : gv ≠ gu := by omega
     have hqne : w2.heap.size ≠ gu := by omega
     obtain ⟨post, hpost⟩ : ∃ post, post = List.replicate (la + 1 - (j + 1) - n) 0 := ⟨_, rfl⟩
     obtain ⟨pre, hpre⟩ : ∃ pre, pre = u0.take j := ⟨_, rfl⟩
     obtain ⟨us, hus⟩ : ∃ us, us = x :: o := ⟨_, rfl⟩
     have hprel : pre.length = j := by rw [hpre]; exact List.length_take_of_le (by omega)
     rw [← hpre, ← hpost, ← hus] at hrow2
     rw [← hus] at hkn hul hrd
     have c1 := hrow2.at_ hprel (j := n) (by omega)
     have c2 := hrow2.at_ hprel (j := n - 1) (by omega)
     have c3 := hrow2.at_ hprel (j := n - 2) (by omega)
     have k1 := hvrow.getD (j := n - 1) (by omega)
     have k2 := hvrow.getD (j := n - 2) (by omega)
     have hG0 := Gs.start hkn
     obtain ⟨un, hun⟩ : ∃ x, x = us.getD n 0 := ⟨_, rfl⟩
     obtain ⟨un1, hun1⟩ : ∃ x, x = us.getD (n - 1) 0 := ⟨_, rfl⟩
     obtain ⟨un2, hun2⟩ : ∃ x, x = us.getD (n - 2) 0 := ⟨_, rfl⟩
     obtain ⟨d1, hd1⟩ : ∃ x, x = D.getD (n - 1) 0 := ⟨_, rfl⟩
     obtain ⟨d2, hd2⟩ : ∃ x, x = D.getD (n - 2) 0 := ⟨_, rfl⟩
     rw [← hun] at c1
     rw [← hun1] at c2
     rw [← hun2] at c3
     rw [← hd1] at k1
     rw [← hd2] at k2
     rw [← hun, ← hun1, ← hd1] at hG0
     have hunl : un < 4294967296 := by rw [hun]; exact hkn.du.getD _
     have hun1l : un1 < 4294967296 := by rw [hun1]; exact hkn.du.getD _
     have hun2l : un2 < 4294967296 := by rw [hun2]; exact hkn.du.getD _
     have hd1l : d1 < 4294967296 := by rw [hd1]; exact hkn.dd.getD _
     have hd2l : d2 < 4294967296 := by rw [hd2]; exact hkn.dd.getD _
     have hd1t : 2147483648 ≤ d1 := by rw [hd1]; exact hkn.top
     obtain ⟨top, htop⟩ : ∃ x, x = un * 4294967296 + un1 := ⟨_, rfl⟩
     obtain ⟨g0, hg0⟩ : ∃ x, x = top / d1 := ⟨_, rfl⟩
     obtain ⟨r0, hr0⟩ : ∃ x, x = top % d1 := ⟨_, rfl⟩
     have hr0l : r0 < d1 := by rw [hr0]; exact Nat.mod_lt _ (by omega)
     rw [← htop, ← hg0, ← hr0] at hG0
     have htb : top < 18446744073709551616 := by omega
     have hg0b := (hG0.bd hkn).1
     have w1' : bits .or .u64 ((un : Int) * 4294967296) (un1 : Int) = (top : Int) := by
      have := or_u64' un1 (un * 4294967296) 32 un hun1l (by omega) (by omega)
      rw [htop, ← this]; simp
     have w2' : (top : Int).tdiv (d1 : Int) = (g0 : Int) := by rw [Int.tdiv_eq_ediv_of_nonneg (by omega), hg0]; simp
     have w3' : (top : Int).tmod (d1 : Int) = (r0 : Int) := by rw [Int.tmod_eq_emod_of_nonneg (by omega), hr0]; simp
     have w4' : (top : Int) / (d1 : Int) = (g0 : Int) := by rw [hg0]; simp
     have w5' : (top : Int) % (d1 : Int) = (r0 : Int) := by rw [hr0]; simp
     have w6' : IntKind.u64.wrap (un : Int) = (un : Int) := IntWalk.u64_in _ (by omega)
     have w7' : IntKind.u64.wrap (un1 : Int) = (un1 : Int) := IntWalk.u64_in _ (by omega)
     have w8' : IntKind.u64.wrap (d1 : Int) = (d1 : Int) := IntWalk.u64_in _ (by omega)
     have w9' : IntKind.u64.wrap ((un : Int) * 4294967296) = (un : Int) * 4294967296 := IntWalk.u64_in _ (by omega)
     have w10' : IntKind.u64.wrap (g0 : Int) = (g0 : Int) := IntWalk.u64_in _ (by omega)
     have w11' : IntKind.i64.wrap ((n : Int) - 1) = (n : Int) - 1 := IntWalk.i64_in _ (by omega)
     have hz1 : ((d1 : Int) == 0) = false := by simp; omega
     have m1 : (0 : Int) ≤ (n : Int) - 1 := by omega
     have m3 : IntKind.i64.wrap ((j : Int) + (n : Int)) = (j : Int) + (n : Int) := IntWalk.i64_in _ (by omega)
     have m4 : IntKind.i64.wrap ((j : Int) + (n : Int) - 1) = (j : Int) + (n : Int) - 1 := IntWalk.i64_in _ (by omega)
     have m5 : ((j : Int) + (n : Int) - 1).toNat = j + (n - 1) := by omega
     have m6 : (0 : Int) ≤ (j : Int) + (n : Int) - 1 := by omega
     have m7 : (0 : Int) ≤ (j : Int) + (n : Int) := by omega
     have m8 : ((j : Int) + (n : Int)).toNat = j + n := by omega
     have m9 : (j : Int) + (n : Int) < (la : Int) + 1 := by omega
     have m10 : (j : Int) + (n : Int) - 1 < (la : Int) + 1 := by omega
     have hjl : j + n < la + 1 := by omega
     have hjl1 : j + (n - 1) < la + 1 := by omega
     have hjl2 : j + (n - 2) < la + 1 := by omega
     have HK := Lib.hid hkn
     have HROW := Lib.hid hrow2
     have HVR := Lib.hid hvrow
     have HQR := Lib.hid hqrow
     have HQL := Lib.hid hql2
     have HG0 := Lib.hid hG0
     have HUN := Lib.hid (And.intro hun (And.intro hun1 hun2))
     have HDD := Lib.hid (And.intro hd1 hd2)
     have HTP := Lib.hid htop
     have HFIN : Hid (∀ oo : List Nat, oo.length = n → Dig oo → valL oo = valL us % valL D → (valL us / valL D :: qs).length = lq - j ∧ Dig (valL us / valL D :: qs) ∧ oo.length = n ∧ Dig oo ∧ valL (valL us / valL D :: qs) = valL (u0.drop j) / valL D ∧ valL oo = valL (u0.drop j) % valL D) := by
      intro oo h1 h2 h3
      have hq := hkn.qlt
      rw [← hus] at HRD
      exact ⟨by rw [List.length_cons, HQS.out.1]; omega, Dig.cons hq HQS.out.2, h1, h2, HRD.out.1, by rw [h3]; exact HRD.out.2⟩
     have HROWF : Hid (∀ (W : World) (oo : List Nat), KRow .u32 152 W gu (pre ++ ((oo ++ [0]) ++ post)) → KRow .u32 152 W gu (u0.take j ++ (oo ++ List.replicate (la + 1 - j - n) 0))) := by
      intro W oo h
      refine h.cast ?_
      have e : la + 1 - j - n = (la + 1 - (j + 1) - n) + 1 := by omega
      rw [e, hpre, hpost, List.replicate_succ]; simp
     have HLEN := Lib.hid (And.intro hul hdl)
     have HPRE := Lib.hid hprel
     have HPP := Lib.hid (And.intro hpre (And.intro hpost hus))
     have HBEL := Lib.hid hbel
     have HWS := Lib.hid hws
     clear hkn hrow2 hvrow hqrow hG0 hun hun1 hun2 hd1 hd2 htop hg0 hr0 hul hdl hprel hpre hpost hus hqsl hqsd hol hod hqv hov HI hurow hvlt hrd hql2 hbel hju hx h0 hjj
     go_wp2_with fail
     go_quiet (fail)
     go_upto_block 4 with fail
     clear w1' w2' w3' w4' w5' w6' w7' w9' w10' c1 c2 c3 k1 k2 m4 m5 m6 m10
     go_cut [13] (fun s7 wx => GMid gu wo (pre ++ (us ++ post)) us D s7 wx)
     case first =>
      go_wp2_with fail
      go_loopw [13, 14] (fun gg rr wx => ∃ g1 r1 : Nat, gg = .int .u64 (g1 : Int) ∧ rr = .int .u64 (r1 : Int) ∧ r1 < 4294967296 ∧ g1 ≤ 4294967297 ∧ Hid (Gs n us D g1 r1) ∧ KRow .u32 152 wx gu (pre ++ (us ++ post)) ∧ KRow .u32 152 wx gv D ∧ Only gu wo wx) (fun gg _ _ => (intOf gg).toNat)
      case atStart => exact ⟨g0, r0, rfl, rfl, by omega, hg0b, HG0, HROW.out.drewN _, HVR.out.drewN _, (Only.refl gu wo).drewN _⟩
      case round =>
       obtain ⟨g1, r1, rfl, rfl, hr1, hg1, HG, hrow, hvr, ho⟩ := hrel
       have hgs1 := hrow.lt
       have c3 := hrow.at_ HPRE.out (j := n - 2) (by have := HLEN.out; omega)
       rw [← HUN.out.2.2] at c3
       have k1 := hvr.getD (j := n - 1) (by have := HLEN.out; omega)
       have k2 := hvr.getD (j := n - 2) (by have := HLEN.out; omega)
       have HVR1 := Lib.hid hvr
       rw [← HDD.out.1] at k1
       rw [← HDD.out.2] at k2
       have HR1 := Lib.hid hrow
       clear hrow hvr
       by_cases hT : 4294967296 ≤ g1 ∨ (g1 < 4294967296 ∧ r1 * 4294967296 + un2 < g1 * d2)
       ·
        have HD := Gs.down HK.out HG.out (hT.imp id fun h => by rw [← HUN.out.2.2, ← HDD.out.2]; exact h.2)
        rw [← HDD.out.1] at HD
        obtain ⟨hge1, hGs⟩ := HD
        have HGS := Lib.hid hGs
        have HT := Lib.hid hT
        have v1 : IntKind.u64.wrap ((r1 : Int) + (d1 : Int)) = (r1 : Int) + (d1 : Int) := IntWalk.u64_in _ (by omega)
        have hcast : ((g1 - 1 : Nat) : Int) = (g1 : Int) - 1 := by omega
        have HCAST := Lib.hid hcast
        have v2 : IntKind.u64.wrap ((g1 : Int) - 1) = (g1 : Int) - 1 := IntWalk.u64_in _ (by omega)
        have HG1 := Lib.hid hg1
        have HGL : Hid (4294967296 ≤ r1 + d1 → g1 - 1 < 4294967296 ∧ valL us / valL D ≤ g1 - 1 ∧ g1 - 1 ≤ valL us / valL D + 1) := fun hh => by
         have := Gs.last HK.out HGS.out (.inl hh)
         exact ⟨this.1, HGS.out.ge, this.2⟩
        clear hGs hT hcast hg1 hg0b hr0l htb
        by_cases hA : 4294967296 ≤ g1
        ·
         have hA1 : decide ((4294967296 : Int) ≤ (g1 : Int)) = true := by simp; omega
         have hA2 : (4294967296 : Int) ≤ (g1 : Int) := by omega
         clear hA
         by_cases hbk : 4294967296 ≤ r1 + d1
         ·
          have hB1 : decide ((4294967296 : Int) ≤ (r1 : Int) + (d1 : Int)) = true := by simp; omega
          obtain ⟨l1, l2⟩ := HGL.out hbk
          have HL1 := Lib.hid l1
          clear hbk l1
          go_wp2_with fail
          go_quiet (fail)
          go_wp2_with fail
          go_meet
          exact ⟨g1 - 1, by rw [HCAST.out], HL1.out, l2, HR1.out.drewN _, ho.drewN _⟩
         ·
          have hB1 : decide ((4294967296 : Int) ≤ (r1 : Int) + (d1 : Int)) = false := by simp; omega
          have HBK := Lib.hid hbk
          clear hbk
          go_wp2_with fail
          go_quiet (fail)
          go_wp2_with fail
          go_roundw
          case measure => simp [intOf] <;> omega
          case rel => exact ⟨g1 - 1, r1 + d1, by rw [HCAST.out], by go_num, by have := HBK.out; omega, by have := HG1.out; omega, HGS.out, HR1.out.drewN _, HVR1.out.drewN _, ho.drewN _⟩
        ·
         have hA1 : decide ((4294967296 : Int) ≤ (g1 : Int)) = false := by simp; omega
         have hA2 : ¬ (4294967296 : Int) ≤ (g1 : Int) := by omega
         obtain ⟨p, hp⟩ : ∃ p, p = g1 * d2 := ⟨_, rfl⟩
         obtain ⟨q2, hq2⟩ : ∃ q2, q2 = r1 * 4294967296 + un2 := ⟨_, rfl⟩
         have hpb : p < 18446744073709551616 := by
          rw [hp]
          have : g1 * d2 ≤ 4294967295 * 4294967295 := Nat.mul_le_mul (by omega) (by omega)
          omega
         have hqb : q2 < 18446744073709551616 := by omega
         have u1 : (g1 : Int) * (d2 : Int) = (p : Int) := by rw [hp]; simp
         have u2 : IntKind.u64.wrap (p : Int) = (p : Int) := IntWalk.u64_in _ (by omega)
         have u3 : bits .or .u64 ((r1 : Int) * 4294967296) (un2 : Int) = (q2 : Int) := by
          have := or_u64' un2 (r1 * 4294967296) 32 r1 hun2l (by omega) (by omega)
          rw [hq2, ← this]; simp
         have u4 : IntKind.u64.wrap ((r1 : Int) * 4294967296) = (r1 : Int) * 4294967296 := IntWalk.u64_in _ (by omega)
         have u5 : IntKind.u64.wrap (un2 : Int) = (un2 : Int) := IntWalk.u64_in _ (by omega)
         have u6 : IntKind.u64.wrap (d2 : Int) = (d2 : Int) := IntWalk.u64_in _ (by omega)
         have u7 : IntKind.i64.wrap ((n : Int) - 2) = (n : Int) - 2 := IntWalk.i64_in _ (by omega)
         have u12 : IntKind.i64.wrap ((j : Int) + (n : Int) - 2) = (j : Int) + (n : Int) - 2 := IntWalk.i64_in _ (by omega)
         have u13 : (0 : Int) ≤ (j : Int) + (n : Int) - 2 := by omega
         have u14 : ((j : Int) + (n : Int) - 2).toNat = j + (n - 2) := by omega
         have u8 : (0 : Int) ≤ (n : Int) - 2 := by omega
         have u9 : ((n : Int) - 2).toNat = n - 2 := by omega
         have u10 : decide ((q2 : Int) < (p : Int)) = true := by
          simp; rw [hq2, hp]; exact (HT.out.resolve_left hA).2
         have u11 : (q2 : Int) < (p : Int) := by simpa using u10
         clear hp hq2 hA hpb hqb
         by_cases hbk : 4294967296 ≤ r1 + d1
         ·
          have hB1 : decide ((4294967296 : Int) ≤ (r1 : Int) + (d1 : Int)) = true := by simp; omega
          obtain ⟨l1, l2⟩ := HGL.out hbk
          have HL1 := Lib.hid l1
          clear hbk l1
          go_wp2_with fail
          go_quiet (fail)
          go_wp2_with fail
          go_meet
          exact ⟨g1 - 1, by rw [HCAST.out], HL1.out, l2, HR1.out.drewN _, ho.drewN _⟩
         ·
          have hB1 : decide ((4294967296 : Int) ≤ (r1 : Int) + (d1 : Int)) = false := by simp; omega
          have HBK := Lib.hid hbk
          clear hbk
          go_wp2_with fail
          go_quiet (fail)
          go_wp2_with fail
          go_roundw
          case measure => simp [intOf] <;> omega
          case rel => exact ⟨g1 - 1, r1 + d1, by rw [HCAST.out], by go_num, by have := HBK.out; omega, by have := HG1.out; omega, HGS.out, HR1.out.drewN _, HVR1.out.drewN _, ho.drewN _⟩
       ·
        have hA : g1 < 4294967296 := by omega
        obtain ⟨p, hp⟩ : ∃ p, p = g1 * d2 := ⟨_, rfl⟩
        obtain ⟨q2, hq2⟩ : ∃ q2, q2 = r1 * 4294967296 + un2 := ⟨_, rfl⟩
        have hT2 : p ≤ q2 := by
         rcases Nat.lt_or_ge q2 p with h | h
         ·
          exfalso; exact hT (.inr ⟨hA, by rw [← hq2, ← hp]; exact h⟩)
         ·
          exact h
        have hpb : p < 18446744073709551616 := by
         rw [hp]
         have : g1 * d2 ≤ 4294967295 * 4294967295 := Nat.mul_le_mul (by omega) (by omega)
         omega
        have hqb : q2 < 18446744073709551616 := by omega
        have HGL : Hid (g1 < 4294967296 ∧ valL us / valL D ≤ g1 ∧ g1 ≤ valL us / valL D + 1) := by
         have := Gs.last HK.out HG.out (.inr ⟨hA, by rw [← HUN.out.2.2, ← HDD.out.2, ← hp, ← hq2]; exact hT2⟩)
         exact ⟨this.1, HG.out.ge, this.2⟩
        have hA1 : decide ((4294967296 : Int) ≤ (g1 : Int)) = false := by simp; omega
        have hA2 : ¬ (4294967296 : Int) ≤ (g1 : Int) := by omega
        have u1 : (g1 : Int) * (d2 : Int) = (p : Int) := by rw [hp]; simp
        have u2 : IntKind.u64.wrap (p : Int) = (p : Int) := IntWalk.u64_in _ (by omega)
        have u3 : bits .or .u64 ((r1 : Int) * 4294967296) (un2 : Int) = (q2 : Int) := by
         have := or_u64' un2 (r1 * 4294967296) 32 r1 hun2l (by omega) (by omega)
         rw [hq2, ← this]; simp
        have u4 : IntKind.u64.wrap ((r1 : Int) * 4294967296) = (r1 : Int) * 4294967296 := IntWalk.u64_in _ (by omega)
        have u5 : IntKind.u64.wrap (un2 : Int) = (un2 : Int) := IntWalk.u64_in _ (by omega)
        have u6 : IntKind.u64.wrap (d2 : Int) = (d2 : Int) := IntWalk.u64_in _ (by omega)
        have u7 : IntKind.i64.wrap ((n : Int) - 2) = (n : Int) - 2 := IntWalk.i64_in _ (by omega)
        have u12 : IntKind.i64.wrap ((j : Int) + (n : Int) - 2) = (j : Int) + (n : Int) - 2 := IntWalk.i64_in _ (by omega)
        have u13 : (0 : Int) ≤ (j : Int) + (n : Int) - 2 := by omega
        have u14 : ((j : Int) + (n : Int) - 2).toNat = j + (n - 2) := by omega
        have u8 : (0 : Int) ≤ (n : Int) - 2 := by omega
        have u9 : ((n : Int) - 2).toNat = n - 2 := by omega
        have u10 : decide ((q2 : Int) < (p : Int)) = false := by simp; omega
        have u11 : (p : Int) ≤ (q2 : Int) := by omega
        clear hp hq2 hA hA2 hpb hqb hT hT2 hg1 hg0b hr0l htb u10
        go_wp2_with fail
        go_quiet (fail)
        clear u1 u2 u3 u4 u5 u6 u7 u8 u9 u12 u13 u14
        go_wp2_with fail
        go_meet
        exact ⟨g1, rfl, HGL.out.1, HGL.out.2, HR1.out.drewN _, ho.drewN _⟩
     case rest =>
      obtain ⟨gg, rfl, hgg, HQ0, hrow, ho⟩ := hcut
      have HQ := Lib.hid HQ0
      have HR0 := Lib.hid hrow
      have HV0' := Lib.hid (HVR.out.only ho hgne)
      have HO0 := Lib.hid ho
      clear HQ0 hunl hun1l hun2l hd1l hd2l hd1t w8' w11' hz1 m1 hrow ho
      go_wp2_with fail
      go_loopw [15, 16, 17] (fun cc bw0 ii wx => ∃ (k c bw : Nat) (oo : List Nat), k ≤ n ∧ ii = .int .i64 (k : Int) ∧ cc = .int .u64 (c : Int) ∧ bw0 = .int .u64 (bw : Int) ∧ c < 4294967296 ∧ bw ≤ 1 ∧ KRow .u32 152 wx gu (pre ++ (oo ++ us.drop k ++ post)) ∧ KRow .u32 152 wx gv D ∧ Hid (oo.length = k ∧ Dig oo ∧ valL oo + gg * valL (D.take k) = valL (us.take k) + 4294967296 ^ k * (c + bw)) ∧ Only gu wo wx) (fun _ _ ii _ => n - (intOf ii).toNat)
      case atStart => exact ⟨0, 0, 0, [], by omega, rfl, rfl, rfl, by omega, by omega, by simpa using HR0.out, HV0'.out, ⟨rfl, Dig.nil, by simp [valL]⟩, HO0.out⟩
      case round =>
       obtain ⟨k, c, bw, oo, hkn, rfl, rfl, rfl, hcl, hbl, hrow, hvr, HI, ho⟩ := hrel
       have hgs1 := hrow.lt
       have hf1 := hrow.frozen (j + k)
       obtain ⟨hol, hod, hov⟩ := HI.out
       have hxc := hrow.cellAt HPRE.out hol (by have := HLEN.out.1; omega)
       obtain ⟨xx, hxx⟩ : ∃ x, x = us.getD k 0 := ⟨_, rfl⟩
       have hxxl : xx < 4294967296 := by rw [hxx]; exact HK.out.du.getD k
       rw [← hxx] at hxc
       have HR1 := Lib.hid hrow
       have HV1 := Lib.hid hvr
       by_cases hlt : k < n
       ·
        have hvc := hvr.getD (j := k) (by have := HLEN.out.2; omega)
        obtain ⟨v, hv⟩ : ∃ v, v = D.getD k 0 := ⟨_, rfl⟩
        have hvl : v < 4294967296 := by rw [hv]; exact HK.out.dd.getD k
        rw [← hv] at hvc
        obtain ⟨p, hp⟩ : ∃ p, p = gg * v := ⟨_, rfl⟩
        have hpb : p ≤ 4294967295 * 4294967295 := by rw [hp]; exact Nat.mul_le_mul (by omega) (by omega)
        obtain ⟨t, ht⟩ : ∃ t, t = p + c := ⟨_, rfl⟩
        obtain ⟨c', hc'⟩ : ∃ c', c' = t / 4294967296 := ⟨_, rfl⟩
        obtain ⟨lo, hlo⟩ : ∃ lo, lo = t % 4294967296 := ⟨_, rfl⟩
        have hc'l : c' < 4294967296 := by omega
        have hlol : lo < 4294967296 := by omega
        obtain ⟨z, hz⟩ : ∃ z, z = (xx + 4294967296 - lo - bw) % 4294967296 := ⟨_, rfl⟩
        obtain ⟨b', hb'⟩ : ∃ b', b' = brw xx lo bw := ⟨_, rfl⟩
        have hzl : z < 4294967296 := by omega
        have hb'l : b' ≤ 1 := by rw [hb']; unfold brw; split <;> omega
        have hzb : z + lo + bw = xx + 4294967296 * b' := by rw [hz, hb']; unfold brw; split <;> omega
        have HI2 : Hid ((oo ++ [z]).length = k + 1 ∧ Dig (oo ++ [z]) ∧ valL (oo ++ [z]) + gg * valL (D.take (k + 1)) = valL (us.take (k + 1)) + 4294967296 ^ (k + 1) * (c' + b')) := by
         refine ⟨by simp [hol], hod.append (Dig.one hzl), ms_step (t := lo) hol hov ?_ ?_⟩
         ·
          rw [← hv, ← hp]; omega
         ·
          rw [← hxx]; exact hzb
        have u1 : IntKind.u64.wrap ((gg : Int) * (v : Int)) = (p : Int) := by
         have : (gg : Int) * (v : Int) = (p : Int) := by rw [hp]; simp
         rw [this]; exact IntWalk.u64_in _ (by omega)
        have u2 : IntKind.u64.wrap ((c : Int) + (p : Int)) = (t : Int) := by rw [IntWalk.u64_in _ (by omega)]; omega
        have u3 : (t : Int) / 4294967296 = (c' : Int) := by omega
        have u4 := and_low t lo (by omega) hlo
        have u5 : IntKind.u64.wrap ((lo : Int) + (bw : Int)) = (lo : Int) + (bw : Int) := IntWalk.u64_in _ (by omega)
        have HPUT := Lib.hid (row_put HPRE.out hol (show k < us.length by have := HLEN.out.1; omega) (post := post) z)
        have HZB := Lib.hid hzb
        have HHB := Lib.hid hb'
        have hxl0 : xx < lo + bw ∨ lo + bw ≤ xx := by omega
        clear hxx hv hp hpb ht hc' hlo hz hb' hzb hol hod hov HI hrow hvr
        rcases hxl0 with hbl2 | hbl2
        ·
         have hb1 : b' = 1 := by rw [HHB.out]; exact if_pos hbl2
         have hd : decide ((xx : Int) < (lo : Int) + (bw : Int)) = true := by simp; omega
         have hzz : ((xx : Int) + 4294967296 - ((lo : Int) + (bw : Int))) = (z : Int) := by have := HZB.out; rw [hb1] at this; omega
         have u6 : IntKind.u64.wrap (z : Int) = (z : Int) := IntWalk.u64_in _ (by omega)
         have u7 : (z : Int) % 4294967296 = (z : Int) := by omega
         have HB1 := Lib.hid hb1
         clear hb1 hbl2
         go_wp2_with fail
         go_roundw
         case measure => simp [intOf] <;> omega
         case rel => exact ⟨k + 1, c', b', oo ++ [z], by omega, by go_num, rfl, by rw [HB1.out]; rfl, hc'l, hb'l, HR1.out.setI (j + k) z rfl HPUT.out, HV1.out.other (a := ⟨gu, j + k, none⟩) hgne _, HI2, ho.setC _ _⟩
        ·
         have hb1 : b' = 0 := by rw [HHB.out]; exact if_neg (by omega)
         have hd : decide ((xx : Int) < (lo : Int) + (bw : Int)) = false := by simp; omega
         have hzz : ((xx : Int) - ((lo : Int) + (bw : Int))) = (z : Int) := by have := HZB.out; rw [hb1] at this; omega
         have u6 : IntKind.u64.wrap (z : Int) = (z : Int) := IntWalk.u64_in _ (by omega)
         have u7 : (z : Int) % 4294967296 = (z : Int) := by omega
         have HB1 := Lib.hid hb1
         clear hb1 hbl2
         go_wp2_with fail
         go_roundw
         case measure => simp [intOf] <;> omega
         case rel => exact ⟨k + 1, c', b', oo ++ [z], by omega, by go_num, rfl, by rw [HB1.out]; rfl, hc'l, hb'l, HR1.out.setI (j + k) z rfl HPUT.out, HV1.out.other (a := ⟨gu, j + k, none⟩) hgne _, HI2, ho.setC _ _⟩
       ·
        obtain rfl : k = n := by omega
        obtain ⟨z, hz⟩ : ∃ z, z = (xx + 4294967296 - c - bw) % 4294967296 := ⟨_, rfl⟩
        have hzl : z < 4294967296 := by omega
        have hput := row_put HPRE.out hol (show k < us.length by have := HLEN.out.1; omega) (post := post) z
        have hdr : us.drop (k + 1) = [] := List.drop_of_length_le (by have := HLEN.out.1; omega)
        rw [hdr] at hput
        have HPUT := Lib.hid hput
        have HOL := Lib.hid (And.intro hol (And.intro hod hov))
        have HX := Lib.hid hxx
        have u5 : IntKind.u64.wrap ((c : Int) + (bw : Int)) = (c : Int) + (bw : Int) := IntWalk.u64_in _ (by omega)
        have u6 : IntKind.u64.wrap ((xx : Int) - ((c : Int) + (bw : Int))) % 4294967296 = (z : Int) := by rw [IntKind.wrap_u64]; omega
        have hqr := HQR.out.only ho hqne
        have hqc := hqr.getD (j := j) (by rw [HQL.out]; omega)
        rw [low_getD] at hqc
        have hqf := hqr.frozen j
        have hqlt := hqr.lt
        have HQR1 := Lib.hid hqr
        have hjq : j < lq := by omega
        rcases (show c + bw ≤ xx ∨ xx < c + bw by omega) with hb0 | hb0
        ·
         have hzb0 : z + c + bw = xx := by omega
         have HE : Hid (gg = valL us / valL D ∧ valL oo = valL us % valL D ∧ z = 0) := by
          have h1 := ms_right HK.out hol hod HQ.out.1 hov (x := z) (by rw [← hxx]; exact hzb0)
          obtain ⟨h2, h3⟩ := h1
          have h4 : valL us % valL D < 4294967296 ^ k := by
           have := Nat.mod_lt (valL us) HK.out.vpos
           have h5 := valL_lt D HK.out.dd
           rw [HK.out.ld] at h5
           omega
          rw [valL_snoc, hol] at h3
          have h6 : z = 0 := by
           rcases Nat.eq_zero_or_pos z with h | h
           ·
            exact h
           ·
            exfalso
            have := Nat.mul_le_mul_left (4294967296 ^ k) h
            omega
          subst h6
          exact ⟨h2, by simpa using h3, rfl⟩
         have hd : decide ((xx : Int) < (c : Int) + (bw : Int)) = false := by simp; omega
         clear hxx hz hzb0 hol hod hov HI hrow hput hdr hb0 hqr
         go_wp2_with fail
         go_roundw
         case measure => simp [intOf] <;> omega
         case rel =>
          refine ⟨j, (j : Int) - 1, gg :: qs, oo, by omega, rfl, rfl, (HQR1.out.other (a := ⟨gu, j + k, none⟩) hqne _).setI j gg rfl (low_set j gg qs), ?_, ((HV1.out.other (a := ⟨gu, j + k, none⟩) hgne _).other (a := ⟨w2.heap.size, j, none⟩) (by simp; omega) _), ?_, ((HBEL.out.trans (ho.at_ w.heap.size HBEL.out.size hgu)).setCell (p := ⟨gu, j + k, none⟩) hgu _).setCell (p := ⟨w2.heap.size, j, none⟩) (by simp; omega) _, ?_⟩
          ·
           exact HROWF.out _ _ (((HR1.out.setI (j + k) z rfl HPUT.out).cast (by rw [HE.out.2.2]; simp)).other (a := ⟨w2.heap.size, j, none⟩) (Ne.symm hqne) _)
          ·
           have h := HFIN.out oo HOL.out.1 HOL.out.2.1 HE.out.2.1
           rw [← HE.out.1] at h
           exact h
          ·
           have := ho.size; have := HWS.out; simp [World.setCell]; omega
        ·
         have hzb1 : z + c + bw = xx + 4294967296 := by omega
         have HW := Lib.hid (ms_wrong HK.out hol hod hzl HQ.out.2 hov (by rw [← hxx]; exact hzb1))
         have hd : decide ((xx : Int) < (c : Int) + (bw : Int)) = true := by simp; omega
         have hg1 : 1 ≤ gg := HW.out.1
         have ug : IntKind.u64.wrap ((gg : Int) - 1) = (gg : Int) - 1 := IntWalk.u64_in _ (by omega)
         have hrow0 : KRow .u32 152 (wr.setCell ⟨gu, j + k, none⟩ (.int .u32 (z : Int))) gu (pre ++ ([] ++ (oo ++ [z]).drop 0 ++ post)) := HR1.out.setI (j + k) z rfl (by rw [HPUT.out]; simp)
         have HROW0 := Lib.hid hrow0
         have HVROW0 := Lib.hid (HV1.out.other (a := ⟨gu, j + k, none⟩) hgne (.int .u32 (z : Int)))
         have HHO := Lib.hid (ho.setC (j + k) (.int .u32 (z : Int)))
         have hozl : (oo ++ [z]).length = k + 1 := by simp [hol]
         have HOZ := Lib.hid hozl
         have HZL := Lib.hid hzl
         clear hxx hz hzb1 hol hod hov HI hrow hput hdr hb0 hqr hqc hqf hqlt hrow0 hozl hvr
         go_wp2_with fail
         clear hf1 hxc HQR1 u5 u6 hd
         go_loopw [15, 23] (fun cc ii wx => ∃ (i c2 : Nat) (q : List Nat), i ≤ k ∧ ii = .int .i64 (i : Int) ∧ cc = .int .u64 (c2 : Int) ∧ c2 ≤ 1 ∧ KRow .u32 152 wx gu (pre ++ (q ++ (oo ++ [z]).drop i ++ post)) ∧ KRow .u32 152 wx gv D ∧ Hid (q.length = i ∧ Dig q ∧ valL q + 4294967296 ^ i * c2 = valL (oo.take i) + valL (D.take i)) ∧ Only gu wo wx) (fun _ ii _ => k - (intOf ii).toNat)
         case atStart => exact ⟨0, 0, [], by omega, rfl, rfl, by omega, HROW0.out, HVROW0.out, ⟨rfl, Dig.nil, by simp [valL]⟩, HHO.out⟩
         case round =>
          clear ho hcl hbl hlt hkn hgs1
          obtain ⟨i, c2, q, hi, rfl, rfl, hc2, hrow, hvr, HI, ho⟩ := hrel
          have hgs1 := hrow.lt
          have hf1 := hrow.frozen (j + i)
          obtain ⟨hql', hqd, hqv'⟩ := HI.out
          have hyc := hrow.cellAt HPRE.out hql' (by rw [HOZ.out]; omega)
          obtain ⟨y, hy⟩ : ∃ y, y = (oo ++ [z]).getD i 0 := ⟨_, rfl⟩
          have hyl : y < 4294967296 := by rw [hy]; exact (HOL.out.2.1.append (Dig.one HZL.out)).getD i
          rw [← hy] at hyc
          have HR2 := Lib.hid hrow
          have HV2 := Lib.hid hvr
          by_cases hil : i < k
          ·
           have hvc := hvr.getD (j := i) (by have := HLEN.out.2; omega)
           obtain ⟨v, hv⟩ : ∃ v, v = D.getD i 0 := ⟨_, rfl⟩
           have hvl : v < 4294967296 := by rw [hv]; exact HK.out.dd.getD i
           rw [← hv] at hvc
           have hyo : y = oo.getD i 0 := by
            rw [hy, List.getD_eq_getElem?_getD, List.getElem?_append_left (by rw [HOL.out.1]; exact hil), ← List.getD_eq_getElem?_getD]
           obtain ⟨tt, htt⟩ : ∃ tt, tt = y + v + c2 := ⟨_, rfl⟩
           obtain ⟨zz, hzz⟩ : ∃ zz, zz = tt % 4294967296 := ⟨_, rfl⟩
           obtain ⟨cc, hcc⟩ : ∃ cc, cc = tt / 4294967296 := ⟨_, rfl⟩
           have hzzl : zz < 4294967296 := by omega
           have hccl : cc ≤ 1 := by omega
           have HI2 : Hid ((q ++ [zz]).length = i + 1 ∧ Dig (q ++ [zz]) ∧ valL (q ++ [zz]) + 4294967296 ^ (i + 1) * cc = valL (oo.take (i + 1)) + valL (D.take (i + 1))) := by
            refine ⟨by simp [hql'], hqd.append (Dig.one hzzl), add_step hql' hqv' ?_⟩
            rw [← hyo, ← hv]; omega
           have r1 : IntKind.i64.wrap ((j : Int) + (i : Int)) = (j : Int) + (i : Int) := IntWalk.i64_in _ (by omega)
           have r2 : (0 : Int) ≤ (j : Int) + (i : Int) := by omega
           have r3 : ((j : Int) + (i : Int)).toNat = j + i := by omega
           have r4 : j + i < la + 1 := by omega
           have r4' : (j : Int) + (i : Int) < (la : Int) + 1 := by omega
           have r5 : IntKind.u64.wrap (y : Int) = (y : Int) := IntWalk.u64_in _ (by omega)
           have r6 : IntKind.u64.wrap (v : Int) = (v : Int) := IntWalk.u64_in _ (by omega)
           have r7 : IntKind.u64.wrap ((c2 : Int) + (y : Int)) = (c2 : Int) + (y : Int) := IntWalk.u64_in _ (by omega)
           have r8 : IntKind.u64.wrap ((c2 : Int) + (y : Int) + (v : Int)) = (tt : Int) := by rw [IntWalk.u64_in _ (by omega)]; omega
           have r9 : (tt : Int) % 4294967296 = (zz : Int) := by omega
           have r10 : (tt : Int) / 4294967296 = (cc : Int) := by omega
           have HPUT2 := Lib.hid (row_put HPRE.out hql' (show i < (oo ++ [z]).length by rw [HOZ.out]; omega) (post := post) zz)
           clear hy hyo hv hzz hcc htt hql' hqd hqv' HI hrow hvr
           go_wp2_with fail
           go_quiet (fail)
           clear r1 r2 r3 r4' r5 r6 r7 r8
           go_wp2_with fail
           go_roundw
           case measure => simp [intOf] <;> omega
           case rel => exact ⟨i + 1, cc, q ++ [zz], by omega, by go_num, rfl, hccl, (HR2.out.drewN _).setI (j + i) zz rfl HPUT2.out, (HV2.out.drewN _).other (a := ⟨gu, j + i, none⟩) hgne _, HI2, (ho.drewN _).setC _ _⟩
          ·
           obtain rfl : i = k := by omega
           have hyz : y = z := by
            rw [hy, List.getD_eq_getElem?_getD, List.getElem?_append_right (by rw [HOL.out.1]; omega), HOL.out.1]; simp
           have HB := Lib.hid (back_end HK.out hql' hqd HOL.out.1 HZL.out hqv' HW.out.2.2)
           have u1 : IntKind.u32.wrap ((y : Int) + (c2 : Int)) = 0 := by
            have := HB.out.1
            rw [IntKind.wrap_u32, hyz]; omega
           have hput := row_put HPRE.out hql' (show i < (oo ++ [z]).length by rw [HOZ.out]; omega) (post := post) 0
           have hdr : (oo ++ [z]).drop (i + 1) = [] := List.drop_of_length_le (by rw [HOZ.out]; omega)
           rw [hdr] at hput
           have HPUT2 := Lib.hid hput
           have HQLL := Lib.hid (And.intro hql' hqd)
           have hge : (gg : Int) - 1 = ((gg - 1 : Nat) : Int) := by omega
           have HGE := Lib.hid hge
           have hqr := HQR.out.only ho hqne
           have hqc := hqr.getD (j := j) (by rw [HQL.out]; omega)
           rw [low_getD] at hqc
           have hqf := hqr.frozen j
           have hqlt := hqr.lt
           have HQR2 := Lib.hid hqr
           clear hy hyz hql' hqd hqv' HI hrow hvr hput hdr hge hqr
           go_wp2_with fail
           go_roundw
           case measure => simp [intOf] <;> omega
           case rel =>
            refine ⟨j, (j : Int) - 1, (gg - 1) :: qs, q, by omega, rfl, rfl, (HQR2.out.other (a := ⟨gu, j + i, none⟩) hqne _).setI j (gg - 1) HGE.out (low_set j (gg - 1) qs), ?_, ((HV2.out.other (a := ⟨gu, j + i, none⟩) hgne _).other (a := ⟨w2.heap.size, j, none⟩) (by simp; omega) _), ?_, ((HBEL.out.trans (ho.at_ w.heap.size HBEL.out.size hgu)).setCell (p := ⟨gu, j + i, none⟩) hgu _).setCell (p := ⟨w2.heap.size, j, none⟩) (by simp; omega) _, ?_⟩
            ·
             exact HROWF.out _ _ (((HR2.out.setI (x := (0 : Int)) (j + i) 0 rfl HPUT2.out).cast (by simp)).other (a := ⟨w2.heap.size, j, none⟩) (Ne.symm hqne) _)
            ·
             have h := HFIN.out q HQLL.out.1 HQLL.out.2 HB.out.2
             rw [← HW.out.2.1] at h
             exact h
            ·
             have := ho.size; have := HWS.out; simp [World.setCell]; omega

end Go.Proofs.YtjlicnhkemfmiaaGreatDoor

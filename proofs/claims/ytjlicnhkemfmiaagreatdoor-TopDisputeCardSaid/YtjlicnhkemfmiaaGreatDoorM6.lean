/- Merged of Divide Rev Fmt Awake1 Few Few2 NatRef. -/
import Derived.Test.YtjlicnhkemfmiaaGreatDoorSq
import Derived.Test.YtjlicnhkemfmiaaGreatDoorStep
import Derived.Test.YtjlicnhkemfmiaaGreatDoorM5
import Derived.Test.YtjlicnhkemfmiaaGreatDoorM1
import Derived.Deep.RegionWith
import Derived.BigRegion
import Derived.Deep.LoopGhost
import Derived.Test.YtjlicnhkemfmiaaGreatDoorM4
/- natural.divide, Divide, GCD. -/
set_option linter.unusedVariables false
set_option linter.unusedSimpArgs false
set_option maxHeartbeats 8000000
set_option maxRecDepth 100000
namespace Go.Proofs.YtjlicnhkemfmiaaGreatDoor
open Go.RowKit

theorem limbs_one {r : Nat} (h : r < 4294967296) : valL [r] = r := by simp [valL]

/-- two slices that hold numbers -/
def Two (w : World) (x y : Nat) (e : Ending) (w' : World) : Prop :=
 ∃ Q cq R cr, e = .returned (.tuple #[.slice Q (limbs x).length cq, .slice R (limbs y).length cr]) ∧ (limbs x).length ≤ cq ∧ (limbs y).length ≤ cr ∧ KRd .u32 w' w'.heap.size Q (limbs x) ∧ KRd .u32 w' w'.heap.size R (limbs y) ∧ Below w.heap.size w w'

theorem cmpN_lt {a b : Nat} (h : a < b) : cmpN a b = -1 := if_pos h
theorem cmpN_ge {a b : Nat} (h : b ≤ a) : 0 ≤ cmpN a b := by unfold cmpN; rw [if_neg (by omega)]; split <;> omega

theorem divide_calls (A B : Option Addr) (ca cb a b : Nat) (w : World) (hra : KRd .u32 w w.heap.size A (limbs a)) (hrb : KRd .u32 w w.heap.size B (limbs b)) (hla : (limbs a).length ≤ 100000000) (hlb : (limbs b).length ≤ 100000000) (hca : (limbs a).length ≤ ca) (hb0 : b ≠ 0) :
 Calls Tryz.prog 112 #[.slice A (limbs a).length ca, .slice B (limbs b).length cb] w fun e w' => Two w (a / b) (a % b) e w' := by
 have HC := Lib.hid (compare_calls A B ca cb a b w hra hrb (by omega) (by omega))
 rcases Nat.lt_or_ge a b with hlt | hge
 ·
  rw [cmpN_lt hlt] at HC
  have HRA := Lib.hid hra
  have HE : Hid (a / b = 0 ∧ a % b = a) := ⟨Nat.div_eq_of_lt hlt, Nat.mod_eq_of_lt hlt⟩
  clear hra hrb hb0 hlt
  go_enter Tryz.func112, Tryz.ntmps112
  go_wp2_with fail
  refine HC.out.mono ?_
  rintro e w1 ⟨rfl, hb1⟩
  go_wp2_with fail
  go_ret2
  have h0 : (limbs 0).length = 0 := by rw [limbs_zero]; rfl
  refine ⟨none, 0, A, ca, ?_, ?_, ?_, ?_, ?_, hb1⟩
  ·
   rw [HE.out.1, HE.out.2, h0]; rfl
  ·
   rw [HE.out.1, h0]; exact Nat.le_refl _
  ·
   rw [HE.out.2]; exact hca
  ·
   rw [HE.out.1, limbs_zero]; exact KRd.nil
  ·
   rw [HE.out.2]; exact HRA.out.next hb1
 ·
  have hcm := cmpN_ge hge
  obtain ⟨cm, hcm1⟩ : ∃ cm, cm = cmpN a b := ⟨_, rfl⟩
  rw [← hcm1] at HC hcm
  have hcm2 : ¬ cm < 0 := by omega
  by_cases h1 : (limbs b).length = 1
  ·
   have hbe : limbs b = [b] := by
    have h2 : b < 4294967296 := by have := lt_pow_limbs b; rw [h1] at this; simpa using this
    rw [limbs_pos hb0, Nat.div_eq_of_lt h2, Nat.mod_eq_of_lt h2, limbs_zero]
   have hb4 : b < 4294967296 := by have := lt_pow_limbs b; rw [h1] at this; simpa using this
   rw [h1] at HC ⊢
   obtain ⟨bb, ob, rfl, hbb, hbc⟩ := hrb.at_ (j := 0) (x := b) (by rw [hbe]; rfl)
   have HRA := Lib.hid hra
   have HBC := Lib.hid hbc
   have HB0 := Lib.hid hb0
   clear hra hrb hbe hb0 hcm1 hge hcm hbc h1
   go_enter Tryz.func112, Tryz.ntmps112
   go_wp2_with fail
   refine HC.out.mono ?_
   rintro e w1 ⟨rfl, hb1⟩
   have hbc1 := (hb1.cell (p := ⟨bb, ob + 0, none⟩) hbb).trans HBC.out
   rw [Nat.add_zero] at hbc1
   go_wp2_with fail
   refine (divideSmall_calls A ca a b w1 (HRA.out.next hb1) (by omega) (by have := HB0.out; omega) hb4).mono ?_
   rintro e w2 ⟨Q, cq, rfl, hcq, hrq, hb2⟩
   have hrl : a % b < 4294967296 := by have := Nat.mod_lt a (show 0 < b by have := HB0.out; omega); omega
   have hbel := hb1.trans (hb2.mono hb1.size)
   obtain ⟨r, hr⟩ : ∃ r, r = a % b := ⟨_, rfl⟩
   rw [← hr] at hrl ⊢
   have HR := Lib.hid hr
   have HRQ := Lib.hid hrq
   have HCQ := Lib.hid hcq
   have HBEL := Lib.hid hbel
   have hkr : KRd .u32 (w2.alloc (.cells #[.int .u32 (r : Int)] 152)) (w2.alloc (.cells #[.int .u32 (r : Int)] 152)).heap.size (some ⟨w2.heap.size, 0, none⟩) [r] := by
    refine KRd.mk_ (by simp) fun j x hj => ?_
    have h := rd_new_cells w2 [.int .u32 (r : Int)] 152 w2.heap.size rfl j (.int .u32 (x : Int)) (by
     rcases j with _ | j
     ·
      simp at hj; simp [hj]
     ·
      simp at hj)
    rw [Addr.add_lit] at h
    exact h
   have HT := trim_calls (some ⟨w2.heap.size, 0, none⟩) 1 [r] _ hkr (Dig.one hrl) (by simp) (by simp)
   rw [limbs_one hrl] at HT
   have HTT := Lib.hid HT
   have HKR : Hid (KRd .u32 (w2.alloc (.cells #[.int .u32 (r : Int)] 152)) (w2.alloc (.cells #[.int .u32 (r : Int)] 152)).heap.size (some ⟨w2.heap.size, 0, none⟩) (limbs r)) := hkr.limbs (Dig.one hrl) (limbs_one hrl)
   have HLE : Hid ((limbs r).length ≤ 1) := by
    have := (take_limbs (Dig.one hrl)).2
    rw [limbs_one hrl] at this
    exact this
   clear hr hrq hcq hbel hkr HT hb2 hbc1
   go_wp2_with fail
   refine HTT.out.mono ?_
   rintro e w3 ⟨rfl, rfl⟩
   go_wp2_with fail
   go_ret2
   have hba : Below w2.heap.size w2 (w2.alloc (.cells #[.int .u32 (r : Int)] 152)) := (Below.refl _ _).alloc (Nat.le_refl _) _
   exact ⟨Q, cq, _, 1, by rw [← HR.out]; rfl, HCQ.out, by rw [← HR.out]; exact HLE.out, HRQ.out.next hba, by rw [← HR.out]; exact HKR.out, HBEL.out.trans (hba.mono HBEL.out.size)⟩
  ·
   obtain ⟨n, hn⟩ : ∃ n, n = (limbs b).length := ⟨_, rfl⟩
   obtain ⟨la, hlaa⟩ : ∃ la, la = (limbs a).length := ⟨_, rfl⟩
   have hnp := limbs_len_pos hb0
   have hn2 : 2 ≤ n := by omega
   have hnla : n ≤ la := by
    rcases Nat.lt_or_ge (limbs a).length (limbs b).length with h | h
    ·
     have := lt_of_len h; omega
    ·
     omega
   obtain ⟨t, ht⟩ : ∃ t, t = (limbs b).getD (n - 1) 0 := ⟨_, rfl⟩
   have ht0 : t ≠ 0 := by rw [ht, hn]; exact limbs_last b hb0
   have htl : t < 4294967296 := by rw [ht]; exact (limbs_dig b).getD _
   obtain ⟨hL1, hL2, hL3, hL4⟩ := bitLen_shift (Nat.pos_of_ne_zero ht0) htl
   have HLZ := Lib.hid (fun w => lz32_calls t w (Nat.pos_of_ne_zero ht0) htl)
   obtain ⟨s, hs⟩ : ∃ s, s = 32 - Lib.bitLen t := ⟨_, rfl⟩
   rw [← hs] at hL2 hL3 hL4 HLZ
   have hb1 := norm_lt hn.symm (by omega) ht hL2 hL4
   have hb2 := norm_ge hn.symm (by omega) ht hL3
   have ha1 := dividend_lt hlaa.symm hL2
   obtain ⟨bb, ob, rfl, hbb, hbc⟩ := hrb.open_ (by omega)
   have hbt := hbc (n - 1) t (by rw [ht]; exact getElem?_getD (by omega))
   rw [← hn, ← hlaa] at HC
   rw [← hn, ← hlaa]
   have HRA := Lib.hid hra
   have HRB := Lib.hid hrb
   have HBT := Lib.hid hbt
   have HBB := Lib.hid (And.intro hb1 (And.intro hb2 ha1))
   have HNN := Lib.hid (And.intro hn.symm hlaa.symm)
   have hn1 : ((n : Int) == 1) = false := by simp; omega
   have hla' : la ≤ 100000000 := by omega
   clear hra hrb hbc hbt hb1 hb2 ha1 hn hlaa ht ht0 hs hL1 hL3 hL4 hcm hcm1 hb0 hge hla hlb hca h1 hnp
   go_enter Tryz.func112, Tryz.ntmps112
   go_wp2_with fail
   refine HC.out.mono ?_
   rintro e w1 ⟨rfl, hw1⟩
   have hbc1 := (hw1.cell (p := ⟨bb, ob + (n - 1), none⟩) hbb).trans HBT.out
   have hw1s := hw1.size
   go_wp2_with fail
   refine (HLZ.out _).mono ?_
   rintro e w1 ⟨rfl, rfl⟩
   clear hbc1
   have HSB := Lib.hid (shift_calls (some ⟨bb, ob, none⟩) cb b s n w1 (HRB.out.next hw1) hL2 (by omega) (by rw [HNN.out.1]; omega) HBB.out.1)
   rw [HNN.out.1] at HSB
   go_wp2_with fail
   refine HSB.out.mono ?_
   rintro e w2 ⟨gd, D, rfl, hgd, hDl, hDd, hDv, hDrow, hw2⟩
   have hw2s := hw2.size
   have hbel2 := hw1.trans (hw2.mono hw1.size)
   have HSA := Lib.hid (shift_calls A ca a s (la + 1) w2 ((HRA.out.next hw1).next hw2) hL2 (by omega) (by rw [HNN.out.2]; omega) HBB.out.2.2)
   rw [HNN.out.2] at HSA
   have hcast : (((la + 1 : Nat)) : Int) = (la : Int) + 1 := by omega
   rw [hcast] at HSA
   have HD := Lib.hid (And.intro hDl (And.intro hDd hDv))
   have HDROW := Lib.hid hDrow
   have HBEL2 := Lib.hid hbel2
   have hgdl := hDrow.lt
   clear hDl hDd hDv hDrow hbel2 hw1 hw2 HSB hcast
   go_wp2_with fail
   refine HSA.out.mono ?_
   rintro e w3 ⟨gu, u0, rfl, hgu, hul, hud, huv, hurow, hw3⟩
   have hw3s := hw3.size
   have hbel3 := HBEL2.out.trans (hw3.mono HBEL2.out.size)
   have hV0 : 0 < valL D := by
    rw [HD.out.2.2]
    have := HBB.out.2.1
    have hp : 0 < 4294967296 ^ (n - 1) := Nat.pow_pos (by omega)
    omega
   have hst := start_lt HNN.out.2 hL2 rfl (show 1 ≤ n by omega) hnla hul huv (by rw [HD.out.2.2]; exact HBB.out.2.1)
   have htop := top_ge HD.out.1 (by omega) HD.out.2.1 (by rw [HD.out.2.2]; exact HBB.out.2.1)
   have HST := Lib.hid hst
   have HU := Lib.hid (And.intro hul (And.intro hud huv))
   have HUROW := Lib.hid hurow
   have HBEL3 := Lib.hid hbel3
   have HW3 := Lib.hid hw3
   have HV0 := Lib.hid hV0
   have HTOP := Lib.hid htop
   have hgul := hurow.lt
   obtain ⟨lq, hlq⟩ : ∃ lq, lq = la - n + 1 := ⟨_, rfl⟩
   have hlqI : (la : Int) - (n : Int) + 1 = (lq : Int) := by omega
   have hmk := run_make_row' (P := Tryz.prog) 150 152 (.int .u32 0) 4 Tryz.underlying150 Tryz.info_u32 rfl .i64 .i64 lq (by omega) (by omega)
   have hlqm : lq + n = la + 1 := by omega
   clear hul hud huv hurow hbel3 hV0 hst htop hw3 hlq HSA
   go_wp2_with fail
   go_loopw [13] (fun ii wr => ∃ (k : Nat) (qs o : List Nat), k ≤ lq ∧ ii = .int .i64 ((k : Int) - 1) ∧ KRow .u32 152 wr w3.heap.size (List.replicate k 0 ++ qs) ∧ KRow .u32 152 wr gu (u0.take k ++ (o ++ List.replicate (la + 1 - k - n) 0)) ∧
    Hid (qs.length = lq - k ∧ Dig qs ∧ o.length = n ∧ Dig o ∧ valL qs = valL (u0.drop k) / valL D ∧ valL o = valL (u0.drop k) % valL D) ∧ Below w2.heap.size w2 wr) (fun ii _ => (intOf ii + 1).toNat)
   case atStart =>
    have hdl : (u0.drop lq).length = n := by rw [List.length_drop, HU.out.1]; omega
    have hs2 : valL (u0.drop lq) < valL D := by
     have e : la + 1 - n = lq := by omega
     have := HST.out
     rwa [e] at this
    refine ⟨lq, [], u0.drop lq, Nat.le_refl _, rfl, (KRow.made _ _ _ rfl).cast (by simp), ?_, ⟨by simp, Dig.nil, hdl, HU.out.2.1.drop _, ?_, ?_⟩, ?_⟩
    ·
     refine (HUROW.out.alloc _).cast ?_
     have e : la + 1 - lq - n = 0 := by omega
     rw [e]; simp
    ·
     rw [Nat.div_eq_of_lt hs2]; rfl
    ·
     rw [Nat.mod_eq_of_lt hs2]
    ·
     exact HW3.out.alloc hw3s _
   case round =>
    obtain ⟨k, qs, o, hk, rfl, hqrow, hurow, HI, hbel⟩ := hrel
    have hgl := hurow.lt
    have hql := hqrow.lt
    by_cases h0 : k = 0
    ·
     subst h0
     obtain ⟨hqsl, hqsd, hol, hod, hqv, hov⟩ := HI.out
     rw [List.drop_zero, HU.out.2.2, HD.out.2.2] at hqv hov
     obtain ⟨hP0, hPd⟩ := (show 0 < 2 ^ s ∧ True from ⟨Nat.pow_pos (by omega), trivial⟩)
     obtain ⟨e1, e2⟩ := shr_quot (a := a) (b := b) hP0
     rw [e1] at hqv
     rw [e2] at hov
     have hqrow' : KRow .u32 152 wr w3.heap.size qs := hqrow
     have hqsl' : qs.length = lq := by omega
     have hqrd := hqrow'.rd
     have hurd : KRd .u32 wr wr.heap.size (some ⟨gu, 0, none⟩) o := by
      have h := hurow.rd.take n
      rw [List.take_zero, List.nil_append, List.take_append_of_le_length (by omega), List.take_of_length_le (by omega)] at h
      exact h
     have HT := Lib.hid (fun (W : World) (hW : Below wr.heap.size wr W) => trim_calls (some ⟨w3.heap.size, 0, none⟩) lq qs W (hqrd.upTo hW hW.size) hqsd (Nat.le_of_eq hqsl') (by omega))
     rw [hqv, hqsl'] at HT
     have HUS := Lib.hid (fun (W : World) (hW : Below wr.heap.size wr W) (cc : Nat) => unshift_calls (some ⟨gu, 0, none⟩) cc s o W (hurd.upTo hW hW.size) hod hL2 (by omega))
     rw [hov, hol] at HUS
     have hdd : a % b * 2 ^ s / 2 ^ s = a % b := Nat.mul_div_cancel _ hP0
     rw [hdd] at HUS
     have HQL : Hid (KRd .u32 wr wr.heap.size (some ⟨w3.heap.size, 0, none⟩) (limbs (a / b)) ∧ (limbs (a / b)).length ≤ lq) := by
      refine ⟨hqrd.limbs hqsd hqv, ?_⟩
      have := (take_limbs hqsd).2
      rw [hqv] at this
      omega
     have HBB4 := ben HBEL2 hbel
     clear hqsl hqsd hol hod hqv hov HI hqrow hurow hqrow' hqsl' hqrd hurd hdd e1 e2 hmk hlqI hbel hPd hP0
     go_wp2_with fail
     go_region_with (first
      | (go_at_call 107; refine (HT.out _ ?_).mono ?_; (first | exact Below.refl _ _ | exact (Below.refl _ _).drew | assumption | (refine Below.trans ?_ (by assumption); exact (Below.refl _ _).drew)); rintro e w5 ⟨rfl, rfl⟩)
      | (go_at_call 139; refine (HUS.out _ ?_ _).mono ?_; (first | exact Below.refl _ _ | exact (Below.refl _ _).drew | assumption); rintro e w5 ⟨R, cr, rfl, hcr, hrr, hb5⟩))
     all_goals
      have hbw : Below wr.heap.size wr w5 := ((Below.refl _ _).drew).trans hb5
      go_wp2_with fail
      go_ret2
      exact ⟨_, lq, R, cr, rfl, HQL.out.2, hcr, HQL.out.1.upTo hbw hbw.size, hrr, HBB4.out.trans (hbw.mono HBB4.out.size)⟩
    ·
     obtain ⟨j, rfl⟩ : ∃ j, k = j + 1 := ⟨k - 1, by omega⟩
     obtain ⟨hqsl, hqsd, hol, hod, hqv, hov⟩ := HI.out
     have hju : j < u0.length := by rw [HU.out.1]; omega
     obtain ⟨x, hx⟩ : ∃ x, x = u0.getD j 0 := ⟨_, rfl⟩
     have hxl : x < 4294967296 := by rw [hx]; exact HU.out.2.1.getD j
     have hrow2 : KRow .u32 152 wr gu (u0.take j ++ ((x :: o) ++ List.replicate (la + 1 - (j + 1) - n) 0)) := by
      refine hurow.cast ?_
      rw [take_snoc_getD _ _ hju, ← hx, List.append_assoc]; rfl
     have hvlt : valL o < valL D := by rw [hov]; exact Nat.mod_lt _ HV0.out
     have hkn : Kn n (x :: o) D := ⟨hn2, by simp [hol], HD.out.1, Dig.cons hxl hod, HD.out.2.1, HTOP.out, us_lt hxl hvlt⟩
     have hDr : KRd .u32 wr w2.heap.size (some ⟨gd, 0, none⟩) D := HDROW.out.rd.below hbel
     have HS := Lib.hid (fun cu => step_calls gu j n cu n w2.heap.size (some ⟨gd, 0, none⟩) (u0.take j) (x :: o) _ D wr hrow2 (List.length_take_of_le (by omega)) (by omega) hDr hgu hkn (by omega))
     obtain ⟨qd, hqd⟩ : ∃ qd, qd = valL (x :: o) / valL D := ⟨_, rfl⟩
     rw [← hqd] at HS
     have hqdl : qd < 4294967296 := by rw [hqd]; exact hkn.qlt
     have hrd := round_div (qd := qd) hju HV0.out hqv hov (by rw [← hx]; exact hqd)
     rw [← hx] at hrd
     have HRD := Lib.hid hrd
     have HQS := Lib.hid (And.intro hqsl hqsd)
     have HQROW := Lib.hid hqrow
     have hji : ((j + 1 : Nat) : Int) - 1 = (j : Int) := by omega
     have hsl : j + n + 1 - j = n + 1 := by omega
     have hsub : j + n + 1 ≤ la + 1 := by omega
     have HBEL := Lib.hid hbel
     have hguB : gu ≠ w3.heap.size := by omega
     have HNE := Lib.hid hguB
     clear h0 hx hrow2 hvlt hkn hDr hqd hrd hqsl hqsd hol hod hqv hov HI hqrow hurow hmk hlqI hbel hguB
     go_wp2_with fail
     refine (HS.out _).mono ?_
     rintro e w4 ⟨o2, rfl, ho2l, ho2d, ho2v, hurow4, honly⟩
     have hq4 := HQROW.out.only honly (Ne.symm HNE.out)
     have hb4 := HBEL.out.trans (honly.at_ w2.heap.size HBEL.out.size hgu)
     have hq4f := hq4.frozen j
     have hq4c := hq4.getD (j := j) (by rw [List.length_append, List.length_replicate]; omega)
     rw [low_getD] at hq4c
     have hq4l := hq4.lt
     have HQ4 := Lib.hid hq4
     have HU4 := Lib.hid hurow4
     have HO2 := Lib.hid (And.intro ho2l (And.intro ho2d ho2v))
     clear hq4 hurow4 honly ho2l ho2d ho2v hsl
     go_wp2_with fail
     go_roundw
     case measure => simp [intOf] <;> omega
     case rel =>
      refine ⟨j, qd :: qs, o2, by omega, by go_num, HQ4.out.setI j qd rfl (low_set j qd qs), ?_, ⟨by rw [List.length_cons, HQS.out.1]; omega, Dig.cons hqdl HQS.out.2, HO2.out.1, HO2.out.2.1, HRD.out.1, by rw [HO2.out.2.2]; exact HRD.out.2⟩, hb4.setCell (p := ⟨w3.heap.size, j, none⟩) (by simp; omega) _⟩
      refine (HU4.out.other (a := ⟨w3.heap.size, j, none⟩) HNE.out _).cast ?_
      have e : la + 1 - j - n = (la + 1 - (j + 1) - n) + 1 := by omega
      rw [e, List.replicate_succ]; simp

end Go.Proofs.YtjlicnhkemfmiaaGreatDoor

/- slices.Reverse on bytes; natural.Divide, GCD. -/
namespace Go.Proofs.YtjlicnhkemfmiaaGreatDoor
open Go.RowKit

/-! ### Divide, GCD -/
theorem snum_len8 {s : ByteArray} (hs : s.size ≤ 100000000) : (limbs (snum s)).length ≤ 100000000 := by
 rw [limbs_len_canon]; have := canon_num_len s.data.toList; rw [← Lib.size_eq] at this; show ((canon (num s.data.toList)).length + 3) / 4 ≤ _; omega

theorem limbs_mono {a b : Nat} (h : a ≤ b) : (limbs a).length ≤ (limbs b).length := by
 rcases Nat.lt_or_ge (limbs b).length (limbs a).length with h2 | h2
 ·
  have := lt_of_len h2; omega
 ·
  exact h2

/-- what Divide answers -/
def DivAns (a b : Nat) (w : World) (e : Ending) (w' : World) : Prop :=
 e = .returned (if b = 0 then .tuple #[.string ⟨#[]⟩, .string ⟨#[]⟩, .bool false] else .tuple #[.string (ncan (a / b)), .string (ncan (a % b)), .bool true]) ∧ Below w.heap.size w w'

theorem natDivide_calls (s t : ByteArray) (w : World) (hs : s.size ≤ 100000000) (ht : t.size ≤ 100000000) :
 Calls Tryz.prog 86 #[.string s, .string t] w fun e w' => DivAns (snum s) (snum t) w e w' := by
 have HP1 := Lib.hid (fun w => parse_calls s w (by omega))
 have HP2 := Lib.hid (fun w => parse_calls t w (by omega))
 have HLA := Lib.hid (snum_len8 hs)
 have HLB := Lib.hid (snum_len8 ht)
 obtain ⟨a, ha⟩ : ∃ a, a = snum s := ⟨_, rfl⟩
 obtain ⟨b, hb⟩ : ∃ b, b = snum t := ⟨_, rfl⟩
 rw [← ha] at HP1 HLA ⊢
 rw [← hb] at HP2 HLB ⊢
 clear ha hb hs ht
 by_cases hb0 : b = 0
 ·
  subst hb0
  rw [limbs_zero] at HP2
  go_enter Tryz.func86, Tryz.ntmps86
  go_wp2_with fail
  refine (HP2.out _).mono ?_
  rintro e w1 ⟨A1, c1, rfl, hc1, hr1, hb1⟩
  go_wp2_with fail
  go_ret3
  exact ⟨rfl, hb1⟩
 ·
  have hl : ¬ (limbs b).length = 0 := by have := limbs_len_pos hb0; omega
  have hl2 : (((limbs b).length : Int) == 0) = false := by simpa using hl
  have HB0 := Lib.hid hb0
  clear hl hb0
  go_enter Tryz.func86, Tryz.ntmps86
  go_wp2_with fail
  refine (HP2.out _).mono ?_
  rintro e w1 ⟨B, cb, rfl, hcb, hrb, hb1⟩
  go_wp2_with fail
  refine (HP1.out _).mono ?_
  rintro e w2 ⟨A, ca, rfl, hca, hra, hb2⟩
  have hbel := hb1.trans (hb2.mono hb1.size)
  have HD := Lib.hid (divide_calls A B ca cb a b w2 hra (hrb.next hb2) HLA.out HLB.out hca HB0.out)
  have HBEL := Lib.hid hbel
  clear hra hrb hb1 hb2 hbel
  go_wp2_with fail
  refine HD.out.mono ?_
  rintro e w3 ⟨Q, cq, R, cr, rfl, hcq, hcr, hrq, hrr, hb3⟩
  have hlq : (limbs (a / b)).length ≤ 1000000000 := by have := limbs_mono (Nat.div_le_self a b); have := HLA.out; omega
  have hlr : (limbs (a % b)).length ≤ 1000000000 := by have := limbs_mono (Nat.mod_le a b); have := HLA.out; omega
  have HT1 := Lib.hid (text_calls Q cq (limbs (a / b)) w3 hrq (limbs_dig _) hcq hlq)
  have HRR := Lib.hid hrr
  have HB3 := ben HBEL hb3
  rw [valL_limbs] at HT1
  clear hrq hrr hb3
  go_wp2_with fail
  refine HT1.out.mono ?_
  rintro e w4 ⟨rfl, hb4⟩
  have HT2 := Lib.hid (text_calls R cr (limbs (a % b)) w4 (HRR.out.next hb4) (limbs_dig _) hcr hlr)
  rw [valL_limbs] at HT2
  have HB4 := ben HB3 hb4
  clear hb4
  go_wp2_with fail
  refine HT2.out.mono ?_
  rintro e w5 ⟨rfl, hb5⟩
  go_wp2_with fail
  go_ret3
  refine ⟨?_, HB4.out.trans (hb5.mono HB4.out.size)⟩
  rw [if_neg HB0.out]; rfl

theorem natGCD_calls (s t : ByteArray) (w : World) (hs : s.size ≤ 100000000) (ht : t.size ≤ 100000000) :
 Calls Tryz.prog 85 #[.string s, .string t] w fun e w' => e = .returned (.string (ncan (Nat.gcd (snum s) (snum t)))) ∧ Below w.heap.size w w' := by
 have HP1 := Lib.hid (fun w => parse_calls s w (by omega))
 have HP2 := Lib.hid (fun w => parse_calls t w (by omega))
 have hla := snum_len8 hs
 have hlb := snum_len8 ht
 obtain ⟨a, ha⟩ : ∃ a, a = snum s := ⟨_, rfl⟩
 obtain ⟨b, hb⟩ : ∃ b, b = snum t := ⟨_, rfl⟩
 rw [← ha] at HP1 hla ⊢
 rw [← hb] at HP2 hlb ⊢
 clear ha hb hs ht
 go_enter Tryz.func85, Tryz.ntmps85
 go_wp2_with fail
 refine (HP1.out _).mono ?_
 rintro e w1 ⟨A, ca, rfl, hca, hra, hb1⟩
 go_wp2_with fail
 refine (HP2.out _).mono ?_
 rintro e w2 ⟨B, cb, rfl, hcb, hrb, hb2⟩
 have HBEL : Hid (Below w.heap.size w w2) := hb1.trans (hb2.mono hb1.size)
 have HRA := Lib.hid (hra.next hb2)
 have HRB := Lib.hid hrb
 clear hra hrb hb1 hb2
 go_wp2_with fail
 go_loopg [5, 6] b (fun gk xx yy wr => ∃ (x y : Nat) (X Y : Option Addr) (cx cy : Nat), y ≤ gk ∧ xx = .slice X (limbs x).length cx ∧ yy = .slice Y (limbs y).length cy ∧ (limbs x).length ≤ cx ∧ (limbs y).length ≤ cy ∧ (limbs x).length ≤ 100000000 ∧ (limbs y).length ≤ 100000000 ∧ Hid (KRd .u32 wr wr.heap.size X (limbs x)) ∧ Hid (KRd .u32 wr wr.heap.size Y (limbs y)) ∧ Hid (Nat.gcd x y = Nat.gcd a b) ∧ Below w.heap.size w wr)
 case atStart => exact ⟨a, b, A, B, ca, cb, Nat.le_refl _, rfl, rfl, hca, hcb, hla, hlb, HRA, HRB, rfl, HBEL.out⟩
 case round =>
  clear hca hcb hla hlb HRA HRB HBEL
  obtain ⟨x, y, X, Y, cx, cy, hgk, rfl, rfl, hcx, hcy, hlx, hly, HX, HY, HG, hbel⟩ := hrel
  have HBEL := Lib.hid hbel
  clear hbel
  by_cases hy0 : y = 0
  ·
   subst hy0
   have h0 : (limbs 0).length = 0 := by rw [limbs_zero]; rfl
   have HGX : Hid (x = Nat.gcd a b) := by have := HG.out; rw [Nat.gcd_zero_right] at this; exact this
   have HT := Lib.hid (text_calls X cx (limbs x) wr HX.out (limbs_dig _) hcx (by omega))
   rw [valL_limbs] at HT
   clear HY hcy hly
   rw [h0]
   clear h0
   go_wp2_with fail
   refine HT.out.mono ?_
   rintro e w3 ⟨rfl, hb3⟩
   go_wp2_with fail
   go_ret
   refine ⟨ret_str (by rw [HGX.out]), HBEL.out.trans (hb3.mono HBEL.out.size)⟩
  ·
   have hyp := limbs_len_pos hy0
   have HD := Lib.hid (divide_calls X Y cx cy x y wr HX.out HY.out hlx hly hcx hy0)
   have hlr : (limbs (x % y)).length ≤ 100000000 := by have := limbs_mono (Nat.le_of_lt (Nat.mod_lt x (Nat.pos_of_ne_zero hy0))); omega
   have hmlt : x % y < gk := by have := Nat.mod_lt x (Nat.pos_of_ne_zero hy0); omega
   have HML := Lib.hid hmlt
   have HG2 : Hid (Nat.gcd y (x % y) = Nat.gcd a b) := by
    show _ = _
    rw [← HG.out, Nat.gcd_comm x y, Nat.gcd_rec y x, Nat.gcd_comm]
   clear hmlt hy0
   go_wp2_with fail
   refine HD.out.mono ?_
   rintro e w3 ⟨Q, cq, R, cr, rfl, hcq, hcr, hrq, hrr, hb3⟩
   have HB3 := ben HBEL hb3
   have HY3 := Lib.hid (HY.out.next hb3)
   have HRR := Lib.hid hrr
   clear hrq hrr hb3
   go_wp2_with fail
   go_roundg (x % y)
   case measure => exact HML.out
   case rel => exact ⟨y, x % y, Y, R, cy, cr, Nat.le_refl _, rfl, rfl, hcy, hcr, hly, hlr, HY3, HRR, HG2, HB3.out⟩

end Go.Proofs.YtjlicnhkemfmiaaGreatDoor

/- natural.Format. -/
namespace Go.Proofs.YtjlicnhkemfmiaaGreatDoor
open Go.RowKit

end Go.Proofs.YtjlicnhkemfmiaaGreatDoor

/- insolvencylaw1.awake. -/
namespace Go.Proofs.YtjlicnhkemfmiaaGreatDoor
open Go.RowKit

end Go.Proofs.YtjlicnhkemfmiaaGreatDoor

/- insolvencylaw1.few; the program's operations on strings whose numbers are known. -/
namespace Go.Proofs.YtjlicnhkemfmiaaGreatDoor
open Go.RowKit

/-- a string, its number, a bound of its length -/
def Sm (s : ByteArray) (n : Nat) : Prop := snum s = n ∧ s.size ≤ 100000
theorem Sm.can {n k : Nat} (h : n < 256 ^ k) (hk : k ≤ 100000) : Sm (ncan n) n := ⟨snum_ncan n, by rw [ncan_size]; exact Nat.le_trans (canon_len_le h) hk⟩

section
variable {s t : ByteArray} {x y z : Nat}
theorem op_add (hs : Sm s x) (ht : Sm t y) (hz : x + y = z) (w : World) : Calls Tryz.prog 61 #[.string s, .string t] w fun e w' => e = .returned (.string (ncan z)) ∧ Below w.heap.size w w' := by
 have h := natAdd_calls s t w (by have := hs.2; omega) (by have := ht.2; omega)
 rwa [hs.1, ht.1, hz] at h
theorem op_mul (hs : Sm s x) (ht : Sm t y) (hz : x * y = z) (w : World) : Calls Tryz.prog 40 #[.string s, .string t] w fun e w' => e = .returned (.string (ncan z)) ∧ Below w.heap.size w w' := by
 have h := natMultiply_calls s t w (by have := hs.2; omega) (by have := ht.2; omega)
 rwa [hs.1, ht.1, hz] at h
theorem op_gcd (hs : Sm s x) (ht : Sm t y) (hz : Nat.gcd x y = z) (w : World) : Calls Tryz.prog 85 #[.string s, .string t] w fun e w' => e = .returned (.string (ncan z)) ∧ Below w.heap.size w w' := by
 have h := natGCD_calls s t w (by have := hs.2; omega) (by have := ht.2; omega)
 rwa [hs.1, ht.1, hz] at h
theorem op_div (hs : Sm s x) (ht : Sm t y) (hy : y ≠ 0) {q r : Nat} (hq : x / y = q) (hr : x % y = r) (w : World) : Calls Tryz.prog 86 #[.string s, .string t] w fun e w' => e = .returned (.tuple #[.string (ncan q), .string (ncan r), .bool true]) ∧ Below w.heap.size w w' := by
 refine (natDivide_calls s t w (by have := hs.2; omega) (by have := ht.2; omega)).mono ?_
 rintro e w1 ⟨rfl, h2⟩
 rw [hs.1, ht.1, if_neg hy, hq, hr]
 exact ⟨rfl, h2⟩
theorem op_cmp (hs : Sm s x) (ht : Sm t y) {c : Int} (hz : cmpN x y = c) (w : World) : Calls Tryz.prog 39 #[.string s, .string t] w fun e w' => e = .returned (.int .i64 c) ∧ w' = w := by
 have h := natCompare_calls s t w (by have := hs.2; omega) (by have := ht.2; omega)
 rwa [hs.1, ht.1, hz] at h
theorem op_norm (hs : Sm s x) (w : World) : Calls Tryz.prog 73 #[.string s] w fun e w' => e = .returned (.string (ncan x)) ∧ w' = w := by
 have h := normalize_calls s w
 rwa [hs.1] at h
theorem op_sub (hs : Sm s x) (ht : Sm t y) (hle : y ≤ x) (hz : x - y = z) (w : World) : Calls Tryz.prog 62 #[.string s, .string t] w fun e w' => e = .returned (.tuple #[.string (ncan z), .bool true]) ∧ Below w.heap.size w w' := by
 refine (natSubtract_calls s t w (by have := hs.2; omega) (by have := ht.2; omega)).mono ?_
 rintro e w1 ⟨rfl, h2⟩
 rw [hs.1, ht.1, if_neg (by omega), hz]
 exact ⟨rfl, h2⟩
end

end Go.Proofs.YtjlicnhkemfmiaaGreatDoor

/- small facts of ncan for the laws -/
namespace Go.Proofs.YtjlicnhkemfmiaaGreatDoor
open Go.RowKit

section
variable {s t : ByteArray} {x y z : Nat}
theorem op_sub_lt (hs : Sm s x) (ht : Sm t y) (hlt : x < y) (w : World) : Calls Tryz.prog 62 #[.string s, .string t] w fun e w' => e = .returned (.tuple #[.string ⟨#[]⟩, .bool false]) ∧ Below w.heap.size w w' := by
 refine (natSubtract_calls s t w (by have := hs.2; omega) (by have := ht.2; omega)).mono ?_
 rintro e w1 ⟨rfl, h2⟩
 rw [hs.1, ht.1, if_pos hlt]
 exact ⟨rfl, h2⟩
end

end Go.Proofs.YtjlicnhkemfmiaaGreatDoor

/- the definition's operations on strings: NatCompare, NatAdd, NatSubtract, NatMultiply. -/
namespace Go.Proofs.YtjlicnhkemfmiaaGreatDoor
open Go.RowKit

section
variable {s t : ByteArray} {x y z : Nat}

end

end Go.Proofs.YtjlicnhkemfmiaaGreatDoor

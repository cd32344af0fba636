/- insolvencyref1.two, Controlled, Controls, connected, Connected, Circle. -/
import Derived.Test.YtomfcmlomfcghaaGreatDoorRCtl
import Derived.Test.YtomfcmlomfcghaaGreatDoorRChk
import Derived.Test.YtomfcmlomfcghaaGreatDoorPCon
set_option linter.unusedVariables false
set_option linter.unusedSimpArgs false
namespace Go.Proofs.YtomfcmlomfcghaaGreatDoor
open Go.RowKit

set_option maxHeartbeats 4000000 in
set_option maxRecDepth 100000 in
theorem rTwo_calls (Ak : Option Addr) (nk ck : Nat) (As : Option Addr) (ns cs : Nat) (At : Option Addr) (nt ct : Nat) (P : Prt) (m : Nat) (a b : Int) (w : World) (hp : PRd Ak nk As ns At nt P w) (hb : PB m P) :
    Calls Tryz.prog 43 #[ptyVal Ak nk ck As ns cs At nt ct, .int .i64 a, .int .i64 b] w fun e w' => e = .returned (.int .i64 (twoErr P a b)) ∧ Below w.heap.size w w' := by
  have HP := Lib.hid hp
  have HPB := Lib.hid hb
  have HNK := Lib.hid hp.nk
  have HNT := Lib.hid hp.nt
  have gk : nk ≤ maxLen := by rw [hp.nk]; exact hb.kl
  unfold maxLen at gk
  clear hp hb
  obtain ⟨E, hE⟩ : ∃ E, E = chk P := ⟨_, rfl⟩
  have HCK' := fun (W : World) (hW : Below w.heap.size w W) => rchk_calls Ak nk ck As ns cs At nt ct P m W (HP.out.next hW) HPB.out
  rw [← hE] at HCK'
  have HE := Lib.hid hE
  have HCK := Lib.hid HCK'
  clear hE HCK'
  obtain ⟨w0, hw0⟩ : ∃ W, W = w.alloc (.cells #[.slice Ak nk ck, .slice As ns cs, .slice At nt ct] 26) := ⟨_, rfl⟩
  obtain ⟨q, hq⟩ : ∃ q, q = w.heap.size := ⟨_, rfl⟩
  have HB0 : Hid (Below w.heap.size w w0) := by rw [hw0]; exact bel_alloc _ _
  have HX0 : Hid (PBox q Ak nk ck As ns cs At nt ct w0) := by rw [hw0, hq]; exact blk_new _ _
  obtain ⟨T, hT⟩ : ∃ T, T = twoErr P a b := ⟨_, rfl⟩
  rw [← hT]
  have HT := Lib.hid hT
  clear hT
  by_cases h0 : E = 0
  · subst h0
    rcases f1 : inN nk a with _ | _
    · have F1 := Lib.hid f1
      clear f1
      obtain rfl : T = 14 := by rw [HT.out]; unfold twoErr; rw [← HE.out, ← HNK.out, F1.out]; rfl
      by_cases g1 : a < 0
      · have d1 : decide (a < 0) = true := decide_eq_true g1
        go_enter Tryz.func43, Tryz.ntmps43
        go_upto_region 1 with fail
        rw [← hw0, ← hq]
        have HQ := Lib.hid hq
        clear hw0 hq
        obtain ⟨k0, k1, k2⟩ := HX0.out.cells
        go_wp2_with fail
        clear k0 k1 k2
        refine (HCK.out _ HB0.out).mono ?_
        rintro e w1 ⟨rfl, hb⟩
        have HXw1 := Lib.hid (HX0.out.next hb)
        have HBw1 : Hid (Below w.heap.size w w1) := HB0.out.trans (hb.mono HB0.out.size)
        clear hb HX0 HB0
        obtain ⟨k0, k1, k2⟩ := HXw1.out.cells
        go_wp2_with fail
        go_ret
        exact ⟨rfl, HBw1.out⟩
      · have d1 : decide (a < 0) = false := decide_eq_false g1
        have d2 : decide ((nk : Int) ≤ a) = true := decide_eq_true (by have := mt inN_iff.2 (by rw [F1.out]; decide); omega)
        clear g1
        go_enter Tryz.func43, Tryz.ntmps43
        go_upto_region 1 with fail
        rw [← hw0, ← hq]
        have HQ := Lib.hid hq
        clear hw0 hq
        obtain ⟨k0, k1, k2⟩ := HX0.out.cells
        go_wp2_with fail
        clear k0 k1 k2
        refine (HCK.out _ HB0.out).mono ?_
        rintro e w1 ⟨rfl, hb⟩
        have HXw1 := Lib.hid (HX0.out.next hb)
        have HBw1 : Hid (Below w.heap.size w w1) := HB0.out.trans (hb.mono HB0.out.size)
        clear hb HX0 HB0
        obtain ⟨k0, k1, k2⟩ := HXw1.out.cells
        go_wp2_with fail
        go_ret
        exact ⟨rfl, HBw1.out⟩
    · have ho := inN_true f1
      have d1 : decide (a < 0) = false := decide_eq_false (by omega)
      have d2 : decide ((nk : Int) ≤ a) = false := decide_eq_false (by omega)
      have F1 := Lib.hid f1
      clear f1 ho
      rcases f3 : inN nk b with _ | _
      · have F3 := Lib.hid f3
        clear f3
        obtain rfl : T = 14 := by rw [HT.out]; unfold twoErr; rw [← HE.out, ← HNK.out, F1.out, F3.out]; rfl
        by_cases g1 : b < 0
        · have d3 : decide (b < 0) = true := decide_eq_true g1
          go_enter Tryz.func43, Tryz.ntmps43
          go_upto_region 1 with fail
          rw [← hw0, ← hq]
          have HQ := Lib.hid hq
          clear hw0 hq
          obtain ⟨k0, k1, k2⟩ := HX0.out.cells
          go_wp2_with fail
          clear k0 k1 k2
          refine (HCK.out _ HB0.out).mono ?_
          rintro e w1 ⟨rfl, hb⟩
          have HXw1 := Lib.hid (HX0.out.next hb)
          have HBw1 : Hid (Below w.heap.size w w1) := HB0.out.trans (hb.mono HB0.out.size)
          clear hb HX0 HB0
          obtain ⟨k0, k1, k2⟩ := HXw1.out.cells
          go_wp2_with fail
          go_ret
          exact ⟨rfl, HBw1.out⟩
        · have d3 : decide (b < 0) = false := decide_eq_false g1
          have d4 : decide ((nk : Int) ≤ b) = true := decide_eq_true (by have := mt inN_iff.2 (by rw [F3.out]; decide); omega)
          clear g1
          go_enter Tryz.func43, Tryz.ntmps43
          go_upto_region 1 with fail
          rw [← hw0, ← hq]
          have HQ := Lib.hid hq
          clear hw0 hq
          obtain ⟨k0, k1, k2⟩ := HX0.out.cells
          go_wp2_with fail
          clear k0 k1 k2
          refine (HCK.out _ HB0.out).mono ?_
          rintro e w1 ⟨rfl, hb⟩
          have HXw1 := Lib.hid (HX0.out.next hb)
          have HBw1 : Hid (Below w.heap.size w w1) := HB0.out.trans (hb.mono HB0.out.size)
          clear hb HX0 HB0
          obtain ⟨k0, k1, k2⟩ := HXw1.out.cells
          go_wp2_with fail
          go_ret
          exact ⟨rfl, HBw1.out⟩
      · have ho := inN_true f3
        have d3 : decide (b < 0) = false := decide_eq_false (by omega)
        have d4 : decide ((nk : Int) ≤ b) = false := decide_eq_false (by omega)
        have F3 := Lib.hid f3
        clear f3 ho
        obtain rfl : T = 0 := by rw [HT.out]; unfold twoErr; rw [← HE.out, ← HNK.out, F1.out, F3.out]; rfl
        go_enter Tryz.func43, Tryz.ntmps43
        go_upto_region 1 with fail
        rw [← hw0, ← hq]
        have HQ := Lib.hid hq
        clear hw0 hq
        obtain ⟨k0, k1, k2⟩ := HX0.out.cells
        go_wp2_with fail
        clear k0 k1 k2
        refine (HCK.out _ HB0.out).mono ?_
        rintro e w1 ⟨rfl, hb⟩
        have HXw1 := Lib.hid (HX0.out.next hb)
        have HBw1 : Hid (Below w.heap.size w w1) := HB0.out.trans (hb.mono HB0.out.size)
        clear hb HX0 HB0
        obtain ⟨k0, k1, k2⟩ := HXw1.out.cells
        go_wp2_with fail
        go_ret
        exact ⟨rfl, HBw1.out⟩
  · have hE0 : (E == 0) = false := beq_eq_false_iff_ne.2 h0
    obtain rfl : T = E := by rw [HT.out]; unfold twoErr; rw [← HE.out, if_pos h0]
    clear h0
    go_enter Tryz.func43, Tryz.ntmps43
    go_upto_region 1 with fail
    rw [← hw0, ← hq]
    have HQ := Lib.hid hq
    clear hw0 hq
    obtain ⟨k0, k1, k2⟩ := HX0.out.cells
    go_wp2_with fail
    clear k0 k1 k2
    refine (HCK.out _ HB0.out).mono ?_
    rintro e w1 ⟨rfl, hb⟩
    have HXw1 := Lib.hid (HX0.out.next hb)
    have HBw1 : Hid (Below w.heap.size w w1) := HB0.out.trans (hb.mono HB0.out.size)
    clear hb HX0 HB0
    obtain ⟨k0, k1, k2⟩ := HXw1.out.cells
    go_wp2_with fail
    go_ret
    exact ⟨rfl, HBw1.out⟩

set_option maxHeartbeats 4000000 in
set_option maxRecDepth 100000 in
theorem rControlled_calls (Ak : Option Addr) (nk ck : Nat) (As : Option Addr) (ns cs : Nat) (At : Option Addr) (nt ct : Nat) (P : Prt) (m : Nat) (own : Int) (w : World) (hp : PRd Ak nk As ns At nt P w) (hb : PB m P) :
    Calls Tryz.prog 13 #[ptyVal Ak nk ck As ns cs At nt ct, .int .i64 own] w (ListPost (ctlList P own) (oneErr P own) w) := by
  have HP := Lib.hid hp
  have HPB := Lib.hid hb
  have HNK := Lib.hid hp.nk
  have HNT := Lib.hid hp.nt
  have gk : nk ≤ maxLen := by rw [hp.nk]; exact hb.kl
  unfold maxLen at gk
  clear hp hb
  obtain ⟨E, hE⟩ : ∃ E, E = chk P := ⟨_, rfl⟩
  have HCK' := fun (W : World) (hW : Below w.heap.size w W) => rchk_calls Ak nk ck As ns cs At nt ct P m W (HP.out.next hW) HPB.out
  rw [← hE] at HCK'
  have HE := Lib.hid hE
  have HCK := Lib.hid HCK'
  clear hE HCK'
  obtain ⟨w0, hw0⟩ : ∃ W, W = w.alloc (.cells #[.slice Ak nk ck, .slice As ns cs, .slice At nt ct] 26) := ⟨_, rfl⟩
  obtain ⟨q, hq⟩ : ∃ q, q = w.heap.size := ⟨_, rfl⟩
  have HB0 : Hid (Below w.heap.size w w0) := by rw [hw0]; exact bel_alloc _ _
  have HX0 : Hid (PBox q Ak nk ck As ns cs At nt ct w0) := by rw [hw0, hq]; exact blk_new _ _
  by_cases h0 : E = 0
  · subst h0
    rcases f1 : inN nk own with _ | _
    · have F1 := Lib.hid f1
      clear f1
      by_cases g1 : own < 0
      · have d1 : decide (own < 0) = true := decide_eq_true g1
        go_enter Tryz.func13, Tryz.ntmps13
        go_upto_region 1 with fail
        rw [← hw0, ← hq]
        have HQ := Lib.hid hq
        clear hw0 hq
        obtain ⟨k0, k1, k2⟩ := HX0.out.cells
        go_wp2_with fail
        clear k0 k1 k2
        refine (HCK.out _ HB0.out).mono ?_
        rintro e w1 ⟨rfl, hb⟩
        have HXw1 := Lib.hid (HX0.out.next hb)
        have HBw1 : Hid (Below w.heap.size w w1) := HB0.out.trans (hb.mono HB0.out.size)
        clear hb HX0 HB0
        obtain ⟨k0, k1, k2⟩ := HXw1.out.cells
        go_wp2_with fail
        go_ret2
        have e1 : oneErr P own = 14 := by unfold oneErr; rw [← HE.out, ← HNK.out, F1.out]; rfl
        have e2 : ctlList P own = [] := by unfold ctlList; rw [e1, if_neg (by decide)]
        rw [e1, e2]
        exact ⟨none, 0, rfl, Rd.nil, HBw1.out⟩
      · have d1 : decide (own < 0) = false := decide_eq_false g1
        have d2 : decide ((nk : Int) ≤ own) = true := decide_eq_true (by have := mt inN_iff.2 (by rw [F1.out]; decide); omega)
        clear g1
        go_enter Tryz.func13, Tryz.ntmps13
        go_upto_region 1 with fail
        rw [← hw0, ← hq]
        have HQ := Lib.hid hq
        clear hw0 hq
        obtain ⟨k0, k1, k2⟩ := HX0.out.cells
        go_wp2_with fail
        clear k0 k1 k2
        refine (HCK.out _ HB0.out).mono ?_
        rintro e w1 ⟨rfl, hb⟩
        have HXw1 := Lib.hid (HX0.out.next hb)
        have HBw1 : Hid (Below w.heap.size w w1) := HB0.out.trans (hb.mono HB0.out.size)
        clear hb HX0 HB0
        obtain ⟨k0, k1, k2⟩ := HXw1.out.cells
        go_wp2_with fail
        go_ret2
        have e1 : oneErr P own = 14 := by unfold oneErr; rw [← HE.out, ← HNK.out, F1.out]; rfl
        have e2 : ctlList P own = [] := by unfold ctlList; rw [e1, if_neg (by decide)]
        rw [e1, e2]
        exact ⟨none, 0, rfl, Rd.nil, HBw1.out⟩
    · have hdb := inN_true f1
      obtain ⟨on, hon⟩ : ∃ i : Nat, own = (i : Int) := ⟨own.toNat, by omega⟩
      subst hon
      have hol : on < nk := by omega
      have F1 := Lib.hid f1
      clear f1 hdb
      have HGO := Lib.hid (Good.of_chk HE.out.symm)
      go_enter Tryz.func13, Tryz.ntmps13
      go_upto_region 1 with fail
      rw [← hw0, ← hq]
      have HQ := Lib.hid hq
      clear hw0 hq
      obtain ⟨k0, k1, k2⟩ := HX0.out.cells
      go_wp2_with fail
      clear k0 k1 k2
      refine (HCK.out _ HB0.out).mono ?_
      rintro e w1 ⟨rfl, hb⟩
      have HXw1 := Lib.hid (HX0.out.next hb)
      have HBw1 : Hid (Below w.heap.size w w1) := HB0.out.trans (hb.mono HB0.out.size)
      clear hb HX0 HB0
      obtain ⟨k0, k1, k2⟩ := HXw1.out.cells
      go_wp2_with fail
      clear k0 k1 k2
      refine (rctl_calls Ak nk ck As ns cs At nt ct P m on _ (HP.out.next HBw1.out) HPB.out HGO.out).mono ?_
      rintro e w3 ⟨A, c, rfl, hr, hb⟩
      have HBw3 : Hid (Below w.heap.size w w3) := HBw1.out.trans (hb.mono HBw1.out.size)
      have HR := Lib.hid hr
      clear hr hb
      go_wp2_with fail
      go_ret2
      have e1 : oneErr P (on : Int) = 0 := oneErr_of HE.out.symm (by rw [← HNK.out]; exact F1.out)
      have e2 : ctlList P (on : Int) = idxs (ctl P (on : Int)) nk := by rw [HNK.out]; unfold ctlList; rw [if_pos e1]
      rw [e1, e2]
      exact ⟨A, c, rfl, HR.out, HBw3.out⟩
  · have hE0 : (E == 0) = false := beq_eq_false_iff_ne.2 h0
    have hE1 : (E != 0) = true := bne_iff_ne.2 h0
    have H0 := Lib.hid h0
    clear h0
    go_enter Tryz.func13, Tryz.ntmps13
    go_upto_region 1 with fail
    rw [← hw0, ← hq]
    have HQ := Lib.hid hq
    clear hw0 hq
    obtain ⟨k0, k1, k2⟩ := HX0.out.cells
    go_wp2_with fail
    clear k0 k1 k2
    refine (HCK.out _ HB0.out).mono ?_
    rintro e w1 ⟨rfl, hb⟩
    have HXw1 := Lib.hid (HX0.out.next hb)
    have HBw1 : Hid (Below w.heap.size w w1) := HB0.out.trans (hb.mono HB0.out.size)
    clear hb HX0 HB0
    obtain ⟨k0, k1, k2⟩ := HXw1.out.cells
    go_wp2_with fail
    go_ret2
    have e1 : oneErr P own = E := by unfold oneErr; rw [← HE.out, if_pos H0.out]
    have e2 : ctlList P own = [] := by unfold ctlList; rw [e1, if_neg H0.out]
    rw [e1, e2]
    exact ⟨none, 0, rfl, Rd.nil, HBw1.out⟩

set_option maxHeartbeats 4000000 in
set_option maxRecDepth 100000 in
theorem rControls_calls (Ak : Option Addr) (nk ck : Nat) (As : Option Addr) (ns cs : Nat) (At : Option Addr) (nt ct : Nat) (P : Prt) (m : Nat) (a b : Int) (w : World) (hp : PRd Ak nk As ns At nt P w) (hb : PB m P) :
    Calls Tryz.prog 15 #[ptyVal Ak nk ck As ns cs At nt ct, .int .i64 a, .int .i64 b] w fun e w' => e = .returned (.tuple #[.bool (ctlB P a b), .int .i64 (twoErr P a b)]) ∧ Below w.heap.size w w' := by
  have HP := Lib.hid hp
  have HPB := Lib.hid hb
  have HNK := Lib.hid hp.nk
  have HNT := Lib.hid hp.nt
  have gk : nk ≤ maxLen := by rw [hp.nk]; exact hb.kl
  unfold maxLen at gk
  clear hp hb
  obtain ⟨w0, hw0⟩ : ∃ W, W = w.alloc (.cells #[.slice Ak nk ck, .slice As ns cs, .slice At nt ct] 26) := ⟨_, rfl⟩
  obtain ⟨q, hq⟩ : ∃ q, q = w.heap.size := ⟨_, rfl⟩
  have HB0 : Hid (Below w.heap.size w w0) := by rw [hw0]; exact bel_alloc _ _
  have HX0 : Hid (PBox q Ak nk ck As ns cs At nt ct w0) := by rw [hw0, hq]; exact blk_new _ _
  obtain ⟨E, hE⟩ : ∃ E, E = twoErr P a b := ⟨_, rfl⟩
  have HC' := fun (W : World) (hW : Below w.heap.size w W) => rTwo_calls Ak nk ck As ns cs At nt ct P m a b W (HP.out.next hW) HPB.out
  rw [← hE] at HC'
  have HC := Lib.hid HC'
  have HE := Lib.hid hE
  rw [← hE]
  clear HC' hE
  by_cases h0 : E = 0
  · subst h0
    have hpt := twoErr_parts HE.out.symm
    have ha := inN_true hpt.2.1
    have hbb := inN_true hpt.2.2
    rw [← HNK.out] at ha hbb
    obtain ⟨an, han⟩ : ∃ i : Nat, a = (i : Int) := ⟨a.toNat, by omega⟩
    obtain ⟨bn, hbn⟩ : ∃ i : Nat, b = (i : Int) := ⟨b.toNat, by omega⟩
    subst han
    subst hbn
    have hal : an < nk := by omega
    have hbl : bn < nk := by omega
    have HGO := Lib.hid (Good.of_chk hpt.1)
    obtain ⟨r, hr⟩ : ∃ r, r = ctl P (an : Int) bn := ⟨_, rfl⟩
    have e2 : ctlB P (an : Int) (bn : Int) = r := by unfold ctlB; rw [← HE.out, if_pos rfl, Int.toNat_natCast, hr]
    rw [e2]
    have HR := Lib.hid hr
    have hn32 : nk ≤ 32 := by rw [HNK.out]; exact HGO.out.kl
    clear e2 hr
    clear ha hbb hpt
    go_enter Tryz.func15, Tryz.ntmps15
    go_upto_region 1 with fail
    rw [← hw0, ← hq]
    have HQ := Lib.hid hq
    clear hw0 hq
    obtain ⟨k0, k1, k2⟩ := HX0.out.cells
    go_wp2_with fail
    clear k0 k1 k2
    refine (HC.out _ HB0.out).mono ?_
    rintro e w1 ⟨rfl, hb⟩
    have HXw1 := Lib.hid (HX0.out.next hb)
    have HBw1 : Hid (Below w.heap.size w w1) := HB0.out.trans (hb.mono HB0.out.size)
    clear hb HX0 HB0
    obtain ⟨k0, k1, k2⟩ := HXw1.out.cells
    go_wp2_with fail
    clear k0 k1 k2
    refine (rctl_calls Ak nk ck As ns cs At nt ct P m an _ (HP.out.next HBw1.out) HPB.out HGO.out).mono ?_
    rintro e w3 ⟨A, c, rfl, hrd, hb⟩
    have HBw3 : Hid (Below w.heap.size w w3) := HBw1.out.trans (hb.mono HBw1.out.size)
    obtain ⟨L, hL⟩ : ∃ L, L = idxs (ctl P (an : Int)) nk := ⟨_, rfl⟩
    rw [← hL] at hrd ⊢
    have hll : L.length ≤ 32 := by rw [hL]; have := idxs_len (ctl P (an : Int)) nk; omega
    have HHS := Lib.hid (has_calls A L.length c L (bn : Int) w3 rfl hrd (by simp only [maxLen]; omega) r (by rw [HR.out, hL]; exact (has_idxs hbl).symm))
    clear hb hrd hL
    go_wp2_with fail
    refine HHS.out.mono ?_
    rintro e w4 ⟨rfl, hw4⟩
    rw [hw4]
    clear hw4
    go_wp2_with fail
    go_ret2
    exact ⟨rfl, HBw3.out⟩
  · have hE0 : (E != 0) = true := bne_iff_ne.2 h0
    have e2 : ctlB P a b = false := by unfold ctlB; rw [← HE.out, if_neg h0]
    rw [e2]
    clear e2 h0
    go_enter Tryz.func15, Tryz.ntmps15
    go_upto_region 1 with fail
    rw [← hw0, ← hq]
    have HQ := Lib.hid hq
    clear hw0 hq
    obtain ⟨k0, k1, k2⟩ := HX0.out.cells
    go_wp2_with fail
    clear k0 k1 k2
    refine (HC.out _ HB0.out).mono ?_
    rintro e w1 ⟨rfl, hb⟩
    have HXw1 := Lib.hid (HX0.out.next hb)
    have HBw1 : Hid (Below w.heap.size w w1) := HB0.out.trans (hb.mono HB0.out.size)
    clear hb HX0 HB0
    go_wp2_with fail
    go_ret2
    exact ⟨rfl, HBw1.out⟩

set_option maxHeartbeats 4000000 in
set_option maxRecDepth 100000 in
theorem rcon_calls (Ak : Option Addr) (nk ck : Nat) (As : Option Addr) (ns cs : Nat) (At : Option Addr) (nt ct : Nat) (P : Prt) (m : Nat) (a b : Nat) (w : World) (hp : PRd Ak nk As ns At nt P w) (hb : PB m P) (hgo : Good P) (han : a < nk) (hbn : b < nk) (r : Bool) (hr : r = con P a b) :
    Calls Tryz.prog 50 #[ptyVal Ak nk ck As ns cs At nt ct, .int .i64 (a : Int), .int .i64 (b : Int)] w fun e w' => e = .returned (.bool r) ∧ Below w.heap.size w w' := by
  have HP := Lib.hid hp
  have HPB := Lib.hid hb
  have HNK := Lib.hid hp.nk
  have HNT := Lib.hid hp.nt
  have gk : nk ≤ maxLen := by rw [hp.nk]; exact hb.kl
  unfold maxLen at gk
  clear hp hb
  obtain ⟨w0, hw0⟩ : ∃ W, W = w.alloc (.cells #[.slice Ak nk ck, .slice As ns cs, .slice At nt ct] 26) := ⟨_, rfl⟩
  obtain ⟨q, hq⟩ : ∃ q, q = w.heap.size := ⟨_, rfl⟩
  have HB0 : Hid (Below w.heap.size w w0) := by rw [hw0]; exact bel_alloc _ _
  have HX0 : Hid (PBox q Ak nk ck As ns cs At nt ct w0) := by rw [hw0, hq]; exact blk_new _ _
  have HGO := Lib.hid hgo
  have HR := Lib.hid hr
  have gk32 : nk ≤ 32 := by rw [HNK.out]; exact hgo.kl
  have gt64 : nt ≤ 64 := by rw [HNT.out]; exact hgo.tl
  clear hgo hr
  by_cases hab : a = b
  · have hb1 : ((a : Int) == (b : Int)) = true := beq_iff_eq.2 (by omega)
    obtain rfl : r = true := by rw [HR.out, hab]; exact con_self
    clear hab
    go_enter Tryz.func50, Tryz.ntmps50
    go_upto_region 1 with fail
    rw [← hw0, ← hq]
    have HQ := Lib.hid hq
    clear hw0 hq
    obtain ⟨k0, k1, k2⟩ := HX0.out.cells
    go_wp2_with fail
    clear k0 k1 k2
    go_ret
    exact ⟨rfl, HB0.out⟩
  · have hb1 : ((a : Int) == (b : Int)) = false := beq_eq_false_iff_ne.2 (by omega)
    have HAB := Lib.hid hab
    clear hab
    go_enter Tryz.func50, Tryz.ntmps50
    go_upto_region 1 with fail
    rw [← hw0, ← hq]
    have HQ := Lib.hid hq
    clear hw0 hq
    obtain ⟨k0, k1, k2⟩ := HX0.out.cells
    go_wp2_with fail
    clear k0 k1 k2
    go_loopw [7] (fun i wr => ∃ k : Nat, k ≤ nt ∧ i = .int .i64 (k : Int) ∧ Hid ((P.ties.take k).any (tieHit a b) = false) ∧ Hid (PBox q Ak nk ck As ns cs At nt ct wr) ∧ Hid (Below w.heap.size w wr)) (fun i _ => nt - (intOf i).toNat)
    case atStart => exact ⟨0, Nat.zero_le _, rfl, rfl, HX0, HB0⟩
    case round =>
      clear HX0 HB0
      obtain ⟨j, hj, rfl, HTT, HXwr, HBwr⟩ := hrel
      rename World => wr
      obtain ⟨j0, j1, j2⟩ := HXwr.out.cells
      by_cases hjl : j < nt
      · have hjl2 : (j : Int) < (nt : Int) := by omega
        obtain ⟨t, ht⟩ := getElem?_of_lt (l := P.ties) (k := j) (by rw [← HNT.out]; exact hjl)
        have HMT := Lib.hid (And.intro (List.mem_of_getElem? ht) ht)
        obtain ⟨bb, off, hA, _, hc⟩ := Rd.at_ (enc := tieV) (fun _ => rfl) (HP.out.t.next HBwr.out) ht
        subst hA
        have p0 := hc 0 _ rfl
        have p1 := hc 1 _ rfl
        rw [Nat.add_zero] at p0
        rw [← Nat.add_assoc] at p1
        clear hc ht
        obtain ⟨x, y⟩ := t
        dsimp only at p0 p1
        have HBA : Hid (Below w.heap.size w (wr.alloc (.cells #[.int .i64 x, .int .i64 y] 87))) := HBwr.out.alloc HBwr.out.size _
        have HXA : Hid (PBox q Ak nk ck As ns cs (some ⟨bb, off, none⟩) nt ct (wr.alloc (.cells #[.int .i64 x, .int .i64 y] 87))) := HXwr.out.next (bel_alloc _ _)
        have hsa : TBox wr.heap.size x y (wr.alloc (.cells #[.int .i64 x, .int .i64 y] 87)) := blk_new _ _
        obtain ⟨s0, s1⟩ := hsa.cells
        clear hsa HXwr HBwr
        by_cases h1 : x = (a : Int)
        · have e1 : (x == (a : Int)) = true := beq_iff_eq.2 h1
          by_cases h2 : y = (b : Int)
          · have e2 : (y == (b : Int)) = true := beq_iff_eq.2 h2
            obtain rfl : r = true := by rw [HR.out, con_eq]; have : P.ties.any (tieHit a b) = true := List.any_eq_true.2 ⟨(x, y), HMT.out.1, by unfold tieHit; dsimp only; rw [e1, e2]; rfl⟩; rw [this]; simp
            clear h1 h2
            go_wp2_with fail
            go_ret
            exact ⟨rfl, HBA.out⟩
          · have e2 : (y == (b : Int)) = false := beq_eq_false_iff_ne.2 h2
            by_cases h3 : x = (b : Int)
            · have e3 : (x == (b : Int)) = true := beq_iff_eq.2 h3
              by_cases h4 : y = (a : Int)
              · have e4 : (y == (a : Int)) = true := beq_iff_eq.2 h4
                obtain rfl : r = true := by rw [HR.out, con_eq]; have : P.ties.any (tieHit a b) = true := List.any_eq_true.2 ⟨(x, y), HMT.out.1, by unfold tieHit; dsimp only; rw [e3, e4]; simp⟩; rw [this]; simp
                clear h1 h2 h3 h4
                go_wp2_with fail
                go_ret
                exact ⟨rfl, HBA.out⟩
              · have e4 : (y == (a : Int)) = false := beq_eq_false_iff_ne.2 h4
                have HNX : Hid ((P.ties.take (j + 1)).any (tieHit a b) = false) := any_take HTT.out HMT.out.2 (by unfold tieHit; dsimp only; rw [e2, e4]; simp)
                clear h1 h2 h3 h4 HTT HMT
                go_wp2_with fail
                go_roundw
                case measure => simp [intOf] <;> omega
                case rel => exact ⟨j + 1, by omega, by go_num, HNX, HXA, HBA⟩
            · have e3 : (x == (b : Int)) = false := beq_eq_false_iff_ne.2 h3
              have HNX : Hid ((P.ties.take (j + 1)).any (tieHit a b) = false) := any_take HTT.out HMT.out.2 (by unfold tieHit; dsimp only; rw [e2, e3]; simp)
              clear h1 h2 h3 HTT HMT
              go_wp2_with fail
              go_roundw
              case measure => simp [intOf] <;> omega
              case rel => exact ⟨j + 1, by omega, by go_num, HNX, HXA, HBA⟩
        · have e1 : (x == (a : Int)) = false := beq_eq_false_iff_ne.2 h1
          by_cases h3 : x = (b : Int)
          · have e3 : (x == (b : Int)) = true := beq_iff_eq.2 h3
            by_cases h4 : y = (a : Int)
            · have e4 : (y == (a : Int)) = true := beq_iff_eq.2 h4
              obtain rfl : r = true := by rw [HR.out, con_eq]; have : P.ties.any (tieHit a b) = true := List.any_eq_true.2 ⟨(x, y), HMT.out.1, by unfold tieHit; dsimp only; rw [e3, e4]; simp⟩; rw [this]; simp
              clear h1 h3 h4
              go_wp2_with fail
              go_ret
              exact ⟨rfl, HBA.out⟩
            · have e4 : (y == (a : Int)) = false := beq_eq_false_iff_ne.2 h4
              have HNX : Hid ((P.ties.take (j + 1)).any (tieHit a b) = false) := any_take HTT.out HMT.out.2 (by unfold tieHit; dsimp only; rw [e1, e4]; simp)
              clear h1 h3 h4 HTT HMT
              go_wp2_with fail
              go_roundw
              case measure => simp [intOf] <;> omega
              case rel => exact ⟨j + 1, by omega, by go_num, HNX, HXA, HBA⟩
          · have e3 : (x == (b : Int)) = false := beq_eq_false_iff_ne.2 h3
            have HNX : Hid ((P.ties.take (j + 1)).any (tieHit a b) = false) := any_take HTT.out HMT.out.2 (by unfold tieHit; dsimp only; rw [e1, e3]; simp)
            clear h1 h3 HTT HMT
            go_wp2_with fail
            go_roundw
            case measure => simp [intOf] <;> omega
            case rel => exact ⟨j + 1, by omega, by go_num, HNX, HXA, HBA⟩
      · have HTF : Hid (P.ties.any (tieHit a b) = false) := by
          have := HTT.out
          rwa [List.take_of_length_le (by rw [← HNT.out]; omega)] at this
        clear HTT
        go_wp2_with fail
        clear j0 j1 j2 hj hjl
        go_loopw [9] (fun i wr => ∃ k : Nat, k ≤ nk ∧ i = .int .i64 (k : Int) ∧ Hid ((List.range k).any (ownHit P a b) = false) ∧ Hid (PBox q Ak nk ck As ns cs At nt ct wr) ∧ Hid (Below w.heap.size w wr)) (fun i _ => nk - (intOf i).toNat)
        case atStart => exact ⟨0, Nat.zero_le _, rfl, rfl, HXwr, HBwr⟩
        case round =>
          clear HXwr HBwr
          obtain ⟨k, hk, rfl, HTT, HXwo, HBwo⟩ := hrel
          rename World => wo
          obtain ⟨j0, j1, j2⟩ := HXwo.out.cells
          by_cases hkl : k < nk
          · have hkl2 : (k : Int) < (nk : Int) := by omega
            go_wp2_with fail
            clear j0 j1 j2
            refine (rctl_calls Ak nk ck As ns cs At nt ct P m k _ (HP.out.next HBwo.out) HPB.out HGO.out).mono ?_
            rintro e w3 ⟨A, c, rfl, hrd, hb⟩
            have HX3 := Lib.hid (HXwo.out.next hb)
            have HB3 : Hid (Below w.heap.size w w3) := HBwo.out.trans (hb.mono HBwo.out.size)
            obtain ⟨L, hL⟩ : ∃ L, L = idxs (ctl P (k : Int)) nk := ⟨_, rfl⟩
            rw [← hL] at hrd ⊢
            have hll : L.length ≤ 32 := by rw [hL]; have := idxs_len (ctl P (k : Int)) nk; omega
            obtain ⟨u, hu⟩ : ∃ u, u = ctl P (k : Int) a := ⟨_, rfl⟩
            obtain ⟨v, hv⟩ : ∃ u, u = ctl P (k : Int) b := ⟨_, rfl⟩
            have HA1 := Lib.hid (has_calls A L.length c L (a : Int) w3 rfl hrd (by simp only [maxLen]; omega) u (by rw [hu, hL]; exact (has_idxs han).symm))
            have HA2 := Lib.hid (has_calls A L.length c L (b : Int) w3 rfl hrd (by simp only [maxLen]; omega) v (by rw [hv, hL]; exact (has_idxs hbn).symm))
            have HU := Lib.hid hu
            have HV := Lib.hid hv
            obtain ⟨nl, hnl⟩ : ∃ n, n = L.length := ⟨_, rfl⟩
            rw [← hnl] at HA1 HA2 hll ⊢
            clear hb hrd hL hu hv hnl HXwo HBwo
            by_cases hka : k = a
            · have hb4 : ((k : Int) == (a : Int)) = true := beq_iff_eq.2 (by omega)
              have hb5 : (k == a) = true := beq_iff_eq.2 hka
              have HG := Lib.hid hb5
              clear hka hb5
              by_cases hkb : k = b
              · have hb2 : ((k : Int) == (b : Int)) = true := beq_iff_eq.2 (by omega)
                have hb3 : (k == b) = true := beq_iff_eq.2 hkb
                have HH := Lib.hid hb3
                clear hkb hb3
                obtain rfl : r = true := by rw [HR.out, con_eq]; have : (List.range P.kinds.length).any (ownHit P a b) = true := List.any_eq_true.2 ⟨k, List.mem_range.2 (by rw [← HNK.out]; exact hkl), by unfold ownHit; rw [HG.out, HH.out]; simp⟩; rw [this]; simp
                go_wp2_with fail
                go_ret
                exact ⟨rfl, HB3.out⟩
              · have hb2 : ((k : Int) == (b : Int)) = false := beq_eq_false_iff_ne.2 (by omega)
                have hb3 : (k == b) = false := beq_eq_false_iff_ne.2 hkb
                have HH := Lib.hid hb3
                clear hkb hb3
                go_wp2_with fail
                refine HA2.out.mono ?_
                rintro e w4 ⟨rfl, hw4⟩
                rw [hw4]
                clear hw4
                cases v
                · have HNX : Hid ((List.range (k + 1)).any (ownHit P a b) = false) := by show _ = _; rw [any_range_succ, HTT.out, ownHit, HG.out, HH.out, ← HV.out]; simp
                  go_wp2_with fail
                  go_roundw
                  case measure => simp [intOf] <;> omega
                  case rel => exact ⟨k + 1, by omega, by go_num, HNX, HX3, HB3⟩
                · obtain rfl : r = true := by rw [HR.out, con_eq]; have : (List.range P.kinds.length).any (ownHit P a b) = true := List.any_eq_true.2 ⟨k, List.mem_range.2 (by rw [← HNK.out]; exact hkl), by unfold ownHit; rw [HG.out, HH.out, ← HV.out]; simp⟩; rw [this]; simp
                  go_wp2_with fail
                  go_ret
                  exact ⟨rfl, HB3.out⟩
            · have hb4 : ((k : Int) == (a : Int)) = false := beq_eq_false_iff_ne.2 (by omega)
              have hb5 : (k == a) = false := beq_eq_false_iff_ne.2 hka
              have HG := Lib.hid hb5
              clear hka hb5
              go_wp2_with fail
              refine HA1.out.mono ?_
              rintro e w4 ⟨rfl, hw4⟩
              rw [hw4]
              clear hw4
              cases u
              · have HNX : Hid ((List.range (k + 1)).any (ownHit P a b) = false) := by show _ = _; rw [any_range_succ, HTT.out, ownHit, HG.out, ← HU.out]; simp
                go_wp2_with fail
                go_roundw
                case measure => simp [intOf] <;> omega
                case rel => exact ⟨k + 1, by omega, by go_num, HNX, HX3, HB3⟩
              · by_cases hkb : k = b
                · have hb2 : ((k : Int) == (b : Int)) = true := beq_iff_eq.2 (by omega)
                  have hb3 : (k == b) = true := beq_iff_eq.2 hkb
                  have HH := Lib.hid hb3
                  clear hkb hb3
                  obtain rfl : r = true := by rw [HR.out, con_eq]; have : (List.range P.kinds.length).any (ownHit P a b) = true := List.any_eq_true.2 ⟨k, List.mem_range.2 (by rw [← HNK.out]; exact hkl), by unfold ownHit; rw [HG.out, ← HU.out, HH.out]; simp⟩; rw [this]; simp
                  go_wp2_with fail
                  go_ret
                  exact ⟨rfl, HB3.out⟩
                · have hb2 : ((k : Int) == (b : Int)) = false := beq_eq_false_iff_ne.2 (by omega)
                  have hb3 : (k == b) = false := beq_eq_false_iff_ne.2 hkb
                  have HH := Lib.hid hb3
                  clear hkb hb3
                  go_wp2_with fail
                  refine HA2.out.mono ?_
                  rintro e w4 ⟨rfl, hw4⟩
                  rw [hw4]
                  clear hw4
                  cases v
                  · have HNX : Hid ((List.range (k + 1)).any (ownHit P a b) = false) := by show _ = _; rw [any_range_succ, HTT.out, ownHit, HG.out, ← HU.out, HH.out, ← HV.out]; simp
                    go_wp2_with fail
                    go_roundw
                    case measure => simp [intOf] <;> omega
                    case rel => exact ⟨k + 1, by omega, by go_num, HNX, HX3, HB3⟩
                  · obtain rfl : r = true := by rw [HR.out, con_eq]; have : (List.range P.kinds.length).any (ownHit P a b) = true := List.any_eq_true.2 ⟨k, List.mem_range.2 (by rw [← HNK.out]; exact hkl), by unfold ownHit; rw [HG.out, ← HU.out, HH.out, ← HV.out]; simp⟩; rw [this]; simp
                    go_wp2_with fail
                    go_ret
                    exact ⟨rfl, HB3.out⟩
          · obtain rfl : r = false := by
              have := HTT.out
              rw [show k = P.kinds.length by rw [← HNK.out]; omega] at this
              rw [HR.out, con_eq, HTF.out, this, beq_eq_false_iff_ne.2 (fun e => HAB.out e.symm)]; rfl
            go_wp2_with fail
            go_ret
            exact ⟨rfl, HBwo.out⟩

set_option maxHeartbeats 4000000 in
set_option maxRecDepth 100000 in
theorem rConnected_calls (Ak : Option Addr) (nk ck : Nat) (As : Option Addr) (ns cs : Nat) (At : Option Addr) (nt ct : Nat) (P : Prt) (m : Nat) (a b : Int) (w : World) (hp : PRd Ak nk As ns At nt P w) (hb : PB m P) :
    Calls Tryz.prog 22 #[ptyVal Ak nk ck As ns cs At nt ct, .int .i64 a, .int .i64 b] w fun e w' => e = .returned (.tuple #[.bool (conB P a b), .int .i64 (twoErr P a b)]) ∧ Below w.heap.size w w' := by
  have HP := Lib.hid hp
  have HPB := Lib.hid hb
  have HNK := Lib.hid hp.nk
  have HNT := Lib.hid hp.nt
  have gk : nk ≤ maxLen := by rw [hp.nk]; exact hb.kl
  unfold maxLen at gk
  clear hp hb
  obtain ⟨w0, hw0⟩ : ∃ W, W = w.alloc (.cells #[.slice Ak nk ck, .slice As ns cs, .slice At nt ct] 26) := ⟨_, rfl⟩
  obtain ⟨q, hq⟩ : ∃ q, q = w.heap.size := ⟨_, rfl⟩
  have HB0 : Hid (Below w.heap.size w w0) := by rw [hw0]; exact bel_alloc _ _
  have HX0 : Hid (PBox q Ak nk ck As ns cs At nt ct w0) := by rw [hw0, hq]; exact blk_new _ _
  obtain ⟨E, hE⟩ : ∃ E, E = twoErr P a b := ⟨_, rfl⟩
  have HC' := fun (W : World) (hW : Below w.heap.size w W) => rTwo_calls Ak nk ck As ns cs At nt ct P m a b W (HP.out.next hW) HPB.out
  rw [← hE] at HC'
  have HC := Lib.hid HC'
  have HE := Lib.hid hE
  rw [← hE]
  clear HC' hE
  by_cases h0 : E = 0
  · subst h0
    have hpt := twoErr_parts HE.out.symm
    have ha := inN_true hpt.2.1
    have hbb := inN_true hpt.2.2
    rw [← HNK.out] at ha hbb
    obtain ⟨an, han⟩ : ∃ i : Nat, a = (i : Int) := ⟨a.toNat, by omega⟩
    obtain ⟨bn, hbn⟩ : ∃ i : Nat, b = (i : Int) := ⟨b.toNat, by omega⟩
    subst han
    subst hbn
    have hal : an < nk := by omega
    have hbl : bn < nk := by omega
    have HGO := Lib.hid (Good.of_chk hpt.1)
    obtain ⟨r, hr⟩ : ∃ r, r = con P an bn := ⟨_, rfl⟩
    have e2 : conB P (an : Int) (bn : Int) = r := by unfold conB; rw [← HE.out, if_pos rfl, Int.toNat_natCast, Int.toNat_natCast, hr]
    rw [e2]
    have HR := Lib.hid hr
    clear e2 hr
    clear ha hbb hpt
    go_enter Tryz.func22, Tryz.ntmps22
    go_upto_region 1 with fail
    rw [← hw0, ← hq]
    have HQ := Lib.hid hq
    clear hw0 hq
    obtain ⟨k0, k1, k2⟩ := HX0.out.cells
    go_wp2_with fail
    clear k0 k1 k2
    refine (HC.out _ HB0.out).mono ?_
    rintro e w1 ⟨rfl, hb⟩
    have HXw1 := Lib.hid (HX0.out.next hb)
    have HBw1 : Hid (Below w.heap.size w w1) := HB0.out.trans (hb.mono HB0.out.size)
    clear hb HX0 HB0
    obtain ⟨k0, k1, k2⟩ := HXw1.out.cells
    go_wp2_with fail
    clear k0 k1 k2
    refine (rcon_calls Ak nk ck As ns cs At nt ct P m an bn _ (HP.out.next HBw1.out) HPB.out HGO.out hal hbl r HR.out).mono ?_
    rintro e w3 ⟨rfl, hb⟩
    have HBw3 : Hid (Below w.heap.size w w3) := HBw1.out.trans (hb.mono HBw1.out.size)
    clear hb
    go_wp2_with fail
    go_ret2
    exact ⟨rfl, HBw3.out⟩
  · have hE0 : (E != 0) = true := bne_iff_ne.2 h0
    have e2 : conB P a b = false := by unfold conB; rw [← HE.out, if_neg h0]
    rw [e2]
    clear e2 h0
    go_enter Tryz.func22, Tryz.ntmps22
    go_upto_region 1 with fail
    rw [← hw0, ← hq]
    have HQ := Lib.hid hq
    clear hw0 hq
    obtain ⟨k0, k1, k2⟩ := HX0.out.cells
    go_wp2_with fail
    clear k0 k1 k2
    refine (HC.out _ HB0.out).mono ?_
    rintro e w1 ⟨rfl, hb⟩
    have HXw1 := Lib.hid (HX0.out.next hb)
    have HBw1 : Hid (Below w.heap.size w w1) := HB0.out.trans (hb.mono HB0.out.size)
    clear hb HX0 HB0
    go_wp2_with fail
    go_ret2
    exact ⟨rfl, HBw1.out⟩

set_option maxHeartbeats 4000000 in
set_option maxRecDepth 100000 in
theorem rCircle_calls (Ak : Option Addr) (nk ck : Nat) (As : Option Addr) (ns cs : Nat) (At : Option Addr) (nt ct : Nat) (P : Prt) (m : Nat) (a : Int) (w : World) (hp : PRd Ak nk As ns At nt P w) (hb : PB m P) :
    Calls Tryz.prog 20 #[ptyVal Ak nk ck As ns cs At nt ct, .int .i64 a] w (ListPost (cirList P a) (oneErr P a) w) := by
  have HP := Lib.hid hp
  have HPB := Lib.hid hb
  have HNK := Lib.hid hp.nk
  have HNT := Lib.hid hp.nt
  have gk : nk ≤ maxLen := by rw [hp.nk]; exact hb.kl
  unfold maxLen at gk
  clear hp hb
  obtain ⟨w0, hw0⟩ : ∃ W, W = w.alloc (.cells #[.slice Ak nk ck, .slice As ns cs, .slice At nt ct] 26) := ⟨_, rfl⟩
  obtain ⟨q, hq⟩ : ∃ q, q = w.heap.size := ⟨_, rfl⟩
  have HB0 : Hid (Below w.heap.size w w0) := by rw [hw0]; exact bel_alloc _ _
  have HX0 : Hid (PBox q Ak nk ck As ns cs At nt ct w0) := by rw [hw0, hq]; exact blk_new _ _
  obtain ⟨i0, hi, hz0, hz1, hz2⟩ := info_parts Tryz.info_int
  have HII := Lib.hid (And.intro hi (And.intro hz0 (And.intro hz1 hz2)))
  clear hi hz0 hz1 hz2
  obtain ⟨E, hE⟩ : ∃ E, E = oneErr P a := ⟨_, rfl⟩
  have HC' := fun (W : World) (hW : Below w.heap.size w W) => rTwo_calls Ak nk ck As ns cs At nt ct P m a a W (HP.out.next hW) HPB.out
  rw [oneErr_self, ← hE] at HC'
  have HC := Lib.hid HC'
  have HE := Lib.hid hE
  rw [← hE]
  clear HC' hE
  by_cases h0 : E = 0
  · subst h0
    have hpt := oneErr_parts HE.out.symm
    have ha := inN_true hpt.2
    rw [← HNK.out] at ha
    obtain ⟨an, han⟩ : ∃ i : Nat, a = (i : Int) := ⟨a.toNat, by omega⟩
    subst han
    have hal : an < nk := by omega
    have HGO := Lib.hid (Good.of_chk hpt.1)
    have hn32 : nk ≤ 32 := by rw [HNK.out]; exact HGO.out.kl
    have e2 : cirList P (an : Int) = idxs (con P an) nk := by rw [HNK.out]; unfold cirList; rw [← HE.out, if_pos rfl, Int.toNat_natCast]
    rw [e2]
    clear e2 ha hpt
    go_enter Tryz.func20, Tryz.ntmps20
    go_upto_region 1 with fail
    rw [← hw0, ← hq]
    have HQ := Lib.hid hq
    clear hw0 hq
    obtain ⟨k0, k1, k2⟩ := HX0.out.cells
    go_wp2_with fail
    clear k0 k1 k2
    refine (HC.out _ HB0.out).mono ?_
    rintro e w1 ⟨rfl, hb⟩
    have HXw1 := Lib.hid (HX0.out.next hb)
    have HBw1 : Hid (Below w.heap.size w w1) := HB0.out.trans (hb.mono HB0.out.size)
    clear hb HX0 HB0
    go_wp2_with fail
    go_loopw [7, 8] (fun o i wr => ∃ (k mo co : Nat) (Ao : Option Addr), k ≤ nk ∧ i = .int .i64 (k : Int) ∧ o = .slice Ao mo co ∧ Hid (mo = (idxs (con P an) k).length ∧ wr.ownsRow w1.heap.size 3 1 (.slice Ao mo co) mo ((idxs (con P an) k).flatMap intV)) ∧ Hid (PBox q Ak nk ck As ns cs At nt ct wr) ∧ Hid (Below w1.heap.size w1 wr)) (fun _ i _ => nk - (intOf i).toNat)
    case atStart => exact ⟨0, 0, 0, none, Nat.zero_le _, rfl, rfl, ⟨rfl, World.ownsRow_nil _ _ _ _⟩, HXw1, Below.refl _ _⟩
    case round =>
      obtain ⟨k, mo, co, Ao, hk, rfl, rfl, HO, HXwi, HYwi⟩ := hrel
      rename World => wi
      have HBwi : Hid (Below w.heap.size w wi) := HBw1.out.trans (HYwi.out.mono HBw1.out.size)
      obtain ⟨k0, k1, k2⟩ := HXwi.out.cells
      by_cases hkl : k < nk
      · have hkl2 : (k : Int) < (nk : Int) := by omega
        obtain ⟨h, hh⟩ : ∃ h, h = con P an k := ⟨_, rfl⟩
        have HHE := Lib.hid hh
        clear hh
        go_wp2_with fail
        clear k0 k1 k2
        refine (rcon_calls Ak nk ck As ns cs At nt ct P m an k _ (HP.out.next HBwi.out) HPB.out HGO.out hal hkl h HHE.out).mono ?_
        rintro e w3 ⟨rfl, hb⟩
        have HX3 := Lib.hid (HXwi.out.next hb)
        have HY3 : Hid (Below w1.heap.size w1 w3) := HYwi.out.trans (hb.mono HYwi.out.size)
        have HO3 : Hid (mo = (idxs (con P an) k).length ∧ w3.ownsRow w1.heap.size 3 1 (.slice Ao mo co) mo ((idxs (con P an) k).flatMap intV)) := ⟨HO.out.1, own_below HO.out.2 hb⟩
        clear hb HXwi HYwi HBwi HO
        cases h
        · have HNX : Hid (idxs (con P an) (k + 1) = idxs (con P an) k) := by show _ = _; rw [idxs_take, ← HHE.out]; rfl
          go_wp2_with fail
          go_roundw
          case measure => simp [intOf] <;> omega
          case rel => exact ⟨k + 1, _, _, _, by omega, by go_num, rfl, by rw [HNX.out]; exact HO3, HX3, HY3⟩
        · have HNX : Hid (idxs (con P an) (k + 1) = idxs (con P an) k ++ [(k : Int)]) := by show _ = _; rw [idxs_take, ← HHE.out]; rfl
          have hml : mo ≤ k := by rw [HO3.out.1]; exact idxs_len _ _
          have HOa := Lib.hid (own_below HO3.out.2 (bel_alloc w3 (.cells #[.int .i64 (k : Int)] 3)))
          have HYa := Lib.hid (HY3.out.alloc HY3.out.size (.cells #[.int .i64 (k : Int)] 3))
          have HXa := Lib.hid (HX3.out.next (bel_alloc w3 (.cells #[.int .i64 (k : Int)] 3)))
          have hsz := HYa.out.size
          go_wp2_with (at_builtin; refine wpList_append_own _ rfl (.tmp 27) (.tmp 29) 22 rfl w1.heap.size 3 i0 _ 1 8 Tryz.underlying22 HII.out.1 HII.out.2.1 HII.out.2.2.1 HII.out.2.2.2 rfl (by decide) _ mo ((idxs (con P an) k).flatMap intV) rfl HOa.out _ 1 1 [.int .i64 (k : Int)] rfl rfl (rd_new_cells _ _ _ _ (by simp)) (by simp [Value.oneCell']) (by simp only [maxLen]; omega) (by omega) hsz ?_)
          intro v' w' hown hgr hnil
          obtain ⟨g', cap, rfl, _, _⟩ := hown.form (by omega)
          obtain ⟨wt, hwt⟩ : ∃ W, W = w3.alloc (.cells #[.int .i64 (k : Int)] 3) := ⟨_, rfl⟩
          rw [← hwt] at HOa HYa HXa hgr
          clear hwt
          have HY' : Hid (Below w1.heap.size w1 w') := Below.grown HYa.out hgr HYa.out.size (fun q hq => (HOa.out.lt q hq).1)
          have HX' : Hid (PBox q Ak nk ck As ns cs At nt ct w') := blk_grownB HOa.out HXa.out (Array.getElem?_eq_some_iff.1 HXw1.out).1 hgr
          have HO' : Hid (mo + 1 = (idxs (con P an) (k + 1)).length ∧ w'.ownsRow w1.heap.size 3 1 (.slice (some ⟨g', 0, none⟩) (mo + 1) cap) (mo + 1) ((idxs (con P an) (k + 1)).flatMap intV)) := by
            show _ ∧ _
            rw [HNX.out, List.length_append, ← HO3.out.1, List.flatMap_append]
            exact ⟨rfl, hown⟩
          clear hown hgr hnil HOa HYa HXa HO3 HX3 HY3
          go_wp2_with fail
          go_roundw
          case measure => simp [intOf] <;> omega
          case rel => exact ⟨k + 1, _, _, _, by omega, by go_num, rfl, HO', HX', HY'⟩
      · obtain rfl : k = nk := by omega
        go_wp2_with fail
        go_ret2
        refine ⟨Ao, co, by rw [← HO.out.1]; rfl, ?_, HBwi.out⟩
        have := Rd.of_own HO.out.2
        rw [HO.out.1] at this
        exact this
  · have hE0 : (E != 0) = true := bne_iff_ne.2 h0
    have e2 : cirList P a = [] := by unfold cirList; rw [← HE.out, if_neg h0]
    rw [e2]
    clear e2 h0
    go_enter Tryz.func20, Tryz.ntmps20
    go_upto_region 1 with fail
    rw [← hw0, ← hq]
    have HQ := Lib.hid hq
    clear hw0 hq
    obtain ⟨k0, k1, k2⟩ := HX0.out.cells
    go_wp2_with fail
    clear k0 k1 k2
    refine (HC.out _ HB0.out).mono ?_
    rintro e w1 ⟨rfl, hb⟩
    have HXw1 := Lib.hid (HX0.out.next hb)
    have HBw1 : Hid (Below w.heap.size w w1) := HB0.out.trans (hb.mono HB0.out.size)
    clear hb HX0 HB0
    go_wp2_with fail
    go_ret2
    exact ⟨none, 0, rfl, Rd.nil, HBw1.out⟩

end Go.Proofs.YtomfcmlomfcghaaGreatDoor

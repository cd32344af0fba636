/- party.Controlled, Controls. -/
import Derived.Test.YtomfcmlomfcghaaGreatDoorPCtl
set_option linter.unusedVariables false
set_option linter.unusedSimpArgs false
namespace Go.Proofs.YtomfcmlomfcghaaGreatDoor
open Go.RowKit

def oneErr (P : Prt) (a : Int) : Int := if chk P ≠ 0 then chk P else if inN P.kinds.length a = false then 14 else 0
def twoErr (P : Prt) (a b : Int) : Int := if chk P ≠ 0 then chk P else if inN P.kinds.length a = false then 14 else if inN P.kinds.length b = false then 14 else 0
noncomputable def ctlList (P : Prt) (own : Int) : List Int := if oneErr P own = 0 then idxs (ctl P own) P.kinds.length else []
noncomputable def ctlB (P : Prt) (a b : Int) : Bool := if twoErr P a b = 0 then ctl P a b.toNat else false
theorem oneErr_self (P : Prt) (a : Int) : twoErr P a a = oneErr P a := by
  unfold twoErr oneErr
  rcases inN P.kinds.length a with _ | _ <;> rfl
/-- a list of integers and an error that a function returns -/
def ListPost (l : List Int) (er : Int) (w : World) (e : Ending) (w' : World) : Prop := ∃ A c, e = .returned (.tuple #[.slice A l.length c, .int .i64 er]) ∧ Rd w' w'.heap.size 1 A l.length (l.flatMap intV) ∧ Below w.heap.size w w'
theorem oneErr_of {P : Prt} {a : Int} (h1 : chk P = 0) (h2 : inN P.kinds.length a = true) : oneErr P a = 0 := by unfold oneErr; rw [if_neg (by rw [h1]; decide), if_neg (by rw [h2]; decide)]
theorem twoErr_of {P : Prt} {a b : Int} (h1 : chk P = 0) (h2 : inN P.kinds.length a = true) (h3 : inN P.kinds.length b = true) : twoErr P a b = 0 := by unfold twoErr; rw [if_neg (by rw [h1]; decide), if_neg (by rw [h2]; decide), if_neg (by rw [h3]; decide)]
theorem ctlList_of {P : Prt} {a : Int} (h1 : chk P = 0) (h2 : inN P.kinds.length a = true) : ctlList P a = idxs (ctl P a) P.kinds.length := by unfold ctlList; rw [if_pos (oneErr_of h1 h2)]

set_option maxHeartbeats 4000000 in
set_option maxRecDepth 100000 in
theorem pControlled_calls (Ak : Option Addr) (nk ck : Nat) (As : Option Addr) (ns cs : Nat) (At : Option Addr) (nt ct : Nat) (P : Prt) (m : Nat) (own : Int) (w : World) (hp : PRd Ak nk As ns At nt P w) (hb : PB m P) :
    Calls Tryz.prog 12 #[ptyVal Ak nk ck As ns cs At nt ct, .int .i64 own] w (ListPost (ctlList P own) (oneErr P own) w) := by
  have HP := Lib.hid hp
  have HPB := Lib.hid hb
  have HNK := Lib.hid hp.nk
  have gk : nk ≤ maxLen := by rw [hp.nk]; exact hb.kl
  have GK := Lib.hid gk
  unfold maxLen at gk
  clear hp hb
  obtain ⟨E, hE⟩ : ∃ E, E = chk P := ⟨_, rfl⟩
  have HCK' := fun (W : World) (hW : Below w.heap.size w W) => check_calls Ak nk ck As ns cs At nt ct P m W (HP.out.next hW) HPB.out
  rw [← hE] at HCK'
  have HE := Lib.hid hE
  have HCK := Lib.hid HCK'
  clear hE HCK'
  obtain ⟨w0, hw0⟩ : ∃ W, W = w.alloc (.cells #[.slice Ak nk ck, .slice As ns cs, .slice At nt ct] 26) := ⟨_, rfl⟩
  obtain ⟨q, hq⟩ : ∃ q, q = w.heap.size := ⟨_, rfl⟩
  have HB0 : Hid (Below w.heap.size w w0) := by rw [hw0]; exact bel_alloc _ _
  have HX0 : Hid (PBox q Ak nk ck As ns cs At nt ct w0) := by rw [hw0, hq]; exact blk_new _ _
  by_cases h0 : E = 0
  · subst h0
    rcases f1 : inN nk own with _ | _
    · have F1 := Lib.hid f1
      clear f1
      go_enter Tryz.func12, Tryz.ntmps12
      go_upto_region 1 with fail
      rw [← hw0, ← hq]
      have HQ := Lib.hid hq
      clear hw0 hq
      obtain ⟨k0, k1, k2⟩ := HX0.out.cells
      go_wp2_with fail
      clear k0 k1 k2
      refine (HCK.out _ HB0.out).mono ?_
      rintro e w1 ⟨rfl, hb⟩
      have HXw1 := Lib.hid (HX0.out.next hb)
      have HBw1 : Hid (Below w.heap.size w w1) := HB0.out.trans (hb.mono HB0.out.size)
      clear hb HX0 HB0
      obtain ⟨k0, k1, k2⟩ := HXw1.out.cells
      go_wp2_with fail
      clear k0 k1 k2
      refine (is_calls Ak nk ck As ns cs At nt ct own _ GK.out).mono ?_
      rintro e w2 ⟨rfl, hb⟩
      have HXw2 := Lib.hid (HXw1.out.next hb)
      have HBw2 : Hid (Below w.heap.size w w2) := HBw1.out.trans (hb.mono HBw1.out.size)
      clear hb HXw1 HBw1
      rw [F1.out]
      go_wp2_with fail
      go_ret2
      have e1 : oneErr P own = 14 := by unfold oneErr; rw [← HE.out, ← HNK.out, F1.out]; rfl
      have e2 : ctlList P own = [] := by unfold ctlList; rw [e1]; rfl
      rw [e1, e2]
      exact ⟨none, 0, rfl, Rd.nil, HBw2.out⟩
    · have F1 := Lib.hid f1
      clear f1
      have HGO := Lib.hid (Good.of_chk HE.out.symm)
      have hn32 := HGO.out.kl
      rw [← HNK.out] at hn32
      go_enter Tryz.func12, Tryz.ntmps12
      go_upto_region 1 with fail
      rw [← hw0, ← hq]
      have HQ := Lib.hid hq
      clear hw0 hq
      obtain ⟨k0, k1, k2⟩ := HX0.out.cells
      go_wp2_with fail
      clear k0 k1 k2
      refine (HCK.out _ HB0.out).mono ?_
      rintro e w1 ⟨rfl, hb⟩
      have HXw1 := Lib.hid (HX0.out.next hb)
      have HBw1 : Hid (Below w.heap.size w w1) := HB0.out.trans (hb.mono HB0.out.size)
      clear hb HX0 HB0
      obtain ⟨k0, k1, k2⟩ := HXw1.out.cells
      go_wp2_with fail
      clear k0 k1 k2
      refine (is_calls Ak nk ck As ns cs At nt ct own _ GK.out).mono ?_
      rintro e w2 ⟨rfl, hb⟩
      have HXw2 := Lib.hid (HXw1.out.next hb)
      have HBw2 : Hid (Below w.heap.size w w2) := HBw1.out.trans (hb.mono HBw1.out.size)
      clear hb HXw1 HBw1
      rw [F1.out]
      obtain ⟨k0, k1, k2⟩ := HXw2.out.cells
      go_wp2_with fail
      clear k0 k1 k2
      refine (pctl_calls Ak nk ck As ns cs At nt ct P m own _ (HP.out.next HBw2.out) HPB.out HGO.out).mono ?_
      rintro e w3 ⟨g, rfl, _, hf, hb⟩
      have HBw3 : Hid (Below w.heap.size w w3) := HBw2.out.trans (hb.mono HBw2.out.size)
      have HFw3 := Lib.hid hf
      clear hf hb HBw2
      go_wp2_with fail
      have hrd := HFw3.out.rd
      refine (list_calls (some ⟨g, 0, none⟩) nk nk (ctl P own) _ hrd (by omega)).mono ?_
      rintro e w4 ⟨A, c, rfl, hr, hb⟩
      have HBw4 : Hid (Below w.heap.size w w4) := HBw3.out.trans (hb.mono HBw3.out.size)
      have HR := Lib.hid hr
      clear hr hb hrd
      go_wp2_with fail
      go_ret2
      have e1 : oneErr P own = 0 := oneErr_of HE.out.symm (by rw [← HNK.out]; exact F1.out)
      have e2 : ctlList P own = idxs (ctl P own) nk := by rw [HNK.out]; unfold ctlList; rw [if_pos e1]
      rw [e1, e2]
      exact ⟨A, c, rfl, HR.out, HBw4.out⟩
  · have hE0 : (E != 0) = true := bne_iff_ne.2 h0
    have H0 := Lib.hid h0
    clear h0
    go_enter Tryz.func12, Tryz.ntmps12
    go_upto_region 1 with fail
    rw [← hw0, ← hq]
    have HQ := Lib.hid hq
    clear hw0 hq
    obtain ⟨k0, k1, k2⟩ := HX0.out.cells
    go_wp2_with fail
    clear k0 k1 k2
    refine (HCK.out _ HB0.out).mono ?_
    rintro e w1 ⟨rfl, hb⟩
    have HXw1 := Lib.hid (HX0.out.next hb)
    have HBw1 : Hid (Below w.heap.size w w1) := HB0.out.trans (hb.mono HB0.out.size)
    clear hb HX0 HB0
    go_wp2_with fail
    go_ret2
    have e1 : oneErr P own = E := by unfold oneErr; rw [← HE.out, if_pos H0.out]
    have e2 : ctlList P own = [] := by unfold ctlList; rw [e1, if_neg H0.out]
    rw [e1, e2]
    exact ⟨none, 0, rfl, Rd.nil, HBw1.out⟩

set_option maxHeartbeats 4000000 in
set_option maxRecDepth 100000 in
theorem pControls_calls (Ak : Option Addr) (nk ck : Nat) (As : Option Addr) (ns cs : Nat) (At : Option Addr) (nt ct : Nat) (P : Prt) (m : Nat) (a b : Int) (w : World) (hp : PRd Ak nk As ns At nt P w) (hb : PB m P) :
    Calls Tryz.prog 14 #[ptyVal Ak nk ck As ns cs At nt ct, .int .i64 a, .int .i64 b] w fun e w' => e = .returned (.tuple #[.bool (ctlB P a b), .int .i64 (twoErr P a b)]) ∧ Below w.heap.size w w' := by
  have HP := Lib.hid hp
  have HPB := Lib.hid hb
  have HNK := Lib.hid hp.nk
  have gk : nk ≤ maxLen := by rw [hp.nk]; exact hb.kl
  have GK := Lib.hid gk
  unfold maxLen at gk
  clear hp hb
  obtain ⟨E, hE⟩ : ∃ E, E = chk P := ⟨_, rfl⟩
  have HCK' := fun (W : World) (hW : Below w.heap.size w W) => check_calls Ak nk ck As ns cs At nt ct P m W (HP.out.next hW) HPB.out
  rw [← hE] at HCK'
  have HE := Lib.hid hE
  have HCK := Lib.hid HCK'
  clear hE HCK'
  obtain ⟨w0, hw0⟩ : ∃ W, W = w.alloc (.cells #[.slice Ak nk ck, .slice As ns cs, .slice At nt ct] 26) := ⟨_, rfl⟩
  obtain ⟨q, hq⟩ : ∃ q, q = w.heap.size := ⟨_, rfl⟩
  have HB0 : Hid (Below w.heap.size w w0) := by rw [hw0]; exact bel_alloc _ _
  have HX0 : Hid (PBox q Ak nk ck As ns cs At nt ct w0) := by rw [hw0, hq]; exact blk_new _ _
  by_cases h0 : E = 0
  · subst h0
    rcases f1 : inN nk a with _ | _
    · have F1 := Lib.hid f1
      clear f1
      go_enter Tryz.func14, Tryz.ntmps14
      go_upto_region 1 with fail
      rw [← hw0, ← hq]
      have HQ := Lib.hid hq
      clear hw0 hq
      obtain ⟨k0, k1, k2⟩ := HX0.out.cells
      go_wp2_with fail
      clear k0 k1 k2
      refine (HCK.out _ HB0.out).mono ?_
      rintro e w1 ⟨rfl, hb⟩
      have HXw1 := Lib.hid (HX0.out.next hb)
      have HBw1 : Hid (Below w.heap.size w w1) := HB0.out.trans (hb.mono HB0.out.size)
      clear hb HX0 HB0
      obtain ⟨k0, k1, k2⟩ := HXw1.out.cells
      go_wp2_with fail
      clear k0 k1 k2
      refine (is_calls Ak nk ck As ns cs At nt ct a _ GK.out).mono ?_
      rintro e w2 ⟨rfl, hb⟩
      have HXw2 := Lib.hid (HXw1.out.next hb)
      have HBw2 : Hid (Below w.heap.size w w2) := HBw1.out.trans (hb.mono HBw1.out.size)
      clear hb HXw1 HBw1
      rw [F1.out]
      go_wp2_with fail
      go_ret2
      have e1 : twoErr P a b = 14 := by unfold twoErr; rw [← HE.out, ← HNK.out, F1.out]; rfl
      have e2 : ctlB P a b = false := by unfold ctlB; rw [e1, if_neg (by decide)]
      rw [e1, e2]
      exact ⟨rfl, HBw2.out⟩
    · have F1 := Lib.hid f1
      clear f1
      rcases f2 : inN nk b with _ | _
      · have F2 := Lib.hid f2
        clear f2
        go_enter Tryz.func14, Tryz.ntmps14
        go_upto_region 1 with fail
        rw [← hw0, ← hq]
        have HQ := Lib.hid hq
        clear hw0 hq
        obtain ⟨k0, k1, k2⟩ := HX0.out.cells
        go_wp2_with fail
        clear k0 k1 k2
        refine (HCK.out _ HB0.out).mono ?_
        rintro e w1 ⟨rfl, hb⟩
        have HXw1 := Lib.hid (HX0.out.next hb)
        have HBw1 : Hid (Below w.heap.size w w1) := HB0.out.trans (hb.mono HB0.out.size)
        clear hb HX0 HB0
        obtain ⟨k0, k1, k2⟩ := HXw1.out.cells
        go_wp2_with fail
        clear k0 k1 k2
        refine (is_calls Ak nk ck As ns cs At nt ct a _ GK.out).mono ?_
        rintro e w2 ⟨rfl, hb⟩
        have HXw2 := Lib.hid (HXw1.out.next hb)
        have HBw2 : Hid (Below w.heap.size w w2) := HBw1.out.trans (hb.mono HBw1.out.size)
        clear hb HXw1 HBw1
        rw [F1.out]
        obtain ⟨k0, k1, k2⟩ := HXw2.out.cells
        go_wp2_with fail
        clear k0 k1 k2
        refine (is_calls Ak nk ck As ns cs At nt ct b _ GK.out).mono ?_
        rintro e w3 ⟨rfl, hb⟩
        have HXw3 := Lib.hid (HXw2.out.next hb)
        have HBw3 : Hid (Below w.heap.size w w3) := HBw2.out.trans (hb.mono HBw2.out.size)
        clear hb HXw2 HBw2
        rw [F2.out]
        go_wp2_with fail
        go_ret2
        have e1 : twoErr P a b = 14 := by unfold twoErr; rw [← HE.out, ← HNK.out, F1.out, F2.out]; rfl
        have e2 : ctlB P a b = false := by unfold ctlB; rw [e1, if_neg (by decide)]
        rw [e1, e2]
        exact ⟨rfl, HBw3.out⟩
      · have hbb := inN_true f2
        obtain ⟨bn, hbn⟩ : ∃ i : Nat, b = (i : Int) := ⟨b.toNat, by omega⟩
        subst hbn
        have hbl : bn < nk := by omega
        have hbl2 : (bn : Int) < (nk : Int) := by omega
        clear hbb
        have HGO := Lib.hid (Good.of_chk HE.out.symm)
        have F2 := Lib.hid f2
        clear f2
        go_enter Tryz.func14, Tryz.ntmps14
        go_upto_region 1 with fail
        rw [← hw0, ← hq]
        have HQ := Lib.hid hq
        clear hw0 hq
        obtain ⟨k0, k1, k2⟩ := HX0.out.cells
        go_wp2_with fail
        clear k0 k1 k2
        refine (HCK.out _ HB0.out).mono ?_
        rintro e w1 ⟨rfl, hb⟩
        have HXw1 := Lib.hid (HX0.out.next hb)
        have HBw1 : Hid (Below w.heap.size w w1) := HB0.out.trans (hb.mono HB0.out.size)
        clear hb HX0 HB0
        obtain ⟨k0, k1, k2⟩ := HXw1.out.cells
        go_wp2_with fail
        clear k0 k1 k2
        refine (is_calls Ak nk ck As ns cs At nt ct a _ GK.out).mono ?_
        rintro e w2 ⟨rfl, hb⟩
        have HXw2 := Lib.hid (HXw1.out.next hb)
        have HBw2 : Hid (Below w.heap.size w w2) := HBw1.out.trans (hb.mono HBw1.out.size)
        clear hb HXw1 HBw1
        rw [F1.out]
        obtain ⟨k0, k1, k2⟩ := HXw2.out.cells
        go_wp2_with fail
        clear k0 k1 k2
        refine (is_calls Ak nk ck As ns cs At nt ct (bn : Int) _ GK.out).mono ?_
        rintro e w3 ⟨rfl, hb⟩
        have HXw3 := Lib.hid (HXw2.out.next hb)
        have HBw3 : Hid (Below w.heap.size w w3) := HBw2.out.trans (hb.mono HBw2.out.size)
        clear hb HXw2 HBw2
        rw [F2.out]
        obtain ⟨k0, k1, k2⟩ := HXw3.out.cells
        go_wp2_with fail
        clear k0 k1 k2
        refine (pctl_calls Ak nk ck As ns cs At nt ct P m a _ (HP.out.next HBw3.out) HPB.out HGO.out).mono ?_
        rintro e w4 ⟨g, rfl, _, hf, hb⟩
        have HBw4 : Hid (Below w.heap.size w w4) := HBw3.out.trans (hb.mono HBw3.out.size)
        have c7 := hf.cell (flags_at hbl)
        clear hf hb HBw3
        have e1 : twoErr P a (bn : Int) = 0 := twoErr_of HE.out.symm (by rw [← HNK.out]; exact F1.out) (by rw [← HNK.out]; exact F2.out)
        have e2 : ctlB P a (bn : Int) = ctl P a bn := by unfold ctlB; rw [if_pos e1, Int.toNat_natCast]
        obtain ⟨r, hr⟩ : ∃ r, r = ctl P a bn := ⟨_, rfl⟩
        rw [← hr] at c7 e2
        have E12 := Lib.hid (And.intro e1 e2)
        clear e1 e2 hr
        go_wp2_with fail
        go_ret2
        rw [E12.out.1, E12.out.2]
        exact ⟨rfl, HBw4.out⟩
  · have hE0 : (E != 0) = true := bne_iff_ne.2 h0
    have H0 := Lib.hid h0
    clear h0
    go_enter Tryz.func14, Tryz.ntmps14
    go_upto_region 1 with fail
    rw [← hw0, ← hq]
    have HQ := Lib.hid hq
    clear hw0 hq
    obtain ⟨k0, k1, k2⟩ := HX0.out.cells
    go_wp2_with fail
    clear k0 k1 k2
    refine (HCK.out _ HB0.out).mono ?_
    rintro e w1 ⟨rfl, hb⟩
    have HXw1 := Lib.hid (HX0.out.next hb)
    have HBw1 : Hid (Below w.heap.size w w1) := HB0.out.trans (hb.mono HB0.out.size)
    clear hb HX0 HB0
    go_wp2_with fail
    go_ret2
    have e1 : twoErr P a b = E := by unfold twoErr; rw [← HE.out, if_pos H0.out]
    have e2 : ctlB P a b = false := by unfold ctlB; rw [e1, if_neg H0.out]
    rw [e1, e2]
    exact ⟨rfl, HBw1.out⟩

end Go.Proofs.YtomfcmlomfcghaaGreatDoor

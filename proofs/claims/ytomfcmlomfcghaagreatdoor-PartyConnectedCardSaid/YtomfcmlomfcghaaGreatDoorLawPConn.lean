/- PartyConnected: the plain walk. -/
import Derived.Test.YtomfcmlomfcghaaGreatDoorRCon
import Derived.Test.YtomfcmlomfcghaaGreatDoorPAw8
import Derived.Test.YtomfcmlomfcghaaGreatDoorFew8
import Derived.Test.YtomfcmlomfcghaaGreatDoorSameI
set_option linter.unusedVariables false
set_option linter.unusedSimpArgs false
namespace Go.Proofs.YtomfcmlomfcghaaGreatDoor
open Go.RowKit

theorem fewP_pbY {P : Prt} (h : fewP P = true) (hk : ∀ x ∈ P.kinds, i64b x) (hs : ∀ x ∈ P.stakes, i64b x.o ∧ i64b x.c ∧ x.v.fits maxLen) (ht : ∀ x ∈ P.ties, i64b x.1 ∧ i64b x.2) : PB 24 P := by
  simp only [fewP, Bool.and_eq_true, decide_eq_true_eq, List.all_eq_true, fewF] at h
  obtain ⟨h1, h2, h3, h4⟩ := h
  exact ⟨by decide, by decide, hk, fun x hx => ⟨(hs x hx).1, (hs x hx).2.1, h4 x hx⟩, ht, by unfold maxLen; omega, by unfold maxLen; omega, by unfold maxLen; omega⟩

theorem ctlList_lenZ (P : Prt) (a : Int) : (ctlList P a).length ≤ P.kinds.length := by
  unfold ctlList
  split
  · exact idxs_len _ _
  · exact Nat.zero_le _
theorem cirList_lenZ (P : Prt) (a : Int) : (cirList P a).length ≤ P.kinds.length := by
  unfold cirList
  split
  · exact idxs_len _ _
  · exact Nat.zero_le _

set_option maxHeartbeats 8000000 in
set_option maxRecDepth 100000 in
theorem pConnLaw (Ak : Option Addr) (nk ck : Nat) (As : Option Addr) (ns cs : Nat) (At : Option Addr) (nt ct : Nat) (P : Prt) (a b : Int) (w : World) (hp : PRd Ak nk As ns At nt P w)
    (hk : ∀ x ∈ P.kinds, i64b x) (hs : ∀ x ∈ P.stakes, i64b x.o ∧ i64b x.c ∧ x.v.fits maxLen) (ht : ∀ x ∈ P.ties, i64b x.1 ∧ i64b x.2) (gk : nk ≤ maxLen) (gs : ns ≤ maxLen) (gt : nt ≤ maxLen) :
    Calls Tryz.prog 5 #[ptyVal Ak nk ck As ns cs At nt ct, .int .i64 a, .int .i64 b] w fun e w' => e = .returned (.bool true) ∧ Below w.heap.size w w' := by
  have HGK := Lib.hid (And.intro gk hp.nk)
  obtain ⟨ok, hok⟩ : ∃ ok, ok = fewP P := ⟨_, rfl⟩
  have HFEW := Lib.hid (fun W (hW : Below w.heap.size w W) => few8_calls Ak nk ck As ns cs At nt ct P W (hp.next hW) (fun x hx => (hs x hx).2.2) gk gs gt ok hok)
  have HPB : Hid (ok = true → PB 24 P) := fun h => fewP_pbY (hok.symm.trans h) hk hs ht
  have HP := Lib.hid hp
  obtain ⟨w0, hw0⟩ : ∃ W, W = w.alloc (.cells #[.slice Ak nk ck, .slice As ns cs, .slice At nt ct] 26) := ⟨_, rfl⟩
  obtain ⟨q, hq⟩ : ∃ q, q = w.heap.size := ⟨_, rfl⟩
  have HB0 : Hid (Below w.heap.size w w0) := by rw [hw0]; exact bel_alloc _ _
  have HX0 : Hid (PBox q Ak nk ck As ns cs At nt ct w0) := by rw [hw0, hq]; exact blk_new _ _
  clear hp hk hs ht gk gs gt hok
  go_enter Tryz.func5, Tryz.ntmps5
  go_upto_region 1 with fail
  rw [← hw0, ← hq]
  have HQ := Lib.hid hq
  clear hw0 hq
  obtain ⟨k0, k1, k2⟩ := HX0.out.cells
  go_wp2_with fail
  clear k0 k1 k2
  refine (HFEW.out _ HB0.out).mono ?_
  rintro e w1 ⟨rfl, hb⟩
  have HX1 := Lib.hid (HX0.out.next hb)
  have HB1 : Hid (Below w.heap.size w w1) := HB0.out.trans (hb.mono HB0.out.size)
  clear hb HB0 HX0 HFEW
  cases ok
  · clear HPB
    go_wp2_with fail
    refine (awake8_calls _).mono ?_
    rintro e w2 ⟨rfl, hb⟩
    have HB2 : Hid (Below w.heap.size w w2) := HB1.out.trans (hb.mono HB1.out.size)
    clear hb
    go_wp2_with fail
    go_ret
    exact ⟨rfl, HB2.out⟩
  · have HPB2 := Lib.hid (HPB.out (by simp))
    obtain ⟨L, hL⟩ : ∃ L, L = cirList P a := ⟨_, rfl⟩
    obtain ⟨E, hE⟩ : ∃ E, E = oneErr P a := ⟨_, rfl⟩
    obtain ⟨r, hr⟩ : ∃ r, r = conB P a b := ⟨_, rfl⟩
    obtain ⟨F, hF⟩ : ∃ F, F = twoErr P a b := ⟨_, rfl⟩
    obtain ⟨nl, hnl⟩ : ∃ n, n = L.length := ⟨_, rfl⟩
    have hnm : nl ≤ maxLen := by have := cirList_lenZ P a; rw [← hL, ← hnl, ← HGK.out.2] at this; have := HGK.out.1; omega
    have HC0' := fun (W : World) (hW : Below w.heap.size w W) => pConnected_calls Ak nk ck As ns cs At nt ct P 24 a b W (HP.out.next hW) HPB2.out
    rw [← hr, ← hF] at HC0'
    have HC1' := fun (W : World) (hW : Below w.heap.size w W) => rConnected_calls Ak nk ck As ns cs At nt ct P 24 a b W (HP.out.next hW) HPB2.out
    rw [← hr, ← hF] at HC1'
    have HC2' := fun (W : World) (hW : Below w.heap.size w W) => pCircle_calls Ak nk ck As ns cs At nt ct P 24 a W (HP.out.next hW) HPB2.out
    rw [← hL, ← hE] at HC2'
    have HC3' := fun (W : World) (hW : Below w.heap.size w W) => rCircle_calls Ak nk ck As ns cs At nt ct P 24 a W (HP.out.next hW) HPB2.out
    rw [← hL, ← hE] at HC3'
    have HC0 := Lib.hid HC0'
    have HC1 := Lib.hid HC1'
    have HC2 := Lib.hid HC2'
    have HC3 := Lib.hid HC3'
    have HNL := Lib.hid hnl
    have HNM := Lib.hid hnm
    clear HC0' HC1' HC2' HC3' hL hE hr hF hnl hnm HPB HP HPB2 HGK
    obtain ⟨k0, k1, k2⟩ := HX1.out.cells
    go_wp2_with fail
    clear k0 k1 k2
    refine (HC0.out _ HB1.out).mono ?_
    rintro e w2 ⟨rfl, hb⟩
    have HX2 := Lib.hid (HX1.out.next hb)
    have HB2 : Hid (Below w.heap.size w w2) := HB1.out.trans (hb.mono HB1.out.size)
    clear hb HX1 HB1 HC0
    obtain ⟨k0, k1, k2⟩ := HX2.out.cells
    go_wp2_with fail
    clear k0 k1 k2
    refine (HC1.out _ HB2.out).mono ?_
    rintro e w3 ⟨rfl, hb⟩
    have HX3 := Lib.hid (HX2.out.next hb)
    have HB3 : Hid (Below w.heap.size w w3) := HB2.out.trans (hb.mono HB2.out.size)
    clear hb HX2 HB2 HC1
    obtain ⟨k0, k1, k2⟩ := HX3.out.cells
    go_wp2_with fail
    clear k0 k1 k2
    refine (HC2.out _ HB3.out).mono ?_
    rintro e w4 ⟨A2, c2, rfl, hr2, hb⟩
    have HX4 := Lib.hid (HX3.out.next hb)
    have HB4 : Hid (Below w.heap.size w w4) := HB3.out.trans (hb.mono HB3.out.size)
    have HR2 := Lib.hid hr2
    clear hr2
    rw [← HNL.out]
    clear hb HX3 HB3 HC2
    obtain ⟨k0, k1, k2⟩ := HX4.out.cells
    go_wp2_with fail
    clear k0 k1 k2
    refine (HC3.out _ HB4.out).mono ?_
    rintro e w5 ⟨A3, c3, rfl, hr3, hb⟩
    have HX5 := Lib.hid (HX4.out.next hb)
    have HB5 : Hid (Below w.heap.size w w5) := HB4.out.trans (hb.mono HB4.out.size)
    have HR2 := Lib.hid (HR2.out.next hb)
    have HR3 := Lib.hid hr3
    clear hr3
    rw [← HNL.out]
    clear hb HX4 HB4 HC3
    go_wp2_with fail
    have HRa := HR2
    have HRb := HR3
    clear HR2 HR3
    refine (awake8_calls _).mono ?_
    rintro e W3 ⟨rfl, hb⟩
    have HBv : Hid (Below w.heap.size w W3) := HB5.out.trans (hb.mono HB5.out.size)
    have HRc := Lib.hid (HRa.out.next hb)
    have HRd := Lib.hid (HRb.out.next hb)
    clear hb HRa HRb HB5 HX5
    have hee := beq_self_eq_true E
    have hff := beq_self_eq_true F
    have hrr := beq_self_eq_true r
    go_wp2_with fail
    refine (sameInts_calls A2 A3 nl c2 nl c3 L L _ HNL.out HNL.out HRc.out HRd.out HNM.out HNM.out true (by simp)).mono ?_
    rintro e W4 ⟨rfl, hb⟩
    have HBz : Hid (Below w.heap.size w W4) := HBv.out.trans (hb.mono HBv.out.size)
    clear hb HBv HRc HRd
    go_wp2_with fail
    go_ret
    exact ⟨rfl, HBz.out⟩

end Go.Proofs.YtomfcmlomfcghaaGreatDoor

/- PreferenceErrors: the plain walk. -/
import Derived.Test.YtomfcmlomfcghaaGreatDoorM25
import Derived.Test.YtomfcmlomfcghaaGreatDoorM23
set_option linter.unusedVariables false
set_option linter.unusedSimpArgs false
namespace Go.Proofs.YtomfcmlomfcghaaGreatDoor
open Go.RowKit

theorem fewQ_pb {P : Prt} (h : fewQ P = true) (hk : ∀ x ∈ P.kinds, i64b x) (hs : ∀ x ∈ P.stakes, i64b x.o ∧ i64b x.c ∧ x.v.fits maxLen) (ht : ∀ x ∈ P.ties, i64b x.1 ∧ i64b x.2) : PB 24 P := by
  simp only [fewQ, Bool.and_eq_true, decide_eq_true_eq, List.all_eq_true, fewF] at h
  obtain ⟨h1, h2, h3, h4⟩ := h
  exact ⟨by decide, by decide, hk, fun x hx => ⟨(hs x hx).1, (hs x hx).2.1, h4 x hx⟩, ht, by unfold maxLen; omega, by unfold maxLen; omega, by unfold maxLen; omega⟩
theorem prefList_len (P : Prt) (rows : List Row) (deb : Int) (v : Win) : (prefList P rows deb v).length ≤ P.kinds.length := by
  unfold prefList
  split
  · exact demands_len _ _ _ _
  · exact Nat.zero_le _

set_option maxHeartbeats 8000000 in
set_option maxRecDepth 100000 in
theorem prefErrLaw (Ak : Option Addr) (nk ck : Nat) (As : Option Addr) (ns cs : Nat) (At : Option Addr) (nt ct : Nat) (P : Prt) (Ar : Option Addr) (cr : Nat) (rows : List Row) (deb : Int) (v : Win) (w : World) (hp : PRd Ak nk As ns At nt P w)
    (hk : ∀ x ∈ P.kinds, i64b x) (hs : ∀ x ∈ P.stakes, i64b x.o ∧ i64b x.c ∧ x.v.fits maxLen) (ht : ∀ x ∈ P.ties, i64b x.1 ∧ i64b x.2) (gk : nk ≤ maxLen) (gs : ns ≤ maxLen) (gt : nt ≤ maxLen) (hr : RowsRd w w.heap.size Ar rows) (hn : rows.length ≤ maxLen) :
    Calls Tryz.prog 8 #[ptyVal Ak nk ck As ns cs At nt ct, .slice Ar rows.length cr, .int .i64 deb, winV v] w fun e w' => e = .returned (.bool true) ∧ Below w.heap.size w w' := by
  obtain ⟨ok, hok⟩ : ∃ ok, ok = fewQ P := ⟨_, rfl⟩
  have HFEW := Lib.hid (fun W (hW : Below w.heap.size w W) => few26_calls Ak nk ck As ns cs At nt ct P W (hp.next hW) (fun x hx => (hs x hx).2.2) gk gs gt ok hok)
  have HPB : Hid (ok = true → PB 24 P) := fun h => fewQ_pb (hok.symm.trans h) hk hs ht
  have HP := Lib.hid hp
  have HR := Lib.hid hr
  have HN := Lib.hid hn
  have HGK := Lib.hid (And.intro gk hp.nk)
  clear hp hk hs ht gk gs gt hok hr hn
  obtain ⟨q, hq⟩ : ∃ q, q = w.heap.size := ⟨_, rfl⟩
  obtain ⟨q2, hq2⟩ : ∃ q, q = w.heap.size + 1 := ⟨_, rfl⟩
  obtain ⟨w0, hw0⟩ : ∃ W, W = (w.alloc (.cells #[.slice Ak nk ck, .slice As ns cs, .slice At nt ct] 26)).alloc (.cells #[.int .i64 v.cut, .int .i64 v.days, .int .i64 v.con] 49) := ⟨_, rfl⟩
  have HB0 : Hid (Below w.heap.size w w0) := by rw [hw0]; exact (bel_alloc _ _).alloc (by simp) _
  have HX0 : Hid (PBox q Ak nk ck As ns cs At nt ct w0) := by rw [hw0, hq]; exact (show PBox w.heap.size Ak nk ck As ns cs At nt ct (w.alloc (.cells #[.slice Ak nk ck, .slice As ns cs, .slice At nt ct] 26)) from blk_new _ _).next (bel_alloc _ _)
  have HV0 : Hid (WBox q2 v w0) := by
    have := blk_new (w.alloc (.cells #[.slice Ak nk ck, .slice As ns cs, .slice At nt ct] 26)) (.cells #[.int .i64 v.cut, .int .i64 v.days, .int .i64 v.con] 49)
    rw [World.size_alloc, ← hq2, ← hw0] at this
    exact this
  go_enter Tryz.func8, Tryz.ntmps8
  go_upto_region 1 with fail
  rw [← hw0, ← hq2, ← hq]
  have HQ := Lib.hid (And.intro hq hq2)
  clear hw0 hq hq2
  obtain ⟨k0, k1, k2⟩ := HX0.out.cells
  obtain ⟨v0, v1, v2⟩ := HV0.out.cells
  go_wp2_with fail
  clear k0 k1 k2 v0 v1 v2
  refine (HFEW.out _ HB0.out).mono ?_
  rintro e w1 ⟨rfl, hb⟩
  have HXw1 := Lib.hid (HX0.out.next hb)
  have HVw1 := Lib.hid (HV0.out.next hb)
  have HBw1 : Hid (Below w.heap.size w w1) := HB0.out.trans (hb.mono HB0.out.size)
  clear hb HX0 HB0 HV0 HFEW
  cases ok
  · clear HPB
    go_wp2_with fail
    refine (awake26_calls _).mono ?_
    rintro e wz ⟨rfl, hb⟩
    have HBwz : Hid (Below w.heap.size w wz) := HBw1.out.trans (hb.mono HBw1.out.size)
    clear hb
    go_wp2_with fail
    go_ret
    exact ⟨rfl, HBwz.out⟩
  · have HPB2 := Lib.hid (HPB.out (by simp))
    clear HPB
    by_cases h12 : 12 < rows.length
    · have d12 : decide ((12 : Int) < (rows.length : Int)) = true := decide_eq_true (by omega)
      clear h12
      go_wp2_with fail
      refine (awake26_calls _).mono ?_
      rintro e wz ⟨rfl, hb⟩
      have HBwz : Hid (Below w.heap.size w wz) := HBw1.out.trans (hb.mono HBw1.out.size)
      clear hb
      go_wp2_with fail
      go_ret
      exact ⟨rfl, HBwz.out⟩
    · have d12 : decide ((12 : Int) < (rows.length : Int)) = false := decide_eq_false (by omega)
      obtain ⟨L, hL⟩ : ∃ L, L = prefList P rows deb v := ⟨_, rfl⟩
      obtain ⟨E, hE⟩ : ∃ E, E = findErr P rows deb v := ⟨_, rfl⟩
      obtain ⟨nl, hnl⟩ : ∃ n, n = L.length := ⟨_, rfl⟩
      have hnm : nl ≤ maxLen := by have := prefList_len P rows deb v; rw [← hL, ← hnl, ← HGK.out.2] at this; have := HGK.out.1; omega
      have HC0' := fun (W : World) (hW : Below w.heap.size w W) => pFind_calls Ak nk ck As ns cs At nt ct P 24 Ar cr rows deb v W (HP.out.next hW) HPB2.out (HR.out.next hW) HN.out
      rw [← hL, ← hE] at HC0'
      have HC0 := Lib.hid HC0'
      have HC1' := fun (W : World) (hW : Below w.heap.size w W) => rPrefs_calls Ak nk ck As ns cs At nt ct P 24 Ar cr rows deb v W (HP.out.next hW) HPB2.out (HR.out.next hW) HN.out
      rw [← hL, ← hE] at HC1'
      have HC1 := Lib.hid HC1'
      have HNL := Lib.hid hnl
      have HNM := Lib.hid hnm
      clear HC0' HC1' hL hE hnl hnm h12 HP HPB2 HGK HR
      obtain ⟨k0, k1, k2⟩ := HXw1.out.cells
      obtain ⟨v0, v1, v2⟩ := HVw1.out.cells
      go_wp2_with fail
      clear k0 k1 k2 v0 v1 v2
      clear d12
      refine (HC0.out _ HBw1.out).mono ?_
      rintro e w2 ⟨A0, c0, rfl, hr0, hb⟩
      have HXw2 := Lib.hid (HXw1.out.next hb)
      have HVw2 := Lib.hid (HVw1.out.next hb)
      have HBw2 : Hid (Below w.heap.size w w2) := HBw1.out.trans (hb.mono HBw1.out.size)
      have HR0 := Lib.hid hr0
      rw [← HNL.out]
      clear hb hr0 HXw1 HVw1 HBw1 HC0
      obtain ⟨k0, k1, k2⟩ := HXw2.out.cells
      obtain ⟨v0, v1, v2⟩ := HVw2.out.cells
      go_wp2_with fail
      clear k0 k1 k2 v0 v1 v2
      refine (HC1.out _ HBw2.out).mono ?_
      rintro e w3 ⟨A1, c1, rfl, hr1, hb⟩
      have HBw3 : Hid (Below w.heap.size w w3) := HBw2.out.trans (hb.mono HBw2.out.size)
      have HR1 := Lib.hid hr1
      have HR0 := Lib.hid (HR0.out.next hb)
      rw [← HNL.out]
      clear hb hr1 HXw2 HVw2 HBw2 HC1
      go_wp2_with fail
      refine (awake26_calls _).mono ?_
      rintro e w4 ⟨rfl, hb⟩
      have HBw4 : Hid (Below w.heap.size w w4) := HBw3.out.trans (hb.mono HBw3.out.size)
      have HR1 := Lib.hid (HR1.out.next hb)
      have HR0 := Lib.hid (HR0.out.next hb)
      clear hb HBw3
      have hee := beq_self_eq_true E
      go_wp2_with fail
      refine (sameDem_calls A0 A1 nl c0 c1 L _ HNL.out HR0.out HR1.out HNM.out).mono ?_
      rintro e wz ⟨rfl, hb⟩
      have HBwz : Hid (Below w.heap.size w wz) := HBw4.out.trans (hb.mono HBw4.out.size)
      clear hb HBw4 HR0 HR1
      go_wp2_with fail
      go_ret
      exact ⟨rfl, HBwz.out⟩

end Go.Proofs.YtomfcmlomfcghaaGreatDoor

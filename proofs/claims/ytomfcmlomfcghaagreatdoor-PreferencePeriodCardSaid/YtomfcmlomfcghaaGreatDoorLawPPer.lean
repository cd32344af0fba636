/- PreferencePeriod: the plain walk. -/
import Derived.Test.YtomfcmlomfcghaaGreatDoorM31
import Derived.Test.YtomfcmlomfcghaaGreatDoorM23
import Derived.Test.YtomfcmlomfcghaaGreatDoorM25
set_option linter.unusedVariables false
set_option linter.unusedSimpArgs false
namespace Go.Proofs.YtomfcmlomfcghaaGreatDoor
open Go.RowKit

theorem fewQ_pbZ {P : Prt} (h : fewQ P = true) (hk : ∀ x ∈ P.kinds, i64b x) (hs : ∀ x ∈ P.stakes, i64b x.o ∧ i64b x.c ∧ x.v.fits maxLen) (ht : ∀ x ∈ P.ties, i64b x.1 ∧ i64b x.2) : PB 24 P := by
  simp only [fewQ, Bool.and_eq_true, decide_eq_true_eq, List.all_eq_true, fewF] at h
  obtain ⟨h1, h2, h3, h4⟩ := h
  exact ⟨by decide, by decide, hk, fun x hx => ⟨(hs x hx).1, (hs x hx).2.1, h4 x hx⟩, ht, by unfold maxLen; omega, by unfold maxLen; omega, by unfold maxLen; omega⟩
set_option maxHeartbeats 8000000 in
set_option maxRecDepth 100000 in
theorem prefPerLaw (x0 x1 : Int) (A2 : Option Addr) (n2 c2 : Nat) (l2 : List W3) (A3 : Option Addr) (n3 c3 : Nat) (l3 : List (Int × Int)) (x4 x5 y0 y1 y2 : Int) (Bk : Option Addr) (mk dk : Nat) (Bs : Option Addr) (ms ds : Nat) (Bt : Option Addr) (mt dt : Nat) (R : Prt) (v : Win) (w : World) (h0 : 0 ≤ x0 ∧ x0 ≤ 255) (h1 : 0 ≤ x1 ∧ x1 ≤ 65535) (e2 : n2 = l2.length) (r2 : Rd w w.heap.size 3 A2 l2.length (l2.flatMap u16V3)) (o2 : ∀ a ∈ l2, u16ok3 a) (g2 : n2 ≤ maxLen) (e3 : n3 = l3.length) (r3 : Rd w w.heap.size 2 A3 l3.length (l3.flatMap u16V)) (o3 : ∀ a ∈ l3, u16ok a) (g3 : n3 ≤ maxLen) (h8 : -128 ≤ x4 ∧ x4 ≤ 127) (h9 : -128 ≤ x5 ∧ x5 ≤ 127) (h5 : 0 ≤ y0 ∧ y0 ≤ 255) (h6 : 0 ≤ y1 ∧ y1 ≤ 255) (h7 : 0 ≤ y2 ∧ y2 ≤ 255) (hp : PRd Bk mk Bs ms Bt mt R w) (hk : ∀ x ∈ R.kinds, i64b x) (hs : ∀ x ∈ R.stakes, i64b x.o ∧ i64b x.c ∧ x.v.fits maxLen) (ht : ∀ x ∈ R.ties, i64b x.1 ∧ i64b x.2) (gk : mk ≤ maxLen) (gs : ms ≤ maxLen) (gt : mt ≤ maxLen) :
    Calls Tryz.prog 6 #[.int .u8 x0, .int .u16 x1, .slice A2 n2 c2, .slice A3 n3 c3, .int .i8 x4, .int .i8 x5, .agg #[.int .u8 y0, .int .u8 y1, .int .u8 y2], ptyVal Bk mk dk Bs ms ds Bt mt dt, winV v] w fun e w' => e = .returned (.bool true) ∧ Below w.heap.size w w' := by
  have HBT := Lib.hid (fun (W : World) (hW : Below w.heap.size w W) => built_calls x0 x1 A2 n2 c2 l2 A3 n3 c3 l3 W h0 h1 e2 (r2.next hW) o2 g2 e3 (r3.next hW) o3 g3)
  clear h0 h1 e2 r2 o2 g2 e3 r3 o3 g3
  obtain ⟨ok, hok⟩ : ∃ ok, ok = fewQ R := ⟨_, rfl⟩
  have HFEW := Lib.hid (fun W (hW : Below w.heap.size w W) => few26_calls Bk mk dk Bs ms ds Bt mt dt R W (hp.next hW) (fun x hx => (hs x hx).2.2) gk gs gt ok hok)
  have HPBR : Hid (ok = true → PB 24 R) := fun h => fewQ_pbZ (hok.symm.trans h) hk hs ht
  have HPR := Lib.hid hp
  clear hp hk hs ht gk gs gt hok
  obtain ⟨sm, hsm⟩ : ∃ v : Win, v = win3 y0 y1 y2 := ⟨_, rfl⟩
  have HWN' := fun (W : World) => window_calls y0 y1 y2 W h5 h6 h7
  rw [← hsm] at HWN'
  have HWN := Lib.hid HWN'
  clear HWN' hsm h5 h6 h7
  obtain ⟨Y, hY⟩ : ∃ Y, Y = w.heap.size := ⟨_, rfl⟩
  obtain ⟨q0, hq0⟩ : ∃ Y, Y = w.heap.size + 1 := ⟨_, rfl⟩
  obtain ⟨q1, hq1⟩ : ∃ Y, Y = w.heap.size + 1 + 1 := ⟨_, rfl⟩
  obtain ⟨w0, hw0⟩ : ∃ W, W = ((w.alloc (.cells #[.int .u8 y0, .int .u8 y1, .int .u8 y2] 47)).alloc (.cells #[.slice Bk mk dk, .slice Bs ms ds, .slice Bt mt dt] 26)).alloc (.cells #[.int .i64 v.cut, .int .i64 v.days, .int .i64 v.con] 49) := ⟨_, rfl⟩
  have HY0 : Hid (w0.heap[Y]? = some (.cells #[.int .u8 y0, .int .u8 y1, .int .u8 y2] 47 (0, 0))) := by rw [hw0, hY]; exact blk_alloc (blk_alloc (blk_new _ _))
  have HR0 : Hid (PBox q0 Bk mk dk Bs ms ds Bt mt dt w0) := by
    have e1 := blk_new (w.alloc (.cells #[.int .u8 y0, .int .u8 y1, .int .u8 y2] 47)) (.cells #[.slice Bk mk dk, .slice Bs ms ds, .slice Bt mt dt] 26)
    rw [World.size_alloc, ← hq0] at e1
    rw [hw0]
    exact blk_alloc e1
  have HU0 : Hid (WBox q1 v w0) := by
    have e1 := blk_new ((w.alloc (.cells #[.int .u8 y0, .int .u8 y1, .int .u8 y2] 47)).alloc (.cells #[.slice Bk mk dk, .slice Bs ms ds, .slice Bt mt dt] 26)) (.cells #[.int .i64 v.cut, .int .i64 v.days, .int .i64 v.con] 49)
    rw [World.size_alloc, World.size_alloc, ← hq1] at e1
    rw [hw0]
    exact e1
  have HB0 : Hid (Below w.heap.size w w0) := by rw [hw0]; exact ((bel_alloc _ _).alloc (by simp) _).alloc (by simp; omega) _
  go_enter Tryz.func6, Tryz.ntmps6
  go_upto_region 1 with fail
  rw [← hw0, ← hq1, ← hq0, ← hY]
  have HQ := Lib.hid (And.intro hY (And.intro hq0 hq1))
  clear hw0 hY hq0 hq1
  obtain ⟨k0, k1, k2⟩ := HR0.out.cells
  go_wp2_with fail
  clear k0 k1 k2
  refine (HFEW.out _ HB0.out).mono ?_
  rintro e wa ⟨rfl, hb⟩
  have HYwa := Lib.hid (blk_next HY0.out hb)
  have HRwa := Lib.hid (HR0.out.next hb)
  have HUwa := Lib.hid (HU0.out.next hb)
  have HBwa : Hid (Below w.heap.size w wa) := HB0.out.trans (hb.mono HB0.out.size)
  clear hb
  clear HY0 HR0 HU0 HB0
  clear HFEW
  cases ok
  · clear HPBR
    go_wp2_with fail
    refine (awake26_calls _).mono ?_
    rintro e wz ⟨rfl, hb⟩
    have HBz : Hid (Below w.heap.size w wz) := HBwa.out.trans (hb.mono HBwa.out.size)
    clear hb
    go_wp2_with fail
    go_ret
    exact ⟨rfl, HBz.out⟩
  · have HPB2 := Lib.hid (HPBR.out (by simp))
    clear HPBR
    go_wp2_with fail
    refine (HBT.out _ HBwa.out).mono ?_
    rintro e w1 ⟨Ak, nk, ck, As, ns, cs, At, nt, ct, P, rfl, hp, hpb, hck, hn2, hn7, hns, hnt, _, _, hb⟩
    have HP := Lib.hid hp
    have HPB := Lib.hid hpb
    have HCK := Lib.hid hck
    have HNK := Lib.hid hp.nk
    have HNS := Lib.hid hp.ns
    have HNT := Lib.hid hp.nt
    clear hp hpb hck HBT
    have HYw1 := Lib.hid (blk_next HYwa.out hb)
    have HRw1 := Lib.hid (HRwa.out.next hb)
    have HUw1 := Lib.hid (HUwa.out.next hb)
    have HBw1 : Hid (Below w.heap.size w w1) := HBwa.out.trans (hb.mono HBwa.out.size)
    clear hb
    clear HYwa HRwa HUwa HBwa
    obtain ⟨q, hq⟩ : ∃ q, q = w1.heap.size := ⟨_, rfl⟩
    obtain ⟨w2, hw2⟩ : ∃ W, W = w1.alloc (.cells #[.slice Ak nk ck, .slice As ns cs, .slice At nt ct] 26) := ⟨_, rfl⟩
    have hb : Below w1.heap.size w1 w2 := by rw [hw2]; exact bel_alloc _ _
    have HXw2 : Hid (PBox q Ak nk ck As ns cs At nt ct w2) := by rw [hw2, hq]; exact blk_new _ _
    have HPw2 : Hid (PRd Ak nk As ns At nt P w2) := HP.out.next hb
    have HYw2 := Lib.hid (blk_next HYw1.out hb)
    have HRw2 := Lib.hid (HRw1.out.next hb)
    have HUw2 := Lib.hid (HUw1.out.next hb)
    have HBw2 : Hid (Below w.heap.size w w2) := HBw1.out.trans (hb.mono HBw1.out.size)
    clear hb
    clear HYw1 HRw1 HUw1 HBw1
    have HW := Lib.hid (And.intro hw2 hq)
    clear HP hw2 hq
    have y0_ : w2.cell? ⟨Y, 0, none⟩ = some (.int .u8 y0) := by rw [cell_of_row w2 Y 0 _ _ (0, 0) HYw2.out]; rfl
    have y1_ : w2.cell? ⟨Y, 1, none⟩ = some (.int .u8 y1) := by rw [cell_of_row w2 Y 1 _ _ (0, 0) HYw2.out]; rfl
    have y2_ : w2.cell? ⟨Y, 2, none⟩ = some (.int .u8 y2) := by rw [cell_of_row w2 Y 2 _ _ (0, 0) HYw2.out]; rfl
    go_upto_region 4 with fail
    rw [← HW.out.1, ← HW.out.2]
    go_wp2_with fail
    clear y0_ y1_ y2_ HW
    refine (HWN.out _).mono ?_
    rintro e w3 ⟨rfl, hb⟩
    have HPw3 := Lib.hid (HPw2.out.next hb)
    have HXw3 := Lib.hid (HXw2.out.next hb)
    have HRw3 := Lib.hid (HRw2.out.next hb)
    have HUw3 := Lib.hid (HUw2.out.next hb)
    have HBw3 : Hid (Below w.heap.size w w3) := HBw2.out.trans (hb.mono HBw2.out.size)
    clear hb
    clear HXw2 HRw2 HUw2 HBw2
    clear HYw2 HPw2 HWN
    obtain ⟨q2, hq2⟩ : ∃ q, q = w3.heap.size := ⟨_, rfl⟩
    obtain ⟨w4, hw4⟩ : ∃ W, W = w3.alloc (.cells #[.int .i64 sm.cut, .int .i64 sm.days, .int .i64 sm.con] 49) := ⟨_, rfl⟩
    have hb : Below w3.heap.size w3 w4 := by rw [hw4]; exact bel_alloc _ _
    have HVw4 : Hid (WBox q2 sm w4) := by rw [hw4, hq2]; exact blk_new _ _
    have HPw4 := Lib.hid (HPw3.out.next hb)
    have HXw4 := Lib.hid (HXw3.out.next hb)
    have HRw4 := Lib.hid (HRw3.out.next hb)
    have HUw4 := Lib.hid (HUw3.out.next hb)
    have HBw4 : Hid (Below w.heap.size w w4) := HBw3.out.trans (hb.mono HBw3.out.size)
    clear hb
    clear HXw3 HRw3 HUw3 HBw3
    have HW := Lib.hid (And.intro hw4 hq2)
    clear hw4 hq2 HPw3
    have HBw4b := HBw4
    clear HBw4
    obtain ⟨d, hd⟩ : ∃ d, wrap64 (x4.tmod 9) = d := ⟨_, rfl⟩
    obtain ⟨c, hc⟩ : ∃ d, wrap64 (x5.tmod 9) = d := ⟨_, rfl⟩
    have e4_ : wrap64 x4 = x4 := IntWalk.wrap64_in _ (by omega)
    have e5_ : wrap64 x5 = x5 := IntWalk.wrap64_in _ (by omega)
    have HEQ := Lib.hid (And.intro hd (And.intro hc (And.intro e4_ e5_)))
    clear hd hc e4_ e5_ h8 h9
    obtain ⟨f0, hf⟩ : ∃ x, x = perF P d c sm := ⟨_, rfl⟩
    obtain ⟨t0, ht⟩ : ∃ x, x = perT P d c sm := ⟨_, rfl⟩
    obtain ⟨e0, he⟩ : ∃ x, x = perErr P d c sm := ⟨_, rfl⟩
    have HC' := fun (W : World) (hW : Below w4.heap.size w4 W) => pPeriod_calls Ak nk ck As ns cs At nt ct P 1 d c sm W (HPw4.out.next hW) HPB.out
    rw [← hf, ← ht, ← he] at HC'
    have HC0 := Lib.hid HC'
    clear HC'
    have HC' := fun (W : World) (hW : Below w4.heap.size w4 W) => rPeriod_calls Ak nk ck As ns cs At nt ct P 1 d c sm W (HPw4.out.next hW) HPB.out
    rw [← hf, ← ht, ← he] at HC'
    have HC1 := Lib.hid HC'
    clear HC'
    clear hf ht he
    obtain ⟨f1, hf⟩ : ∃ x, x = perF R x4 x5 v := ⟨_, rfl⟩
    obtain ⟨t1, ht⟩ : ∃ x, x = perT R x4 x5 v := ⟨_, rfl⟩
    obtain ⟨e1, he⟩ : ∃ x, x = perErr R x4 x5 v := ⟨_, rfl⟩
    have HC' := fun (W : World) (hW : Below w.heap.size w W) => pPeriod_calls Bk mk dk Bs ms ds Bt mt dt R 24 x4 x5 v W (HPR.out.next hW) HPB2.out
    rw [← hf, ← ht, ← he] at HC'
    have HC2 := Lib.hid HC'
    clear HC'
    have HC' := fun (W : World) (hW : Below w.heap.size w W) => rPeriod_calls Bk mk dk Bs ms ds Bt mt dt R 24 x4 x5 v W (HPR.out.next hW) HPB2.out
    rw [← hf, ← ht, ← he] at HC'
    have HC3 := Lib.hid HC'
    clear HC'
    clear hf ht he
    obtain ⟨f2, hf⟩ : ∃ x, x = perF P 0 1 v := ⟨_, rfl⟩
    obtain ⟨t2, ht⟩ : ∃ x, x = perT P 0 1 v := ⟨_, rfl⟩
    obtain ⟨e2, he⟩ : ∃ x, x = perErr P 0 1 v := ⟨_, rfl⟩
    have HC' := fun (W : World) (hW : Below w4.heap.size w4 W) => pPeriod_calls Ak nk ck As ns cs At nt ct P 1 0 1 v W (HPw4.out.next hW) HPB.out
    rw [← hf, ← ht, ← he] at HC'
    have HC4 := Lib.hid HC'
    clear HC'
    have HC' := fun (W : World) (hW : Below w4.heap.size w4 W) => rPeriod_calls Ak nk ck As ns cs At nt ct P 1 0 1 v W (HPw4.out.next hW) HPB.out
    rw [← hf, ← ht, ← he] at HC'
    have HC5 := Lib.hid HC'
    clear HC'
    clear hf ht he
    have HZw4 : Hid (Below w4.heap.size w4 w4) := Below.refl _ _
    clear HPw4 HPR HPB HPB2
    go_upto_region 5 with fail
    rw [← HW.out.1, ← HW.out.2]
    clear HW
    obtain ⟨m0, m1, m2⟩ := HXw4.out.cells
    obtain ⟨u0, u1, u2⟩ := HVw4.out.cells
    obtain ⟨hd, hc, e4_, e5_⟩ := HEQ.out
    go_wp2_with fail
    clear m0 m1 m2
    clear u0 u1 u2
    clear hd hc e4_ e5_
    refine (HC0.out _ HZw4.out).mono ?_
    rintro e w5 ⟨rfl, hb⟩
    have HZw5 : Hid (Below w4.heap.size w4 w5) := HZw4.out.trans (hb.mono HZw4.out.size)
    have HXw5 := Lib.hid (HXw4.out.next hb)
    have HRw5 := Lib.hid (HRw4.out.next hb)
    have HUw5 := Lib.hid (HUw4.out.next hb)
    have HVw5 := Lib.hid (HVw4.out.next hb)
    clear hb
    clear HXw4 HRw4 HUw4 HVw4
    clear HZw4 HC0
    obtain ⟨m0, m1, m2⟩ := HXw5.out.cells
    obtain ⟨u0, u1, u2⟩ := HVw5.out.cells
    obtain ⟨hd, hc, e4_, e5_⟩ := HEQ.out
    go_wp2_with fail
    clear m0 m1 m2
    clear u0 u1 u2
    clear hd hc e4_ e5_
    refine (HC1.out _ HZw5.out).mono ?_
    rintro e w6 ⟨rfl, hb⟩
    have HZw6 : Hid (Below w4.heap.size w4 w6) := HZw5.out.trans (hb.mono HZw5.out.size)
    have HXw6 := Lib.hid (HXw5.out.next hb)
    have HRw6 := Lib.hid (HRw5.out.next hb)
    have HUw6 := Lib.hid (HUw5.out.next hb)
    have HVw6 := Lib.hid (HVw5.out.next hb)
    clear hb
    clear HXw5 HRw5 HUw5 HVw5
    clear HZw5 HC1
    obtain ⟨k0, k1, k2⟩ := HRw6.out.cells
    obtain ⟨v0, v1, v2⟩ := HUw6.out.cells
    obtain ⟨hd, hc, e4_, e5_⟩ := HEQ.out
    go_wp2_with fail
    clear k0 k1 k2
    clear v0 v1 v2
    clear hd hc e4_ e5_
    refine (HC2.out _ (HBw4b.out.trans (HZw6.out.mono HBw4b.out.size))).mono ?_
    rintro e w7 ⟨rfl, hb⟩
    have HZw7 : Hid (Below w4.heap.size w4 w7) := HZw6.out.trans (hb.mono HZw6.out.size)
    have HXw7 := Lib.hid (HXw6.out.next hb)
    have HRw7 := Lib.hid (HRw6.out.next hb)
    have HUw7 := Lib.hid (HUw6.out.next hb)
    have HVw7 := Lib.hid (HVw6.out.next hb)
    clear hb
    clear HXw6 HRw6 HUw6 HVw6
    clear HZw6 HC2
    obtain ⟨k0, k1, k2⟩ := HRw7.out.cells
    obtain ⟨v0, v1, v2⟩ := HUw7.out.cells
    obtain ⟨hd, hc, e4_, e5_⟩ := HEQ.out
    go_wp2_with fail
    clear k0 k1 k2
    clear v0 v1 v2
    clear hd hc e4_ e5_
    refine (HC3.out _ (HBw4b.out.trans (HZw7.out.mono HBw4b.out.size))).mono ?_
    rintro e w8 ⟨rfl, hb⟩
    have HZw8 : Hid (Below w4.heap.size w4 w8) := HZw7.out.trans (hb.mono HZw7.out.size)
    have HXw8 := Lib.hid (HXw7.out.next hb)
    have HRw8 := Lib.hid (HRw7.out.next hb)
    have HUw8 := Lib.hid (HUw7.out.next hb)
    have HVw8 := Lib.hid (HVw7.out.next hb)
    clear hb
    clear HXw7 HRw7 HUw7 HVw7
    clear HZw7 HC3
    obtain ⟨m0, m1, m2⟩ := HXw8.out.cells
    obtain ⟨v0, v1, v2⟩ := HUw8.out.cells
    go_wp2_with fail
    clear m0 m1 m2
    clear v0 v1 v2
    refine (HC4.out _ HZw8.out).mono ?_
    rintro e w9 ⟨rfl, hb⟩
    have HZw9 : Hid (Below w4.heap.size w4 w9) := HZw8.out.trans (hb.mono HZw8.out.size)
    have HXw9 := Lib.hid (HXw8.out.next hb)
    have HRw9 := Lib.hid (HRw8.out.next hb)
    have HUw9 := Lib.hid (HUw8.out.next hb)
    have HVw9 := Lib.hid (HVw8.out.next hb)
    clear hb
    clear HXw8 HRw8 HUw8 HVw8
    clear HZw8 HC4
    obtain ⟨m0, m1, m2⟩ := HXw9.out.cells
    obtain ⟨v0, v1, v2⟩ := HUw9.out.cells
    go_wp2_with fail
    clear m0 m1 m2
    clear v0 v1 v2
    refine (HC5.out _ HZw9.out).mono ?_
    rintro e w10 ⟨rfl, hb⟩
    have HZw10 : Hid (Below w4.heap.size w4 w10) := HZw9.out.trans (hb.mono HZw9.out.size)
    have HXw10 := Lib.hid (HXw9.out.next hb)
    have HRw10 := Lib.hid (HRw9.out.next hb)
    have HUw10 := Lib.hid (HUw9.out.next hb)
    have HVw10 := Lib.hid (HVw9.out.next hb)
    clear hb
    clear HXw9 HRw9 HUw9 HVw9
    clear HZw9 HC5
    have HBf : Hid (Below w.heap.size w w10) := HBw4b.out.trans (HZw10.out.mono HBw4b.out.size)
    go_wp2_with fail
    refine (awake26_calls _).mono ?_
    rintro e wz ⟨rfl, hb⟩
    have HBz : Hid (Below w.heap.size w wz) := HBf.out.trans (hb.mono HBf.out.size)
    clear hb
    have bf0 := beq_self_eq_true f0
    have bt0 := beq_self_eq_true t0
    have be0 := beq_self_eq_true e0
    have bf1 := beq_self_eq_true f1
    have bt1 := beq_self_eq_true t1
    have be1 := beq_self_eq_true e1
    have bf2 := beq_self_eq_true f2
    have bt2 := beq_self_eq_true t2
    have be2 := beq_self_eq_true e2
    go_wp2_with fail
    go_ret
    exact ⟨rfl, HBz.out⟩

end Go.Proofs.YtomfcmlomfcghaaGreatDoor

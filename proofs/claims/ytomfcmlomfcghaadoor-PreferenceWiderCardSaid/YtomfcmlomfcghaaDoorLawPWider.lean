/- PreferenceWider: the plain walk. -/
import Derived.Test.YtomfcmlomfcghaaDoorBlt
import Derived.Test.YtomfcmlomfcghaaDoorM23
import Derived.Deep.QuietTactic
set_option linter.unusedVariables false
set_option linter.unusedSimpArgs false
namespace Go.Proofs.YtomfcmlomfcghaaDoor
open Go.RowKit

def hitD (d z : Dem) : Bool := (z.party == d.party) && decide (d.cents ≤ z.cents)
theorem hit_more {f g : Nat → Int} {n : Nat} {d : Dem} (h : ∀ k, f k ≤ g k) (hd : d ∈ demands f 0 1 n) : (demands g 0 1 n).any (hitD d) = true := by
  obtain ⟨k, hk, h0, rfl⟩ := mem_demands.1 hd
  rw [List.any_eq_true]
  refine ⟨⟨0, (k : Int), 1, g k⟩, mem_demands.2 ⟨k, hk, by have := h k; omega, rfl⟩, ?_⟩
  simp [hitD, h k]
set_option maxHeartbeats 8000000 in
set_option maxRecDepth 100000 in
theorem prefWiderLaw (x0 x1 : Int) (A2 : Option Addr) (n2 c2 : Nat) (l2 : List W3) (A3 : Option Addr) (n3 c3 : Nat) (l3 : List (Int × Int)) (A4 : Option Addr) (c4 : Nat) (l4 : List W5) (y0 y1 y2 x6 x7 : Int) (w : World) (h0 : 0 ≤ x0 ∧ x0 ≤ 255) (h1 : 0 ≤ x1 ∧ x1 ≤ 65535) (e2 : n2 = l2.length) (r2 : Rd w w.heap.size 3 A2 l2.length (l2.flatMap u16V3)) (o2 : ∀ a ∈ l2, u16ok3 a) (g2 : n2 ≤ maxLen) (e3 : n3 = l3.length) (r3 : Rd w w.heap.size 2 A3 l3.length (l3.flatMap u16V)) (o3 : ∀ a ∈ l3, u16ok a) (g3 : n3 ≤ maxLen) (r4 : W5Rd w w.heap.size A4 l4) (o4 : ∀ r ∈ l4, r.ok) (g4 : l4.length ≤ maxLen) (h5 : 0 ≤ y0 ∧ y0 ≤ 255) (h6 : 0 ≤ y1 ∧ y1 ≤ 255) (h7 : 0 ≤ y2 ∧ y2 ≤ 255) (h8 : 0 ≤ x6 ∧ x6 ≤ 255) (h9 : 0 ≤ x7 ∧ x7 ≤ 255) :
    Calls Tryd.prog 9 #[.int .u8 x0, .int .u16 x1, .slice A2 n2 c2, .slice A3 n3 c3, .slice A4 l4.length c4, .agg #[.int .u8 y0, .int .u8 y1, .int .u8 y2], .int .u8 x6, .int .u8 x7] w fun e w' => e = .returned (.bool true) ∧ Below w.heap.size w w' := by
  have HBT := Lib.hid (fun (W : World) (hW : Below w.heap.size w W) => built_calls x0 x1 A2 n2 c2 l2 A3 n3 c3 l3 W h0 h1 e2 (r2.next hW) o2 g2 e3 (r3.next hW) o3 g3)
  clear h0 h1 e2 r2 o2 g2 e3 r3 o3 g3
  have HR5 := Lib.hid (And.intro r4 o4)
  clear r4 o4
  obtain ⟨Y, hY⟩ : ∃ Y, Y = w.heap.size := ⟨_, rfl⟩
  obtain ⟨wy, hwy⟩ : ∃ W, W = w.alloc (.cells #[.int .u8 y0, .int .u8 y1, .int .u8 y2] 55) := ⟨_, rfl⟩
  have HYB : Hid (wy.heap[Y]? = some (.cells #[.int .u8 y0, .int .u8 y1, .int .u8 y2] 55 (0, 0))) := by rw [hwy, hY]; exact blk_new _ _
  have HBy : Hid (Below w.heap.size w wy) := by rw [hwy]; exact bel_alloc _ _
  obtain ⟨sm, hsm⟩ : ∃ v : Win, v = win3 y0 y1 y2 := ⟨_, rfl⟩
  have HWN' := fun (W : World) => window_calls y0 y1 y2 W h5 h6 h7
  rw [← hsm] at HWN'
  have HWN := Lib.hid HWN'
  obtain ⟨wd, hwd⟩ : ∃ v : Win, v = ⟨sm.cut, sm.days + x6 % 30, sm.con + x7 % 30⟩ := ⟨_, rfl⟩
  have bs : (0 ≤ sm.cut ∧ sm.cut < 60) ∧ (0 ≤ sm.days ∧ sm.days < 50) ∧ (0 ≤ sm.con ∧ sm.con < 90) := by rw [hsm]; unfold win3; dsimp only; omega
  have HS1 : Hid (winB sm = true) := by show _ = _; rw [hsm]; exact win3_ok y0 y1 y2 _ _ (by omega) (by omega)
  have HS2 : Hid (winB wd = true) := by show _ = _; rw [hwd, hsm]; exact win3_ok y0 y1 y2 _ _ (by unfold win3; dsimp only; omega) (by unfold win3; dsimp only; omega)
  have HWE : Hid (wd.cut = sm.cut ∧ sm.days ≤ wd.days ∧ sm.con ≤ wd.con) := by rw [hwd]; exact ⟨rfl, by dsimp only; omega, by dsimp only; omega⟩
  have w1_ : wrap64 (sm.days + wrap64 (x6.tmod 30)) = wd.days := by rw [Int.tmod_eq_emod_of_nonneg h8.1, IntWalk.wrap64_in (x6 % 30) (by omega), IntWalk.wrap64_in _ (by omega), hwd]
  have w2_ : wrap64 (sm.con + wrap64 (x7.tmod 30)) = wd.con := by rw [Int.tmod_eq_emod_of_nonneg h9.1, IntWalk.wrap64_in (x7 % 30) (by omega), IntWalk.wrap64_in _ (by omega), hwd]
  have HWR := Lib.hid (And.intro w1_ w2_)
  clear HWN' hsm hwd bs w1_ w2_ h5 h6 h7 h8 h9
  go_enter Tryd.func9, Tryd.ntmps9
  go_upto_region 1 with fail
  rw [← hwy, ← hY]
  have HYY := Lib.hid hY
  clear hwy hY
  go_wp2_with fail
  refine (HBT.out _ HBy.out).mono ?_
  rintro e w1 ⟨Ak, nk, ck, As, ns, cs, At, nt, ct, P, rfl, hp, hpb, hck, hn2, hn7, hns, hnt, _, _, hb⟩
  have HP := Lib.hid hp
  have HPB := Lib.hid hpb
  have HCK := Lib.hid hck
  have HNK := Lib.hid hp.nk
  have HNS := Lib.hid hp.ns
  have HNT := Lib.hid hp.nt
  clear hp hpb hck HBT
  have HB1 : Hid (Below w.heap.size w w1) := HBy.out.trans (hb.mono HBy.out.size)
  have HYB1 := Lib.hid (blk_next HYB.out hb)
  clear hb HBy HYB
  obtain ⟨q, hq⟩ : ∃ q, q = w1.heap.size := ⟨_, rfl⟩
  obtain ⟨w2, hw2⟩ : ∃ W, W = w1.alloc (.cells #[.slice Ak nk ck, .slice As ns cs, .slice At nt ct] 26) := ⟨_, rfl⟩
  have HXw2 : Hid (PBox q Ak nk ck As ns cs At nt ct w2) := by rw [hw2, hq]; exact blk_new _ _
  have HBw2 : Hid (Below w.heap.size w w2) := by rw [hw2]; exact HB1.out.alloc HB1.out.size _
  have HPw2 : Hid (PRd Ak nk As ns At nt P w2) := by rw [hw2]; exact HP.out.next (bel_alloc _ _)
  have HW := Lib.hid (And.intro hw2 hq)
  have hx_ := HXw2.out
  rw [hw2, hq] at hx_
  obtain ⟨k0, k1, k2⟩ := hx_.cells
  clear hw2 hq hx_
  have HYB2 : Hid (w2.heap[Y]? = some (.cells #[.int .u8 y0, .int .u8 y1, .int .u8 y2] 55 (0, 0))) := by rw [HW.out.1]; exact blk_alloc HYB1.out
  clear HYB1
  go_wp2_with fail
  rw [← HW.out.1, ← HW.out.2]
  clear k0 k1 k2 HW
  refine (rows_calls A4 c4 l4 (nk : Int) 24 _ (by omega) (by omega) (by omega) (by omega) (by simp only [maxLen] at g4; omega) (HR5.out.1.next HBw2.out) HR5.out.2).mono ?_
  rintro e w3 ⟨Ar, cr, rows, rfl, rr, hlen, hg, hb⟩
  have HRR := Lib.hid rr
  have HG := Lib.hid hg
  have hl24 : rows.length ≤ 24 := by omega
  have HL24 := Lib.hid hl24
  have HXw3 := Lib.hid (HXw2.out.next hb)
  have HPw3 := Lib.hid (HPw2.out.next hb)
  have HBw3 : Hid (Below w.heap.size w w3) := HBw2.out.trans (hb.mono HBw2.out.size)
  have HYB3 := Lib.hid (blk_next HYB2.out hb)
  clear hb rr hg hlen hl24 HXw2 HPw2 HBw2 HYB2
  have y0_ : w3.cell? ⟨Y, 0, none⟩ = some (.int .u8 y0) := by rw [cell_of_row w3 Y 0 _ _ (0, 0) HYB3.out]; rfl
  have y1_ : w3.cell? ⟨Y, 1, none⟩ = some (.int .u8 y1) := by rw [cell_of_row w3 Y 1 _ _ (0, 0) HYB3.out]; rfl
  have y2_ : w3.cell? ⟨Y, 2, none⟩ = some (.int .u8 y2) := by rw [cell_of_row w3 Y 2 _ _ (0, 0) HYB3.out]; rfl
  go_wp2_with fail
  clear y0_ y1_ y2_ HYB3
  refine (HWN.out _).mono ?_
  rintro e w4 ⟨rfl, hb⟩
  have HXw4 := Lib.hid (HXw3.out.next hb)
  have HPw4 := Lib.hid (HPw3.out.next hb)
  have HBw4 : Hid (Below w.heap.size w w4) := HBw3.out.trans (hb.mono HBw3.out.size)
  have HR4 := Lib.hid (HRR.out.next hb)
  clear hb HXw3 HPw3 HBw3 HRR
  obtain ⟨Q1, hQ1⟩ : ∃ q, q = w4.heap.size := ⟨_, rfl⟩
  obtain ⟨Q2, hQ2⟩ : ∃ q, q = w4.heap.size + 1 := ⟨_, rfl⟩
  obtain ⟨w5, hw5⟩ : ∃ W, W = (w4.alloc (.cells #[.int .i64 sm.cut, .int .i64 sm.days, .int .i64 sm.con] 59)).alloc (.cells #[.int .i64 sm.cut, .int .i64 sm.days, .int .i64 sm.con] 59) := ⟨_, rfl⟩
  have hb45 : Below w4.heap.size w4 w5 := by rw [hw5]; exact (bel_alloc _ _).alloc (by simp) _
  have HQ1 : Hid (WBox Q1 sm w5) := by rw [hw5, hQ1]; exact (show WBox w4.heap.size sm (w4.alloc (.cells #[.int .i64 sm.cut, .int .i64 sm.days, .int .i64 sm.con] 59)) from blk_new _ _).next (bel_alloc _ _)
  have HQ2 : Hid (WBox Q2 sm w5) := by
    have := blk_new (w4.alloc (.cells #[.int .i64 sm.cut, .int .i64 sm.days, .int .i64 sm.con] 59)) (.cells #[.int .i64 sm.cut, .int .i64 sm.days, .int .i64 sm.con] 59)
    rw [World.size_alloc, ← hQ2, ← hw5] at this
    exact this
  have HXw5 := Lib.hid (HXw4.out.next hb45)
  have HPw5 := Lib.hid (HPw4.out.next hb45)
  have HBw5 : Hid (Below w.heap.size w w5) := HBw4.out.trans (hb45.mono HBw4.out.size)
  have HR5_ := Lib.hid (HR4.out.next hb45)
  have hwQ2 : w.heap.size ≤ Q2 := by have := HBw4.out.size; omega
  have hQ12 : Q1 ≠ Q2 := by omega
  have hqQ2 : q ≠ Q2 := by have := (Array.getElem?_eq_some_iff.1 HXw4.out).1; omega
  have hrb : w4.heap.size ≤ Q2 := by omega
  obtain ⟨wf, hwf⟩ : ∃ W, W = (w5.setCell ⟨Q2, 1, none⟩ (.int .i64 wd.days)).setCell ⟨Q2, 2, none⟩ (.int .i64 wd.con) := ⟨_, rfl⟩
  have HQF1 : Hid (WBox Q1 sm wf) := by rw [hwf]; exact (heap_setCell_other _ ⟨Q2, 2, none⟩ Q1 _ hQ12).trans ((heap_setCell_other _ ⟨Q2, 1, none⟩ Q1 _ hQ12).trans HQ1.out)
  have HQF2 : Hid (WBox Q2 wd wf) := by
    rw [hwf]
    have e1 := heap_setCell_same w5 Q2 1 _ _ (.int .i64 wd.days) HQ2.out
    have e2 := heap_setCell_same _ Q2 2 _ _ (.int .i64 wd.con) e1
    show _ = _
    rw [HWE.out.1]
    exact e2
  have HXF : Hid (PBox q Ak nk ck As ns cs At nt ct wf) := by rw [hwf]; exact (HXw5.out.other (a := ⟨Q2, 1, none⟩) hqQ2 _).other (a := ⟨Q2, 2, none⟩) hqQ2 _
  have HBF : Hid (Below w.heap.size w wf) := by rw [hwf]; exact (HBw5.out.setCell (by show w.heap.size ≤ Q2; exact hwQ2) _).setCell (by show w.heap.size ≤ Q2; exact hwQ2) _
  have hb4f : Below w4.heap.size w4 wf := by rw [hwf]; exact (hb45.setCell (by show w4.heap.size ≤ Q2; exact hrb) _).setCell (by show w4.heap.size ≤ Q2; exact hrb) _
  have HPF : Hid (PRd Ak nk As ns At nt P wf) := HPw4.out.next hb4f
  have HRF := Lib.hid (HR4.out.next hb4f)
  obtain ⟨f0_, f1_, f2_, fz_⟩ : w5.frozen? ⟨Q2, 0, none⟩ = false ∧ w5.frozen? ⟨Q2, 1, none⟩ = false ∧ w5.frozen? ⟨Q2, 2, none⟩ = false ∧ Q2 < w5.heap.size := ⟨frozen_of_row w5 Q2 _ _ _ HQ2.out, frozen_of_row w5 Q2 _ _ _ HQ2.out, frozen_of_row w5 Q2 _ _ _ HQ2.out, (Array.getElem?_eq_some_iff.1 HQ2.out).1⟩
  obtain ⟨m0, m1, m2⟩ := HQ1.out.cells
  obtain ⟨n0, n1, n2_⟩ := HQ2.out.cells
  have hqm : WBox w4.heap.size sm (w4.alloc (.cells #[.int .i64 sm.cut, .int .i64 sm.days, .int .i64 sm.con] 59)) := blk_new _ _
  obtain ⟨l0_, l1_, l2_⟩ := hqm.cells
  have HW5 := Lib.hid (And.intro hw5 (And.intro hQ1 hQ2))
  have HWF := Lib.hid hwf
  clear hw5 hQ1 hQ2 hwf hb45 hwQ2 hQ12 hqQ2 hrb hb4f hqm HXw4 HPw4 HBw4 HR4 HXw5 HPw5 HBw5 HR5_ HQ1 HQ2 m0 m1 m2
  obtain ⟨w1_, w2_⟩ := HWR.out
  go_upto_region 5 with fail
  rw [← HW5.out.1, ← HW5.out.2.2, ← HW5.out.2.1]
  clear l0_ l1_ l2_
  go_upto_region 7 with fail
  rw [← HWF.out]
  clear w1_ w2_ n0 n1 n2_ f0_ f1_ f2_ fz_ HW5 HWF HWR
  obtain ⟨k0, k1, k2⟩ := HXF.out.cells
  obtain ⟨m0, m1, m2⟩ := HQF1.out.cells
  go_wp2_with fail
  clear k0 k1 k2 m0 m1 m2
  refine (pFind_calls Ak nk ck As ns cs At nt ct P 1 Ar cr rows 0 sm _ HPF.out HPB.out HRF.out (by have := HL24.out; simp only [maxLen]; omega)).mono ?_
  rintro e w6 ⟨A6, c6, rfl, hr, hb⟩
  have e1 : findErr P rows 0 sm = 0 := find_zero HCK.out HG.out (by decide) (by have := HL24.out; omega) (by have := HNK.out; omega) (by rw [← HNK.out]; omega) HS1.out
  obtain ⟨f, hf⟩ : ∃ f, f = prefOf P rows 0 sm := ⟨_, rfl⟩
  obtain ⟨L6, hL⟩ : ∃ L, L = demands f 0 1 nk := ⟨_, rfl⟩
  have e2 : prefList P rows 0 sm = L6 := by rw [list_zero e1, ← hf, ← HNK.out, hL]
  rw [e2] at hr ⊢
  rw [e1]
  obtain ⟨nl6, hnl⟩ : ∃ nl, nl = L6.length := ⟨_, rfl⟩
  have hl6 : nl6 ≤ 7 := by rw [hnl, hL]; have := demands_len f 0 1 nk; omega
  rw [← hnl]
  have HL6 := Lib.hid hL
  have HNL6 := Lib.hid hnl
  have HRL6 := Lib.hid hr
  have HFf := Lib.hid hf
  have HX6 := Lib.hid (HXF.out.next hb)
  have HQ6 := Lib.hid (HQF2.out.next hb)
  have HY6 : Hid (Below wf.heap.size wf w6) := hb
  clear hr hb hL hnl e1 e2 hf HXF HQF1 HQF2
  obtain ⟨k0, k1, k2⟩ := HX6.out.cells
  obtain ⟨m0, m1, m2⟩ := HQ6.out.cells
  go_wp2_with fail
  clear k0 k1 k2 m0 m1 m2
  refine (pFind_calls Ak nk ck As ns cs At nt ct P 1 Ar cr rows 0 wd _ (HPF.out.next HY6.out) HPB.out (HRF.out.next HY6.out) (by have := HL24.out; simp only [maxLen]; omega)).mono ?_
  rintro e w7 ⟨A7, c7, rfl, hr, hb⟩
  have e1 : findErr P rows 0 wd = 0 := find_zero HCK.out HG.out (by decide) (by have := HL24.out; omega) (by have := HNK.out; omega) (by rw [← HNK.out]; omega) HS2.out
  obtain ⟨g, hg⟩ : ∃ f, f = prefOf P rows 0 wd := ⟨_, rfl⟩
  obtain ⟨L7, hL⟩ : ∃ L, L = demands g 0 1 nk := ⟨_, rfl⟩
  have e2 : prefList P rows 0 wd = L7 := by rw [list_zero e1, ← hg, ← HNK.out, hL]
  rw [e2] at hr ⊢
  rw [e1]
  obtain ⟨nl7, hnl⟩ : ∃ nl, nl = L7.length := ⟨_, rfl⟩
  have hl7 : nl7 ≤ 7 := by rw [hnl, hL]; have := demands_len g 0 1 nk; omega
  rw [← hnl]
  have HL7 := Lib.hid hL
  have HNL7 := Lib.hid hnl
  have HRL7 := Lib.hid hr
  have HFg := Lib.hid hg
  have HRL6b := Lib.hid (HRL6.out.next hb)
  have HB7 : Hid (Below w.heap.size w w7) := HBF.out.trans ((HY6.out.trans (hb.mono HY6.out.size)).mono HBF.out.size)
  have HLE : Hid (∀ k, f k ≤ g k) := fun k => by rw [HFf.out, hg]; exact prefOf_le HG.out (by have := HL24.out; omega) HWE.out.1 (by split; exact HWE.out.2.2; exact HWE.out.2.1)
  have HIT : Hid (∀ d ∈ L6, L7.any (hitD d) = true) := fun d hd => by rw [HL6.out] at hd; rw [HL7.out]; exact hit_more HLE.out hd
  clear hr hb hL hnl e1 e2 hg HX6 HQ6 HY6 HRL6 HBF HPF HRF HLE HFf HFg HG HL6 HL7
  go_wp2_with fail
  go_loopw [25] (fun i wr => ∃ k : Nat, k ≤ nl6 ∧ i = .int .i64 (k : Int) ∧ ∃ q, wr = w7.drewN q) (fun i _ => nl6 - (intOf i).toNat)
  case atStart => exact ⟨0, Nat.zero_le _, rfl, 0, rfl⟩
  case round =>
    obtain ⟨k, hk, rfl, q', rfl⟩ := hrel
    by_cases hkl : k < nl6
    · obtain ⟨x_, hdx⟩ := getElem?_of_lt (l := L6) (k := k) (by rw [← HNL6.out]; exact hkl)
      obtain ⟨bx, ox, hA, _, hc⟩ := Rd.at_ (enc := demV) (fun _ => rfl) HRL6b.out hdx
      subst hA
      have x1 := hc 1 _ rfl
      have x3 := hc 3 _ rfl
      rw [← Nat.add_assoc] at x1 x3
      clear hc
      have HMX := Lib.hid (HIT.out _ (List.mem_of_getElem? hdx))
      obtain ⟨xd, xp, xg, xc⟩ := x_
      dsimp only at x1 x3
      clear hdx
      have hkl2 : (k : Int) < (nl6 : Int) := by omega
      go_wp2_with fail
      go_loopw [26, 27] (fun u i wr => ∃ j : Nat, j ≤ nl7 ∧ i = .int .i64 (j : Int) ∧ Hid (u = .bool ((L7.take j).any (hitD ⟨xd, xp, xg, xc⟩))) ∧ ∃ q, wr = w7.drewN q) (fun _ i _ => nl7 - (intOf i).toNat)
      case atStart => exact ⟨0, Nat.zero_le _, rfl, rfl, q', rfl⟩
      case round =>
        obtain ⟨j, hj, rfl, HU, q'', rfl⟩ := hrel
        obtain ⟨u, hu⟩ : ∃ u, u = (L7.take j).any (hitD ⟨xd, xp, xg, xc⟩) := ⟨_, rfl⟩
        have hu2 := HU.out
        rw [← hu] at hu2
        subst hu2
        have HUE := Lib.hid hu
        clear hu HU
        by_cases hjl : j < nl7
        · obtain ⟨z_, hdz⟩ := getElem?_of_lt (l := L7) (k := j) (by rw [← HNL7.out]; exact hjl)
          obtain ⟨bz, oz, hA, _, hc⟩ := Rd.at_ (enc := demV) (fun _ => rfl) HRL7.out hdz
          subst hA
          have z1 := hc 1 _ rfl
          have z3 := hc 3 _ rfl
          rw [← Nat.add_assoc] at z1 z3
          clear hc
          have HDZ := Lib.hid hdz
          obtain ⟨zd, zp, zg, zc⟩ := z_
          dsimp only at z1 z3
          clear hdz
          have hjl2 : (j : Int) < (nl7 : Int) := by omega
          cases u
          · by_cases hpp : zp = xp
            · have hpb : (zp == xp) = true := beq_iff_eq.2 hpp
              by_cases hcc : xc ≤ zc
              · have hcb : decide (xc ≤ zc) = true := decide_eq_true hcc
                have HNX : Hid (Value.bool true = .bool ((L7.take (j + 1)).any (hitD ⟨xd, xp, xg, xc⟩))) := by show _ = _; rw [List.take_add_one, HDZ.out, List.any_append, ← HUE.out]; simp [hitD, hpp, hcc]
                clear hpp hcc
                go_wp2_with fail
                go_quiet (fail)
                go_wp2_with fail
                go_roundw
                case measure => simp [intOf] <;> omega
                case rel => exact ⟨j + 1, by omega, by go_num, HNX, _, rfl⟩
              · have hcb : decide (xc ≤ zc) = false := decide_eq_false hcc
                have HNX : Hid (Value.bool false = .bool ((L7.take (j + 1)).any (hitD ⟨xd, xp, xg, xc⟩))) := by show _ = _; rw [List.take_add_one, HDZ.out, List.any_append, ← HUE.out]; simp [hitD, hpp, hcc]
                clear hpp hcc
                go_wp2_with fail
                go_quiet (fail)
                go_wp2_with fail
                go_roundw
                case measure => simp [intOf] <;> omega
                case rel => exact ⟨j + 1, by omega, by go_num, HNX, _, rfl⟩
            · have hpb : (zp == xp) = false := beq_eq_false_iff_ne.2 hpp
              have HNX : Hid (Value.bool false = .bool ((L7.take (j + 1)).any (hitD ⟨xd, xp, xg, xc⟩))) := by show _ = _; rw [List.take_add_one, HDZ.out, List.any_append, ← HUE.out]; simp [hitD, hpp]
              clear hpp
              go_wp2_with fail
              go_quiet (fail)
              go_wp2_with fail
              go_roundw
              case measure => simp [intOf] <;> omega
              case rel => exact ⟨j + 1, by omega, by go_num, HNX, _, rfl⟩
          · have HNX : Hid (Value.bool true = .bool ((L7.take (j + 1)).any (hitD ⟨xd, xp, xg, xc⟩))) := by show _ = _; rw [List.take_add_one, HDZ.out, List.any_append, ← HUE.out]; rfl
            go_wp2_with fail
            go_quiet (fail)
            go_wp2_with fail
            go_roundw
            case measure => simp [intOf] <;> omega
            case rel => exact ⟨j + 1, by omega, by go_num, HNX, _, rfl⟩
        · obtain rfl : u = true := by have := HUE.out; rw [List.take_of_length_le (by rw [← HNL7.out]; omega), HMX.out] at this; exact this
          go_wp2_with fail
          go_roundw
          case measure => simp [intOf] <;> omega
          case rel => exact ⟨k + 1, by omega, by go_num, _, rfl⟩
    · have HBq : Hid (Below w.heap.size w (w7.drewN q')) := HB7.out.drewN q'
      go_wp2_with fail
      refine (awake26_calls _).mono ?_
      rintro e wz ⟨rfl, hb⟩
      have HBz : Hid (Below w.heap.size w wz) := HBq.out.trans (hb.mono HBq.out.size)
      clear hb
      go_wp2_with fail
      go_ret
      exact ⟨rfl, HBz.out⟩

end Go.Proofs.YtomfcmlomfcghaaDoor

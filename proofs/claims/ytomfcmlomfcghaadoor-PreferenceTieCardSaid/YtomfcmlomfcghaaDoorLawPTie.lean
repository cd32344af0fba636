/- PreferenceTie: the plain walk. -/
import Derived.Test.YtomfcmlomfcghaaDoorBlt
import Derived.Test.YtomfcmlomfcghaaDoorM23
import Derived.Test.YtomfcmlomfcghaaDoorPAw8
import Derived.Deep.QuietTactic
import Derived.Lib.MinMax
set_option linter.unusedVariables false
set_option linter.unusedSimpArgs false
namespace Go.Proofs.YtomfcmlomfcghaaDoor
open Go.RowKit

def scanD (k : Int) (s : Int) (d : Dem) : Int := if d.party = k then d.cents else s
theorem scan_dem (f : Nat → Int) (g : Int) (k : Nat) : ∀ n, (demands f 0 g n).foldl (scanD (k : Int)) 0 = if k < n then (if 0 < f k then f k else 0) else 0
  | 0 => by rw [demands_zero, if_neg (Nat.not_lt_zero _)]; rfl
  | n + 1 => by
    have ih := scan_dem f g k n
    rw [demands_succ]
    by_cases hn : k = n
    · subst hn
      rw [if_pos (Nat.lt_succ_self _)]
      rw [if_neg (Nat.lt_irrefl _)] at ih
      split
      · rw [List.foldl_append, ih]; simp [scanD]
      · exact ih
    · have e : (k < n + 1) = (k < n) := by simp only [eq_iff_iff]; omega
      simp only [e]
      split
      · rw [List.foldl_append, ih]
        have : ¬ ((n : Int) = (k : Int)) := by omega
        simp [scanD, this]
      · exact ih
theorem rows_far {W : World} {q : Nat} {A : Option Addr} {rows : List Row} {Ak : Option Addr} {nk ck : Nat} {As : Option Addr} {ns cs : Nat} {At : Option Addr} {nt ct : Nat} (h : RowsRd W W.heap.size A rows) (hq : PBox q Ak nk ck As ns cs At nt ct W) (u : Value) : RowsRd (W.setCell ⟨q, 2, none⟩ u) (W.setCell ⟨q, 2, none⟩ u).heap.size A rows := by
  refine ⟨h.1, fun hn => ?_⟩
  obtain ⟨b, off, e, hb, hc⟩ := h.2 hn
  refine ⟨b, off, e, by simpa using hb, fun j x hx => ?_⟩
  have hne : q ≠ b := by
    rintro rfl
    obtain ⟨r, hr⟩ := getElem?_of_lt (l := rows) (k := 0) hn
    have h0 := hc 0 (.int .i64 r.day) (by
      have := (flat_get Row.cells 6 Row.cells_len rows 0 0 r hr (by decide)).trans (show r.cells[0]? = some (.int .i64 r.day) from rfl)
      simpa using this)
    rw [cell_of_row W q _ _ _ (0, 0) hq, Nat.add_zero] at h0
    match off, h0 with
    | 0, h0 => cases h0
    | 1, h0 => cases h0
    | 2, h0 => cases h0
    | n + 3, h0 => cases h0
  exact (World.cell?_setCell_far W _ _ u hne).trans (hc j x hx)
theorem dem_far {W : World} {q : Nat} {A : Option Addr} {l : List Dem} {Ak : Option Addr} {nk ck : Nat} {As : Option Addr} {ns cs : Nat} {At : Option Addr} {nt ct : Nat} (h : Rd W W.heap.size 4 A l.length (l.flatMap demV)) (hq : PBox q Ak nk ck As ns cs At nt ct W) (u : Value) : Rd (W.setCell ⟨q, 2, none⟩ u) (W.setCell ⟨q, 2, none⟩ u).heap.size 4 A l.length (l.flatMap demV) := by
  refine ⟨h.1, fun hn => ?_⟩
  obtain ⟨b, off, e, hb, hc⟩ := h.2 hn
  refine ⟨b, off, e, by simpa using hb, fun j x hx => ?_⟩
  have hne : q ≠ b := by
    rintro rfl
    obtain ⟨r, hr⟩ := getElem?_of_lt (l := l) (k := 0) hn
    have h0 := hc 0 (.int .i64 r.deb) (by
      have := (flat_get demV 4 (fun _ => rfl) l 0 0 r hr (by decide)).trans (show (demV r)[0]? = some (.int .i64 r.deb) from rfl)
      simpa using this)
    rw [cell_of_row W q _ _ _ (0, 0) hq, Nat.add_zero] at h0
    match off, h0 with
    | 0, h0 => cases h0
    | 1, h0 => cases h0
    | 2, h0 => cases h0
    | n + 3, h0 => cases h0
  exact (World.cell?_setCell_far W _ _ u hne).trans (hc j x hx)
theorem chk_tie {P : Prt} (h : chk P = 0) {k : Nat} (h1 : 1 ≤ k) (hk : k < P.kinds.length) : chk ⟨P.kinds, P.stakes, [((k : Int), 0)]⟩ = 0 := by
  obtain ⟨⟨a, b, c⟩, h2, h3, h4, h5⟩ := chk_parts h
  refine chk_of ⟨a, b, by show (1 : Nat) ≤ 64; decide⟩ h2 h3 h4 ?_
  show ([((k : Int), (0 : Int))].all (tieFine P.kinds.length)) = true
  rw [List.all_cons, List.all_nil, Bool.and_true]
  unfold tieFine
  dsimp only
  rw [inN_iff.2 ⟨by omega, by omega⟩, inN_iff.2 ⟨by omega, by omega⟩, decide_eq_true (show (k : Int) ≠ 0 by omega)]
  rfl
set_option maxHeartbeats 8000000 in
set_option maxRecDepth 100000 in
theorem prefTieLaw (A4 : Option Addr) (c4 : Nat) (l4 : List W5) (y0 y1 y2 x2 : Int) (w : World) (r4 : W5Rd w w.heap.size A4 l4) (o4 : ∀ r ∈ l4, r.ok) (g4 : l4.length ≤ maxLen) (h5 : 0 ≤ y0 ∧ y0 ≤ 255) (h6 : 0 ≤ y1 ∧ y1 ≤ 255) (h7 : 0 ≤ y2 ∧ y2 ≤ 255) (h8 : 0 ≤ x2 ∧ x2 ≤ 255) :
    Calls Tryd.prog 10 #[.slice A4 l4.length c4, .agg #[.int .u8 y0, .int .u8 y1, .int .u8 y2], .int .u8 x2] w fun e w' => e = .returned (.bool true) ∧ Below w.heap.size w w' := by
  have HBT := Lib.hid (fun (W : World) => built_calls 3 0 none 0 0 [] none 0 0 [] W (by decide) (by decide) rfl Rd.nil (fun a ha => by cases ha) (Nat.zero_le _) rfl Rd.nil (fun a ha => by cases ha) (Nat.zero_le _))
  have HR5 := Lib.hid (And.intro r4 o4)
  clear r4 o4
  obtain ⟨Y, hY⟩ : ∃ Y, Y = w.heap.size := ⟨_, rfl⟩
  obtain ⟨wy, hwy⟩ : ∃ W, W = w.alloc (.cells #[.int .u8 y0, .int .u8 y1, .int .u8 y2] 55) := ⟨_, rfl⟩
  have HYB : Hid (wy.heap[Y]? = some (.cells #[.int .u8 y0, .int .u8 y1, .int .u8 y2] 55 (0, 0))) := by rw [hwy, hY]; exact blk_new _ _
  have HBy : Hid (Below w.heap.size w wy) := by rw [hwy]; exact bel_alloc _ _
  obtain ⟨sm, hsm⟩ : ∃ v : Win, v = win3 y0 y1 y2 := ⟨_, rfl⟩
  have HWN' := fun (W : World) => window_calls y0 y1 y2 W h5 h6 h7
  rw [← hsm] at HWN'
  have HWN := Lib.hid HWN'
  obtain ⟨wd, hwd⟩ : ∃ v : Win, v = ⟨sm.cut, sm.days, max sm.con sm.days⟩ := ⟨_, rfl⟩
  have bs : (0 ≤ sm.cut ∧ sm.cut < 60) ∧ (0 ≤ sm.days ∧ sm.days < 50) ∧ (0 ≤ sm.con ∧ sm.con < 90) := by rw [hsm]; unfold win3; dsimp only; omega
  have HS2 : Hid (winB wd = true) := by show _ = _; rw [hwd, hsm]; exact win3_ok y0 y1 y2 _ _ (by unfold win3; dsimp only; omega) (by unfold win3; dsimp only; omega)
  have HWE : Hid (wd.cut = sm.cut ∧ wd.days = sm.days ∧ wd.days ≤ wd.con ∧ wd.con = max sm.con sm.days) := by rw [hwd]; exact ⟨rfl, rfl, by dsimp only; omega, rfl⟩
  clear HWN' hsm hwd bs h5 h6 h7
  go_enter Tryd.func10, Tryd.ntmps10
  go_upto_region 1 with fail
  rw [← hwy, ← hY]
  have HYY := Lib.hid hY
  clear hwy hY
  go_wp2_with fail
  refine (HBT.out _).mono ?_
  rintro e w1 ⟨Ak, nk, ck, As, ns, cs, At, nt, ct, P, rfl, hp, hpb, hck, hn2, hn7, hns, hnt, hnt0, _, hb⟩
  have HP := Lib.hid hp
  have HPB := Lib.hid hpb
  have HCK := Lib.hid hck
  have HNK := Lib.hid hp.nk
  have HNS := Lib.hid hp.ns
  have HNT := Lib.hid hp.nt
  clear hp hpb hck HBT
  have hnt1 : nt = 0 := by omega
  have HPT : Hid (P.ties = []) := List.eq_nil_of_length_eq_zero (by have := HNT.out; omega)
  clear hnt0 hnt1
  have HB1 : Hid (Below w.heap.size w w1) := HBy.out.trans (hb.mono HBy.out.size)
  have HYB1 := Lib.hid (blk_next HYB.out hb)
  clear hb HBy HYB
  obtain ⟨q, hq⟩ : ∃ q, q = w1.heap.size := ⟨_, rfl⟩
  obtain ⟨w2, hw2⟩ : ∃ W, W = w1.alloc (.cells #[.slice Ak nk ck, .slice As ns cs, .slice At nt ct] 26) := ⟨_, rfl⟩
  have HXw2 : Hid (PBox q Ak nk ck As ns cs At nt ct w2) := by rw [hw2, hq]; exact blk_new _ _
  have HBw2 : Hid (Below w.heap.size w w2) := by rw [hw2]; exact HB1.out.alloc HB1.out.size _
  have HPw2 : Hid (PRd Ak nk As ns At nt P w2) := by rw [hw2]; exact HP.out.next (bel_alloc _ _)
  have HW := Lib.hid (And.intro hw2 hq)
  have hx_ := HXw2.out
  rw [hw2, hq] at hx_
  obtain ⟨k0, k1, k2⟩ := hx_.cells
  clear hw2 hq hx_
  have HYB2 : Hid (w2.heap[Y]? = some (.cells #[.int .u8 y0, .int .u8 y1, .int .u8 y2] 55 (0, 0))) := by rw [HW.out.1]; exact blk_alloc HYB1.out
  have HZw2 : Hid (Below w1.heap.size w1 w2) := by rw [HW.out.1]; exact bel_alloc _ _
  have HQS : Hid (q < w2.heap.size ∧ w1.heap.size ≤ q) := by rw [HW.out.1, HW.out.2]; exact ⟨by simp, Nat.le_refl _⟩
  clear HYB1
  go_wp2_with fail
  rw [← HW.out.1, ← HW.out.2]
  clear k0 k1 k2 HW
  refine (rows_calls A4 c4 l4 (nk : Int) 24 _ (by omega) (by omega) (by omega) (by omega) (by simp only [maxLen] at g4; omega) (HR5.out.1.next HBw2.out) HR5.out.2).mono ?_
  rintro e w3 ⟨Ar, cr, rows, rfl, rr, hlen, hg, hb⟩
  have HRR := Lib.hid rr
  have HG := Lib.hid hg
  have hl24 : rows.length ≤ 24 := by omega
  have HL24 := Lib.hid hl24
  have HXw3 := Lib.hid (HXw2.out.next hb)
  have HPw3 := Lib.hid (HPw2.out.next hb)
  have HBw3 : Hid (Below w.heap.size w w3) := HBw2.out.trans (hb.mono HBw2.out.size)
  have HZw3 : Hid (Below w1.heap.size w1 w3) := HZw2.out.trans (hb.mono HZw2.out.size)
  have HYB3 := Lib.hid (blk_next HYB2.out hb)
  clear hb rr hg hlen hl24 HXw2 HPw2 HYB2
  have y0_ : w3.cell? ⟨Y, 0, none⟩ = some (.int .u8 y0) := by rw [cell_of_row w3 Y 0 _ _ (0, 0) HYB3.out]; rfl
  have y1_ : w3.cell? ⟨Y, 1, none⟩ = some (.int .u8 y1) := by rw [cell_of_row w3 Y 1 _ _ (0, 0) HYB3.out]; rfl
  have y2_ : w3.cell? ⟨Y, 2, none⟩ = some (.int .u8 y2) := by rw [cell_of_row w3 Y 2 _ _ (0, 0) HYB3.out]; rfl
  go_wp2_with fail
  clear y0_ y1_ y2_ HYB3
  refine (HWN.out _).mono ?_
  rintro e w4 ⟨rfl, hb⟩
  have HXw4 := Lib.hid (HXw3.out.next hb)
  have HPw4 := Lib.hid (HPw3.out.next hb)
  have HBw4 : Hid (Below w.heap.size w w4) := HBw3.out.trans (hb.mono HBw3.out.size)
  have HZw4 : Hid (Below w1.heap.size w1 w4) := HZw3.out.trans (hb.mono HZw3.out.size)
  have HR4 := Lib.hid (HRR.out.next hb)
  clear hb HXw3 HPw3 HBw3 HRR
  obtain ⟨Q1, hQ1⟩ : ∃ q, q = w4.heap.size := ⟨_, rfl⟩
  obtain ⟨w5, hw5⟩ : ∃ W, W = w4.alloc (.cells #[.int .i64 sm.cut, .int .i64 sm.days, .int .i64 sm.con] 59) := ⟨_, rfl⟩
  have hb45 : Below w4.heap.size w4 w5 := by rw [hw5]; exact bel_alloc _ _
  have HQ1 : Hid (WBox Q1 sm w5) := by rw [hw5, hQ1]; exact blk_new _ _
  have HXw5 := Lib.hid (HXw4.out.next hb45)
  have HPw5 := Lib.hid (HPw4.out.next hb45)
  have HBw5 : Hid (Below w.heap.size w w5) := HBw4.out.trans (hb45.mono HBw4.out.size)
  have hwQ1 : w.heap.size ≤ Q1 := by have := HBw4.out.size; omega
  have hqQ1 : q ≠ Q1 := by have := (Array.getElem?_eq_some_iff.1 HXw4.out).1; omega
  have hrb : w4.heap.size ≤ Q1 := by omega
  obtain ⟨wf, hwf⟩ : ∃ W, W = w5.setCell ⟨Q1, 2, none⟩ (.int .i64 wd.con) := ⟨_, rfl⟩
  have HQF : Hid (WBox Q1 wd wf) := by
    rw [hwf]
    have e1 := heap_setCell_same w5 Q1 2 _ _ (.int .i64 wd.con) HQ1.out
    show _ = _
    rw [HWE.out.1, HWE.out.2.1]
    exact e1
  have HXF : Hid (PBox q Ak nk ck As ns cs At nt ct wf) := by rw [hwf]; exact HXw5.out.other (a := ⟨Q1, 2, none⟩) hqQ1 _
  have HBF : Hid (Below w.heap.size w wf) := by rw [hwf]; exact HBw5.out.setCell (by show w.heap.size ≤ Q1; exact hwQ1) _
  have hb4f : Below w4.heap.size w4 wf := by rw [hwf]; exact hb45.setCell (by show w4.heap.size ≤ Q1; exact hrb) _
  have HZF : Hid (Below w1.heap.size w1 wf) := HZw4.out.trans (hb4f.mono HZw4.out.size)
  have HPF : Hid (PRd Ak nk As ns At nt P wf) := HPw4.out.next hb4f
  have HRF := Lib.hid (HR4.out.next hb4f)
  obtain ⟨f2_, fz_⟩ : w5.frozen? ⟨Q1, 2, none⟩ = false ∧ Q1 < w5.heap.size := ⟨frozen_of_row w5 Q1 _ _ _ HQ1.out, (Array.getElem?_eq_some_iff.1 HQ1.out).1⟩
  obtain ⟨n0, n1, n2_⟩ := HQ1.out.cells
  have HW5 := Lib.hid (And.intro hw5 hQ1)
  have HWF := Lib.hid hwf
  clear hw5 hQ1 hwf hb45 hwQ1 hrb hb4f HXw4 HPw4 HBw4 HR4 HXw5 HPw5 HBw5 HQ1
  have hwc : max sm.con sm.days = wd.con := HWE.out.2.2.2.symm
  obtain ⟨kn, hkn⟩ : ∃ a : Nat, 1 + x2 % ((nk : Int) - 1) = (a : Int) := ⟨(1 + x2 % ((nk : Int) - 1)).toNat, by have := Int.emod_nonneg x2 (show (nk : Int) - 1 ≠ 0 by omega); omega⟩
  have hk1 : 1 ≤ kn := by have := Int.emod_nonneg x2 (show (nk : Int) - 1 ≠ 0 by omega); omega
  have hkl : kn < nk := by have := Int.emod_lt_of_pos x2 (show (0 : Int) < (nk : Int) - 1 by omega); omega
  have HKN := Lib.hid hkn
  clear hkn
  go_upto_region 4 with fail
  rw [← HW5.out.1, ← HW5.out.2]
  go_upto_region 5 with fail
  rw [← HWF.out]
  clear n0 n1 n2_ f2_ fz_ HW5 HWF hwc
  obtain ⟨k0, k1, k2⟩ := HXF.out.cells
  obtain ⟨m0, m1, m2⟩ := HQF.out.cells
  have hkn := HKN.out
  have hkt : wrap64 (1 + wrap64 (x2.tmod (wrap64 ((nk : Int) - 1)))) = (kn : Int) := by rw [IntWalk.wrap64_in ((nk : Int) - 1) (by omega), Int.tmod_eq_emod_of_nonneg h8.1, IntWalk.wrap64_in (x2 % ((nk : Int) - 1)) (by have := Int.emod_nonneg x2 (show (nk : Int) - 1 ≠ 0 by omega); have := Int.emod_lt_of_pos x2 (show (0 : Int) < (nk : Int) - 1 by omega); omega), hkn, IntWalk.wrap64_in _ (by omega)]
  have hnn : ((nk : Int) - 1 == 0) = false := beq_eq_false_iff_ne.2 (by omega)
  go_wp2_with fail
  first | rw [hkt] | rw [hkn] | skip
  clear k0 k1 k2 m0 m1 m2 hkn hkt hnn
  refine (pFind_calls Ak nk ck As ns cs At nt ct P 1 Ar cr rows 0 wd _ HPF.out HPB.out HRF.out (by have := HL24.out; simp only [maxLen]; omega)).mono ?_
  rintro e w6 ⟨A6, c6, rfl, hr, hb⟩
  have e1 : findErr P rows 0 wd = 0 := find_zero HCK.out HG.out (by decide) (by have := HL24.out; omega) (by have := HNK.out; omega) (by rw [← HNK.out]; omega) HS2.out
  obtain ⟨f, hf⟩ : ∃ f, f = prefOf P rows 0 wd := ⟨_, rfl⟩
  obtain ⟨L6, hL⟩ : ∃ L, L = demands f 0 1 nk := ⟨_, rfl⟩
  have e2 : prefList P rows 0 wd = L6 := by rw [list_zero e1, ← hf, ← HNK.out, hL]
  rw [e2] at hr ⊢
  rw [e1]
  obtain ⟨nl6, hnl⟩ : ∃ nl, nl = L6.length := ⟨_, rfl⟩
  have hl6 : nl6 ≤ 7 := by rw [hnl, hL]; have := demands_len f 0 1 nk; omega
  rw [← hnl]
  have HL6 := Lib.hid hL
  have HNL6 := Lib.hid hnl
  have HRL6 := Lib.hid hr
  have HFf := Lib.hid hf
  have HX6 := Lib.hid (HXF.out.next hb)
  have HQ6 := Lib.hid (HQF.out.next hb)
  have HZ6 : Hid (Below w1.heap.size w1 w6) := HZF.out.trans (hb.mono HZF.out.size)
  have HB6 : Hid (Below w.heap.size w w6) := HBF.out.trans (hb.mono HBF.out.size)
  have HR6 := Lib.hid (HRF.out.next hb)
  have HY66 : Hid (Below w6.heap.size w6 w6) := Below.refl _ _
  clear hr hb hL hnl e1 e2 hf HXF HQF
  obtain ⟨T, hT⟩ : ∃ T, T = w6.heap.size := ⟨_, rfl⟩
  obtain ⟨wt, hwt⟩ : ∃ W, W = w6.alloc (.cells #[.int .i64 (kn : Int), .int .i64 0] 38) := ⟨_, rfl⟩
  have HTt : Hid (wt.heap[T]? = some (.cells #[.int .i64 (kn : Int), .int .i64 0] 38 (0, 0))) := by rw [hwt, hT]; exact blk_new _ _
  have HXt : Hid (PBox q Ak nk ck As ns cs At nt ct wt) := by rw [hwt]; exact HX6.out.next (bel_alloc _ _)
  have hb6t : Below w6.heap.size w6 wt := by rw [hwt]; exact bel_alloc _ _
  have hTq : T ≠ q := by have := (Array.getElem?_eq_some_iff.1 HX6.out).1; omega
  have hqQ : Q1 ≠ q := Ne.symm hqQ1
  obtain ⟨wg, hwg⟩ : ∃ W, W = wt.setCell ⟨q, 2, none⟩ (.slice (some ⟨T, 0, none⟩) 1 1) := ⟨_, rfl⟩
  have HXG : Hid (PBox q Ak nk ck As ns cs (some ⟨T, 0, none⟩) 1 1 wg) := by rw [hwg]; exact HXt.out.set2 _ _ _
  have HTG : Hid (wg.heap[T]? = some (.cells #[.int .i64 (kn : Int), .int .i64 0] 38 (0, 0))) := by rw [hwg]; exact (heap_setCell_other _ ⟨q, 2, none⟩ T _ hTq).trans HTt.out
  have HQG : Hid (WBox Q1 wd wg) := by rw [hwg]; exact (heap_setCell_other _ ⟨q, 2, none⟩ Q1 _ hqQ).trans (HQ6.out.next hb6t)
  have hzt : Below w1.heap.size w1 wg := by rw [hwg]; exact (HZ6.out.trans (hb6t.mono HZ6.out.size)).setCell (by show w1.heap.size ≤ q; exact HQS.out.2) _
  have HZG := Lib.hid hzt
  have HRL6 := Lib.hid (dem_far (HRL6.out.next hb6t) HXt.out (.slice (some ⟨T, 0, none⟩) 1 1))
  rw [← hwg] at HRL6
  have hqw : w.heap.size ≤ q := by have := HB1.out.size; have := HQS.out.2; omega
  have HBG : Hid (Below w.heap.size w wg) := by rw [hwg]; exact (HB6.out.trans (hb6t.mono HB6.out.size)).setCell (by show w.heap.size ≤ q; exact hqw) _
  have HRG : Hid (RowsRd wg wg.heap.size Ar rows) := by rw [hwg]; exact rows_far (HR6.out.next hb6t) HXt.out _
  have hxt := HXt.out
  rw [hwt] at hxt
  obtain ⟨k0, k1, k2⟩ := hxt.cells
  obtain ⟨f0_, f1_, f2_, fz_⟩ := hxt.store
  have HWT := Lib.hid (And.intro hwt (And.intro hT hwg))
  clear hxt hwt hT hwg hb6t hTq hqQ hzt hqw HTt HXt HX6 HQ6 HZ6 HB6 HR6
  go_upto_region 8 with fail
  rw [← HWT.out.2.1, ← HWT.out.1, ← HWT.out.2.2]
  clear k0 k1 k2 f0_ f1_ f2_ fz_ HWT
  obtain ⟨Q, hQ⟩ : ∃ Q : Prt, Q = ⟨P.kinds, P.stakes, [((kn : Int), 0)]⟩ := ⟨_, rfl⟩
  have HNQ : Hid (nk = Q.kinds.length) := by rw [hQ]; exact HNK.out
  have HCQ : Hid (chk Q = 0) := by rw [hQ]; exact chk_tie HCK.out hk1 (by rw [← HNK.out]; exact hkl)
  have HPQ : Hid (PB 1 Q) := by rw [hQ]; exact ⟨HPB.out.m1, HPB.out.m2, HPB.out.k, HPB.out.s, fun x hx => by rw [List.mem_singleton.1 hx]; exact ⟨by unfold i64b; dsimp only; omega, by unfold i64b; dsimp only; omega⟩, HPB.out.kl, HPB.out.sl, by show 1 ≤ maxLen; decide⟩
  have HCN : Hid (con Q 0 kn = true) := by rw [hQ]; exact con_iff.2 (.inr (.inl ⟨((kn : Int), 0), by simp, .inr ⟨by simp, by simp⟩⟩))
  have HYQ : Hid (PRd Ak nk As ns (some ⟨T, 0, none⟩) 1 Q wg) := by
    have h1 := HP.out.next HZG.out
    rw [hQ]
    exact ⟨h1.k, h1.s, rd_of_blk HTG.out rfl rfl, h1.nk, h1.ns, rfl⟩
  clear hQ HZG HTG
  obtain ⟨k0, k1, k2⟩ := HXG.out.cells
  obtain ⟨m0, m1, m2⟩ := HQG.out.cells
  go_wp2_with fail
  clear k0 k1 k2 m0 m1 m2
  refine (pFind_calls Ak nk ck As ns cs (some ⟨T, 0, none⟩) 1 1 Q 1 Ar cr rows 0 wd _ HYQ.out HPQ.out HRG.out (by have := HL24.out; simp only [maxLen]; omega)).mono ?_
  rintro e w7 ⟨A7, c7, rfl, hr, hb⟩
  have e1 : findErr Q rows 0 wd = 0 := find_zero HCQ.out HG.out (by decide) (by have := HL24.out; omega) (by have := HNQ.out; omega) (by rw [← HNQ.out]; omega) HS2.out
  obtain ⟨g, hg⟩ : ∃ f, f = prefOf Q rows 0 wd := ⟨_, rfl⟩
  obtain ⟨L7, hL⟩ : ∃ L, L = demands g 0 1 nk := ⟨_, rfl⟩
  have e2 : prefList Q rows 0 wd = L7 := by rw [list_zero e1, ← hg, ← HNQ.out, hL]
  rw [e2] at hr ⊢
  rw [e1]
  obtain ⟨nl7, hnl⟩ : ∃ nl, nl = L7.length := ⟨_, rfl⟩
  have hl7 : nl7 ≤ 7 := by rw [hnl, hL]; have := demands_len g 0 1 nk; omega
  rw [← hnl]
  have HL7 := Lib.hid hL
  have HNL7 := Lib.hid hnl
  have HRL7 := Lib.hid hr
  have HFg := Lib.hid hg
  have HRL6b := Lib.hid (HRL6.out.next hb)
  have HB7 : Hid (Below w.heap.size w w7) := HBG.out.trans (hb.mono HBG.out.size)
  have HLE : Hid (f kn ≤ g kn) := by show _ ≤ _; rw [HFf.out, hg]; exact prefOf_le HG.out (by have := HL24.out; omega) rfl (by rw [HCN.out, if_pos rfl]; split; exact Int.le_refl _; exact HWE.out.2.2.1)
  clear hr hb hL hnl e1 e2 hg HXG HQG HBG HRG HYQ HRL6 HFf HFg HG
  go_wp2_with fail
  go_loop [15, 17] (fun u i => ∃ j : Nat, j ≤ nl6 ∧ i = .int .i64 (j : Int) ∧ Hid (u = .int .i64 ((L6.take j).foldl (scanD (kn : Int)) 0))) (fun _ i => nl6 - (intOf i).toNat)
  case atStart => exact ⟨0, Nat.zero_le _, rfl, rfl⟩
  case round =>
    obtain ⟨j, hj, rfl, HU⟩ := hrel
    obtain ⟨u, hu⟩ : ∃ u, u = (L6.take j).foldl (scanD (kn : Int)) 0 := ⟨_, rfl⟩
    have hu2 := HU.out
    rw [← hu] at hu2
    subst hu2
    have HUE := Lib.hid hu
    clear hu HU
    by_cases hjl : j < nl6
    · obtain ⟨x_, hdx⟩ := getElem?_of_lt (l := L6) (k := j) (by rw [← HNL6.out]; exact hjl)
      obtain ⟨bx, ox, hA, _, hc⟩ := Rd.at_ (enc := demV) (fun _ => rfl) HRL6b.out hdx
      subst hA
      have x1 := hc 1 _ rfl
      have x3 := hc 3 _ rfl
      rw [← Nat.add_assoc] at x1 x3
      clear hc
      have HDX := Lib.hid hdx
      obtain ⟨xd, xp, xg, xc⟩ := x_
      dsimp only at x1 x3
      clear hdx
      have hjl2 : (j : Int) < (nl6 : Int) := by omega
      by_cases hpp : xp = (kn : Int)
      · have hpb : (xp == (kn : Int)) = true := beq_iff_eq.2 hpp
        have HNX : Hid (Value.int .i64 xc = .int .i64 ((L6.take (j + 1)).foldl (scanD (kn : Int)) 0)) := by show _ = _; rw [List.take_add_one, HDX.out, List.foldl_append, ← HUE.out]; simp [scanD, hpp]
        clear hpp
        go_wp2_with fail
        go_round
        case measure => simp [intOf] <;> omega
        case rel => exact ⟨j + 1, by omega, by go_num, HNX⟩
      · have hpb : (xp == (kn : Int)) = false := beq_eq_false_iff_ne.2 hpp
        have HNX : Hid (Value.int .i64 u = .int .i64 ((L6.take (j + 1)).foldl (scanD (kn : Int)) 0)) := by show _ = _; rw [List.take_add_one, HDX.out, List.foldl_append, ← HUE.out]; simp [scanD, hpp]
        clear hpp
        go_wp2_with fail
        go_round
        case measure => simp [intOf] <;> omega
        case rel => exact ⟨j + 1, by omega, by go_num, HNX⟩
    · have HV6 : Hid (u = if 0 < f kn then f kn else 0) := by
        show _ = _
        rw [HUE.out, List.take_of_length_le (by rw [← HNL6.out]; omega), HL6.out, scan_dem, if_pos hkl]
      clear HUE
      obtain ⟨u6, hu6⟩ : ∃ x, x = u := ⟨_, rfl⟩
      rw [← hu6] at HV6 ⊢
      clear hu6
      go_wp2_with fail
      go_loop [16, 18] (fun u i => ∃ j : Nat, j ≤ nl7 ∧ i = .int .i64 (j : Int) ∧ Hid (u = .int .i64 ((L7.take j).foldl (scanD (kn : Int)) 0))) (fun _ i => nl7 - (intOf i).toNat)
      case atStart => exact ⟨0, Nat.zero_le _, rfl, rfl⟩
      case round =>
        obtain ⟨j, hj, rfl, HU⟩ := hrel
        obtain ⟨u, hu⟩ : ∃ u, u = (L7.take j).foldl (scanD (kn : Int)) 0 := ⟨_, rfl⟩
        have hu2 := HU.out
        rw [← hu] at hu2
        subst hu2
        have HUE := Lib.hid hu
        clear hu HU
        by_cases hjl : j < nl7
        · obtain ⟨x_, hdx⟩ := getElem?_of_lt (l := L7) (k := j) (by rw [← HNL7.out]; exact hjl)
          obtain ⟨bx, ox, hA, _, hc⟩ := Rd.at_ (enc := demV) (fun _ => rfl) HRL7.out hdx
          subst hA
          have x1 := hc 1 _ rfl
          have x3 := hc 3 _ rfl
          rw [← Nat.add_assoc] at x1 x3
          clear hc
          have HDX := Lib.hid hdx
          obtain ⟨xd, xp, xg, xc⟩ := x_
          dsimp only at x1 x3
          clear hdx
          have hjl2 : (j : Int) < (nl7 : Int) := by omega
          by_cases hpp : xp = (kn : Int)
          · have hpb : (xp == (kn : Int)) = true := beq_iff_eq.2 hpp
            have HNX : Hid (Value.int .i64 xc = .int .i64 ((L7.take (j + 1)).foldl (scanD (kn : Int)) 0)) := by show _ = _; rw [List.take_add_one, HDX.out, List.foldl_append, ← HUE.out]; simp [scanD, hpp]
            clear hpp
            go_wp2_with fail
            go_round
            case measure => simp [intOf] <;> omega
            case rel => exact ⟨j + 1, by omega, by go_num, HNX⟩
          · have hpb : (xp == (kn : Int)) = false := beq_eq_false_iff_ne.2 hpp
            have HNX : Hid (Value.int .i64 u = .int .i64 ((L7.take (j + 1)).foldl (scanD (kn : Int)) 0)) := by show _ = _; rw [List.take_add_one, HDX.out, List.foldl_append, ← HUE.out]; simp [scanD, hpp]
            clear hpp
            go_wp2_with fail
            go_round
            case measure => simp [intOf] <;> omega
            case rel => exact ⟨j + 1, by omega, by go_num, HNX⟩
        · have HV7 : Hid (u = if 0 < g kn then g kn else 0) := by
            show _ = _
            rw [HUE.out, List.take_of_length_le (by rw [← HNL7.out]; omega), HL7.out, scan_dem, if_pos hkl]
          clear HUE
          have hge : u6 ≤ u := by have h1 := HV6.out; have h2 := HV7.out; have h3 := HLE.out; rw [h1, h2]; split <;> split <;> omega
          have hgb : decide (u6 ≤ u) = true := decide_eq_true hge
          go_wp2_with fail
          refine (awake26_calls _).mono ?_
          rintro e wz ⟨rfl, hb⟩
          have HBz : Hid (Below w.heap.size w wz) := HB7.out.trans (hb.mono HB7.out.size)
          clear hb
          go_wp2_with fail
          go_ret
          exact ⟨rfl, HBz.out⟩

end Go.Proofs.YtomfcmlomfcghaaDoor

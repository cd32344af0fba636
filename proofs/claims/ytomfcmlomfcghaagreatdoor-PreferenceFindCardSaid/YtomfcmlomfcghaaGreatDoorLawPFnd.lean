/- PreferenceFind: the plain walk. -/
import Derived.Test.YtomfcmlomfcghaaGreatDoorM31
import Derived.Test.YtomfcmlomfcghaaGreatDoorM23
import Derived.Test.YtomfcmlomfcghaaGreatDoorM33
set_option linter.unusedVariables false
set_option linter.unusedSimpArgs false
namespace Go.Proofs.YtomfcmlomfcghaaGreatDoor
open Go.RowKit


theorem pick_calls (x n : Int) (w : World) (hx : -1000 ≤ x ∧ x ≤ 1000) (hn : 1 ≤ n ∧ n ≤ 1000) :
    Calls Tryz.prog 29 #[.int .i64 x, .int .i64 n] w fun e w' => ∃ r, e = .returned (.int .i64 r) ∧ 0 ≤ r ∧ r < n ∧ w' = w := by
  have d0 : decide (n ≤ 0) = false := decide_eq_false (by omega)
  have n0 : ¬ n = 0 := by omega
  have n1 : ¬ n = -1 := by omega
  obtain ⟨a, ha⟩ : ∃ a, a = x.tmod n := ⟨_, rfl⟩
  have a0 : -1000 < a ∧ a < 1000 ∧ -n < a ∧ a < n := by
    have h1 := Int.tmod_lt_of_pos x (show 0 < n by omega)
    have h2 := Int.lt_tmod_of_pos x (show 0 < n by omega)
    omega
  obtain ⟨r, hr⟩ : ∃ r, r = (a + n).tmod n := ⟨_, rfl⟩
  have r0 : 0 ≤ r ∧ r < n := by
    rw [hr, Int.tmod_eq_emod_of_nonneg (by omega)]
    exact ⟨Int.emod_nonneg _ (by omega), Int.emod_lt_of_pos _ (by omega)⟩
  have w1 : wrap64 a = a := IntWalk.wrap64_in _ (by omega)
  have w2 : wrap64 (a + n) = a + n := IntWalk.wrap64_in _ (by omega)
  have w3 : wrap64 r = r := IntWalk.wrap64_in _ (by omega)
  have HR := Lib.hid r0
  have KEY : Hid ((wrap64 (x.tmod n + n)).tmod n = r) := by show _ = _; rw [← ha, w2, hr]
  clear a0 r0 w1 w2 w3 hr ha
  go_enter Tryz.func29, Tryz.ntmps29
  go_wp2_with fail
  go_ret
  refine ⟨r, ?_, HR.out.1, HR.out.2, rfl⟩
  show Ending.returned (.int .i64 ((wrap64 (x.tmod n + n)).tmod n)) = _
  rw [KEY.out]
def YBlk (Y : Nat) (y0 y1 y2 : Int) (W : World) : Prop := W.heap[Y]? = some (.cells #[.int .u8 y0, .int .u8 y1, .int .u8 y2] 47 (0, 0))
theorem YBlk.cells {Y : Nat} {y0 y1 y2 : Int} {W : World} (h : YBlk Y y0 y1 y2 W) : W.cell? ⟨Y, 0, none⟩ = some (.int .u8 y0) ∧ W.cell? ⟨Y, 1, none⟩ = some (.int .u8 y1) ∧ W.cell? ⟨Y, 2, none⟩ = some (.int .u8 y2) := by
  refine ⟨?_, ?_, ?_⟩
  · rw [cell_of_row W Y 0 _ _ (0, 0) h]; rfl
  · rw [cell_of_row W Y 1 _ _ (0, 0) h]; rfl
  · rw [cell_of_row W Y 2 _ _ (0, 0) h]; rfl
/-- the parties' box and the window's row -/
def FBox (q Y : Nat) (Ak : Option Addr) (nk ck : Nat) (As : Option Addr) (ns cs : Nat) (At : Option Addr) (nt ct : Nat) (y0 y1 y2 : Int) (W : World) : Prop := PBox q Ak nk ck As ns cs At nt ct W ∧ YBlk Y y0 y1 y2 W
theorem FBox.next {q Y : Nat} {Ak : Option Addr} {nk ck : Nat} {As : Option Addr} {ns cs : Nat} {At : Option Addr} {nt ct : Nat} {y0 y1 y2 : Int} {W W' : World} (h : FBox q Y Ak nk ck As ns cs At nt ct y0 y1 y2 W) (hb : Below W.heap.size W W') : FBox q Y Ak nk ck As ns cs At nt ct y0 y1 y2 W' := ⟨h.1.next hb, blk_next h.2 hb⟩
theorem prefList_lenZ (P : Prt) (rows : List Row) (deb : Int) (v : Win) : (prefList P rows deb v).length ≤ P.kinds.length := by
  unfold prefList
  split
  · exact demands_len _ _ _ _
  · exact Nat.zero_le _
set_option maxHeartbeats 8000000 in
set_option maxRecDepth 100000 in
theorem prefFindLaw (x0 x1 : Int) (A2 : Option Addr) (n2 c2 : Nat) (l2 : List W3) (A3 : Option Addr) (n3 c3 : Nat) (l3 : List (Int × Int)) (A4 : Option Addr) (c4 : Nat) (l4 : List W5) (x5 y0 y1 y2 x7 : Int) (w : World) (h0 : 0 ≤ x0 ∧ x0 ≤ 255) (h1 : 0 ≤ x1 ∧ x1 ≤ 65535) (e2 : n2 = l2.length) (r2 : Rd w w.heap.size 3 A2 l2.length (l2.flatMap u16V3)) (o2 : ∀ a ∈ l2, u16ok3 a) (g2 : n2 ≤ maxLen) (e3 : n3 = l3.length) (r3 : Rd w w.heap.size 2 A3 l3.length (l3.flatMap u16V)) (o3 : ∀ a ∈ l3, u16ok a) (g3 : n3 ≤ maxLen) (r4 : W5Rd w w.heap.size A4 l4) (o4 : ∀ r ∈ l4, r.ok) (g4 : l4.length ≤ maxLen) (h8 : -128 ≤ x5 ∧ x5 ≤ 127) (h5 : 0 ≤ y0 ∧ y0 ≤ 255) (h6 : 0 ≤ y1 ∧ y1 ≤ 255) (h7 : 0 ≤ y2 ∧ y2 ≤ 255) (h9 : -128 ≤ x7 ∧ x7 ≤ 127) :
    Calls Tryz.prog 7 #[.int .u8 x0, .int .u16 x1, .slice A2 n2 c2, .slice A3 n3 c3, .slice A4 l4.length c4, .int .i8 x5, .agg #[.int .u8 y0, .int .u8 y1, .int .u8 y2], .int .i8 x7] w fun e w' => e = .returned (.bool true) ∧ Below w.heap.size w w' := by
  have HBT := Lib.hid (fun (W : World) (hW : Below w.heap.size w W) => built_calls x0 x1 A2 n2 c2 l2 A3 n3 c3 l3 W h0 h1 e2 (r2.next hW) o2 g2 e3 (r3.next hW) o3 g3)
  clear h0 h1 e2 r2 o2 g2 e3 r3 o3 g3
  have HR5 := Lib.hid (And.intro r4 o4)
  clear r4 o4
  obtain ⟨Y, hY⟩ : ∃ Y, Y = w.heap.size := ⟨_, rfl⟩
  obtain ⟨wy, hwy⟩ : ∃ W, W = w.alloc (.cells #[.int .u8 y0, .int .u8 y1, .int .u8 y2] 47) := ⟨_, rfl⟩
  have HYB : Hid (YBlk Y y0 y1 y2 wy) := by rw [hwy, hY]; exact blk_new _ _
  have HBy : Hid (Below w.heap.size w wy) := by rw [hwy]; exact bel_alloc _ _
  obtain ⟨sm, hsm⟩ : ∃ v : Win, v = win3 y0 y1 y2 := ⟨_, rfl⟩
  have HWN' := fun (W : World) => window_calls y0 y1 y2 W h5 h6 h7
  rw [← hsm] at HWN'
  have HWN := Lib.hid HWN'
  have HX7 : Hid (wrap64 x7 = x7 ∧ -1000 ≤ x7 ∧ x7 ≤ 1000) := ⟨IntWalk.wrap64_in _ (by omega), by omega, by omega⟩
  clear HWN' hsm h5 h6 h7 h8 h9
  go_enter Tryz.func7, Tryz.ntmps7
  go_upto_region 1 with fail
  rw [← hwy, ← hY]
  have HYY := Lib.hid hY
  clear hwy hY
  go_wp2_with fail
  refine (HBT.out _ HBy.out).mono ?_
  rintro e w1 ⟨Ak, nk, ck, As, ns, cs, At, nt, ct, P, rfl, hp, hpb, hck, hn2, hn7, hns, hnt, _, _, hb⟩
  have HP := Lib.hid hp
  have HPB := Lib.hid hpb
  have HCK := Lib.hid hck
  have HNK := Lib.hid hp.nk
  have HNS := Lib.hid hp.ns
  have HNT := Lib.hid hp.nt
  clear hp hpb hck HBT
  have HB1 : Hid (Below w.heap.size w w1) := HBy.out.trans (hb.mono HBy.out.size)
  have HYB1 : Hid (YBlk Y y0 y1 y2 w1) := blk_next HYB.out hb
  clear hb HBy HYB
  obtain ⟨q, hq⟩ : ∃ q, q = w1.heap.size := ⟨_, rfl⟩
  obtain ⟨w2, hw2⟩ : ∃ W, W = w1.alloc (.cells #[.slice Ak nk ck, .slice As ns cs, .slice At nt ct] 26) := ⟨_, rfl⟩
  have HXw2 : Hid (PBox q Ak nk ck As ns cs At nt ct w2) := by rw [hw2, hq]; exact blk_new _ _
  have HBw2 : Hid (Below w.heap.size w w2) := by rw [hw2]; exact HB1.out.alloc HB1.out.size _
  have HPw2 : Hid (PRd Ak nk As ns At nt P w2) := by rw [hw2]; exact HP.out.next (bel_alloc _ _)
  have HW := Lib.hid (And.intro hw2 hq)
  have hx_ := HXw2.out
  rw [hw2, hq] at hx_
  obtain ⟨k0, k1, k2⟩ := hx_.cells
  clear hw2 hq hx_
  have HF2 : Hid (FBox q Y Ak nk ck As ns cs At nt ct y0 y1 y2 w2) := ⟨HXw2.out, by rw [HW.out.1]; exact blk_alloc HYB1.out⟩
  clear HYB1
  have x7_ := HX7.out.1
  go_wp2_with fail
  rw [← HW.out.1, ← HW.out.2]
  clear k0 k1 k2 HW x7_
  refine (pick_calls x7 (nk : Int) _ HX7.out.2 (by omega)).mono ?_
  rintro e wq ⟨r, rfl, hr0, hr1, rfl⟩
  have r_ : wrap64 (2 + r) = 2 + r := IntWalk.wrap64_in _ (by omega)
  go_wp2_with fail
  clear r_
  refine (rows_calls A4 c4 l4 (2 + r) 24 _ (by omega) (by omega) (by omega) (by omega) (by simp only [maxLen] at g4; omega) (HR5.out.1.next HBw2.out) HR5.out.2).mono ?_
  rintro e w3 ⟨Ar, cr, rows, rfl, rr, hlen, hg, hb⟩
  have HRR := Lib.hid rr
  have hl24 : rows.length ≤ maxLen := by simp only [maxLen]; omega
  have HL24 := Lib.hid hl24
  have HF3 := Lib.hid (HF2.out.next hb)
  have HPw3 := Lib.hid (HPw2.out.next hb)
  have HB3 : Hid (Below w.heap.size w w3) := HBw2.out.trans (hb.mono HBw2.out.size)
  clear hb rr hg hlen hl24 hr0 hr1 HXw2 HPw2 HBw2 HF2 HX7 HR5
  obtain ⟨d, hd⟩ : ∃ d, d = IntKind.i64.wrap (x5.tmod 9) := ⟨_, rfl⟩
  obtain ⟨L, hL⟩ : ∃ L, L = prefList P rows d sm := ⟨_, rfl⟩
  obtain ⟨E, hE⟩ : ∃ E, E = findErr P rows d sm := ⟨_, rfl⟩
  obtain ⟨nl, hnl⟩ : ∃ n, n = L.length := ⟨_, rfl⟩
  have hnm : nl ≤ 7 := by have := prefList_lenZ P rows d sm; rw [← hL, ← hnl, ← HNK.out] at this; omega
  have HC0' := fun (W : World) (hW : Below w3.heap.size w3 W) => pFind_calls Ak nk ck As ns cs At nt ct P 1 Ar cr rows d sm W (HPw3.out.next hW) HPB.out (HRR.out.next hW) HL24.out
  rw [← hL, ← hE] at HC0'
  have HC0 := Lib.hid HC0'
  have HC1' := fun (W : World) (hW : Below w3.heap.size w3 W) => rPrefs_calls Ak nk ck As ns cs At nt ct P 1 Ar cr rows d sm W (HPw3.out.next hW) HPB.out (HRR.out.next hW) HL24.out
  rw [← hL, ← hE] at HC1'
  have HC1 := Lib.hid HC1'
  have HNL := Lib.hid hnl
  have HNM : Hid (nl ≤ maxLen) := by show _ ≤ _; simp only [maxLen]; omega
  have HD := Lib.hid hd
  have HZ3 : Hid (Below w3.heap.size w3 w3) := Below.refl _ _
  clear HC0' HC1' hL hE hnl hnm hd HPw3 HPB HCK HRR
  go_wp2_with fail
  obtain ⟨Wd, hWd⟩ : ∃ W, W = w3.drew := ⟨_, rfl⟩
  have hbd : Below w3.heap.size w3 Wd := by rw [hWd]; exact (Below.refl _ _).drew
  have hSa : (FBox q Y Ak nk ck As ns cs At nt ct y0 y1 y2) Wd := HF3.out.next hbd
  have HZd : Hid (Below w3.heap.size w3 Wd) := HZ3.out.trans (hbd.mono HZ3.out.size)
  refine wp_region_held_drew (S := (FBox q Y Ak nk ck As ns cs At nt ct y0 y1 y2)) (by kernel_rfl) (by rw [← hWd]; exact hSa) ?_
  rw [← hWd]
  intro _
  clear hWd hbd HF3 HZ3
  refine wpAnyH_take (i := 0) (v := ptyVal Ak nk ck As ns cs At nt ct) rfl (by kernel_rfl) (by kernel_rfl) (by kernel_rfl) (fun _ _ _ h => h) (Or.inl ⟨by kernel_rfl, (by intro w' hw'; obtain ⟨c0, c1, c2⟩ := hw'.1.cells; go_simp)⟩) hSa ?_
  go_simp
  refine wpAnyH_take (i := 1) rfl (by kernel_rfl) (by kernel_rfl) (by kernel_rfl) (fun _ _ _ h => h) (Or.inl ⟨by kernel_rfl, (by intro w' _; go_simp; with_reducible rfl)⟩) hSa ?_
  go_simp
  refine wpAnyH_take (i := 2) rfl (by kernel_rfl) (by kernel_rfl) (by kernel_rfl) (fun _ _ _ h => h) (Or.inl ⟨by kernel_rfl, (by intro w' _; go_simp; with_reducible rfl)⟩) hSa ?_
  go_simp
  refine wpAnyH_take (i := 3) (v := .int .i8 (x5.tmod 9)) rfl (by kernel_rfl) (by kernel_rfl) (by kernel_rfl) (fun _ _ _ h => h) (Or.inl ⟨by kernel_rfl, (by intro w' _; go_simp)⟩) hSa ?_
  go_simp
  refine wpAnyH_take (i := 4) (v := .int .i64 d) rfl (by kernel_rfl) (by kernel_rfl) (by kernel_rfl) (fun _ _ _ h => h) (Or.inl ⟨by kernel_rfl, (by intro w' hw'; have hd_ : IntKind.i64.wrap (x5.tmod 9) = d := HD.out.symm; go_simp)⟩) hSa ?_
  go_simp
  refine wpAnyH_take (i := 5) (v := .agg #[.int .u8 y0, .int .u8 y1, .int .u8 y2]) rfl (by kernel_rfl) (by kernel_rfl) (by kernel_rfl) (fun _ _ _ h => h) (Or.inl ⟨by kernel_rfl, (by intro w' hw'; obtain ⟨c0, c1, c2⟩ := hw'.2.cells; go_simp)⟩) hSa ?_
  go_simp
  refine wpAnyH_ready (rs := [6]) (by kernel_rfl) (by simp) ?_
  refine AllReadyH.cons rfl (fun K hK => ?_) AllReadyH.nil
  go_simp
  refine (HWN.out _).mono ?_
  rintro e We ⟨rfl, hb⟩
  have hSb := hSa.next hb
  have HZe : Hid (Below w3.heap.size w3 We) := HZd.out.trans (hb.mono HZd.out.size)
  clear hb hSa HZd
  refine hK.out _ _ hSb (fun _ => ?_)
  clear hK K
  refine wpAnyH_ready (rs := [7]) (by kernel_rfl) (by simp) ?_
  refine AllReadyH.cons rfl (fun K hK => ?_) AllReadyH.nil
  go_simp
  refine (HC0.out _ HZe.out).mono ?_
  rintro e w4 ⟨A0, c0, rfl, hr, hb⟩
  rw [← HNL.out]
  have hSc := hSb.next hb
  have HF4 := Lib.hid hSc
  have HZ4 : Hid (Below w3.heap.size w3 w4) := HZe.out.trans (hb.mono HZe.out.size)
  have HR0 := Lib.hid hr
  clear hb hr hSb HZe HC0
  refine hK.out _ _ hSc (fun _ => ?_)
  clear hK K
  refine wpAnyH_take (i := 8) rfl (by kernel_rfl) (by kernel_rfl) (by kernel_rfl) (fun _ _ _ h => h) (Or.inl ⟨by kernel_rfl, (by intro w' _; go_simp; with_reducible rfl)⟩) hSc ?_
  go_simp
  refine wpAnyH_take (i := 9) rfl (by kernel_rfl) (by kernel_rfl) (by kernel_rfl) (fun _ _ _ h => h) (Or.inl ⟨by kernel_rfl, (by intro w' _; go_simp; with_reducible rfl)⟩) hSc ?_
  go_simp
  refine wpAnyH_take (i := 10) rfl (by kernel_rfl) (by kernel_rfl) (by kernel_rfl) (fun _ _ _ h => h) (Or.inl ⟨by kernel_rfl, (by intro w' _; go_simp; with_reducible rfl)⟩) hSc ?_
  go_simp
  refine wpAnyH_take (i := 11) rfl (by kernel_rfl) (by kernel_rfl) (by kernel_rfl) (fun _ _ _ h => h) (Or.inl ⟨by kernel_rfl, (by intro w' _; go_simp; with_reducible rfl)⟩) hSc ?_
  go_simp
  refine wpAnyH_take (i := 12) rfl (by kernel_rfl) (by kernel_rfl) (by kernel_rfl) (fun _ _ _ h => h) (Or.inl ⟨by kernel_rfl, (by intro w' _; go_simp; with_reducible rfl)⟩) hSc ?_
  go_simp
  refine wpAnyH_done (by kernel_rfl) ?_ _
  clear hSc
  go_wp2_with fail
  obtain ⟨Wd, hWd⟩ : ∃ W, W = w4.drew := ⟨_, rfl⟩
  have hbd : Below w4.heap.size w4 Wd := by rw [hWd]; exact (Below.refl _ _).drew
  have hSa : (FBox q Y Ak nk ck As ns cs At nt ct y0 y1 y2) Wd := HF4.out.next hbd
  have HZd : Hid (Below w3.heap.size w3 Wd) := HZ4.out.trans (hbd.mono HZ4.out.size)
  have HR0 := Lib.hid (HR0.out.next hbd)
  refine wp_region_held_drew (S := (FBox q Y Ak nk ck As ns cs At nt ct y0 y1 y2)) (by kernel_rfl) (by rw [← hWd]; exact hSa) ?_
  rw [← hWd]
  intro _
  clear hWd hbd HF4 HZ4
  refine wpAnyH_take (i := 0) (v := ptyVal Ak nk ck As ns cs At nt ct) rfl (by kernel_rfl) (by kernel_rfl) (by kernel_rfl) (fun _ _ _ h => h) (Or.inl ⟨by kernel_rfl, (by intro w' hw'; obtain ⟨c0, c1, c2⟩ := hw'.1.cells; go_simp)⟩) hSa ?_
  go_simp
  refine wpAnyH_take (i := 1) rfl (by kernel_rfl) (by kernel_rfl) (by kernel_rfl) (fun _ _ _ h => h) (Or.inl ⟨by kernel_rfl, (by intro w' _; go_simp; with_reducible rfl)⟩) hSa ?_
  go_simp
  refine wpAnyH_take (i := 2) rfl (by kernel_rfl) (by kernel_rfl) (by kernel_rfl) (fun _ _ _ h => h) (Or.inl ⟨by kernel_rfl, (by intro w' _; go_simp; with_reducible rfl)⟩) hSa ?_
  go_simp
  refine wpAnyH_take (i := 3) (v := .int .i8 (x5.tmod 9)) rfl (by kernel_rfl) (by kernel_rfl) (by kernel_rfl) (fun _ _ _ h => h) (Or.inl ⟨by kernel_rfl, (by intro w' _; go_simp)⟩) hSa ?_
  go_simp
  refine wpAnyH_take (i := 4) (v := .int .i64 d) rfl (by kernel_rfl) (by kernel_rfl) (by kernel_rfl) (fun _ _ _ h => h) (Or.inl ⟨by kernel_rfl, (by intro w' hw'; have hd_ : IntKind.i64.wrap (x5.tmod 9) = d := HD.out.symm; go_simp)⟩) hSa ?_
  go_simp
  refine wpAnyH_take (i := 5) (v := .agg #[.int .u8 y0, .int .u8 y1, .int .u8 y2]) rfl (by kernel_rfl) (by kernel_rfl) (by kernel_rfl) (fun _ _ _ h => h) (Or.inl ⟨by kernel_rfl, (by intro w' hw'; obtain ⟨c0, c1, c2⟩ := hw'.2.cells; go_simp)⟩) hSa ?_
  go_simp
  refine wpAnyH_ready (rs := [6]) (by kernel_rfl) (by simp) ?_
  refine AllReadyH.cons rfl (fun K hK => ?_) AllReadyH.nil
  go_simp
  refine (HWN.out _).mono ?_
  rintro e We ⟨rfl, hb⟩
  have hSb := hSa.next hb
  have HZe : Hid (Below w3.heap.size w3 We) := HZd.out.trans (hb.mono HZd.out.size)
  have HR0 := Lib.hid (HR0.out.next hb)
  clear hb hSa HZd
  refine hK.out _ _ hSb (fun _ => ?_)
  clear hK K
  refine wpAnyH_ready (rs := [7]) (by kernel_rfl) (by simp) ?_
  refine AllReadyH.cons rfl (fun K hK => ?_) AllReadyH.nil
  go_simp
  refine (HC1.out _ HZe.out).mono ?_
  rintro e w5 ⟨A1, c1, rfl, hr, hb⟩
  rw [← HNL.out]
  have hSc := hSb.next hb
  have HF5 := Lib.hid hSc
  have HZ5 : Hid (Below w3.heap.size w3 w5) := HZe.out.trans (hb.mono HZe.out.size)
  have HR0 := Lib.hid (HR0.out.next hb)
  have HR1 := Lib.hid hr
  clear hb hr hSb HZe HC1
  refine hK.out _ _ hSc (fun _ => ?_)
  clear hK K
  refine wpAnyH_take (i := 8) rfl (by kernel_rfl) (by kernel_rfl) (by kernel_rfl) (fun _ _ _ h => h) (Or.inl ⟨by kernel_rfl, (by intro w' _; go_simp; with_reducible rfl)⟩) hSc ?_
  go_simp
  refine wpAnyH_take (i := 9) rfl (by kernel_rfl) (by kernel_rfl) (by kernel_rfl) (fun _ _ _ h => h) (Or.inl ⟨by kernel_rfl, (by intro w' _; go_simp; with_reducible rfl)⟩) hSc ?_
  go_simp
  refine wpAnyH_take (i := 10) rfl (by kernel_rfl) (by kernel_rfl) (by kernel_rfl) (fun _ _ _ h => h) (Or.inl ⟨by kernel_rfl, (by intro w' _; go_simp; with_reducible rfl)⟩) hSc ?_
  go_simp
  refine wpAnyH_take (i := 11) rfl (by kernel_rfl) (by kernel_rfl) (by kernel_rfl) (fun _ _ _ h => h) (Or.inl ⟨by kernel_rfl, (by intro w' _; go_simp; with_reducible rfl)⟩) hSc ?_
  go_simp
  refine wpAnyH_take (i := 12) rfl (by kernel_rfl) (by kernel_rfl) (by kernel_rfl) (fun _ _ _ h => h) (Or.inl ⟨by kernel_rfl, (by intro w' _; go_simp; with_reducible rfl)⟩) hSc ?_
  go_simp
  refine wpAnyH_done (by kernel_rfl) ?_ _
  clear hSc
  have HB5 : Hid (Below w.heap.size w w5) := HB3.out.trans (HZ5.out.mono HB3.out.size)
  go_wp2_with fail
  refine (awake26_calls _).mono ?_
  rintro e w6 ⟨rfl, hb⟩
  have HB6 : Hid (Below w.heap.size w w6) := HB5.out.trans (hb.mono HB5.out.size)
  have HR1 := Lib.hid (HR1.out.next hb)
  have HR0 := Lib.hid (HR0.out.next hb)
  clear hb HB5
  have hee := beq_self_eq_true E
  go_wp2_with fail
  refine (sameDem_calls A0 A1 nl c0 c1 L _ HNL.out HR0.out HR1.out HNM.out).mono ?_
  rintro e wz ⟨rfl, hb⟩
  have HBz : Hid (Below w.heap.size w wz) := HB6.out.trans (hb.mono HB6.out.size)
  clear hb
  go_wp2_with fail
  go_ret
  exact ⟨rfl, HBz.out⟩

end Go.Proofs.YtomfcmlomfcghaaGreatDoor

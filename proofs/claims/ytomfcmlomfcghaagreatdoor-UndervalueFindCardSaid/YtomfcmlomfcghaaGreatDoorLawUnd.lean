/- UndervalueFind: the plain walk. -/
import Derived.Test.YtomfcmlomfcghaaGreatDoorM31
import Derived.Test.YtomfcmlomfcghaaGreatDoorM23
import Derived.Test.YtomfcmlomfcghaaGreatDoorM36
import Derived.Test.YtomfcmlomfcghaaGreatDoorM33
import Derived.Test.YtomfcmlomfcghaaGreatDoorM37
set_option linter.unusedVariables false
set_option linter.unusedSimpArgs false
namespace Go.Proofs.YtomfcmlomfcghaaGreatDoor
open Go.RowKit

def YBlk (Y : Nat) (y0 y1 y2 : Int) (W : World) : Prop := W.heap[Y]? = some (.cells #[.int .u8 y0, .int .u8 y1, .int .u8 y2] 47 (0, 0))
theorem YBlk.cells {Y : Nat} {y0 y1 y2 : Int} {W : World} (h : YBlk Y y0 y1 y2 W) : W.cell? ⟨Y, 0, none⟩ = some (.int .u8 y0) ∧ W.cell? ⟨Y, 1, none⟩ = some (.int .u8 y1) ∧ W.cell? ⟨Y, 2, none⟩ = some (.int .u8 y2) := by
  refine ⟨?_, ?_, ?_⟩
  · rw [cell_of_row W Y 0 _ _ (0, 0) h]; rfl
  · rw [cell_of_row W Y 1 _ _ (0, 0) h]; rfl
  · rw [cell_of_row W Y 2 _ _ (0, 0) h]; rfl
/-- the parties' box and the window's row -/
def UBox (q Y : Nat) (Ak : Option Addr) (nk ck : Nat) (As : Option Addr) (ns cs : Nat) (At : Option Addr) (nt ct : Nat) (y0 y1 y2 : Int) (q1 : Nat) (v : Win) (W : World) : Prop := PBox q Ak nk ck As ns cs At nt ct W ∧ YBlk Y y0 y1 y2 W ∧ WBox q1 v W
theorem UBox.next {q Y : Nat} {Ak : Option Addr} {nk ck : Nat} {As : Option Addr} {ns cs : Nat} {At : Option Addr} {nt ct : Nat} {y0 y1 y2 : Int} {q1 : Nat} {v : Win} {W W' : World} (h : UBox q Y Ak nk ck As ns cs At nt ct y0 y1 y2 q1 v W) (hb : Below W.heap.size W W') : UBox q Y Ak nk ck As ns cs At nt ct y0 y1 y2 q1 v W' := ⟨h.1.next hb, blk_next h.2.1 hb, h.2.2.next hb⟩
set_option maxHeartbeats 8000000 in
set_option maxRecDepth 100000 in
theorem undFindLaw (x0 x1 : Int) (A2 : Option Addr) (n2 c2 : Nat) (l2 : List W3) (A3 : Option Addr) (n3 c3 : Nat) (l3 : List (Int × Int)) (A4 : Option Addr) (c4 : Nat) (l4 : List W5) (x5 y0 y1 y2 : Int) (v : Win) (w : World) (h0 : 0 ≤ x0 ∧ x0 ≤ 255) (h1 : 0 ≤ x1 ∧ x1 ≤ 65535) (e2 : n2 = l2.length) (r2 : Rd w w.heap.size 3 A2 l2.length (l2.flatMap u16V3)) (o2 : ∀ a ∈ l2, u16ok3 a) (g2 : n2 ≤ maxLen) (e3 : n3 = l3.length) (r3 : Rd w w.heap.size 2 A3 l3.length (l3.flatMap u16V)) (o3 : ∀ a ∈ l3, u16ok a) (g3 : n3 ≤ maxLen) (r4 : W5Rd w w.heap.size A4 l4) (o4 : ∀ r ∈ l4, r.ok) (g4 : l4.length ≤ maxLen) (h8 : -128 ≤ x5 ∧ x5 ≤ 127) (h5 : 0 ≤ y0 ∧ y0 ≤ 255) (h6 : 0 ≤ y1 ∧ y1 ≤ 255) (h7 : 0 ≤ y2 ∧ y2 ≤ 255) :
    Calls Tryz.prog 9 #[.int .u8 x0, .int .u16 x1, .slice A2 n2 c2, .slice A3 n3 c3, .slice A4 l4.length c4, .int .i8 x5, .agg #[.int .u8 y0, .int .u8 y1, .int .u8 y2], winV v] w fun e w' => e = .returned (.bool true) ∧ Below w.heap.size w w' := by
  have HBT := Lib.hid (fun (W : World) (hW : Below w.heap.size w W) => built_calls x0 x1 A2 n2 c2 l2 A3 n3 c3 l3 W h0 h1 e2 (r2.next hW) o2 g2 e3 (r3.next hW) o3 g3)
  clear h0 h1 e2 r2 o2 g2 e3 r3 o3 g3
  have HR5 := Lib.hid (And.intro r4 o4)
  clear r4 o4
  obtain ⟨Y, hY⟩ : ∃ Y, Y = w.heap.size := ⟨_, rfl⟩
  obtain ⟨q1, hq1⟩ : ∃ Y, Y = w.heap.size + 1 := ⟨_, rfl⟩
  obtain ⟨wy, hwy⟩ : ∃ W, W = (w.alloc (.cells #[.int .u8 y0, .int .u8 y1, .int .u8 y2] 47)).alloc (.cells #[.int .i64 v.cut, .int .i64 v.days, .int .i64 v.con] 49) := ⟨_, rfl⟩
  have HYB : Hid (YBlk Y y0 y1 y2 wy) := by rw [hwy, hY]; exact blk_alloc (blk_new _ _)
  have HUB : Hid (WBox q1 v wy) := by
    have e1 := blk_new (w.alloc (.cells #[.int .u8 y0, .int .u8 y1, .int .u8 y2] 47)) (.cells #[.int .i64 v.cut, .int .i64 v.days, .int .i64 v.con] 49)
    rw [World.size_alloc, ← hq1, ← hwy] at e1
    exact e1
  have HBy : Hid (Below w.heap.size w wy) := by rw [hwy]; exact (bel_alloc _ _).alloc (by simp) _
  obtain ⟨sm, hsm⟩ : ∃ v : Win, v = win3 y0 y1 y2 := ⟨_, rfl⟩
  have HWN' := fun (W : World) => window_calls y0 y1 y2 W h5 h6 h7
  rw [← hsm] at HWN'
  have HWN := Lib.hid HWN'
  clear HWN' hsm h5 h6 h7 h8
  go_enter Tryz.func9, Tryz.ntmps9
  go_upto_region 1 with fail
  rw [← hwy, ← hq1, ← hY]
  have HYY := Lib.hid (And.intro hY hq1)
  clear hwy hY hq1
  go_wp2_with fail
  refine (HBT.out _ HBy.out).mono ?_
  rintro e w1 ⟨Ak, nk, ck, As, ns, cs, At, nt, ct, P, rfl, hp, hpb, hck, hn2, hn7, hns, hnt, _, _, hb⟩
  have HP := Lib.hid hp
  have HPB := Lib.hid hpb
  have HCK := Lib.hid hck
  have HNK := Lib.hid hp.nk
  have HNS := Lib.hid hp.ns
  have HNT := Lib.hid hp.nt
  clear hp hpb hck HBT
  have HB1 : Hid (Below w.heap.size w w1) := HBy.out.trans (hb.mono HBy.out.size)
  have HYB1 : Hid (YBlk Y y0 y1 y2 w1) := blk_next HYB.out hb
  have HUB1 := Lib.hid (HUB.out.next hb)
  clear hb HBy HYB HUB
  obtain ⟨q, hq⟩ : ∃ q, q = w1.heap.size := ⟨_, rfl⟩
  obtain ⟨w2, hw2⟩ : ∃ W, W = w1.alloc (.cells #[.slice Ak nk ck, .slice As ns cs, .slice At nt ct] 26) := ⟨_, rfl⟩
  have HXw2 : Hid (PBox q Ak nk ck As ns cs At nt ct w2) := by rw [hw2, hq]; exact blk_new _ _
  have HBw2 : Hid (Below w.heap.size w w2) := by rw [hw2]; exact HB1.out.alloc HB1.out.size _
  have HPw2 : Hid (PRd Ak nk As ns At nt P w2) := by rw [hw2]; exact HP.out.next (bel_alloc _ _)
  have HW := Lib.hid (And.intro hw2 hq)
  have hx_ := HXw2.out
  rw [hw2, hq] at hx_
  obtain ⟨k0, k1, k2⟩ := hx_.cells
  clear hw2 hq hx_
  have HF2 : Hid (UBox q Y Ak nk ck As ns cs At nt ct y0 y1 y2 q1 v w2) := ⟨HXw2.out, by rw [HW.out.1]; exact blk_alloc HYB1.out, by rw [HW.out.1]; exact blk_alloc HUB1.out⟩
  clear HYB1 HUB1
  go_wp2_with fail
  rw [← HW.out.1, ← HW.out.2]
  clear k0 k1 k2 HW
  refine (rows_calls A4 c4 l4 (nk : Int) 24 _ (by omega) (by omega) (by omega) (by omega) (by simp only [maxLen] at g4; omega) (HR5.out.1.next HBw2.out) HR5.out.2).mono ?_
  rintro e w3 ⟨Ar, cr, rows, rfl, rr, hlen, hg, hb⟩
  have HRR := Lib.hid rr
  have HRO : Hid (∀ r ∈ rows, i64b r.amount ∧ i64b r.worth) := fun r hr => by obtain ⟨a1, a2, a3, a4, a5, a6, a7, a8, a9, a10, a11, a12, a13, a14⟩ := hg.good r hr; exact ⟨⟨by omega, by omega⟩, by omega, by omega⟩
  have hl24 : rows.length ≤ maxLen := by simp only [maxLen]; omega
  have HL24 := Lib.hid hl24
  have HF3 := Lib.hid (HF2.out.next hb)
  have HPw3 := Lib.hid (HPw2.out.next hb)
  have HB3 : Hid (Below w.heap.size w w3) := HBw2.out.trans (hb.mono HBw2.out.size)
  clear hb rr hg hlen hl24 HXw2 HPw2 HBw2 HF2 HR5
  obtain ⟨d, hd⟩ : ∃ d, d = IntKind.i64.wrap (x5.tmod 9) := ⟨_, rfl⟩
  obtain ⟨L, hL⟩ : ∃ L, L = undList P rows d sm := ⟨_, rfl⟩
  obtain ⟨E, hE⟩ : ∃ E, E = findErr P rows d sm := ⟨_, rfl⟩
  obtain ⟨nl, hnl⟩ : ∃ n, n = L.length := ⟨_, rfl⟩
  have hnm : nl ≤ 7 := by have := undList_len P rows d sm; rw [← hL, ← hnl, ← HNK.out] at this; omega
  have HC0' := fun (W : World) (hW : Below w3.heap.size w3 W) => uFind_calls Ak nk ck As ns cs At nt ct P 1 Ar cr rows d sm W (HPw3.out.next hW) HPB.out (HRR.out.next hW) HRO.out HL24.out
  rw [← hL, ← hE] at HC0'
  have HC0 := Lib.hid HC0'
  have HC1' := fun (W : World) (hW : Below w3.heap.size w3 W) => rUnd_calls Ak nk ck As ns cs At nt ct P 1 Ar cr rows d sm W (HPw3.out.next hW) HPB.out (HRR.out.next hW) HRO.out HL24.out
  rw [← hL, ← hE] at HC1'
  have HC1 := Lib.hid HC1'
  have HNL := Lib.hid hnl
  have HNM : Hid (nl ≤ maxLen) := by show _ ≤ _; simp only [maxLen]; omega
  clear HC0' HC1' hL hE hnl hnm
  obtain ⟨Lz, hL⟩ : ∃ L, L = undList P rows 0 v := ⟨_, rfl⟩
  obtain ⟨Ez, hE⟩ : ∃ E, E = findErr P rows 0 v := ⟨_, rfl⟩
  obtain ⟨nlz, hnl⟩ : ∃ n, n = Lz.length := ⟨_, rfl⟩
  have hnm : nlz ≤ 7 := by have := undList_len P rows 0 v; rw [← hL, ← hnl, ← HNK.out] at this; omega
  have HCz0' := fun (W : World) (hW : Below w3.heap.size w3 W) => uFind_calls Ak nk ck As ns cs At nt ct P 1 Ar cr rows 0 v W (HPw3.out.next hW) HPB.out (HRR.out.next hW) HRO.out HL24.out
  rw [← hL, ← hE] at HCz0'
  have HCz0 := Lib.hid HCz0'
  have HCz1' := fun (W : World) (hW : Below w3.heap.size w3 W) => rUnd_calls Ak nk ck As ns cs At nt ct P 1 Ar cr rows 0 v W (HPw3.out.next hW) HPB.out (HRR.out.next hW) HRO.out HL24.out
  rw [← hL, ← hE] at HCz1'
  have HCz1 := Lib.hid HCz1'
  have HNLz := Lib.hid hnl
  have HNMz : Hid (nlz ≤ maxLen) := by show _ ≤ _; simp only [maxLen]; omega
  clear HCz0' HCz1' hL hE hnl hnm
  have HD := Lib.hid hd
  have HZ3 : Hid (Below w3.heap.size w3 w3) := Below.refl _ _
  clear hd HPw3 HPB HCK HRR HRO
  go_wp2_with fail
  obtain ⟨Wd, hWd⟩ : ∃ W, W = w3.drew := ⟨_, rfl⟩
  have hbd : Below w3.heap.size w3 Wd := by rw [hWd]; exact (Below.refl _ _).drew
  have hSa : (UBox q Y Ak nk ck As ns cs At nt ct y0 y1 y2 q1 v) Wd := HF3.out.next hbd
  have HZd : Hid (Below w3.heap.size w3 Wd) := HZ3.out.trans (hbd.mono HZ3.out.size)
  refine wp_region_held_drew (S := (UBox q Y Ak nk ck As ns cs At nt ct y0 y1 y2 q1 v)) (by kernel_rfl) (by rw [← hWd]; exact hSa) ?_
  rw [← hWd]
  intro _
  clear hWd hbd HF3 HZ3
  refine wpAnyH_take (i := 0) (v := ptyVal Ak nk ck As ns cs At nt ct) rfl (by kernel_rfl) (by kernel_rfl) (by kernel_rfl) (fun _ _ _ h => h) (Or.inl ⟨by kernel_rfl, (by intro w' hw'; obtain ⟨c0, c1, c2⟩ := hw'.1.cells; go_simp)⟩) hSa ?_
  go_simp
  refine wpAnyH_take (i := 1) rfl (by kernel_rfl) (by kernel_rfl) (by kernel_rfl) (fun _ _ _ h => h) (Or.inl ⟨by kernel_rfl, (by intro w' _; go_simp; with_reducible rfl)⟩) hSa ?_
  go_simp
  refine wpAnyH_take (i := 2) rfl (by kernel_rfl) (by kernel_rfl) (by kernel_rfl) (fun _ _ _ h => h) (Or.inl ⟨by kernel_rfl, (by intro w' _; go_simp; with_reducible rfl)⟩) hSa ?_
  go_simp
  refine wpAnyH_take (i := 3) (v := .int .i8 (x5.tmod 9)) rfl (by kernel_rfl) (by kernel_rfl) (by kernel_rfl) (fun _ _ _ h => h) (Or.inl ⟨by kernel_rfl, (by intro w' _; go_simp)⟩) hSa ?_
  go_simp
  refine wpAnyH_take (i := 4) (v := .int .i64 d) rfl (by kernel_rfl) (by kernel_rfl) (by kernel_rfl) (fun _ _ _ h => h) (Or.inl ⟨by kernel_rfl, (by intro w' hw'; have hd_ : IntKind.i64.wrap (x5.tmod 9) = d := HD.out.symm; go_simp)⟩) hSa ?_
  go_simp
  refine wpAnyH_take (i := 5) (v := .agg #[.int .u8 y0, .int .u8 y1, .int .u8 y2]) rfl (by kernel_rfl) (by kernel_rfl) (by kernel_rfl) (fun _ _ _ h => h) (Or.inl ⟨by kernel_rfl, (by intro w' hw'; obtain ⟨c0, c1, c2⟩ := hw'.2.1.cells; go_simp)⟩) hSa ?_
  go_simp
  refine wpAnyH_ready (rs := [6]) (by kernel_rfl) (by simp) ?_
  refine AllReadyH.cons rfl (fun K hK => ?_) AllReadyH.nil
  go_simp
  refine (HWN.out _).mono ?_
  rintro e We ⟨rfl, hb⟩
  have hSb := hSa.next hb
  have HZe : Hid (Below w3.heap.size w3 We) := HZd.out.trans (hb.mono HZd.out.size)
  clear hb hSa HZd
  refine hK.out _ _ hSb (fun _ => ?_)
  clear hK K
  refine wpAnyH_ready (rs := [7]) (by kernel_rfl) (by simp) ?_
  refine AllReadyH.cons rfl (fun K hK => ?_) AllReadyH.nil
  go_simp
  refine (HC0.out _ HZe.out).mono ?_
  rintro e w4 ⟨A0, c0, rfl, hr, hb⟩
  rw [← HNL.out]
  have hSc := hSb.next hb
  have HF4 := Lib.hid hSc
  have HZ4 : Hid (Below w3.heap.size w3 w4) := HZe.out.trans (hb.mono HZe.out.size)
  have HR0 := Lib.hid hr
  clear hb hr hSb HZe HC0
  refine hK.out _ _ hSc (fun _ => ?_)
  clear hK K
  refine wpAnyH_take (i := 8) rfl (by kernel_rfl) (by kernel_rfl) (by kernel_rfl) (fun _ _ _ h => h) (Or.inl ⟨by kernel_rfl, (by intro w' _; go_simp; with_reducible rfl)⟩) hSc ?_
  go_simp
  refine wpAnyH_take (i := 9) rfl (by kernel_rfl) (by kernel_rfl) (by kernel_rfl) (fun _ _ _ h => h) (Or.inl ⟨by kernel_rfl, (by intro w' _; go_simp; with_reducible rfl)⟩) hSc ?_
  go_simp
  refine wpAnyH_take (i := 10) rfl (by kernel_rfl) (by kernel_rfl) (by kernel_rfl) (fun _ _ _ h => h) (Or.inl ⟨by kernel_rfl, (by intro w' _; go_simp; with_reducible rfl)⟩) hSc ?_
  go_simp
  refine wpAnyH_take (i := 11) rfl (by kernel_rfl) (by kernel_rfl) (by kernel_rfl) (fun _ _ _ h => h) (Or.inl ⟨by kernel_rfl, (by intro w' _; go_simp; with_reducible rfl)⟩) hSc ?_
  go_simp
  refine wpAnyH_take (i := 12) rfl (by kernel_rfl) (by kernel_rfl) (by kernel_rfl) (fun _ _ _ h => h) (Or.inl ⟨by kernel_rfl, (by intro w' _; go_simp; with_reducible rfl)⟩) hSc ?_
  go_simp
  refine wpAnyH_done (by kernel_rfl) ?_ _
  clear hSc
  go_wp2_with fail
  obtain ⟨Wd, hWd⟩ : ∃ W, W = w4.drew := ⟨_, rfl⟩
  have hbd : Below w4.heap.size w4 Wd := by rw [hWd]; exact (Below.refl _ _).drew
  have hSa : (UBox q Y Ak nk ck As ns cs At nt ct y0 y1 y2 q1 v) Wd := HF4.out.next hbd
  have HZd : Hid (Below w3.heap.size w3 Wd) := HZ4.out.trans (hbd.mono HZ4.out.size)
  have HR0 := Lib.hid (HR0.out.next hbd)
  refine wp_region_held_drew (S := (UBox q Y Ak nk ck As ns cs At nt ct y0 y1 y2 q1 v)) (by kernel_rfl) (by rw [← hWd]; exact hSa) ?_
  rw [← hWd]
  intro _
  clear hWd hbd HF4 HZ4
  refine wpAnyH_take (i := 0) (v := ptyVal Ak nk ck As ns cs At nt ct) rfl (by kernel_rfl) (by kernel_rfl) (by kernel_rfl) (fun _ _ _ h => h) (Or.inl ⟨by kernel_rfl, (by intro w' hw'; obtain ⟨c0, c1, c2⟩ := hw'.1.cells; go_simp)⟩) hSa ?_
  go_simp
  refine wpAnyH_take (i := 1) rfl (by kernel_rfl) (by kernel_rfl) (by kernel_rfl) (fun _ _ _ h => h) (Or.inl ⟨by kernel_rfl, (by intro w' _; go_simp; with_reducible rfl)⟩) hSa ?_
  go_simp
  refine wpAnyH_take (i := 2) rfl (by kernel_rfl) (by kernel_rfl) (by kernel_rfl) (fun _ _ _ h => h) (Or.inl ⟨by kernel_rfl, (by intro w' _; go_simp; with_reducible rfl)⟩) hSa ?_
  go_simp
  refine wpAnyH_take (i := 3) (v := .int .i8 (x5.tmod 9)) rfl (by kernel_rfl) (by kernel_rfl) (by kernel_rfl) (fun _ _ _ h => h) (Or.inl ⟨by kernel_rfl, (by intro w' _; go_simp)⟩) hSa ?_
  go_simp
  refine wpAnyH_take (i := 4) (v := .int .i64 d) rfl (by kernel_rfl) (by kernel_rfl) (by kernel_rfl) (fun _ _ _ h => h) (Or.inl ⟨by kernel_rfl, (by intro w' hw'; have hd_ : IntKind.i64.wrap (x5.tmod 9) = d := HD.out.symm; go_simp)⟩) hSa ?_
  go_simp
  refine wpAnyH_take (i := 5) (v := .agg #[.int .u8 y0, .int .u8 y1, .int .u8 y2]) rfl (by kernel_rfl) (by kernel_rfl) (by kernel_rfl) (fun _ _ _ h => h) (Or.inl ⟨by kernel_rfl, (by intro w' hw'; obtain ⟨c0, c1, c2⟩ := hw'.2.1.cells; go_simp)⟩) hSa ?_
  go_simp
  refine wpAnyH_ready (rs := [6]) (by kernel_rfl) (by simp) ?_
  refine AllReadyH.cons rfl (fun K hK => ?_) AllReadyH.nil
  go_simp
  refine (HWN.out _).mono ?_
  rintro e We ⟨rfl, hb⟩
  have hSb := hSa.next hb
  have HZe : Hid (Below w3.heap.size w3 We) := HZd.out.trans (hb.mono HZd.out.size)
  have HR0 := Lib.hid (HR0.out.next hb)
  clear hb hSa HZd
  refine hK.out _ _ hSb (fun _ => ?_)
  clear hK K
  refine wpAnyH_ready (rs := [7]) (by kernel_rfl) (by simp) ?_
  refine AllReadyH.cons rfl (fun K hK => ?_) AllReadyH.nil
  go_simp
  refine (HC1.out _ HZe.out).mono ?_
  rintro e w5 ⟨A1, c1, rfl, hr, hb⟩
  rw [← HNL.out]
  have hSc := hSb.next hb
  have HF5 := Lib.hid hSc
  have HZ5 : Hid (Below w3.heap.size w3 w5) := HZe.out.trans (hb.mono HZe.out.size)
  have HR0 := Lib.hid (HR0.out.next hb)
  have HR1 := Lib.hid hr
  clear hb hr hSb HZe HC1
  refine hK.out _ _ hSc (fun _ => ?_)
  clear hK K
  refine wpAnyH_take (i := 8) rfl (by kernel_rfl) (by kernel_rfl) (by kernel_rfl) (fun _ _ _ h => h) (Or.inl ⟨by kernel_rfl, (by intro w' _; go_simp; with_reducible rfl)⟩) hSc ?_
  go_simp
  refine wpAnyH_take (i := 9) rfl (by kernel_rfl) (by kernel_rfl) (by kernel_rfl) (fun _ _ _ h => h) (Or.inl ⟨by kernel_rfl, (by intro w' _; go_simp; with_reducible rfl)⟩) hSc ?_
  go_simp
  refine wpAnyH_take (i := 10) rfl (by kernel_rfl) (by kernel_rfl) (by kernel_rfl) (fun _ _ _ h => h) (Or.inl ⟨by kernel_rfl, (by intro w' _; go_simp; with_reducible rfl)⟩) hSc ?_
  go_simp
  refine wpAnyH_take (i := 11) rfl (by kernel_rfl) (by kernel_rfl) (by kernel_rfl) (fun _ _ _ h => h) (Or.inl ⟨by kernel_rfl, (by intro w' _; go_simp; with_reducible rfl)⟩) hSc ?_
  go_simp
  refine wpAnyH_take (i := 12) rfl (by kernel_rfl) (by kernel_rfl) (by kernel_rfl) (fun _ _ _ h => h) (Or.inl ⟨by kernel_rfl, (by intro w' _; go_simp; with_reducible rfl)⟩) hSc ?_
  go_simp
  refine wpAnyH_done (by kernel_rfl) ?_ _
  clear hSc
  obtain ⟨k0, k1, k2⟩ := HF5.out.1.cells
  obtain ⟨v0, v1, v2⟩ := HF5.out.2.2.cells
  go_wp2_with fail
  clear k0 k1 k2 v0 v1 v2
  refine (HCz0.out _ HZ5.out).mono ?_
  rintro e w6 ⟨Az0, cz0, rfl, hr, hb⟩
  rw [← HNLz.out]
  have HF6 := Lib.hid (HF5.out.next hb)
  have HZ6 : Hid (Below w3.heap.size w3 w6) := HZ5.out.trans (hb.mono HZ5.out.size)
  have HR0 := Lib.hid (HR0.out.next hb)
  have HR1 := Lib.hid (HR1.out.next hb)
  clear hb hr HF5 HZ5 HCz0
  obtain ⟨k0, k1, k2⟩ := HF6.out.1.cells
  obtain ⟨v0, v1, v2⟩ := HF6.out.2.2.cells
  go_wp2_with fail
  clear k0 k1 k2 v0 v1 v2
  refine (HCz1.out _ HZ6.out).mono ?_
  rintro e w7 ⟨Az1, cz1, rfl, hr, hb⟩
  rw [← HNLz.out]
  have HF7 := Lib.hid (HF6.out.next hb)
  have HZ7 : Hid (Below w3.heap.size w3 w7) := HZ6.out.trans (hb.mono HZ6.out.size)
  have HR0 := Lib.hid (HR0.out.next hb)
  have HR1 := Lib.hid (HR1.out.next hb)
  clear hb hr HF6 HZ6 HCz1
  have HB7 : Hid (Below w.heap.size w w7) := HB3.out.trans (HZ7.out.mono HB3.out.size)
  go_wp2_with fail
  refine (awake27_calls _).mono ?_
  rintro e w8 ⟨rfl, hb⟩
  have HB8 : Hid (Below w.heap.size w w8) := HB7.out.trans (hb.mono HB7.out.size)
  have HR1 := Lib.hid (HR1.out.next hb)
  have HR0 := Lib.hid (HR0.out.next hb)
  clear hb HB7
  have hee := beq_self_eq_true E
  have hez := beq_self_eq_true Ez
  go_wp2_with fail
  refine (sameDem_calls A0 A1 nl c0 c1 L _ HNL.out HR0.out HR1.out HNM.out).mono ?_
  rintro e wz ⟨rfl, hb⟩
  have HBz : Hid (Below w.heap.size w wz) := HB8.out.trans (hb.mono HB8.out.size)
  clear hb
  go_wp2_with fail
  go_ret
  exact ⟨rfl, HBz.out⟩

end Go.Proofs.YtomfcmlomfcghaaGreatDoor

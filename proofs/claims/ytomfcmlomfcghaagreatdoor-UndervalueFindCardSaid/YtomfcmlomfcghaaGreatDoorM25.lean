/- Merged of Few26 RPer. -/
import Derived.Test.YtomfcmlomfcghaaGreatDoorM30
import Derived.Test.YtomfcmlomfcghaaGreatDoorM22
import Derived.Test.YtomfcmlomfcghaaGreatDoorM24
/- insolvencylaw26.few. -/
set_option linter.unusedVariables false
set_option linter.unusedSimpArgs false
namespace Go.Proofs.YtomfcmlomfcghaaGreatDoor
open Go.RowKit

end Go.Proofs.YtomfcmlomfcghaaGreatDoor

/- insolvencyref25.day, window, Period. -/
set_option linter.unusedVariables false
set_option linter.unusedSimpArgs false
namespace Go.Proofs.YtomfcmlomfcghaaGreatDoor
open Go.RowKit

set_option maxHeartbeats 1000000 in
theorem rDay_calls (n : Int) (w : World) (r : Bool) (hr : r = dayB n) : Calls Tryz.prog 75 #[.int .i64 n] w fun e w' => e = .returned (.bool r) ∧ w' = w := by
 by_cases h0 : 0 ≤ n
 ·
  have d0 : decide (0 ≤ n) = true := decide_eq_true h0
  by_cases h1 : n ≤ 1048576
  ·
   have d1 : decide (n ≤ 1048576) = true := decide_eq_true h1
   obtain rfl : r = true := by rw [hr, dayB, d0, d1]; rfl
   clear hr
   go_enter Tryz.func75, Tryz.ntmps75
   go_wp2_with fail
   go_ret
   exact ⟨rfl, rfl⟩
  ·
   have d1 : decide (n ≤ 1048576) = false := decide_eq_false h1
   obtain rfl : r = false := by rw [hr, dayB, d0, d1]; rfl
   clear hr
   go_enter Tryz.func75, Tryz.ntmps75
   go_wp2_with fail
   go_ret
   exact ⟨rfl, rfl⟩
 ·
  have d0 : decide (0 ≤ n) = false := decide_eq_false h0
  obtain rfl : r = false := by rw [hr, dayB, d0]; rfl
  clear hr
  go_enter Tryz.func75, Tryz.ntmps75
  go_wp2_with fail
  go_ret
  exact ⟨rfl, rfl⟩

set_option maxHeartbeats 2000000 in
set_option maxRecDepth 100000 in
theorem rWindow_calls (v : Win) (w : World) (E : Int) (hE : E = winErr v) :
 Calls Tryz.prog 53 #[winV v] w fun e w' => e = .returned (.int .i64 E) ∧ Below w.heap.size w w' := by
 have HE := Lib.hid hE
 clear hE
 obtain ⟨q2, hq2⟩ : ∃ q, q = w.heap.size := ⟨_, rfl⟩
 obtain ⟨w0, hw0⟩ : ∃ W, W = w.alloc (.cells #[.int .i64 v.cut, .int .i64 v.days, .int .i64 v.con] 49) := ⟨_, rfl⟩
 have HB0 : Hid (Below w.heap.size w w0) := by rw [hw0]; exact bel_alloc _ _
 have HV0 : Hid (WBox q2 v w0) := by rw [hw0, hq2]; exact blk_new _ _
 obtain ⟨r0, hr0⟩ : ∃ r, r = dayB v.cut := ⟨_, rfl⟩
 obtain ⟨r1, hr1⟩ : ∃ r, r = dayB v.days := ⟨_, rfl⟩
 obtain ⟨r2, hr2⟩ : ∃ r, r = dayB v.con := ⟨_, rfl⟩
 have D0 := Lib.hid (fun W => rDay_calls v.cut W r0 hr0)
 have D1 := Lib.hid (fun W => rDay_calls v.days W r1 hr1)
 have D2 := Lib.hid (fun W => rDay_calls v.con W r2 hr2)
 have HEE : Hid (E = if (r0 && (r1 && r2)) = true then 0 else 1) := by show _ = _; rw [HE.out, winErr, winB, ← hr0, ← hr1, ← hr2]
 clear hr0 hr1 hr2
 go_enter Tryz.func53, Tryz.ntmps53
 go_upto_region 1 with fail
 rw [← hw0, ← hq2]
 have HQ := Lib.hid hq2
 clear hw0 hq2
 obtain ⟨v0, v1, v2⟩ := HV0.out.cells
 go_wp2_with fail
 refine (D0.out _).mono ?_
 rintro e w5 ⟨rfl, rfl⟩
 cases r0
 ·
  obtain rfl : E = 1 := by rw [HEE.out]; simp
  go_wp2_with fail
  go_ret
  exact ⟨rfl, HB0.out⟩
 ·
  go_wp2_with fail
  refine (D1.out _).mono ?_
  rintro e w6 ⟨rfl, rfl⟩
  cases r1
  ·
   obtain rfl : E = 1 := by rw [HEE.out]; simp
   go_wp2_with fail
   go_ret
   exact ⟨rfl, HB0.out⟩
  ·
   go_wp2_with fail
   refine (D2.out _).mono ?_
   rintro e w7 ⟨rfl, rfl⟩
   cases r2
   ·
    obtain rfl : E = 1 := by rw [HEE.out]; simp
    go_wp2_with fail
    go_ret
    exact ⟨rfl, HB0.out⟩
   ·
    obtain rfl : E = 0 := by rw [HEE.out]; rfl
    go_wp2_with fail
    go_ret
    exact ⟨rfl, HB0.out⟩

set_option maxHeartbeats 4000000 in
set_option maxRecDepth 100000 in
theorem rPeriod_calls (Ak : Option Addr) (nk ck : Nat) (As : Option Addr) (ns cs : Nat) (At : Option Addr) (nt ct : Nat) (P : Prt) (m : Nat) (deb cre : Int) (v : Win) (w : World) (hp : PRd Ak nk As ns At nt P w) (hb : PB m P) :
 Calls Tryz.prog 27 #[ptyVal Ak nk ck As ns cs At nt ct, .int .i64 deb, .int .i64 cre, winV v] w fun e w' => e = .returned (.tuple #[.int .i64 (perF P deb cre v), .int .i64 (perT P deb cre v), .int .i64 (perErr P deb cre v)]) ∧ Below w.heap.size w w' := by
 have HP := Lib.hid hp
 have HPB := Lib.hid hb
 have HNK := Lib.hid hp.nk
 have gk : nk ≤ maxLen := by rw [hp.nk]; exact hb.kl
 unfold maxLen at gk
 clear hp hb
 obtain ⟨E, hE⟩ : ∃ E, E = chk P := ⟨_, rfl⟩
 have HCK' := fun (W : World) (hW : Below w.heap.size w W) => rchk_calls Ak nk ck As ns cs At nt ct P m W (HP.out.next hW) HPB.out
 rw [← hE] at HCK'
 have HE := Lib.hid hE
 have HCK := Lib.hid HCK'
 clear hE HCK'
 obtain ⟨T, hT⟩ : ∃ E, E = twoErr P deb cre := ⟨_, rfl⟩
 obtain ⟨near, hnear⟩ : ∃ b, b = conB P deb cre := ⟨_, rfl⟩
 have HCN' := fun (W : World) (hW : Below w.heap.size w W) => rConnected_calls Ak nk ck As ns cs At nt ct P m deb cre W (HP.out.next hW) HPB.out
 rw [← hT, ← hnear] at HCN'
 have HT := Lib.hid hT
 have HNR := Lib.hid hnear
 have HCN := Lib.hid HCN'
 clear hT hnear HCN'
 obtain ⟨G, hG⟩ : ∃ G, G = winErr v := ⟨_, rfl⟩
 have HWN := Lib.hid (fun (W : World) => rWindow_calls v W G hG)
 have HG := Lib.hid hG
 clear hG
 have HPG : Hid (perErr P deb cre v = if E ≠ 0 then E else if T ≠ 0 then 14 else G) := by
  show _ = _
  rw [HE.out, HT.out, HG.out]
  unfold perErr twoErr
  by_cases h : chk P = 0
  ·
   rcases f1 : inN P.kinds.length cre with _ | _ <;> rcases f2 : inN P.kinds.length deb with _ | _ <;> simp [h]
  ·
   simp [h]
 obtain ⟨q, hq⟩ : ∃ q, q = w.heap.size := ⟨_, rfl⟩
 obtain ⟨q2, hq2⟩ : ∃ q, q = w.heap.size + 1 := ⟨_, rfl⟩
 obtain ⟨w0, hw0⟩ : ∃ W, W = (w.alloc (.cells #[.slice Ak nk ck, .slice As ns cs, .slice At nt ct] 26)).alloc (.cells #[.int .i64 v.cut, .int .i64 v.days, .int .i64 v.con] 49) := ⟨_, rfl⟩
 have HB0 : Hid (Below w.heap.size w w0) := by rw [hw0]; exact (bel_alloc _ _).alloc (by simp) _
 have HX0 : Hid (PBox q Ak nk ck As ns cs At nt ct w0) := by rw [hw0, hq]; exact (show PBox w.heap.size Ak nk ck As ns cs At nt ct (w.alloc (.cells #[.slice Ak nk ck, .slice As ns cs, .slice At nt ct] 26)) from blk_new _ _).next (bel_alloc _ _)
 have HV0 : Hid (WBox q2 v w0) := by
  have := blk_new (w.alloc (.cells #[.slice Ak nk ck, .slice As ns cs, .slice At nt ct] 26)) (.cells #[.int .i64 v.cut, .int .i64 v.days, .int .i64 v.con] 49)
  rw [World.size_alloc, ← hq2, ← hw0] at this
  exact this
 by_cases h0 : E = 0
 ·
  by_cases h1 : T = 0
  ·
   by_cases h2 : G = 0
   ·
    subst h0
    subst h1
    subst h2
    have hpt := twoErr_parts HT.out.symm
    have hdb := inN_true hpt.2.1
    have hcb := inN_true hpt.2.2
    rw [← HNK.out] at hdb hcb
    have hwb : winB v = true := by have := HG.out; unfold winErr at this; split at this; assumption; omega
    have hw3 := winB_parts hwb
    obtain ⟨dn, hdn⟩ : ∃ i : Nat, deb = (i : Int) := ⟨deb.toNat, by omega⟩
    obtain ⟨cn, hcn⟩ : ∃ i : Nat, cre = (i : Int) := ⟨cre.toNat, by omega⟩
    subst hdn
    subst hcn
    have HNC : Hid (near = con P dn cn) := HNR.out.trans (conB_of HE.out.symm (by rw [← HNK.out]; omega) (by rw [← HNK.out]; omega))
    have HPZ : Hid (perErr P (dn : Int) (cn : Int) v = 0) := by show _ = _; rw [HPG.out]; rfl
    clear hpt hdb hcb hwb HPG
    obtain ⟨vc, vd, vn⟩ := v
    dsimp only at hw3
    obtain ⟨⟨a1, a2⟩, ⟨a3, a4⟩, a5, a6⟩ := hw3
    have HPF : Hid (perF P (dn : Int) (cn : Int) ⟨vc, vd, vn⟩ = perFrom P dn cn ⟨vc, vd, vn⟩) := by show _ = _; unfold perF; rw [HPZ.out, if_pos rfl, Int.toNat_natCast, Int.toNat_natCast]
    have HPT : Hid (perT P (dn : Int) (cn : Int) ⟨vc, vd, vn⟩ = vc) := by show _ = _; unfold perT; rw [HPZ.out, if_pos rfl]
    cases near
    ·
     have HPR : Hid (perFrom P dn cn ⟨vc, vd, vn⟩ = if vc - vd < 0 then 0 else vc - vd) := by show _ = _; unfold perFrom; dsimp only; rw [← HNC.out]; simp
     go_enter Tryz.func27, Tryz.ntmps27
     go_upto_region 1 with fail
     rw [← hw0, ← hq2, ← hq]
     have HQ := Lib.hid (And.intro hq hq2)
     clear hw0 hq hq2
     obtain ⟨k0, k1, k2⟩ := HX0.out.cells
     obtain ⟨v0, v1, v2⟩ := HV0.out.cells
     go_wp2_with fail
     clear k0 k1 k2 v0 v1 v2
     refine (HCK.out _ HB0.out).mono ?_
     rintro e w1 ⟨rfl, hb⟩
     have HXw1 := Lib.hid (HX0.out.next hb)
     have HVw1 := Lib.hid (HV0.out.next hb)
     have HBw1 : Hid (Below w.heap.size w w1) := HB0.out.trans (hb.mono HB0.out.size)
     clear hb HX0 HB0 HV0
     obtain ⟨k0, k1, k2⟩ := HXw1.out.cells
     obtain ⟨v0, v1, v2⟩ := HVw1.out.cells
     go_wp2_with fail
     clear k0 k1 k2 v0 v1 v2
     refine (HCN.out _ HBw1.out).mono ?_
     rintro e w2 ⟨rfl, hb⟩
     have HXw2 := Lib.hid (HXw1.out.next hb)
     have HVw2 := Lib.hid (HVw1.out.next hb)
     have HBw2 : Hid (Below w.heap.size w w2) := HBw1.out.trans (hb.mono HBw1.out.size)
     clear hb HXw1 HBw1 HVw1
     obtain ⟨k0, k1, k2⟩ := HXw2.out.cells
     obtain ⟨v0, v1, v2⟩ := HVw2.out.cells
     go_wp2_with fail
     clear k0 k1 k2 v0 v1 v2
     refine (HWN.out _).mono ?_
     rintro e w3 ⟨rfl, hb⟩
     have HXw3 := Lib.hid (HXw2.out.next hb)
     have HVw3 := Lib.hid (HVw2.out.next hb)
     have HBw3 : Hid (Below w.heap.size w w3) := HBw2.out.trans (hb.mono HBw2.out.size)
     clear hb HXw2 HBw2 HVw2
     obtain ⟨k0, k1, k2⟩ := HXw3.out.cells
     obtain ⟨v0, v1, v2⟩ := HVw3.out.cells
     dsimp only at v0 v1 v2
     by_cases hlt : vc - vd < 0
     ·
      have hw64 : IntKind.i64.wrap (vc - vd) = vc - vd := IntWalk.i64_in _ (by omega)
      have HLT := Lib.hid hlt
      have HW64 := Lib.hid hw64
      clear hw64
      go_wp2_with fail
      clear k0 k1 k2 v0 v1 v2
      obtain ⟨W1, hW1⟩ : ∃ W, W = w3.drew := ⟨_, rfl⟩
      have hS : (WBox q2 ⟨vc, vd, vn⟩) W1 := by rw [hW1]; exact HVw3.out
      have HB9 : Hid (Below w.heap.size w W1) := by rw [hW1]; exact HBw3.out.drew
      refine wp_region_held_drew (S := (WBox q2 ⟨vc, vd, vn⟩)) (by kernel_rfl) (by rw [← hW1]; exact hS) ?_
      rw [← hW1]
      intro _
      clear hW1 HXw3 HVw3 HBw3
      refine wpAnyH_take (i := 0) rfl (by kernel_rfl) (by kernel_rfl) (by kernel_rfl) (fun _ _ _ h => h) (Or.inl ⟨by kernel_rfl, (by intro w' _; go_simp; with_reducible rfl)⟩) hS ?_
      go_simp
      refine wpAnyH_take (i := 1) (v := .int .i64 vc) rfl (by kernel_rfl) (by kernel_rfl) (by kernel_rfl) (fun _ _ _ h => h) (Or.inl ⟨by kernel_rfl, (by intro w' hw'; obtain ⟨c0, c1, c2⟩ := hw'.cells; dsimp only at c0 c1 c2; go_simp)⟩) hS ?_
      go_simp
      refine wpAnyH_take (i := 2) rfl (by kernel_rfl) (by kernel_rfl) (by kernel_rfl) (fun _ _ _ h => h) (Or.inl ⟨by kernel_rfl, (by intro w' _; go_simp; with_reducible rfl)⟩) hS ?_
      go_simp
      refine wpAnyH_take (i := 3) (v := .int .i64 (vc - vd)) rfl (by kernel_rfl) (by kernel_rfl) (by kernel_rfl) (fun _ _ _ h => h) (Or.inl ⟨by kernel_rfl, (by intro w' hw'; have wr_ := HW64.out; go_simp)⟩) hS ?_
      go_simp
      refine wpAnyH_take (i := 4) (v := .int .i64 0) rfl (by kernel_rfl) (by kernel_rfl) (by kernel_rfl) (fun _ _ _ h => h) (Or.inl ⟨by kernel_rfl, (by intro w' hw'; have mx_ : max (vc - vd) 0 = 0 := (by have := HLT.out; omega); go_simp)⟩) hS ?_
      go_simp
      refine wpAnyH_take (i := 5) rfl (by kernel_rfl) (by kernel_rfl) (by kernel_rfl) (fun _ _ _ h => h) (Or.inl ⟨by kernel_rfl, (by intro w' _; go_simp; with_reducible rfl)⟩) hS ?_
      go_simp
      refine wpAnyH_take (i := 6) (v := .int .i64 vc) rfl (by kernel_rfl) (by kernel_rfl) (by kernel_rfl) (fun _ _ _ h => h) (Or.inl ⟨by kernel_rfl, (by intro w' hw'; obtain ⟨c0, c1, c2⟩ := hw'.cells; dsimp only at c0 c1 c2; go_simp)⟩) hS ?_
      go_simp
      refine wpAnyH_take (i := 7) rfl (by kernel_rfl) (by kernel_rfl) (by kernel_rfl) (fun _ _ _ h => h) (Or.inl ⟨by kernel_rfl, (by intro w' _; go_simp; with_reducible rfl)⟩) hS ?_
      go_simp
      refine wpAnyH_take (i := 8) rfl (by kernel_rfl) (by kernel_rfl) (by kernel_rfl) (fun _ _ _ h => h) (Or.inl ⟨by kernel_rfl, (by intro w' _; go_simp; with_reducible rfl)⟩) hS ?_
      go_simp
      refine wpAnyH_take (i := 9) rfl (by kernel_rfl) (by kernel_rfl) (by kernel_rfl) (fun _ _ _ h => h) (Or.inl ⟨by kernel_rfl, (by intro w' _; go_simp; with_reducible rfl)⟩) hS ?_
      go_simp
      refine wpAnyH_done (by kernel_rfl) ?_ _
      go_wp2_with fail
      go_ret3
      rw [HPF.out, HPT.out, HPZ.out, HPR.out, if_pos (by have := HLT.out; omega)]
      exact ⟨rfl, HB9.out⟩
     ·
      have hw64 : IntKind.i64.wrap (vc - vd) = vc - vd := IntWalk.i64_in _ (by omega)
      have HLT := Lib.hid hlt
      have HW64 := Lib.hid hw64
      clear hw64
      go_wp2_with fail
      clear k0 k1 k2 v0 v1 v2
      obtain ⟨W1, hW1⟩ : ∃ W, W = w3.drew := ⟨_, rfl⟩
      have hS : (WBox q2 ⟨vc, vd, vn⟩) W1 := by rw [hW1]; exact HVw3.out
      have HB9 : Hid (Below w.heap.size w W1) := by rw [hW1]; exact HBw3.out.drew
      refine wp_region_held_drew (S := (WBox q2 ⟨vc, vd, vn⟩)) (by kernel_rfl) (by rw [← hW1]; exact hS) ?_
      rw [← hW1]
      intro _
      clear hW1 HXw3 HVw3 HBw3
      refine wpAnyH_take (i := 0) rfl (by kernel_rfl) (by kernel_rfl) (by kernel_rfl) (fun _ _ _ h => h) (Or.inl ⟨by kernel_rfl, (by intro w' _; go_simp; with_reducible rfl)⟩) hS ?_
      go_simp
      refine wpAnyH_take (i := 1) (v := .int .i64 vc) rfl (by kernel_rfl) (by kernel_rfl) (by kernel_rfl) (fun _ _ _ h => h) (Or.inl ⟨by kernel_rfl, (by intro w' hw'; obtain ⟨c0, c1, c2⟩ := hw'.cells; dsimp only at c0 c1 c2; go_simp)⟩) hS ?_
      go_simp
      refine wpAnyH_take (i := 2) rfl (by kernel_rfl) (by kernel_rfl) (by kernel_rfl) (fun _ _ _ h => h) (Or.inl ⟨by kernel_rfl, (by intro w' _; go_simp; with_reducible rfl)⟩) hS ?_
      go_simp
      refine wpAnyH_take (i := 3) (v := .int .i64 (vc - vd)) rfl (by kernel_rfl) (by kernel_rfl) (by kernel_rfl) (fun _ _ _ h => h) (Or.inl ⟨by kernel_rfl, (by intro w' hw'; have wr_ := HW64.out; go_simp)⟩) hS ?_
      go_simp
      refine wpAnyH_take (i := 4) (v := .int .i64 (vc - vd)) rfl (by kernel_rfl) (by kernel_rfl) (by kernel_rfl) (fun _ _ _ h => h) (Or.inl ⟨by kernel_rfl, (by intro w' hw'; have mx_ : max (vc - vd) 0 = (vc - vd) := (by have := HLT.out; omega); go_simp)⟩) hS ?_
      go_simp
      refine wpAnyH_take (i := 5) rfl (by kernel_rfl) (by kernel_rfl) (by kernel_rfl) (fun _ _ _ h => h) (Or.inl ⟨by kernel_rfl, (by intro w' _; go_simp; with_reducible rfl)⟩) hS ?_
      go_simp
      refine wpAnyH_take (i := 6) (v := .int .i64 vc) rfl (by kernel_rfl) (by kernel_rfl) (by kernel_rfl) (fun _ _ _ h => h) (Or.inl ⟨by kernel_rfl, (by intro w' hw'; obtain ⟨c0, c1, c2⟩ := hw'.cells; dsimp only at c0 c1 c2; go_simp)⟩) hS ?_
      go_simp
      refine wpAnyH_take (i := 7) rfl (by kernel_rfl) (by kernel_rfl) (by kernel_rfl) (fun _ _ _ h => h) (Or.inl ⟨by kernel_rfl, (by intro w' _; go_simp; with_reducible rfl)⟩) hS ?_
      go_simp
      refine wpAnyH_take (i := 8) rfl (by kernel_rfl) (by kernel_rfl) (by kernel_rfl) (fun _ _ _ h => h) (Or.inl ⟨by kernel_rfl, (by intro w' _; go_simp; with_reducible rfl)⟩) hS ?_
      go_simp
      refine wpAnyH_take (i := 9) rfl (by kernel_rfl) (by kernel_rfl) (by kernel_rfl) (fun _ _ _ h => h) (Or.inl ⟨by kernel_rfl, (by intro w' _; go_simp; with_reducible rfl)⟩) hS ?_
      go_simp
      refine wpAnyH_done (by kernel_rfl) ?_ _
      go_wp2_with fail
      go_ret3
      rw [HPF.out, HPT.out, HPZ.out, HPR.out, if_neg (by have := HLT.out; omega)]
      exact ⟨rfl, HB9.out⟩
    ·
     have HPR : Hid (perFrom P dn cn ⟨vc, vd, vn⟩ = if vc - vn < 0 then 0 else vc - vn) := by show _ = _; unfold perFrom; dsimp only; rw [← HNC.out]; simp
     go_enter Tryz.func27, Tryz.ntmps27
     go_upto_region 1 with fail
     rw [← hw0, ← hq2, ← hq]
     have HQ := Lib.hid (And.intro hq hq2)
     clear hw0 hq hq2
     obtain ⟨k0, k1, k2⟩ := HX0.out.cells
     obtain ⟨v0, v1, v2⟩ := HV0.out.cells
     go_wp2_with fail
     clear k0 k1 k2 v0 v1 v2
     refine (HCK.out _ HB0.out).mono ?_
     rintro e w1 ⟨rfl, hb⟩
     have HXw1 := Lib.hid (HX0.out.next hb)
     have HVw1 := Lib.hid (HV0.out.next hb)
     have HBw1 : Hid (Below w.heap.size w w1) := HB0.out.trans (hb.mono HB0.out.size)
     clear hb HX0 HB0 HV0
     obtain ⟨k0, k1, k2⟩ := HXw1.out.cells
     obtain ⟨v0, v1, v2⟩ := HVw1.out.cells
     go_wp2_with fail
     clear k0 k1 k2 v0 v1 v2
     refine (HCN.out _ HBw1.out).mono ?_
     rintro e w2 ⟨rfl, hb⟩
     have HXw2 := Lib.hid (HXw1.out.next hb)
     have HVw2 := Lib.hid (HVw1.out.next hb)
     have HBw2 : Hid (Below w.heap.size w w2) := HBw1.out.trans (hb.mono HBw1.out.size)
     clear hb HXw1 HBw1 HVw1
     obtain ⟨k0, k1, k2⟩ := HXw2.out.cells
     obtain ⟨v0, v1, v2⟩ := HVw2.out.cells
     go_wp2_with fail
     clear k0 k1 k2 v0 v1 v2
     refine (HWN.out _).mono ?_
     rintro e w3 ⟨rfl, hb⟩
     have HXw3 := Lib.hid (HXw2.out.next hb)
     have HVw3 := Lib.hid (HVw2.out.next hb)
     have HBw3 : Hid (Below w.heap.size w w3) := HBw2.out.trans (hb.mono HBw2.out.size)
     clear hb HXw2 HBw2 HVw2
     obtain ⟨k0, k1, k2⟩ := HXw3.out.cells
     obtain ⟨v0, v1, v2⟩ := HVw3.out.cells
     dsimp only at v0 v1 v2
     by_cases hlt : vc - vn < 0
     ·
      have hw64 : IntKind.i64.wrap (vc - vn) = vc - vn := IntWalk.i64_in _ (by omega)
      have HLT := Lib.hid hlt
      have HW64 := Lib.hid hw64
      clear hw64
      go_wp2_with fail
      clear k0 k1 k2 v0 v1 v2
      obtain ⟨W1, hW1⟩ : ∃ W, W = w3.drew := ⟨_, rfl⟩
      have hS : (WBox q2 ⟨vc, vd, vn⟩) W1 := by rw [hW1]; exact HVw3.out
      have HB9 : Hid (Below w.heap.size w W1) := by rw [hW1]; exact HBw3.out.drew
      refine wp_region_held_drew (S := (WBox q2 ⟨vc, vd, vn⟩)) (by kernel_rfl) (by rw [← hW1]; exact hS) ?_
      rw [← hW1]
      intro _
      clear hW1 HXw3 HVw3 HBw3
      refine wpAnyH_take (i := 0) rfl (by kernel_rfl) (by kernel_rfl) (by kernel_rfl) (fun _ _ _ h => h) (Or.inl ⟨by kernel_rfl, (by intro w' _; go_simp; with_reducible rfl)⟩) hS ?_
      go_simp
      refine wpAnyH_take (i := 1) (v := .int .i64 vc) rfl (by kernel_rfl) (by kernel_rfl) (by kernel_rfl) (fun _ _ _ h => h) (Or.inl ⟨by kernel_rfl, (by intro w' hw'; obtain ⟨c0, c1, c2⟩ := hw'.cells; dsimp only at c0 c1 c2; go_simp)⟩) hS ?_
      go_simp
      refine wpAnyH_take (i := 2) rfl (by kernel_rfl) (by kernel_rfl) (by kernel_rfl) (fun _ _ _ h => h) (Or.inl ⟨by kernel_rfl, (by intro w' _; go_simp; with_reducible rfl)⟩) hS ?_
      go_simp
      refine wpAnyH_take (i := 3) (v := .int .i64 (vc - vn)) rfl (by kernel_rfl) (by kernel_rfl) (by kernel_rfl) (fun _ _ _ h => h) (Or.inl ⟨by kernel_rfl, (by intro w' hw'; have wr_ := HW64.out; go_simp)⟩) hS ?_
      go_simp
      refine wpAnyH_take (i := 4) (v := .int .i64 0) rfl (by kernel_rfl) (by kernel_rfl) (by kernel_rfl) (fun _ _ _ h => h) (Or.inl ⟨by kernel_rfl, (by intro w' hw'; have mx_ : max (vc - vn) 0 = 0 := (by have := HLT.out; omega); go_simp)⟩) hS ?_
      go_simp
      refine wpAnyH_take (i := 5) rfl (by kernel_rfl) (by kernel_rfl) (by kernel_rfl) (fun _ _ _ h => h) (Or.inl ⟨by kernel_rfl, (by intro w' _; go_simp; with_reducible rfl)⟩) hS ?_
      go_simp
      refine wpAnyH_take (i := 6) (v := .int .i64 vc) rfl (by kernel_rfl) (by kernel_rfl) (by kernel_rfl) (fun _ _ _ h => h) (Or.inl ⟨by kernel_rfl, (by intro w' hw'; obtain ⟨c0, c1, c2⟩ := hw'.cells; dsimp only at c0 c1 c2; go_simp)⟩) hS ?_
      go_simp
      refine wpAnyH_take (i := 7) rfl (by kernel_rfl) (by kernel_rfl) (by kernel_rfl) (fun _ _ _ h => h) (Or.inl ⟨by kernel_rfl, (by intro w' _; go_simp; with_reducible rfl)⟩) hS ?_
      go_simp
      refine wpAnyH_take (i := 8) rfl (by kernel_rfl) (by kernel_rfl) (by kernel_rfl) (fun _ _ _ h => h) (Or.inl ⟨by kernel_rfl, (by intro w' _; go_simp; with_reducible rfl)⟩) hS ?_
      go_simp
      refine wpAnyH_take (i := 9) rfl (by kernel_rfl) (by kernel_rfl) (by kernel_rfl) (fun _ _ _ h => h) (Or.inl ⟨by kernel_rfl, (by intro w' _; go_simp; with_reducible rfl)⟩) hS ?_
      go_simp
      refine wpAnyH_done (by kernel_rfl) ?_ _
      go_wp2_with fail
      go_ret3
      rw [HPF.out, HPT.out, HPZ.out, HPR.out, if_pos (by have := HLT.out; omega)]
      exact ⟨rfl, HB9.out⟩
     ·
      have hw64 : IntKind.i64.wrap (vc - vn) = vc - vn := IntWalk.i64_in _ (by omega)
      have HLT := Lib.hid hlt
      have HW64 := Lib.hid hw64
      clear hw64
      go_wp2_with fail
      clear k0 k1 k2 v0 v1 v2
      obtain ⟨W1, hW1⟩ : ∃ W, W = w3.drew := ⟨_, rfl⟩
      have hS : (WBox q2 ⟨vc, vd, vn⟩) W1 := by rw [hW1]; exact HVw3.out
      have HB9 : Hid (Below w.heap.size w W1) := by rw [hW1]; exact HBw3.out.drew
      refine wp_region_held_drew (S := (WBox q2 ⟨vc, vd, vn⟩)) (by kernel_rfl) (by rw [← hW1]; exact hS) ?_
      rw [← hW1]
      intro _
      clear hW1 HXw3 HVw3 HBw3
      refine wpAnyH_take (i := 0) rfl (by kernel_rfl) (by kernel_rfl) (by kernel_rfl) (fun _ _ _ h => h) (Or.inl ⟨by kernel_rfl, (by intro w' _; go_simp; with_reducible rfl)⟩) hS ?_
      go_simp
      refine wpAnyH_take (i := 1) (v := .int .i64 vc) rfl (by kernel_rfl) (by kernel_rfl) (by kernel_rfl) (fun _ _ _ h => h) (Or.inl ⟨by kernel_rfl, (by intro w' hw'; obtain ⟨c0, c1, c2⟩ := hw'.cells; dsimp only at c0 c1 c2; go_simp)⟩) hS ?_
      go_simp
      refine wpAnyH_take (i := 2) rfl (by kernel_rfl) (by kernel_rfl) (by kernel_rfl) (fun _ _ _ h => h) (Or.inl ⟨by kernel_rfl, (by intro w' _; go_simp; with_reducible rfl)⟩) hS ?_
      go_simp
      refine wpAnyH_take (i := 3) (v := .int .i64 (vc - vn)) rfl (by kernel_rfl) (by kernel_rfl) (by kernel_rfl) (fun _ _ _ h => h) (Or.inl ⟨by kernel_rfl, (by intro w' hw'; have wr_ := HW64.out; go_simp)⟩) hS ?_
      go_simp
      refine wpAnyH_take (i := 4) (v := .int .i64 (vc - vn)) rfl (by kernel_rfl) (by kernel_rfl) (by kernel_rfl) (fun _ _ _ h => h) (Or.inl ⟨by kernel_rfl, (by intro w' hw'; have mx_ : max (vc - vn) 0 = (vc - vn) := (by have := HLT.out; omega); go_simp)⟩) hS ?_
      go_simp
      refine wpAnyH_take (i := 5) rfl (by kernel_rfl) (by kernel_rfl) (by kernel_rfl) (fun _ _ _ h => h) (Or.inl ⟨by kernel_rfl, (by intro w' _; go_simp; with_reducible rfl)⟩) hS ?_
      go_simp
      refine wpAnyH_take (i := 6) (v := .int .i64 vc) rfl (by kernel_rfl) (by kernel_rfl) (by kernel_rfl) (fun _ _ _ h => h) (Or.inl ⟨by kernel_rfl, (by intro w' hw'; obtain ⟨c0, c1, c2⟩ := hw'.cells; dsimp only at c0 c1 c2; go_simp)⟩) hS ?_
      go_simp
      refine wpAnyH_take (i := 7) rfl (by kernel_rfl) (by kernel_rfl) (by kernel_rfl) (fun _ _ _ h => h) (Or.inl ⟨by kernel_rfl, (by intro w' _; go_simp; with_reducible rfl)⟩) hS ?_
      go_simp
      refine wpAnyH_take (i := 8) rfl (by kernel_rfl) (by kernel_rfl) (by kernel_rfl) (fun _ _ _ h => h) (Or.inl ⟨by kernel_rfl, (by intro w' _; go_simp; with_reducible rfl)⟩) hS ?_
      go_simp
      refine wpAnyH_take (i := 9) rfl (by kernel_rfl) (by kernel_rfl) (by kernel_rfl) (fun _ _ _ h => h) (Or.inl ⟨by kernel_rfl, (by intro w' _; go_simp; with_reducible rfl)⟩) hS ?_
      go_simp
      refine wpAnyH_done (by kernel_rfl) ?_ _
      go_wp2_with fail
      go_ret3
      rw [HPF.out, HPT.out, HPZ.out, HPR.out, if_neg (by have := HLT.out; omega)]
      exact ⟨rfl, HB9.out⟩
   ·
    subst h0
    subst h1
    have hG0 : (G != 0) = true := bne_iff_ne.2 h2
    have H0 := Lib.hid h2
    clear h2
    go_enter Tryz.func27, Tryz.ntmps27
    go_upto_region 1 with fail
    rw [← hw0, ← hq2, ← hq]
    have HQ := Lib.hid (And.intro hq hq2)
    clear hw0 hq hq2
    obtain ⟨k0, k1, k2⟩ := HX0.out.cells
    obtain ⟨v0, v1, v2⟩ := HV0.out.cells
    go_wp2_with fail
    clear k0 k1 k2 v0 v1 v2
    refine (HCK.out _ HB0.out).mono ?_
    rintro e w1 ⟨rfl, hb⟩
    have HXw1 := Lib.hid (HX0.out.next hb)
    have HVw1 := Lib.hid (HV0.out.next hb)
    have HBw1 : Hid (Below w.heap.size w w1) := HB0.out.trans (hb.mono HB0.out.size)
    clear hb HX0 HB0 HV0
    obtain ⟨k0, k1, k2⟩ := HXw1.out.cells
    obtain ⟨v0, v1, v2⟩ := HVw1.out.cells
    go_wp2_with fail
    clear k0 k1 k2 v0 v1 v2
    refine (HCN.out _ HBw1.out).mono ?_
    rintro e w2 ⟨rfl, hb⟩
    have HXw2 := Lib.hid (HXw1.out.next hb)
    have HVw2 := Lib.hid (HVw1.out.next hb)
    have HBw2 : Hid (Below w.heap.size w w2) := HBw1.out.trans (hb.mono HBw1.out.size)
    clear hb HXw1 HBw1 HVw1
    obtain ⟨k0, k1, k2⟩ := HXw2.out.cells
    obtain ⟨v0, v1, v2⟩ := HVw2.out.cells
    go_wp2_with fail
    clear k0 k1 k2 v0 v1 v2
    refine (HWN.out _).mono ?_
    rintro e w3 ⟨rfl, hb⟩
    have HXw3 := Lib.hid (HXw2.out.next hb)
    have HVw3 := Lib.hid (HVw2.out.next hb)
    have HBw3 : Hid (Below w.heap.size w w3) := HBw2.out.trans (hb.mono HBw2.out.size)
    clear hb HXw2 HBw2 HVw2
    go_wp2_with fail
    go_ret3
    have e1 : perErr P deb cre v = G := by rw [HPG.out, if_neg (by decide), if_neg (by decide)]
    have e2 : perF P deb cre v = 0 := by unfold perF; rw [e1]; exact if_neg H0.out
    have e3 : perT P deb cre v = 0 := by unfold perT; rw [e1]; exact if_neg H0.out
    rw [e1, e2, e3]
    exact ⟨rfl, HBw3.out⟩
  ·
   subst h0
   have hT0 : (T != 0) = true := bne_iff_ne.2 h1
   have H0 := Lib.hid h1
   clear h1
   go_enter Tryz.func27, Tryz.ntmps27
   go_upto_region 1 with fail
   rw [← hw0, ← hq2, ← hq]
   have HQ := Lib.hid (And.intro hq hq2)
   clear hw0 hq hq2
   obtain ⟨k0, k1, k2⟩ := HX0.out.cells
   obtain ⟨v0, v1, v2⟩ := HV0.out.cells
   go_wp2_with fail
   clear k0 k1 k2 v0 v1 v2
   refine (HCK.out _ HB0.out).mono ?_
   rintro e w1 ⟨rfl, hb⟩
   have HXw1 := Lib.hid (HX0.out.next hb)
   have HVw1 := Lib.hid (HV0.out.next hb)
   have HBw1 : Hid (Below w.heap.size w w1) := HB0.out.trans (hb.mono HB0.out.size)
   clear hb HX0 HB0 HV0
   obtain ⟨k0, k1, k2⟩ := HXw1.out.cells
   obtain ⟨v0, v1, v2⟩ := HVw1.out.cells
   go_wp2_with fail
   clear k0 k1 k2 v0 v1 v2
   refine (HCN.out _ HBw1.out).mono ?_
   rintro e w2 ⟨rfl, hb⟩
   have HXw2 := Lib.hid (HXw1.out.next hb)
   have HVw2 := Lib.hid (HVw1.out.next hb)
   have HBw2 : Hid (Below w.heap.size w w2) := HBw1.out.trans (hb.mono HBw1.out.size)
   clear hb HXw1 HBw1 HVw1
   go_wp2_with fail
   go_ret3
   have e1 : perErr P deb cre v = 14 := by rw [HPG.out, if_neg (by decide), if_pos H0.out]
   have e2 : perF P deb cre v = 0 := by unfold perF; rw [e1]; exact if_neg (by decide)
   have e3 : perT P deb cre v = 0 := by unfold perT; rw [e1]; exact if_neg (by decide)
   rw [e1, e2, e3]
   exact ⟨rfl, HBw2.out⟩
 ·
  have hE0 : (E != 0) = true := bne_iff_ne.2 h0
  have H0 := Lib.hid h0
  clear h0
  go_enter Tryz.func27, Tryz.ntmps27
  go_upto_region 1 with fail
  rw [← hw0, ← hq2, ← hq]
  have HQ := Lib.hid (And.intro hq hq2)
  clear hw0 hq hq2
  obtain ⟨k0, k1, k2⟩ := HX0.out.cells
  obtain ⟨v0, v1, v2⟩ := HV0.out.cells
  go_wp2_with fail
  clear k0 k1 k2 v0 v1 v2
  refine (HCK.out _ HB0.out).mono ?_
  rintro e w1 ⟨rfl, hb⟩
  have HXw1 := Lib.hid (HX0.out.next hb)
  have HVw1 := Lib.hid (HV0.out.next hb)
  have HBw1 : Hid (Below w.heap.size w w1) := HB0.out.trans (hb.mono HB0.out.size)
  clear hb HX0 HB0 HV0
  go_wp2_with fail
  go_ret3
  have e1 : perErr P deb cre v = E := by rw [HPG.out, if_pos H0.out]
  have e2 : perF P deb cre v = 0 := by unfold perF; rw [e1]; exact if_neg H0.out
  have e3 : perT P deb cre v = 0 := by unfold perT; rw [e1]; exact if_neg H0.out
  rw [e1, e2, e3]
  exact ⟨rfl, HBw1.out⟩

end Go.Proofs.YtomfcmlomfcghaaGreatDoor

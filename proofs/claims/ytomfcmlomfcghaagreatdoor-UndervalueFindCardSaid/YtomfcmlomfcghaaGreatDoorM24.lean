/- Merged of RCtl RCon. -/
import Derived.Test.YtomfcmlomfcghaaGreatDoorM27
import Derived.Test.YtomfcmlomfcghaaGreatDoorPtsI
import Derived.Test.YtomfcmlomfcghaaGreatDoorM26
import Derived.Test.YtomfcmlomfcghaaGreatDoorPCon
/- insolvencyref1.controlled. -/
set_option linter.unusedVariables false
set_option linter.unusedSimpArgs false
namespace Go.Proofs.YtomfcmlomfcghaaGreatDoor
open Go.RowKit

theorem half_fields : rneg halfR = false ∧ rnum halfR = ⟨#[1]⟩ ∧ rden halfR = ⟨#[2]⟩ := by
 have h1 : halfR.num = 1 := by unfold halfR; decide +kernel
 have h2 : halfR.den = 2 := by unfold halfR; decide +kernel
 refine ⟨?_, ?_, ?_⟩
 ·
  rw [rneg, h1]; decide
 ·
  rw [rnum, h1]; exact ncan_one
 ·
  rw [rden, h2, if_neg (by decide)]; exact ncan_two
/-- the boxes of the call and a cell of the kinds -/
def KS (q H : Nat) (Ak : Option Addr) (nk ck : Nat) (As : Option Addr) (ns cs : Nat) (At : Option Addr) (nt ct : Nat) (bk j : Nat) (y : Int) (W : World) : Prop := (PBox q Ak nk ck As ns cs At nt ct W ∧ Q3 H false ⟨#[1]⟩ ⟨#[2]⟩ W) ∧ bk < W.heap.size ∧ W.cell? ⟨bk, j, none⟩ = some (.int .i64 y)
theorem KS.next {q H : Nat} {Ak : Option Addr} {nk ck : Nat} {As : Option Addr} {ns cs : Nat} {At : Option Addr} {nt ct : Nat} {bk j : Nat} {y : Int} {W W' : World} (h : KS q H Ak nk ck As ns cs At nt ct bk j y W) (hb : Below W.heap.size W W') : KS q H Ak nk ck As ns cs At nt ct bk j y W' :=
 ⟨⟨h.1.1.next hb, h.1.2.next hb⟩, Nat.lt_of_lt_of_le h.2.1 hb.size, (hb.cell (p := ⟨bk, j, none⟩) h.2.1).trans h.2.2⟩

set_option maxHeartbeats 8000000 in
set_option maxRecDepth 100000 in
theorem rctl_calls (Ak : Option Addr) (nk ck : Nat) (As : Option Addr) (ns cs : Nat) (At : Option Addr) (nt ct : Nat) (P : Prt) (m : Nat) (own : Nat) (w : World) (hp : PRd Ak nk As ns At nt P w) (hb : PB m P) (hgo : Good P) :
 Calls Tryz.prog 42 #[ptyVal Ak nk ck As ns cs At nt ct, .int .i64 (own : Int)] w (IntsPost (idxs (ctl P (own : Int)) nk) w) := by
 have HP := Lib.hid hp
 have HPB := Lib.hid hb
 have HGO := Lib.hid hgo
 have HNK := Lib.hid hp.nk
 have HNS := Lib.hid hp.ns
 have gk : nk ≤ 32 := by rw [hp.nk]; exact hgo.kl
 have gs : ns ≤ 64 := by rw [hp.ns]; exact hgo.sl
 clear hp hb hgo
 obtain ⟨i0, hi, hz0, hz1, hz2⟩ := info_parts Tryz.info_int
 have HII := Lib.hid (And.intro hi (And.intro hz0 (And.intro hz1 hz2)))
 clear hi hz0 hz1 hz2
 obtain ⟨q, hq⟩ : ∃ q, q = w.heap.size := ⟨_, rfl⟩
 obtain ⟨H, hH⟩ : ∃ q, q = w.heap.size + 1 := ⟨_, rfl⟩
 obtain ⟨B, hB⟩ : ∃ q, q = w.heap.size + 2 := ⟨_, rfl⟩
 obtain ⟨w0, hw0⟩ : ∃ W, W = (w.alloc (.cells #[.slice Ak nk ck, .slice As ns cs, .slice At nt ct] 26)).alloc (.cells #[.bool false, .string ⟨#[1]⟩, .string ⟨#[2]⟩] 70) := ⟨_, rfl⟩
 have HB0 : Hid (Below w.heap.size w w0) := by rw [hw0]; exact (bel_alloc _ _).alloc (by simp) _
 have HX0 : Hid (PBox q Ak nk ck As ns cs At nt ct w0 ∧ Q3 H false ⟨#[1]⟩ ⟨#[2]⟩ w0) := by
  refine ⟨?_, ?_⟩
  ·
   rw [hw0, hq]; exact (show PBox w.heap.size Ak nk ck As ns cs At nt ct (w.alloc (.cells #[.slice Ak nk ck, .slice As ns cs, .slice At nt ct] 26)) from blk_new _ _).next (bel_alloc _ _)
  ·
   have := blk_new (w.alloc (.cells #[.slice Ak nk ck, .slice As ns cs, .slice At nt ct] 26)) (.cells #[.bool false, .string ⟨#[1]⟩, .string ⟨#[2]⟩] 70)
   rw [World.size_alloc, ← hH, ← hw0] at this
   exact this
 have HZ0 : Hid (B ≤ w0.heap.size) := by rw [hw0, hB, World.size_alloc, World.size_alloc]; exact Nat.le_refl _
 have HC : Hid (q < B ∧ H < B ∧ w.heap.size ≤ B) := ⟨by omega, by omega, by omega⟩
 go_enter Tryz.func42, Tryz.ntmps42
 go_upto_region 3 with fail
 rw [← hw0, ← hH, ← hq]
 have HQ := Lib.hid (And.intro hq (And.intro hH hB))
 clear hw0 hq hH hB
 go_wp2_with fail
 go_loopw [5, 7] (fun o ch wr => ∃ (set : List Int) (Ao : Option Addr) (mo co : Nat) (b : Bool), o = .slice Ao mo co ∧ ch = .bool b ∧ Hid (mo = set.length ∧ wr.ownsRow B 3 1 (.slice Ao mo co) mo (set.flatMap intV)) ∧ Hid (Sound P (own : Int) (setS set) ∧ mo = cnt (setS set) nk) ∧ Hid (b = false → Cls P (own : Int) (setS set)) ∧ Hid (PBox q Ak nk ck As ns cs At nt ct wr ∧ Q3 H false ⟨#[1]⟩ ⟨#[2]⟩ wr) ∧ Hid (Below w.heap.size w wr ∧ B ≤ wr.heap.size)) (fun o ch _ => 2 * (nk - lenOf o) + bOf ch)
 case atStart => exact ⟨[], none, 0, 0, true, rfl, rfl, ⟨rfl, World.ownsRow_nil _ _ _ _⟩, ⟨(fun c h => by cases h), (cnt_nil nk).symm⟩, (fun h => by cases h), HX0, ⟨HB0.out, HZ0.out⟩⟩
 case round =>
  clear HX0 HB0 HZ0
  obtain ⟨set, Ao, mo, co, b, rfl, rfl, HO, HSD, HCL, HXwo, HBwo⟩ := hrel
  rename World => wo
  cases b
  ·
   have HCT : Hid (∀ c, setS set c = ctl P (own : Int) c) := fun c => ctl_eq HSD.out.1 (HCL.out (by simp)) c
   have HRS : Hid (Rd wo wo.heap.size 1 Ao set.length (set.flatMap intV)) := by have h := Rd.of_own HO.out.2; rw [HO.out.1] at h; exact h
   have HML : Hid (mo = set.length) := HO.out.1
   have hmo : mo ≤ nk := by rw [HSD.out.2]; exact cnt_le _ _
   clear HCL HSD HO
   go_wp2_with fail
   go_loopw [9, 10] (fun o i wr => ∃ (k mo2 co2 : Nat) (Ao2 : Option Addr), k ≤ nk ∧ i = .int .i64 (k : Int) ∧ o = .slice Ao2 mo2 co2 ∧ Hid (mo2 = (idxs (ctl P (own : Int)) k).length ∧ wr.ownsRow wo.heap.size 3 1 (.slice Ao2 mo2 co2) mo2 ((idxs (ctl P (own : Int)) k).flatMap intV)) ∧ Hid (PBox q Ak nk ck As ns cs At nt ct wr) ∧ Hid (Below wo.heap.size wo wr)) (fun _ i _ => nk - (intOf i).toNat)
   case atStart => exact ⟨0, 0, 0, none, Nat.zero_le _, rfl, rfl, ⟨rfl, World.ownsRow_nil _ _ _ _⟩, HXwo.out.1, Below.refl _ _⟩
   case round =>
    obtain ⟨k, mo2, co2, Ao2, hk, rfl, rfl, HO2, HXwi, HYwi⟩ := hrel
    rename World => wi
    have HBwi : Hid (Below w.heap.size w wi) := HBwo.out.1.trans (HYwi.out.mono HBwo.out.1.size)
    obtain ⟨k0, k1, k2⟩ := HXwi.out.cells
    by_cases hkl : k < nk
    ·
     have hkl2 : (k : Int) < (nk : Int) := by omega
     obtain ⟨h, hh⟩ : ∃ h, h = setS set k := ⟨_, rfl⟩
     have HHC := Lib.hid (has_calls Ao mo co set (k : Int) wi HML.out ((HRS.out).next HYwi.out) (by simp only [maxLen]; omega) h hh)
     have HHE : Hid (h = ctl P (own : Int) k) := by show _ = _; rw [hh]; exact HCT.out k
     clear hh
     go_wp2_with fail
     clear k0 k1 k2
     refine HHC.out.mono ?_
     rintro e wb ⟨rfl, hbw⟩
     rw [hbw]
     clear hbw HHC
     cases h
     ·
      have HNX : Hid (idxs (ctl P (own : Int)) (k + 1) = idxs (ctl P (own : Int)) k) := by show _ = _; rw [idxs_take, ← HHE.out]; rfl
      go_wp2_with fail
      go_roundw
      case measure => simp [intOf] <;> omega
      case rel => exact ⟨k + 1, _, _, _, by omega, by go_num, rfl, by rw [HNX.out]; exact HO2, HXwi, HYwi⟩
     ·
      have HNX : Hid (idxs (ctl P (own : Int)) (k + 1) = idxs (ctl P (own : Int)) k ++ [(k : Int)]) := by show _ = _; rw [idxs_take, ← HHE.out]; rfl
      have hml : mo2 ≤ k := by rw [HO2.out.1]; exact idxs_len _ _
      have HOa := Lib.hid (own_below HO2.out.2 (bel_alloc wi (.cells #[.int .i64 (k : Int)] 3)))
      have HYa := Lib.hid (HYwi.out.alloc HYwi.out.size (.cells #[.int .i64 (k : Int)] 3))
      have HXa := Lib.hid (HXwi.out.next (bel_alloc wi (.cells #[.int .i64 (k : Int)] 3)))
      have hsz := HYa.out.size
      go_wp2_with (at_builtin; refine wpList_append_own _ rfl (.tmp 60) (.tmp 62) 22 rfl wo.heap.size 3 i0 _ 1 8 Tryz.underlying22 HII.out.1 HII.out.2.1 HII.out.2.2.1 HII.out.2.2.2 rfl (by decide) _ mo2 ((idxs (ctl P (own : Int)) k).flatMap intV) rfl HOa.out _ 1 1 [.int .i64 (k : Int)] rfl rfl (rd_new_cells _ _ _ _ (by simp)) (by simp [Value.oneCell']) (by simp only [maxLen]; omega) (by omega) hsz ?_)
      intro v' w' hown hgr hnil
      obtain ⟨g', cap, rfl, _, _⟩ := hown.form (by omega)
      obtain ⟨wt, hwt⟩ : ∃ W, W = wi.alloc (.cells #[.int .i64 (k : Int)] 3) := ⟨_, rfl⟩
      rw [← hwt] at HOa HYa HXa hgr
      clear hwt
      have HY' : Hid (Below wo.heap.size wo w') := Below.grown HYa.out hgr HYa.out.size (fun q hq => (HOa.out.lt q hq).1)
      have HX' : Hid (PBox q Ak nk ck As ns cs At nt ct w') := blk_grownB HOa.out HXa.out (Array.getElem?_eq_some_iff.1 HXwo.out.1).1 hgr
      have HO' : Hid (mo2 + 1 = (idxs (ctl P (own : Int)) (k + 1)).length ∧ w'.ownsRow wo.heap.size 3 1 (.slice (some ⟨g', 0, none⟩) (mo2 + 1) cap) (mo2 + 1) ((idxs (ctl P (own : Int)) (k + 1)).flatMap intV)) := by
       show _ ∧ _
       rw [HNX.out, List.length_append, ← HO2.out.1, List.flatMap_append]
       exact ⟨rfl, hown⟩
      clear hown hgr hnil HOa HYa HXa HO2 HXwi HYwi HBwi
      go_wp2_with fail
      go_roundw
      case measure => simp [intOf] <;> omega
      case rel => exact ⟨k + 1, _, _, _, by omega, by go_num, rfl, HO', HX', HY'⟩
    ·
     obtain rfl : k = nk := by omega
     go_wp2_with fail
     go_ret
     refine ⟨Ao2, co2, by rw [← HO2.out.1]; rfl, ?_, HBwi.out⟩
     have := Rd.of_own HO2.out.2
     rw [HO2.out.1] at this
     exact this
  ·
   clear HCL
   obtain ⟨S0, hS0⟩ : ∃ S, S = setS set := ⟨_, rfl⟩
   have HS0 : Hid (RoundS P (own : Int) S0 (setS set) false 0 ∧ mo = cnt S0 nk) := ⟨by rw [hS0]; exact RoundS.start HSD.out.1, by rw [hS0]; exact HSD.out.2⟩
   have hmo0 : mo ≤ nk := by rw [HSD.out.2]; exact cnt_le _ _
   have HS1 : Hid (mo = cnt (setS set) nk) := HSD.out.2
   clear hS0 HSD
   obtain ⟨m0, hm0⟩ : ∃ m0, m0 = mo := ⟨_, rfl⟩
   have HM0 : Hid (m0 = cnt S0 nk) := by rw [hm0]; exact HS0.out.2
   go_wp2_with fail
   go_loopw [5, 7, 8] (fun o ch i wr => ∃ (k : Nat) (set : List Int) (Ao : Option Addr) (mo co : Nat) (b : Bool), k ≤ nk ∧ i = .int .i64 (k : Int) ∧ o = .slice Ao mo co ∧ ch = .bool b ∧ Hid (mo = set.length ∧ wr.ownsRow B 3 1 (.slice Ao mo co) mo (set.flatMap intV)) ∧ Hid (RoundS P (own : Int) S0 (setS set) b k ∧ mo = cnt (setS set) nk) ∧ Hid (PBox q Ak nk ck As ns cs At nt ct wr ∧ Q3 H false ⟨#[1]⟩ ⟨#[2]⟩ wr) ∧ Hid (Below w.heap.size w wr ∧ B ≤ wr.heap.size)) (fun _ _ i _ => nk - (intOf i).toNat)
   case atStart => exact ⟨0, set, Ao, mo, co, false, Nat.zero_le _, rfl, rfl, rfl, HO, ⟨HS0.out.1, HS1.out⟩, HXwo, HBwo⟩
   case round =>
    clear HO HXwo HBwo HS0 HS1
    obtain ⟨k, set, Ao, mo, co, b, hk, rfl, rfl, rfl, HO, HRS, HXwp, HBwp⟩ := hrel
    rename World => wp
    obtain ⟨k0, k1, k2⟩ := HXwp.out.1.cells
    by_cases hkl : k < nk
    ·
     have hkl2 : (k : Int) < (nk : Int) := by omega
     have hmo : mo ≤ nk := by rw [HRS.out.2]; exact cnt_le _ _
     obtain ⟨y, hy⟩ := getElem?_of_lt (l := P.kinds) (k := k) (by rw [← HNK.out]; exact hkl)
     have hky : kindAt P.kinds (k : Int) = y := by unfold kindAt; rw [Int.toNat_natCast, List.getD, hy]; rfl
     obtain ⟨bk, ok, hA, hbk, ky⟩ := rd_int (HP.out.k.next HBwp.out.1) hy
     subst hA
     clear hy
     go_wp2_with fail
     clear k0 k1 k2
     obtain ⟨W1, hW1⟩ : ∃ W, W = wp.drew := ⟨_, rfl⟩
     have hS : (KS q H (some ⟨bk, ok, none⟩) nk ck As ns cs At nt ct bk (ok + k) y) W1 := by rw [hW1]; exact ⟨⟨HXwp.out.1, HXwp.out.2⟩, hbk, ky⟩
     have HO1 : Hid (mo = set.length ∧ W1.ownsRow B 3 1 (.slice Ao mo co) mo (set.flatMap intV)) := by rw [hW1]; exact HO.out
     have HB1 : Hid (Below w.heap.size w W1 ∧ B ≤ W1.heap.size) := by rw [hW1]; exact ⟨HBwp.out.1.drew, HBwp.out.2⟩
     refine wp_region_held_drew (S := (KS q H (some ⟨bk, ok, none⟩) nk ck As ns cs At nt ct bk (ok + k) y)) (by kernel_rfl) (by rw [← hW1]; exact hS) ?_
     rw [← hW1]
     intro _
     clear hW1 HXwp HBwp HO hbk ky
     by_cases hko : (k : Int) = (own : Int)
     ·
      have hne : ((k : Int) != (own : Int)) = false := by rw [hko]; simp
      have HNX : Hid (RoundS P (own : Int) S0 (setS set) b (k + 1) ∧ mo = cnt (setS set) nk) := ⟨HRS.out.1.skip (.inl hko), HRS.out.2⟩
      clear hko HRS hky
      refine wpAnyH_take (i := 0) rfl (by kernel_rfl) (by kernel_rfl) (by kernel_rfl) (fun _ _ _ h => h) (Or.inl ⟨by kernel_rfl, (by intro w' _; go_simp; with_reducible rfl)⟩) hS ?_
      go_simp
      refine wpAnyH_take (i := 1) rfl (by kernel_rfl) (by kernel_rfl) (by kernel_rfl) (fun _ _ _ h => h) (Or.inl ⟨by kernel_rfl, (by intro w' _; go_simp; with_reducible rfl)⟩) hS ?_
      go_simp
      refine wpAnyH_take (i := 2) rfl (by kernel_rfl) (by kernel_rfl) (by kernel_rfl) (fun _ _ _ h => h) (Or.inl ⟨by kernel_rfl, (by intro w' _; go_simp; with_reducible rfl)⟩) hS ?_
      go_simp
      refine wpAnyH_take (i := 3) rfl (by kernel_rfl) (by kernel_rfl) (by kernel_rfl) (fun _ _ _ h => h) (Or.inl ⟨by kernel_rfl, (by intro w' _; go_simp; with_reducible rfl)⟩) hS ?_
      go_simp
      refine wpAnyH_take (i := 4) (v := undef) rfl (by kernel_rfl) (by kernel_rfl) (by kernel_rfl) (fun _ _ _ h => h) (Or.inr ⟨by kernel_rfl, rfl⟩) hS ?_
      go_simp
      refine wpAnyH_take (i := 5) (v := undef) rfl (by kernel_rfl) (by kernel_rfl) (by kernel_rfl) (fun _ _ _ h => h) (Or.inr ⟨by kernel_rfl, rfl⟩) hS ?_
      go_simp
      refine wpAnyH_take (i := 6) (v := undef) rfl (by kernel_rfl) (by kernel_rfl) (by kernel_rfl) (fun _ _ _ h => h) (Or.inr ⟨by kernel_rfl, rfl⟩) hS ?_
      go_simp
      refine wpAnyH_take (i := 7) (v := undef) rfl (by kernel_rfl) (by kernel_rfl) (by kernel_rfl) (fun _ _ _ h => h) (Or.inr ⟨by kernel_rfl, rfl⟩) hS ?_
      go_simp
      refine wpAnyH_take (i := 8) (v := undef) rfl (by kernel_rfl) (by kernel_rfl) (by kernel_rfl) (fun _ _ _ h => h) (Or.inr ⟨by kernel_rfl, rfl⟩) hS ?_
      go_simp
      refine wpAnyH_take (i := 9) (v := undef) rfl (by kernel_rfl) (by kernel_rfl) (by kernel_rfl) (fun _ _ _ h => h) (Or.inr ⟨by kernel_rfl, rfl⟩) hS ?_
      go_simp
      refine wpAnyH_take (i := 10) rfl (by kernel_rfl) (by kernel_rfl) (by kernel_rfl) (fun _ _ _ h => h) (Or.inl ⟨by kernel_rfl, (by intro w' _; go_simp; with_reducible rfl)⟩) hS ?_
      go_simp
      refine wpAnyH_take (i := 11) rfl (by kernel_rfl) (by kernel_rfl) (by kernel_rfl) (fun _ _ _ h => h) (Or.inl ⟨by kernel_rfl, (by intro w' _; go_simp; with_reducible rfl)⟩) hS ?_
      go_simp
      refine wpAnyH_take (i := 12) (v := undef) rfl (by kernel_rfl) (by kernel_rfl) (by kernel_rfl) (fun _ _ _ h => h) (Or.inr ⟨by kernel_rfl, rfl⟩) hS ?_
      go_simp
      refine wpAnyH_take (i := 13) (v := undef) rfl (by kernel_rfl) (by kernel_rfl) (by kernel_rfl) (fun _ _ _ h => h) (Or.inr ⟨by kernel_rfl, rfl⟩) hS ?_
      go_simp
      refine wpAnyH_take (i := 14) (v := undef) rfl (by kernel_rfl) (by kernel_rfl) (by kernel_rfl) (fun _ _ _ h => h) (Or.inr ⟨by kernel_rfl, rfl⟩) hS ?_
      go_simp
      refine wpAnyH_take (i := 15) (v := undef) rfl (by kernel_rfl) (by kernel_rfl) (by kernel_rfl) (fun _ _ _ h => h) (Or.inr ⟨by kernel_rfl, rfl⟩) hS ?_
      go_simp
      refine wpAnyH_take (i := 16) rfl (by kernel_rfl) (by kernel_rfl) (by kernel_rfl) (fun _ _ _ h => h) (Or.inl ⟨by kernel_rfl, (by intro w' _; go_simp; with_reducible rfl)⟩) hS ?_
      go_simp
      refine wpAnyH_take (i := 17) rfl (by kernel_rfl) (by kernel_rfl) (by kernel_rfl) (fun _ _ _ h => h) (Or.inl ⟨by kernel_rfl, (by intro w' _; go_simp; with_reducible rfl)⟩) hS ?_
      go_simp
      refine wpAnyH_take (i := 18) (v := undef) rfl (by kernel_rfl) (by kernel_rfl) (by kernel_rfl) (fun _ _ _ h => h) (Or.inr ⟨by kernel_rfl, rfl⟩) hS ?_
      go_simp
      refine wpAnyH_take (i := 19) (v := undef) rfl (by kernel_rfl) (by kernel_rfl) (by kernel_rfl) (fun _ _ _ h => h) (Or.inr ⟨by kernel_rfl, rfl⟩) hS ?_
      go_simp
      refine wpAnyH_take (i := 20) (v := undef) rfl (by kernel_rfl) (by kernel_rfl) (by kernel_rfl) (fun _ _ _ h => h) (Or.inr ⟨by kernel_rfl, rfl⟩) hS ?_
      go_simp
      refine wpAnyH_take (i := 21) (v := undef) rfl (by kernel_rfl) (by kernel_rfl) (by kernel_rfl) (fun _ _ _ h => h) (Or.inr ⟨by kernel_rfl, rfl⟩) hS ?_
      go_simp
      refine wpAnyH_take (i := 22) (v := undef) rfl (by kernel_rfl) (by kernel_rfl) (by kernel_rfl) (fun _ _ _ h => h) (Or.inr ⟨by kernel_rfl, rfl⟩) hS ?_
      go_simp
      refine wpAnyH_take (i := 23) (v := undef) rfl (by kernel_rfl) (by kernel_rfl) (by kernel_rfl) (fun _ _ _ h => h) (Or.inr ⟨by kernel_rfl, rfl⟩) hS ?_
      go_simp
      refine wpAnyH_take (i := 24) (v := undef) rfl (by kernel_rfl) (by kernel_rfl) (by kernel_rfl) (fun _ _ _ h => h) (Or.inr ⟨by kernel_rfl, rfl⟩) hS ?_
      go_simp
      refine wpAnyH_take (i := 25) rfl (by kernel_rfl) (by kernel_rfl) (by kernel_rfl) (fun _ _ _ h => h) (Or.inl ⟨by kernel_rfl, (by intro w' _; go_simp; with_reducible rfl)⟩) hS ?_
      go_simp
      refine wpAnyH_done (by kernel_rfl) ?_ _
      have HX1 : Hid (PBox q (some ⟨bk, ok, none⟩) nk ck As ns cs At nt ct W1 ∧ Q3 H false ⟨#[1]⟩ ⟨#[2]⟩ W1) := hS.1
      clear hS
      go_wp2_with fail
      go_roundw
      case measure => simp [intOf] <;> omega
      case rel => exact ⟨k + 1, set, _, _, _, b, by omega, by go_num, rfl, rfl, HO1, HNX, HX1, HB1⟩
     ·
      have hne : ((k : Int) != (own : Int)) = true := bne_iff_ne.2 hko
      by_cases hy2 : y = 2
      ·
       subst hy2
       clear hky
       obtain ⟨h, hh⟩ : ∃ h, h = setS set k := ⟨_, rfl⟩
       have HHC := Lib.hid (has_calls Ao mo co set (k : Int) W1 HO1.out.1 (by have := Rd.of_own HO1.out.2; rw [HO1.out.1] at this; exact this) (by simp only [maxLen]; omega) h hh)
       have HHE := Lib.hid hh
       clear hh
       refine wpAnyH_take (i := 0) rfl (by kernel_rfl) (by kernel_rfl) (by kernel_rfl) (fun _ _ _ h => h) (Or.inl ⟨by kernel_rfl, (by intro w' _; go_simp; with_reducible rfl)⟩) hS ?_
       go_simp
       refine wpAnyH_take (i := 1) rfl (by kernel_rfl) (by kernel_rfl) (by kernel_rfl) (fun _ _ _ h => h) (Or.inl ⟨by kernel_rfl, (by intro w' _; go_simp; with_reducible rfl)⟩) hS ?_
       go_simp
       refine wpAnyH_take (i := 2) rfl (by kernel_rfl) (by kernel_rfl) (by kernel_rfl) (fun _ _ _ h => h) (Or.inl ⟨by kernel_rfl, (by intro w' _; go_simp; with_reducible rfl)⟩) hS ?_
       go_simp
       refine wpAnyH_take (i := 3) rfl (by kernel_rfl) (by kernel_rfl) (by kernel_rfl) (fun _ _ _ h => h) (Or.inl ⟨by kernel_rfl, (by intro w' _; go_simp; with_reducible rfl)⟩) hS ?_
       go_simp
       refine wpAnyH_take (i := 4) rfl (by kernel_rfl) (by kernel_rfl) (by kernel_rfl) (fun _ _ _ h => h) (Or.inl ⟨by kernel_rfl, (by intro w' _; go_simp; with_reducible rfl)⟩) hS ?_
       go_simp
       refine wpAnyH_take (i := 5) (v := .slice (some ⟨bk, ok, none⟩) nk ck) rfl (by kernel_rfl) (by kernel_rfl) (by kernel_rfl) (fun _ _ _ h => h) (Or.inl ⟨by kernel_rfl, (by intro w' hw'; obtain ⟨q0, q1, q2⟩ := hw'.1.1.cells; go_simp)⟩) hS ?_
       go_simp
       refine wpAnyH_take (i := 6) rfl (by kernel_rfl) (by kernel_rfl) (by kernel_rfl) (fun _ _ _ h => h) (Or.inl ⟨by kernel_rfl, (by intro w' _; go_simp; with_reducible rfl)⟩) hS ?_
       go_simp
       refine wpAnyH_take (i := 7) (v := .pointer (some ⟨bk, ok + k, none⟩)) rfl (by kernel_rfl) (by kernel_rfl) (by kernel_rfl) (fun _ _ _ h => h) (Or.inl ⟨by kernel_rfl, (by intro w' _; go_simp)⟩) hS ?_
       go_simp
       refine wpAnyH_take (i := 8) (v := .int .i64 2) rfl (by kernel_rfl) (by kernel_rfl) (by kernel_rfl) (fun _ _ _ h => h) (Or.inl ⟨by kernel_rfl, (by intro w' hw'; have c8 := hw'.2.2; go_simp)⟩) hS ?_
       go_simp
       refine wpAnyH_take (i := 9) rfl (by kernel_rfl) (by kernel_rfl) (by kernel_rfl) (fun _ _ _ h => h) (Or.inl ⟨by kernel_rfl, (by intro w' _; go_simp; with_reducible rfl)⟩) hS ?_
       go_simp
       refine wpAnyH_take (i := 10) rfl (by kernel_rfl) (by kernel_rfl) (by kernel_rfl) (fun _ _ _ h => h) (Or.inl ⟨by kernel_rfl, (by intro w' _; go_simp; with_reducible rfl)⟩) hS ?_
       go_simp
       refine wpAnyH_take (i := 11) rfl (by kernel_rfl) (by kernel_rfl) (by kernel_rfl) (fun _ _ _ h => h) (Or.inl ⟨by kernel_rfl, (by intro w' _; go_simp; with_reducible rfl)⟩) hS ?_
       go_simp
       refine wpAnyH_take (i := 12) rfl (by kernel_rfl) (by kernel_rfl) (by kernel_rfl) (fun _ _ _ h => h) (Or.inl ⟨by kernel_rfl, (by intro w' _; go_simp; with_reducible rfl)⟩) hS ?_
       go_simp
       refine wpAnyH_take (i := 13) rfl (by kernel_rfl) (by kernel_rfl) (by kernel_rfl) (fun _ _ _ h => h) (Or.inl ⟨by kernel_rfl, (by intro w' _; go_simp; with_reducible rfl)⟩) hS ?_
       go_simp
       refine wpAnyH_ready (rs := [14]) (by kernel_rfl) (by simp) ?_
       refine AllReadyH.cons rfl (fun K hK => ?_) AllReadyH.nil
       go_simp
       refine HHC.out.mono ?_
       rintro e wb ⟨rfl, hbw⟩
       rw [hbw]
       clear hbw HHC
       refine hK.out _ _ hS (fun _ => ?_)
       clear hK K
       cases h
       ·
        obtain ⟨qv, hqv⟩ : ∃ x, x = vs (vF set (own : Int) (k : Int)) P.stakes := ⟨_, rfl⟩
        have hvt : qv = vt P (own : Int) (setS set) k := by rw [hqv]; exact vF_vt HGO.out set (by omega) k
        have hszq := vs_sz (f := vF set (own : Int) (k : Int)) (l := P.stakes) (m := m) (fun s hs => HPB.out.sz s hs)
        rw [← hqv] at hszq
        have hm2 := HPB.out.m2
        have hlen : P.stakes.length ≤ 64 := by rw [← HNS.out]; omega
        have hmul : (m + 1) * P.stakes.length ≤ 1001 * 64 := Nat.mul_le_mul (by omega) hlen
        have HVT' := rvotes_calls (some ⟨bk, ok, none⟩) nk ck As ns cs At nt ct Ao mo co P set (own : Int) (k : Int) m W1 (HP.out.next HB1.out.1) HPB.out (by omega) HO1.out.1 (by have := Rd.of_own HO1.out.2; rw [HO1.out.1] at this; rw [← HO1.out.1]; rw [← HO1.out.1] at this; exact this) (by simp only [maxLen]; omega)
        rw [← hqv] at HVT'
        have HLS' := fun W => refLess_calls halfR qv 1 64065 W sz_half (hszq.mono (by omega)) (by decide)
        obtain ⟨lb, hlb⟩ : ∃ b, b = decide (halfR < qv) := ⟨_, rfl⟩
        rw [← hlb] at HLS'
        unfold ratV at HVT' HLS'
        rw [half_fields.1, half_fields.2.1, half_fields.2.2] at HLS'
        obtain ⟨sv, hsv⟩ : ∃ x, x = rneg qv := ⟨_, rfl⟩
        obtain ⟨nv, hnv⟩ : ∃ x, x = rnum qv := ⟨_, rfl⟩
        obtain ⟨dv, hdv⟩ : ∃ x, x = rden qv := ⟨_, rfl⟩
        rw [← hsv, ← hnv, ← hdv] at HVT' HLS'
        have HVT := Lib.hid HVT'
        have HLS := Lib.hid HLS'
        have HLB : Hid (lb = decide (halfR < vt P (own : Int) (setS set) k)) := by show _ = _; rw [hlb, hvt]
        clear HVT' HLS' hsv hnv hdv hszq hm2 hlen hmul hqv hvt hlb
        refine wpAnyH_take (i := 15) rfl (by kernel_rfl) (by kernel_rfl) (by kernel_rfl) (fun _ _ _ h => h) (Or.inl ⟨by kernel_rfl, (by intro w' _; go_simp; with_reducible rfl)⟩) hS ?_
        go_simp
        refine wpAnyH_take (i := 16) rfl (by kernel_rfl) (by kernel_rfl) (by kernel_rfl) (fun _ _ _ h => h) (Or.inl ⟨by kernel_rfl, (by intro w' _; go_simp; with_reducible rfl)⟩) hS ?_
        go_simp
        refine wpAnyH_take (i := 17) rfl (by kernel_rfl) (by kernel_rfl) (by kernel_rfl) (fun _ _ _ h => h) (Or.inl ⟨by kernel_rfl, (by intro w' _; go_simp; with_reducible rfl)⟩) hS ?_
        go_simp
        refine wpAnyH_take (i := 18) (v := .agg #[.bool false, .string ⟨#[1]⟩, .string ⟨#[2]⟩]) rfl (by kernel_rfl) (by kernel_rfl) (by kernel_rfl) (fun _ _ _ h => h) (Or.inl ⟨by kernel_rfl, (by intro w' hw'; obtain ⟨q0, q1, q2⟩ := hw'.1.2.cells; go_simp)⟩) hS ?_
        go_simp
        refine wpAnyH_take (i := 19) (v := ptyVal (some ⟨bk, ok, none⟩) nk ck As ns cs At nt ct) rfl (by kernel_rfl) (by kernel_rfl) (by kernel_rfl) (fun _ _ _ h => h) (Or.inl ⟨by kernel_rfl, (by intro w' hw'; obtain ⟨q0, q1, q2⟩ := hw'.1.1.cells; go_simp)⟩) hS ?_
        go_simp
        refine wpAnyH_take (i := 20) rfl (by kernel_rfl) (by kernel_rfl) (by kernel_rfl) (fun _ _ _ h => h) (Or.inl ⟨by kernel_rfl, (by intro w' _; go_simp; with_reducible rfl)⟩) hS ?_
        go_simp
        refine wpAnyH_take (i := 21) rfl (by kernel_rfl) (by kernel_rfl) (by kernel_rfl) (fun _ _ _ h => h) (Or.inl ⟨by kernel_rfl, (by intro w' _; go_simp; with_reducible rfl)⟩) hS ?_
        go_simp
        refine wpAnyH_take (i := 22) rfl (by kernel_rfl) (by kernel_rfl) (by kernel_rfl) (fun _ _ _ h => h) (Or.inl ⟨by kernel_rfl, (by intro w' _; go_simp; with_reducible rfl)⟩) hS ?_
        go_simp
        refine wpAnyH_ready (rs := [23]) (by kernel_rfl) (by simp) ?_
        refine AllReadyH.cons rfl (fun K hK => ?_) AllReadyH.nil
        go_simp
        refine HVT.out.mono ?_
        rintro e W2 ⟨rfl, hb⟩
        have hS2 := hS.next hb
        have HO2 : Hid (mo = set.length ∧ W2.ownsRow B 3 1 (.slice Ao mo co) mo (set.flatMap intV)) := ⟨HO1.out.1, own_below HO1.out.2 hb⟩
        have HB2 : Hid (Below w.heap.size w W2 ∧ B ≤ W2.heap.size) := ⟨HB1.out.1.trans (hb.mono HB1.out.1.size), Nat.le_trans HB1.out.2 hb.size⟩
        clear hb hS HO1 HB1
        refine hK.out _ _ hS2 (fun _ => ?_)
        clear hK K
        refine wpAnyH_ready (rs := [24]) (by kernel_rfl) (by simp) ?_
        refine AllReadyH.cons rfl (fun K hK => ?_) AllReadyH.nil
        go_simp
        refine (HLS.out _).mono ?_
        rintro e W3 ⟨rfl, hb⟩
        have hS3 := hS2.next hb
        have HO3 : Hid (mo = set.length ∧ W3.ownsRow B 3 1 (.slice Ao mo co) mo (set.flatMap intV)) := ⟨HO2.out.1, own_below HO2.out.2 hb⟩
        have HB3 : Hid (Below w.heap.size w W3 ∧ B ≤ W3.heap.size) := ⟨HB2.out.1.trans (hb.mono HB2.out.1.size), Nat.le_trans HB2.out.2 hb.size⟩
        clear hb hS2 HO2 HB2
        refine hK.out _ _ hS3 (fun _ => ?_)
        clear hK K
        cases lb
        ·
         have HNX : Hid (RoundS P (own : Int) S0 (setS set) b (k + 1) ∧ mo = cnt (setS set) nk) := ⟨HRS.out.1.skip (.inr (.inr (fun h => absurd (HRS.out.1.more HGO.out.pos h) (of_decide_eq_false HLB.out.symm)))), HRS.out.2⟩
         clear HRS HHE HLB
         refine wpAnyH_take (i := 25) rfl (by kernel_rfl) (by kernel_rfl) (by kernel_rfl) (fun _ _ _ h => h) (Or.inl ⟨by kernel_rfl, (by intro w' _; go_simp; with_reducible rfl)⟩) hS3 ?_
         go_simp
         refine wpAnyH_done (by kernel_rfl) ?_ _
         have HX3 : Hid (PBox q (some ⟨bk, ok, none⟩) nk ck As ns cs At nt ct W3 ∧ Q3 H false ⟨#[1]⟩ ⟨#[2]⟩ W3) := hS3.1
         clear hS3
         go_wp2_with fail
         go_roundw
         case measure => simp [intOf] <;> omega
         case rel => exact ⟨k + 1, set, _, _, _, b, by omega, by go_num, rfl, rfl, HO3, HNX, HX3, HB3⟩
        ·
         have HNX : Hid (RoundS P (own : Int) S0 (setS (set ++ [(k : Int)])) true (k + 1) ∧ mo + 1 = cnt (setS (set ++ [(k : Int)])) nk) := by
          refine ⟨?_, ?_⟩
          ·
           rw [setS_snoc]; exact HRS.out.1.put HGO.out.pos (by rw [← HNK.out]; exact hkl) hko HHE.out.symm (of_decide_eq_true HLB.out.symm)
          ·
           rw [setS_snoc, cnt_add HHE.out.symm, if_pos hkl, ← HRS.out.2]
         clear HRS HHE HLB hko
         refine wpAnyH_take (i := 25) rfl (by kernel_rfl) (by kernel_rfl) (by kernel_rfl) (fun _ _ _ h => h) (Or.inl ⟨by kernel_rfl, (by intro w' _; go_simp; with_reducible rfl)⟩) hS3 ?_
         go_simp
         refine wpAnyH_done (by kernel_rfl) ?_ _
         have HX3 : Hid (PBox q (some ⟨bk, ok, none⟩) nk ck As ns cs At nt ct W3 ∧ Q3 H false ⟨#[1]⟩ ⟨#[2]⟩ W3) := hS3.1
         clear hS3
         have HOa := Lib.hid (own_below HO3.out.2 (bel_alloc W3 (.cells #[.int .i64 (k : Int)] 3)))
         have HBa := Lib.hid (HB3.out.1.alloc HB3.out.1.size (.cells #[.int .i64 (k : Int)] 3))
         have HXa := Lib.hid (And.intro (HX3.out.1.next (bel_alloc W3 (.cells #[.int .i64 (k : Int)] 3))) (HX3.out.2.next (bel_alloc W3 (.cells #[.int .i64 (k : Int)] 3))))
         have hsz : B ≤ (W3.alloc (.cells #[.int .i64 (k : Int)] 3)).heap.size := Nat.le_trans HB3.out.2 (bel_alloc W3 _).size
         go_wp2_with (at_builtin; refine wpList_append_own _ rfl (.tmp 46) (.tmp 48) 22 rfl B 3 i0 _ 1 8 Tryz.underlying22 HII.out.1 HII.out.2.1 HII.out.2.2.1 HII.out.2.2.2 rfl (by decide) _ mo (set.flatMap intV) rfl HOa.out _ 1 1 [.int .i64 (k : Int)] rfl rfl (rd_new_cells _ _ _ _ (by simp)) (by simp [Value.oneCell']) (by simp only [maxLen]; omega) (by omega) hsz ?_)
         intro v' w' hown hgr hnil
         obtain ⟨g', cap, rfl, _, _⟩ := hown.form (by omega)
         obtain ⟨wt, hwt⟩ : ∃ W, W = W3.alloc (.cells #[.int .i64 (k : Int)] 3) := ⟨_, rfl⟩
         rw [← hwt] at HOa HBa HXa hgr hsz
         clear hwt
         have HB' : Hid (Below w.heap.size w w' ∧ B ≤ w'.heap.size) := ⟨Below.grown HBa.out hgr HBa.out.size (fun q hq => Nat.le_trans HC.out.2.2 (HOa.out.lt q hq).1), Nat.le_trans hsz hgr.size⟩
         have HX' : Hid (PBox q (some ⟨bk, ok, none⟩) nk ck As ns cs At nt ct w' ∧ Q3 H false ⟨#[1]⟩ ⟨#[2]⟩ w') := ⟨blk_grownB HOa.out HXa.out.1 HC.out.1 hgr, blk_grownB HOa.out HXa.out.2 HC.out.2.1 hgr⟩
         have HO' : Hid (mo + 1 = (set ++ [(k : Int)]).length ∧ w'.ownsRow B 3 1 (.slice (some ⟨g', 0, none⟩) (mo + 1) cap) (mo + 1) ((set ++ [(k : Int)]).flatMap intV)) := by
          show _ ∧ _
          rw [List.length_append, ← HO3.out.1, List.flatMap_append]
          exact ⟨rfl, hown⟩
         clear hown hgr hnil hsz HOa HBa HXa HO3 HB3 HX3
         go_wp2_with fail
         go_roundw
         case measure => simp [intOf] <;> omega
         case rel => exact ⟨k + 1, _, _, _, _, true, by omega, by go_num, rfl, rfl, HO', HNX, HX', HB'⟩
       ·
        have HNX : Hid (RoundS P (own : Int) S0 (setS set) b (k + 1) ∧ mo = cnt (setS set) nk) := ⟨HRS.out.1.skip (.inr (.inl HHE.out.symm)), HRS.out.2⟩
        clear HRS HHE
        refine wpAnyH_take (i := 15) rfl (by kernel_rfl) (by kernel_rfl) (by kernel_rfl) (fun _ _ _ h => h) (Or.inl ⟨by kernel_rfl, (by intro w' _; go_simp; with_reducible rfl)⟩) hS ?_
        go_simp
        refine wpAnyH_take (i := 16) rfl (by kernel_rfl) (by kernel_rfl) (by kernel_rfl) (fun _ _ _ h => h) (Or.inl ⟨by kernel_rfl, (by intro w' _; go_simp; with_reducible rfl)⟩) hS ?_
        go_simp
        refine wpAnyH_take (i := 17) rfl (by kernel_rfl) (by kernel_rfl) (by kernel_rfl) (fun _ _ _ h => h) (Or.inl ⟨by kernel_rfl, (by intro w' _; go_simp; with_reducible rfl)⟩) hS ?_
        go_simp
        refine wpAnyH_take (i := 18) (v := undef) rfl (by kernel_rfl) (by kernel_rfl) (by kernel_rfl) (fun _ _ _ h => h) (Or.inr ⟨by kernel_rfl, rfl⟩) hS ?_
        go_simp
        refine wpAnyH_take (i := 19) (v := undef) rfl (by kernel_rfl) (by kernel_rfl) (by kernel_rfl) (fun _ _ _ h => h) (Or.inr ⟨by kernel_rfl, rfl⟩) hS ?_
        go_simp
        refine wpAnyH_take (i := 20) (v := undef) rfl (by kernel_rfl) (by kernel_rfl) (by kernel_rfl) (fun _ _ _ h => h) (Or.inr ⟨by kernel_rfl, rfl⟩) hS ?_
        go_simp
        refine wpAnyH_take (i := 21) (v := undef) rfl (by kernel_rfl) (by kernel_rfl) (by kernel_rfl) (fun _ _ _ h => h) (Or.inr ⟨by kernel_rfl, rfl⟩) hS ?_
        go_simp
        refine wpAnyH_take (i := 22) (v := undef) rfl (by kernel_rfl) (by kernel_rfl) (by kernel_rfl) (fun _ _ _ h => h) (Or.inr ⟨by kernel_rfl, rfl⟩) hS ?_
        go_simp
        refine wpAnyH_take (i := 23) (v := undef) rfl (by kernel_rfl) (by kernel_rfl) (by kernel_rfl) (fun _ _ _ h => h) (Or.inr ⟨by kernel_rfl, rfl⟩) hS ?_
        go_simp
        refine wpAnyH_take (i := 24) (v := undef) rfl (by kernel_rfl) (by kernel_rfl) (by kernel_rfl) (fun _ _ _ h => h) (Or.inr ⟨by kernel_rfl, rfl⟩) hS ?_
        go_simp
        refine wpAnyH_take (i := 25) rfl (by kernel_rfl) (by kernel_rfl) (by kernel_rfl) (fun _ _ _ h => h) (Or.inl ⟨by kernel_rfl, (by intro w' _; go_simp; with_reducible rfl)⟩) hS ?_
        go_simp
        refine wpAnyH_done (by kernel_rfl) ?_ _
        have HX1 : Hid (PBox q (some ⟨bk, ok, none⟩) nk ck As ns cs At nt ct W1 ∧ Q3 H false ⟨#[1]⟩ ⟨#[2]⟩ W1) := hS.1
        clear hS
        go_wp2_with fail
        go_roundw
        case measure => simp [intOf] <;> omega
        case rel => exact ⟨k + 1, set, _, _, _, b, by omega, by go_num, rfl, rfl, HO1, HNX, HX1, HB1⟩
      ·
       have hyb : (y == 2) = false := beq_eq_false_iff_ne.2 hy2
       have HNX : Hid (RoundS P (own : Int) S0 (setS set) b (k + 1) ∧ mo = cnt (setS set) nk) := ⟨HRS.out.1.skip (.inr (.inr (vt_kind HGO.out (by rw [hky]; exact hy2)))), HRS.out.2⟩
       clear hy2 HRS hky
       refine wpAnyH_take (i := 0) rfl (by kernel_rfl) (by kernel_rfl) (by kernel_rfl) (fun _ _ _ h => h) (Or.inl ⟨by kernel_rfl, (by intro w' _; go_simp; with_reducible rfl)⟩) hS ?_
       go_simp
       refine wpAnyH_take (i := 1) rfl (by kernel_rfl) (by kernel_rfl) (by kernel_rfl) (fun _ _ _ h => h) (Or.inl ⟨by kernel_rfl, (by intro w' _; go_simp; with_reducible rfl)⟩) hS ?_
       go_simp
       refine wpAnyH_take (i := 2) rfl (by kernel_rfl) (by kernel_rfl) (by kernel_rfl) (fun _ _ _ h => h) (Or.inl ⟨by kernel_rfl, (by intro w' _; go_simp; with_reducible rfl)⟩) hS ?_
       go_simp
       refine wpAnyH_take (i := 3) rfl (by kernel_rfl) (by kernel_rfl) (by kernel_rfl) (fun _ _ _ h => h) (Or.inl ⟨by kernel_rfl, (by intro w' _; go_simp; with_reducible rfl)⟩) hS ?_
       go_simp
       refine wpAnyH_take (i := 4) rfl (by kernel_rfl) (by kernel_rfl) (by kernel_rfl) (fun _ _ _ h => h) (Or.inl ⟨by kernel_rfl, (by intro w' _; go_simp; with_reducible rfl)⟩) hS ?_
       go_simp
       refine wpAnyH_take (i := 5) (v := .slice (some ⟨bk, ok, none⟩) nk ck) rfl (by kernel_rfl) (by kernel_rfl) (by kernel_rfl) (fun _ _ _ h => h) (Or.inl ⟨by kernel_rfl, (by intro w' hw'; obtain ⟨q0, q1, q2⟩ := hw'.1.1.cells; go_simp)⟩) hS ?_
       go_simp
       refine wpAnyH_take (i := 6) rfl (by kernel_rfl) (by kernel_rfl) (by kernel_rfl) (fun _ _ _ h => h) (Or.inl ⟨by kernel_rfl, (by intro w' _; go_simp; with_reducible rfl)⟩) hS ?_
       go_simp
       refine wpAnyH_take (i := 7) (v := .pointer (some ⟨bk, ok + k, none⟩)) rfl (by kernel_rfl) (by kernel_rfl) (by kernel_rfl) (fun _ _ _ h => h) (Or.inl ⟨by kernel_rfl, (by intro w' _; go_simp)⟩) hS ?_
       go_simp
       refine wpAnyH_take (i := 8) (v := .int .i64 y) rfl (by kernel_rfl) (by kernel_rfl) (by kernel_rfl) (fun _ _ _ h => h) (Or.inl ⟨by kernel_rfl, (by intro w' hw'; have c8 := hw'.2.2; go_simp)⟩) hS ?_
       go_simp
       refine wpAnyH_take (i := 9) rfl (by kernel_rfl) (by kernel_rfl) (by kernel_rfl) (fun _ _ _ h => h) (Or.inl ⟨by kernel_rfl, (by intro w' _; go_simp; with_reducible rfl)⟩) hS ?_
       go_simp
       refine wpAnyH_take (i := 10) rfl (by kernel_rfl) (by kernel_rfl) (by kernel_rfl) (fun _ _ _ h => h) (Or.inl ⟨by kernel_rfl, (by intro w' _; go_simp; with_reducible rfl)⟩) hS ?_
       go_simp
       refine wpAnyH_take (i := 11) rfl (by kernel_rfl) (by kernel_rfl) (by kernel_rfl) (fun _ _ _ h => h) (Or.inl ⟨by kernel_rfl, (by intro w' _; go_simp; with_reducible rfl)⟩) hS ?_
       go_simp
       refine wpAnyH_take (i := 12) (v := undef) rfl (by kernel_rfl) (by kernel_rfl) (by kernel_rfl) (fun _ _ _ h => h) (Or.inr ⟨by kernel_rfl, rfl⟩) hS ?_
       go_simp
       refine wpAnyH_take (i := 13) (v := undef) rfl (by kernel_rfl) (by kernel_rfl) (by kernel_rfl) (fun _ _ _ h => h) (Or.inr ⟨by kernel_rfl, rfl⟩) hS ?_
       go_simp
       refine wpAnyH_take (i := 14) (v := undef) rfl (by kernel_rfl) (by kernel_rfl) (by kernel_rfl) (fun _ _ _ h => h) (Or.inr ⟨by kernel_rfl, rfl⟩) hS ?_
       go_simp
       refine wpAnyH_take (i := 15) (v := undef) rfl (by kernel_rfl) (by kernel_rfl) (by kernel_rfl) (fun _ _ _ h => h) (Or.inr ⟨by kernel_rfl, rfl⟩) hS ?_
       go_simp
       refine wpAnyH_take (i := 16) rfl (by kernel_rfl) (by kernel_rfl) (by kernel_rfl) (fun _ _ _ h => h) (Or.inl ⟨by kernel_rfl, (by intro w' _; go_simp; with_reducible rfl)⟩) hS ?_
       go_simp
       refine wpAnyH_take (i := 17) rfl (by kernel_rfl) (by kernel_rfl) (by kernel_rfl) (fun _ _ _ h => h) (Or.inl ⟨by kernel_rfl, (by intro w' _; go_simp; with_reducible rfl)⟩) hS ?_
       go_simp
       refine wpAnyH_take (i := 18) (v := undef) rfl (by kernel_rfl) (by kernel_rfl) (by kernel_rfl) (fun _ _ _ h => h) (Or.inr ⟨by kernel_rfl, rfl⟩) hS ?_
       go_simp
       refine wpAnyH_take (i := 19) (v := undef) rfl (by kernel_rfl) (by kernel_rfl) (by kernel_rfl) (fun _ _ _ h => h) (Or.inr ⟨by kernel_rfl, rfl⟩) hS ?_
       go_simp
       refine wpAnyH_take (i := 20) (v := undef) rfl (by kernel_rfl) (by kernel_rfl) (by kernel_rfl) (fun _ _ _ h => h) (Or.inr ⟨by kernel_rfl, rfl⟩) hS ?_
       go_simp
       refine wpAnyH_take (i := 21) (v := undef) rfl (by kernel_rfl) (by kernel_rfl) (by kernel_rfl) (fun _ _ _ h => h) (Or.inr ⟨by kernel_rfl, rfl⟩) hS ?_
       go_simp
       refine wpAnyH_take (i := 22) (v := undef) rfl (by kernel_rfl) (by kernel_rfl) (by kernel_rfl) (fun _ _ _ h => h) (Or.inr ⟨by kernel_rfl, rfl⟩) hS ?_
       go_simp
       refine wpAnyH_take (i := 23) (v := undef) rfl (by kernel_rfl) (by kernel_rfl) (by kernel_rfl) (fun _ _ _ h => h) (Or.inr ⟨by kernel_rfl, rfl⟩) hS ?_
       go_simp
       refine wpAnyH_take (i := 24) (v := undef) rfl (by kernel_rfl) (by kernel_rfl) (by kernel_rfl) (fun _ _ _ h => h) (Or.inr ⟨by kernel_rfl, rfl⟩) hS ?_
       go_simp
       refine wpAnyH_take (i := 25) rfl (by kernel_rfl) (by kernel_rfl) (by kernel_rfl) (fun _ _ _ h => h) (Or.inl ⟨by kernel_rfl, (by intro w' _; go_simp; with_reducible rfl)⟩) hS ?_
       go_simp
       refine wpAnyH_done (by kernel_rfl) ?_ _
       have HX1 : Hid (PBox q (some ⟨bk, ok, none⟩) nk ck As ns cs At nt ct W1 ∧ Q3 H false ⟨#[1]⟩ ⟨#[2]⟩ W1) := hS.1
       clear hS
       go_wp2_with fail
       go_roundw
       case measure => simp [intOf] <;> omega
       case rel => exact ⟨k + 1, set, _, _, _, b, by omega, by go_num, rfl, rfl, HO1, HNX, HX1, HB1⟩
    ·
     obtain rfl : k = nk := by omega
     go_wp2_with fail
     go_roundw
     case measure =>
      have h1 := HRS.out.1.ch
      rw [← HNK.out] at h1
      have h2 := cnt_le (setS set) k
      have h3 := HRS.out.2
      have h4 := HM0.out
      simp only [lenOf, bOf]
      rcases h1 with ⟨rfl, h1⟩ | ⟨rfl, h1⟩
      ·
       rw [h1] at h3; simp only [bOf]; omega
      ·
       simp only [bOf]; omega
     case rel => exact ⟨set, Ao, mo, co, b, rfl, rfl, HO, ⟨HRS.out.1.sound, HRS.out.2⟩, (fun e => by have := HRS.out.1; rw [e, HNK.out] at this; exact this.closed), HXwp, HBwp⟩

end Go.Proofs.YtomfcmlomfcghaaGreatDoor

/- insolvencyref1.two, Controlled, Controls, connected, Connected, Circle. -/
set_option linter.unusedVariables false
set_option linter.unusedSimpArgs false
namespace Go.Proofs.YtomfcmlomfcghaaGreatDoor
open Go.RowKit

set_option maxHeartbeats 4000000 in
set_option maxRecDepth 100000 in
theorem rTwo_calls (Ak : Option Addr) (nk ck : Nat) (As : Option Addr) (ns cs : Nat) (At : Option Addr) (nt ct : Nat) (P : Prt) (m : Nat) (a b : Int) (w : World) (hp : PRd Ak nk As ns At nt P w) (hb : PB m P) :
 Calls Tryz.prog 43 #[ptyVal Ak nk ck As ns cs At nt ct, .int .i64 a, .int .i64 b] w fun e w' => e = .returned (.int .i64 (twoErr P a b)) ∧ Below w.heap.size w w' := by
 have HP := Lib.hid hp
 have HPB := Lib.hid hb
 have HNK := Lib.hid hp.nk
 have HNT := Lib.hid hp.nt
 have gk : nk ≤ maxLen := by rw [hp.nk]; exact hb.kl
 unfold maxLen at gk
 clear hp hb
 obtain ⟨E, hE⟩ : ∃ E, E = chk P := ⟨_, rfl⟩
 have HCK' := fun (W : World) (hW : Below w.heap.size w W) => rchk_calls Ak nk ck As ns cs At nt ct P m W (HP.out.next hW) HPB.out
 rw [← hE] at HCK'
 have HE := Lib.hid hE
 have HCK := Lib.hid HCK'
 clear hE HCK'
 obtain ⟨w0, hw0⟩ : ∃ W, W = w.alloc (.cells #[.slice Ak nk ck, .slice As ns cs, .slice At nt ct] 26) := ⟨_, rfl⟩
 obtain ⟨q, hq⟩ : ∃ q, q = w.heap.size := ⟨_, rfl⟩
 have HB0 : Hid (Below w.heap.size w w0) := by rw [hw0]; exact bel_alloc _ _
 have HX0 : Hid (PBox q Ak nk ck As ns cs At nt ct w0) := by rw [hw0, hq]; exact blk_new _ _
 obtain ⟨T, hT⟩ : ∃ T, T = twoErr P a b := ⟨_, rfl⟩
 rw [← hT]
 have HT := Lib.hid hT
 clear hT
 by_cases h0 : E = 0
 ·
  subst h0
  rcases f1 : inN nk a with _ | _
  ·
   have F1 := Lib.hid f1
   clear f1
   obtain rfl : T = 14 := by rw [HT.out]; unfold twoErr; rw [← HE.out, ← HNK.out, F1.out]; rfl
   by_cases g1 : a < 0
   ·
    have d1 : decide (a < 0) = true := decide_eq_true g1
    go_enter Tryz.func43, Tryz.ntmps43
    go_upto_region 1 with fail
    rw [← hw0, ← hq]
    have HQ := Lib.hid hq
    clear hw0 hq
    obtain ⟨k0, k1, k2⟩ := HX0.out.cells
    go_wp2_with fail
    clear k0 k1 k2
    refine (HCK.out _ HB0.out).mono ?_
    rintro e w1 ⟨rfl, hb⟩
    have HXw1 := Lib.hid (HX0.out.next hb)
    have HBw1 : Hid (Below w.heap.size w w1) := HB0.out.trans (hb.mono HB0.out.size)
    clear hb HX0 HB0
    obtain ⟨k0, k1, k2⟩ := HXw1.out.cells
    go_wp2_with fail
    go_ret
    exact ⟨rfl, HBw1.out⟩
   ·
    have d1 : decide (a < 0) = false := decide_eq_false g1
    have d2 : decide ((nk : Int) ≤ a) = true := decide_eq_true (by have := mt inN_iff.2 (by rw [F1.out]; decide); omega)
    clear g1
    go_enter Tryz.func43, Tryz.ntmps43
    go_upto_region 1 with fail
    rw [← hw0, ← hq]
    have HQ := Lib.hid hq
    clear hw0 hq
    obtain ⟨k0, k1, k2⟩ := HX0.out.cells
    go_wp2_with fail
    clear k0 k1 k2
    refine (HCK.out _ HB0.out).mono ?_
    rintro e w1 ⟨rfl, hb⟩
    have HXw1 := Lib.hid (HX0.out.next hb)
    have HBw1 : Hid (Below w.heap.size w w1) := HB0.out.trans (hb.mono HB0.out.size)
    clear hb HX0 HB0
    obtain ⟨k0, k1, k2⟩ := HXw1.out.cells
    go_wp2_with fail
    go_ret
    exact ⟨rfl, HBw1.out⟩
  ·
   have ho := inN_true f1
   have d1 : decide (a < 0) = false := decide_eq_false (by omega)
   have d2 : decide ((nk : Int) ≤ a) = false := decide_eq_false (by omega)
   have F1 := Lib.hid f1
   clear f1 ho
   rcases f3 : inN nk b with _ | _
   ·
    have F3 := Lib.hid f3
    clear f3
    obtain rfl : T = 14 := by rw [HT.out]; unfold twoErr; rw [← HE.out, ← HNK.out, F1.out, F3.out]; rfl
    by_cases g1 : b < 0
    ·
     have d3 : decide (b < 0) = true := decide_eq_true g1
     go_enter Tryz.func43, Tryz.ntmps43
     go_upto_region 1 with fail
     rw [← hw0, ← hq]
     have HQ := Lib.hid hq
     clear hw0 hq
     obtain ⟨k0, k1, k2⟩ := HX0.out.cells
     go_wp2_with fail
     clear k0 k1 k2
     refine (HCK.out _ HB0.out).mono ?_
     rintro e w1 ⟨rfl, hb⟩
     have HXw1 := Lib.hid (HX0.out.next hb)
     have HBw1 : Hid (Below w.heap.size w w1) := HB0.out.trans (hb.mono HB0.out.size)
     clear hb HX0 HB0
     obtain ⟨k0, k1, k2⟩ := HXw1.out.cells
     go_wp2_with fail
     go_ret
     exact ⟨rfl, HBw1.out⟩
    ·
     have d3 : decide (b < 0) = false := decide_eq_false g1
     have d4 : decide ((nk : Int) ≤ b) = true := decide_eq_true (by have := mt inN_iff.2 (by rw [F3.out]; decide); omega)
     clear g1
     go_enter Tryz.func43, Tryz.ntmps43
     go_upto_region 1 with fail
     rw [← hw0, ← hq]
     have HQ := Lib.hid hq
     clear hw0 hq
     obtain ⟨k0, k1, k2⟩ := HX0.out.cells
     go_wp2_with fail
     clear k0 k1 k2
     refine (HCK.out _ HB0.out).mono ?_
     rintro e w1 ⟨rfl, hb⟩
     have HXw1 := Lib.hid (HX0.out.next hb)
     have HBw1 : Hid (Below w.heap.size w w1) := HB0.out.trans (hb.mono HB0.out.size)
     clear hb HX0 HB0
     obtain ⟨k0, k1, k2⟩ := HXw1.out.cells
     go_wp2_with fail
     go_ret
     exact ⟨rfl, HBw1.out⟩
   ·
    have ho := inN_true f3
    have d3 : decide (b < 0) = false := decide_eq_false (by omega)
    have d4 : decide ((nk : Int) ≤ b) = false := decide_eq_false (by omega)
    have F3 := Lib.hid f3
    clear f3 ho
    obtain rfl : T = 0 := by rw [HT.out]; unfold twoErr; rw [← HE.out, ← HNK.out, F1.out, F3.out]; rfl
    go_enter Tryz.func43, Tryz.ntmps43
    go_upto_region 1 with fail
    rw [← hw0, ← hq]
    have HQ := Lib.hid hq
    clear hw0 hq
    obtain ⟨k0, k1, k2⟩ := HX0.out.cells
    go_wp2_with fail
    clear k0 k1 k2
    refine (HCK.out _ HB0.out).mono ?_
    rintro e w1 ⟨rfl, hb⟩
    have HXw1 := Lib.hid (HX0.out.next hb)
    have HBw1 : Hid (Below w.heap.size w w1) := HB0.out.trans (hb.mono HB0.out.size)
    clear hb HX0 HB0
    obtain ⟨k0, k1, k2⟩ := HXw1.out.cells
    go_wp2_with fail
    go_ret
    exact ⟨rfl, HBw1.out⟩
 ·
  have hE0 : (E == 0) = false := beq_eq_false_iff_ne.2 h0
  obtain rfl : T = E := by rw [HT.out]; unfold twoErr; rw [← HE.out, if_pos h0]
  clear h0
  go_enter Tryz.func43, Tryz.ntmps43
  go_upto_region 1 with fail
  rw [← hw0, ← hq]
  have HQ := Lib.hid hq
  clear hw0 hq
  obtain ⟨k0, k1, k2⟩ := HX0.out.cells
  go_wp2_with fail
  clear k0 k1 k2
  refine (HCK.out _ HB0.out).mono ?_
  rintro e w1 ⟨rfl, hb⟩
  have HXw1 := Lib.hid (HX0.out.next hb)
  have HBw1 : Hid (Below w.heap.size w w1) := HB0.out.trans (hb.mono HB0.out.size)
  clear hb HX0 HB0
  obtain ⟨k0, k1, k2⟩ := HXw1.out.cells
  go_wp2_with fail
  go_ret
  exact ⟨rfl, HBw1.out⟩

set_option maxHeartbeats 4000000 in
set_option maxRecDepth 100000 in
theorem rcon_calls (Ak : Option Addr) (nk ck : Nat) (As : Option Addr) (ns cs : Nat) (At : Option Addr) (nt ct : Nat) (P : Prt) (m : Nat) (a b : Nat) (w : World) (hp : PRd Ak nk As ns At nt P w) (hb : PB m P) (hgo : Good P) (han : a < nk) (hbn : b < nk) (r : Bool) (hr : r = con P a b) :
 Calls Tryz.prog 50 #[ptyVal Ak nk ck As ns cs At nt ct, .int .i64 (a : Int), .int .i64 (b : Int)] w fun e w' => e = .returned (.bool r) ∧ Below w.heap.size w w' := by
 have HP := Lib.hid hp
 have HPB := Lib.hid hb
 have HNK := Lib.hid hp.nk
 have HNT := Lib.hid hp.nt
 have gk : nk ≤ maxLen := by rw [hp.nk]; exact hb.kl
 unfold maxLen at gk
 clear hp hb
 obtain ⟨w0, hw0⟩ : ∃ W, W = w.alloc (.cells #[.slice Ak nk ck, .slice As ns cs, .slice At nt ct] 26) := ⟨_, rfl⟩
 obtain ⟨q, hq⟩ : ∃ q, q = w.heap.size := ⟨_, rfl⟩
 have HB0 : Hid (Below w.heap.size w w0) := by rw [hw0]; exact bel_alloc _ _
 have HX0 : Hid (PBox q Ak nk ck As ns cs At nt ct w0) := by rw [hw0, hq]; exact blk_new _ _
 have HGO := Lib.hid hgo
 have HR := Lib.hid hr
 have gk32 : nk ≤ 32 := by rw [HNK.out]; exact hgo.kl
 have gt64 : nt ≤ 64 := by rw [HNT.out]; exact hgo.tl
 clear hgo hr
 by_cases hab : a = b
 ·
  have hb1 : ((a : Int) == (b : Int)) = true := beq_iff_eq.2 (by omega)
  obtain rfl : r = true := by rw [HR.out, hab]; exact con_self
  clear hab
  go_enter Tryz.func50, Tryz.ntmps50
  go_upto_region 1 with fail
  rw [← hw0, ← hq]
  have HQ := Lib.hid hq
  clear hw0 hq
  obtain ⟨k0, k1, k2⟩ := HX0.out.cells
  go_wp2_with fail
  clear k0 k1 k2
  go_ret
  exact ⟨rfl, HB0.out⟩
 ·
  have hb1 : ((a : Int) == (b : Int)) = false := beq_eq_false_iff_ne.2 (by omega)
  have HAB := Lib.hid hab
  clear hab
  go_enter Tryz.func50, Tryz.ntmps50
  go_upto_region 1 with fail
  rw [← hw0, ← hq]
  have HQ := Lib.hid hq
  clear hw0 hq
  obtain ⟨k0, k1, k2⟩ := HX0.out.cells
  go_wp2_with fail
  clear k0 k1 k2
  go_loopw [7] (fun i wr => ∃ k : Nat, k ≤ nt ∧ i = .int .i64 (k : Int) ∧ Hid ((P.ties.take k).any (tieHit a b) = false) ∧ Hid (PBox q Ak nk ck As ns cs At nt ct wr) ∧ Hid (Below w.heap.size w wr)) (fun i _ => nt - (intOf i).toNat)
  case atStart => exact ⟨0, Nat.zero_le _, rfl, rfl, HX0, HB0⟩
  case round =>
   clear HX0 HB0
   obtain ⟨j, hj, rfl, HTT, HXwr, HBwr⟩ := hrel
   rename World => wr
   obtain ⟨j0, j1, j2⟩ := HXwr.out.cells
   by_cases hjl : j < nt
   ·
    have hjl2 : (j : Int) < (nt : Int) := by omega
    obtain ⟨t, ht⟩ := getElem?_of_lt (l := P.ties) (k := j) (by rw [← HNT.out]; exact hjl)
    have HMT := Lib.hid (And.intro (List.mem_of_getElem? ht) ht)
    obtain ⟨bb, off, hA, _, hc⟩ := Rd.at_ (enc := tieV) (fun _ => rfl) (HP.out.t.next HBwr.out) ht
    subst hA
    have p0 := hc 0 _ rfl
    have p1 := hc 1 _ rfl
    rw [Nat.add_zero] at p0
    rw [← Nat.add_assoc] at p1
    clear hc ht
    obtain ⟨x, y⟩ := t
    dsimp only at p0 p1
    have HBA : Hid (Below w.heap.size w (wr.alloc (.cells #[.int .i64 x, .int .i64 y] 87))) := HBwr.out.alloc HBwr.out.size _
    have HXA : Hid (PBox q Ak nk ck As ns cs (some ⟨bb, off, none⟩) nt ct (wr.alloc (.cells #[.int .i64 x, .int .i64 y] 87))) := HXwr.out.next (bel_alloc _ _)
    have hsa : TBox wr.heap.size x y (wr.alloc (.cells #[.int .i64 x, .int .i64 y] 87)) := blk_new _ _
    obtain ⟨s0, s1⟩ := hsa.cells
    clear hsa HXwr HBwr
    by_cases h1 : x = (a : Int)
    ·
     have e1 : (x == (a : Int)) = true := beq_iff_eq.2 h1
     by_cases h2 : y = (b : Int)
     ·
      have e2 : (y == (b : Int)) = true := beq_iff_eq.2 h2
      obtain rfl : r = true := by rw [HR.out, con_eq]; have : P.ties.any (tieHit a b) = true := List.any_eq_true.2 ⟨(x, y), HMT.out.1, by unfold tieHit; dsimp only; rw [e1, e2]; rfl⟩; rw [this]; simp
      clear h1 h2
      go_wp2_with fail
      go_ret
      exact ⟨rfl, HBA.out⟩
     ·
      have e2 : (y == (b : Int)) = false := beq_eq_false_iff_ne.2 h2
      by_cases h3 : x = (b : Int)
      ·
       have e3 : (x == (b : Int)) = true := beq_iff_eq.2 h3
       by_cases h4 : y = (a : Int)
       ·
        have e4 : (y == (a : Int)) = true := beq_iff_eq.2 h4
        obtain rfl : r = true := by rw [HR.out, con_eq]; have : P.ties.any (tieHit a b) = true := List.any_eq_true.2 ⟨(x, y), HMT.out.1, by unfold tieHit; dsimp only; rw [e3, e4]; simp⟩; rw [this]; simp
        clear h1 h2 h3 h4
        go_wp2_with fail
        go_ret
        exact ⟨rfl, HBA.out⟩
       ·
        have e4 : (y == (a : Int)) = false := beq_eq_false_iff_ne.2 h4
        have HNX : Hid ((P.ties.take (j + 1)).any (tieHit a b) = false) := any_take HTT.out HMT.out.2 (by unfold tieHit; dsimp only; rw [e2, e4]; simp)
        clear h1 h2 h3 h4 HTT HMT
        go_wp2_with fail
        go_roundw
        case measure => simp [intOf] <;> omega
        case rel => exact ⟨j + 1, by omega, by go_num, HNX, HXA, HBA⟩
      ·
       have e3 : (x == (b : Int)) = false := beq_eq_false_iff_ne.2 h3
       have HNX : Hid ((P.ties.take (j + 1)).any (tieHit a b) = false) := any_take HTT.out HMT.out.2 (by unfold tieHit; dsimp only; rw [e2, e3]; simp)
       clear h1 h2 h3 HTT HMT
       go_wp2_with fail
       go_roundw
       case measure => simp [intOf] <;> omega
       case rel => exact ⟨j + 1, by omega, by go_num, HNX, HXA, HBA⟩
    ·
     have e1 : (x == (a : Int)) = false := beq_eq_false_iff_ne.2 h1
     by_cases h3 : x = (b : Int)
     ·
      have e3 : (x == (b : Int)) = true := beq_iff_eq.2 h3
      by_cases h4 : y = (a : Int)
      ·
       have e4 : (y == (a : Int)) = true := beq_iff_eq.2 h4
       obtain rfl : r = true := by rw [HR.out, con_eq]; have : P.ties.any (tieHit a b) = true := List.any_eq_true.2 ⟨(x, y), HMT.out.1, by unfold tieHit; dsimp only; rw [e3, e4]; simp⟩; rw [this]; simp
       clear h1 h3 h4
       go_wp2_with fail
       go_ret
       exact ⟨rfl, HBA.out⟩
      ·
       have e4 : (y == (a : Int)) = false := beq_eq_false_iff_ne.2 h4
       have HNX : Hid ((P.ties.take (j + 1)).any (tieHit a b) = false) := any_take HTT.out HMT.out.2 (by unfold tieHit; dsimp only; rw [e1, e4]; simp)
       clear h1 h3 h4 HTT HMT
       go_wp2_with fail
       go_roundw
       case measure => simp [intOf] <;> omega
       case rel => exact ⟨j + 1, by omega, by go_num, HNX, HXA, HBA⟩
     ·
      have e3 : (x == (b : Int)) = false := beq_eq_false_iff_ne.2 h3
      have HNX : Hid ((P.ties.take (j + 1)).any (tieHit a b) = false) := any_take HTT.out HMT.out.2 (by unfold tieHit; dsimp only; rw [e1, e3]; simp)
      clear h1 h3 HTT HMT
      go_wp2_with fail
      go_roundw
      case measure => simp [intOf] <;> omega
      case rel => exact ⟨j + 1, by omega, by go_num, HNX, HXA, HBA⟩
   ·
    have HTF : Hid (P.ties.any (tieHit a b) = false) := by
     have := HTT.out
     rwa [List.take_of_length_le (by rw [← HNT.out]; omega)] at this
    clear HTT
    go_wp2_with fail
    clear j0 j1 j2 hj hjl
    go_loopw [9] (fun i wr => ∃ k : Nat, k ≤ nk ∧ i = .int .i64 (k : Int) ∧ Hid ((List.range k).any (ownHit P a b) = false) ∧ Hid (PBox q Ak nk ck As ns cs At nt ct wr) ∧ Hid (Below w.heap.size w wr)) (fun i _ => nk - (intOf i).toNat)
    case atStart => exact ⟨0, Nat.zero_le _, rfl, rfl, HXwr, HBwr⟩
    case round =>
     clear HXwr HBwr
     obtain ⟨k, hk, rfl, HTT, HXwo, HBwo⟩ := hrel
     rename World => wo
     obtain ⟨j0, j1, j2⟩ := HXwo.out.cells
     by_cases hkl : k < nk
     ·
      have hkl2 : (k : Int) < (nk : Int) := by omega
      go_wp2_with fail
      clear j0 j1 j2
      refine (rctl_calls Ak nk ck As ns cs At nt ct P m k _ (HP.out.next HBwo.out) HPB.out HGO.out).mono ?_
      rintro e w3 ⟨A, c, rfl, hrd, hb⟩
      have HX3 := Lib.hid (HXwo.out.next hb)
      have HB3 : Hid (Below w.heap.size w w3) := HBwo.out.trans (hb.mono HBwo.out.size)
      obtain ⟨L, hL⟩ : ∃ L, L = idxs (ctl P (k : Int)) nk := ⟨_, rfl⟩
      rw [← hL] at hrd ⊢
      have hll : L.length ≤ 32 := by rw [hL]; have := idxs_len (ctl P (k : Int)) nk; omega
      obtain ⟨u, hu⟩ : ∃ u, u = ctl P (k : Int) a := ⟨_, rfl⟩
      obtain ⟨v, hv⟩ : ∃ u, u = ctl P (k : Int) b := ⟨_, rfl⟩
      have HA1 := Lib.hid (has_calls A L.length c L (a : Int) w3 rfl hrd (by simp only [maxLen]; omega) u (by rw [hu, hL]; exact (has_idxs han).symm))
      have HA2 := Lib.hid (has_calls A L.length c L (b : Int) w3 rfl hrd (by simp only [maxLen]; omega) v (by rw [hv, hL]; exact (has_idxs hbn).symm))
      have HU := Lib.hid hu
      have HV := Lib.hid hv
      obtain ⟨nl, hnl⟩ : ∃ n, n = L.length := ⟨_, rfl⟩
      rw [← hnl] at HA1 HA2 hll ⊢
      clear hb hrd hL hu hv hnl HXwo HBwo
      by_cases hka : k = a
      ·
       have hb4 : ((k : Int) == (a : Int)) = true := beq_iff_eq.2 (by omega)
       have hb5 : (k == a) = true := beq_iff_eq.2 hka
       have HG := Lib.hid hb5
       clear hka hb5
       by_cases hkb : k = b
       ·
        have hb2 : ((k : Int) == (b : Int)) = true := beq_iff_eq.2 (by omega)
        have hb3 : (k == b) = true := beq_iff_eq.2 hkb
        have HH := Lib.hid hb3
        clear hkb hb3
        obtain rfl : r = true := by rw [HR.out, con_eq]; have : (List.range P.kinds.length).any (ownHit P a b) = true := List.any_eq_true.2 ⟨k, List.mem_range.2 (by rw [← HNK.out]; exact hkl), by unfold ownHit; rw [HG.out, HH.out]; simp⟩; rw [this]; simp
        go_wp2_with fail
        go_ret
        exact ⟨rfl, HB3.out⟩
       ·
        have hb2 : ((k : Int) == (b : Int)) = false := beq_eq_false_iff_ne.2 (by omega)
        have hb3 : (k == b) = false := beq_eq_false_iff_ne.2 hkb
        have HH := Lib.hid hb3
        clear hkb hb3
        go_wp2_with fail
        refine HA2.out.mono ?_
        rintro e w4 ⟨rfl, hw4⟩
        rw [hw4]
        clear hw4
        cases v
        ·
         have HNX : Hid ((List.range (k + 1)).any (ownHit P a b) = false) := by show _ = _; rw [any_range_succ, HTT.out, ownHit, HG.out, HH.out, ← HV.out]; simp
         go_wp2_with fail
         go_roundw
         case measure => simp [intOf] <;> omega
         case rel => exact ⟨k + 1, by omega, by go_num, HNX, HX3, HB3⟩
        ·
         obtain rfl : r = true := by rw [HR.out, con_eq]; have : (List.range P.kinds.length).any (ownHit P a b) = true := List.any_eq_true.2 ⟨k, List.mem_range.2 (by rw [← HNK.out]; exact hkl), by unfold ownHit; rw [HG.out, HH.out, ← HV.out]; simp⟩; rw [this]; simp
         go_wp2_with fail
         go_ret
         exact ⟨rfl, HB3.out⟩
      ·
       have hb4 : ((k : Int) == (a : Int)) = false := beq_eq_false_iff_ne.2 (by omega)
       have hb5 : (k == a) = false := beq_eq_false_iff_ne.2 hka
       have HG := Lib.hid hb5
       clear hka hb5
       go_wp2_with fail
       refine HA1.out.mono ?_
       rintro e w4 ⟨rfl, hw4⟩
       rw [hw4]
       clear hw4
       cases u
       ·
        have HNX : Hid ((List.range (k + 1)).any (ownHit P a b) = false) := by show _ = _; rw [any_range_succ, HTT.out, ownHit, HG.out, ← HU.out]; simp
        go_wp2_with fail
        go_roundw
        case measure => simp [intOf] <;> omega
        case rel => exact ⟨k + 1, by omega, by go_num, HNX, HX3, HB3⟩
       ·
        by_cases hkb : k = b
        ·
         have hb2 : ((k : Int) == (b : Int)) = true := beq_iff_eq.2 (by omega)
         have hb3 : (k == b) = true := beq_iff_eq.2 hkb
         have HH := Lib.hid hb3
         clear hkb hb3
         obtain rfl : r = true := by rw [HR.out, con_eq]; have : (List.range P.kinds.length).any (ownHit P a b) = true := List.any_eq_true.2 ⟨k, List.mem_range.2 (by rw [← HNK.out]; exact hkl), by unfold ownHit; rw [HG.out, ← HU.out, HH.out]; simp⟩; rw [this]; simp
         go_wp2_with fail
         go_ret
         exact ⟨rfl, HB3.out⟩
        ·
         have hb2 : ((k : Int) == (b : Int)) = false := beq_eq_false_iff_ne.2 (by omega)
         have hb3 : (k == b) = false := beq_eq_false_iff_ne.2 hkb
         have HH := Lib.hid hb3
         clear hkb hb3
         go_wp2_with fail
         refine HA2.out.mono ?_
         rintro e w4 ⟨rfl, hw4⟩
         rw [hw4]
         clear hw4
         cases v
         ·
          have HNX : Hid ((List.range (k + 1)).any (ownHit P a b) = false) := by show _ = _; rw [any_range_succ, HTT.out, ownHit, HG.out, ← HU.out, HH.out, ← HV.out]; simp
          go_wp2_with fail
          go_roundw
          case measure => simp [intOf] <;> omega
          case rel => exact ⟨k + 1, by omega, by go_num, HNX, HX3, HB3⟩
         ·
          obtain rfl : r = true := by rw [HR.out, con_eq]; have : (List.range P.kinds.length).any (ownHit P a b) = true := List.any_eq_true.2 ⟨k, List.mem_range.2 (by rw [← HNK.out]; exact hkl), by unfold ownHit; rw [HG.out, ← HU.out, HH.out, ← HV.out]; simp⟩; rw [this]; simp
          go_wp2_with fail
          go_ret
          exact ⟨rfl, HB3.out⟩
     ·
      obtain rfl : r = false := by
       have := HTT.out
       rw [show k = P.kinds.length by rw [← HNK.out]; omega] at this
       rw [HR.out, con_eq, HTF.out, this, beq_eq_false_iff_ne.2 (fun e => HAB.out e.symm)]; rfl
      go_wp2_with fail
      go_ret
      exact ⟨rfl, HBwo.out⟩

set_option maxHeartbeats 4000000 in
set_option maxRecDepth 100000 in
theorem rConnected_calls (Ak : Option Addr) (nk ck : Nat) (As : Option Addr) (ns cs : Nat) (At : Option Addr) (nt ct : Nat) (P : Prt) (m : Nat) (a b : Int) (w : World) (hp : PRd Ak nk As ns At nt P w) (hb : PB m P) :
 Calls Tryz.prog 22 #[ptyVal Ak nk ck As ns cs At nt ct, .int .i64 a, .int .i64 b] w fun e w' => e = .returned (.tuple #[.bool (conB P a b), .int .i64 (twoErr P a b)]) ∧ Below w.heap.size w w' := by
 have HP := Lib.hid hp
 have HPB := Lib.hid hb
 have HNK := Lib.hid hp.nk
 have HNT := Lib.hid hp.nt
 have gk : nk ≤ maxLen := by rw [hp.nk]; exact hb.kl
 unfold maxLen at gk
 clear hp hb
 obtain ⟨w0, hw0⟩ : ∃ W, W = w.alloc (.cells #[.slice Ak nk ck, .slice As ns cs, .slice At nt ct] 26) := ⟨_, rfl⟩
 obtain ⟨q, hq⟩ : ∃ q, q = w.heap.size := ⟨_, rfl⟩
 have HB0 : Hid (Below w.heap.size w w0) := by rw [hw0]; exact bel_alloc _ _
 have HX0 : Hid (PBox q Ak nk ck As ns cs At nt ct w0) := by rw [hw0, hq]; exact blk_new _ _
 obtain ⟨E, hE⟩ : ∃ E, E = twoErr P a b := ⟨_, rfl⟩
 have HC' := fun (W : World) (hW : Below w.heap.size w W) => rTwo_calls Ak nk ck As ns cs At nt ct P m a b W (HP.out.next hW) HPB.out
 rw [← hE] at HC'
 have HC := Lib.hid HC'
 have HE := Lib.hid hE
 rw [← hE]
 clear HC' hE
 by_cases h0 : E = 0
 ·
  subst h0
  have hpt := twoErr_parts HE.out.symm
  have ha := inN_true hpt.2.1
  have hbb := inN_true hpt.2.2
  rw [← HNK.out] at ha hbb
  obtain ⟨an, han⟩ : ∃ i : Nat, a = (i : Int) := ⟨a.toNat, by omega⟩
  obtain ⟨bn, hbn⟩ : ∃ i : Nat, b = (i : Int) := ⟨b.toNat, by omega⟩
  subst han
  subst hbn
  have hal : an < nk := by omega
  have hbl : bn < nk := by omega
  have HGO := Lib.hid (Good.of_chk hpt.1)
  obtain ⟨r, hr⟩ : ∃ r, r = con P an bn := ⟨_, rfl⟩
  have e2 : conB P (an : Int) (bn : Int) = r := by unfold conB; rw [← HE.out, if_pos rfl, Int.toNat_natCast, Int.toNat_natCast, hr]
  rw [e2]
  have HR := Lib.hid hr
  clear e2 hr
  clear ha hbb hpt
  go_enter Tryz.func22, Tryz.ntmps22
  go_upto_region 1 with fail
  rw [← hw0, ← hq]
  have HQ := Lib.hid hq
  clear hw0 hq
  obtain ⟨k0, k1, k2⟩ := HX0.out.cells
  go_wp2_with fail
  clear k0 k1 k2
  refine (HC.out _ HB0.out).mono ?_
  rintro e w1 ⟨rfl, hb⟩
  have HXw1 := Lib.hid (HX0.out.next hb)
  have HBw1 : Hid (Below w.heap.size w w1) := HB0.out.trans (hb.mono HB0.out.size)
  clear hb HX0 HB0
  obtain ⟨k0, k1, k2⟩ := HXw1.out.cells
  go_wp2_with fail
  clear k0 k1 k2
  refine (rcon_calls Ak nk ck As ns cs At nt ct P m an bn _ (HP.out.next HBw1.out) HPB.out HGO.out hal hbl r HR.out).mono ?_
  rintro e w3 ⟨rfl, hb⟩
  have HBw3 : Hid (Below w.heap.size w w3) := HBw1.out.trans (hb.mono HBw1.out.size)
  clear hb
  go_wp2_with fail
  go_ret2
  exact ⟨rfl, HBw3.out⟩
 ·
  have hE0 : (E != 0) = true := bne_iff_ne.2 h0
  have e2 : conB P a b = false := by unfold conB; rw [← HE.out, if_neg h0]
  rw [e2]
  clear e2 h0
  go_enter Tryz.func22, Tryz.ntmps22
  go_upto_region 1 with fail
  rw [← hw0, ← hq]
  have HQ := Lib.hid hq
  clear hw0 hq
  obtain ⟨k0, k1, k2⟩ := HX0.out.cells
  go_wp2_with fail
  clear k0 k1 k2
  refine (HC.out _ HB0.out).mono ?_
  rintro e w1 ⟨rfl, hb⟩
  have HXw1 := Lib.hid (HX0.out.next hb)
  have HBw1 : Hid (Below w.heap.size w w1) := HB0.out.trans (hb.mono HB0.out.size)
  clear hb HX0 HB0
  go_wp2_with fail
  go_ret2
  exact ⟨rfl, HBw1.out⟩

end Go.Proofs.YtomfcmlomfcghaaGreatDoor

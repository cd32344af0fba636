/- insolvencyref1.controlled. -/
import Derived.Test.YtomfcmlomfcghaaGreatDoorPtyG
import Derived.Test.YtomfcmlomfcghaaGreatDoorPtsI
import Derived.Test.YtomfcmlomfcghaaGreatDoorPCtl
set_option linter.unusedVariables false
set_option linter.unusedSimpArgs false
namespace Go.Proofs.YtomfcmlomfcghaaGreatDoor
open Go.RowKit

theorem half_fields : rneg halfR = false ∧ rnum halfR = ⟨#[1]⟩ ∧ rden halfR = ⟨#[2]⟩ := by
  have h1 : halfR.num = 1 := by unfold halfR; decide +kernel
  have h2 : halfR.den = 2 := by unfold halfR; decide +kernel
  refine ⟨?_, ?_, ?_⟩
  · rw [rneg, h1]; decide
  · rw [rnum, h1]; exact ncan_one
  · rw [rden, h2, if_neg (by decide)]; exact ncan_two
/-- the boxes of the call and a cell of the kinds -/
def KS (q H : Nat) (Ak : Option Addr) (nk ck : Nat) (As : Option Addr) (ns cs : Nat) (At : Option Addr) (nt ct : Nat) (bk j : Nat) (y : Int) (W : World) : Prop := (PBox q Ak nk ck As ns cs At nt ct W ∧ Q3 H false ⟨#[1]⟩ ⟨#[2]⟩ W) ∧ bk < W.heap.size ∧ W.cell? ⟨bk, j, none⟩ = some (.int .i64 y)
theorem KS.next {q H : Nat} {Ak : Option Addr} {nk ck : Nat} {As : Option Addr} {ns cs : Nat} {At : Option Addr} {nt ct : Nat} {bk j : Nat} {y : Int} {W W' : World} (h : KS q H Ak nk ck As ns cs At nt ct bk j y W) (hb : Below W.heap.size W W') : KS q H Ak nk ck As ns cs At nt ct bk j y W' :=
  ⟨⟨h.1.1.next hb, h.1.2.next hb⟩, Nat.lt_of_lt_of_le h.2.1 hb.size, (hb.cell (p := ⟨bk, j, none⟩) h.2.1).trans h.2.2⟩

set_option maxHeartbeats 8000000 in
set_option maxRecDepth 100000 in
theorem rctl_calls (Ak : Option Addr) (nk ck : Nat) (As : Option Addr) (ns cs : Nat) (At : Option Addr) (nt ct : Nat) (P : Prt) (m : Nat) (own : Nat) (w : World) (hp : PRd Ak nk As ns At nt P w) (hb : PB m P) (hgo : Good P) :
    Calls Tryz.prog 42 #[ptyVal Ak nk ck As ns cs At nt ct, .int .i64 (own : Int)] w (IntsPost (idxs (ctl P (own : Int)) nk) w) := by
  have HP := Lib.hid hp
  have HPB := Lib.hid hb
  have HGO := Lib.hid hgo
  have HNK := Lib.hid hp.nk
  have HNS := Lib.hid hp.ns
  have gk : nk ≤ 32 := by rw [hp.nk]; exact hgo.kl
  have gs : ns ≤ 64 := by rw [hp.ns]; exact hgo.sl
  clear hp hb hgo
  obtain ⟨i0, hi, hz0, hz1, hz2⟩ := info_parts Tryz.info_int
  have HII := Lib.hid (And.intro hi (And.intro hz0 (And.intro hz1 hz2)))
  clear hi hz0 hz1 hz2
  obtain ⟨q, hq⟩ : ∃ q, q = w.heap.size := ⟨_, rfl⟩
  obtain ⟨H, hH⟩ : ∃ q, q = w.heap.size + 1 := ⟨_, rfl⟩
  obtain ⟨B, hB⟩ : ∃ q, q = w.heap.size + 2 := ⟨_, rfl⟩
  obtain ⟨w0, hw0⟩ : ∃ W, W = (w.alloc (.cells #[.slice Ak nk ck, .slice As ns cs, .slice At nt ct] 26)).alloc (.cells #[.bool false, .string ⟨#[1]⟩, .string ⟨#[2]⟩] 70) := ⟨_, rfl⟩
  have HB0 : Hid (Below w.heap.size w w0) := by rw [hw0]; exact (bel_alloc _ _).alloc (by simp) _
  have HX0 : Hid (PBox q Ak nk ck As ns cs At nt ct w0 ∧ Q3 H false ⟨#[1]⟩ ⟨#[2]⟩ w0) := by
    refine ⟨?_, ?_⟩
    · rw [hw0, hq]; exact (show PBox w.heap.size Ak nk ck As ns cs At nt ct (w.alloc (.cells #[.slice Ak nk ck, .slice As ns cs, .slice At nt ct] 26)) from blk_new _ _).next (bel_alloc _ _)
    · have := blk_new (w.alloc (.cells #[.slice Ak nk ck, .slice As ns cs, .slice At nt ct] 26)) (.cells #[.bool false, .string ⟨#[1]⟩, .string ⟨#[2]⟩] 70)
      rw [World.size_alloc, ← hH, ← hw0] at this
      exact this
  have HZ0 : Hid (B ≤ w0.heap.size) := by rw [hw0, hB, World.size_alloc, World.size_alloc]; exact Nat.le_refl _
  have HC : Hid (q < B ∧ H < B ∧ w.heap.size ≤ B) := ⟨by omega, by omega, by omega⟩
  go_enter Tryz.func42, Tryz.ntmps42
  go_upto_region 3 with fail
  rw [← hw0, ← hH, ← hq]
  have HQ := Lib.hid (And.intro hq (And.intro hH hB))
  clear hw0 hq hH hB
  go_wp2_with fail
  go_loopw [5, 7] (fun o ch wr => ∃ (set : List Int) (Ao : Option Addr) (mo co : Nat) (b : Bool), o = .slice Ao mo co ∧ ch = .bool b ∧ Hid (mo = set.length ∧ wr.ownsRow B 3 1 (.slice Ao mo co) mo (set.flatMap intV)) ∧ Hid (Sound P (own : Int) (setS set) ∧ mo = cnt (setS set) nk) ∧ Hid (b = false → Cls P (own : Int) (setS set)) ∧ Hid (PBox q Ak nk ck As ns cs At nt ct wr ∧ Q3 H false ⟨#[1]⟩ ⟨#[2]⟩ wr) ∧ Hid (Below w.heap.size w wr ∧ B ≤ wr.heap.size)) (fun o ch _ => 2 * (nk - lenOf o) + bOf ch)
  case atStart => exact ⟨[], none, 0, 0, true, rfl, rfl, ⟨rfl, World.ownsRow_nil _ _ _ _⟩, ⟨(fun c h => by cases h), (cnt_nil nk).symm⟩, (fun h => by cases h), HX0, ⟨HB0.out, HZ0.out⟩⟩
  case round =>
    clear HX0 HB0 HZ0
    obtain ⟨set, Ao, mo, co, b, rfl, rfl, HO, HSD, HCL, HXwo, HBwo⟩ := hrel
    rename World => wo
    cases b
    · have HCT : Hid (∀ c, setS set c = ctl P (own : Int) c) := fun c => ctl_eq HSD.out.1 (HCL.out (by simp)) c
      have HRS : Hid (Rd wo wo.heap.size 1 Ao set.length (set.flatMap intV)) := by have h := Rd.of_own HO.out.2; rw [HO.out.1] at h; exact h
      have HML : Hid (mo = set.length) := HO.out.1
      have hmo : mo ≤ nk := by rw [HSD.out.2]; exact cnt_le _ _
      clear HCL HSD HO
      go_wp2_with fail
      go_loopw [9, 10] (fun o i wr => ∃ (k mo2 co2 : Nat) (Ao2 : Option Addr), k ≤ nk ∧ i = .int .i64 (k : Int) ∧ o = .slice Ao2 mo2 co2 ∧ Hid (mo2 = (idxs (ctl P (own : Int)) k).length ∧ wr.ownsRow wo.heap.size 3 1 (.slice Ao2 mo2 co2) mo2 ((idxs (ctl P (own : Int)) k).flatMap intV)) ∧ Hid (PBox q Ak nk ck As ns cs At nt ct wr) ∧ Hid (Below wo.heap.size wo wr)) (fun _ i _ => nk - (intOf i).toNat)
      case atStart => exact ⟨0, 0, 0, none, Nat.zero_le _, rfl, rfl, ⟨rfl, World.ownsRow_nil _ _ _ _⟩, HXwo.out.1, Below.refl _ _⟩
      case round =>
        obtain ⟨k, mo2, co2, Ao2, hk, rfl, rfl, HO2, HXwi, HYwi⟩ := hrel
        rename World => wi
        have HBwi : Hid (Below w.heap.size w wi) := HBwo.out.1.trans (HYwi.out.mono HBwo.out.1.size)
        obtain ⟨k0, k1, k2⟩ := HXwi.out.cells
        by_cases hkl : k < nk
        · have hkl2 : (k : Int) < (nk : Int) := by omega
          obtain ⟨h, hh⟩ : ∃ h, h = setS set k := ⟨_, rfl⟩
          have HHC := Lib.hid (has_calls Ao mo co set (k : Int) wi HML.out ((HRS.out).next HYwi.out) (by simp only [maxLen]; omega) h hh)
          have HHE : Hid (h = ctl P (own : Int) k) := by show _ = _; rw [hh]; exact HCT.out k
          clear hh
          go_wp2_with fail
          clear k0 k1 k2
          refine HHC.out.mono ?_
          rintro e wb ⟨rfl, hbw⟩
          rw [hbw]
          clear hbw HHC
          cases h
          · have HNX : Hid (idxs (ctl P (own : Int)) (k + 1) = idxs (ctl P (own : Int)) k) := by show _ = _; rw [idxs_take, ← HHE.out]; rfl
            go_wp2_with fail
            go_roundw
            case measure => simp [intOf] <;> omega
            case rel => exact ⟨k + 1, _, _, _, by omega, by go_num, rfl, by rw [HNX.out]; exact HO2, HXwi, HYwi⟩
          · have HNX : Hid (idxs (ctl P (own : Int)) (k + 1) = idxs (ctl P (own : Int)) k ++ [(k : Int)]) := by show _ = _; rw [idxs_take, ← HHE.out]; rfl
            have hml : mo2 ≤ k := by rw [HO2.out.1]; exact idxs_len _ _
            have HOa := Lib.hid (own_below HO2.out.2 (bel_alloc wi (.cells #[.int .i64 (k : Int)] 3)))
            have HYa := Lib.hid (HYwi.out.alloc HYwi.out.size (.cells #[.int .i64 (k : Int)] 3))
            have HXa := Lib.hid (HXwi.out.next (bel_alloc wi (.cells #[.int .i64 (k : Int)] 3)))
            have hsz := HYa.out.size
            go_wp2_with (at_builtin; refine wpList_append_own _ rfl (.tmp 60) (.tmp 62) 22 rfl wo.heap.size 3 i0 _ 1 8 Tryz.underlying22 HII.out.1 HII.out.2.1 HII.out.2.2.1 HII.out.2.2.2 rfl (by decide) _ mo2 ((idxs (ctl P (own : Int)) k).flatMap intV) rfl HOa.out _ 1 1 [.int .i64 (k : Int)] rfl rfl (rd_new_cells _ _ _ _ (by simp)) (by simp [Value.oneCell']) (by simp only [maxLen]; omega) (by omega) hsz ?_)
            intro v' w' hown hgr hnil
            obtain ⟨g', cap, rfl, _, _⟩ := hown.form (by omega)
            obtain ⟨wt, hwt⟩ : ∃ W, W = wi.alloc (.cells #[.int .i64 (k : Int)] 3) := ⟨_, rfl⟩
            rw [← hwt] at HOa HYa HXa hgr
            clear hwt
            have HY' : Hid (Below wo.heap.size wo w') := Below.grown HYa.out hgr HYa.out.size (fun q hq => (HOa.out.lt q hq).1)
            have HX' : Hid (PBox q Ak nk ck As ns cs At nt ct w') := blk_grownB HOa.out HXa.out (Array.getElem?_eq_some_iff.1 HXwo.out.1).1 hgr
            have HO' : Hid (mo2 + 1 = (idxs (ctl P (own : Int)) (k + 1)).length ∧ w'.ownsRow wo.heap.size 3 1 (.slice (some ⟨g', 0, none⟩) (mo2 + 1) cap) (mo2 + 1) ((idxs (ctl P (own : Int)) (k + 1)).flatMap intV)) := by
              show _ ∧ _
              rw [HNX.out, List.length_append, ← HO2.out.1, List.flatMap_append]
              exact ⟨rfl, hown⟩
            clear hown hgr hnil HOa HYa HXa HO2 HXwi HYwi HBwi
            go_wp2_with fail
            go_roundw
            case measure => simp [intOf] <;> omega
            case rel => exact ⟨k + 1, _, _, _, by omega, by go_num, rfl, HO', HX', HY'⟩
        · obtain rfl : k = nk := by omega
          go_wp2_with fail
          go_ret
          refine ⟨Ao2, co2, by rw [← HO2.out.1]; rfl, ?_, HBwi.out⟩
          have := Rd.of_own HO2.out.2
          rw [HO2.out.1] at this
          exact this
    · clear HCL
      obtain ⟨S0, hS0⟩ : ∃ S, S = setS set := ⟨_, rfl⟩
      have HS0 : Hid (RoundS P (own : Int) S0 (setS set) false 0 ∧ mo = cnt S0 nk) := ⟨by rw [hS0]; exact RoundS.start HSD.out.1, by rw [hS0]; exact HSD.out.2⟩
      have hmo0 : mo ≤ nk := by rw [HSD.out.2]; exact cnt_le _ _
      have HS1 : Hid (mo = cnt (setS set) nk) := HSD.out.2
      clear hS0 HSD
      obtain ⟨m0, hm0⟩ : ∃ m0, m0 = mo := ⟨_, rfl⟩
      have HM0 : Hid (m0 = cnt S0 nk) := by rw [hm0]; exact HS0.out.2
      go_wp2_with fail
      go_loopw [5, 7, 8] (fun o ch i wr => ∃ (k : Nat) (set : List Int) (Ao : Option Addr) (mo co : Nat) (b : Bool), k ≤ nk ∧ i = .int .i64 (k : Int) ∧ o = .slice Ao mo co ∧ ch = .bool b ∧ Hid (mo = set.length ∧ wr.ownsRow B 3 1 (.slice Ao mo co) mo (set.flatMap intV)) ∧ Hid (RoundS P (own : Int) S0 (setS set) b k ∧ mo = cnt (setS set) nk) ∧ Hid (PBox q Ak nk ck As ns cs At nt ct wr ∧ Q3 H false ⟨#[1]⟩ ⟨#[2]⟩ wr) ∧ Hid (Below w.heap.size w wr ∧ B ≤ wr.heap.size)) (fun _ _ i _ => nk - (intOf i).toNat)
      case atStart => exact ⟨0, set, Ao, mo, co, false, Nat.zero_le _, rfl, rfl, rfl, HO, ⟨HS0.out.1, HS1.out⟩, HXwo, HBwo⟩
      case round =>
        clear HO HXwo HBwo HS0 HS1
        obtain ⟨k, set, Ao, mo, co, b, hk, rfl, rfl, rfl, HO, HRS, HXwp, HBwp⟩ := hrel
        rename World => wp
        obtain ⟨k0, k1, k2⟩ := HXwp.out.1.cells
        by_cases hkl : k < nk
        · have hkl2 : (k : Int) < (nk : Int) := by omega
          have hmo : mo ≤ nk := by rw [HRS.out.2]; exact cnt_le _ _
          obtain ⟨y, hy⟩ := getElem?_of_lt (l := P.kinds) (k := k) (by rw [← HNK.out]; exact hkl)
          have hky : kindAt P.kinds (k : Int) = y := by unfold kindAt; rw [Int.toNat_natCast, List.getD, hy]; rfl
          obtain ⟨bk, ok, hA, hbk, ky⟩ := rd_int (HP.out.k.next HBwp.out.1) hy
          subst hA
          clear hy
          go_wp2_with fail
          clear k0 k1 k2
          obtain ⟨W1, hW1⟩ : ∃ W, W = wp.drew := ⟨_, rfl⟩
          have hS : (KS q H (some ⟨bk, ok, none⟩) nk ck As ns cs At nt ct bk (ok + k) y) W1 := by rw [hW1]; exact ⟨⟨HXwp.out.1, HXwp.out.2⟩, hbk, ky⟩
          have HO1 : Hid (mo = set.length ∧ W1.ownsRow B 3 1 (.slice Ao mo co) mo (set.flatMap intV)) := by rw [hW1]; exact HO.out
          have HB1 : Hid (Below w.heap.size w W1 ∧ B ≤ W1.heap.size) := by rw [hW1]; exact ⟨HBwp.out.1.drew, HBwp.out.2⟩
          refine wp_region_held_drew (S := (KS q H (some ⟨bk, ok, none⟩) nk ck As ns cs At nt ct bk (ok + k) y)) (by kernel_rfl) (by rw [← hW1]; exact hS) ?_
          rw [← hW1]
          intro _
          clear hW1 HXwp HBwp HO hbk ky
          by_cases hko : (k : Int) = (own : Int)
          · have hne : ((k : Int) != (own : Int)) = false := by rw [hko]; simp
            have HNX : Hid (RoundS P (own : Int) S0 (setS set) b (k + 1) ∧ mo = cnt (setS set) nk) := ⟨HRS.out.1.skip (.inl hko), HRS.out.2⟩
            clear hko HRS hky
            refine wpAnyH_take (i := 0) rfl (by kernel_rfl) (by kernel_rfl) (by kernel_rfl) (fun _ _ _ h => h) (Or.inl ⟨by kernel_rfl, (by intro w' _; go_simp; with_reducible rfl)⟩) hS ?_
            go_simp
            refine wpAnyH_take (i := 1) rfl (by kernel_rfl) (by kernel_rfl) (by kernel_rfl) (fun _ _ _ h => h) (Or.inl ⟨by kernel_rfl, (by intro w' _; go_simp; with_reducible rfl)⟩) hS ?_
            go_simp
            refine wpAnyH_take (i := 2) rfl (by kernel_rfl) (by kernel_rfl) (by kernel_rfl) (fun _ _ _ h => h) (Or.inl ⟨by kernel_rfl, (by intro w' _; go_simp; with_reducible rfl)⟩) hS ?_
            go_simp
            refine wpAnyH_take (i := 3) rfl (by kernel_rfl) (by kernel_rfl) (by kernel_rfl) (fun _ _ _ h => h) (Or.inl ⟨by kernel_rfl, (by intro w' _; go_simp; with_reducible rfl)⟩) hS ?_
            go_simp
            refine wpAnyH_take (i := 4) (v := undef) rfl (by kernel_rfl) (by kernel_rfl) (by kernel_rfl) (fun _ _ _ h => h) (Or.inr ⟨by kernel_rfl, rfl⟩) hS ?_
            go_simp
            refine wpAnyH_take (i := 5) (v := undef) rfl (by kernel_rfl) (by kernel_rfl) (by kernel_rfl) (fun _ _ _ h => h) (Or.inr ⟨by kernel_rfl, rfl⟩) hS ?_
            go_simp
            refine wpAnyH_take (i := 6) (v := undef) rfl (by kernel_rfl) (by kernel_rfl) (by kernel_rfl) (fun _ _ _ h => h) (Or.inr ⟨by kernel_rfl, rfl⟩) hS ?_
            go_simp
            refine wpAnyH_take (i := 7) (v := undef) rfl (by kernel_rfl) (by kernel_rfl) (by kernel_rfl) (fun _ _ _ h => h) (Or.inr ⟨by kernel_rfl, rfl⟩) hS ?_
            go_simp
            refine wpAnyH_take (i := 8) (v := undef) rfl (by kernel_rfl) (by kernel_rfl) (by kernel_rfl) (fun _ _ _ h => h) (Or.inr ⟨by kernel_rfl, rfl⟩) hS ?_
            go_simp
            refine wpAnyH_take (i := 9) (v := undef) rfl (by kernel_rfl) (by kernel_rfl) (by kernel_rfl) (fun _ _ _ h => h) (Or.inr ⟨by kernel_rfl, rfl⟩) hS ?_
            go_simp
            refine wpAnyH_take (i := 10) rfl (by kernel_rfl) (by kernel_rfl) (by kernel_rfl) (fun _ _ _ h => h) (Or.inl ⟨by kernel_rfl, (by intro w' _; go_simp; with_reducible rfl)⟩) hS ?_
            go_simp
            refine wpAnyH_take (i := 11) rfl (by kernel_rfl) (by kernel_rfl) (by kernel_rfl) (fun _ _ _ h => h) (Or.inl ⟨by kernel_rfl, (by intro w' _; go_simp; with_reducible rfl)⟩) hS ?_
            go_simp
            refine wpAnyH_take (i := 12) (v := undef) rfl (by kernel_rfl) (by kernel_rfl) (by kernel_rfl) (fun _ _ _ h => h) (Or.inr ⟨by kernel_rfl, rfl⟩) hS ?_
            go_simp
            refine wpAnyH_take (i := 13) (v := undef) rfl (by kernel_rfl) (by kernel_rfl) (by kernel_rfl) (fun _ _ _ h => h) (Or.inr ⟨by kernel_rfl, rfl⟩) hS ?_
            go_simp
            refine wpAnyH_take (i := 14) (v := undef) rfl (by kernel_rfl) (by kernel_rfl) (by kernel_rfl) (fun _ _ _ h => h) (Or.inr ⟨by kernel_rfl, rfl⟩) hS ?_
            go_simp
            refine wpAnyH_take (i := 15) (v := undef) rfl (by kernel_rfl) (by kernel_rfl) (by kernel_rfl) (fun _ _ _ h => h) (Or.inr ⟨by kernel_rfl, rfl⟩) hS ?_
            go_simp
            refine wpAnyH_take (i := 16) rfl (by kernel_rfl) (by kernel_rfl) (by kernel_rfl) (fun _ _ _ h => h) (Or.inl ⟨by kernel_rfl, (by intro w' _; go_simp; with_reducible rfl)⟩) hS ?_
            go_simp
            refine wpAnyH_take (i := 17) rfl (by kernel_rfl) (by kernel_rfl) (by kernel_rfl) (fun _ _ _ h => h) (Or.inl ⟨by kernel_rfl, (by intro w' _; go_simp; with_reducible rfl)⟩) hS ?_
            go_simp
            refine wpAnyH_take (i := 18) (v := undef) rfl (by kernel_rfl) (by kernel_rfl) (by kernel_rfl) (fun _ _ _ h => h) (Or.inr ⟨by kernel_rfl, rfl⟩) hS ?_
            go_simp
            refine wpAnyH_take (i := 19) (v := undef) rfl (by kernel_rfl) (by kernel_rfl) (by kernel_rfl) (fun _ _ _ h => h) (Or.inr ⟨by kernel_rfl, rfl⟩) hS ?_
            go_simp
            refine wpAnyH_take (i := 20) (v := undef) rfl (by kernel_rfl) (by kernel_rfl) (by kernel_rfl) (fun _ _ _ h => h) (Or.inr ⟨by kernel_rfl, rfl⟩) hS ?_
            go_simp
            refine wpAnyH_take (i := 21) (v := undef) rfl (by kernel_rfl) (by kernel_rfl) (by kernel_rfl) (fun _ _ _ h => h) (Or.inr ⟨by kernel_rfl, rfl⟩) hS ?_
            go_simp
            refine wpAnyH_take (i := 22) (v := undef) rfl (by kernel_rfl) (by kernel_rfl) (by kernel_rfl) (fun _ _ _ h => h) (Or.inr ⟨by kernel_rfl, rfl⟩) hS ?_
            go_simp
            refine wpAnyH_take (i := 23) (v := undef) rfl (by kernel_rfl) (by kernel_rfl) (by kernel_rfl) (fun _ _ _ h => h) (Or.inr ⟨by kernel_rfl, rfl⟩) hS ?_
            go_simp
            refine wpAnyH_take (i := 24) (v := undef) rfl (by kernel_rfl) (by kernel_rfl) (by kernel_rfl) (fun _ _ _ h => h) (Or.inr ⟨by kernel_rfl, rfl⟩) hS ?_
            go_simp
            refine wpAnyH_take (i := 25) rfl (by kernel_rfl) (by kernel_rfl) (by kernel_rfl) (fun _ _ _ h => h) (Or.inl ⟨by kernel_rfl, (by intro w' _; go_simp; with_reducible rfl)⟩) hS ?_
            go_simp
            refine wpAnyH_done (by kernel_rfl) ?_ _
            have HX1 : Hid (PBox q (some ⟨bk, ok, none⟩) nk ck As ns cs At nt ct W1 ∧ Q3 H false ⟨#[1]⟩ ⟨#[2]⟩ W1) := hS.1
            clear hS
            go_wp2_with fail
            go_roundw
            case measure => simp [intOf] <;> omega
            case rel => exact ⟨k + 1, set, _, _, _, b, by omega, by go_num, rfl, rfl, HO1, HNX, HX1, HB1⟩
          · have hne : ((k : Int) != (own : Int)) = true := bne_iff_ne.2 hko
            by_cases hy2 : y = 2
            · subst hy2
              clear hky
              obtain ⟨h, hh⟩ : ∃ h, h = setS set k := ⟨_, rfl⟩
              have HHC := Lib.hid (has_calls Ao mo co set (k : Int) W1 HO1.out.1 (by have := Rd.of_own HO1.out.2; rw [HO1.out.1] at this; exact this) (by simp only [maxLen]; omega) h hh)
              have HHE := Lib.hid hh
              clear hh
              refine wpAnyH_take (i := 0) rfl (by kernel_rfl) (by kernel_rfl) (by kernel_rfl) (fun _ _ _ h => h) (Or.inl ⟨by kernel_rfl, (by intro w' _; go_simp; with_reducible rfl)⟩) hS ?_
              go_simp
              refine wpAnyH_take (i := 1) rfl (by kernel_rfl) (by kernel_rfl) (by kernel_rfl) (fun _ _ _ h => h) (Or.inl ⟨by kernel_rfl, (by intro w' _; go_simp; with_reducible rfl)⟩) hS ?_
              go_simp
              refine wpAnyH_take (i := 2) rfl (by kernel_rfl) (by kernel_rfl) (by kernel_rfl) (fun _ _ _ h => h) (Or.inl ⟨by kernel_rfl, (by intro w' _; go_simp; with_reducible rfl)⟩) hS ?_
              go_simp
              refine wpAnyH_take (i := 3) rfl (by kernel_rfl) (by kernel_rfl) (by kernel_rfl) (fun _ _ _ h => h) (Or.inl ⟨by kernel_rfl, (by intro w' _; go_simp; with_reducible rfl)⟩) hS ?_
              go_simp
              refine wpAnyH_take (i := 4) rfl (by kernel_rfl) (by kernel_rfl) (by kernel_rfl) (fun _ _ _ h => h) (Or.inl ⟨by kernel_rfl, (by intro w' _; go_simp; with_reducible rfl)⟩) hS ?_
              go_simp
              refine wpAnyH_take (i := 5) (v := .slice (some ⟨bk, ok, none⟩) nk ck) rfl (by kernel_rfl) (by kernel_rfl) (by kernel_rfl) (fun _ _ _ h => h) (Or.inl ⟨by kernel_rfl, (by intro w' hw'; obtain ⟨q0, q1, q2⟩ := hw'.1.1.cells; go_simp)⟩) hS ?_
              go_simp
              refine wpAnyH_take (i := 6) rfl (by kernel_rfl) (by kernel_rfl) (by kernel_rfl) (fun _ _ _ h => h) (Or.inl ⟨by kernel_rfl, (by intro w' _; go_simp; with_reducible rfl)⟩) hS ?_
              go_simp
              refine wpAnyH_take (i := 7) (v := .pointer (some ⟨bk, ok + k, none⟩)) rfl (by kernel_rfl) (by kernel_rfl) (by kernel_rfl) (fun _ _ _ h => h) (Or.inl ⟨by kernel_rfl, (by intro w' _; go_simp)⟩) hS ?_
              go_simp
              refine wpAnyH_take (i := 8) (v := .int .i64 2) rfl (by kernel_rfl) (by kernel_rfl) (by kernel_rfl) (fun _ _ _ h => h) (Or.inl ⟨by kernel_rfl, (by intro w' hw'; have c8 := hw'.2.2; go_simp)⟩) hS ?_
              go_simp
              refine wpAnyH_take (i := 9) rfl (by kernel_rfl) (by kernel_rfl) (by kernel_rfl) (fun _ _ _ h => h) (Or.inl ⟨by kernel_rfl, (by intro w' _; go_simp; with_reducible rfl)⟩) hS ?_
              go_simp
              refine wpAnyH_take (i := 10) rfl (by kernel_rfl) (by kernel_rfl) (by kernel_rfl) (fun _ _ _ h => h) (Or.inl ⟨by kernel_rfl, (by intro w' _; go_simp; with_reducible rfl)⟩) hS ?_
              go_simp
              refine wpAnyH_take (i := 11) rfl (by kernel_rfl) (by kernel_rfl) (by kernel_rfl) (fun _ _ _ h => h) (Or.inl ⟨by kernel_rfl, (by intro w' _; go_simp; with_reducible rfl)⟩) hS ?_
              go_simp
              refine wpAnyH_take (i := 12) rfl (by kernel_rfl) (by kernel_rfl) (by kernel_rfl) (fun _ _ _ h => h) (Or.inl ⟨by kernel_rfl, (by intro w' _; go_simp; with_reducible rfl)⟩) hS ?_
              go_simp
              refine wpAnyH_take (i := 13) rfl (by kernel_rfl) (by kernel_rfl) (by kernel_rfl) (fun _ _ _ h => h) (Or.inl ⟨by kernel_rfl, (by intro w' _; go_simp; with_reducible rfl)⟩) hS ?_
              go_simp
              refine wpAnyH_ready (rs := [14]) (by kernel_rfl) (by simp) ?_
              refine AllReadyH.cons rfl (fun K hK => ?_) AllReadyH.nil
              go_simp
              refine HHC.out.mono ?_
              rintro e wb ⟨rfl, hbw⟩
              rw [hbw]
              clear hbw HHC
              refine hK.out _ _ hS (fun _ => ?_)
              clear hK K
              cases h
              · obtain ⟨qv, hqv⟩ : ∃ x, x = vs (vF set (own : Int) (k : Int)) P.stakes := ⟨_, rfl⟩
                have hvt : qv = vt P (own : Int) (setS set) k := by rw [hqv]; exact vF_vt HGO.out set (by omega) k
                have hszq := vs_sz (f := vF set (own : Int) (k : Int)) (l := P.stakes) (m := m) (fun s hs => HPB.out.sz s hs)
                rw [← hqv] at hszq
                have hm2 := HPB.out.m2
                have hlen : P.stakes.length ≤ 64 := by rw [← HNS.out]; omega
                have hmul : (m + 1) * P.stakes.length ≤ 1001 * 64 := Nat.mul_le_mul (by omega) hlen
                have HVT' := rvotes_calls (some ⟨bk, ok, none⟩) nk ck As ns cs At nt ct Ao mo co P set (own : Int) (k : Int) m W1 (HP.out.next HB1.out.1) HPB.out (by omega) HO1.out.1 (by have := Rd.of_own HO1.out.2; rw [HO1.out.1] at this; rw [← HO1.out.1]; rw [← HO1.out.1] at this; exact this) (by simp only [maxLen]; omega)
                rw [← hqv] at HVT'
                have HLS' := fun W => refLess_calls halfR qv 1 64065 W sz_half (hszq.mono (by omega)) (by decide)
                obtain ⟨lb, hlb⟩ : ∃ b, b = decide (halfR < qv) := ⟨_, rfl⟩
                rw [← hlb] at HLS'
                unfold ratV at HVT' HLS'
                rw [half_fields.1, half_fields.2.1, half_fields.2.2] at HLS'
                obtain ⟨sv, hsv⟩ : ∃ x, x = rneg qv := ⟨_, rfl⟩
                obtain ⟨nv, hnv⟩ : ∃ x, x = rnum qv := ⟨_, rfl⟩
                obtain ⟨dv, hdv⟩ : ∃ x, x = rden qv := ⟨_, rfl⟩
                rw [← hsv, ← hnv, ← hdv] at HVT' HLS'
                have HVT := Lib.hid HVT'
                have HLS := Lib.hid HLS'
                have HLB : Hid (lb = decide (halfR < vt P (own : Int) (setS set) k)) := by show _ = _; rw [hlb, hvt]
                clear HVT' HLS' hsv hnv hdv hszq hm2 hlen hmul hqv hvt hlb
                refine wpAnyH_take (i := 15) rfl (by kernel_rfl) (by kernel_rfl) (by kernel_rfl) (fun _ _ _ h => h) (Or.inl ⟨by kernel_rfl, (by intro w' _; go_simp; with_reducible rfl)⟩) hS ?_
                go_simp
                refine wpAnyH_take (i := 16) rfl (by kernel_rfl) (by kernel_rfl) (by kernel_rfl) (fun _ _ _ h => h) (Or.inl ⟨by kernel_rfl, (by intro w' _; go_simp; with_reducible rfl)⟩) hS ?_
                go_simp
                refine wpAnyH_take (i := 17) rfl (by kernel_rfl) (by kernel_rfl) (by kernel_rfl) (fun _ _ _ h => h) (Or.inl ⟨by kernel_rfl, (by intro w' _; go_simp; with_reducible rfl)⟩) hS ?_
                go_simp
                refine wpAnyH_take (i := 18) (v := .agg #[.bool false, .string ⟨#[1]⟩, .string ⟨#[2]⟩]) rfl (by kernel_rfl) (by kernel_rfl) (by kernel_rfl) (fun _ _ _ h => h) (Or.inl ⟨by kernel_rfl, (by intro w' hw'; obtain ⟨q0, q1, q2⟩ := hw'.1.2.cells; go_simp)⟩) hS ?_
                go_simp
                refine wpAnyH_take (i := 19) (v := ptyVal (some ⟨bk, ok, none⟩) nk ck As ns cs At nt ct) rfl (by kernel_rfl) (by kernel_rfl) (by kernel_rfl) (fun _ _ _ h => h) (Or.inl ⟨by kernel_rfl, (by intro w' hw'; obtain ⟨q0, q1, q2⟩ := hw'.1.1.cells; go_simp)⟩) hS ?_
                go_simp
                refine wpAnyH_take (i := 20) rfl (by kernel_rfl) (by kernel_rfl) (by kernel_rfl) (fun _ _ _ h => h) (Or.inl ⟨by kernel_rfl, (by intro w' _; go_simp; with_reducible rfl)⟩) hS ?_
                go_simp
                refine wpAnyH_take (i := 21) rfl (by kernel_rfl) (by kernel_rfl) (by kernel_rfl) (fun _ _ _ h => h) (Or.inl ⟨by kernel_rfl, (by intro w' _; go_simp; with_reducible rfl)⟩) hS ?_
                go_simp
                refine wpAnyH_take (i := 22) rfl (by kernel_rfl) (by kernel_rfl) (by kernel_rfl) (fun _ _ _ h => h) (Or.inl ⟨by kernel_rfl, (by intro w' _; go_simp; with_reducible rfl)⟩) hS ?_
                go_simp
                refine wpAnyH_ready (rs := [23]) (by kernel_rfl) (by simp) ?_
                refine AllReadyH.cons rfl (fun K hK => ?_) AllReadyH.nil
                go_simp
                refine HVT.out.mono ?_
                rintro e W2 ⟨rfl, hb⟩
                have hS2 := hS.next hb
                have HO2 : Hid (mo = set.length ∧ W2.ownsRow B 3 1 (.slice Ao mo co) mo (set.flatMap intV)) := ⟨HO1.out.1, own_below HO1.out.2 hb⟩
                have HB2 : Hid (Below w.heap.size w W2 ∧ B ≤ W2.heap.size) := ⟨HB1.out.1.trans (hb.mono HB1.out.1.size), Nat.le_trans HB1.out.2 hb.size⟩
                clear hb hS HO1 HB1
                refine hK.out _ _ hS2 (fun _ => ?_)
                clear hK K
                refine wpAnyH_ready (rs := [24]) (by kernel_rfl) (by simp) ?_
                refine AllReadyH.cons rfl (fun K hK => ?_) AllReadyH.nil
                go_simp
                refine (HLS.out _).mono ?_
                rintro e W3 ⟨rfl, hb⟩
                have hS3 := hS2.next hb
                have HO3 : Hid (mo = set.length ∧ W3.ownsRow B 3 1 (.slice Ao mo co) mo (set.flatMap intV)) := ⟨HO2.out.1, own_below HO2.out.2 hb⟩
                have HB3 : Hid (Below w.heap.size w W3 ∧ B ≤ W3.heap.size) := ⟨HB2.out.1.trans (hb.mono HB2.out.1.size), Nat.le_trans HB2.out.2 hb.size⟩
                clear hb hS2 HO2 HB2
                refine hK.out _ _ hS3 (fun _ => ?_)
                clear hK K
                cases lb
                · have HNX : Hid (RoundS P (own : Int) S0 (setS set) b (k + 1) ∧ mo = cnt (setS set) nk) := ⟨HRS.out.1.skip (.inr (.inr (fun h => absurd (HRS.out.1.more HGO.out.pos h) (of_decide_eq_false HLB.out.symm)))), HRS.out.2⟩
                  clear HRS HHE HLB
                  refine wpAnyH_take (i := 25) rfl (by kernel_rfl) (by kernel_rfl) (by kernel_rfl) (fun _ _ _ h => h) (Or.inl ⟨by kernel_rfl, (by intro w' _; go_simp; with_reducible rfl)⟩) hS3 ?_
                  go_simp
                  refine wpAnyH_done (by kernel_rfl) ?_ _
                  have HX3 : Hid (PBox q (some ⟨bk, ok, none⟩) nk ck As ns cs At nt ct W3 ∧ Q3 H false ⟨#[1]⟩ ⟨#[2]⟩ W3) := hS3.1
                  clear hS3
                  go_wp2_with fail
                  go_roundw
                  case measure => simp [intOf] <;> omega
                  case rel => exact ⟨k + 1, set, _, _, _, b, by omega, by go_num, rfl, rfl, HO3, HNX, HX3, HB3⟩
                · have HNX : Hid (RoundS P (own : Int) S0 (setS (set ++ [(k : Int)])) true (k + 1) ∧ mo + 1 = cnt (setS (set ++ [(k : Int)])) nk) := by
                    refine ⟨?_, ?_⟩
                    · rw [setS_snoc]; exact HRS.out.1.put HGO.out.pos (by rw [← HNK.out]; exact hkl) hko HHE.out.symm (of_decide_eq_true HLB.out.symm)
                    · rw [setS_snoc, cnt_add HHE.out.symm, if_pos hkl, ← HRS.out.2]
                  clear HRS HHE HLB hko
                  refine wpAnyH_take (i := 25) rfl (by kernel_rfl) (by kernel_rfl) (by kernel_rfl) (fun _ _ _ h => h) (Or.inl ⟨by kernel_rfl, (by intro w' _; go_simp; with_reducible rfl)⟩) hS3 ?_
                  go_simp
                  refine wpAnyH_done (by kernel_rfl) ?_ _
                  have HX3 : Hid (PBox q (some ⟨bk, ok, none⟩) nk ck As ns cs At nt ct W3 ∧ Q3 H false ⟨#[1]⟩ ⟨#[2]⟩ W3) := hS3.1
                  clear hS3
                  have HOa := Lib.hid (own_below HO3.out.2 (bel_alloc W3 (.cells #[.int .i64 (k : Int)] 3)))
                  have HBa := Lib.hid (HB3.out.1.alloc HB3.out.1.size (.cells #[.int .i64 (k : Int)] 3))
                  have HXa := Lib.hid (And.intro (HX3.out.1.next (bel_alloc W3 (.cells #[.int .i64 (k : Int)] 3))) (HX3.out.2.next (bel_alloc W3 (.cells #[.int .i64 (k : Int)] 3))))
                  have hsz : B ≤ (W3.alloc (.cells #[.int .i64 (k : Int)] 3)).heap.size := Nat.le_trans HB3.out.2 (bel_alloc W3 _).size
                  go_wp2_with (at_builtin; refine wpList_append_own _ rfl (.tmp 46) (.tmp 48) 22 rfl B 3 i0 _ 1 8 Tryz.underlying22 HII.out.1 HII.out.2.1 HII.out.2.2.1 HII.out.2.2.2 rfl (by decide) _ mo (set.flatMap intV) rfl HOa.out _ 1 1 [.int .i64 (k : Int)] rfl rfl (rd_new_cells _ _ _ _ (by simp)) (by simp [Value.oneCell']) (by simp only [maxLen]; omega) (by omega) hsz ?_)
                  intro v' w' hown hgr hnil
                  obtain ⟨g', cap, rfl, _, _⟩ := hown.form (by omega)
                  obtain ⟨wt, hwt⟩ : ∃ W, W = W3.alloc (.cells #[.int .i64 (k : Int)] 3) := ⟨_, rfl⟩
                  rw [← hwt] at HOa HBa HXa hgr hsz
                  clear hwt
                  have HB' : Hid (Below w.heap.size w w' ∧ B ≤ w'.heap.size) := ⟨Below.grown HBa.out hgr HBa.out.size (fun q hq => Nat.le_trans HC.out.2.2 (HOa.out.lt q hq).1), Nat.le_trans hsz hgr.size⟩
                  have HX' : Hid (PBox q (some ⟨bk, ok, none⟩) nk ck As ns cs At nt ct w' ∧ Q3 H false ⟨#[1]⟩ ⟨#[2]⟩ w') := ⟨blk_grownB HOa.out HXa.out.1 HC.out.1 hgr, blk_grownB HOa.out HXa.out.2 HC.out.2.1 hgr⟩
                  have HO' : Hid (mo + 1 = (set ++ [(k : Int)]).length ∧ w'.ownsRow B 3 1 (.slice (some ⟨g', 0, none⟩) (mo + 1) cap) (mo + 1) ((set ++ [(k : Int)]).flatMap intV)) := by
                    show _ ∧ _
                    rw [List.length_append, ← HO3.out.1, List.flatMap_append]
                    exact ⟨rfl, hown⟩
                  clear hown hgr hnil hsz HOa HBa HXa HO3 HB3 HX3
                  go_wp2_with fail
                  go_roundw
                  case measure => simp [intOf] <;> omega
                  case rel => exact ⟨k + 1, _, _, _, _, true, by omega, by go_num, rfl, rfl, HO', HNX, HX', HB'⟩
              · have HNX : Hid (RoundS P (own : Int) S0 (setS set) b (k + 1) ∧ mo = cnt (setS set) nk) := ⟨HRS.out.1.skip (.inr (.inl HHE.out.symm)), HRS.out.2⟩
                clear HRS HHE
                refine wpAnyH_take (i := 15) rfl (by kernel_rfl) (by kernel_rfl) (by kernel_rfl) (fun _ _ _ h => h) (Or.inl ⟨by kernel_rfl, (by intro w' _; go_simp; with_reducible rfl)⟩) hS ?_
                go_simp
                refine wpAnyH_take (i := 16) rfl (by kernel_rfl) (by kernel_rfl) (by kernel_rfl) (fun _ _ _ h => h) (Or.inl ⟨by kernel_rfl, (by intro w' _; go_simp; with_reducible rfl)⟩) hS ?_
                go_simp
                refine wpAnyH_take (i := 17) rfl (by kernel_rfl) (by kernel_rfl) (by kernel_rfl) (fun _ _ _ h => h) (Or.inl ⟨by kernel_rfl, (by intro w' _; go_simp; with_reducible rfl)⟩) hS ?_
                go_simp
                refine wpAnyH_take (i := 18) (v := undef) rfl (by kernel_rfl) (by kernel_rfl) (by kernel_rfl) (fun _ _ _ h => h) (Or.inr ⟨by kernel_rfl, rfl⟩) hS ?_
                go_simp
                refine wpAnyH_take (i := 19) (v := undef) rfl (by kernel_rfl) (by kernel_rfl) (by kernel_rfl) (fun _ _ _ h => h) (Or.inr ⟨by kernel_rfl, rfl⟩) hS ?_
                go_simp
                refine wpAnyH_take (i := 20) (v := undef) rfl (by kernel_rfl) (by kernel_rfl) (by kernel_rfl) (fun _ _ _ h => h) (Or.inr ⟨by kernel_rfl, rfl⟩) hS ?_
                go_simp
                refine wpAnyH_take (i := 21) (v := undef) rfl (by kernel_rfl) (by kernel_rfl) (by kernel_rfl) (fun _ _ _ h => h) (Or.inr ⟨by kernel_rfl, rfl⟩) hS ?_
                go_simp
                refine wpAnyH_take (i := 22) (v := undef) rfl (by kernel_rfl) (by kernel_rfl) (by kernel_rfl) (fun _ _ _ h => h) (Or.inr ⟨by kernel_rfl, rfl⟩) hS ?_
                go_simp
                refine wpAnyH_take (i := 23) (v := undef) rfl (by kernel_rfl) (by kernel_rfl) (by kernel_rfl) (fun _ _ _ h => h) (Or.inr ⟨by kernel_rfl, rfl⟩) hS ?_
                go_simp
                refine wpAnyH_take (i := 24) (v := undef) rfl (by kernel_rfl) (by kernel_rfl) (by kernel_rfl) (fun _ _ _ h => h) (Or.inr ⟨by kernel_rfl, rfl⟩) hS ?_
                go_simp
                refine wpAnyH_take (i := 25) rfl (by kernel_rfl) (by kernel_rfl) (by kernel_rfl) (fun _ _ _ h => h) (Or.inl ⟨by kernel_rfl, (by intro w' _; go_simp; with_reducible rfl)⟩) hS ?_
                go_simp
                refine wpAnyH_done (by kernel_rfl) ?_ _
                have HX1 : Hid (PBox q (some ⟨bk, ok, none⟩) nk ck As ns cs At nt ct W1 ∧ Q3 H false ⟨#[1]⟩ ⟨#[2]⟩ W1) := hS.1
                clear hS
                go_wp2_with fail
                go_roundw
                case measure => simp [intOf] <;> omega
                case rel => exact ⟨k + 1, set, _, _, _, b, by omega, by go_num, rfl, rfl, HO1, HNX, HX1, HB1⟩
            · have hyb : (y == 2) = false := beq_eq_false_iff_ne.2 hy2
              have HNX : Hid (RoundS P (own : Int) S0 (setS set) b (k + 1) ∧ mo = cnt (setS set) nk) := ⟨HRS.out.1.skip (.inr (.inr (vt_kind HGO.out (by rw [hky]; exact hy2)))), HRS.out.2⟩
              clear hy2 HRS hky
              refine wpAnyH_take (i := 0) rfl (by kernel_rfl) (by kernel_rfl) (by kernel_rfl) (fun _ _ _ h => h) (Or.inl ⟨by kernel_rfl, (by intro w' _; go_simp; with_reducible rfl)⟩) hS ?_
              go_simp
              refine wpAnyH_take (i := 1) rfl (by kernel_rfl) (by kernel_rfl) (by kernel_rfl) (fun _ _ _ h => h) (Or.inl ⟨by kernel_rfl, (by intro w' _; go_simp; with_reducible rfl)⟩) hS ?_
              go_simp
              refine wpAnyH_take (i := 2) rfl (by kernel_rfl) (by kernel_rfl) (by kernel_rfl) (fun _ _ _ h => h) (Or.inl ⟨by kernel_rfl, (by intro w' _; go_simp; with_reducible rfl)⟩) hS ?_
              go_simp
              refine wpAnyH_take (i := 3) rfl (by kernel_rfl) (by kernel_rfl) (by kernel_rfl) (fun _ _ _ h => h) (Or.inl ⟨by kernel_rfl, (by intro w' _; go_simp; with_reducible rfl)⟩) hS ?_
              go_simp
              refine wpAnyH_take (i := 4) rfl (by kernel_rfl) (by kernel_rfl) (by kernel_rfl) (fun _ _ _ h => h) (Or.inl ⟨by kernel_rfl, (by intro w' _; go_simp; with_reducible rfl)⟩) hS ?_
              go_simp
              refine wpAnyH_take (i := 5) (v := .slice (some ⟨bk, ok, none⟩) nk ck) rfl (by kernel_rfl) (by kernel_rfl) (by kernel_rfl) (fun _ _ _ h => h) (Or.inl ⟨by kernel_rfl, (by intro w' hw'; obtain ⟨q0, q1, q2⟩ := hw'.1.1.cells; go_simp)⟩) hS ?_
              go_simp
              refine wpAnyH_take (i := 6) rfl (by kernel_rfl) (by kernel_rfl) (by kernel_rfl) (fun _ _ _ h => h) (Or.inl ⟨by kernel_rfl, (by intro w' _; go_simp; with_reducible rfl)⟩) hS ?_
              go_simp
              refine wpAnyH_take (i := 7) (v := .pointer (some ⟨bk, ok + k, none⟩)) rfl (by kernel_rfl) (by kernel_rfl) (by kernel_rfl) (fun _ _ _ h => h) (Or.inl ⟨by kernel_rfl, (by intro w' _; go_simp)⟩) hS ?_
              go_simp
              refine wpAnyH_take (i := 8) (v := .int .i64 y) rfl (by kernel_rfl) (by kernel_rfl) (by kernel_rfl) (fun _ _ _ h => h) (Or.inl ⟨by kernel_rfl, (by intro w' hw'; have c8 := hw'.2.2; go_simp)⟩) hS ?_
              go_simp
              refine wpAnyH_take (i := 9) rfl (by kernel_rfl) (by kernel_rfl) (by kernel_rfl) (fun _ _ _ h => h) (Or.inl ⟨by kernel_rfl, (by intro w' _; go_simp; with_reducible rfl)⟩) hS ?_
              go_simp
              refine wpAnyH_take (i := 10) rfl (by kernel_rfl) (by kernel_rfl) (by kernel_rfl) (fun _ _ _ h => h) (Or.inl ⟨by kernel_rfl, (by intro w' _; go_simp; with_reducible rfl)⟩) hS ?_
              go_simp
              refine wpAnyH_take (i := 11) rfl (by kernel_rfl) (by kernel_rfl) (by kernel_rfl) (fun _ _ _ h => h) (Or.inl ⟨by kernel_rfl, (by intro w' _; go_simp; with_reducible rfl)⟩) hS ?_
              go_simp
              refine wpAnyH_take (i := 12) (v := undef) rfl (by kernel_rfl) (by kernel_rfl) (by kernel_rfl) (fun _ _ _ h => h) (Or.inr ⟨by kernel_rfl, rfl⟩) hS ?_
              go_simp
              refine wpAnyH_take (i := 13) (v := undef) rfl (by kernel_rfl) (by kernel_rfl) (by kernel_rfl) (fun _ _ _ h => h) (Or.inr ⟨by kernel_rfl, rfl⟩) hS ?_
              go_simp
              refine wpAnyH_take (i := 14) (v := undef) rfl (by kernel_rfl) (by kernel_rfl) (by kernel_rfl) (fun _ _ _ h => h) (Or.inr ⟨by kernel_rfl, rfl⟩) hS ?_
              go_simp
              refine wpAnyH_take (i := 15) (v := undef) rfl (by kernel_rfl) (by kernel_rfl) (by kernel_rfl) (fun _ _ _ h => h) (Or.inr ⟨by kernel_rfl, rfl⟩) hS ?_
              go_simp
              refine wpAnyH_take (i := 16) rfl (by kernel_rfl) (by kernel_rfl) (by kernel_rfl) (fun _ _ _ h => h) (Or.inl ⟨by kernel_rfl, (by intro w' _; go_simp; with_reducible rfl)⟩) hS ?_
              go_simp
              refine wpAnyH_take (i := 17) rfl (by kernel_rfl) (by kernel_rfl) (by kernel_rfl) (fun _ _ _ h => h) (Or.inl ⟨by kernel_rfl, (by intro w' _; go_simp; with_reducible rfl)⟩) hS ?_
              go_simp
              refine wpAnyH_take (i := 18) (v := undef) rfl (by kernel_rfl) (by kernel_rfl) (by kernel_rfl) (fun _ _ _ h => h) (Or.inr ⟨by kernel_rfl, rfl⟩) hS ?_
              go_simp
              refine wpAnyH_take (i := 19) (v := undef) rfl (by kernel_rfl) (by kernel_rfl) (by kernel_rfl) (fun _ _ _ h => h) (Or.inr ⟨by kernel_rfl, rfl⟩) hS ?_
              go_simp
              refine wpAnyH_take (i := 20) (v := undef) rfl (by kernel_rfl) (by kernel_rfl) (by kernel_rfl) (fun _ _ _ h => h) (Or.inr ⟨by kernel_rfl, rfl⟩) hS ?_
              go_simp
              refine wpAnyH_take (i := 21) (v := undef) rfl (by kernel_rfl) (by kernel_rfl) (by kernel_rfl) (fun _ _ _ h => h) (Or.inr ⟨by kernel_rfl, rfl⟩) hS ?_
              go_simp
              refine wpAnyH_take (i := 22) (v := undef) rfl (by kernel_rfl) (by kernel_rfl) (by kernel_rfl) (fun _ _ _ h => h) (Or.inr ⟨by kernel_rfl, rfl⟩) hS ?_
              go_simp
              refine wpAnyH_take (i := 23) (v := undef) rfl (by kernel_rfl) (by kernel_rfl) (by kernel_rfl) (fun _ _ _ h => h) (Or.inr ⟨by kernel_rfl, rfl⟩) hS ?_
              go_simp
              refine wpAnyH_take (i := 24) (v := undef) rfl (by kernel_rfl) (by kernel_rfl) (by kernel_rfl) (fun _ _ _ h => h) (Or.inr ⟨by kernel_rfl, rfl⟩) hS ?_
              go_simp
              refine wpAnyH_take (i := 25) rfl (by kernel_rfl) (by kernel_rfl) (by kernel_rfl) (fun _ _ _ h => h) (Or.inl ⟨by kernel_rfl, (by intro w' _; go_simp; with_reducible rfl)⟩) hS ?_
              go_simp
              refine wpAnyH_done (by kernel_rfl) ?_ _
              have HX1 : Hid (PBox q (some ⟨bk, ok, none⟩) nk ck As ns cs At nt ct W1 ∧ Q3 H false ⟨#[1]⟩ ⟨#[2]⟩ W1) := hS.1
              clear hS
              go_wp2_with fail
              go_roundw
              case measure => simp [intOf] <;> omega
              case rel => exact ⟨k + 1, set, _, _, _, b, by omega, by go_num, rfl, rfl, HO1, HNX, HX1, HB1⟩
        · obtain rfl : k = nk := by omega
          go_wp2_with fail
          go_roundw
          case measure =>
            have h1 := HRS.out.1.ch
            rw [← HNK.out] at h1
            have h2 := cnt_le (setS set) k
            have h3 := HRS.out.2
            have h4 := HM0.out
            simp only [lenOf, bOf]
            rcases h1 with ⟨rfl, h1⟩ | ⟨rfl, h1⟩
            · rw [h1] at h3; simp only [bOf]; omega
            · simp only [bOf]; omega
          case rel => exact ⟨set, Ao, mo, co, b, rfl, rfl, HO, ⟨HRS.out.1.sound, HRS.out.2⟩, (fun e => by have := HRS.out.1; rw [e, HNK.out] at this; exact this.closed), HXwp, HBwp⟩

end Go.Proofs.YtomfcmlomfcghaaGreatDoor

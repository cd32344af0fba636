/- PartyBuilt: the plain walk. -/
import Derived.Test.YtomfcmlomfcghaaGreatDoorBlt
import Derived.Test.YtomfcmlomfcghaaGreatDoorPAw8
import Derived.Test.YtomfcmlomfcghaaGreatDoorRCon
import Derived.Test.YtomfcmlomfcghaaGreatDoorSameI
set_option linter.unusedVariables false
set_option linter.unusedSimpArgs false
namespace Go.Proofs.YtomfcmlomfcghaaGreatDoor
open Go.RowKit

theorem ctlList_lenX (P : Prt) (a : Int) : (ctlList P a).length ≤ P.kinds.length := by
  unfold ctlList
  split
  · exact idxs_len _ _
  · exact Nat.zero_le _
theorem cirList_lenX (P : Prt) (a : Int) : (cirList P a).length ≤ P.kinds.length := by
  unfold cirList
  split
  · exact idxs_len _ _
  · exact Nat.zero_le _

set_option maxHeartbeats 8000000 in
set_option maxRecDepth 100000 in
theorem partyBuiltLaw (x0 x1 : Int) (A2 : Option Addr) (n2 c2 : Nat) (l2 : List W3) (A3 : Option Addr) (n3 c3 : Nat) (l3 : List (Int × Int)) (w : World) (h0 : 0 ≤ x0 ∧ x0 ≤ 255) (h1 : 0 ≤ x1 ∧ x1 ≤ 65535) (e2 : n2 = l2.length) (r2 : Rd w w.heap.size 3 A2 l2.length (l2.flatMap u16V3)) (o2 : ∀ a ∈ l2, u16ok3 a) (g2 : n2 ≤ maxLen) (e3 : n3 = l3.length) (r3 : Rd w w.heap.size 2 A3 l3.length (l3.flatMap u16V)) (o3 : ∀ a ∈ l3, u16ok a) (g3 : n3 ≤ maxLen) :
    Calls Tryz.prog 4 #[.int .u8 x0, .int .u16 x1, .slice A2 n2 c2, .slice A3 n3 c3] w fun e w' => e = .returned (.bool true) ∧ Below w.heap.size w w' := by
  have HBT := Lib.hid (fun (W : World) (hW : Below w.heap.size w W) => built_calls x0 x1 A2 n2 c2 l2 A3 n3 c3 l3 W h0 h1 e2 (r2.next hW) o2 g2 e3 (r3.next hW) o3 g3)
  clear h0 h1 e2 r2 o2 g2 e3 r3 o3 g3
  go_enter Tryz.func4, Tryz.ntmps4
  go_wp2_with fail
  refine (HBT.out _ (Below.refl _ _)).mono ?_
  rintro e w1 ⟨Ak, nk, ck, As, ns, cs, At, nt, ct, P, rfl, hp, hpb, hck, hn2, hn7, hns, hnt, _, _, hb⟩
  have HP := Lib.hid hp
  have HPB := Lib.hid hpb
  have HCK := Lib.hid hck
  have HNK := Lib.hid hp.nk
  have HNS := Lib.hid hp.ns
  have HNT := Lib.hid hp.nt
  clear hp hpb hck HBT
  obtain ⟨q, hq⟩ : ∃ q, q = w1.heap.size := ⟨_, rfl⟩
  obtain ⟨w2, hw2⟩ : ∃ W, W = w1.alloc (.cells #[.slice Ak nk ck, .slice As ns cs, .slice At nt ct] 26) := ⟨_, rfl⟩
  have HXw2 : Hid (PBox q Ak nk ck As ns cs At nt ct w2) := by rw [hw2, hq]; exact blk_new _ _
  have HBw2 : Hid (Below w.heap.size w w2) := by rw [hw2]; exact hb.alloc hb.size _
  have HPw2 : Hid (PRd Ak nk As ns At nt P w2) := by rw [hw2]; exact HP.out.next (bel_alloc _ _)
  have HW := Lib.hid (And.intro hw2 hq)
  have hx_ := HXw2.out
  rw [hw2, hq] at hx_
  obtain ⟨k0, k1, k2⟩ := hx_.cells
  clear hw2 hq hx_
  clear hb
  go_wp2_with fail
  rw [← HW.out.1, ← HW.out.2]
  clear k0 k1 k2 HW
  refine (check_calls Ak nk ck As ns cs At nt ct P 1 _ HPw2.out HPB.out).mono ?_
  rintro e w3 ⟨rfl, hb⟩
  rw [HCK.out]
  have HXw3 := Lib.hid (HXw2.out.next hb)
  have HPw3 := Lib.hid (HPw2.out.next hb)
  have HBw3 : Hid (Below w.heap.size w w3) := HBw2.out.trans (hb.mono HBw2.out.size)
  clear hb HXw2 HPw2 HBw2
  obtain ⟨k0, k1, k2⟩ := HXw3.out.cells
  go_wp2_with fail
  clear k0 k1 k2
  go_loopw [30] (fun i wr => ∃ k : Nat, k ≤ nk ∧ i = .int .i64 (k : Int) ∧ Hid (PBox q Ak nk ck As ns cs At nt ct wr) ∧ Hid (Below w3.heap.size w3 wr)) (fun i _ => nk - (intOf i).toNat)
  case atStart => exact ⟨0, Nat.zero_le _, rfl, HXw3, Below.refl _ _⟩
  case round =>
    clear HXw3
    obtain ⟨k, hk, rfl, HXwo, HYwo⟩ := hrel
    rename World => wo
    by_cases hkl : k < nk
    · have hin : inN P.kinds.length (k : Int) = true := inN_iff.2 ⟨by omega, by rw [← HNK.out]; omega⟩
      have HE : Hid (oneErr P (k : Int) = 0) := oneErr_of HCK.out hin
      clear hin
      obtain ⟨L, hL⟩ : ∃ L, L = ctlList P (k : Int) := ⟨_, rfl⟩
      obtain ⟨nL, hn⟩ : ∃ n, n = L.length := ⟨_, rfl⟩
      have hlL : nL ≤ 7 := by have := ctlList_lenX P (k : Int); rw [← hL, ← hn, ← HNK.out] at this; omega
      have HL := Lib.hid hL
      have HNL := Lib.hid hn
      clear hL hn
      obtain ⟨M, hL⟩ : ∃ L, L = cirList P (k : Int) := ⟨_, rfl⟩
      obtain ⟨nM, hn⟩ : ∃ n, n = M.length := ⟨_, rfl⟩
      have hlM : nM ≤ 7 := by have := cirList_lenX P (k : Int); rw [← hL, ← hn, ← HNK.out] at this; omega
      have HM := Lib.hid hL
      have HNM := Lib.hid hn
      clear hL hn
      have HZL : Hid (nL ≤ maxLen) := by show _ ≤ _; unfold maxLen; omega
      have HZM : Hid (nM ≤ maxLen) := by show _ ≤ _; unfold maxLen; omega
      obtain ⟨k0, k1, k2⟩ := HXwo.out.cells
      go_wp2_with fail
      clear k0 k1 k2
      refine (pControlled_calls Ak nk ck As ns cs At nt ct P 1 (k : Int) _ (HPw3.out.next HYwo.out) HPB.out).mono ?_
      rintro e wa ⟨A1, c1, rfl, hr, hb⟩
      rw [HE.out]
      rw [← HL.out] at hr ⊢
      rw [← HNL.out]
      have HXwa := Lib.hid (HXwo.out.next hb)
      have HYwa : Hid (Below w3.heap.size w3 wa) := HYwo.out.trans (hb.mono HYwo.out.size)
      have HR1 := Lib.hid hr
      clear hr hb HXwo HYwo
      obtain ⟨k0, k1, k2⟩ := HXwa.out.cells
      go_wp2_with fail
      clear k0 k1 k2
      refine (rControlled_calls Ak nk ck As ns cs At nt ct P 1 (k : Int) _ (HPw3.out.next HYwa.out) HPB.out).mono ?_
      rintro e wb ⟨A2, c2, rfl, hr, hb⟩
      rw [HE.out]
      rw [← HL.out] at hr ⊢
      rw [← HNL.out]
      have HXwb := Lib.hid (HXwa.out.next hb)
      have HYwb : Hid (Below w3.heap.size w3 wb) := HYwa.out.trans (hb.mono HYwa.out.size)
      have HR2 := Lib.hid hr
      have HR1 := Lib.hid (HR1.out.next hb)
      clear hr hb HXwa HYwa
      obtain ⟨k0, k1, k2⟩ := HXwb.out.cells
      go_wp2_with fail
      clear k0 k1 k2
      refine (pCircle_calls Ak nk ck As ns cs At nt ct P 1 (k : Int) _ (HPw3.out.next HYwb.out) HPB.out).mono ?_
      rintro e wc ⟨A3, c3, rfl, hr, hb⟩
      rw [HE.out]
      rw [← HM.out] at hr ⊢
      rw [← HNM.out]
      have HXwc := Lib.hid (HXwb.out.next hb)
      have HYwc : Hid (Below w3.heap.size w3 wc) := HYwb.out.trans (hb.mono HYwb.out.size)
      have HR3 := Lib.hid hr
      have HR1 := Lib.hid (HR1.out.next hb)
      have HR2 := Lib.hid (HR2.out.next hb)
      clear hr hb HXwb HYwb
      obtain ⟨k0, k1, k2⟩ := HXwc.out.cells
      go_wp2_with fail
      clear k0 k1 k2
      refine (rCircle_calls Ak nk ck As ns cs At nt ct P 1 (k : Int) _ (HPw3.out.next HYwc.out) HPB.out).mono ?_
      rintro e wd ⟨A4, c4, rfl, hr, hb⟩
      rw [HE.out]
      rw [← HM.out] at hr ⊢
      rw [← HNM.out]
      have HXwd := Lib.hid (HXwc.out.next hb)
      have HYwd : Hid (Below w3.heap.size w3 wd) := HYwc.out.trans (hb.mono HYwc.out.size)
      have HR4 := Lib.hid hr
      have HR1 := Lib.hid (HR1.out.next hb)
      have HR2 := Lib.hid (HR2.out.next hb)
      have HR3 := Lib.hid (HR3.out.next hb)
      clear hr hb HXwc HYwc
      go_wp2_with fail
      refine (sameInts_calls A1 A2 nL c1 nL c2 L L _ HNL.out HNL.out HR1.out HR2.out HZL.out HZL.out true (by simp)).mono ?_
      rintro e we ⟨rfl, hb⟩
      have HXwe := Lib.hid (HXwd.out.next hb)
      have HYwe : Hid (Below w3.heap.size w3 we) := HYwd.out.trans (hb.mono HYwd.out.size)
      have HR3 := Lib.hid (HR3.out.next hb)
      have HR4 := Lib.hid (HR4.out.next hb)
      clear hb HXwd HYwd HR1 HR2
      go_wp2_with fail
      refine (sameInts_calls A3 A4 nM c3 nM c4 M M _ HNM.out HNM.out HR3.out HR4.out HZM.out HZM.out true (by simp)).mono ?_
      rintro e wf ⟨rfl, hb⟩
      have HXwf := Lib.hid (HXwe.out.next hb)
      have HYwf : Hid (Below w3.heap.size w3 wf) := HYwe.out.trans (hb.mono HYwe.out.size)
      clear hb HXwe HYwe HR3 HR4
      go_wp2_with fail
      go_roundw
      case measure => simp [intOf] <;> omega
      case rel => exact ⟨k + 1, by omega, by go_num, HXwf, HYwf⟩
    · have HBwo : Hid (Below w.heap.size w wo) := HBw3.out.trans (HYwo.out.mono HBw3.out.size)
      go_wp2_with fail
      refine (awake8_calls _).mono ?_
      rintro e wz ⟨rfl, hb⟩
      have HBz : Hid (Below w.heap.size w wz) := HBwo.out.trans (hb.mono HBwo.out.size)
      clear hb
      go_wp2_with fail
      go_ret
      exact ⟨rfl, HBz.out⟩

end Go.Proofs.YtomfcmlomfcghaaGreatDoor

/- PartySymmetric: the plain walk. -/
import Derived.Test.YtomfcmlomfcghaaDoorBlt
import Derived.Test.YtomfcmlomfcghaaDoorPAw8
import Derived.Test.YtomfcmlomfcghaaDoorPCon
set_option linter.unusedVariables false
set_option linter.unusedSimpArgs false
namespace Go.Proofs.YtomfcmlomfcghaaDoor
open Go.RowKit

set_option maxHeartbeats 8000000 in
set_option maxRecDepth 100000 in
theorem partySymLaw (x0 x1 : Int) (A2 : Option Addr) (n2 c2 : Nat) (l2 : List W3) (A3 : Option Addr) (n3 c3 : Nat) (l3 : List (Int × Int)) (w : World) (h0 : 0 ≤ x0 ∧ x0 ≤ 255) (h1 : 0 ≤ x1 ∧ x1 ≤ 65535) (e2 : n2 = l2.length) (r2 : Rd w w.heap.size 3 A2 l2.length (l2.flatMap u16V3)) (o2 : ∀ a ∈ l2, u16ok3 a) (g2 : n2 ≤ maxLen) (e3 : n3 = l3.length) (r3 : Rd w w.heap.size 2 A3 l3.length (l3.flatMap u16V)) (o3 : ∀ a ∈ l3, u16ok a) (g3 : n3 ≤ maxLen) :
    Calls Tryd.prog 8 #[.int .u8 x0, .int .u16 x1, .slice A2 n2 c2, .slice A3 n3 c3] w fun e w' => e = .returned (.bool true) ∧ Below w.heap.size w w' := by
  have HBT := Lib.hid (fun (W : World) (hW : Below w.heap.size w W) => built_calls x0 x1 A2 n2 c2 l2 A3 n3 c3 l3 W h0 h1 e2 (r2.next hW) o2 g2 e3 (r3.next hW) o3 g3)
  clear h0 h1 e2 r2 o2 g2 e3 r3 o3 g3
  go_enter Tryd.func8, Tryd.ntmps8
  go_wp2_with fail
  refine (HBT.out _ (Below.refl _ _)).mono ?_
  rintro e w1 ⟨Ak, nk, ck, As, ns, cs, At, nt, ct, P, rfl, hp, hpb, hck, hn2, hn7, hns, hnt, _, _, hb⟩
  have HP := Lib.hid hp
  have HPB := Lib.hid hpb
  have HCK := Lib.hid hck
  have HNK := Lib.hid hp.nk
  have HNS := Lib.hid hp.ns
  have HNT := Lib.hid hp.nt
  clear hp hpb hck HBT
  obtain ⟨q, hq⟩ : ∃ q, q = w1.heap.size := ⟨_, rfl⟩
  obtain ⟨w2, hw2⟩ : ∃ W, W = w1.alloc (.cells #[.slice Ak nk ck, .slice As ns cs, .slice At nt ct] 26) := ⟨_, rfl⟩
  have HXw2 : Hid (PBox q Ak nk ck As ns cs At nt ct w2) := by rw [hw2, hq]; exact blk_new _ _
  have HBw2 : Hid (Below w.heap.size w w2) := by rw [hw2]; exact hb.alloc hb.size _
  have HPw2 : Hid (PRd Ak nk As ns At nt P w2) := by rw [hw2]; exact HP.out.next (bel_alloc _ _)
  have HW := Lib.hid (And.intro hw2 hq)
  have hx_ := HXw2.out
  rw [hw2, hq] at hx_
  obtain ⟨k0, k1, k2⟩ := hx_.cells
  clear hw2 hq hx_
  clear hb
  go_wp2_with fail
  rw [← HW.out.1, ← HW.out.2]
  clear k0 k1 k2 HW
  go_loopw [40] (fun i wr => ∃ k : Nat, k ≤ nk ∧ i = .int .i64 (k : Int) ∧ Hid (PBox q Ak nk ck As ns cs At nt ct wr) ∧ Hid (Below w2.heap.size w2 wr)) (fun i _ => nk - (intOf i).toNat)
  case atStart => exact ⟨0, Nat.zero_le _, rfl, HXw2, Below.refl _ _⟩
  case round =>
    clear HXw2
    obtain ⟨k, hk, rfl, HXwo, HYwo⟩ := hrel
    rename World => wo
    by_cases hkl : k < nk
    · obtain ⟨k0, k1, k2⟩ := HXwo.out.cells
      go_wp2_with fail
      clear k0 k1 k2
      refine (pConnected_calls Ak nk ck As ns cs At nt ct P 1 (k : Int) (k : Int) _ (HPw2.out.next HYwo.out) HPB.out).mono ?_
      rintro e w3 ⟨rfl, hb⟩
      have HXw3 := Lib.hid (HXwo.out.next hb)
      have HYw3 : Hid (Below w2.heap.size w2 w3) := HYwo.out.trans (hb.mono HYwo.out.size)
      clear hb HXwo
      rw [conB_of HCK.out (a := k) (b := k) (by rw [← HNK.out]; omega) (by rw [← HNK.out]; omega), twoErr_of HCK.out (inN_iff.2 ⟨by omega, by rw [← HNK.out]; omega⟩) (inN_iff.2 ⟨by omega, by rw [← HNK.out]; omega⟩)]
      rw [con_self]
      obtain ⟨k0, k1, k2⟩ := HXw3.out.cells
      go_wp2_with fail
      clear k0 k1 k2
      go_loopw [59] (fun i wr => ∃ j : Nat, j ≤ nk ∧ i = .int .i64 (j : Int) ∧ Hid (PBox q Ak nk ck As ns cs At nt ct wr) ∧ Hid (Below w2.heap.size w2 wr)) (fun i _ => nk - (intOf i).toNat)
      case atStart => exact ⟨0, Nat.zero_le _, rfl, HXw3, HYw3⟩
      case round =>
        clear HXw3 HYw3
        obtain ⟨j, hj, rfl, HXwi, HYwi⟩ := hrel
        rename World => wi
        by_cases hjl : j < nk
        · obtain ⟨k0, k1, k2⟩ := HXwi.out.cells
          go_wp2_with fail
          clear k0 k1 k2
          refine (pConnected_calls Ak nk ck As ns cs At nt ct P 1 (k : Int) (j : Int) _ (HPw2.out.next HYwi.out) HPB.out).mono ?_
          rintro e w4 ⟨rfl, hb⟩
          have HXw4 := Lib.hid (HXwi.out.next hb)
          have HYw4 : Hid (Below w2.heap.size w2 w4) := HYwi.out.trans (hb.mono HYwi.out.size)
          clear hb HXwi
          rw [conB_of HCK.out (a := k) (b := j) (by rw [← HNK.out]; omega) (by rw [← HNK.out]; omega), twoErr_of HCK.out (inN_iff.2 ⟨by omega, by rw [← HNK.out]; omega⟩) (inN_iff.2 ⟨by omega, by rw [← HNK.out]; omega⟩)]
          obtain ⟨u, hu⟩ : ∃ u, u = con P k j := ⟨_, rfl⟩
          rw [← hu]
          have HU := Lib.hid hu
          clear hu HYwi
          obtain ⟨k0, k1, k2⟩ := HXw4.out.cells
          go_wp2_with fail
          clear k0 k1 k2
          refine (pConnected_calls Ak nk ck As ns cs At nt ct P 1 (j : Int) (k : Int) _ (HPw2.out.next HYw4.out) HPB.out).mono ?_
          rintro e w5 ⟨rfl, hb⟩
          have HXw5 := Lib.hid (HXw4.out.next hb)
          have HYw5 : Hid (Below w2.heap.size w2 w5) := HYw4.out.trans (hb.mono HYw4.out.size)
          clear hb HXw4
          rw [conB_of HCK.out (a := j) (b := k) (by rw [← HNK.out]; omega) (by rw [← HNK.out]; omega), twoErr_of HCK.out (inN_iff.2 ⟨by omega, by rw [← HNK.out]; omega⟩) (inN_iff.2 ⟨by omega, by rw [← HNK.out]; omega⟩)]
          rw [con_symm, ← HU.out]
          clear HU HYw4
          cases u
          · go_wp2_with fail
            go_roundw
            case measure => simp [intOf] <;> omega
            case rel => exact ⟨j + 1, by omega, by go_num, HXw5, HYw5⟩
          · go_wp2_with fail
            go_roundw
            case measure => simp [intOf] <;> omega
            case rel => exact ⟨j + 1, by omega, by go_num, HXw5, HYw5⟩
        · obtain ⟨k0, k1, k2⟩ := HXwi.out.cells
          go_wp2_with fail
          clear k0 k1 k2
          refine (pControlled_calls Ak nk ck As ns cs At nt ct P 1 (k : Int) _ (HPw2.out.next HYwi.out) HPB.out).mono ?_
          rintro e w4 ⟨A1, c1, rfl, hr, hb⟩
          have HXw4 := Lib.hid (HXwi.out.next hb)
          have HYw4 : Hid (Below w2.heap.size w2 w4) := HYwi.out.trans (hb.mono HYwi.out.size)
          have hin : inN P.kinds.length (k : Int) = true := inN_iff.2 ⟨by omega, by rw [← HNK.out]; omega⟩
          have e1 : oneErr P (k : Int) = 0 := oneErr_of HCK.out hin
          obtain ⟨L1, hL⟩ : ∃ L, L = idxs (ctl P (k : Int)) nk := ⟨_, rfl⟩
          have e2 : ctlList P (k : Int) = L1 := by rw [ctlList_of HCK.out hin, ← HNK.out, hL]
          rw [e2] at hr ⊢
          rw [e1]
          obtain ⟨nl1, hnl⟩ : ∃ nl, nl = L1.length := ⟨_, rfl⟩
          have hl1 : nl1 ≤ 7 := by rw [hnl, hL]; have := idxs_len (ctl P (k : Int)) nk; omega
          rw [← hnl]
          have HL1 := Lib.hid hL
          have HNL1 := Lib.hid hnl
          have HRL1 := Lib.hid hr
          clear hr hb hL hnl e1 e2 hin HXwi HYwi hj hjl
          go_wp2_with fail
          go_loopw [88] (fun i wr => ∃ j : Nat, j ≤ nl1 ∧ i = .int .i64 (j : Int) ∧ Hid (PBox q Ak nk ck As ns cs At nt ct wr) ∧ Hid (Below w4.heap.size w4 wr)) (fun i _ => nl1 - (intOf i).toNat)
          case atStart => exact ⟨0, Nat.zero_le _, rfl, HXw4, Below.refl _ _⟩
          case round =>
            clear HXw4
            obtain ⟨j, hj, rfl, HXwi, HVwi⟩ := hrel
            rename World => wi
            have HYwi : Hid (Below w2.heap.size w2 wi) := HYw4.out.trans (HVwi.out.mono HYw4.out.size)
            by_cases hjl : j < nl1
            · obtain ⟨y, hy⟩ := getElem?_of_lt (l := L1) (k := j) (by rw [← HNL1.out]; exact hjl)
              obtain ⟨bl, ol, hA, _, cx0⟩ := rd_int (HRL1.out.next HVwi.out) hy
              subst hA
              obtain ⟨x, hx, hcx, hye⟩ : ∃ c : Nat, c < nk ∧ ctl P (k : Int) c = true ∧ y = (c : Int) := by have := List.mem_of_getElem? hy; rw [HL1.out] at this; exact mem_idxs.1 this
              subst hye
              have HCx := Lib.hid hcx
              clear hy hcx
              go_wp2_with fail
              clear cx0
              go_loopw [94] (fun i wr => ∃ m : Nat, m ≤ nl1 ∧ i = .int .i64 (m : Int) ∧ Hid (PBox q Ak nk ck As ns cs At nt ct wr) ∧ Hid (Below w4.heap.size w4 wr)) (fun i _ => nl1 - (intOf i).toNat)
              case atStart => exact ⟨0, Nat.zero_le _, rfl, HXwi, HVwi⟩
              case round =>
                clear HXwi HVwi HYwi
                obtain ⟨m, hm, rfl, HXwj, HVwj⟩ := hrel
                rename World => wj
                have HYwj : Hid (Below w2.heap.size w2 wj) := HYw4.out.trans (HVwj.out.mono HYw4.out.size)
                by_cases hml : m < nl1
                · obtain ⟨y, hy⟩ := getElem?_of_lt (l := L1) (k := m) (by rw [← HNL1.out]; exact hml)
                  obtain ⟨bl, ol, hA, _, cz0⟩ := rd_int (HRL1.out.next HVwj.out) hy
                  simp only [Option.some.injEq, Addr.mk.injEq, and_true] at hA
                  obtain ⟨rfl, rfl⟩ := hA
                  obtain ⟨z, hz, hcz, hye⟩ : ∃ c : Nat, c < nk ∧ ctl P (k : Int) c = true ∧ y = (c : Int) := by have := List.mem_of_getElem? hy; rw [HL1.out] at this; exact mem_idxs.1 this
                  subst hye
                  have HCz := Lib.hid hcz
                  clear hy hcz
                  obtain ⟨k0, k1, k2⟩ := HXwj.out.cells
                  go_wp2_with fail
                  clear k0 k1 k2
                  refine (pConnected_calls Ak nk ck As ns cs At nt ct P 1 (x : Int) (z : Int) _ (HPw2.out.next HYwj.out) HPB.out).mono ?_
                  rintro e w6 ⟨rfl, hb⟩
                  have HXw6 := Lib.hid (HXwj.out.next hb)
                  have HYw6 : Hid (Below w2.heap.size w2 w6) := HYwj.out.trans (hb.mono HYwj.out.size)
                  have HVw6 : Hid (Below w4.heap.size w4 w6) := HVwj.out.trans (hb.mono HVwj.out.size)
                  clear hb HXwj
                  rw [conB_of HCK.out (a := x) (b := z) (by rw [← HNK.out]; omega) (by rw [← HNK.out]; omega), twoErr_of HCK.out (inN_iff.2 ⟨by omega, by rw [← HNK.out]; omega⟩) (inN_iff.2 ⟨by omega, by rw [← HNK.out]; omega⟩)]
                  rw [con_both (a := k) (by rw [← HNK.out]; omega) HCx.out HCz.out]
                  clear cz0 HVwj HYwj
                  obtain ⟨k0, k1, k2⟩ := HXw6.out.cells
                  go_wp2_with fail
                  clear k0 k1 k2
                  refine (pConnected_calls Ak nk ck As ns cs At nt ct P 1 (k : Int) (z : Int) _ (HPw2.out.next HYw6.out) HPB.out).mono ?_
                  rintro e w7 ⟨rfl, hb⟩
                  have HXw7 := Lib.hid (HXw6.out.next hb)
                  have HYw7 : Hid (Below w2.heap.size w2 w7) := HYw6.out.trans (hb.mono HYw6.out.size)
                  have HVw7 : Hid (Below w4.heap.size w4 w7) := HVw6.out.trans (hb.mono HVw6.out.size)
                  clear hb HXw6
                  rw [conB_of HCK.out (a := k) (b := z) (by rw [← HNK.out]; omega) (by rw [← HNK.out]; omega), twoErr_of HCK.out (inN_iff.2 ⟨by omega, by rw [← HNK.out]; omega⟩) (inN_iff.2 ⟨by omega, by rw [← HNK.out]; omega⟩)]
                  rw [con_ctl (by rw [← HNK.out]; omega) HCz.out]
                  clear HVw6 HYw6
                  go_wp2_with fail
                  go_roundw
                  case measure => simp [intOf] <;> omega
                  case rel => exact ⟨m + 1, by omega, by go_num, HXw7, HVw7⟩
                · go_wp2_with fail
                  go_roundw
                  case measure => simp [intOf] <;> omega
                  case rel => exact ⟨j + 1, by omega, by go_num, HXwj, HVwj⟩
            · go_wp2_with fail
              go_roundw
              case measure => simp [intOf] <;> omega
              case rel => exact ⟨k + 1, by omega, by go_num, HXwi, HYwi⟩
    · obtain ⟨k0, k1, k2⟩ := HXwo.out.cells
      go_wp2_with fail
      clear k0 k1 k2 hk hkl
      go_loopw [124] (fun i wr => ∃ j : Nat, j ≤ nt ∧ i = .int .i64 (j : Int) ∧ Hid (PBox q Ak nk ck As ns cs At nt ct wr) ∧ Hid (Below w2.heap.size w2 wr)) (fun i _ => nt - (intOf i).toNat)
      case atStart => exact ⟨0, Nat.zero_le _, rfl, HXwo, HYwo⟩
      case round =>
        clear HXwo HYwo
        obtain ⟨j, hj, rfl, HXwi, HYwi⟩ := hrel
        rename World => wi
        by_cases hjl : j < nt
        · obtain ⟨t, ht⟩ := getElem?_of_lt (l := P.ties) (k := j) (by rw [← HNT.out]; exact hjl)
          have htm := List.mem_of_getElem? ht
          have htf := (Good.of_chk HCK.out).t t htm
          obtain ⟨b, off, hA, _, hc⟩ := Rd.at_ (enc := tieV) (fun _ => rfl) (HPw2.out.next HYwi.out).t ht
          subst hA
          have p0 := hc 0 _ rfl
          have p1 := hc 1 _ rfl
          rw [Nat.add_zero] at p0
          rw [← Nat.add_assoc] at p1
          clear hc ht
          obtain ⟨xi, yi⟩ := t
          dsimp only at p0 p1
          simp only [tieFine, Bool.and_eq_true, decide_eq_true_eq] at htf
          obtain ⟨hx1, hy1, _⟩ := htf
          have hx2 := inN_true hx1
          have hy2 := inN_true hy1
          rw [← HNK.out] at hx2 hy2
          obtain ⟨x, hx⟩ : ∃ i : Nat, xi = (i : Int) := ⟨xi.toNat, by omega⟩
          obtain ⟨y, hy⟩ : ∃ i : Nat, yi = (i : Int) := ⟨yi.toNat, by omega⟩
          subst hx
          subst hy
          have hxl : x < nk := by omega
          have hyl : y < nk := by omega
          have HCT : Hid (con P x y = true) := by
            have := con_tie htm (by show (0 : Int) ≤ (x : Int); omega) (by show (0 : Int) ≤ (y : Int); omega)
            show _ = _
            simpa using this
          clear hx1 hy1 hx2 hy2 htm
          obtain ⟨g, hg⟩ : ∃ g, g = wi.heap.size := ⟨_, rfl⟩
          obtain ⟨wa, hwa⟩ : ∃ W, W = wi.alloc (.cells #[.int .i64 (x : Int), .int .i64 (y : Int)] 38) := ⟨_, rfl⟩
          have HSwa : Hid (TBox g (x : Int) (y : Int) wa) := by rw [hwa, hg]; exact blk_new _ _
          have HXwa : Hid (PBox q Ak nk ck As ns cs (some ⟨b, off, none⟩) nt ct wa) := by rw [hwa]; exact HXwi.out.next (bel_alloc _ _)
          have HYwa : Hid (Below w2.heap.size w2 wa) := by rw [hwa]; exact HYwi.out.alloc HYwi.out.size _
          have hsa := HSwa.out
          have hxa := HXwa.out
          rw [hwa, hg] at hsa
          rw [hwa] at hxa
          obtain ⟨s0, s1⟩ := hsa.cells
          obtain ⟨k0, k1, k2⟩ := hxa.cells
          have HW := Lib.hid (And.intro hwa hg)
          clear hsa hxa hwa hg HXwi HYwi
          go_wp2_with fail
          rw [← HW.out.1]
          clear k0 k1 k2 s0 s1 p0 p1 HW
          refine (pConnected_calls Ak nk ck As ns cs (some ⟨b, off, none⟩) nt ct P 1 (x : Int) (y : Int) _ (HPw2.out.next HYwa.out) HPB.out).mono ?_
          rintro e w3 ⟨rfl, hb⟩
          have HXw3 := Lib.hid (HXwa.out.next hb)
          have HYw3 : Hid (Below w2.heap.size w2 w3) := HYwa.out.trans (hb.mono HYwa.out.size)
          clear hb HXwa HYwa
          rw [conB_of HCK.out (a := x) (b := y) (by rw [← HNK.out]; omega) (by rw [← HNK.out]; omega), twoErr_of HCK.out (inN_iff.2 ⟨by omega, by rw [← HNK.out]; omega⟩) (inN_iff.2 ⟨by omega, by rw [← HNK.out]; omega⟩), HCT.out]
          go_wp2_with fail
          go_roundw
          case measure => simp [intOf] <;> omega
          case rel => exact ⟨j + 1, by omega, by go_num, HXw3, HYw3⟩
        · have HBwi : Hid (Below w.heap.size w wi) := HBw2.out.trans (HYwi.out.mono HBw2.out.size)
          go_wp2_with fail
          refine (awake8_calls _).mono ?_
          rintro e wz ⟨rfl, hb⟩
          have HBz : Hid (Below w.heap.size w wz) := HBwi.out.trans (hb.mono HBwi.out.size)
          clear hb
          go_wp2_with fail
          go_ret
          exact ⟨rfl, HBz.out⟩

end Go.Proofs.YtomfcmlomfcghaaDoor

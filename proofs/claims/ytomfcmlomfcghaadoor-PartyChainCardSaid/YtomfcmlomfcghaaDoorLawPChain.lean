/- PartyChain: the plain walk. -/
import Derived.Test.YtomfcmlomfcghaaDoorBlt
import Derived.Test.YtomfcmlomfcghaaDoorPAw8
set_option linter.unusedVariables false
set_option linter.unusedSimpArgs false
namespace Go.Proofs.YtomfcmlomfcghaaDoor
open Go.RowKit

set_option maxHeartbeats 8000000 in
set_option maxRecDepth 100000 in
theorem partyChainLaw (x0 x1 : Int) (A2 : Option Addr) (n2 c2 : Nat) (l2 : List W3) (w : World) (h0 : 0 ≤ x0 ∧ x0 ≤ 255) (h1 : 0 ≤ x1 ∧ x1 ≤ 65535) (e2 : n2 = l2.length) (r2 : Rd w w.heap.size 3 A2 l2.length (l2.flatMap u16V3)) (o2 : ∀ a ∈ l2, u16ok3 a) (g2 : n2 ≤ maxLen) :
    Calls Tryd.prog 7 #[.int .u8 x0, .int .u16 x1, .slice A2 n2 c2] w fun e w' => e = .returned (.bool true) ∧ Below w.heap.size w w' := by
  have HBT := Lib.hid (fun (W : World) (hW : Below w.heap.size w W) => built_calls x0 x1 A2 n2 c2 l2 none 0 0 [] W h0 h1 e2 (r2.next hW) o2 g2 rfl Rd.nil (fun a ha => by cases ha) (Nat.zero_le _))
  clear h0 h1 e2 r2 o2 g2
  go_enter Tryd.func7, Tryd.ntmps7
  go_wp2_with fail
  refine (HBT.out _ (Below.refl _ _)).mono ?_
  rintro e w1 ⟨Ak, nk, ck, As, ns, cs, At, nt, ct, P, rfl, hp, hpb, hck, hn2, hn7, hns, hnt, _, _, hb⟩
  have HP := Lib.hid hp
  have HPB := Lib.hid hpb
  have HCK := Lib.hid hck
  have HNK := Lib.hid hp.nk
  have HNS := Lib.hid hp.ns
  have HNT := Lib.hid hp.nt
  clear hp hpb hck HBT
  obtain ⟨q, hq⟩ : ∃ q, q = w1.heap.size := ⟨_, rfl⟩
  obtain ⟨w2, hw2⟩ : ∃ W, W = w1.alloc (.cells #[.slice Ak nk ck, .slice As ns cs, .slice At nt ct] 26) := ⟨_, rfl⟩
  have HXw2 : Hid (PBox q Ak nk ck As ns cs At nt ct w2) := by rw [hw2, hq]; exact blk_new _ _
  have HBw2 : Hid (Below w.heap.size w w2) := by rw [hw2]; exact hb.alloc hb.size _
  have HPw2 : Hid (PRd Ak nk As ns At nt P w2) := by rw [hw2]; exact HP.out.next (bel_alloc _ _)
  have HW := Lib.hid (And.intro hw2 hq)
  have hx_ := HXw2.out
  rw [hw2, hq] at hx_
  obtain ⟨k0, k1, k2⟩ := hx_.cells
  clear hw2 hq hx_
  clear hb
  go_wp2_with fail
  rw [← HW.out.1, ← HW.out.2]
  clear k0 k1 k2 HW
  go_loopw [26] (fun i wr => ∃ k : Nat, k ≤ nk ∧ i = .int .i64 (k : Int) ∧ Hid (PBox q Ak nk ck As ns cs At nt ct wr) ∧ Hid (Below w2.heap.size w2 wr)) (fun i _ => nk - (intOf i).toNat)
  case atStart => exact ⟨0, Nat.zero_le _, rfl, HXw2, Below.refl _ _⟩
  case round =>
    clear HXw2
    obtain ⟨k, hk, rfl, HXwo, HYwo⟩ := hrel
    rename World => wo
    by_cases hkl : k < nk
    · obtain ⟨k0, k1, k2⟩ := HXwo.out.cells
      go_wp2_with fail
      clear k0 k1 k2
      refine (pControlled_calls Ak nk ck As ns cs At nt ct P 1 (k : Int) _ (HPw2.out.next HYwo.out) HPB.out).mono ?_
      rintro e w3 ⟨A1, c1, rfl, hr, hb⟩
      have HXw3 := Lib.hid (HXwo.out.next hb)
      have HYw3 : Hid (Below w2.heap.size w2 w3) := HYwo.out.trans (hb.mono HYwo.out.size)
      have hin : inN P.kinds.length (k : Int) = true := inN_iff.2 ⟨by omega, by rw [← HNK.out]; omega⟩
      have e1 : oneErr P (k : Int) = 0 := oneErr_of HCK.out hin
      obtain ⟨L1, hL⟩ : ∃ L, L = idxs (ctl P (k : Int)) nk := ⟨_, rfl⟩
      have e2 : ctlList P (k : Int) = L1 := by rw [ctlList_of HCK.out hin, ← HNK.out, hL]
      rw [e2] at hr ⊢
      rw [e1]
      obtain ⟨nl1, hnl⟩ : ∃ nl, nl = L1.length := ⟨_, rfl⟩
      have hl1 : nl1 ≤ 7 := by rw [hnl, hL]; have := idxs_len (ctl P (k : Int)) nk; omega
      rw [← hnl]
      have HL1 := Lib.hid hL
      have HNL1 := Lib.hid hnl
      have HRL1 := Lib.hid hr
      clear hr hb hL hnl e1 e2 hin
      go_wp2_with fail
      go_loopw [39] (fun i wr => ∃ j : Nat, j ≤ nl1 ∧ i = .int .i64 (j : Int) ∧ Hid (PBox q Ak nk ck As ns cs At nt ct wr) ∧ Hid (Below w3.heap.size w3 wr)) (fun i _ => nl1 - (intOf i).toNat)
      case atStart => exact ⟨0, Nat.zero_le _, rfl, HXw3, Below.refl _ _⟩
      case round =>
        clear HXw3
        obtain ⟨j, hj, rfl, HXwi, HZwi⟩ := hrel
        rename World => wi
        have HYwi : Hid (Below w2.heap.size w2 wi) := HYw3.out.trans (HZwi.out.mono HYw3.out.size)
        by_cases hjl : j < nl1
        · obtain ⟨y, hy⟩ := getElem?_of_lt (l := L1) (k := j) (by rw [← HNL1.out]; exact hjl)
          obtain ⟨bl, ol, hA, _, c10⟩ := rd_int (HRL1.out.next HZwi.out) hy
          subst hA
          obtain ⟨x, hx, hcx, hye⟩ : ∃ c : Nat, c < nk ∧ ctl P (k : Int) c = true ∧ y = (c : Int) := by have := List.mem_of_getElem? hy; rw [HL1.out] at this; exact mem_idxs.1 this
          subst hye
          have HCx := Lib.hid hcx
          clear hy hcx
          obtain ⟨k0, k1, k2⟩ := HXwi.out.cells
          go_wp2_with fail
          clear k0 k1 k2
          refine (pControlled_calls Ak nk ck As ns cs At nt ct P 1 (x : Int) _ (HPw2.out.next HYwi.out) HPB.out).mono ?_
          rintro e w4 ⟨A2, c2, rfl, hr, hb⟩
          have HXw4 := Lib.hid (HXwi.out.next hb)
          have HYw4 : Hid (Below w2.heap.size w2 w4) := HYwi.out.trans (hb.mono HYwi.out.size)
          have hin : inN P.kinds.length (x : Int) = true := inN_iff.2 ⟨by omega, by rw [← HNK.out]; omega⟩
          have e1 : oneErr P (x : Int) = 0 := oneErr_of HCK.out hin
          obtain ⟨L2, hL⟩ : ∃ L, L = idxs (ctl P (x : Int)) nk := ⟨_, rfl⟩
          have e2 : ctlList P (x : Int) = L2 := by rw [ctlList_of HCK.out hin, ← HNK.out, hL]
          rw [e2] at hr ⊢
          rw [e1]
          obtain ⟨nl2, hnl⟩ : ∃ nl, nl = L2.length := ⟨_, rfl⟩
          have hl2 : nl2 ≤ 7 := by rw [hnl, hL]; have := idxs_len (ctl P (x : Int)) nk; omega
          rw [← hnl]
          have HL2 := Lib.hid hL
          have HNL2 := Lib.hid hnl
          have HRL2 := Lib.hid hr
          have HZw4 : Hid (Below w3.heap.size w3 w4) := HZwi.out.trans (hb.mono HZwi.out.size)
          clear hr hb hL hnl e1 e2 hin HXwi HZwi HYwi
          go_wp2_with fail
          go_loopw [51] (fun i wr => ∃ m : Nat, m ≤ nl2 ∧ i = .int .i64 (m : Int) ∧ Hid (PBox q Ak nk ck As ns cs At nt ct wr) ∧ Hid (Below w4.heap.size w4 wr)) (fun i _ => nl2 - (intOf i).toNat)
          case atStart => exact ⟨0, Nat.zero_le _, rfl, HXw4, Below.refl _ _⟩
          case round =>
            clear HXw4
            obtain ⟨m, hm, rfl, HXwj, HVwj⟩ := hrel
            rename World => wj
            have HYwj : Hid (Below w2.heap.size w2 wj) := HYw4.out.trans (HVwj.out.mono HYw4.out.size)
            by_cases hml : m < nl2
            · obtain ⟨y, hy⟩ := getElem?_of_lt (l := L2) (k := m) (by rw [← HNL2.out]; exact hml)
              obtain ⟨bl, ol, hA, _, c20⟩ := rd_int (HRL2.out.next HVwj.out) hy
              subst hA
              obtain ⟨z, hz, hcz, hye⟩ : ∃ c : Nat, c < nk ∧ ctl P (x : Int) c = true ∧ y = (c : Int) := by have := List.mem_of_getElem? hy; rw [HL2.out] at this; exact mem_idxs.1 this
              subst hye
              have HCz := Lib.hid hcz
              clear hy hcz
              obtain ⟨k0, k1, k2⟩ := HXwj.out.cells
              go_wp2_with fail
              clear k0 k1 k2 c20
              refine (pControls_calls Ak nk ck As ns cs At nt ct P 1 (k : Int) (z : Int) _ (HPw2.out.next HYwj.out) HPB.out).mono ?_
              rintro e w6 ⟨rfl, hb⟩
              have HX6 := Lib.hid (HXwj.out.next hb)
              have HV6 : Hid (Below w4.heap.size w4 w6) := HVwj.out.trans (hb.mono HVwj.out.size)
              clear hb HXwj HVwj HYwj
              have e1 : twoErr P (k : Int) (z : Int) = 0 := twoErr_of HCK.out (inN_iff.2 ⟨by omega, by rw [← HNK.out]; omega⟩) (inN_iff.2 ⟨by omega, by rw [← HNK.out]; omega⟩)
              have e2 : ctlB P (k : Int) (z : Int) = ctl P (k : Int) z := by unfold ctlB; rw [if_pos e1, Int.toNat_natCast]
              rw [e1, e2]
              clear e1 e2
              by_cases hzk : z = k
              · have hzb : ((z : Int) != (k : Int)) = false := by rw [hzk]; simp
                clear hzk
                obtain ⟨u, hu⟩ : ∃ u, u = ctl P (k : Int) z := ⟨_, rfl⟩
                rw [← hu]
                clear hu
                go_wp2_with fail
                go_roundw
                case measure => simp [intOf] <;> omega
                case rel => exact ⟨m + 1, by omega, by go_num, HX6, HV6⟩
              · have hzb : ((z : Int) != (k : Int)) = true := bne_iff_ne.2 (by omega)
                have hgo := Good.of_chk HCK.out
                have hct : ctl P (k : Int) z = true := ctl_trans hgo.pos HCx.out HCz.out (fun s hs => (fine_parts (hgo.s s hs).1).1.1) hzk
                rw [hct]
                clear hct hgo hzk
                go_wp2_with fail
                go_roundw
                case measure => simp [intOf] <;> omega
                case rel => exact ⟨m + 1, by omega, by go_num, HX6, HV6⟩
            · go_wp2_with fail
              have HZ9 : Hid (Below w3.heap.size w3 wj) := HZw4.out.trans (HVwj.out.mono HZw4.out.size)
              go_roundw
              case measure => simp [intOf] <;> omega
              case rel => exact ⟨j + 1, by omega, by go_num, HXwj, HZ9⟩
        · go_wp2_with fail
          go_roundw
          case measure => simp [intOf] <;> omega
          case rel => exact ⟨k + 1, by omega, by go_num, HXwi, HYwi⟩
    · have HBwo : Hid (Below w.heap.size w wo) := HBw2.out.trans (HYwo.out.mono HBw2.out.size)
      go_wp2_with fail
      refine (awake8_calls _).mono ?_
      rintro e wz ⟨rfl, hb⟩
      have HBz : Hid (Below w.heap.size w wz) := HBwo.out.trans (hb.mono HBwo.out.size)
      clear hb
      go_wp2_with fail
      go_ret
      exact ⟨rfl, HBz.out⟩

end Go.Proofs.YtomfcmlomfcghaaDoor

/- PartyFixpoint: the plain walk. -/
import Derived.Test.YtomfcmlomfcghaaDoorBlt
import Derived.Test.YtomfcmlomfcghaaDoorLVotes
import Derived.Test.YtomfcmlomfcghaaDoorPAw8
set_option linter.unusedVariables false
set_option linter.unusedSimpArgs false
namespace Go.Proofs.YtomfcmlomfcghaaDoor
open Go.RowKit

set_option maxHeartbeats 8000000 in
set_option maxRecDepth 100000 in
theorem partyFixLaw (x0 x1 : Int) (A2 : Option Addr) (n2 c2 : Nat) (l2 : List W3) (x3 : Int) (w : World) (h0 : 0 ≤ x0 ∧ x0 ≤ 255) (h1 : 0 ≤ x1 ∧ x1 ≤ 65535) (e2 : n2 = l2.length) (r2 : Rd w w.heap.size 3 A2 l2.length (l2.flatMap u16V3)) (o2 : ∀ a ∈ l2, u16ok3 a) (g2 : n2 ≤ maxLen) (h3 : 0 ≤ x3 ∧ x3 ≤ 255) :
    Calls Tryd.prog 5 #[.int .u8 x0, .int .u16 x1, .slice A2 n2 c2, .int .u8 x3] w fun e w' => e = .returned (.bool true) ∧ Below w.heap.size w w' := by
  have HBT := Lib.hid (fun (W : World) (hW : Below w.heap.size w W) => built_calls x0 x1 A2 n2 c2 l2 none 0 0 [] W h0 h1 e2 (r2.next hW) o2 g2 rfl Rd.nil (fun a ha => by cases ha) (Nat.zero_le _))
  clear h0 h1 e2 r2 o2 g2
  go_enter Tryd.func5, Tryd.ntmps5
  go_wp2_with fail
  refine (HBT.out _ (Below.refl _ _)).mono ?_
  rintro e w1 ⟨Ak, nk, ck, As, ns, cs, At, nt, ct, P, rfl, hp, hpb, hck, hn2, hn7, hns, hnt, _, _, hb⟩
  have HP := Lib.hid hp
  have HPB := Lib.hid hpb
  have HCK := Lib.hid hck
  have HNK := Lib.hid hp.nk
  have HNS := Lib.hid hp.ns
  have HNT := Lib.hid hp.nt
  clear hp hpb hck HBT
  obtain ⟨a, ha⟩ : ∃ a : Nat, x3 % (nk : Int) = (a : Int) := ⟨(x3 % (nk : Int)).toNat, by have := Int.emod_nonneg x3 (show (nk : Int) ≠ 0 by omega); omega⟩
  have hal : a < nk := by have := Int.emod_lt_of_pos x3 (show (0 : Int) < (nk : Int) by omega); omega
  obtain ⟨q, hq⟩ : ∃ q, q = w1.heap.size := ⟨_, rfl⟩
  obtain ⟨w2, hw2⟩ : ∃ W, W = w1.alloc (.cells #[.slice Ak nk ck, .slice As ns cs, .slice At nt ct] 26) := ⟨_, rfl⟩
  have HXw2 : Hid (PBox q Ak nk ck As ns cs At nt ct w2) := by rw [hw2, hq]; exact blk_new _ _
  have HBw2 : Hid (Below w.heap.size w w2) := by rw [hw2]; exact hb.alloc hb.size _
  have HPw2 : Hid (PRd Ak nk As ns At nt P w2) := by rw [hw2]; exact HP.out.next (bel_alloc _ _)
  have HW := Lib.hid (And.intro hw2 hq)
  have hx_ := HXw2.out
  rw [hw2, hq] at hx_
  obtain ⟨k0, k1, k2⟩ := hx_.cells
  clear hw2 hq hx_
  clear hb
  go_wp2_with fail
  try rw [ha]
  rw [← HW.out.1, ← HW.out.2]
  clear k0 k1 k2 HW ha h3
  refine (pControlled_calls Ak nk ck As ns cs At nt ct P 1 (a : Int) _ HPw2.out HPB.out).mono ?_
  rintro e w3 ⟨A, c, rfl, hr, hb⟩
  have HXw3 := Lib.hid (HXw2.out.next hb)
  have HPw3 := Lib.hid (HPw2.out.next hb)
  have HBw3 : Hid (Below w.heap.size w w3) := HBw2.out.trans (hb.mono HBw2.out.size)
  have hin : inN P.kinds.length (a : Int) = true := inN_iff.2 ⟨by omega, by rw [← HNK.out]; omega⟩
  have e1 : oneErr P (a : Int) = 0 := oneErr_of HCK.out hin
  obtain ⟨L, hL⟩ : ∃ L, L = idxs (ctl P (a : Int)) nk := ⟨_, rfl⟩
  have e2 : ctlList P (a : Int) = L := by rw [ctlList_of HCK.out hin, ← HNK.out, hL]
  rw [e2] at hr ⊢
  rw [e1]
  obtain ⟨nl, hnl⟩ : ∃ nl, nl = L.length := ⟨_, rfl⟩
  have hl7 : nl ≤ 7 := by rw [hnl, hL]; have := idxs_len (ctl P (a : Int)) nk; omega
  rw [← hnl]
  have HL := Lib.hid hL
  have HNL := Lib.hid hnl
  have HRL := Lib.hid hr
  clear hr hb hL hnl e1 e2 hin HXw2 HPw2 HBw2
  obtain ⟨k0, k1, k2⟩ := HXw3.out.cells
  go_wp2_with fail
  clear k0 k1 k2
  go_loopw [39] (fun i wr => ∃ k : Nat, k ≤ nk ∧ i = .int .i64 (k : Int) ∧ Hid (PBox q Ak nk ck As ns cs At nt ct wr) ∧ Hid (Below w3.heap.size w3 wr)) (fun i _ => nk - (intOf i).toNat)
  case atStart => exact ⟨0, Nat.zero_le _, rfl, HXw3, Below.refl _ _⟩
  case round =>
    clear HXw3
    obtain ⟨k, hk, rfl, HXwo, HYwo⟩ := hrel
    rename World => wo
    have HBwo : Hid (Below w.heap.size w wo) := HBw3.out.trans (HYwo.out.mono HBw3.out.size)
    by_cases hkl : k < nk
    · have HRo := Lib.hid (HRL.out.next HYwo.out)
      have HPo := Lib.hid (HPw3.out.next HYwo.out)
      go_wp2_with fail
      go_loop [14, 44] (fun u i => ∃ j : Nat, j ≤ nl ∧ i = .int .i64 (j : Int) ∧ Hid (u = .bool ((L.take j).any (· == (k : Int))))) (fun _ i => nl - (intOf i).toNat)
      case atStart => exact ⟨0, Nat.zero_le _, rfl, rfl⟩
      case round =>
        obtain ⟨j, hj, rfl, HU⟩ := hrel
        obtain ⟨x, hx⟩ : ∃ x, x = (L.take j).any (· == (k : Int)) := ⟨_, rfl⟩
        have hu := HU.out
        rw [← hx] at hu
        subst hu
        have HXE := Lib.hid hx
        clear hx HU
        by_cases hjl : j < nl
        · obtain ⟨y, hy⟩ := getElem?_of_lt (l := L) (k := j) (by rw [← HNL.out]; exact hjl)
          obtain ⟨bl, ol, hA, _, cy⟩ := rd_int HRo.out hy
          subst hA
          have HNX : Hid ((L.take (j + 1)).any (· == (k : Int)) = (x || (y == (k : Int)))) := by
            show _ = _
            rw [HXE.out, List.take_add_one, hy, List.any_append]
            simp
          clear hy
          obtain ⟨z, hz⟩ : ∃ z, z = (y == (k : Int)) := ⟨_, rfl⟩
          rw [← hz] at HNX
          cases x
          · go_wp2_with fail
            rw [← hz]
            clear hz
            go_round
            case measure => simp [intOf] <;> omega
            case rel => exact ⟨j + 1, by omega, by go_num, by show _ = _; rw [HNX.out]; rfl⟩
          · clear hz
            go_wp2_with fail
            go_round
            case measure => simp [intOf] <;> omega
            case rel => exact ⟨j + 1, by omega, by go_num, by show _ = _; rw [HNX.out]; rfl⟩
        · have HIN : Hid (x = ctl P (a : Int) k) := by
            show _ = _
            rw [HXE.out, List.take_of_length_le (by rw [← HNL.out]; omega), HL.out]
            exact has_idxs hkl
          clear HXE
          obtain ⟨qv, hqv⟩ : ∃ qv, qv = vt P (a : Int) (ctl P (a : Int)) k := ⟨_, rfl⟩
          have hvv : vs (lvF L (a : Int) (k : Int)) P.stakes = qv := by rw [hqv, HL.out, HNK.out]; exact votes_vt HCK.out a k
          have hszq := vs_sz (f := lvF L (a : Int) (k : Int)) (l := P.stakes) (m := 1) (fun s hs => HPB.out.sz s hs)
          rw [hvv] at hszq
          have hlen : P.stakes.length ≤ 20 := by rw [← HNS.out]; omega
          have HVT' := lvotes_calls Ak nk ck As ns cs At nt ct A nl c P L (a : Int) (k : Int) 1 wo HPo.out HPB.out (by omega) HNL.out HRo.out (by omega)
          rw [hvv] at HVT'
          have HRT' := fun w => ratio_calls 1 2 w (by decide) (by decide) (by decide) (by decide) (by decide) halfR (frac_quo 1 2)
          have HCM' := fun W => pCompare_calls (fqOf qv) (fqOf halfR) 64065 1 W (sz_fits (hszq.mono (by omega))) (sz_fits sz_half) (by decide) (by decide) (by decide)
          rw [fixR_of, fixR_of] at HCM'
          obtain ⟨cv, hcv⟩ : ∃ x, x = cmpR qv halfR := ⟨_, rfl⟩
          rw [← hcv] at HCM'
          unfold FQ.val at HCM'
          unfold fqOf at HCM'
          dsimp only at HCM'
          unfold ratV at HVT' HRT'
          obtain ⟨sv, hsv⟩ : ∃ x, x = rneg qv := ⟨_, rfl⟩
          obtain ⟨nv, hnv⟩ : ∃ x, x = rnum qv := ⟨_, rfl⟩
          obtain ⟨dv, hdv⟩ : ∃ x, x = rden qv := ⟨_, rfl⟩
          rw [← hsv, ← hnv, ← hdv] at HCM' HVT'
          obtain ⟨s1, hs1⟩ : ∃ x, x = rneg halfR := ⟨_, rfl⟩
          obtain ⟨n1, hn1⟩ : ∃ x, x = rnum halfR := ⟨_, rfl⟩
          obtain ⟨e1, he1⟩ : ∃ x, x = rden halfR := ⟨_, rfl⟩
          rw [← hs1, ← hn1, ← he1] at HCM' HRT'
          have HVT := Lib.hid HVT'
          have HRT := Lib.hid HRT'
          have HCM := Lib.hid HCM'
          have HCV : Hid (0 < cv ↔ halfR < vt P (a : Int) (ctl P (a : Int)) k) := by show _ ↔ _; rw [hcv, cmpR_pos, hqv]
          clear HVT' HRT' HCM' hsv hnv hdv hs1 hn1 he1 hcv hqv hvv hszq hlen
          obtain ⟨k0, k1, k2⟩ := HXwo.out.cells
          go_wp2_with fail
          clear k0 k1 k2
          refine HVT.out.mono ?_
          rintro e w4 ⟨rfl, hb⟩
          have HX4 := Lib.hid (HXwo.out.next hb)
          have HY4 : Hid (Below w3.heap.size w3 w4) := HYwo.out.trans (hb.mono HYwo.out.size)
          clear hb HXwo HYwo HVT HRo HPo HBwo
          go_wp2_with fail
          refine (HRT.out _).mono ?_
          rintro e w5 ⟨rfl, hb⟩
          have HX5 := Lib.hid (HX4.out.next hb)
          have HY5 : Hid (Below w3.heap.size w3 w5) := HY4.out.trans (hb.mono HY4.out.size)
          clear hb HX4 HY4
          go_wp2_with fail
          refine (HCM.out _).mono ?_
          rintro e w6 ⟨rfl, hb⟩
          have HX6 := Lib.hid (HX5.out.next hb)
          have HY6 : Hid (Below w3.heap.size w3 w6) := HY5.out.trans (hb.mono HY5.out.size)
          clear hb HX5 HY5
          by_cases hka : k = a
          · obtain rfl : x = false := by rw [HIN.out, hka]; exact ctl_self
            have hkb : ((k : Int) == (a : Int)) = true := beq_iff_eq.2 (by omega)
            have hkn : ((k : Int) != (a : Int)) = false := by rw [hka]; simp
            clear hka HIN HCV
            go_wp2_with fail
            go_roundw
            case measure => simp [intOf] <;> omega
            case rel => exact ⟨k + 1, by omega, by go_num, HX6, HY6⟩
          · have hkb : ((k : Int) == (a : Int)) = false := beq_eq_false_iff_ne.2 (by omega)
            have hkn : ((k : Int) != (a : Int)) = true := bne_iff_ne.2 (by omega)
            have hfx := fixpoint HCK.out (a := a) (c := k) (by rw [← HNK.out]; exact hkl) hka
            have t0 : decide (0 < cv) = x := by rw [HIN.out, hfx]; exact decide_eq_decide.2 HCV.out
            clear hka HIN HCV hfx
            cases x
            · go_wp2_with fail
              go_roundw
              case measure => simp [intOf] <;> omega
              case rel => exact ⟨k + 1, by omega, by go_num, HX6, HY6⟩
            · go_wp2_with fail
              go_roundw
              case measure => simp [intOf] <;> omega
              case rel => exact ⟨k + 1, by omega, by go_num, HX6, HY6⟩
    · go_wp2_with fail
      refine (awake8_calls _).mono ?_
      rintro e wz ⟨rfl, hb⟩
      have HBz : Hid (Below w.heap.size w wz) := HBwo.out.trans (hb.mono HBwo.out.size)
      clear hb
      go_wp2_with fail
      go_ret
      exact ⟨rfl, HBz.out⟩

end Go.Proofs.YtomfcmlomfcghaaDoor

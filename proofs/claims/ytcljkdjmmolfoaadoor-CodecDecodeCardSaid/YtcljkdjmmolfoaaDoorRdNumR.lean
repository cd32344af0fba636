/- (*insolvencyref33.Eye).num. -/
import Derived.Test.YtcljkdjmmolfoaaDoorRdNum
import Derived.Laws.Bits64b
set_option linter.unusedVariables false
set_option linter.unusedSimpArgs false
namespace Go.Proofs.YtcljkdjmmolfoaaDoor
open Go.RowKit

set_option maxHeartbeats 4000000 in
set_option maxRecDepth 100000 in
theorem dNumber_calls (g Bk : Nat) (s : St) (w : World) (h : RdS 96 g Bk s w) (hBw : Bk ≤ w.heap.size) :
    Calls Tryd.prog 41 #[.pointer (some ⟨g, 0, none⟩)] w (NumPost 96 g Bk (dNum s) w) := by
  have HR := Lib.hid h
  obtain ⟨L, bad⟩ := s
  obtain ⟨A, c, hg, hk, hBg, hlc, hcm, hby⟩ := h
  dsimp only at hg hk hlc hby
  obtain ⟨n, hn⟩ : ∃ n, n = L.length := ⟨_, rfl⟩
  rw [← hn] at hg hlc
  have HN := Lib.hid hn
  have HG := Lib.hid hg
  have HK := Lib.hid hk
  have HBY := Lib.hid hby
  have c0 : w.cell? ⟨g, 0, none⟩ = some (.slice A n c) := by rw [cell_of_row w g 0 _ _ (0, 0) hg]; rfl
  have f0 : w.frozen? ⟨g, 0, none⟩ = false := frozen_of_row w g 0 _ _ hg
  have c1 : w.cell? ⟨g, 1, none⟩ = some (.bool bad) := by rw [cell_of_row w g 1 _ _ (0, 0) hg]; rfl
  have f1 : w.frozen? ⟨g, 1, none⟩ = false := frozen_of_row w g 1 _ _ hg
  have lg : g < w.heap.size := (Array.getElem?_eq_some_iff.1 hg).1
  have HCM := Lib.hid hcm
  unfold maxLen at hcm
  clear hg hk hby hn
  cases bad
  case true =>
    have HV : Hid (dNum (L, true) = (0, (L, true))) := rfl
    go_enter Tryd.func41, Tryd.ntmps41
    go_wp2_with fail
    go_loop [3, 4] (fun uu ii => uu = .int .u64 0 ∧ ii = .int .i64 0) (fun _ ii => 0)
    case atStart => exact ⟨rfl, rfl⟩
    case round =>
      obtain ⟨rfl, rfl⟩ := hrel
      by_cases hn0 : 0 < n
      · have d0 : decide ((0 : Int) < (n : Int)) = true := decide_eq_true (by omega)
        go_wp2_with fail
        go_ret
        rw [HV.out]
        exact ⟨rfl, HR.out.bad hBw true, (Only.refl g w).setC 1 _⟩
      · have d0 : decide ((0 : Int) < (n : Int)) = false := decide_eq_false (by omega)
        go_wp2_with fail
        go_ret
        rw [HV.out]
        exact ⟨rfl, HR.out.bad hBw true, (Only.refl g w).setC 1 _⟩
  have HE0 : Hid (rdX 9 true L = (rdX (9 - 0) (decide (0 = 0)) (L.drop 0)).map fun t => (0 + 128 ^ 0 * t.1, t.2.1, t.2.2)) := by
    show _ = _
    simp
  go_enter Tryd.func41, Tryd.ntmps41
  go_wp2_with fail
  go_loop [3, 4] (fun uu ii => ∃ (k a : Nat), uu = .int .u64 (a : Int) ∧ ii = .int .i64 (k : Int) ∧ k ≤ n ∧ k ≤ 9 ∧ Hid (a < 128 ^ k) ∧ Hid (rdX 9 true L = (rdX (9 - k) (decide (k = 0)) (L.drop k)).map fun t => (a + 128 ^ k * t.1, t.2.1, t.2.2))) (fun _ ii => 9 - (intOf ii).toNat)
  case atStart => exact ⟨0, 0, rfl, rfl, Nat.zero_le _, by omega, (by show _ < _; decide), HE0⟩
  case round =>
    obtain ⟨k, a, rfl, rfl, hkn, hk9, HA, HE⟩ := hrel
    have ha64 : a < 9223372036854775808 := Nat.lt_of_lt_of_le HA.out (p128_le hk9)
    by_cases hlt : k < n
    · by_cases h9 : k < 9
      · obtain ⟨x, hx⟩ : ∃ x, L[k]? = some x := getElem?_of_lt (by have := HN.out; omega)
        have hxb := HBY.out x (List.mem_of_getElem? hx)
        obtain ⟨b, off, hA, hbb, hcx⟩ := HK.out.at_ hx
        have hki : (k : Int) < (n : Int) := by omega
        obtain ⟨y, hy⟩ : ∃ y, y = x % 128 := ⟨_, rfl⟩
        have h127 : bits .and .u8 (x : Int) 127 = (y : Int) := by rw [and127b x hxb, hy]
        obtain ⟨hs1, hs2, hs3⟩ := or_sept a y k h9 (by omega) HA.out
        obtain ⟨z, hz⟩ : ∃ z, z = 128 ^ k * y := ⟨_, rfl⟩
        rw [← hz] at hs1 hs2 hs3
        obtain ⟨a', ha'⟩ : ∃ a', a' = a + z := ⟨_, rfl⟩
        rw [← ha'] at hs2 hs3
        have HX := Lib.hid hx
        have HZ := Lib.hid (And.intro hz (And.intro ha' hy))
        have HS3 := Lib.hid hs3
        have ha2 : a' < 9223372036854775808 := Nat.lt_of_lt_of_le hs3 (p128_le (by omega))
        have HAE := Lib.hid hA
        subst hA
        have hwy : IntKind.u64.wrap (y : Int) = (y : Int) := by rw [IntKind.wrap_u64]; have := HZ.out.2.2; omega
        clear hx hz ha' hy hs3
        have HF1 : Hid (∀ m, c = k + 1 → RdS 96 g Bk (L.drop (k + 1), m) ((w.setCell ⟨g, 1, none⟩ (.bool m)).setCell ⟨g, 0, none⟩ (.slice (some ⟨b, off, none⟩) (n - (k + 1)) 0))) := fun m e => by
          have hW := heap_setCell_same _ g 0 _ _ (.slice (some ⟨b, off, none⟩) (n - (k + 1)) 0) (heap_setCell_same w g 1 _ _ (.bool m) HG.out)
          exact RdS.cutF (k := k + 1) HK.out hBg (by rw [← HN.out]; exact hlc) HCM.out HBY.out b off rfl (by have := HN.out; omega) _ (fun h => absurd e h) (by rw [← HN.out, e, Nat.sub_self]; exact hW) (((Only.refl g w).setC 1 _).setC 0 _) hBw
        have HF2 : Hid (∀ m, ¬ c = k + 1 → RdS 96 g Bk (L.drop (k + 1), m) ((w.setCell ⟨g, 1, none⟩ (.bool m)).setCell ⟨g, 0, none⟩ (.slice (some ⟨b, off + (k + 1), none⟩) (n - (k + 1)) (c - (k + 1))))) := fun m e => by
          have hW := heap_setCell_same _ g 0 _ _ (.slice (some ⟨b, off + (k + 1), none⟩) (n - (k + 1)) (c - (k + 1))) (heap_setCell_same w g 1 _ _ (.bool m) HG.out)
          exact RdS.cutF (k := k + 1) HK.out hBg (by rw [← HN.out]; exact hlc) HCM.out HBY.out b off rfl (by have := HN.out; omega) _ (fun _ => rfl) (by rw [← HN.out]; exact hW) (((Only.refl g w).setC 1 _).setC 0 _) hBw
        by_cases hx8 : x < 128
        · have d8 : decide ((x : Int) < 128) = true := decide_eq_true (by omega)
          have HV : Hid (dNum (L, false) = (unzig a', (L.drop (k + 1), (!decide (k = 0) && x == 0)))) := by
            have h1 := HE.out
            rw [List.drop_eq_getElem_cons (show k < L.length by have := HN.out; omega), show L[k]'(by have := HN.out; omega) = x from (List.getElem?_eq_some_iff.1 HX.out).2, show 9 - k = (8 - k) + 1 by omega, rdX, if_pos hx8] at h1
            show _ = _
            rw [dNum, if_neg Bool.false_ne_true, h1]
            simp only [Option.map_some]
            rw [HZ.out.2.1, HZ.out.1, show y = x by have := HZ.out.2.2; omega]
          obtain ⟨m, hm⟩ : ∃ m, m = (!decide (k = 0) && x == 0) := ⟨_, rfl⟩
          rw [← hm] at HV
          have HM := Lib.hid hm
          clear hm
          by_cases hx0 : x = 0
          · have dx : ((x : Int) == 0) = true := by rw [hx0]; rfl
            by_cases hk0 : k = 0
            · have dk2 : decide (0 < k) = false := decide_eq_false (by omega)
              have hmf : m = false := by rw [HM.out, hk0]; rfl
              subst hmf
              clear hx0 hk0
              have hb1 := and1u a' (by omega)
              obtain ⟨r, hr⟩ : ∃ r, r = a' % 2 := ⟨_, rfl⟩
              rw [← hr] at hb1
              have HRR := Lib.hid hr
              clear hr
              have hrl : r < 2 := by have := HRR.out; omega
              by_cases hr1 : r = 1
              · have hb2 : (bits .and .u64 (a' : Int) 1 == 1) = true := by rw [hb1, hr1]; rfl
                have HU := Lib.hid (unzig_val (u := a') (by rw [← HRR.out]; exact hr1))
                clear hb1 hr1
                go_wp2_with fail
                · go_ret
                  rw [HV.out]
                  exact ⟨ret_int (by rw [HU.out]; omega), HF1.out _ (by assumption), ((Only.refl g w).setC 1 _).setC 0 _⟩
                · go_ret
                  rw [HV.out]
                  exact ⟨ret_int (by rw [HU.out]; omega), HF2.out _ (by assumption), ((Only.refl g w).setC 1 _).setC 0 _⟩
              · have hb2 : (bits .and .u64 (a' : Int) 1 == 1) = false := by
                  rw [hb1, show r = 0 by omega]; rfl
                have HU := Lib.hid (unzig_val0 (u := a') (by rw [← HRR.out]; exact hr1))
                clear hb1 hr1
                go_wp2_with fail
                · go_ret
                  rw [HV.out]
                  exact ⟨ret_int (by rw [HU.out]; omega), HF1.out _ (by assumption), ((Only.refl g w).setC 1 _).setC 0 _⟩
                · go_ret
                  rw [HV.out]
                  exact ⟨ret_int (by rw [HU.out]; omega), HF2.out _ (by assumption), ((Only.refl g w).setC 1 _).setC 0 _⟩
            · have dk2 : decide (0 < k) = true := decide_eq_true (by omega)
              have hmf : m = true := by rw [HM.out, hx0, decide_eq_false hk0]; rfl
              subst hmf
              clear hx0 hk0
              have hb1 := and1u a' (by omega)
              obtain ⟨r, hr⟩ : ∃ r, r = a' % 2 := ⟨_, rfl⟩
              rw [← hr] at hb1
              have HRR := Lib.hid hr
              clear hr
              have hrl : r < 2 := by have := HRR.out; omega
              by_cases hr1 : r = 1
              · have hb2 : (bits .and .u64 (a' : Int) 1 == 1) = true := by rw [hb1, hr1]; rfl
                have HU := Lib.hid (unzig_val (u := a') (by rw [← HRR.out]; exact hr1))
                clear hb1 hr1
                go_wp2_with fail
                · go_ret
                  rw [HV.out]
                  exact ⟨ret_int (by rw [HU.out]; omega), HF1.out _ (by assumption), ((Only.refl g w).setC 1 _).setC 0 _⟩
                · go_ret
                  rw [HV.out]
                  exact ⟨ret_int (by rw [HU.out]; omega), HF2.out _ (by assumption), ((Only.refl g w).setC 1 _).setC 0 _⟩
              · have hb2 : (bits .and .u64 (a' : Int) 1 == 1) = false := by
                  rw [hb1, show r = 0 by omega]; rfl
                have HU := Lib.hid (unzig_val0 (u := a') (by rw [← HRR.out]; exact hr1))
                clear hb1 hr1
                go_wp2_with fail
                · go_ret
                  rw [HV.out]
                  exact ⟨ret_int (by rw [HU.out]; omega), HF1.out _ (by assumption), ((Only.refl g w).setC 1 _).setC 0 _⟩
                · go_ret
                  rw [HV.out]
                  exact ⟨ret_int (by rw [HU.out]; omega), HF2.out _ (by assumption), ((Only.refl g w).setC 1 _).setC 0 _⟩
          · have dx : ((x : Int) == 0) = false := by simp; omega
            have hmf : m = false := by rw [HM.out, show (x == 0) = false by simp; omega, Bool.and_false]
            subst hmf
            clear hx0
            have hb1 := and1u a' (by omega)
            obtain ⟨r, hr⟩ : ∃ r, r = a' % 2 := ⟨_, rfl⟩
            rw [← hr] at hb1
            have HRR := Lib.hid hr
            clear hr
            have hrl : r < 2 := by have := HRR.out; omega
            by_cases hr1 : r = 1
            · have hb2 : (bits .and .u64 (a' : Int) 1 == 1) = true := by rw [hb1, hr1]; rfl
              have HU := Lib.hid (unzig_val (u := a') (by rw [← HRR.out]; exact hr1))
              clear hb1 hr1
              go_wp2_with fail
              · go_ret
                rw [HV.out]
                exact ⟨ret_int (by rw [HU.out]; omega), HF1.out _ (by assumption), ((Only.refl g w).setC 1 _).setC 0 _⟩
              · go_ret
                rw [HV.out]
                exact ⟨ret_int (by rw [HU.out]; omega), HF2.out _ (by assumption), ((Only.refl g w).setC 1 _).setC 0 _⟩
            · have hb2 : (bits .and .u64 (a' : Int) 1 == 1) = false := by
                rw [hb1, show r = 0 by omega]; rfl
              have HU := Lib.hid (unzig_val0 (u := a') (by rw [← HRR.out]; exact hr1))
              clear hb1 hr1
              go_wp2_with fail
              · go_ret
                rw [HV.out]
                exact ⟨ret_int (by rw [HU.out]; omega), HF1.out _ (by assumption), ((Only.refl g w).setC 1 _).setC 0 _⟩
              · go_ret
                rw [HV.out]
                exact ⟨ret_int (by rw [HU.out]; omega), HF2.out _ (by assumption), ((Only.refl g w).setC 1 _).setC 0 _⟩
        · have d8 : decide ((x : Int) < 128) = false := decide_eq_false (by omega)
          have HEN : Hid (rdX 9 true L = (rdX (9 - (k + 1)) (decide (k + 1 = 0)) (L.drop (k + 1))).map fun t => (a' + 128 ^ (k + 1) * t.1, t.2.1, t.2.2)) := by
            have h1 := HE.out
            rw [List.drop_eq_getElem_cons (show k < L.length by have := HN.out; omega), show L[k]'(by have := HN.out; omega) = x from (List.getElem?_eq_some_iff.1 HX.out).2, show 9 - k = (9 - (k + 1)) + 1 by omega, rdX, if_neg hx8, Option.map_map] at h1
            show _ = _
            rw [h1]
            congr 1
            funext t
            simp only [Function.comp_apply, Prod.mk.injEq, and_true]
            rw [HZ.out.2.1, HZ.out.1, HZ.out.2.2, Nat.mul_add, Nat.pow_succ, Nat.mul_assoc, Nat.add_assoc]
          clear HF1 HF2
          go_wp2_with fail
          go_round
          case measure => simp [intOf]; omega
          case rel => exact ⟨k + 1, a', rfl, by go_num, by omega, by omega, HS3, HEN⟩
      · have HV : Hid (dNum (L, false) = (0, (L, true))) := by
          have h1 := HE.out
          rw [show 9 - k = 0 by omega, rdX] at h1
          show _ = _
          rw [dNum, if_neg Bool.false_ne_true, h1]; rfl
        go_wp2_with fail
        go_ret
        rw [HV.out]
        exact ⟨rfl, HR.out.bad hBw true, (Only.refl g w).setC 1 _⟩
    · have HV : Hid (dNum (L, false) = (0, (L, true))) := by
        have h1 := HE.out
        have h2 : rdX (9 - k) (decide (k = 0)) (L.drop k) = none := by
          rw [List.drop_eq_nil_of_le (by have := HN.out; omega)]
          cases 9 - k <;> rfl
        rw [h2] at h1
        show _ = _
        rw [dNum, if_neg Bool.false_ne_true, h1]; rfl
      go_wp2_with fail
      go_ret
      rw [HV.out]
      exact ⟨rfl, HR.out.bad hBw true, (Only.refl g w).setC 1 _⟩

end Go.Proofs.YtcljkdjmmolfoaaDoor

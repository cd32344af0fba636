/- (*codec.reader).number. -/
import Derived.Test.YtcljkdjmmolfoaaDoorRdPlain
import Derived.Test.YtcljkdjmmolfoaaDoorStep
import Derived.Laws.Bits64b
set_option linter.unusedVariables false
set_option linter.unusedSimpArgs false
namespace Go.Proofs.YtcljkdjmmolfoaaDoor
open Go.RowKit

/-- a reader in block g over bytes that lie below block Bk -/
def RdS (T : TypeId) (g Bk : Nat) (s : St) (W : World) : Prop :=
  ∃ A c, W.heap[g]? = some (.cells #[.slice A s.1.length c, .bool s.2] T (0, 0)) ∧ KRd .u8 W Bk A s.1 ∧ Bk ≤ g ∧ s.1.length ≤ c ∧ c ≤ maxLen ∧ Byt s.1
def NumPost (T : TypeId) (g Bk : Nat) (r : Int × St) (w : World) (e : Ending) (w' : World) : Prop := e = .returned (.int .i64 r.1) ∧ RdS T g Bk r.2 w' ∧ Only g w w'
theorem and127b (x : Nat) (h : x < 256) : bits .and .u8 (x : Int) 127 = ((x % 128 : Nat) : Int) := by
  have h2 : ∀ y : Fin 256, bits .and .u8 ((y.val : Nat) : Int) 127 = ((y.val % 128 : Nat) : Int) := by decide +kernel
  exact h2 ⟨x, h⟩
theorem and1u (x : Nat) (h : x < 18446744073709551616) : bits .and .u64 (x : Int) 1 = ((x % 2 : Nat) : Int) := by
  have h1 := bits_and_u64_nat x 1 h (by omega)
  have e : x &&& 1 = x % 2 := Nat.and_two_pow_sub_one_eq_mod x 1
  rw [e] at h1
  exact h1
theorem pow7 (k : Nat) : 2 ^ (7 * k) = 128 ^ k := by rw [Nat.pow_mul]
theorem p128_le {k : Nat} (h : k ≤ 9) : 128 ^ k ≤ 9223372036854775808 := Nat.le_trans (Nat.pow_le_pow_right (by decide) h) (by decide)
theorem or_sept (a y k : Nat) (hk : k < 9) (hy : y < 128) (ha : a < 128 ^ k) : IntKind.u64.wrap ((y : Int) * 2 ^ (7 * k)) = ((128 ^ k * y : Nat) : Int) ∧ bits .or .u64 (a : Int) ((128 ^ k * y : Nat) : Int) = ((a + 128 ^ k * y : Nat) : Int) ∧ a + 128 ^ k * y < 128 ^ (k + 1) := by
  have h1 : ((y : Int) * 2 ^ (7 * k)) = ((128 ^ k * y : Nat) : Int) := by
    rw [Int.natCast_mul, ← pow7, Int.mul_comm]; simp
  have h2 : 128 ^ k * y + 128 ^ k ≤ 128 ^ (k + 1) := by
    rw [Nat.pow_succ, ← Nat.mul_succ]; exact Nat.mul_le_mul_left _ (by omega)
  have h3 : 128 ^ (k + 1) ≤ 9223372036854775808 := p128_le (by omega)
  refine ⟨?_, ?_, by omega⟩
  · rw [h1, IntKind.wrap_u64]
    generalize 128 ^ k * y = z at *
    generalize 128 ^ k = q at *
    omega
  · exact or_u64 a _ (7 * k) y (by rw [pow7]; exact ha) (by rw [pow7]) (by omega)
theorem unzig_val {u : Nat} (h : u % 2 = 1) : unzig u = -((u / 2 : Nat) : Int) - 1 := by unfold unzig; rw [if_pos h]
theorem unzig_val0 {u : Nat} (h : ¬ u % 2 = 1) : unzig u = ((u / 2 : Nat) : Int) := by unfold unzig; rw [if_neg h]
/-- behind a slice from the front on -/
theorem RdS.cutF {T : TypeId} {g Bk c k : Nat} {L : List Nat} {bad : Bool} {A : Option Addr} {w W : World} (hk : KRd .u8 w Bk A L) (hBg : Bk ≤ g) (hlc : L.length ≤ c) (hcm : c ≤ maxLen) (hby : Byt L) (b off : Nat) (hA : A = some ⟨b, off, none⟩) (hkl : k ≤ L.length)
    (A' : Option Addr) (hA' : c ≠ k → A' = some ⟨b, off + k, none⟩) (hW : W.heap[g]? = some (.cells #[.slice A' (L.length - k) (c - k), .bool bad] T (0, 0))) (ho : Only g w W) (hBw : Bk ≤ w.heap.size) : RdS T g Bk (L.drop k, bad) W := by
  subst hA
  have hk2 : KRd .u8 W Bk (some ⟨b, off, none⟩) L := hk.below (ho.at_ Bk hBw hBg)
  refine ⟨A', c - k, by rw [List.length_drop]; exact hW, ?_, hBg, by rw [List.length_drop]; omega, by omega, fun x hx => hby x (List.mem_of_mem_drop hx)⟩
  by_cases e : c = k
  · have : L.drop k = [] := List.drop_eq_nil_of_le (by omega)
    rw [this]; exact KRd.nil
  · rw [hA' e]; exact hk2.drop k
theorem RdS.bad {T : TypeId} {g Bk : Nat} {L : List Nat} {b : Bool} {w : World} (h : RdS T g Bk (L, b) w) (hBw : Bk ≤ w.heap.size) (m : Bool) : RdS T g Bk (L, m) (w.setCell ⟨g, 1, none⟩ (.bool m)) := by
  obtain ⟨A, c, h1, h2, h3, h4, h5, h6⟩ := h
  exact ⟨A, c, heap_setCell_same w g 1 _ _ _ h1, h2.below (((Only.refl g w).setC 1 (.bool m)).at_ Bk hBw h3), h3, h4, h5, h6⟩

set_option maxHeartbeats 4000000 in
set_option maxRecDepth 100000 in
theorem pNumber_calls (g Bk : Nat) (s : St) (w : World) (h : RdS 81 g Bk s w) (hBw : Bk ≤ w.heap.size) :
    Calls Tryd.prog 31 #[.pointer (some ⟨g, 0, none⟩)] w (NumPost 81 g Bk (pNum s) w) := by
  have HR := Lib.hid h
  obtain ⟨L, bad⟩ := s
  obtain ⟨A, c, hg, hk, hBg, hlc, hcm, hby⟩ := h
  dsimp only at hg hk hlc hby
  obtain ⟨n, hn⟩ : ∃ n, n = L.length := ⟨_, rfl⟩
  rw [← hn] at hg hlc
  have HN := Lib.hid hn
  have HG := Lib.hid hg
  have HK := Lib.hid hk
  have HBY := Lib.hid hby
  have c0 : w.cell? ⟨g, 0, none⟩ = some (.slice A n c) := by rw [cell_of_row w g 0 _ _ (0, 0) hg]; rfl
  have f0 : w.frozen? ⟨g, 0, none⟩ = false := frozen_of_row w g 0 _ _ hg
  have c1 : w.cell? ⟨g, 1, none⟩ = some (.bool bad) := by rw [cell_of_row w g 1 _ _ (0, 0) hg]; rfl
  have f1 : w.frozen? ⟨g, 1, none⟩ = false := frozen_of_row w g 1 _ _ hg
  have lg : g < w.heap.size := (Array.getElem?_eq_some_iff.1 hg).1
  have HCM := Lib.hid hcm
  unfold maxLen at hcm
  clear hg hk hby hn
  have HE0 : Hid (rdX 9 true L = (rdX (9 - 0) (decide (0 = 0)) (L.drop 0)).map fun t => (0 + 128 ^ 0 * t.1, t.2.1, t.2.2)) := by
    show _ = _
    simp
  go_enter Tryd.func31, Tryd.ntmps31
  go_wp2_with fail
  go_loop [3, 4] (fun uu ii => ∃ (k a : Nat), uu = .int .u64 (a : Int) ∧ ii = .int .i64 (k : Int) ∧ k ≤ n ∧ k ≤ 9 ∧ Hid (a < 128 ^ k) ∧ Hid (rdX 9 true L = (rdX (9 - k) (decide (k = 0)) (L.drop k)).map fun t => (a + 128 ^ k * t.1, t.2.1, t.2.2))) (fun _ ii => 9 - (intOf ii).toNat)
  case atStart => exact ⟨0, 0, rfl, rfl, Nat.zero_le _, by omega, (by show _ < _; decide), HE0⟩
  case round =>
    obtain ⟨k, a, rfl, rfl, hkn, hk9, HA, HE⟩ := hrel
    have ha64 : a < 9223372036854775808 := Nat.lt_of_lt_of_le HA.out (p128_le hk9)
    by_cases hlt : k < n
    · by_cases h9 : k < 9
      · obtain ⟨x, hx⟩ : ∃ x, L[k]? = some x := getElem?_of_lt (by have := HN.out; omega)
        have hxb := HBY.out x (List.mem_of_getElem? hx)
        obtain ⟨b, off, hA, hbb, hcx⟩ := HK.out.at_ hx
        have hki : (k : Int) < (n : Int) := by omega
        obtain ⟨y, hy⟩ : ∃ y, y = x % 128 := ⟨_, rfl⟩
        have h127 : bits .and .u8 (x : Int) 127 = (y : Int) := by rw [and127b x hxb, hy]
        obtain ⟨hs1, hs2, hs3⟩ := or_sept a y k h9 (by omega) HA.out
        obtain ⟨z, hz⟩ : ∃ z, z = 128 ^ k * y := ⟨_, rfl⟩
        rw [← hz] at hs1 hs2 hs3
        obtain ⟨a', ha'⟩ : ∃ a', a' = a + z := ⟨_, rfl⟩
        rw [← ha'] at hs2 hs3
        have HX := Lib.hid hx
        have HZ := Lib.hid (And.intro hz (And.intro ha' hy))
        have HS3 := Lib.hid hs3
        have ha2 : a' < 9223372036854775808 := Nat.lt_of_lt_of_le hs3 (p128_le (by omega))
        have HAE := Lib.hid hA
        subst hA
        have hwy : IntKind.u64.wrap (y : Int) = (y : Int) := by rw [IntKind.wrap_u64]; have := HZ.out.2.2; omega
        clear hx hz ha' hy hs3
        have HF1 : Hid (c = k + 1 → RdS 81 g Bk (L.drop (k + 1), bad) (w.setCell ⟨g, 0, none⟩ (.slice (some ⟨b, off, none⟩) (n - (k + 1)) 0))) := fun e => by
          have hW := heap_setCell_same w g 0 _ _ (.slice (some ⟨b, off, none⟩) (n - (k + 1)) 0) HG.out
          exact RdS.cutF (k := k + 1) HK.out hBg (by rw [← HN.out]; exact hlc) HCM.out HBY.out b off rfl (by have := HN.out; omega) _ (fun h => absurd e h) (by rw [← HN.out, e, Nat.sub_self]; exact hW) ((Only.refl g w).setC 0 _) hBw
        have HF2 : Hid (¬ c = k + 1 → RdS 81 g Bk (L.drop (k + 1), bad) (w.setCell ⟨g, 0, none⟩ (.slice (some ⟨b, off + (k + 1), none⟩) (n - (k + 1)) (c - (k + 1))))) := fun e => by
          have hW := heap_setCell_same w g 0 _ _ (.slice (some ⟨b, off + (k + 1), none⟩) (n - (k + 1)) (c - (k + 1))) HG.out
          exact RdS.cutF (k := k + 1) HK.out hBg (by rw [← HN.out]; exact hlc) HCM.out HBY.out b off rfl (by have := HN.out; omega) _ (fun _ => rfl) (by rw [← HN.out]; exact hW) ((Only.refl g w).setC 0 _) hBw
        by_cases hx8 : x < 128
        · have d8 : decide ((x : Int) < 128) = true := decide_eq_true (by omega)
          have HV : Hid (pNum (L, bad) = (unzig a', (L.drop (k + 1), bad))) := by
            have h1 := HE.out
            rw [List.drop_eq_getElem_cons (show k < L.length by have := HN.out; omega), show L[k]'(by have := HN.out; omega) = x from (List.getElem?_eq_some_iff.1 HX.out).2, show 9 - k = (8 - k) + 1 by omega, rdX, if_pos hx8] at h1
            show _ = _
            rw [pNum, h1]
            simp only [Option.map_some]
            rw [HZ.out.2.1, HZ.out.1, show y = x by have := HZ.out.2.2; omega]
          have hb1 := and1u a' (by omega)
          obtain ⟨r, hr⟩ : ∃ r, r = a' % 2 := ⟨_, rfl⟩
          rw [← hr] at hb1
          have HRR := Lib.hid hr
          clear hr
          have hrl : r < 2 := by have := HRR.out; omega
          by_cases hr1 : r = 1
          · have hb2 : (bits .and .u64 (a' : Int) 1 == 1) = true := by rw [hb1, hr1]; rfl
            have HU := Lib.hid (unzig_val (u := a') (by rw [← HRR.out]; exact hr1))
            clear hb1 hr1
            go_wp2_with fail
            all_goals
              go_ret
              rw [HV.out]
              first
                | exact ⟨ret_int (by rw [HU.out]; omega), HF1.out (by assumption), (Only.refl g w).setC 0 _⟩
                | exact ⟨ret_int (by rw [HU.out]; omega), HF2.out (by assumption), (Only.refl g w).setC 0 _⟩
          · have hb2 : (bits .and .u64 (a' : Int) 1 == 1) = false := by
              rw [hb1, show r = 0 by omega]; rfl
            have HU := Lib.hid (unzig_val0 (u := a') (by rw [← HRR.out]; exact hr1))
            clear hb1 hr1
            go_wp2_with fail
            all_goals
              go_ret
              rw [HV.out]
              first
                | exact ⟨ret_int (by rw [HU.out]; omega), HF1.out (by assumption), (Only.refl g w).setC 0 _⟩
                | exact ⟨ret_int (by rw [HU.out]; omega), HF2.out (by assumption), (Only.refl g w).setC 0 _⟩
        · have d8 : decide ((x : Int) < 128) = false := decide_eq_false (by omega)
          have HEN : Hid (rdX 9 true L = (rdX (9 - (k + 1)) (decide (k + 1 = 0)) (L.drop (k + 1))).map fun t => (a' + 128 ^ (k + 1) * t.1, t.2.1, t.2.2)) := by
            have h1 := HE.out
            rw [List.drop_eq_getElem_cons (show k < L.length by have := HN.out; omega), show L[k]'(by have := HN.out; omega) = x from (List.getElem?_eq_some_iff.1 HX.out).2, show 9 - k = (9 - (k + 1)) + 1 by omega, rdX, if_neg hx8, Option.map_map] at h1
            show _ = _
            rw [h1]
            congr 1
            funext t
            simp only [Function.comp_apply, Prod.mk.injEq, and_true]
            rw [HZ.out.2.1, HZ.out.1, HZ.out.2.2, Nat.mul_add, Nat.pow_succ, Nat.mul_assoc, Nat.add_assoc]
          clear HF1 HF2
          go_wp2_with fail
          go_round
          case measure => simp [intOf]; omega
          case rel => exact ⟨k + 1, a', rfl, by go_num, by omega, by omega, HS3, HEN⟩
      · have HV : Hid (pNum (L, bad) = (0, (L, true))) := by
          have h1 := HE.out
          rw [show 9 - k = 0 by omega, rdX] at h1
          show _ = _
          rw [pNum, h1]; rfl
        go_wp2_with fail
        go_ret
        rw [HV.out]
        exact ⟨rfl, HR.out.bad hBw true, (Only.refl g w).setC 1 _⟩
    · have HV : Hid (pNum (L, bad) = (0, (L, true))) := by
        have h1 := HE.out
        have h2 : rdX (9 - k) (decide (k = 0)) (L.drop k) = none := by
          rw [List.drop_eq_nil_of_le (by have := HN.out; omega)]
          cases 9 - k <;> rfl
        rw [h2] at h1
        show _ = _
        rw [pNum, h1]; rfl
      go_wp2_with fail
      go_ret
      rw [HV.out]
      exact ⟨rfl, HR.out.bad hBw true, (Only.refl g w).setC 1 _⟩

end Go.Proofs.YtcljkdjmmolfoaaDoor

/- natural.Parse of digits. -/
import Derived.Test.YtmlbolfopakgmaaDoorAscii
import Derived.Test.YtmlbolfopakgmaaDoorMulAdd
set_option linter.unusedVariables false
set_option linter.unusedSimpArgs false
namespace Go.Proofs.YtmlbolfopakgmaaDoor
open Go.RowKit

/-- the number that digits tell -/
def decv (l : List UInt8) : Nat := l.foldl (fun a b => a * 10 + (b.toNat - 48)) 0
theorem decv_snoc (l : List UInt8) (b : UInt8) : decv (l ++ [b]) = decv l * 10 + (b.toNat - 48) := by simp [decv]
def Dgt (l : List UInt8) : Prop := ∀ b ∈ l, 48 ≤ b.toNat ∧ b.toNat ≤ 57

theorem dgs_contains (b : UInt8) : dgs.data.toList.contains b = decide (48 ≤ b.toNat ∧ b.toNat ≤ 57) := by
  have h : ∀ n : Fin 256, dgs.data.toList.contains (UInt8.ofNat n.val) = decide (48 ≤ (UInt8.ofNat n.val).toNat ∧ (UInt8.ofNat n.val).toNat ≤ 57) := by decide +kernel
  have h2 := h ⟨b.toNat, by have := UInt8.toNat_lt b; omega⟩
  rwa [show UInt8.ofNat b.toNat = b from UInt8.ofNat_toNat] at h2

theorem trimS_all {l : List UInt8} (h : Dgt l) : Lib.trimS l dgs.data.toList = [] := by
  have h1 : Lib.trimRightS l dgs.data.toList = [] := by
    unfold Lib.trimRightS
    have h2 : ∀ r : List UInt8, (∀ b ∈ r, dgs.data.toList.contains b = true) → r.dropWhile (dgs.data.toList.contains ·) = [] := by
      intro r
      induction r with
      | nil => intro _; rfl
      | cons b r ih =>
        intro hr
        rw [List.dropWhile_cons, if_pos (hr b (by simp))]
        exact ih fun c hc => hr c (by simp [hc])
    rw [h2 _ fun b hb => by rw [dgs_contains]; exact decide_eq_true (h b (List.mem_reverse.1 hb))]
    rfl
  unfold Lib.trimS
  rw [h1]; rfl

set_option maxHeartbeats 8000000 in
set_option maxRecDepth 100000 in
theorem parse_ok_calls (s : ByteArray) (w : World) (h0 : 0 < s.size) (h1 : s.size ≤ 2000) (hz : (h : 0 < s.size) → s.size = 1 ∨ (s[0]'h).toNat ≠ 48) (hd : Dgt s.data.toList) :
    Calls Tryd.prog 23 #[.string s] w fun e w' => e = .returned (.tuple #[.string (ncan (decv s.data.toList)), .int .i64 0]) ∧ Below w.heap.size w w' := by
  have HT := fun w => trim_dgs_calls s w h0 (by omega)
  rw [trimS_all hd, show bstr [] = (⟨#[]⟩ : ByteArray) from rfl] at HT
  have HT' := Lib.hid HT
  clear HT
  have HT := HT'
  clear HT'
  have HD := Lib.hid hd
  have hemps : s.toList.isEmpty = false := by
    rw [Lib.toList_data]
    cases h : s.data.toList with
    | nil => have := Lib.size_eq s; rw [h, List.length_nil] at this; omega
    | cons _ _ => rfl
  have hz1 := hz h0
  have h63 : s.size ≤ 9223372036854775807 := by omega
  clear hz hd
  by_cases hs1 : s.size = 1
  · have hd1 : decide ((1 : Int) < (s.size : Int)) = false := by simp; omega
    go_enter Tryd.func23, Tryd.ntmps23
    go_wp2_with fail
    refine (HT.out _).mono ?_
    rintro e w1 ⟨rfl, hb1⟩
    have HB1 := Lib.hid hb1
    clear hb1
    go_wp2_with fail
    clear HT hemps
    go_loopw [4, 28] (fun vv ii wr => ∃ (k : Nat) (l : List Nat), k ≤ s.size ∧ ii = .int .i64 (k : Int) ∧ wr.ownsRow w1.heap.size 60 1 vv l.length (l.map (fun (x : Nat) => Value.int .u32 (x : Int))) ∧ l.length ≤ k ∧ Hid (Dig l ∧ valL l = decv (s.data.toList.take k)) ∧ Below w1.heap.size w1 wr) (fun _ ii _ => s.size - (intOf ii).toNat)
    case atStart => exact ⟨0, [], by omega, rfl, World.ownsRow_nil _ _ _ _, by simp, ⟨Dig.nil, rfl⟩, Below.refl _ _⟩
    case round =>
      obtain ⟨k, l, hk, rfl, hown, hll, HI, hbel⟩ := hrel
      by_cases hlt : k < s.size
      · obtain ⟨x, hx⟩ : ∃ x : UInt8, s[k]'hlt = x := ⟨_, rfl⟩
        have hxl : s.data.toList[k]? = some x := by rw [← hx]; exact Lib.data_getElem? s k hlt
        have hxd := HD.out x (List.mem_of_getElem? hxl)
        obtain ⟨d, hdd⟩ : ∃ d, d = x.toNat - 48 := ⟨_, rfl⟩
        have hd10 : d < 10 := by omega
        have u1 : (x.toNat : Int) - 48 = (d : Int) := by omega
        have MA := Lib.hid (mulAdd_calls _ l d w1.heap.size wr hown hbel.size HI.out.1 (by omega) hd10)
        have HS : Hid (decv (s.data.toList.take (k + 1)) = decv (s.data.toList.take k) * 10 + d) := by
          show _ = _
          rw [List.take_add_one, hxl, hdd]
          exact decv_snoc _ _
        have HBEL := Lib.hid hbel
        clear hxl hxd hdd hown hbel
        go_wp2_with fail
        refine MA.out.mono ?_
        rintro e w2 ⟨v', l', rfl, hown', hdig, hval, hlen, hb2⟩
        have HO := Lib.hid hown'
        have HI2 : Hid (Dig l' ∧ valL l' = decv (s.data.toList.take (k + 1))) := ⟨hdig, by rw [hval, HI.out.2, HS.out]⟩
        have HB2 := Lib.hid (HBEL.out.trans hb2)
        clear hown' hdig hval hb2
        go_wp2_with fail
        go_roundw
        case measure => simp [intOf] <;> omega
        case rel => exact ⟨k + 1, l', by omega, by go_num, HO.out, by omega, HI2, HB2.out⟩
      · obtain ⟨A, c0, hv, hrd, hle⟩ := own_shape hown
        subst hv
        have htk : s.data.toList.take k = s.data.toList := List.take_of_length_le (by rw [← Lib.size_eq]; omega)
        have HI3 := HI.out
        rw [htk] at HI3
        have HTR := trim_calls A c0 l wr hrd HI3.1 hle (by omega)
        have HTX := text_calls A c0 (limbs (valL l)) wr (KRd.limbs hrd HI3.1 rfl) (limbs_dig _) (Nat.le_trans (take_limbs HI3.1).2 hle) (by have := (take_limbs HI3.1).2; omega)
        rw [valL_limbs, HI3.2] at HTX
        rw [HI3.2] at HTR
        have HTR := Lib.hid HTR
        have HTX := Lib.hid HTX
        have HBEL := Lib.hid hbel
        clear hown hrd hbel HI htk HI3
        go_wp2_with fail
        refine HTR.out.mono ?_
        rintro e w2 ⟨rfl, rfl⟩
        go_wp2_with fail
        refine HTX.out.mono ?_
        rintro e w2 ⟨rfl, hb2⟩
        have HB2 := Lib.hid (HB1.out.trans ((HBEL.out.trans (hb2.mono HBEL.out.size)).mono HB1.out.size))
        clear hb2
        go_wp2_with fail
        go_ret2
        exact ⟨rfl, HB2.out⟩
  · have hd1 : decide ((1 : Int) < (s.size : Int)) = true := by simp; omega
    have hne : (s[0]'h0).toNat ≠ 48 := hz1.resolve_left hs1
    have hne2 : (((s[0]'h0).toNat : Int) == 48) = false := by simp; omega
    clear hz1 hne
    go_enter Tryd.func23, Tryd.ntmps23
    go_wp2_with fail
    refine (HT.out _).mono ?_
    rintro e w1 ⟨rfl, hb1⟩
    have HB1 := Lib.hid hb1
    clear hb1
    go_wp2_with fail
    clear HT hemps
    go_loopw [4, 28] (fun vv ii wr => ∃ (k : Nat) (l : List Nat), k ≤ s.size ∧ ii = .int .i64 (k : Int) ∧ wr.ownsRow w1.heap.size 60 1 vv l.length (l.map (fun (x : Nat) => Value.int .u32 (x : Int))) ∧ l.length ≤ k ∧ Hid (Dig l ∧ valL l = decv (s.data.toList.take k)) ∧ Below w1.heap.size w1 wr) (fun _ ii _ => s.size - (intOf ii).toNat)
    case atStart => exact ⟨0, [], by omega, rfl, World.ownsRow_nil _ _ _ _, by simp, ⟨Dig.nil, rfl⟩, Below.refl _ _⟩
    case round =>
      obtain ⟨k, l, hk, rfl, hown, hll, HI, hbel⟩ := hrel
      by_cases hlt : k < s.size
      · obtain ⟨x, hx⟩ : ∃ x : UInt8, s[k]'hlt = x := ⟨_, rfl⟩
        have hxl : s.data.toList[k]? = some x := by rw [← hx]; exact Lib.data_getElem? s k hlt
        have hxd := HD.out x (List.mem_of_getElem? hxl)
        obtain ⟨d, hdd⟩ : ∃ d, d = x.toNat - 48 := ⟨_, rfl⟩
        have hd10 : d < 10 := by omega
        have u1 : (x.toNat : Int) - 48 = (d : Int) := by omega
        have MA := Lib.hid (mulAdd_calls _ l d w1.heap.size wr hown hbel.size HI.out.1 (by omega) hd10)
        have HS : Hid (decv (s.data.toList.take (k + 1)) = decv (s.data.toList.take k) * 10 + d) := by
          show _ = _
          rw [List.take_add_one, hxl, hdd]
          exact decv_snoc _ _
        have HBEL := Lib.hid hbel
        clear hxl hxd hdd hown hbel
        go_wp2_with fail
        refine MA.out.mono ?_
        rintro e w2 ⟨v', l', rfl, hown', hdig, hval, hlen, hb2⟩
        have HO := Lib.hid hown'
        have HI2 : Hid (Dig l' ∧ valL l' = decv (s.data.toList.take (k + 1))) := ⟨hdig, by rw [hval, HI.out.2, HS.out]⟩
        have HB2 := Lib.hid (HBEL.out.trans hb2)
        clear hown' hdig hval hb2
        go_wp2_with fail
        go_roundw
        case measure => simp [intOf] <;> omega
        case rel => exact ⟨k + 1, l', by omega, by go_num, HO.out, by omega, HI2, HB2.out⟩
      · obtain ⟨A, c0, hv, hrd, hle⟩ := own_shape hown
        subst hv
        have htk : s.data.toList.take k = s.data.toList := List.take_of_length_le (by rw [← Lib.size_eq]; omega)
        have HI3 := HI.out
        rw [htk] at HI3
        have HTR := trim_calls A c0 l wr hrd HI3.1 hle (by omega)
        have HTX := text_calls A c0 (limbs (valL l)) wr (KRd.limbs hrd HI3.1 rfl) (limbs_dig _) (Nat.le_trans (take_limbs HI3.1).2 hle) (by have := (take_limbs HI3.1).2; omega)
        rw [valL_limbs, HI3.2] at HTX
        rw [HI3.2] at HTR
        have HTR := Lib.hid HTR
        have HTX := Lib.hid HTX
        have HBEL := Lib.hid hbel
        clear hown hrd hbel HI htk HI3
        go_wp2_with fail
        refine HTR.out.mono ?_
        rintro e w2 ⟨rfl, rfl⟩
        go_wp2_with fail
        refine HTX.out.mono ?_
        rintro e w2 ⟨rfl, hb2⟩
        have HB2 := Lib.hid (HB1.out.trans ((HBEL.out.trans (hb2.mono HBEL.out.size)).mono HB1.out.size))
        clear hb2
        go_wp2_with fail
        go_ret2
        exact ⟨rfl, HB2.out⟩

end Go.Proofs.YtmlbolfopakgmaaDoor

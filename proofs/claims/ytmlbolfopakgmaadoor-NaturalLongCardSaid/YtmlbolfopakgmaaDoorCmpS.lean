/- natural.Compare (strings.Compare), Subtract. -/
import Derived.Test.YtmlbolfopakgmaaDoorAdd
import Derived.Lib.Bytealg
import Derived.Shelf.Strings.Search1
set_option linter.unusedVariables false
set_option linter.unusedSimpArgs false
namespace Go.Proofs.YtmlbolfopakgmaaDoor
open Go.RowKit

set_option maxHeartbeats 1000000 in
set_option maxRecDepth 100000 in
theorem compareString_calls (a b : ByteArray) (w : World) :
    Calls Tryd.prog 80 #[.string a, .string b] w fun e w' => e = .returned (.int .i64 (Lib.compareBytes a.data.toList b.data.toList)) ∧ w' = w := by
  go_enter Tryd.func80, Tryd.ntmps80
  go_wp2
  rw [run_callFunc_extern Tryd.func88 (by kernel_rfl) (by kernel_rfl) (by kernel_rfl) (e := Extern.BytealgCompare.compare) (by kernel_rfl), Lib.run_compareString]
  simp only [Result.andThen]
  rw [Oper.upon_value]
  go_wp2
  go_ret
  exact ⟨rfl, rfl⟩

theorem strCompare_calls (a b : ByteArray) (w : World) :
    Calls Tryd.prog 58 #[.string a, .string b] w fun e w' => e = .returned (.int .i64 (Lib.compareBytes a.data.toList b.data.toList)) ∧ w' = w := by
  go_enter Tryd.func58, Tryd.ntmps58
  go_wp2_with (go_at_call 80; refine (compareString_calls _ _ _).mono ?_; rintro e w' ⟨rfl, rfl⟩)
  go_ret
  exact ⟨rfl, rfl⟩

/-- strings of the same length compare as their numbers -/
theorem cmp_num : ∀ (a b : List UInt8), a.length = b.length → Lib.compareBytes a b = cmpN (num a) (num b)
  | [], [], _ => rfl
  | [], _ :: _, h => by simp at h
  | _ :: _, [], h => by simp at h
  | x :: a, y :: b, h => by
    have hl : a.length = b.length := by simpa using h
    have ih := cmp_num a b hl
    have ha := num_lt a
    have hb := num_lt b
    rw [Lib.compareBytes, num_cons, num_cons, ← hl]
    rw [hl.symm] at hb
    generalize 256 ^ a.length = P at *
    have hx : ∀ u v : UInt8, u < v ↔ u.toNat < v.toNat := fun u v => UInt8.lt_iff_toNat_lt
    by_cases h1 : x < y
    · rw [if_pos h1]
      have h2 := (hx x y).1 h1
      have h3 : P * (x.toNat + 1) ≤ P * y.toNat := Nat.mul_le_mul_left _ h2
      rw [Nat.mul_add] at h3
      unfold cmpN; rw [if_pos (by omega)]
    · rw [if_neg h1]
      by_cases h2 : y < x
      · rw [if_pos h2]
        have h3 := (hx y x).1 h2
        have h4 : P * (y.toNat + 1) ≤ P * x.toNat := Nat.mul_le_mul_left _ h3
        rw [Nat.mul_add] at h4
        unfold cmpN; rw [if_neg (by omega), if_pos (by omega)]
      · rw [if_neg h2, ih]
        have h3 : x.toNat = y.toNat := by
          have := mt (hx x y).2 h1
          have := mt (hx y x).2 h2
          omega
        rw [h3]
        simp only [cmpN, Nat.add_lt_add_iff_right]

theorem cmp_canon_len {a b : Nat} (h : (canon a).length < (canon b).length) : a < b := by
  have hb : b ≠ 0 := by rintro rfl; rw [canon_zero] at h; simp at h
  have h1 := num_lt (canon a)
  rw [num_canon] at h1
  have h2 := pow_le_canon hb
  have h3 : 256 ^ (canon a).length ≤ 256 ^ ((canon b).length - 1) := Nat.pow_le_pow_right (by omega) (by omega)
  omega

set_option maxHeartbeats 1000000 in
set_option maxRecDepth 100000 in
theorem natCompare_calls (s t : ByteArray) (w : World) (hs : s.size ≤ 1000000000) (ht : t.size ≤ 1000000000) :
    Calls Tryd.prog 29 #[.string s, .string t] w fun e w' => e = .returned (.int .i64 (cmpN (snum s) (snum t))) ∧ w' = w := by
  have HN1 := Lib.hid (fun w => normalize_calls s w)
  have HN2 := Lib.hid (fun w => normalize_calls t w)
  have hs1 := Nat.le_trans (ncan_snum_size s) hs
  have ht1 := Nat.le_trans (ncan_snum_size t) ht
  obtain ⟨a, ha⟩ : ∃ a, a = snum s := ⟨_, rfl⟩
  obtain ⟨b, hb⟩ : ∃ b, b = snum t := ⟨_, rfl⟩
  rw [← ha] at HN1 hs1 ⊢
  rw [← hb] at HN2 ht1 ⊢
  obtain ⟨x, hx⟩ : ∃ x, x = ncan a := ⟨_, rfl⟩
  obtain ⟨y, hy⟩ : ∃ y, y = ncan b := ⟨_, rfl⟩
  rw [← hx] at HN1 hs1
  rw [← hy] at HN2 ht1
  have hxs : x.size = (canon a).length := by rw [hx, ncan_size]
  have hys : y.size = (canon b).length := by rw [hy, ncan_size]
  have hxd : x.data.toList = canon a := by rw [hx]; rfl
  have hyd : y.data.toList = canon b := by rw [hy]; rfl
  clear ha hb hx hy hs ht
  by_cases hl : x.size = y.size
  · have HE : Hid (Lib.compareBytes x.data.toList y.data.toList = cmpN a b) := by
      show _ = _
      rw [hxd, hyd, cmp_num _ _ (by omega), num_canon, num_canon]
    have hne : ((x.size : Int) != (y.size : Int)) = false := by simp [hl]
    clear hxs hys hxd hyd hl
    go_enter Tryd.func29, Tryd.ntmps29
    go_wp2_with fail
    refine (HN1.out _).mono ?_
    rintro e w1 ⟨rfl, rfl⟩
    go_wp2_with fail
    refine (HN2.out _).mono ?_
    rintro e w1 ⟨rfl, rfl⟩
    go_wp2_with (go_at_call 58; refine (strCompare_calls _ _ _).mono ?_; rintro e w' ⟨rfl, rfl⟩)
    go_ret
    exact ⟨ret_int HE.out, rfl⟩
  · have HE : Hid (sgn ((x.size : Int) - (y.size : Int)) = cmpN a b) := by
      show _ = _
      rcases Nat.lt_or_ge x.size y.size with h | h
      · have := cmp_canon_len (a := a) (b := b) (by omega)
        rw [sgn_neg (by omega)]; unfold cmpN; rw [if_pos this]
      · have := cmp_canon_len (a := b) (b := a) (by omega)
        rw [sgn_pos (by omega)]; unfold cmpN; rw [if_neg (by omega), if_pos this]
    have hne : ((x.size : Int) != (y.size : Int)) = true := by simp; omega
    clear hxs hys hxd hyd hl
    go_enter Tryd.func29, Tryd.ntmps29
    go_wp2_with fail
    refine (HN1.out _).mono ?_
    rintro e w1 ⟨rfl, rfl⟩
    go_wp2_with fail
    refine (HN2.out _).mono ?_
    rintro e w1 ⟨rfl, rfl⟩
    go_wp2_with (go_at_call 57; refine (sign_calls _ _).mono ?_; rintro e w' ⟨rfl, rfl⟩)
    go_ret
    exact ⟨ret_int HE.out, rfl⟩

/-- what Subtract answers -/
def SubAns (a b : Nat) (w : World) (e : Ending) (w' : World) : Prop :=
  e = .returned (if a < b then .tuple #[.string ⟨#[]⟩, .bool false] else .tuple #[.string (ncan (a - b)), .bool true]) ∧ Below w.heap.size w w'

theorem snum_len8' {s : ByteArray} (hs : s.size ≤ 100000000) : (limbs (snum s)).length ≤ 100000000 := by
  rw [limbs_len_canon]; have := canon_num_len s.data.toList; rw [← Lib.size_eq] at this; show ((canon (num s.data.toList)).length + 3) / 4 ≤ _; omega
theorem limbs_mono' {a b : Nat} (h : a ≤ b) : (limbs a).length ≤ (limbs b).length := by
  rcases Nat.lt_or_ge (limbs b).length (limbs a).length with h2 | h2
  · have := lt_of_len h2; omega
  · exact h2

set_option maxHeartbeats 1000000 in
set_option maxRecDepth 100000 in
theorem natSubtract_calls (s t : ByteArray) (w : World) (hs : s.size ≤ 100000000) (ht : t.size ≤ 100000000) :
    Calls Tryd.prog 38 #[.string s, .string t] w fun e w' => SubAns (snum s) (snum t) w e w' := by
  have HP1 := Lib.hid (fun w => parse_calls s w (by omega))
  have HP2 := Lib.hid (fun w => parse_calls t w (by omega))
  have HLA := Lib.hid (snum_len8' hs)
  have HLB := Lib.hid (snum_len8' ht)
  obtain ⟨a, ha⟩ : ∃ a, a = snum s := ⟨_, rfl⟩
  obtain ⟨b, hb⟩ : ∃ b, b = snum t := ⟨_, rfl⟩
  rw [← ha] at HP1 HLA ⊢
  rw [← hb] at HP2 HLB ⊢
  clear ha hb hs ht
  go_enter Tryd.func38, Tryd.ntmps38
  go_wp2_with fail
  refine (HP1.out _).mono ?_
  rintro e w1 ⟨A, ca, rfl, hca, hra, hb1⟩
  go_wp2_with fail
  refine (HP2.out _).mono ?_
  rintro e w2 ⟨B, cb, rfl, hcb, hrb, hb2⟩
  have HBEL : Hid (Below w.heap.size w w2) := hb1.trans (hb2.mono hb1.size)
  have HRA := Lib.hid (hra.next hb2)
  have HRB := Lib.hid hrb
  have HC := Lib.hid (compare_calls A B ca cb a b w2 HRA.out HRB.out (by have := HLA.out; omega) (by have := HLB.out; omega))
  clear hra hrb hb1 hb2
  by_cases hlt : a < b
  · have hcm : cmpN a b = -1 := if_pos hlt
    rw [hcm] at HC
    have HLT := Lib.hid hlt
    clear hcm hlt
    go_wp2_with fail
    refine HC.out.mono ?_
    rintro e w3 ⟨rfl, hb3⟩
    have HB3 : Hid (Below w.heap.size w w3) := HBEL.out.trans (hb3.mono HBEL.out.size)
    clear hb3
    go_wp2_with fail
    go_ret2
    refine ⟨?_, HB3.out⟩
    rw [if_pos HLT.out]; rfl
  · have hcm : 0 ≤ cmpN a b := by unfold cmpN; rw [if_neg hlt]; split <;> omega
    obtain ⟨cm, hcm1⟩ : ∃ cm, cm = cmpN a b := ⟨_, rfl⟩
    rw [← hcm1] at HC hcm
    have HLT := Lib.hid hlt
    clear hcm1 hlt
    have hcm2 : ¬ cm < 0 := by omega
    go_wp2_with fail
    refine HC.out.mono ?_
    rintro e w3 ⟨rfl, hb3⟩
    have HB3 : Hid (Below w.heap.size w w3) := HBEL.out.trans (hb3.mono HBEL.out.size)
    have HS := Lib.hid (subtract_calls A B ca cb a b w3 (HRA.out.next hb3) (HRB.out.next hb3) (by have := HLA.out; omega) (by have := HLT.out; omega))
    clear hb3
    go_wp2_with fail
    refine HS.out.mono ?_
    rintro e w4 ⟨D, cd, rfl, hcd, hrd, hb4⟩
    have HT := Lib.hid (text_calls D cd (limbs (a - b)) w4 hrd (limbs_dig _) hcd (by have := limbs_mono' (Nat.sub_le a b); have := HLA.out; omega))
    rw [valL_limbs] at HT
    have HB4 : Hid (Below w.heap.size w w4) := HB3.out.trans (hb4.mono HB3.out.size)
    clear hrd hb4
    go_wp2_with fail
    refine HT.out.mono ?_
    rintro e w5 ⟨rfl, hb5⟩
    have HB5 : Hid (Below w.heap.size w w5) := HB4.out.trans (hb5.mono HB4.out.size)
    clear hb5
    go_wp2_with fail
    go_ret2
    refine ⟨?_, HB5.out⟩
    rw [if_neg HLT.out]; rfl

end Go.Proofs.YtmlbolfopakgmaaDoor

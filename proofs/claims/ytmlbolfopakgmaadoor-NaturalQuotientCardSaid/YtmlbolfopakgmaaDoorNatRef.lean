/- the definition's operations on strings: NatCompare, NatAdd, NatSubtract, NatMultiply. -/
import Derived.Test.YtmlbolfopakgmaaDoorFew
import Derived.Test.YtmlbolfopakgmaaDoorTimes
import Derived.Test.YtmlbolfopakgmaaDoorPlus
import Derived.Test.YtmlbolfopakgmaaDoorMinus
import Derived.Test.YtmlbolfopakgmaaDoorUint
set_option linter.unusedVariables false
set_option linter.unusedSimpArgs false
namespace Go.Proofs.YtmlbolfopakgmaaDoor
open Go.RowKit

section
variable {s t : ByteArray} {x y z : Nat}

set_option maxHeartbeats 1000000 in
set_option maxRecDepth 100000 in
theorem ref_mul (hs : Sm s x) (ht : Sm t y) (hz : x * y = z) (w : World) : Calls Tryd.prog 36 #[.string s, .string t] w fun e w' => e = .returned (.string (ncan z)) ∧ Below w.heap.size w w' := by
  have HP1 := Lib.hid (fun w => limbsRef_calls s w (by have := hs.2; omega))
  have HP2 := Lib.hid (fun w => limbsRef_calls t w (by have := ht.2; omega))
  have HLA := Lib.hid (snum_len8' (s := s) (by have := hs.2; omega))
  have HLB := Lib.hid (snum_len8' (s := t) (by have := ht.2; omega))
  rw [hs.1] at HP1 HLA
  rw [ht.1] at HP2 HLB
  have hl : (limbs z).length ≤ 200000000 := by
    rw [← hz]
    have h1 := lt_pow_limbs x
    have h2 := lt_pow_limbs y
    have h3 : x * y < 4294967296 ^ ((limbs x).length + (limbs y).length) := by
      rw [Nat.pow_add]; exact Nat.mul_lt_mul'' h1 h2
    have := limbs_len_le h3
    have := HLA.out; have := HLB.out
    omega
  have HL := Lib.hid hl
  have HZ := Lib.hid hz
  clear hl hz hs ht
  go_enter Tryd.func36, Tryd.ntmps36
  go_wp2_with fail
  refine (HP1.out _).mono ?_
  rintro e w1 ⟨A, ca, rfl, hca, hra, hb1⟩
  go_wp2_with fail
  refine (HP2.out _).mono ?_
  rintro e w2 ⟨B, cb, rfl, hcb, hrb, hb2⟩
  have HBEL : Hid (Below w.heap.size w w2) := hb1.trans (hb2.mono hb1.size)
  have HT := times_calls A B ca cb x y w2 (hra.next hb2) hrb HLA.out HLB.out
  rw [HZ.out] at HT
  have HT := Lib.hid HT
  clear hra hrb hb1 hb2
  go_wp2_with fail
  refine HT.out.mono ?_
  rintro e w3 ⟨D, cd, rfl, hcd, hrd, hb3⟩
  have HX := textRef_calls D cd (limbs z) w3 hrd (limbs_dig _) hcd (by have := HL.out; omega)
  rw [valL_limbs] at HX
  have HX := Lib.hid HX
  have HB3 : Hid (Below w.heap.size w w3) := HBEL.out.trans (hb3.mono HBEL.out.size)
  clear hrd hb3
  go_wp2_with fail
  refine HX.out.mono ?_
  rintro e w4 ⟨rfl, hb4⟩
  have HB4 : Hid (Below w.heap.size w w4) := HB3.out.trans (hb4.mono HB3.out.size)
  clear hb4
  go_wp2_with fail
  go_ret
  exact ⟨rfl, HB4.out⟩

set_option maxHeartbeats 1000000 in
set_option maxRecDepth 100000 in
theorem ref_add (hs : Sm s x) (ht : Sm t y) (hz : x + y = z) (w : World) : Calls Tryd.prog 40 #[.string s, .string t] w fun e w' => e = .returned (.string (ncan z)) ∧ Below w.heap.size w w' := by
  have HP1 := Lib.hid (fun w => limbsRef_calls s w (by have := hs.2; omega))
  have HP2 := Lib.hid (fun w => limbsRef_calls t w (by have := ht.2; omega))
  have HLA := Lib.hid (snum_len8' (s := s) (by have := hs.2; omega))
  have HLB := Lib.hid (snum_len8' (s := t) (by have := ht.2; omega))
  rw [hs.1] at HP1 HLA
  rw [ht.1] at HP2 HLB
  have HZ := Lib.hid hz
  clear hz hs ht
  go_enter Tryd.func40, Tryd.ntmps40
  go_wp2_with fail
  refine (HP1.out _).mono ?_
  rintro e w1 ⟨A, ca, rfl, hca, hra, hb1⟩
  go_wp2_with fail
  refine (HP2.out _).mono ?_
  rintro e w2 ⟨B, cb, rfl, hcb, hrb, hb2⟩
  have HBEL : Hid (Below w.heap.size w w2) := hb1.trans (hb2.mono hb1.size)
  have HT := Lib.hid (plus_calls A B ca cb x y w2 (hra.next hb2) hrb HLA.out HLB.out)
  clear hra hrb hb1 hb2
  go_wp2_with fail
  refine HT.out.mono ?_
  rintro e w3 ⟨D, cd, os, rfl, hcd, hol, hod, hov, hrd, hb3⟩
  have HX := Lib.hid (textRef_calls D cd os w3 hrd hod hcd (by omega))
  rw [hov, HZ.out] at HX
  have HB3 : Hid (Below w.heap.size w w3) := HBEL.out.trans (hb3.mono HBEL.out.size)
  clear hrd hb3 hov hod
  go_wp2_with fail
  refine HX.out.mono ?_
  rintro e w4 ⟨rfl, hb4⟩
  have HB4 : Hid (Below w.heap.size w w4) := HB3.out.trans (hb4.mono HB3.out.size)
  clear hb4
  go_wp2_with fail
  go_ret
  exact ⟨rfl, HB4.out⟩

set_option maxHeartbeats 1000000 in
set_option maxRecDepth 100000 in
theorem ref_cmp (hs : Sm s x) (ht : Sm t y) {c : Int} (hz : cmpN x y = c) (w : World) : Calls Tryd.prog 30 #[.string s, .string t] w fun e w' => e = .returned (.int .i64 c) ∧ Below w.heap.size w w' := by
  have HP1 := Lib.hid (fun w => limbsRef_calls s w (by have := hs.2; omega))
  have HP2 := Lib.hid (fun w => limbsRef_calls t w (by have := ht.2; omega))
  have HLA := Lib.hid (snum_len8' (s := s) (by have := hs.2; omega))
  have HLB := Lib.hid (snum_len8' (s := t) (by have := ht.2; omega))
  rw [hs.1] at HP1 HLA
  rw [ht.1] at HP2 HLB
  have HZ := Lib.hid hz
  clear hz hs ht
  go_enter Tryd.func30, Tryd.ntmps30
  go_wp2_with fail
  refine (HP1.out _).mono ?_
  rintro e w1 ⟨A, ca, rfl, hca, hra, hb1⟩
  go_wp2_with fail
  refine (HP2.out _).mono ?_
  rintro e w2 ⟨B, cb, rfl, hcb, hrb, hb2⟩
  have HBEL : Hid (Below w.heap.size w w2) := hb1.trans (hb2.mono hb1.size)
  have HT := Lib.hid (order_calls A B ca cb x y w2 (hra.next hb2) hrb (by have := HLA.out; omega) (by have := HLB.out; omega))
  rw [HZ.out] at HT
  clear hra hrb hb1 hb2
  go_wp2_with fail
  refine HT.out.mono ?_
  rintro e w3 ⟨rfl, hb3⟩
  have HB3 : Hid (Below w.heap.size w w3) := HBEL.out.trans (hb3.mono HBEL.out.size)
  clear hb3
  go_wp2_with fail
  go_ret
  exact ⟨rfl, HB3.out⟩

set_option maxHeartbeats 1000000 in
set_option maxRecDepth 100000 in
theorem ref_sub_lt (hs : Sm s x) (ht : Sm t y) (hlt : x < y) (w : World) : Calls Tryd.prog 39 #[.string s, .string t] w fun e w' => e = .returned (.tuple #[.string ⟨#[]⟩, .bool false]) ∧ Below w.heap.size w w' := by
  have HP1 := Lib.hid (fun w => limbsRef_calls s w (by have := hs.2; omega))
  have HP2 := Lib.hid (fun w => limbsRef_calls t w (by have := ht.2; omega))
  have HLA := Lib.hid (snum_len8' (s := s) (by have := hs.2; omega))
  have HLB := Lib.hid (snum_len8' (s := t) (by have := ht.2; omega))
  rw [hs.1] at HP1 HLA
  rw [ht.1] at HP2 HLB
  have HZ : Hid (cmpN x y = -1) := if_pos hlt
  clear hlt hs ht
  go_enter Tryd.func39, Tryd.ntmps39
  go_wp2_with fail
  refine (HP1.out _).mono ?_
  rintro e w1 ⟨A, ca, rfl, hca, hra, hb1⟩
  go_wp2_with fail
  refine (HP2.out _).mono ?_
  rintro e w2 ⟨B, cb, rfl, hcb, hrb, hb2⟩
  have HBEL : Hid (Below w.heap.size w w2) := hb1.trans (hb2.mono hb1.size)
  have HT := Lib.hid (order_calls A B ca cb x y w2 (hra.next hb2) hrb (by have := HLA.out; omega) (by have := HLB.out; omega))
  rw [HZ.out] at HT
  clear hra hrb hb1 hb2
  go_wp2_with fail
  refine HT.out.mono ?_
  rintro e w3 ⟨rfl, hb3⟩
  have HB3 : Hid (Below w.heap.size w w3) := HBEL.out.trans (hb3.mono HBEL.out.size)
  clear hb3
  go_wp2_with fail
  go_ret2
  exact ⟨rfl, HB3.out⟩

set_option maxHeartbeats 1000000 in
set_option maxRecDepth 100000 in
theorem ref_sub (hs : Sm s x) (ht : Sm t y) (hle : y ≤ x) (hz : x - y = z) (w : World) : Calls Tryd.prog 39 #[.string s, .string t] w fun e w' => e = .returned (.tuple #[.string (ncan z), .bool true]) ∧ Below w.heap.size w w' := by
  have HP1 := Lib.hid (fun w => limbsRef_calls s w (by have := hs.2; omega))
  have HP2 := Lib.hid (fun w => limbsRef_calls t w (by have := ht.2; omega))
  have HLA := Lib.hid (snum_len8' (s := s) (by have := hs.2; omega))
  have HLB := Lib.hid (snum_len8' (s := t) (by have := ht.2; omega))
  rw [hs.1] at HP1 HLA
  rw [ht.1] at HP2 HLB
  have hcm : 0 ≤ cmpN x y := by unfold cmpN; rw [if_neg (by omega)]; split <;> omega
  obtain ⟨cm, hcm1⟩ : ∃ cm, cm = cmpN x y := ⟨_, rfl⟩
  have HZ := Lib.hid hcm1.symm
  rw [← hcm1] at hcm
  have hcm2 : ¬ cm < 0 := by omega
  have HLE := Lib.hid hle
  have HZZ := Lib.hid hz
  clear hs ht hcm1 hle hz
  go_enter Tryd.func39, Tryd.ntmps39
  go_wp2_with fail
  refine (HP1.out _).mono ?_
  rintro e w1 ⟨A, ca, rfl, hca, hra, hb1⟩
  go_wp2_with fail
  refine (HP2.out _).mono ?_
  rintro e w2 ⟨B, cb, rfl, hcb, hrb, hb2⟩
  have HBEL : Hid (Below w.heap.size w w2) := hb1.trans (hb2.mono hb1.size)
  have HRA := Lib.hid (hra.next hb2)
  have HRB := Lib.hid hrb
  have HT := Lib.hid (order_calls A B ca cb x y w2 (hra.next hb2) hrb (by have := HLA.out; omega) (by have := HLB.out; omega))
  rw [HZ.out] at HT
  clear hra hrb hb1 hb2
  go_wp2_with fail
  refine HT.out.mono ?_
  rintro e w3 ⟨rfl, hb3⟩
  have HB3 : Hid (Below w.heap.size w w3) := HBEL.out.trans (hb3.mono HBEL.out.size)
  have HS := minus_calls A B ca cb x y w3 (HRA.out.next hb3) (HRB.out.next hb3) (by have := HLA.out; omega) HLE.out
  rw [HZZ.out] at HS
  have HS := Lib.hid HS
  clear hb3
  go_wp2_with fail
  refine HS.out.mono ?_
  rintro e w4 ⟨D, cd, rfl, hcd, hrd, hb4⟩
  have hlz : (limbs z).length ≤ 100000000 := by
    rw [← HZZ.out]; have := limbs_mono' (Nat.sub_le x y); have := HLA.out; omega
  have HX := textRef_calls D cd (limbs z) w4 hrd (limbs_dig _) hcd (by omega)
  rw [valL_limbs] at HX
  have HX := Lib.hid HX
  clear hlz
  have HB4 : Hid (Below w.heap.size w w4) := HB3.out.trans (hb4.mono HB3.out.size)
  clear hrd hb4
  go_wp2_with fail
  refine HX.out.mono ?_
  rintro e w5 ⟨rfl, hb5⟩
  have HB5 : Hid (Below w.heap.size w w5) := HB4.out.trans (hb5.mono HB4.out.size)
  clear hb5
  go_wp2_with fail
  go_ret2
  exact ⟨rfl, HB5.out⟩
end

end Go.Proofs.YtmlbolfopakgmaaDoor

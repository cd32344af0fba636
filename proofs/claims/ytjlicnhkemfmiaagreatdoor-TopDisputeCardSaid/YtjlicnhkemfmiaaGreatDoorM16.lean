/- Merged of Frac Signed. -/
import Derived.Test.YtjlicnhkemfmiaaGreatDoorSq
import Derived.Test.YtjlicnhkemfmiaaGreatDoorM14
import Derived.Test.YtjlicnhkemfmiaaGreatDoorM15
/- insolvencyref1: Make, Fraction; insolvencylaw0: Ratio, Whole. -/
set_option linter.unusedVariables false
set_option linter.unusedSimpArgs false
set_option maxHeartbeats 8000000
set_option maxRecDepth 100000
namespace Go.Proofs.YtjlicnhkemfmiaaGreatDoor
open Go.RowKit

theorem ratV_def (q : Rat) {sq : Bool} {nq dq : ByteArray} (h1 : rneg q = sq) (h2 : rnum q = nq) (h3 : rden q = dq) : ratV q = .agg #[.bool sq, .string nq, .string dq] := by rw [ratV, h1, h2, h3]

theorem refMake_calls (neg : Bool) (num den : ByteArray) (x y : Nat) (w : World) (hx : snum num = x) (hy : snum den = y) (hs1 : num.size ≤ 1000000) (hs2 : den.size ≤ 1000000) (hy0 : y ≠ 0) (q : Rat) (hq : rv neg x y = q) :
 Calls Tryz.prog 87 #[.bool neg, .string num, .string den] w fun e w' => e = .returned (.tuple #[ratV q, .bool true]) ∧ Below w.heap.size w w' := by
 have HP1 := Lib.hid (fun w => limbsRef_calls num w (by omega))
 have HP2 := Lib.hid (fun w => limbsRef_calls den w (by omega))
 have HLX : Hid ((limbs x).length ≤ 100000000) := by have := snum_len8' (s := num) (by omega); rw [hx] at this; exact Nat.le_trans this (by omega)
 have HLY : Hid ((limbs y).length ≤ 100000000) := by have := snum_len8' (s := den) (by omega); rw [hy] at this; exact Nat.le_trans this (by omega)
 rw [hx] at HP1
 rw [hy] at HP2
 have hl0 : ((limbs y).length == 0) = false := by
  have := limbs_head hy0
  have h2 := (List.getElem?_eq_some_iff.1 this).1
  simp; intro e; rw [e] at h2; simp at h2
 have hl1 : (((limbs y).length : Int) == 0) = false := by
  simp at hl0 ⊢; exact hl0
 obtain ⟨ly, hly⟩ : ∃ k, k = (limbs y).length := ⟨_, rfl⟩
 have HQ := Lib.hid hq
 have HY0 := Lib.hid hy0
 rw [← hly] at hl0 hl1
 have HLE := Lib.hid hly
 have hlyb : ly ≤ 100000000 := by have := HLY.out; rw [HLE.out]; exact this
 rw [← hly] at HP2
 obtain ⟨sq, hsq⟩ : ∃ b, rneg q = b := ⟨_, rfl⟩
 obtain ⟨nq, hnq⟩ : ∃ b, rnum q = b := ⟨_, rfl⟩
 obtain ⟨dq, hdq⟩ : ∃ b, rden q = b := ⟨_, rfl⟩
 have HV := Lib.hid (ratV_def q hsq hnq hdq)
 clear hx hy hq hy0 hsq hnq hdq hs1 hs2 hly
 go_enter Tryz.func87, Tryz.ntmps87
 go_wp2_with fail
 refine (HP2.out _).mono ?_
 rintro e w1 ⟨B, cb, rfl, hcb, hrb, hb1⟩
 have HG1 : Hid (w1.heap[w.heap.size]? = some (.cells #[.bool false, .string ⟨#[]⟩, .string ⟨#[]⟩] 33 (0, 0))) := blk_next (blk_new _ _) hb1
 have HB1 : Hid (Below w.heap.size w w1) := (bel_alloc _ _).trans (hb1.mono (by simp))
 have HRB := Lib.hid hrb
 have HCB := Lib.hid hcb
 clear hrb hcb hb1
 go_wp2_with fail
 refine (HP1.out _).mono ?_
 rintro e w2 ⟨A, ca, rfl, hca, hra, hb2⟩
 have HG2 := Lib.hid (blk_next HG1.out hb2)
 have HB2 := ben HB1 hb2
 have HRED := Lib.hid (reduced_calls neg A B ca cb x y w2 hra (HRB.out.next hb2) HLX.out HLY.out hca (by rw [← HLE.out]; exact HCB.out) HY0.out q HQ.out)
 rw [← HLE.out] at HRED
 clear hca hra hb2 HG1 HB1
 go_wp2_with fail
 refine HRED.out.mono ?_
 rintro e w3 ⟨rfl, hb3⟩
 obtain ⟨c0, c1, c2, f0, f1, f2, hz⟩ := three_of (blk_next HG2.out hb3)
 have HB3 := ben HB2 hb3
 rw [HV.out]
 clear hb3 HG2 HB2 HRED
 go_wp2_with fail
 exact bodyPost_ret (v := .tuple #[.agg #[.bool sq, .string nq, .string dq], .bool true]) (by simp [results, Tryz.results87, go_sem, c0, c1, c2]) rfl ⟨by rw [HV.out], ((HB3.out.setCell (by simp) _).setCell (by simp) _).setCell (by simp) _⟩

/-- a quotient of two integers -/
def quoQ (a b : Int) : Rat := rv (decide (a < 0) != decide (b < 0)) a.natAbs b.natAbs

theorem refFraction_calls (a b : Int) (w : World) (a1 : -9223372036854775808 ≤ a) (a2 : a ≤ 9223372036854775807) (b1 : -9223372036854775808 ≤ b) (b2 : b ≤ 9223372036854775807) (hb : b ≠ 0) (q : Rat) (hq : quoQ a b = q) :
 Calls Tryz.prog 52 #[.int .i64 a, .int .i64 b] w fun e w' => e = .returned (.tuple #[ratV q, .bool true]) ∧ Below w.heap.size w w' := by
 obtain ⟨x, hx⟩ : ∃ m, a.natAbs = m := ⟨_, rfl⟩
 obtain ⟨y, hy⟩ : ∃ m, b.natAbs = m := ⟨_, rfl⟩
 have H1 := Lib.hid (fun w => size_calls a w a1 a2 x hx)
 have H2 := Lib.hid (fun w => size_calls b w b1 b2 y hy)
 have H3 := Lib.hid (fun w => refFromUint_calls x w (by omega))
 have H4 := Lib.hid (fun w => refFromUint_calls y w (by omega))
 obtain ⟨sa, hsa⟩ : ∃ m, decide (a < 0) = m := ⟨_, rfl⟩
 obtain ⟨sb, hsb⟩ : ∃ m, decide (b < 0) = m := ⟨_, rfl⟩
 rw [quoQ, hx, hy, hsa, hsb] at hq
 obtain ⟨sg, hsg⟩ : ∃ m, (sa != sb) = m := ⟨_, rfl⟩
 rw [hsg] at hq
 have hsg2 : (!(sa == sb)) = sg := hsg
 have hsg3 : ((!sa) == sb) = sg := by rw [← hsg]; cases sa <;> cases sb <;> rfl
 have hcx : (ncan x).size ≤ 1000000 := by have := (Sm.can (n := x) (k := 8) (by omega) (by omega)).2; omega
 have hcy : (ncan y).size ≤ 1000000 := by have := (Sm.can (n := y) (k := 8) (by omega) (by omega)).2; omega
 have H5 := Lib.hid (fun w => refMake_calls sg (ncan x) (ncan y) x y w (snum_ncan x) (snum_ncan y) hcx hcy (by omega) q hq)
 obtain ⟨sx, hsx⟩ : ∃ s, s = ncan x := ⟨_, rfl⟩
 obtain ⟨sy, hsy⟩ : ∃ s, s = ncan y := ⟨_, rfl⟩
 obtain ⟨sq, hsq⟩ : ∃ b, rneg q = b := ⟨_, rfl⟩
 obtain ⟨nq, hnq⟩ : ∃ b, rnum q = b := ⟨_, rfl⟩
 obtain ⟨dq, hdq⟩ : ∃ b, rden q = b := ⟨_, rfl⟩
 have HV := Lib.hid (ratV_def q hsq hnq hdq)
 rw [← hsx] at H3 H5
 rw [← hsy] at H4 H5
 clear hq hx hy hsx hsy hsq hnq hdq hcx hcy
 go_enter Tryz.func52, Tryz.ntmps52
 go_wp2_with fail
 refine (H1.out _).mono ?_
 rintro e w1 ⟨rfl, rfl⟩
 go_wp2_with fail
 refine (H3.out _).mono ?_
 rintro e w2 ⟨rfl, hb2⟩
 have HG2 : Hid (w2.heap[w.heap.size]? = some (.cells #[.bool false, .string ⟨#[]⟩, .string ⟨#[]⟩] 33 (0, 0))) := blk_next (blk_new _ _) hb2
 have HB2 : Hid (Below w.heap.size w w2) := (bel_alloc _ _).trans (hb2.mono (by simp))
 clear hb2
 go_wp2_with fail
 refine (H2.out _).mono ?_
 rintro e w3 ⟨rfl, rfl⟩
 go_wp2_with fail
 refine (H4.out _).mono ?_
 rintro e w4 ⟨rfl, hb4⟩
 have HG4 := Lib.hid (blk_next HG2.out hb4)
 have HB4 := ben HB2 hb4
 clear hb4 HG2 HB2
 go_wp2_with fail
 refine (H5.out _).mono ?_
 rintro e w5 ⟨rfl, hb5⟩
 obtain ⟨c0, c1, c2, f0, f1, f2, hz⟩ := three_of (blk_next HG4.out hb5)
 have HB5 := ben HB4 hb5
 rw [HV.out]
 clear hb5 HG4 HB4
 go_wp2_with fail
 exact bodyPost_ret (v := .tuple #[.agg #[.bool sq, .string nq, .string dq], .bool true]) (by simp [results, Tryz.results52, go_sem, c0, c1, c2]) rfl ⟨by rw [HV.out], ((HB5.out.setCell (by simp) _).setCell (by simp) _).setCell (by simp) _⟩

theorem ratio_calls (a b : Int) (w : World) (a1 : -9223372036854775808 ≤ a) (a2 : a ≤ 9223372036854775807) (b1 : -9223372036854775808 ≤ b) (b2 : b ≤ 9223372036854775807) (hb : b ≠ 0) (q : Rat) (hq : quoQ a b = q) :
 Calls Tryz.prog 21 #[.int .i64 a, .int .i64 b] w fun e w' => e = .returned (ratV q) ∧ Below w.heap.size w w' := by
 have H1 := Lib.hid (fun w => refFraction_calls a b w a1 a2 b1 b2 hb q hq)
 obtain ⟨sq, hsq⟩ : ∃ b, rneg q = b := ⟨_, rfl⟩
 obtain ⟨nq, hnq⟩ : ∃ b, rnum q = b := ⟨_, rfl⟩
 obtain ⟨dq, hdq⟩ : ∃ b, rden q = b := ⟨_, rfl⟩
 have HV := Lib.hid (ratV_def q hsq hnq hdq)
 clear hq hb hsq hnq hdq
 go_enter Tryz.func21, Tryz.ntmps21
 go_wp2_with fail
 refine (H1.out _).mono ?_
 rintro e w2 ⟨rfl, hb2⟩
 obtain ⟨c0, c1, c2, f0, f1, f2, hz⟩ := three_of (blk_next (blk_new w (.cells #[.bool false, .string ⟨#[]⟩, .string ⟨#[]⟩] 33)) hb2)
 have HB2 : Hid (Below w.heap.size w w2) := (bel_alloc _ _).trans (hb2.mono (by simp))
 rw [HV.out]
 clear hb2
 go_wp2_with fail
 exact bodyPost_ret (v := .agg #[.bool sq, .string nq, .string dq]) (by simp [results, Tryz.results21, go_sem, c0, c1, c2, hz, Nat.ne_of_lt hz, Nat.ne_of_gt hz]) rfl ⟨by rw [HV.out], (((HB2.out.setCell (by simp) _).setCell (by simp) _).setCell (by simp) _).alloc (by simpa using HB2.out.size) _⟩

theorem whole_calls (n : Int) (w : World) (h1 : -9223372036854775808 ≤ n) (h2 : n ≤ 9223372036854775807) :
 Calls Tryz.prog 26 #[.int .i64 n] w fun e w' => e = .returned (ratV (n : Rat)) ∧ Below w.heap.size w w' := by
 have H1 := Lib.hid (fun w => refInt_calls n w h1 h2)
 obtain ⟨q, hq0⟩ : ∃ q : Rat, q = (n : Rat) := ⟨_, rfl⟩
 rw [← hq0] at H1 ⊢
 obtain ⟨sq, hsq⟩ : ∃ b, rneg q = b := ⟨_, rfl⟩
 obtain ⟨nq, hnq⟩ : ∃ b, rnum q = b := ⟨_, rfl⟩
 obtain ⟨dq, hdq⟩ : ∃ b, rden q = b := ⟨_, rfl⟩
 have HV := Lib.hid (ratV_def q hsq hnq hdq)
 clear hq0 hsq hnq hdq
 go_enter Tryz.func26, Tryz.ntmps26
 go_wp2_with fail
 refine (H1.out _).mono ?_
 rintro e w2 ⟨rfl, hb2⟩
 obtain ⟨c0, c1, c2, f0, f1, f2, hz⟩ := three_of (blk_next (blk_new w (.cells #[.bool false, .string ⟨#[]⟩, .string ⟨#[]⟩] 33)) hb2)
 have HB2 : Hid (Below w.heap.size w w2) := (bel_alloc _ _).trans (hb2.mono (by simp))
 rw [HV.out]
 clear hb2
 go_wp2_with fail
 exact bodyPost_ret (v := .agg #[.bool sq, .string nq, .string dq]) (by simp [results, Tryz.results26, go_sem, c0, c1, c2]) rfl ⟨by rw [HV.out], ((HB2.out.setCell (by simp) _).setCell (by simp) _).setCell (by simp) _⟩

end Go.Proofs.YtjlicnhkemfmiaaGreatDoor

/- insolvencylaw0: Amount, Signed. -/
namespace Go.Proofs.YtjlicnhkemfmiaaGreatDoor
open Go.RowKit

theorem sz_int {n : Int} (h0 : 0 ≤ n) (h : n < 256) : Sz 8 (n : Rat) := ⟨by rw [show ((n : Rat)).num = n from rfl]; omega, by rw [show ((n : Rat)).den = 1 from rfl]; decide⟩
theorem sz_quo {a b : Int} (ha : 0 ≤ a) (ha2 : a < 256) (hb : 0 < b) (hb2 : b < 256) : Sz 8 (quoQ a b) := Sz.rv (by omega) (by omega) (by omega)

end Go.Proofs.YtjlicnhkemfmiaaGreatDoor

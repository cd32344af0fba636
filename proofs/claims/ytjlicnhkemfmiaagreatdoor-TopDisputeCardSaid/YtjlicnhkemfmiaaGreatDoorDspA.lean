/- insolvencylaw0.Amount with its number told. -/
import Derived.Test.YtjlicnhkemfmiaaGreatDoorM23
set_option linter.unusedVariables false
set_option linter.unusedSimpArgs false
set_option maxHeartbeats 8000000
set_option maxRecDepth 100000
namespace Go.Proofs.YtjlicnhkemfmiaaGreatDoor
open Go.RowKit
def amtD (x : Nat) : Rat := if x % 5 = 0 then quoQ ((x / 5 % 23 : Nat) : Int) ((1 + x / 115 % 6 : Nat) : Int) else if x % 5 = 1 then (((10 * (x / 5 % 4) : Nat) : Int) : Rat) else (((x / 5 % 13 : Nat) : Int) : Rat)
def AmtD (x : Nat) (w : World) (e : Ending) (w' : World) : Prop := e = .returned (ratV (amtD x)) ∧ SzN (amtD x) ∧ Below w.heap.size w w'

theorem amountD_calls (x : Nat) (w : World) (hx : x ≤ 65535) : Calls Tryz.prog 9 #[.int .u16 (x : Int)] w (AmtD x w) := by
 have fin : ∀ (q : Rat) (w2 : World) (hb : Below w.heap.size w w2), SzN q ∧ q = amtD x → AmtD x w (.returned (ratV q)) w2 := fun q w2 hb h => ⟨by rw [h.2], h.2 ▸ h.1, hb⟩
 have HFIN := Lib.hid fin
 clear fin
 by_cases h0 : x % 5 = 0
 ·
  have hm : (x : Int) % 5 = 0 := by omega
  obtain ⟨a, ha⟩ : ∃ a, a = x / 5 % 23 := ⟨_, rfl⟩
  obtain ⟨b, hb⟩ : ∃ b, b = 1 + x / 115 % 6 := ⟨_, rfl⟩
  have hai : (x : Int) / 5 % 23 = (a : Int) := by omega
  have hbi : (1 : Int) + (x : Int) / 115 % 6 = (b : Int) := by omega
  have hal : a < 23 := by omega
  have hbl : b < 7 := by omega
  have hb1 : 1 ≤ b := by omega
  obtain ⟨q, hq⟩ : ∃ q, quoQ (a : Int) (b : Int) = q := ⟨_, rfl⟩
  have HS : Hid (SzN q ∧ q = amtD x) := by rw [← hq]; exact ⟨szn_quo (by omega) (by omega) (by omega) (by omega), by unfold amtD; rw [if_pos h0, ha, hb]⟩
  have H1 := Lib.hid (fun w => ratio_calls (a : Int) (b : Int) w (by omega) (by omega) (by omega) (by omega) (by omega) q hq)
  obtain ⟨sq, hsq⟩ : ∃ b, rneg q = b := ⟨_, rfl⟩
  obtain ⟨nq, hnq⟩ : ∃ b, rnum q = b := ⟨_, rfl⟩
  obtain ⟨dq, hdq⟩ : ∃ b, rden q = b := ⟨_, rfl⟩
  have HV := Lib.hid (ratV_def q hsq hnq hdq)
  clear ha hb hq h0 hsq hnq hdq
  go_enter Tryz.func9, Tryz.ntmps9
  go_wp2_with fail
  refine (H1.out _).mono ?_
  rintro e w2 ⟨rfl, hb2⟩
  obtain ⟨c0, c1, c2, f0, f1, f2, hz⟩ := three_of (blk_next (blk_new w (.cells #[.bool false, .string ⟨#[]⟩, .string ⟨#[]⟩] 33)) hb2)
  have HB2 : Hid (Below w.heap.size w w2) := (bel_alloc _ _).trans (hb2.mono (by simp))
  rw [HV.out]
  clear hb2
  go_wp2_with fail
  exact bodyPost_ret (v := .agg #[.bool sq, .string nq, .string dq]) (by simp [results, Tryz.results9, go_sem, c0, c1, c2]) rfl (by rw [← HV.out]; exact HFIN.out q _ (((HB2.out.setCell (by simp) _).setCell (by simp) _).setCell (by simp) _) HS.out)
 ·
  have hm0 : ((x : Int) % 5 == 0) = false := by simp; omega
  have main : ∀ (n : Int) (h0 : 0 ≤ n) (h1 : n < 256), ∃ q : Rat, (SzN q ∧ q = (n : Rat)) ∧ ∀ w, Calls Tryz.prog 26 #[.int .i64 n] w fun e w' => e = .returned (ratV q) ∧ Below w.heap.size w w' := fun n h0 h1 => ⟨(n : Rat), ⟨szn_int h0 h1, rfl⟩, fun w => whole_calls n w (by omega) (by omega)⟩
  by_cases h1 : x % 5 = 1
  ·
   have hm : (x : Int) % 5 = 1 := by omega
   obtain ⟨a, ha⟩ : ∃ a, a = x / 5 % 4 := ⟨_, rfl⟩
   have hai : (x : Int) / 5 % 4 = (a : Int) := by omega
   obtain ⟨b, hb⟩ : ∃ b, b = 10 * a := ⟨_, rfl⟩
   have hbi : (10 : Int) * (a : Int) = (b : Int) := by omega
   have hal : a < 4 := by omega
   obtain ⟨q, hsz, hcl⟩ := main (b : Int) (by omega) (by omega)
   have HS : Hid (SzN q ∧ q = amtD x) := ⟨hsz.1, by unfold amtD; rw [if_neg h0, if_pos h1, hsz.2, hb, ha]⟩
   have H1 := Lib.hid hcl
   obtain ⟨sq, hsq⟩ : ∃ b, rneg q = b := ⟨_, rfl⟩
   obtain ⟨nq, hnq⟩ : ∃ b, rnum q = b := ⟨_, rfl⟩
   obtain ⟨dq, hdq⟩ : ∃ b, rden q = b := ⟨_, rfl⟩
   have HV := Lib.hid (ratV_def q hsq hnq hdq)
   clear ha hb h0 h1 hsq hnq hdq hm0 hsz hcl main
   go_enter Tryz.func9, Tryz.ntmps9
   go_wp2_with fail
   refine (H1.out _).mono ?_
   rintro e w2 ⟨rfl, hb2⟩
   obtain ⟨c0, c1, c2, f0, f1, f2, hz⟩ := three_of (blk_next (blk_new w (.cells #[.bool false, .string ⟨#[]⟩, .string ⟨#[]⟩] 33)) hb2)
   have HB2 : Hid (Below w.heap.size w w2) := (bel_alloc _ _).trans (hb2.mono (by simp))
   rw [HV.out]
   clear hb2
   go_wp2_with fail
   exact bodyPost_ret (v := .agg #[.bool sq, .string nq, .string dq]) (by simp [results, Tryz.results9, go_sem, c0, c1, c2]) rfl (by rw [← HV.out]; exact HFIN.out q _ (((HB2.out.setCell (by simp) _).setCell (by simp) _).setCell (by simp) _) HS.out)
  ·
   have hm1 : ((x : Int) % 5 == 1) = false := by simp; omega
   obtain ⟨a, ha⟩ : ∃ a, a = x / 5 % 13 := ⟨_, rfl⟩
   have hai : (x : Int) / 5 % 13 = (a : Int) := by omega
   have hal : a < 13 := by omega
   obtain ⟨q, hsz, hcl⟩ := main (a : Int) (by omega) (by omega)
   have HS : Hid (SzN q ∧ q = amtD x) := ⟨hsz.1, by unfold amtD; rw [if_neg h0, if_neg h1, hsz.2, ha]⟩
   have H1 := Lib.hid hcl
   obtain ⟨sq, hsq⟩ : ∃ b, rneg q = b := ⟨_, rfl⟩
   obtain ⟨nq, hnq⟩ : ∃ b, rnum q = b := ⟨_, rfl⟩
   obtain ⟨dq, hdq⟩ : ∃ b, rden q = b := ⟨_, rfl⟩
   have HV := Lib.hid (ratV_def q hsq hnq hdq)
   clear ha h0 h1 hsq hnq hdq hsz hcl main
   go_enter Tryz.func9, Tryz.ntmps9
   go_wp2_with fail
   refine (H1.out _).mono ?_
   rintro e w2 ⟨rfl, hb2⟩
   obtain ⟨c0, c1, c2, f0, f1, f2, hz⟩ := three_of (blk_next (blk_new w (.cells #[.bool false, .string ⟨#[]⟩, .string ⟨#[]⟩] 33)) hb2)
   have HB2 : Hid (Below w.heap.size w w2) := (bel_alloc _ _).trans (hb2.mono (by simp))
   rw [HV.out]
   clear hb2
   go_wp2_with fail
   exact bodyPost_ret (v := .agg #[.bool sq, .string nq, .string dq]) (by simp [results, Tryz.results9, go_sem, c0, c1, c2]) rfl (by rw [← HV.out]; exact HFIN.out q _ (((HB2.out.setCell (by simp) _).setCell (by simp) _).setCell (by simp) _) HS.out)


end Go.Proofs.YtjlicnhkemfmiaaGreatDoor

/- insolvencylaw0: Amount, Signed. -/
import Derived.Test.YtcljkdjmmolfoaaDoorFrac
import Derived.Test.YtcljkdjmmolfoaaDoorRatSmall
set_option linter.unusedVariables false
set_option linter.unusedSimpArgs false
namespace Go.Proofs.YtcljkdjmmolfoaaDoor
open Go.RowKit

/-- a small number is returned -/
def AmtPost (w : World) (e : Ending) (w' : World) : Prop := ∃ q : Rat, e = .returned (ratV q) ∧ Sz 8 q ∧ Below w.heap.size w w'
theorem sz_int {n : Int} (h0 : 0 ≤ n) (h : n < 256) : Sz 8 (n : Rat) := ⟨by rw [show ((n : Rat)).num = n from rfl]; omega, by rw [show ((n : Rat)).den = 1 from rfl]; decide⟩
theorem sz_quo {a b : Int} (ha : 0 ≤ a) (ha2 : a < 256) (hb : 0 < b) (hb2 : b < 256) : Sz 8 (quoQ a b) := Sz.rv (by omega) (by omega) (by omega)

set_option maxHeartbeats 2000000 in
set_option maxRecDepth 100000 in
theorem amount_calls (x : Nat) (w : World) (hx : x ≤ 65535) : Calls Tryd.prog 37 #[.int .u16 (x : Int)] w (AmtPost w) := by
  have fin : ∀ (q : Rat) (w2 : World) (hb : Below w.heap.size w w2), Sz 8 q → AmtPost w (.returned (ratV q)) w2 := fun q w2 hb h => ⟨q, rfl, h, hb⟩
  have HFIN := Lib.hid fin
  clear fin
  by_cases h0 : x % 5 = 0
  · have hm : (x : Int) % 5 = 0 := by omega
    obtain ⟨a, ha⟩ : ∃ a, a = x / 5 % 23 := ⟨_, rfl⟩
    obtain ⟨b, hb⟩ : ∃ b, b = 1 + x / 115 % 6 := ⟨_, rfl⟩
    have hai : (x : Int) / 5 % 23 = (a : Int) := by omega
    have hbi : (1 : Int) + (x : Int) / 115 % 6 = (b : Int) := by omega
    have hal : a < 23 := by omega
    have hbl : b < 7 := by omega
    have hb1 : 1 ≤ b := by omega
    obtain ⟨q, hq⟩ : ∃ q, quoQ (a : Int) (b : Int) = q := ⟨_, rfl⟩
    have HS : Hid (Sz 8 q) := by rw [← hq]; exact sz_quo (by omega) (by omega) (by omega) (by omega)
    have H1 := Lib.hid (fun w => ratio_calls (a : Int) (b : Int) w (by omega) (by omega) (by omega) (by omega) (by omega) q hq)
    obtain ⟨sq, hsq⟩ : ∃ b, rneg q = b := ⟨_, rfl⟩
    obtain ⟨nq, hnq⟩ : ∃ b, rnum q = b := ⟨_, rfl⟩
    obtain ⟨dq, hdq⟩ : ∃ b, rden q = b := ⟨_, rfl⟩
    have HV := Lib.hid (ratV_def q hsq hnq hdq)
    clear ha hb hq h0 hsq hnq hdq
    go_enter Tryd.func37, Tryd.ntmps37
    go_wp2_with fail
    refine (H1.out _).mono ?_
    rintro e w2 ⟨rfl, hb2⟩
    obtain ⟨c0, c1, c2, f0, f1, f2, hz⟩ := three_of (blk_next (blk_new w (.cells #[.bool false, .string ⟨#[]⟩, .string ⟨#[]⟩] 30)) hb2)
    have HB2 : Hid (Below w.heap.size w w2) := (bel_alloc _ _).trans (hb2.mono (by simp))
    rw [HV.out]
    clear hb2
    go_wp2_with fail
    exact bodyPost_ret (v := .agg #[.bool sq, .string nq, .string dq]) (by simp [results, Tryd.results37, go_sem, c0, c1, c2]) rfl (by rw [← HV.out]; exact HFIN.out q _ (((HB2.out.setCell (by simp) _).setCell (by simp) _).setCell (by simp) _) HS.out)
  · have hm0 : ((x : Int) % 5 == 0) = false := by simp; omega
    have main : ∀ (n : Int) (h0 : 0 ≤ n) (h1 : n < 256), ∃ q : Rat, Sz 8 q ∧ ∀ w, Calls Tryd.prog 52 #[.int .i64 n] w fun e w' => e = .returned (ratV q) ∧ Below w.heap.size w w' := fun n h0 h1 => ⟨(n : Rat), sz_int h0 h1, fun w => whole_calls n w (by omega) (by omega)⟩
    by_cases h1 : x % 5 = 1
    · have hm : (x : Int) % 5 = 1 := by omega
      obtain ⟨a, ha⟩ : ∃ a, a = x / 5 % 4 := ⟨_, rfl⟩
      have hai : (x : Int) / 5 % 4 = (a : Int) := by omega
      obtain ⟨b, hb⟩ : ∃ b, b = 10 * a := ⟨_, rfl⟩
      have hbi : (10 : Int) * (a : Int) = (b : Int) := by omega
      have hal : a < 4 := by omega
      obtain ⟨q, hsz, hcl⟩ := main (b : Int) (by omega) (by omega)
      have HS := Lib.hid hsz
      have H1 := Lib.hid hcl
      obtain ⟨sq, hsq⟩ : ∃ b, rneg q = b := ⟨_, rfl⟩
      obtain ⟨nq, hnq⟩ : ∃ b, rnum q = b := ⟨_, rfl⟩
      obtain ⟨dq, hdq⟩ : ∃ b, rden q = b := ⟨_, rfl⟩
      have HV := Lib.hid (ratV_def q hsq hnq hdq)
      clear ha hb h0 h1 hsq hnq hdq hm0 hsz hcl main
      go_enter Tryd.func37, Tryd.ntmps37
      go_wp2_with fail
      refine (H1.out _).mono ?_
      rintro e w2 ⟨rfl, hb2⟩
      obtain ⟨c0, c1, c2, f0, f1, f2, hz⟩ := three_of (blk_next (blk_new w (.cells #[.bool false, .string ⟨#[]⟩, .string ⟨#[]⟩] 30)) hb2)
      have HB2 : Hid (Below w.heap.size w w2) := (bel_alloc _ _).trans (hb2.mono (by simp))
      rw [HV.out]
      clear hb2
      go_wp2_with fail
      exact bodyPost_ret (v := .agg #[.bool sq, .string nq, .string dq]) (by simp [results, Tryd.results37, go_sem, c0, c1, c2]) rfl (by rw [← HV.out]; exact HFIN.out q _ (((HB2.out.setCell (by simp) _).setCell (by simp) _).setCell (by simp) _) HS.out)
    · have hm1 : ((x : Int) % 5 == 1) = false := by simp; omega
      obtain ⟨a, ha⟩ : ∃ a, a = x / 5 % 13 := ⟨_, rfl⟩
      have hai : (x : Int) / 5 % 13 = (a : Int) := by omega
      have hal : a < 13 := by omega
      obtain ⟨q, hsz, hcl⟩ := main (a : Int) (by omega) (by omega)
      have HS := Lib.hid hsz
      have H1 := Lib.hid hcl
      obtain ⟨sq, hsq⟩ : ∃ b, rneg q = b := ⟨_, rfl⟩
      obtain ⟨nq, hnq⟩ : ∃ b, rnum q = b := ⟨_, rfl⟩
      obtain ⟨dq, hdq⟩ : ∃ b, rden q = b := ⟨_, rfl⟩
      have HV := Lib.hid (ratV_def q hsq hnq hdq)
      clear ha h0 h1 hsq hnq hdq hsz hcl main
      go_enter Tryd.func37, Tryd.ntmps37
      go_wp2_with fail
      refine (H1.out _).mono ?_
      rintro e w2 ⟨rfl, hb2⟩
      obtain ⟨c0, c1, c2, f0, f1, f2, hz⟩ := three_of (blk_next (blk_new w (.cells #[.bool false, .string ⟨#[]⟩, .string ⟨#[]⟩] 30)) hb2)
      have HB2 : Hid (Below w.heap.size w w2) := (bel_alloc _ _).trans (hb2.mono (by simp))
      rw [HV.out]
      clear hb2
      go_wp2_with fail
      exact bodyPost_ret (v := .agg #[.bool sq, .string nq, .string dq]) (by simp [results, Tryd.results37, go_sem, c0, c1, c2]) rfl (by rw [← HV.out]; exact HFIN.out q _ (((HB2.out.setCell (by simp) _).setCell (by simp) _).setCell (by simp) _) HS.out)

set_option maxHeartbeats 2000000 in
set_option maxRecDepth 100000 in
theorem signed_calls (x : Nat) (w : World) (hx : x ≤ 65535) : Calls Tryd.prog 24 #[.int .u16 (x : Int)] w (AmtPost w) := by
  obtain ⟨y, hy⟩ : ∃ y, y = x / 2 := ⟨_, rfl⟩
  have hyi : (x : Int) / 2 = (y : Int) := by omega
  have H1 := Lib.hid (fun w => amount_calls y w (by omega))
  clear hy
  have fin : ∀ (q : Rat) (w2 : World) (hb : Below w.heap.size w w2), Sz 8 q → AmtPost w (.returned (ratV q)) w2 := fun q w2 hb h => ⟨q, rfl, h, hb⟩
  have HFIN := Lib.hid fin
  clear fin
  by_cases h1 : x % 2 = 1
  · have hm : (x : Int) % 2 = 1 := by omega
    clear h1
    go_enter Tryd.func24, Tryd.ntmps24
    go_wp2_with fail
    refine (H1.out _).mono ?_
    rintro e w2 ⟨q, rfl, hsz, hb2⟩
    have HS : Hid (Sz 8 (-q)) := hsz.neg
    have HO := Lib.hid (fun w => refOpposite_calls q w)
    have HG2 : Hid (w2.heap[w.heap.size]? = some (.cells #[.bool false, .string ⟨#[]⟩, .string ⟨#[]⟩] 30 (0, 0))) := blk_next (blk_new _ _) hb2
    have HB2 : Hid (Below w.heap.size w w2) := (bel_alloc _ _).trans (hb2.mono (by simp))
    obtain ⟨sq, hsq⟩ : ∃ b, rneg q = b := ⟨_, rfl⟩
    obtain ⟨nq, hnq⟩ : ∃ b, rnum q = b := ⟨_, rfl⟩
    obtain ⟨dq, hdq⟩ : ∃ b, rden q = b := ⟨_, rfl⟩
    rw [ratV_def q hsq hnq hdq] at HO ⊢
    clear hb2 hsz hsq hnq hdq
    go_wp2_with fail
    refine (HO.out _).mono ?_
    rintro e w3 ⟨rfl, hb3⟩
    have hb3' : Below w2.heap.size w2 w3 := (bel_alloc _ _).trans (hb3.mono (by simp))
    obtain ⟨c0, c1, c2, f0, f1, f2, hz⟩ := three_of (blk_next HG2.out hb3')
    have HB3 : Hid (Below w.heap.size w w3) := HB2.out.trans (hb3'.mono HB2.out.size)
    obtain ⟨p, hp⟩ : ∃ p, p = -q := ⟨_, rfl⟩
    rw [← hp] at HS ⊢
    obtain ⟨sp, hsp⟩ : ∃ b, rneg p = b := ⟨_, rfl⟩
    obtain ⟨np, hnp⟩ : ∃ b, rnum p = b := ⟨_, rfl⟩
    obtain ⟨dp, hdp⟩ : ∃ b, rden p = b := ⟨_, rfl⟩
    have HV := Lib.hid (ratV_def p hsp hnp hdp)
    rw [HV.out]
    clear hb3 hb3' hp hsp hnp hdp HG2 HB2
    go_wp2_with fail
    exact bodyPost_ret (v := .agg #[.bool sp, .string np, .string dp]) (by simp [results, Tryd.results24, go_sem, c0, c1, c2]) rfl (by rw [← HV.out]; exact HFIN.out p _ (((HB3.out.setCell (by simp) _).setCell (by simp) _).setCell (by simp) _) HS.out)
  · have hm : ((x : Int) % 2 == 1) = false := by simp; omega
    clear h1
    go_enter Tryd.func24, Tryd.ntmps24
    go_wp2_with fail
    refine (H1.out _).mono ?_
    rintro e w2 ⟨q, rfl, hsz, hb2⟩
    have HS := Lib.hid hsz
    obtain ⟨c0, c1, c2, f0, f1, f2, hz⟩ := three_of (blk_next (blk_new w (.cells #[.bool false, .string ⟨#[]⟩, .string ⟨#[]⟩] 30)) hb2)
    have HB2 : Hid (Below w.heap.size w w2) := (bel_alloc _ _).trans (hb2.mono (by simp))
    obtain ⟨sq, hsq⟩ : ∃ b, rneg q = b := ⟨_, rfl⟩
    obtain ⟨nq, hnq⟩ : ∃ b, rnum q = b := ⟨_, rfl⟩
    obtain ⟨dq, hdq⟩ : ∃ b, rden q = b := ⟨_, rfl⟩
    have HV := Lib.hid (ratV_def q hsq hnq hdq)
    rw [HV.out]
    clear hb2 hsz hsq hnq hdq
    go_wp2_with fail
    exact bodyPost_ret (v := .agg #[.bool sq, .string nq, .string dq]) (by simp [results, Tryd.results24, go_sem, c0, c1, c2, hz, Nat.ne_of_lt hz, Nat.ne_of_gt hz]) rfl (by rw [← HV.out]; exact HFIN.out q _ ((((HB2.out.setCell (by simp) _).setCell (by simp) _).setCell (by simp) _).alloc (by simpa using HB2.out.size) _) HS.out)

end Go.Proofs.YtcljkdjmmolfoaaDoor

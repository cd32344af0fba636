/- insolvencytop.awakeValue; what the law TopInterest uses. -/
import Derived.Test.YtjlicnhkemfmiaaDoorTBld
set_option linter.unusedVariables false
set_option linter.unusedSimpArgs false
namespace Go.Proofs.YtjlicnhkemfmiaaDoor
open Go.RowKit

theorem factD_sz {d : Dc} {k : Nat} (h : d.Ok k) {l : List Qt} (hl : QtsOk l) {cut : Int} (hc : cut ≤ 1048576) : Sz 31 (factD d l cut).1 := by
  have hr := rateQ_sz hl d.code cut
  unfold factD
  split
  · exact sz_zero.mono (by decide)
  · split
    · exact sz_zero.mono (by decide)
    · split
      · exact hr.mono (by decide)
      · rename_i h1 h2 h3
        have hf : d.frm ≤ cut := by
          by_cases hx : cut < d.frm
          · exact absurd (Or.inr hx) h3
          · omega
        obtain ⟨dd, hdd⟩ : ∃ m : Nat, cut - d.frm = (m : Int) := ⟨(cut - d.frm).toNat, by omega⟩
        have h4 : Sz 14 (d.rate * ((cut - d.frm : Int) : Rat) / ((365 : Int) : Rat)) := by
          rw [hdd]; exact (h.rsz.mul (k := 8) (m := 3) (sz_nat (by have := h.frm.1; omega))).div (k := 11) (m := 3) (sz_nat (n := 365) (by omega)) (by decide)
        exact hr.mul (sz_one.add h4)
theorem eighth {a : Nat} (ha : a < 9) : 0 ≤ quoQ (a : Int) 8 ∧ 0 ≤ 1 - quoQ (a : Int) 8 := by
  have h1 : quoQ (a : Int) 8 = rv false a 8 := by rw [quo_rv (by omega) (by decide), Int.natAbs_natCast]; rfl
  have h2 : rv false a 8 + rv false (8 - a) 8 = 1 := by
    have e1 : rv false 8 8 = 1 := by
      have := rv_common false 1 (d := 1) (k := 8) (by decide)
      rw [Nat.one_mul] at this
      rw [this]; decide
    have e2 : rv false a 8 + rv false (8 - a) 8 = rv false 8 8 := by
      unfold rv rsg
      rw [if_neg (by decide), if_neg (by decide), if_neg (by decide), Rat.mkRat_add_mkRat _ _ (by decide) (by decide)]
      rw [show ((a : Int) * ((8 : Nat) : Int) + ((8 - a : Nat) : Int) * ((8 : Nat) : Int)) = ((8 : Nat) : Int) * ((8 : Nat) : Int) by omega, Rat.mkRat_mul_right (by decide)]
    rw [e2, e1]
  rw [h1]
  refine ⟨rv_nn a (by decide), ?_⟩
  have h3 : 1 - rv false a 8 = rv false (8 - a) 8 := by rw [← h2]; grind
  rw [h3]
  exact rv_nn _ (by decide)

def d7 : Dc := ⟨⟨#[97]⟩, 0, 0, eurB, ((7 : Int) : Rat), 0, 0, 0, 0, -1⟩
theorem d7_ok : d7.Ok 8 := ⟨nameOk1 (by decide), by decide, by decide, code_ok 69 85 82 (by decide), by decide, sz_int (by decide) (by decide), by decide, by decide, by decide, sz_zero, by decide, fun _ => rfl, by decide⟩
theorem d7_fact : factD d7 [] 5 = (1, 0) := by
  have hr : rateQ [] eurB 5 = (1, 0) := by unfold rateQ; rw [if_pos rfl]
  unfold factD
  have hc : d7.code = eurB := rfl
  rw [if_neg (by decide), hc, hr, if_neg (fun h => h rfl), if_pos (show d7.rate = 0 ∨ (5 : Int) < d7.frm from Or.inl rfl)]
set_option maxHeartbeats 8000000 in
set_option maxRecDepth 100000 in
theorem awakeV_calls (w : World) : Calls Tryd.prog 10 #[] w fun e w' => e = .returned (.bool true) ∧ Below w.heap.size w w' := by
  have HW' := fun W => whole_calls 7 W (by decide) (by decide)
  have HV' := fun W => value_calls d7 8 none 0 0 [] 5 W d7_ok (by decide) rfl Rd.nil QtsOk.nil (by decide)
  rw [d7_fact] at HV'
  dsimp only at HV'
  rw [Rat.mul_one] at HV'
  have h7 : d7.amt = ((7 : Int) : Rat) := rfl
  unfold dcV at HV'
  rw [h7] at HV'
  unfold d7 eurB at HV'
  dsimp only at HV'
  rw [rneg_zero, rnum_zero, rden_zero] at HV'
  obtain ⟨s7, hs7⟩ : ∃ x, x = rneg ((7 : Int) : Rat) := ⟨_, rfl⟩
  obtain ⟨n7, hn7⟩ : ∃ x, x = rnum ((7 : Int) : Rat) := ⟨_, rfl⟩
  obtain ⟨e7, he7⟩ : ∃ x, x = rden ((7 : Int) : Rat) := ⟨_, rfl⟩
  have hv7 : ratV ((7 : Int) : Rat) = .agg #[.bool s7, .string n7, .string e7] := by rw [ratV, hs7, hn7, he7]
  rw [← hs7, ← hn7, ← he7, hv7] at HV'
  rw [hv7] at HW'
  have HW := Lib.hid HW'
  have HV := Lib.hid HV'
  clear HW' HV' h7 hs7 hn7 he7 hv7
  go_enter Tryd.func10, Tryd.ntmps10
  go_wp2_with fail
  refine (HW.out _).mono ?_
  rintro e w1 ⟨rfl, hb⟩
  have HB1 : Hid (Below w.heap.size w w1) := hb
  clear hb
  go_wp2_with fail
  refine (HV.out _).mono ?_
  rintro e w2 ⟨rfl, hb⟩
  have HB2 : Hid (Below w.heap.size w w2) := HB1.out.trans (hb.mono HB1.out.size)
  clear hb HB1 HV
  go_upto_region 2 with fail
  obtain ⟨g, hg⟩ : ∃ g, g = w2.heap.size := ⟨_, rfl⟩
  obtain ⟨W0, hW0⟩ : ∃ W, W = w2.alloc (.cells #[.bool s7, .string n7, .string e7] 26) := ⟨_, rfl⟩
  have hS0 : RB g s7 n7 e7 W0 := by rw [hW0, hg]; exact blk_new _ _
  have HB0 : Hid (Below w.heap.size w W0) := by rw [hW0]; exact HB2.out.alloc HB2.out.size _
  rw [← hW0, ← hg]
  clear hW0 hg HB2
  obtain ⟨W1, hW1⟩ : ∃ W, W = W0.drew := ⟨_, rfl⟩
  have hS1 : RB g s7 n7 e7 W1 := by rw [hW1]; exact hS0
  have HB1 : Hid (Below w.heap.size w W1) := by rw [hW1]; exact HB0.out.drew
  refine wp_region_held_drew (S := RB g s7 n7 e7) (by kernel_rfl) (by rw [← hW1]; exact hS1) ?_
  rw [← hW1]
  intro _
  clear hW1 hS0 HB0
  refine wpAnyH_take (i := 0) rfl (by kernel_rfl) (by kernel_rfl) (by kernel_rfl) (fun _ _ _ h => h) (Or.inl ⟨by kernel_rfl, (by intro w' _; go_simp; with_reducible rfl)⟩) hS1 ?_
  go_simp
  refine wpAnyH_take (i := 1) rfl (by kernel_rfl) (by kernel_rfl) (by kernel_rfl) (fun _ _ _ h => h) (Or.inl ⟨by kernel_rfl, (by intro w' _; go_simp; with_reducible rfl)⟩) hS1 ?_
  go_simp
  refine wpAnyH_take (i := 2) rfl (by kernel_rfl) (by kernel_rfl) (by kernel_rfl) (fun _ _ _ h => h) (Or.inl ⟨by kernel_rfl, (by intro w' _; go_simp; with_reducible rfl)⟩) hS1 ?_
  go_simp
  refine wpAnyH_take (i := 3) (v := .agg #[.bool s7, .string n7, .string e7]) rfl (by kernel_rfl) (by kernel_rfl) (by kernel_rfl) (fun _ _ _ h => h) (Or.inl ⟨by kernel_rfl, (by intro w' hw'; obtain ⟨k0, k1, k2, k3, k4, k5, k6⟩ := three_of hw'; go_simp)⟩) hS1 ?_
  go_simp
  refine wpAnyH_ready (rs := [4]) (by kernel_rfl) (by simp) ?_
  refine AllReadyH.cons rfl (fun K hK => ?_) AllReadyH.nil
  go_simp
  refine (HW.out _).mono ?_
  rintro e W2 ⟨rfl, hb⟩
  have hS2 := hS1.next hb
  have HB2 : Hid (Below w.heap.size w W2) := HB1.out.trans (hb.mono HB1.out.size)
  clear hb hS1 HB1
  refine hK.out _ _ hS2 (fun _ => ?_)
  clear hK K
  refine wpAnyH_take (i := 5) rfl (by kernel_rfl) (by kernel_rfl) (by kernel_rfl) (fun _ _ _ h => h) (Or.inl ⟨by kernel_rfl, (by intro w' _; go_simp; with_reducible rfl)⟩) hS2 ?_
  go_simp
  refine wpAnyH_take (i := 6) rfl (by kernel_rfl) (by kernel_rfl) (by kernel_rfl) (fun _ _ _ h => h) (Or.inl ⟨by kernel_rfl, (by intro w' _; go_simp; with_reducible rfl)⟩) hS2 ?_
  go_simp
  refine wpAnyH_take (i := 7) rfl (by kernel_rfl) (by kernel_rfl) (by kernel_rfl) (fun _ _ _ h => h) (Or.inl ⟨by kernel_rfl, (by intro w' _; go_simp; with_reducible rfl)⟩) hS2 ?_
  go_simp
  refine wpAnyH_done (by kernel_rfl) ?_ _
  go_wp2_with fail
  go_ret
  exact ⟨rfl, HB2.out⟩

end Go.Proofs.YtjlicnhkemfmiaaDoor

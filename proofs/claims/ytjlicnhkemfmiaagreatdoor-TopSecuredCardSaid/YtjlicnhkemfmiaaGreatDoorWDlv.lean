/- waterfall.Deliver of an estate without agreements; insolvencytop.awakeClaims. -/
import Derived.Test.YtjlicnhkemfmiaaGreatDoorM18
set_option linter.unusedVariables false
set_option linter.unusedSimpArgs false
namespace Go.Proofs.YtjlicnhkemfmiaaGreatDoor
open Go.RowKit

theorem rd_only {W W' : World} {S n g : Nat} {A : Option Addr} {xs : List Value} (h : Rd W W.heap.size S A n xs) (ho : Only g W W') (hne : ∀ b off, A = some ⟨b, off, none⟩ → b ≠ g) : Rd W' W'.heap.size S A n xs := by
  refine Rd.more (B := W.heap.size) ?_ ho.size
  refine ⟨h.1, fun hn => ?_⟩
  obtain ⟨b, off, e, hb, hc⟩ := h.2 hn
  exact ⟨b, off, e, hb, fun j u hu => (World.cell?_of_block (w := W) (ho.block b hb (hne b off e))).trans (hc j u hu)⟩
def DelPost (qs : List Rat) (n : Nat) (w : World) (e : Ending) (w' : World) : Prop := ∃ A c, e = .returned (.tuple #[.slice A n c, ratV 0, .int .i64 0]) ∧ Rd w' w'.heap.size 3 A n (qs.flatMap rtV) ∧ (∀ b off, A = some ⟨b, off, none⟩ → w.heap.size ≤ b) ∧ Below w.heap.size w w'
theorem maxR_nn {m : Rat} (h : 0 ≤ m) : maxR m 0 = m := by unfold maxR; rw [if_pos h]
theorem rd_only9 {W W' : World} {S n g : Nat} {A : Option Addr} {xs : List Value} (h : Rd W W.heap.size S A n xs) (ho : Only g W W') (hne : ∀ b off, A = some ⟨b, off, none⟩ → 0 < n → b ≠ g) : Rd W' W'.heap.size S A n xs := by
  refine Rd.more (B := W.heap.size) ?_ ho.size
  refine ⟨h.1, fun hn => ?_⟩
  obtain ⟨b, off, e, hb, hc⟩ := h.2 hn
  exact ⟨b, off, e, hb, fun j u hu => (World.cell?_of_block (w := W) (ho.block b hb (hne b off e hn))).trans (hc j u hu)⟩
set_option maxHeartbeats 8000000 in
set_option maxRecDepth 100000 in
theorem deliver_calls (A : Option Addr) (n c : Nat) (l : List Cl) (m : Rat) (z zm : Nat) (w : World) (hn : n = l.length) (h8 : n ≤ 8) (hr : Rd w w.heap.size 5 A l.length (l.flatMap clV)) (hok : ClsOk l) (hz : ∀ c ∈ l, Sz z c.amt) (hm : Sz zm m) (hm0 : 0 ≤ m) (hz0 : 0 < z) (hzm : 0 < zm) (hz1 : z ≤ 1000) (hbd : zm + 8 * (1 + l.length * (z + 1) + 1) ≤ 90000) (hbd2 : z + (zm + 8 * (1 + l.length * (z + 1) + 1) + (1 + l.length * (z + 1))) ≤ 99000) :
    Calls Tryz.prog 10 #[estV A n c, ratV m] w (DelPost (deliv l m) n w) := by
  have hCK' := fun W (hw : Below w.heap.size w W) => wChk_calls A n c l z W hn (by omega) (hr.next hw) hok hz (by omega)
  have hLY' := fun W (hw : Below w.heap.size w W) => wLay_calls A n c l z W hn h8 (hr.next hw) hok hz hz0 (by omega)
  have hPO' := fun W => wPos_calls m zm W hm hzm (by omega)
  rw [maxR_nn hm0] at hPO'
  have hLD' := fun B R tot ts W (h : LadM B R ts W) (hT : TrsOk z l ts) => ldeliver_calls B R n tot ts l m z zm W h hT hok hz hn.symm h8 hm hm0 hz0 hzm hbd hbd2
  unfold LayPost at hLY'
  unfold LDelPost at hLD'
  rw [ratV_zero] at hLD'
  unfold DelPost
  rw [ratV_zero]
  rw [← hn] at hLY'
  unfold ratV at hPO' hLD' ⊢
  have HCK := Lib.hid hCK'
  have HLY := Lib.hid hLY'
  have HPO := Lib.hid hPO'
  have HLD := Lib.hid hLD'
  clear hCK' hLY' hPO' hLD' hn h8 hr hok hz hm hm0 hz0 hzm hbd hbd2
  go_enter Tryz.func10, Tryz.ntmps10
  go_wp2_with fail
  obtain ⟨q, hg_q⟩ : ∃ g, g = w.heap.size := ⟨_, rfl⟩
  obtain ⟨gm, hg_gm⟩ : ∃ g, g = w.heap.size + 1 := ⟨_, rfl⟩
  obtain ⟨gr, hg_gr⟩ : ∃ g, g = w.heap.size + 1 + 1 := ⟨_, rfl⟩
  obtain ⟨w0, hw_w0⟩ : ∃ W, W = (((w.alloc (.cells #[.bool false, .string ⟨#[]⟩, .string ⟨#[]⟩, .slice A n c, .slice none 0 0] 37)).alloc (.cells #[.bool (rneg m), .string (rnum m), .string (rden m)] 33)).alloc (.cells #[.bool false, .string ⟨#[]⟩, .string ⟨#[]⟩] 33)) := ⟨_, rfl⟩
  have HE0 : Hid (Bk q (.cells #[.bool false, .string ⟨#[]⟩, .string ⟨#[]⟩, .slice A n c, .slice none 0 0] 37) w0) := by rw [hw_w0, hg_q]; exact blk_alloc (blk_alloc (blk_new _ _))
  have HM0 : Hid (Bk gm (.cells #[.bool (rneg m), .string (rnum m), .string (rden m)] 33) w0) := by rw [hw_w0, hg_gm]; exact blk_alloc (blk_new1 _ _ _)
  have HG0 : Hid (Bk gr (.cells #[.bool false, .string ⟨#[]⟩, .string ⟨#[]⟩] 33) w0) := by rw [hw_w0, hg_gr]; exact blk_new2 _ _ _ _
  have HB0 : Hid (Below w.heap.size w w0) := by rw [hw_w0]; exact ((bel_alloc _ _).alloc (by simp) _).alloc (by simp <;> omega) _
  have HL_0 := Lib.hid (And.intro (by omega : w.heap.size ≤ q) (And.intro (by omega : q < gm) ((by omega : gm < gr))))
  rw [← hw_w0]
  (try rw [← hg_gr]); (try rw [← hg_gm]); (try rw [← hg_q])
  clear hw_w0 hg_q hg_gm hg_gr
  refine (HCK.out _ HB0.out).mono ?_
  rintro e w1 ⟨rfl, hb⟩
  have HE1 : Hid (Bk q (.cells #[.bool false, .string ⟨#[]⟩, .string ⟨#[]⟩, .slice A n c, .slice none 0 0] 37) w1) := blk_next HE0.out hb
  have HM1 : Hid (Bk gm (.cells #[.bool (rneg m), .string (rnum m), .string (rden m)] 33) w1) := blk_next HM0.out hb
  have HG1 : Hid (Bk gr (.cells #[.bool false, .string ⟨#[]⟩, .string ⟨#[]⟩] 33) w1) := blk_next HG0.out hb
  have HB1 : Hid (Below w.heap.size w w1) := HB0.out.trans (hb.mono HB0.out.size)
  clear HCK
  clear hb HE0 HM0 HG0 HB0
  go_wp2_with fail
  obtain ⟨w2, hw_w2⟩ : ∃ W, W = w1.drew := ⟨_, rfl⟩
  have HE2 : Hid (Bk q (.cells #[.bool false, .string ⟨#[]⟩, .string ⟨#[]⟩, .slice A n c, .slice none 0 0] 37) w2) := by rw [hw_w2]; exact HE1.out
  have HM2 : Hid (Bk gm (.cells #[.bool (rneg m), .string (rnum m), .string (rden m)] 33) w2) := by rw [hw_w2]; exact HM1.out
  have HG2 : Hid (Bk gr (.cells #[.bool false, .string ⟨#[]⟩, .string ⟨#[]⟩] 33) w2) := by rw [hw_w2]; exact HG1.out
  have HB2 : Hid (Below w.heap.size w w2) := by rw [hw_w2]; exact HB1.out.drew
  have hS1 : (AndW (Bk q (.cells #[.bool false, .string ⟨#[]⟩, .string ⟨#[]⟩, .slice A n c, .slice none 0 0] 37)) (Bk gm (.cells #[.bool (rneg m), .string (rnum m), .string (rden m)] 33))) w2 := ⟨HE2.out, HM2.out⟩
  refine wp_region_held_drew (S := (AndW (Bk q (.cells #[.bool false, .string ⟨#[]⟩, .string ⟨#[]⟩, .slice A n c, .slice none 0 0] 37)) (Bk gm (.cells #[.bool (rneg m), .string (rnum m), .string (rden m)] 33)))) (by kernel_rfl) (by rw [← hw_w2]; exact hS1) ?_
  rw [← hw_w2]
  intro _
  clear hw_w2 HE1 HM1 HG1 HB1
  refine wpAnyH_take (i := 0) (v := estV A n c) rfl (by kernel_rfl) (by kernel_rfl) (by kernel_rfl) (fun _ _ _ h => h) (Or.inl ⟨by kernel_rfl, (by intro w' hw'; obtain ⟨k0, k1, k2, k3, k4⟩ := EBox.cells (q := q) hw'.1; go_simp)⟩) hS1 ?_
  go_simp
  refine wpAnyH_take (i := 2) (v := .agg #[.bool (rneg m), .string (rnum m), .string (rden m)]) rfl (by kernel_rfl) (by kernel_rfl) (by kernel_rfl) (fun _ _ _ h => h) (Or.inl ⟨by kernel_rfl, (by intro w' hw'; obtain ⟨k0, k1, k2, fk0, fk1, fk2, hzk⟩ := three_of hw'.2; go_simp)⟩) hS1 ?_
  go_simp
  refine wpAnyH_ready (rs := [1, 8]) (by kernel_rfl) (by simp) ?_
  refine AllReadyH.cons rfl (fun K hK => ?_) (AllReadyH.cons rfl (fun K hK => ?_) AllReadyH.nil)
  · go_simp
    refine (HLY.out _ HB2.out).mono ?_
    rintro e w3 ⟨R, ts, tot, rfl, hla, htr, hb⟩
    have HE3 : Hid (Bk q (.cells #[.bool false, .string ⟨#[]⟩, .string ⟨#[]⟩, .slice A n c, .slice none 0 0] 37) w3) := blk_next HE2.out hb
    have HM3 : Hid (Bk gm (.cells #[.bool (rneg m), .string (rnum m), .string (rden m)] 33) w3) := blk_next HM2.out hb
    have HG3 : Hid (Bk gr (.cells #[.bool false, .string ⟨#[]⟩, .string ⟨#[]⟩] 33) w3) := blk_next HG2.out hb
    have HB3 : Hid (Below w.heap.size w w3) := HB2.out.trans (hb.mono HB2.out.size)
    have HT : Hid (TrsOk z l ts) := htr
    have HLm3 : Hid (LadM w2.heap.size R ts w3) := hla
    clear hla htr
    clear hb HE2 HM2 HG2 HB2
    have hS2 : (AndW (Bk q (.cells #[.bool false, .string ⟨#[]⟩, .string ⟨#[]⟩, .slice A n c, .slice none 0 0] 37)) (Bk gm (.cells #[.bool (rneg m), .string (rnum m), .string (rden m)] 33))) w3 := ⟨HE3.out, HM3.out⟩
    refine hK.out _ _ hS2 (fun _ => ?_)
    clear hK K
    refine wpAnyH_ready (rs := [3, 8]) (by kernel_rfl) (by simp) ?_
    refine AllReadyH.cons rfl (fun K hK => ?_) (AllReadyH.cons rfl (fun K hK => ?_) AllReadyH.nil)
    · go_simp
      refine (HPO.out _).mono ?_
      rintro e w4 ⟨rfl, hb⟩
      have HE4 : Hid (Bk q (.cells #[.bool false, .string ⟨#[]⟩, .string ⟨#[]⟩, .slice A n c, .slice none 0 0] 37) w4) := blk_next HE3.out hb
      have HM4 : Hid (Bk gm (.cells #[.bool (rneg m), .string (rnum m), .string (rden m)] 33) w4) := blk_next HM3.out hb
      have HG4 : Hid (Bk gr (.cells #[.bool false, .string ⟨#[]⟩, .string ⟨#[]⟩] 33) w4) := blk_next HG3.out hb
      have HB4 : Hid (Below w.heap.size w w4) := HB3.out.trans (hb.mono HB3.out.size)
      have HL4 : Hid (LadM w2.heap.size R ts w4) := HLm3.out.next hb
      clear hb HE3 HM3 HG3 HB3 HLm3
      have hS3 : (AndW (Bk q (.cells #[.bool false, .string ⟨#[]⟩, .string ⟨#[]⟩, .slice A n c, .slice none 0 0] 37)) (Bk gm (.cells #[.bool (rneg m), .string (rnum m), .string (rden m)] 33))) w4 := ⟨HE4.out, HM4.out⟩
      refine hK.out _ _ hS3 (fun _ => ?_)
      clear hK K
      refine wpAnyH_ready (rs := [4, 8]) (by kernel_rfl) (by simp) ?_
      refine AllReadyH.cons rfl (fun K hK => ?_) (AllReadyH.cons rfl (fun K hK => ?_) AllReadyH.nil)
      · go_simp
        refine (HLD.out w2.heap.size R tot ts _ HL4.out HT.out).mono ?_
        rintro e w5 ⟨A', c', rfl, hrd, hab, hb⟩
        have HE5 : Hid (Bk q (.cells #[.bool false, .string ⟨#[]⟩, .string ⟨#[]⟩, .slice A n c, .slice none 0 0] 37) w5) := blk_next HE4.out hb
        have HM5 : Hid (Bk gm (.cells #[.bool (rneg m), .string (rnum m), .string (rden m)] 33) w5) := blk_next HM4.out hb
        have HG5 : Hid (Bk gr (.cells #[.bool false, .string ⟨#[]⟩, .string ⟨#[]⟩] 33) w5) := blk_next HG4.out hb
        have HB5 : Hid (Below w.heap.size w w5) := HB4.out.trans (hb.mono HB4.out.size)
        have HD5 : Hid (Rd w5 w5.heap.size 3 A' n ((deliv l m).flatMap rtV)) := hrd
        have HAG : Hid (∀ b off, A' = some ⟨b, off, none⟩ → b ≠ gr ∧ w.heap.size ≤ b) := fun b off e => by have h1 := hab b off e; have h2 := blk_lt HG4.out; have h3 := HB4.out.size; exact ⟨by omega, by omega⟩
        clear hrd hab
        clear hb HE4 HM4 HG4 HB4 HL4
        have hS4 : (AndW (Bk q (.cells #[.bool false, .string ⟨#[]⟩, .string ⟨#[]⟩, .slice A n c, .slice none 0 0] 37)) (Bk gm (.cells #[.bool (rneg m), .string (rnum m), .string (rden m)] 33))) w5 := ⟨HE5.out, HM5.out⟩
        refine hK.out _ _ hS4 (fun _ => ?_)
        clear hK K
        refine wpAnyH_take (i := 5) rfl (by kernel_rfl) (by kernel_rfl) (by kernel_rfl) (fun _ _ _ h => h) (Or.inl ⟨by kernel_rfl, (by intro w' _; go_simp; with_reducible rfl)⟩) hS4 ?_
        go_simp
        refine wpAnyH_take (i := 6) rfl (by kernel_rfl) (by kernel_rfl) (by kernel_rfl) (fun _ _ _ h => h) (Or.inl ⟨by kernel_rfl, (by intro w' _; go_simp; with_reducible rfl)⟩) hS4 ?_
        go_simp
        refine wpAnyH_take (i := 7) rfl (by kernel_rfl) (by kernel_rfl) (by kernel_rfl) (fun _ _ _ h => h) (Or.inl ⟨by kernel_rfl, (by intro w' _; go_simp; with_reducible rfl)⟩) hS4 ?_
        go_simp
        refine wpAnyH_ready (rs := [8]) (by kernel_rfl) (by simp) ?_
        refine AllReadyH.cons rfl (fun K hK => ?_) AllReadyH.nil
        go_simp
        obtain ⟨g9, hg_g9⟩ : ∃ g, g = w5.heap.size := ⟨_, rfl⟩
        obtain ⟨w6, hw_w6⟩ : ∃ W, W = w5.alloc (.cells #[.bool false, .string ⟨#[]⟩, .string ⟨#[]⟩] 33) := ⟨_, rfl⟩
        have HL_g9 := Lib.hid (And.intro (by have := blk_lt HE5.out; omega : q < g9) (And.intro (by have := blk_lt HM5.out; omega : gm < g9) (And.intro (by have := blk_lt HG5.out; omega : gr < g9) ((by have := HB5.out.size; omega : w.heap.size ≤ g9)))))
        have HE6 : Hid (Bk q (.cells #[.bool false, .string ⟨#[]⟩, .string ⟨#[]⟩, .slice A n c, .slice none 0 0] 37) w6) := by rw [hw_w6]; exact blk_next HE5.out (bel_alloc _ _)
        have HM6 : Hid (Bk gm (.cells #[.bool (rneg m), .string (rnum m), .string (rden m)] 33) w6) := by rw [hw_w6]; exact blk_next HM5.out (bel_alloc _ _)
        have HG6 : Hid (Bk gr (.cells #[.bool false, .string ⟨#[]⟩, .string ⟨#[]⟩] 33) w6) := by rw [hw_w6]; exact blk_next HG5.out (bel_alloc _ _)
        have HB6 : Hid (Below w.heap.size w w6) := by rw [hw_w6]; exact HB5.out.trans ((bel_alloc _ _).mono HB5.out.size)
        have HD6 : Hid (Rd w6 w6.heap.size 3 A' n ((deliv l m).flatMap rtV)) := by rw [hw_w6]; exact HD5.out.next (bel_alloc _ _)
        have HN6 : Hid (Bk g9 (.cells #[.bool false, .string ⟨#[]⟩, .string ⟨#[]⟩] 33) w6) := by rw [hw_w6, hg_g9]; exact blk_new _ _
        have HA9 : Hid (∀ b off, A' = some ⟨b, off, none⟩ → 0 < n → b ≠ g9) := fun b off e hp => by obtain ⟨b', off', e', hb', _⟩ := HD5.out.2 hp; rw [e] at e'; injection e' with e'; injection e' with e1; subst e1; omega
        rw [← hw_w6]
        (try rw [← hg_g9])
        clear hw_w6 hg_g9 HE5 HM5 HG5 HB5 HD5
        have hS5 : (AndW (Bk q (.cells #[.bool false, .string ⟨#[]⟩, .string ⟨#[]⟩, .slice A n c, .slice none 0 0] 37)) (Bk gm (.cells #[.bool (rneg m), .string (rnum m), .string (rden m)] 33))) w6 := ⟨HE6.out, HM6.out⟩
        refine hK.out _ _ hS5 (fun _ => ?_)
        clear hK K
        refine wpAnyH_take (i := 9) rfl (by kernel_rfl) (by kernel_rfl) (by kernel_rfl) (fun _ _ _ h => h) (Or.inl ⟨by kernel_rfl, (by intro w' _; go_simp; with_reducible rfl)⟩) hS5 ?_
        go_simp
        refine wpAnyH_ready (rs := [10]) (by kernel_rfl) (by simp) ?_
        refine AllReadyH.cons rfl (fun K hK => ?_) AllReadyH.nil
        obtain ⟨c0, c1, c2, fc0, fc1, fc2, hzc⟩ := three_of HN6.out
        go_simp
        clear c0 c1 c2 fc0 fc1 fc2 hzc
        obtain ⟨wz, hwz⟩ : ∃ W, W = (((w6.setCell ⟨g9, 0, none⟩ (.bool false)).setCell ⟨g9, 1, none⟩ (.string ⟨#[]⟩)).setCell ⟨g9, 2, none⟩ (.string ⟨#[]⟩)) := ⟨_, rfl⟩
        have ho : Only g9 w6 wz := by rw [hwz]; exact (((Only.refl _ _).setC _ _).setC _ _).setC _ _
        have HNz : Hid (Bk g9 (.cells #[.bool false, .string ⟨#[]⟩, .string ⟨#[]⟩] 33) wz) := by rw [hwz]; exact heap_setCell_same _ g9 2 _ _ _ (heap_setCell_same _ g9 1 _ _ _ (heap_setCell_same _ g9 0 _ _ _ HN6.out))
        have HEz : Hid (Bk q (.cells #[.bool false, .string ⟨#[]⟩, .string ⟨#[]⟩, .slice A n c, .slice none 0 0] 37) wz) := blk_onlyW HE6.out ho (by have := HL_0.out; have := HL_g9.out; omega)
        have HMz : Hid (Bk gm (.cells #[.bool (rneg m), .string (rnum m), .string (rden m)] 33) wz) := blk_onlyW HM6.out ho (by have := HL_0.out; have := HL_g9.out; omega)
        have HGz : Hid (Bk gr (.cells #[.bool false, .string ⟨#[]⟩, .string ⟨#[]⟩] 33) wz) := blk_onlyW HG6.out ho (by have := HL_0.out; have := HL_g9.out; omega)
        have HBz : Hid (Below w.heap.size w wz) := HB6.out.trans (ho.at_ _ HB6.out.size (by have := HL_0.out; have := HL_g9.out; omega))
        have HDz : Hid (Rd wz wz.heap.size 3 A' n ((deliv l m).flatMap rtV)) := rd_only9 HD6.out ho HA9.out
        have HGN : Hid (g9 ≠ gr) := (by show g9 ≠ gr; have := HL_0.out; have := HL_g9.out; omega)
        rw [← hwz]
        clear hwz ho HE6 HM6 HG6 HB6 HD6 HN6
        have hSz : (AndW (Bk q (.cells #[.bool false, .string ⟨#[]⟩, .string ⟨#[]⟩, .slice A n c, .slice none 0 0] 37)) (Bk gm (.cells #[.bool (rneg m), .string (rnum m), .string (rden m)] 33))) wz := ⟨HEz.out, HMz.out⟩
        refine hK.out _ _ hSz (fun _ => ?_)
        clear hK K
        refine wpAnyH_done (by kernel_rfl) ?_ _
        (try go_wp2_with fail)
        obtain ⟨w37, hw_w37⟩ : ∃ W, W = wz.drew := ⟨_, rfl⟩
        have HN37 : Hid (Bk g9 (.cells #[.bool false, .string ⟨#[]⟩, .string ⟨#[]⟩] 33) w37) := by rw [hw_w37]; exact HNz.out
        have HG37 : Hid (Bk gr (.cells #[.bool false, .string ⟨#[]⟩, .string ⟨#[]⟩] 33) w37) := by rw [hw_w37]; exact HGz.out
        have HB37 : Hid (Below w.heap.size w w37) := by rw [hw_w37]; exact HBz.out.drew
        have HD37 : Hid (Rd w37 w37.heap.size 3 A' n ((deliv l m).flatMap rtV)) := by rw [hw_w37]; exact HDz.out
        have hS6 : (Bk g9 (.cells #[.bool false, .string ⟨#[]⟩, .string ⟨#[]⟩] 33)) w37 := HN37.out
        refine wp_region_held_drew (S := (Bk g9 (.cells #[.bool false, .string ⟨#[]⟩, .string ⟨#[]⟩] 33))) (by kernel_rfl) (by rw [← hw_w37]; exact hS6) ?_
        rw [← hw_w37]
        intro _
        clear hw_w37 HNz HGz HBz HDz
        refine wpAnyH_take (i := 0) rfl (by kernel_rfl) (by kernel_rfl) (by kernel_rfl) (fun _ _ _ h => h) (Or.inl ⟨by kernel_rfl, (by intro w' _; go_simp; with_reducible rfl)⟩) hS6 ?_
        go_simp
        refine wpAnyH_take (i := 1) (v := .agg #[.bool false, .string ⟨#[]⟩, .string ⟨#[]⟩]) rfl (by kernel_rfl) (by kernel_rfl) (by kernel_rfl) (fun _ _ _ h => h) (Or.inl ⟨by kernel_rfl, (by intro w' hw'; obtain ⟨k0, k1, k2, fk0, fk1, fk2, hzk⟩ := three_of hw'; go_simp)⟩) hS6 ?_
        go_simp
        refine wpAnyH_take (i := 2) rfl (by kernel_rfl) (by kernel_rfl) (by kernel_rfl) (fun _ _ _ h => h) (Or.inl ⟨by kernel_rfl, (by intro w' _; go_simp; with_reducible rfl)⟩) hS6 ?_
        go_simp
        refine wpAnyH_ready (rs := [3]) (by kernel_rfl) (by simp) ?_
        refine AllReadyH.cons rfl (fun K hK => ?_) AllReadyH.nil
        obtain ⟨c0, c1, c2, fc0, fc1, fc2, hzc⟩ := three_of HG37.out
        go_simp
        clear c0 c1 c2 fc0 fc1 fc2 hzc
        obtain ⟨wy, hwy⟩ : ∃ W, W = (((w37.setCell ⟨gr, 0, none⟩ (.bool false)).setCell ⟨gr, 1, none⟩ (.string ⟨#[]⟩)).setCell ⟨gr, 2, none⟩ (.string ⟨#[]⟩)) := ⟨_, rfl⟩
        have ho : Only gr w37 wy := by rw [hwy]; exact (((Only.refl _ _).setC _ _).setC _ _).setC _ _
        have HGy : Hid (Bk gr (.cells #[.bool false, .string ⟨#[]⟩, .string ⟨#[]⟩] 33) wy) := by rw [hwy]; exact heap_setCell_same _ gr 2 _ _ _ (heap_setCell_same _ gr 1 _ _ _ (heap_setCell_same _ gr 0 _ _ _ HG37.out))
        have HNy : Hid (Bk g9 (.cells #[.bool false, .string ⟨#[]⟩, .string ⟨#[]⟩] 33) wy) := blk_onlyW HN37.out ho HGN.out
        have HBy : Hid (Below w.heap.size w wy) := HB37.out.trans (ho.at_ _ HB37.out.size (by have := HL_0.out; omega))
        have HDy : Hid (Rd wy wy.heap.size 3 A' n ((deliv l m).flatMap rtV)) := rd_only HD37.out ho (fun b off e => (HAG.out b off e).1)
        rw [← hwy]
        clear hwy ho HN37 HG37 HB37 HD37
        have hSy : (Bk g9 (.cells #[.bool false, .string ⟨#[]⟩, .string ⟨#[]⟩] 33)) wy := HNy.out
        refine hK.out _ _ hSy (fun _ => ?_)
        clear hK K
        have hS98 := hSy
        refine wpAnyH_take (i := 4) rfl (by kernel_rfl) (by kernel_rfl) (by kernel_rfl) (fun _ _ _ h => h) (Or.inl ⟨by kernel_rfl, (by intro w' _; go_simp; with_reducible rfl)⟩) hS98 ?_
        go_simp
        refine wpAnyH_done (by kernel_rfl) ?_ _
        obtain ⟨c0, c1, c2, fc0, fc1, fc2, hzc⟩ := three_of HGy.out
        go_wp2_with fail
        exact bodyPost_ret (v := .tuple #[.slice A' n c', .agg #[.bool false, .string ⟨#[]⟩, .string ⟨#[]⟩], .int .i64 0]) (by simp [results, Tryz.results10, go_sem, c0, c1, c2]) rfl ⟨A', c', rfl, HDy.out, fun b off e => (HAG.out b off e).2, HBy.out⟩
      · go_simp
        obtain ⟨g9, hg_g9⟩ : ∃ g, g = w4.heap.size := ⟨_, rfl⟩
        obtain ⟨w5, hw_w5⟩ : ∃ W, W = w4.alloc (.cells #[.bool false, .string ⟨#[]⟩, .string ⟨#[]⟩] 33) := ⟨_, rfl⟩
        have HL_g9 := Lib.hid (And.intro (by have := blk_lt HE4.out; omega : q < g9) (And.intro (by have := blk_lt HM4.out; omega : gm < g9) (And.intro (by have := blk_lt HG4.out; omega : gr < g9) ((by have := HB4.out.size; omega : w.heap.size ≤ g9)))))
        have HE5 : Hid (Bk q (.cells #[.bool false, .string ⟨#[]⟩, .string ⟨#[]⟩, .slice A n c, .slice none 0 0] 37) w5) := by rw [hw_w5]; exact blk_next HE4.out (bel_alloc _ _)
        have HM5 : Hid (Bk gm (.cells #[.bool (rneg m), .string (rnum m), .string (rden m)] 33) w5) := by rw [hw_w5]; exact blk_next HM4.out (bel_alloc _ _)
        have HG5 : Hid (Bk gr (.cells #[.bool false, .string ⟨#[]⟩, .string ⟨#[]⟩] 33) w5) := by rw [hw_w5]; exact blk_next HG4.out (bel_alloc _ _)
        have HB5 : Hid (Below w.heap.size w w5) := by rw [hw_w5]; exact HB4.out.trans ((bel_alloc _ _).mono HB4.out.size)
        have HL5 : Hid (LadM w2.heap.size R ts w5) := by rw [hw_w5]; exact HL4.out.next (bel_alloc _ _)
        have HN5 : Hid (Bk g9 (.cells #[.bool false, .string ⟨#[]⟩, .string ⟨#[]⟩] 33) w5) := by rw [hw_w5, hg_g9]; exact blk_new _ _
        rw [← hw_w5]
        (try rw [← hg_g9])
        clear hw_w5 hg_g9 HE4 HM4 HG4 HB4 HL4
        have hS4 : (AndW (Bk q (.cells #[.bool false, .string ⟨#[]⟩, .string ⟨#[]⟩, .slice A n c, .slice none 0 0] 37)) (Bk gm (.cells #[.bool (rneg m), .string (rnum m), .string (rden m)] 33))) w5 := ⟨HE5.out, HM5.out⟩
        refine hK.out _ _ hS4 (fun _ => ?_)
        clear hK K
        refine wpAnyH_ready (rs := [4]) (by kernel_rfl) (by simp) ?_
        refine AllReadyH.cons rfl (fun K hK => ?_) AllReadyH.nil
        go_simp
        refine (HLD.out w2.heap.size R tot ts _ HL5.out HT.out).mono ?_
        rintro e w6 ⟨A', c', rfl, hrd, hab, hb⟩
        have HE6 : Hid (Bk q (.cells #[.bool false, .string ⟨#[]⟩, .string ⟨#[]⟩, .slice A n c, .slice none 0 0] 37) w6) := blk_next HE5.out hb
        have HM6 : Hid (Bk gm (.cells #[.bool (rneg m), .string (rnum m), .string (rden m)] 33) w6) := blk_next HM5.out hb
        have HG6 : Hid (Bk gr (.cells #[.bool false, .string ⟨#[]⟩, .string ⟨#[]⟩] 33) w6) := blk_next HG5.out hb
        have HB6 : Hid (Below w.heap.size w w6) := HB5.out.trans (hb.mono HB5.out.size)
        have HN6 : Hid (Bk g9 (.cells #[.bool false, .string ⟨#[]⟩, .string ⟨#[]⟩] 33) w6) := blk_next HN5.out hb
        have HD6 : Hid (Rd w6 w6.heap.size 3 A' n ((deliv l m).flatMap rtV)) := hrd
        have HAG : Hid (∀ b off, A' = some ⟨b, off, none⟩ → b ≠ gr ∧ w.heap.size ≤ b) := fun b off e => by have h1 := hab b off e; have h2 := blk_lt HG5.out; have h3 := HB5.out.size; exact ⟨by omega, by omega⟩
        have HA9 : Hid (∀ b off, A' = some ⟨b, off, none⟩ → 0 < n → b ≠ g9) := fun b off e _ => by have h1 := hab b off e; have h2 := blk_lt HN5.out; omega
        clear hrd hab
        clear hb HE5 HM5 HG5 HB5 HL5 HN5
        have hS5 : (AndW (Bk q (.cells #[.bool false, .string ⟨#[]⟩, .string ⟨#[]⟩, .slice A n c, .slice none 0 0] 37)) (Bk gm (.cells #[.bool (rneg m), .string (rnum m), .string (rden m)] 33))) w6 := ⟨HE6.out, HM6.out⟩
        refine hK.out _ _ hS5 (fun _ => ?_)
        clear hK K
        refine wpAnyH_take (i := 5) rfl (by kernel_rfl) (by kernel_rfl) (by kernel_rfl) (fun _ _ _ h => h) (Or.inl ⟨by kernel_rfl, (by intro w' _; go_simp; with_reducible rfl)⟩) hS5 ?_
        go_simp
        refine wpAnyH_take (i := 6) rfl (by kernel_rfl) (by kernel_rfl) (by kernel_rfl) (fun _ _ _ h => h) (Or.inl ⟨by kernel_rfl, (by intro w' _; go_simp; with_reducible rfl)⟩) hS5 ?_
        go_simp
        refine wpAnyH_take (i := 7) rfl (by kernel_rfl) (by kernel_rfl) (by kernel_rfl) (fun _ _ _ h => h) (Or.inl ⟨by kernel_rfl, (by intro w' _; go_simp; with_reducible rfl)⟩) hS5 ?_
        go_simp
        refine wpAnyH_take (i := 9) rfl (by kernel_rfl) (by kernel_rfl) (by kernel_rfl) (fun _ _ _ h => h) (Or.inl ⟨by kernel_rfl, (by intro w' _; go_simp; with_reducible rfl)⟩) hS5 ?_
        go_simp
        refine wpAnyH_ready (rs := [10]) (by kernel_rfl) (by simp) ?_
        refine AllReadyH.cons rfl (fun K hK => ?_) AllReadyH.nil
        obtain ⟨c0, c1, c2, fc0, fc1, fc2, hzc⟩ := three_of HN6.out
        go_simp
        clear c0 c1 c2 fc0 fc1 fc2 hzc
        obtain ⟨wz, hwz⟩ : ∃ W, W = (((w6.setCell ⟨g9, 0, none⟩ (.bool false)).setCell ⟨g9, 1, none⟩ (.string ⟨#[]⟩)).setCell ⟨g9, 2, none⟩ (.string ⟨#[]⟩)) := ⟨_, rfl⟩
        have ho : Only g9 w6 wz := by rw [hwz]; exact (((Only.refl _ _).setC _ _).setC _ _).setC _ _
        have HNz : Hid (Bk g9 (.cells #[.bool false, .string ⟨#[]⟩, .string ⟨#[]⟩] 33) wz) := by rw [hwz]; exact heap_setCell_same _ g9 2 _ _ _ (heap_setCell_same _ g9 1 _ _ _ (heap_setCell_same _ g9 0 _ _ _ HN6.out))
        have HEz : Hid (Bk q (.cells #[.bool false, .string ⟨#[]⟩, .string ⟨#[]⟩, .slice A n c, .slice none 0 0] 37) wz) := blk_onlyW HE6.out ho (by have := HL_0.out; have := HL_g9.out; omega)
        have HMz : Hid (Bk gm (.cells #[.bool (rneg m), .string (rnum m), .string (rden m)] 33) wz) := blk_onlyW HM6.out ho (by have := HL_0.out; have := HL_g9.out; omega)
        have HGz : Hid (Bk gr (.cells #[.bool false, .string ⟨#[]⟩, .string ⟨#[]⟩] 33) wz) := blk_onlyW HG6.out ho (by have := HL_0.out; have := HL_g9.out; omega)
        have HBz : Hid (Below w.heap.size w wz) := HB6.out.trans (ho.at_ _ HB6.out.size (by have := HL_0.out; have := HL_g9.out; omega))
        have HDz : Hid (Rd wz wz.heap.size 3 A' n ((deliv l m).flatMap rtV)) := rd_only9 HD6.out ho HA9.out
        have HGN : Hid (g9 ≠ gr) := (by show g9 ≠ gr; have := HL_0.out; have := HL_g9.out; omega)
        rw [← hwz]
        clear hwz ho HE6 HM6 HG6 HB6 HN6 HD6
        have hSz : (AndW (Bk q (.cells #[.bool false, .string ⟨#[]⟩, .string ⟨#[]⟩, .slice A n c, .slice none 0 0] 37)) (Bk gm (.cells #[.bool (rneg m), .string (rnum m), .string (rden m)] 33))) wz := ⟨HEz.out, HMz.out⟩
        refine hK.out _ _ hSz (fun _ => ?_)
        clear hK K
        refine wpAnyH_done (by kernel_rfl) ?_ _
        (try go_wp2_with fail)
        obtain ⟨w37, hw_w37⟩ : ∃ W, W = wz.drew := ⟨_, rfl⟩
        have HN37 : Hid (Bk g9 (.cells #[.bool false, .string ⟨#[]⟩, .string ⟨#[]⟩] 33) w37) := by rw [hw_w37]; exact HNz.out
        have HG37 : Hid (Bk gr (.cells #[.bool false, .string ⟨#[]⟩, .string ⟨#[]⟩] 33) w37) := by rw [hw_w37]; exact HGz.out
        have HB37 : Hid (Below w.heap.size w w37) := by rw [hw_w37]; exact HBz.out.drew
        have HD37 : Hid (Rd w37 w37.heap.size 3 A' n ((deliv l m).flatMap rtV)) := by rw [hw_w37]; exact HDz.out
        have hS6 : (Bk g9 (.cells #[.bool false, .string ⟨#[]⟩, .string ⟨#[]⟩] 33)) w37 := HN37.out
        refine wp_region_held_drew (S := (Bk g9 (.cells #[.bool false, .string ⟨#[]⟩, .string ⟨#[]⟩] 33))) (by kernel_rfl) (by rw [← hw_w37]; exact hS6) ?_
        rw [← hw_w37]
        intro _
        clear hw_w37 HNz HGz HBz HDz
        refine wpAnyH_take (i := 0) rfl (by kernel_rfl) (by kernel_rfl) (by kernel_rfl) (fun _ _ _ h => h) (Or.inl ⟨by kernel_rfl, (by intro w' _; go_simp; with_reducible rfl)⟩) hS6 ?_
        go_simp
        refine wpAnyH_take (i := 1) (v := .agg #[.bool false, .string ⟨#[]⟩, .string ⟨#[]⟩]) rfl (by kernel_rfl) (by kernel_rfl) (by kernel_rfl) (fun _ _ _ h => h) (Or.inl ⟨by kernel_rfl, (by intro w' hw'; obtain ⟨k0, k1, k2, fk0, fk1, fk2, hzk⟩ := three_of hw'; go_simp)⟩) hS6 ?_
        go_simp
        refine wpAnyH_take (i := 2) rfl (by kernel_rfl) (by kernel_rfl) (by kernel_rfl) (fun _ _ _ h => h) (Or.inl ⟨by kernel_rfl, (by intro w' _; go_simp; with_reducible rfl)⟩) hS6 ?_
        go_simp
        refine wpAnyH_ready (rs := [3]) (by kernel_rfl) (by simp) ?_
        refine AllReadyH.cons rfl (fun K hK => ?_) AllReadyH.nil
        obtain ⟨c0, c1, c2, fc0, fc1, fc2, hzc⟩ := three_of HG37.out
        go_simp
        clear c0 c1 c2 fc0 fc1 fc2 hzc
        obtain ⟨wy, hwy⟩ : ∃ W, W = (((w37.setCell ⟨gr, 0, none⟩ (.bool false)).setCell ⟨gr, 1, none⟩ (.string ⟨#[]⟩)).setCell ⟨gr, 2, none⟩ (.string ⟨#[]⟩)) := ⟨_, rfl⟩
        have ho : Only gr w37 wy := by rw [hwy]; exact (((Only.refl _ _).setC _ _).setC _ _).setC _ _
        have HGy : Hid (Bk gr (.cells #[.bool false, .string ⟨#[]⟩, .string ⟨#[]⟩] 33) wy) := by rw [hwy]; exact heap_setCell_same _ gr 2 _ _ _ (heap_setCell_same _ gr 1 _ _ _ (heap_setCell_same _ gr 0 _ _ _ HG37.out))
        have HNy : Hid (Bk g9 (.cells #[.bool false, .string ⟨#[]⟩, .string ⟨#[]⟩] 33) wy) := blk_onlyW HN37.out ho HGN.out
        have HBy : Hid (Below w.heap.size w wy) := HB37.out.trans (ho.at_ _ HB37.out.size (by have := HL_0.out; omega))
        have HDy : Hid (Rd wy wy.heap.size 3 A' n ((deliv l m).flatMap rtV)) := rd_only HD37.out ho (fun b off e => (HAG.out b off e).1)
        rw [← hwy]
        clear hwy ho HN37 HG37 HB37 HD37
        have hSy : (Bk g9 (.cells #[.bool false, .string ⟨#[]⟩, .string ⟨#[]⟩] 33)) wy := HNy.out
        refine hK.out _ _ hSy (fun _ => ?_)
        clear hK K
        have hS98 := hSy
        refine wpAnyH_take (i := 4) rfl (by kernel_rfl) (by kernel_rfl) (by kernel_rfl) (fun _ _ _ h => h) (Or.inl ⟨by kernel_rfl, (by intro w' _; go_simp; with_reducible rfl)⟩) hS98 ?_
        go_simp
        refine wpAnyH_done (by kernel_rfl) ?_ _
        obtain ⟨c0, c1, c2, fc0, fc1, fc2, hzc⟩ := three_of HGy.out
        go_wp2_with fail
        exact bodyPost_ret (v := .tuple #[.slice A' n c', .agg #[.bool false, .string ⟨#[]⟩, .string ⟨#[]⟩], .int .i64 0]) (by simp [results, Tryz.results10, go_sem, c0, c1, c2]) rfl ⟨A', c', rfl, HDy.out, fun b off e => (HAG.out b off e).2, HBy.out⟩
    · go_simp
      obtain ⟨g9, hg_g9⟩ : ∃ g, g = w3.heap.size := ⟨_, rfl⟩
      obtain ⟨w4, hw_w4⟩ : ∃ W, W = w3.alloc (.cells #[.bool false, .string ⟨#[]⟩, .string ⟨#[]⟩] 33) := ⟨_, rfl⟩
      have HL_g9 := Lib.hid (And.intro (by have := blk_lt HE3.out; omega : q < g9) (And.intro (by have := blk_lt HM3.out; omega : gm < g9) (And.intro (by have := blk_lt HG3.out; omega : gr < g9) ((by have := HB3.out.size; omega : w.heap.size ≤ g9)))))
      have HE4 : Hid (Bk q (.cells #[.bool false, .string ⟨#[]⟩, .string ⟨#[]⟩, .slice A n c, .slice none 0 0] 37) w4) := by rw [hw_w4]; exact blk_next HE3.out (bel_alloc _ _)
      have HM4 : Hid (Bk gm (.cells #[.bool (rneg m), .string (rnum m), .string (rden m)] 33) w4) := by rw [hw_w4]; exact blk_next HM3.out (bel_alloc _ _)
      have HG4 : Hid (Bk gr (.cells #[.bool false, .string ⟨#[]⟩, .string ⟨#[]⟩] 33) w4) := by rw [hw_w4]; exact blk_next HG3.out (bel_alloc _ _)
      have HB4 : Hid (Below w.heap.size w w4) := by rw [hw_w4]; exact HB3.out.trans ((bel_alloc _ _).mono HB3.out.size)
      have HL4 : Hid (LadM w2.heap.size R ts w4) := by rw [hw_w4]; exact HLm3.out.next (bel_alloc _ _)
      have HN4 : Hid (Bk g9 (.cells #[.bool false, .string ⟨#[]⟩, .string ⟨#[]⟩] 33) w4) := by rw [hw_w4, hg_g9]; exact blk_new _ _
      rw [← hw_w4]
      (try rw [← hg_g9])
      clear hw_w4 hg_g9 HE3 HM3 HG3 HB3 HLm3
      have hS3 : (AndW (Bk q (.cells #[.bool false, .string ⟨#[]⟩, .string ⟨#[]⟩, .slice A n c, .slice none 0 0] 37)) (Bk gm (.cells #[.bool (rneg m), .string (rnum m), .string (rden m)] 33))) w4 := ⟨HE4.out, HM4.out⟩
      refine hK.out _ _ hS3 (fun _ => ?_)
      clear hK K
      refine wpAnyH_ready (rs := [3]) (by kernel_rfl) (by simp) ?_
      refine AllReadyH.cons rfl (fun K hK => ?_) AllReadyH.nil
      go_simp
      refine (HPO.out _).mono ?_
      rintro e w5 ⟨rfl, hb⟩
      have HE5 : Hid (Bk q (.cells #[.bool false, .string ⟨#[]⟩, .string ⟨#[]⟩, .slice A n c, .slice none 0 0] 37) w5) := blk_next HE4.out hb
      have HM5 : Hid (Bk gm (.cells #[.bool (rneg m), .string (rnum m), .string (rden m)] 33) w5) := blk_next HM4.out hb
      have HG5 : Hid (Bk gr (.cells #[.bool false, .string ⟨#[]⟩, .string ⟨#[]⟩] 33) w5) := blk_next HG4.out hb
      have HB5 : Hid (Below w.heap.size w w5) := HB4.out.trans (hb.mono HB4.out.size)
      have HL5 : Hid (LadM w2.heap.size R ts w5) := HL4.out.next hb
      have HN5 : Hid (Bk g9 (.cells #[.bool false, .string ⟨#[]⟩, .string ⟨#[]⟩] 33) w5) := blk_next HN4.out hb
      clear hb HE4 HM4 HG4 HB4 HL4 HN4
      have hS4 : (AndW (Bk q (.cells #[.bool false, .string ⟨#[]⟩, .string ⟨#[]⟩, .slice A n c, .slice none 0 0] 37)) (Bk gm (.cells #[.bool (rneg m), .string (rnum m), .string (rden m)] 33))) w5 := ⟨HE5.out, HM5.out⟩
      refine hK.out _ _ hS4 (fun _ => ?_)
      clear hK K
      refine wpAnyH_ready (rs := [4]) (by kernel_rfl) (by simp) ?_
      refine AllReadyH.cons rfl (fun K hK => ?_) AllReadyH.nil
      go_simp
      refine (HLD.out w2.heap.size R tot ts _ HL5.out HT.out).mono ?_
      rintro e w6 ⟨A', c', rfl, hrd, hab, hb⟩
      have HE6 : Hid (Bk q (.cells #[.bool false, .string ⟨#[]⟩, .string ⟨#[]⟩, .slice A n c, .slice none 0 0] 37) w6) := blk_next HE5.out hb
      have HM6 : Hid (Bk gm (.cells #[.bool (rneg m), .string (rnum m), .string (rden m)] 33) w6) := blk_next HM5.out hb
      have HG6 : Hid (Bk gr (.cells #[.bool false, .string ⟨#[]⟩, .string ⟨#[]⟩] 33) w6) := blk_next HG5.out hb
      have HB6 : Hid (Below w.heap.size w w6) := HB5.out.trans (hb.mono HB5.out.size)
      have HN6 : Hid (Bk g9 (.cells #[.bool false, .string ⟨#[]⟩, .string ⟨#[]⟩] 33) w6) := blk_next HN5.out hb
      have HD6 : Hid (Rd w6 w6.heap.size 3 A' n ((deliv l m).flatMap rtV)) := hrd
      have HAG : Hid (∀ b off, A' = some ⟨b, off, none⟩ → b ≠ gr ∧ w.heap.size ≤ b) := fun b off e => by have h1 := hab b off e; have h2 := blk_lt HG5.out; have h3 := HB5.out.size; exact ⟨by omega, by omega⟩
      have HA9 : Hid (∀ b off, A' = some ⟨b, off, none⟩ → 0 < n → b ≠ g9) := fun b off e _ => by have h1 := hab b off e; have h2 := blk_lt HN5.out; omega
      clear hrd hab
      clear hb HE5 HM5 HG5 HB5 HL5 HN5
      have hS5 : (AndW (Bk q (.cells #[.bool false, .string ⟨#[]⟩, .string ⟨#[]⟩, .slice A n c, .slice none 0 0] 37)) (Bk gm (.cells #[.bool (rneg m), .string (rnum m), .string (rden m)] 33))) w6 := ⟨HE6.out, HM6.out⟩
      refine hK.out _ _ hS5 (fun _ => ?_)
      clear hK K
      refine wpAnyH_take (i := 5) rfl (by kernel_rfl) (by kernel_rfl) (by kernel_rfl) (fun _ _ _ h => h) (Or.inl ⟨by kernel_rfl, (by intro w' _; go_simp; with_reducible rfl)⟩) hS5 ?_
      go_simp
      refine wpAnyH_take (i := 6) rfl (by kernel_rfl) (by kernel_rfl) (by kernel_rfl) (fun _ _ _ h => h) (Or.inl ⟨by kernel_rfl, (by intro w' _; go_simp; with_reducible rfl)⟩) hS5 ?_
      go_simp
      refine wpAnyH_take (i := 7) rfl (by kernel_rfl) (by kernel_rfl) (by kernel_rfl) (fun _ _ _ h => h) (Or.inl ⟨by kernel_rfl, (by intro w' _; go_simp; with_reducible rfl)⟩) hS5 ?_
      go_simp
      refine wpAnyH_take (i := 9) rfl (by kernel_rfl) (by kernel_rfl) (by kernel_rfl) (fun _ _ _ h => h) (Or.inl ⟨by kernel_rfl, (by intro w' _; go_simp; with_reducible rfl)⟩) hS5 ?_
      go_simp
      refine wpAnyH_ready (rs := [10]) (by kernel_rfl) (by simp) ?_
      refine AllReadyH.cons rfl (fun K hK => ?_) AllReadyH.nil
      obtain ⟨c0, c1, c2, fc0, fc1, fc2, hzc⟩ := three_of HN6.out
      go_simp
      clear c0 c1 c2 fc0 fc1 fc2 hzc
      obtain ⟨wz, hwz⟩ : ∃ W, W = (((w6.setCell ⟨g9, 0, none⟩ (.bool false)).setCell ⟨g9, 1, none⟩ (.string ⟨#[]⟩)).setCell ⟨g9, 2, none⟩ (.string ⟨#[]⟩)) := ⟨_, rfl⟩
      have ho : Only g9 w6 wz := by rw [hwz]; exact (((Only.refl _ _).setC _ _).setC _ _).setC _ _
      have HNz : Hid (Bk g9 (.cells #[.bool false, .string ⟨#[]⟩, .string ⟨#[]⟩] 33) wz) := by rw [hwz]; exact heap_setCell_same _ g9 2 _ _ _ (heap_setCell_same _ g9 1 _ _ _ (heap_setCell_same _ g9 0 _ _ _ HN6.out))
      have HEz : Hid (Bk q (.cells #[.bool false, .string ⟨#[]⟩, .string ⟨#[]⟩, .slice A n c, .slice none 0 0] 37) wz) := blk_onlyW HE6.out ho (by have := HL_0.out; have := HL_g9.out; omega)
      have HMz : Hid (Bk gm (.cells #[.bool (rneg m), .string (rnum m), .string (rden m)] 33) wz) := blk_onlyW HM6.out ho (by have := HL_0.out; have := HL_g9.out; omega)
      have HGz : Hid (Bk gr (.cells #[.bool false, .string ⟨#[]⟩, .string ⟨#[]⟩] 33) wz) := blk_onlyW HG6.out ho (by have := HL_0.out; have := HL_g9.out; omega)
      have HBz : Hid (Below w.heap.size w wz) := HB6.out.trans (ho.at_ _ HB6.out.size (by have := HL_0.out; have := HL_g9.out; omega))
      have HDz : Hid (Rd wz wz.heap.size 3 A' n ((deliv l m).flatMap rtV)) := rd_only9 HD6.out ho HA9.out
      have HGN : Hid (g9 ≠ gr) := (by show g9 ≠ gr; have := HL_0.out; have := HL_g9.out; omega)
      rw [← hwz]
      clear hwz ho HE6 HM6 HG6 HB6 HN6 HD6
      have hSz : (AndW (Bk q (.cells #[.bool false, .string ⟨#[]⟩, .string ⟨#[]⟩, .slice A n c, .slice none 0 0] 37)) (Bk gm (.cells #[.bool (rneg m), .string (rnum m), .string (rden m)] 33))) wz := ⟨HEz.out, HMz.out⟩
      refine hK.out _ _ hSz (fun _ => ?_)
      clear hK K
      refine wpAnyH_done (by kernel_rfl) ?_ _
      (try go_wp2_with fail)
      obtain ⟨w37, hw_w37⟩ : ∃ W, W = wz.drew := ⟨_, rfl⟩
      have HN37 : Hid (Bk g9 (.cells #[.bool false, .string ⟨#[]⟩, .string ⟨#[]⟩] 33) w37) := by rw [hw_w37]; exact HNz.out
      have HG37 : Hid (Bk gr (.cells #[.bool false, .string ⟨#[]⟩, .string ⟨#[]⟩] 33) w37) := by rw [hw_w37]; exact HGz.out
      have HB37 : Hid (Below w.heap.size w w37) := by rw [hw_w37]; exact HBz.out.drew
      have HD37 : Hid (Rd w37 w37.heap.size 3 A' n ((deliv l m).flatMap rtV)) := by rw [hw_w37]; exact HDz.out
      have hS6 : (Bk g9 (.cells #[.bool false, .string ⟨#[]⟩, .string ⟨#[]⟩] 33)) w37 := HN37.out
      refine wp_region_held_drew (S := (Bk g9 (.cells #[.bool false, .string ⟨#[]⟩, .string ⟨#[]⟩] 33))) (by kernel_rfl) (by rw [← hw_w37]; exact hS6) ?_
      rw [← hw_w37]
      intro _
      clear hw_w37 HNz HGz HBz HDz
      refine wpAnyH_take (i := 0) rfl (by kernel_rfl) (by kernel_rfl) (by kernel_rfl) (fun _ _ _ h => h) (Or.inl ⟨by kernel_rfl, (by intro w' _; go_simp; with_reducible rfl)⟩) hS6 ?_
      go_simp
      refine wpAnyH_take (i := 1) (v := .agg #[.bool false, .string ⟨#[]⟩, .string ⟨#[]⟩]) rfl (by kernel_rfl) (by kernel_rfl) (by kernel_rfl) (fun _ _ _ h => h) (Or.inl ⟨by kernel_rfl, (by intro w' hw'; obtain ⟨k0, k1, k2, fk0, fk1, fk2, hzk⟩ := three_of hw'; go_simp)⟩) hS6 ?_
      go_simp
      refine wpAnyH_take (i := 2) rfl (by kernel_rfl) (by kernel_rfl) (by kernel_rfl) (fun _ _ _ h => h) (Or.inl ⟨by kernel_rfl, (by intro w' _; go_simp; with_reducible rfl)⟩) hS6 ?_
      go_simp
      refine wpAnyH_ready (rs := [3]) (by kernel_rfl) (by simp) ?_
      refine AllReadyH.cons rfl (fun K hK => ?_) AllReadyH.nil
      obtain ⟨c0, c1, c2, fc0, fc1, fc2, hzc⟩ := three_of HG37.out
      go_simp
      clear c0 c1 c2 fc0 fc1 fc2 hzc
      obtain ⟨wy, hwy⟩ : ∃ W, W = (((w37.setCell ⟨gr, 0, none⟩ (.bool false)).setCell ⟨gr, 1, none⟩ (.string ⟨#[]⟩)).setCell ⟨gr, 2, none⟩ (.string ⟨#[]⟩)) := ⟨_, rfl⟩
      have ho : Only gr w37 wy := by rw [hwy]; exact (((Only.refl _ _).setC _ _).setC _ _).setC _ _
      have HGy : Hid (Bk gr (.cells #[.bool false, .string ⟨#[]⟩, .string ⟨#[]⟩] 33) wy) := by rw [hwy]; exact heap_setCell_same _ gr 2 _ _ _ (heap_setCell_same _ gr 1 _ _ _ (heap_setCell_same _ gr 0 _ _ _ HG37.out))
      have HNy : Hid (Bk g9 (.cells #[.bool false, .string ⟨#[]⟩, .string ⟨#[]⟩] 33) wy) := blk_onlyW HN37.out ho HGN.out
      have HBy : Hid (Below w.heap.size w wy) := HB37.out.trans (ho.at_ _ HB37.out.size (by have := HL_0.out; omega))
      have HDy : Hid (Rd wy wy.heap.size 3 A' n ((deliv l m).flatMap rtV)) := rd_only HD37.out ho (fun b off e => (HAG.out b off e).1)
      rw [← hwy]
      clear hwy ho HN37 HG37 HB37 HD37
      have hSy : (Bk g9 (.cells #[.bool false, .string ⟨#[]⟩, .string ⟨#[]⟩] 33)) wy := HNy.out
      refine hK.out _ _ hSy (fun _ => ?_)
      clear hK K
      have hS98 := hSy
      refine wpAnyH_take (i := 4) rfl (by kernel_rfl) (by kernel_rfl) (by kernel_rfl) (fun _ _ _ h => h) (Or.inl ⟨by kernel_rfl, (by intro w' _; go_simp; with_reducible rfl)⟩) hS98 ?_
      go_simp
      refine wpAnyH_done (by kernel_rfl) ?_ _
      obtain ⟨c0, c1, c2, fc0, fc1, fc2, hzc⟩ := three_of HGy.out
      go_wp2_with fail
      exact bodyPost_ret (v := .tuple #[.slice A' n c', .agg #[.bool false, .string ⟨#[]⟩, .string ⟨#[]⟩], .int .i64 0]) (by simp [results, Tryz.results10, go_sem, c0, c1, c2]) rfl ⟨A', c', rfl, HDy.out, fun b off e => (HAG.out b off e).2, HBy.out⟩
  · go_simp
    obtain ⟨g9, hg_g9⟩ : ∃ g, g = w2.heap.size := ⟨_, rfl⟩
    obtain ⟨w3, hw_w3⟩ : ∃ W, W = w2.alloc (.cells #[.bool false, .string ⟨#[]⟩, .string ⟨#[]⟩] 33) := ⟨_, rfl⟩
    have HL_g9 := Lib.hid (And.intro (by have := blk_lt HE2.out; omega : q < g9) (And.intro (by have := blk_lt HM2.out; omega : gm < g9) (And.intro (by have := blk_lt HG2.out; omega : gr < g9) ((by have := HB2.out.size; omega : w.heap.size ≤ g9)))))
    have HE3 : Hid (Bk q (.cells #[.bool false, .string ⟨#[]⟩, .string ⟨#[]⟩, .slice A n c, .slice none 0 0] 37) w3) := by rw [hw_w3]; exact blk_next HE2.out (bel_alloc _ _)
    have HM3 : Hid (Bk gm (.cells #[.bool (rneg m), .string (rnum m), .string (rden m)] 33) w3) := by rw [hw_w3]; exact blk_next HM2.out (bel_alloc _ _)
    have HG3 : Hid (Bk gr (.cells #[.bool false, .string ⟨#[]⟩, .string ⟨#[]⟩] 33) w3) := by rw [hw_w3]; exact blk_next HG2.out (bel_alloc _ _)
    have HB3 : Hid (Below w.heap.size w w3) := by rw [hw_w3]; exact HB2.out.trans ((bel_alloc _ _).mono HB2.out.size)
    have HN3 : Hid (Bk g9 (.cells #[.bool false, .string ⟨#[]⟩, .string ⟨#[]⟩] 33) w3) := by rw [hw_w3, hg_g9]; exact blk_new _ _
    rw [← hw_w3]
    (try rw [← hg_g9])
    clear hw_w3 hg_g9 HE2 HM2 HG2 HB2
    have hS2 : (AndW (Bk q (.cells #[.bool false, .string ⟨#[]⟩, .string ⟨#[]⟩, .slice A n c, .slice none 0 0] 37)) (Bk gm (.cells #[.bool (rneg m), .string (rnum m), .string (rden m)] 33))) w3 := ⟨HE3.out, HM3.out⟩
    refine hK.out _ _ hS2 (fun _ => ?_)
    clear hK K
    refine wpAnyH_ready (rs := [1]) (by kernel_rfl) (by simp) ?_
    refine AllReadyH.cons rfl (fun K hK => ?_) AllReadyH.nil
    go_simp
    refine (HLY.out _ HB3.out).mono ?_
    rintro e w4 ⟨R, ts, tot, rfl, hla, htr, hb⟩
    have HE4 : Hid (Bk q (.cells #[.bool false, .string ⟨#[]⟩, .string ⟨#[]⟩, .slice A n c, .slice none 0 0] 37) w4) := blk_next HE3.out hb
    have HM4 : Hid (Bk gm (.cells #[.bool (rneg m), .string (rnum m), .string (rden m)] 33) w4) := blk_next HM3.out hb
    have HG4 : Hid (Bk gr (.cells #[.bool false, .string ⟨#[]⟩, .string ⟨#[]⟩] 33) w4) := blk_next HG3.out hb
    have HB4 : Hid (Below w.heap.size w w4) := HB3.out.trans (hb.mono HB3.out.size)
    have HN4 : Hid (Bk g9 (.cells #[.bool false, .string ⟨#[]⟩, .string ⟨#[]⟩] 33) w4) := blk_next HN3.out hb
    have HT : Hid (TrsOk z l ts) := htr
    have HLm4 : Hid (LadM w3.heap.size R ts w4) := hla
    clear hla htr
    clear hb HE3 HM3 HG3 HB3 HN3
    have hS3 : (AndW (Bk q (.cells #[.bool false, .string ⟨#[]⟩, .string ⟨#[]⟩, .slice A n c, .slice none 0 0] 37)) (Bk gm (.cells #[.bool (rneg m), .string (rnum m), .string (rden m)] 33))) w4 := ⟨HE4.out, HM4.out⟩
    refine hK.out _ _ hS3 (fun _ => ?_)
    clear hK K
    refine wpAnyH_ready (rs := [3]) (by kernel_rfl) (by simp) ?_
    refine AllReadyH.cons rfl (fun K hK => ?_) AllReadyH.nil
    go_simp
    refine (HPO.out _).mono ?_
    rintro e w5 ⟨rfl, hb⟩
    have HE5 : Hid (Bk q (.cells #[.bool false, .string ⟨#[]⟩, .string ⟨#[]⟩, .slice A n c, .slice none 0 0] 37) w5) := blk_next HE4.out hb
    have HM5 : Hid (Bk gm (.cells #[.bool (rneg m), .string (rnum m), .string (rden m)] 33) w5) := blk_next HM4.out hb
    have HG5 : Hid (Bk gr (.cells #[.bool false, .string ⟨#[]⟩, .string ⟨#[]⟩] 33) w5) := blk_next HG4.out hb
    have HB5 : Hid (Below w.heap.size w w5) := HB4.out.trans (hb.mono HB4.out.size)
    have HN5 : Hid (Bk g9 (.cells #[.bool false, .string ⟨#[]⟩, .string ⟨#[]⟩] 33) w5) := blk_next HN4.out hb
    have HL5 : Hid (LadM w3.heap.size R ts w5) := HLm4.out.next hb
    clear hb HE4 HM4 HG4 HB4 HN4 HLm4
    have hS4 : (AndW (Bk q (.cells #[.bool false, .string ⟨#[]⟩, .string ⟨#[]⟩, .slice A n c, .slice none 0 0] 37)) (Bk gm (.cells #[.bool (rneg m), .string (rnum m), .string (rden m)] 33))) w5 := ⟨HE5.out, HM5.out⟩
    refine hK.out _ _ hS4 (fun _ => ?_)
    clear hK K
    refine wpAnyH_ready (rs := [4]) (by kernel_rfl) (by simp) ?_
    refine AllReadyH.cons rfl (fun K hK => ?_) AllReadyH.nil
    go_simp
    refine (HLD.out w3.heap.size R tot ts _ HL5.out HT.out).mono ?_
    rintro e w6 ⟨A', c', rfl, hrd, hab, hb⟩
    have HE6 : Hid (Bk q (.cells #[.bool false, .string ⟨#[]⟩, .string ⟨#[]⟩, .slice A n c, .slice none 0 0] 37) w6) := blk_next HE5.out hb
    have HM6 : Hid (Bk gm (.cells #[.bool (rneg m), .string (rnum m), .string (rden m)] 33) w6) := blk_next HM5.out hb
    have HG6 : Hid (Bk gr (.cells #[.bool false, .string ⟨#[]⟩, .string ⟨#[]⟩] 33) w6) := blk_next HG5.out hb
    have HB6 : Hid (Below w.heap.size w w6) := HB5.out.trans (hb.mono HB5.out.size)
    have HN6 : Hid (Bk g9 (.cells #[.bool false, .string ⟨#[]⟩, .string ⟨#[]⟩] 33) w6) := blk_next HN5.out hb
    have HD6 : Hid (Rd w6 w6.heap.size 3 A' n ((deliv l m).flatMap rtV)) := hrd
    have HAG : Hid (∀ b off, A' = some ⟨b, off, none⟩ → b ≠ gr ∧ w.heap.size ≤ b) := fun b off e => by have h1 := hab b off e; have h2 := blk_lt HG5.out; have h3 := HB5.out.size; exact ⟨by omega, by omega⟩
    have HA9 : Hid (∀ b off, A' = some ⟨b, off, none⟩ → 0 < n → b ≠ g9) := fun b off e _ => by have h1 := hab b off e; have h2 := blk_lt HN5.out; omega
    clear hrd hab
    clear hb HE5 HM5 HG5 HB5 HN5 HL5
    have hS5 : (AndW (Bk q (.cells #[.bool false, .string ⟨#[]⟩, .string ⟨#[]⟩, .slice A n c, .slice none 0 0] 37)) (Bk gm (.cells #[.bool (rneg m), .string (rnum m), .string (rden m)] 33))) w6 := ⟨HE6.out, HM6.out⟩
    refine hK.out _ _ hS5 (fun _ => ?_)
    clear hK K
    refine wpAnyH_take (i := 5) rfl (by kernel_rfl) (by kernel_rfl) (by kernel_rfl) (fun _ _ _ h => h) (Or.inl ⟨by kernel_rfl, (by intro w' _; go_simp; with_reducible rfl)⟩) hS5 ?_
    go_simp
    refine wpAnyH_take (i := 6) rfl (by kernel_rfl) (by kernel_rfl) (by kernel_rfl) (fun _ _ _ h => h) (Or.inl ⟨by kernel_rfl, (by intro w' _; go_simp; with_reducible rfl)⟩) hS5 ?_
    go_simp
    refine wpAnyH_take (i := 7) rfl (by kernel_rfl) (by kernel_rfl) (by kernel_rfl) (fun _ _ _ h => h) (Or.inl ⟨by kernel_rfl, (by intro w' _; go_simp; with_reducible rfl)⟩) hS5 ?_
    go_simp
    refine wpAnyH_take (i := 9) rfl (by kernel_rfl) (by kernel_rfl) (by kernel_rfl) (fun _ _ _ h => h) (Or.inl ⟨by kernel_rfl, (by intro w' _; go_simp; with_reducible rfl)⟩) hS5 ?_
    go_simp
    refine wpAnyH_ready (rs := [10]) (by kernel_rfl) (by simp) ?_
    refine AllReadyH.cons rfl (fun K hK => ?_) AllReadyH.nil
    obtain ⟨c0, c1, c2, fc0, fc1, fc2, hzc⟩ := three_of HN6.out
    go_simp
    clear c0 c1 c2 fc0 fc1 fc2 hzc
    obtain ⟨wz, hwz⟩ : ∃ W, W = (((w6.setCell ⟨g9, 0, none⟩ (.bool false)).setCell ⟨g9, 1, none⟩ (.string ⟨#[]⟩)).setCell ⟨g9, 2, none⟩ (.string ⟨#[]⟩)) := ⟨_, rfl⟩
    have ho : Only g9 w6 wz := by rw [hwz]; exact (((Only.refl _ _).setC _ _).setC _ _).setC _ _
    have HNz : Hid (Bk g9 (.cells #[.bool false, .string ⟨#[]⟩, .string ⟨#[]⟩] 33) wz) := by rw [hwz]; exact heap_setCell_same _ g9 2 _ _ _ (heap_setCell_same _ g9 1 _ _ _ (heap_setCell_same _ g9 0 _ _ _ HN6.out))
    have HEz : Hid (Bk q (.cells #[.bool false, .string ⟨#[]⟩, .string ⟨#[]⟩, .slice A n c, .slice none 0 0] 37) wz) := blk_onlyW HE6.out ho (by have := HL_0.out; have := HL_g9.out; omega)
    have HMz : Hid (Bk gm (.cells #[.bool (rneg m), .string (rnum m), .string (rden m)] 33) wz) := blk_onlyW HM6.out ho (by have := HL_0.out; have := HL_g9.out; omega)
    have HGz : Hid (Bk gr (.cells #[.bool false, .string ⟨#[]⟩, .string ⟨#[]⟩] 33) wz) := blk_onlyW HG6.out ho (by have := HL_0.out; have := HL_g9.out; omega)
    have HBz : Hid (Below w.heap.size w wz) := HB6.out.trans (ho.at_ _ HB6.out.size (by have := HL_0.out; have := HL_g9.out; omega))
    have HDz : Hid (Rd wz wz.heap.size 3 A' n ((deliv l m).flatMap rtV)) := rd_only9 HD6.out ho HA9.out
    have HGN : Hid (g9 ≠ gr) := (by show g9 ≠ gr; have := HL_0.out; have := HL_g9.out; omega)
    rw [← hwz]
    clear hwz ho HE6 HM6 HG6 HB6 HN6 HD6
    have hSz : (AndW (Bk q (.cells #[.bool false, .string ⟨#[]⟩, .string ⟨#[]⟩, .slice A n c, .slice none 0 0] 37)) (Bk gm (.cells #[.bool (rneg m), .string (rnum m), .string (rden m)] 33))) wz := ⟨HEz.out, HMz.out⟩
    refine hK.out _ _ hSz (fun _ => ?_)
    clear hK K
    refine wpAnyH_done (by kernel_rfl) ?_ _
    (try go_wp2_with fail)
    obtain ⟨w37, hw_w37⟩ : ∃ W, W = wz.drew := ⟨_, rfl⟩
    have HN37 : Hid (Bk g9 (.cells #[.bool false, .string ⟨#[]⟩, .string ⟨#[]⟩] 33) w37) := by rw [hw_w37]; exact HNz.out
    have HG37 : Hid (Bk gr (.cells #[.bool false, .string ⟨#[]⟩, .string ⟨#[]⟩] 33) w37) := by rw [hw_w37]; exact HGz.out
    have HB37 : Hid (Below w.heap.size w w37) := by rw [hw_w37]; exact HBz.out.drew
    have HD37 : Hid (Rd w37 w37.heap.size 3 A' n ((deliv l m).flatMap rtV)) := by rw [hw_w37]; exact HDz.out
    have hS6 : (Bk g9 (.cells #[.bool false, .string ⟨#[]⟩, .string ⟨#[]⟩] 33)) w37 := HN37.out
    refine wp_region_held_drew (S := (Bk g9 (.cells #[.bool false, .string ⟨#[]⟩, .string ⟨#[]⟩] 33))) (by kernel_rfl) (by rw [← hw_w37]; exact hS6) ?_
    rw [← hw_w37]
    intro _
    clear hw_w37 HNz HGz HBz HDz
    refine wpAnyH_take (i := 0) rfl (by kernel_rfl) (by kernel_rfl) (by kernel_rfl) (fun _ _ _ h => h) (Or.inl ⟨by kernel_rfl, (by intro w' _; go_simp; with_reducible rfl)⟩) hS6 ?_
    go_simp
    refine wpAnyH_take (i := 1) (v := .agg #[.bool false, .string ⟨#[]⟩, .string ⟨#[]⟩]) rfl (by kernel_rfl) (by kernel_rfl) (by kernel_rfl) (fun _ _ _ h => h) (Or.inl ⟨by kernel_rfl, (by intro w' hw'; obtain ⟨k0, k1, k2, fk0, fk1, fk2, hzk⟩ := three_of hw'; go_simp)⟩) hS6 ?_
    go_simp
    refine wpAnyH_take (i := 2) rfl (by kernel_rfl) (by kernel_rfl) (by kernel_rfl) (fun _ _ _ h => h) (Or.inl ⟨by kernel_rfl, (by intro w' _; go_simp; with_reducible rfl)⟩) hS6 ?_
    go_simp
    refine wpAnyH_ready (rs := [3]) (by kernel_rfl) (by simp) ?_
    refine AllReadyH.cons rfl (fun K hK => ?_) AllReadyH.nil
    obtain ⟨c0, c1, c2, fc0, fc1, fc2, hzc⟩ := three_of HG37.out
    go_simp
    clear c0 c1 c2 fc0 fc1 fc2 hzc
    obtain ⟨wy, hwy⟩ : ∃ W, W = (((w37.setCell ⟨gr, 0, none⟩ (.bool false)).setCell ⟨gr, 1, none⟩ (.string ⟨#[]⟩)).setCell ⟨gr, 2, none⟩ (.string ⟨#[]⟩)) := ⟨_, rfl⟩
    have ho : Only gr w37 wy := by rw [hwy]; exact (((Only.refl _ _).setC _ _).setC _ _).setC _ _
    have HGy : Hid (Bk gr (.cells #[.bool false, .string ⟨#[]⟩, .string ⟨#[]⟩] 33) wy) := by rw [hwy]; exact heap_setCell_same _ gr 2 _ _ _ (heap_setCell_same _ gr 1 _ _ _ (heap_setCell_same _ gr 0 _ _ _ HG37.out))
    have HNy : Hid (Bk g9 (.cells #[.bool false, .string ⟨#[]⟩, .string ⟨#[]⟩] 33) wy) := blk_onlyW HN37.out ho HGN.out
    have HBy : Hid (Below w.heap.size w wy) := HB37.out.trans (ho.at_ _ HB37.out.size (by have := HL_0.out; omega))
    have HDy : Hid (Rd wy wy.heap.size 3 A' n ((deliv l m).flatMap rtV)) := rd_only HD37.out ho (fun b off e => (HAG.out b off e).1)
    rw [← hwy]
    clear hwy ho HN37 HG37 HB37 HD37
    have hSy : (Bk g9 (.cells #[.bool false, .string ⟨#[]⟩, .string ⟨#[]⟩] 33)) wy := HNy.out
    refine hK.out _ _ hSy (fun _ => ?_)
    clear hK K
    have hS98 := hSy
    refine wpAnyH_take (i := 4) rfl (by kernel_rfl) (by kernel_rfl) (by kernel_rfl) (fun _ _ _ h => h) (Or.inl ⟨by kernel_rfl, (by intro w' _; go_simp; with_reducible rfl)⟩) hS98 ?_
    go_simp
    refine wpAnyH_done (by kernel_rfl) ?_ _
    obtain ⟨c0, c1, c2, fc0, fc1, fc2, hzc⟩ := three_of HGy.out
    go_wp2_with fail
    exact bodyPost_ret (v := .tuple #[.slice A' n c', .agg #[.bool false, .string ⟨#[]⟩, .string ⟨#[]⟩], .int .i64 0]) (by simp [results, Tryz.results10, go_sem, c0, c1, c2]) rfl ⟨A', c', rfl, HDy.out, fun b off e => (HAG.out b off e).2, HBy.out⟩

end Go.Proofs.YtjlicnhkemfmiaaGreatDoor

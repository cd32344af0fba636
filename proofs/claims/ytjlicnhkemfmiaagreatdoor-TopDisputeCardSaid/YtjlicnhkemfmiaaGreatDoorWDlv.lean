/- waterfall.Deliver of an estate without agreements; insolvencytop.awakeClaims. -/
import Derived.Test.YtjlicnhkemfmiaaGreatDoorM22
import Derived.Test.YtjlicnhkemfmiaaGreatDoorSq
import Derived.Test.YtjlicnhkemfmiaaGreatDoorM18
set_option linter.unusedVariables false
set_option linter.unusedSimpArgs false
set_option maxHeartbeats 8000000
set_option maxRecDepth 100000
namespace Go.Proofs.YtjlicnhkemfmiaaGreatDoor
open Go.RowKit

theorem rd_only {W W' : World} {S n g : Nat} {A : Option Addr} {xs : List Value} (h : Rd W W.heap.size S A n xs) (ho : Only g W W') (hne : ∀ b off, A = some ⟨b, off, none⟩ → b ≠ g) : Rd W' W'.heap.size S A n xs := by
 refine Rd.more (B := W.heap.size) ?_ ho.size
 refine ⟨h.1, fun hn => ?_⟩
 obtain ⟨b, off, e, hb, hc⟩ := h.2 hn
 exact ⟨b, off, e, hb, fun j u hu => (World.cell?_of_block (w := W) (ho.block b hb (hne b off e))).trans (hc j u hu)⟩
def DelPost (qs : List Rat) (n : Nat) (w : World) (e : Ending) (w' : World) : Prop := ∃ A c, e = .returned (.tuple #[.slice A n c, ratV 0, .int .i64 0]) ∧ Rd w' w'.heap.size 3 A n (qs.flatMap rtV) ∧ ((∀ b off, A = some ⟨b, off, none⟩ → w.heap.size ≤ b) ∧ n ≤ c) ∧ Below w.heap.size w w'
theorem maxR_nn {m : Rat} (h : 0 ≤ m) : maxR m 0 = m := by unfold maxR; rw [if_pos h]
theorem rd_only9 {W W' : World} {S n g : Nat} {A : Option Addr} {xs : List Value} (h : Rd W W.heap.size S A n xs) (ho : Only g W W') (hne : ∀ b off, A = some ⟨b, off, none⟩ → 0 < n → b ≠ g) : Rd W' W'.heap.size S A n xs := by
 refine Rd.more (B := W.heap.size) ?_ ho.size
 refine ⟨h.1, fun hn => ?_⟩
 obtain ⟨b, off, e, hb, hc⟩ := h.2 hn
 exact ⟨b, off, e, hb, fun j u hu => (World.cell?_of_block (w := W) (ho.block b hb (hne b off e hn))).trans (hc j u hu)⟩
theorem deliver_calls (A : Option Addr) (n c : Nat) (l : List Cl) (m : Rat) (z zm : Nat) (w : World) (hn : n = l.length) (h8 : n ≤ 8) (hr : Rd w w.heap.size 5 A l.length (l.flatMap clV)) (hok : ClsOk l) (hz : ∀ c ∈ l, Sz z c.amt) (hm : Sz zm m) (hm0 : 0 ≤ m) (hz0 : 0 < z) (hzm : 0 < zm) (hz1 : z ≤ 1000) (hbd : zm + 8 * (1 + l.length * (z + 1) + 1) ≤ 90000) (hbd2 : z + (zm + 8 * (1 + l.length * (z + 1) + 1) + (1 + l.length * (z + 1))) ≤ 99000) :
 Calls Tryz.prog 10 #[estV A n c, ratV m] w (DelPost (deliv l m) n w) := by
 have hCK' := fun W (hw : Below w.heap.size w W) => wChk_calls A n c l z W hn (by omega) (hr.next hw) hok hz (by omega)
 have hLY' := fun W (hw : Below w.heap.size w W) => wLay_calls A n c l z W hn h8 (hr.next hw) hok hz hz0 (by omega)
 have hPO' := fun W => wPos_calls m zm W hm hzm (by omega)
 rw [maxR_nn hm0] at hPO'
 have hLD' := fun B R tot ts W (h : LadM B R ts W) (hT : TrsOk z l ts) => ldeliver_calls B R n tot ts l m z zm W h hT hok hz hn.symm h8 hm hm0 hz0 hzm hbd hbd2
 unfold LayPost at hLY'
 unfold LDelPost at hLD'
 rw [ratV_zero] at hLD'
 unfold DelPost
 rw [ratV_zero]
 rw [← hn] at hLY'
 unfold ratV at hPO' hLD' ⊢
 have HCK := Lib.hid hCK'
 have HLY := Lib.hid hLY'
 have HPO := Lib.hid hPO'
 have HLD := Lib.hid hLD'
 clear hCK' hLY' hPO' hLD' hn h8 hr hok hz hm hm0 hz0 hzm hbd hbd2
 go_enter Tryz.func10, Tryz.ntmps10
 go_wp2_with fail
 obtain ⟨q, hg_q⟩ : ∃ g, g = w.heap.size := ⟨_, rfl⟩
 obtain ⟨gm, hg_gm⟩ : ∃ g, g = w.heap.size + 1 := ⟨_, rfl⟩
 obtain ⟨gr, hg_gr⟩ : ∃ g, g = w.heap.size + 1 + 1 := ⟨_, rfl⟩
 obtain ⟨w0, hw_w0⟩ : ∃ W, W = (((w.alloc (.cells #[.bool false, .string ⟨#[]⟩, .string ⟨#[]⟩, .slice A n c, .slice none 0 0] 37)).alloc (.cells #[.bool (rneg m), .string (rnum m), .string (rden m)] 33)).alloc (.cells #[.bool false, .string ⟨#[]⟩, .string ⟨#[]⟩] 33)) := ⟨_, rfl⟩
 have HE0 : Hid (Bk q (.cells #[.bool false, .string ⟨#[]⟩, .string ⟨#[]⟩, .slice A n c, .slice none 0 0] 37) w0) := by rw [hw_w0, hg_q]; exact blk_alloc (blk_alloc (blk_new _ _))
 have HM0 : Hid (Bk gm (.cells #[.bool (rneg m), .string (rnum m), .string (rden m)] 33) w0) := by rw [hw_w0, hg_gm]; exact blk_alloc (blk_new1 _ _ _)
 have HG0 : Hid (Bk gr (.cells #[.bool false, .string ⟨#[]⟩, .string ⟨#[]⟩] 33) w0) := by rw [hw_w0, hg_gr]; exact blk_new2 _ _ _ _
 have HB0 : Hid (Below w.heap.size w w0) := by rw [hw_w0]; exact ((bel_alloc _ _).alloc (by simp) _).alloc (by simp <;> omega) _
 have HL_0 := Lib.hid (And.intro (by omega : w.heap.size ≤ q) (And.intro (by omega : q < gm) ((by omega : gm < gr))))
 rw [← hw_w0]
 (try rw [← hg_gr]); (try rw [← hg_gm]); (try rw [← hg_q])
 clear hw_w0 hg_q hg_gm hg_gr
 refine (HCK.out _ HB0.out).mono ?_
 rintro e w1 ⟨rfl, hb⟩
 have HE1 := bkn HE0 hb
 have HM1 := bkn HM0 hb
 have HG1 := bkn HG0 hb
 have HB1 := ben HB0 hb
 clear HCK
 clear hb HE0 HM0 HG0 HB0
 go_wp2_with fail
 obtain ⟨w2, hw_w2⟩ : ∃ W, W = w1.drew := ⟨_, rfl⟩
 have HE2 := bkd HE1 hw_w2
 have HM2 := bkd HM1 hw_w2
 have HG2 := bkd HG1 hw_w2
 have HB2 := bed HB1 hw_w2
 have hS1 := And.intro HE2.out HM2.out
 refine wp_region_held_drew (S := (AndW (Bk q (.cells #[.bool false, .string ⟨#[]⟩, .string ⟨#[]⟩, .slice A n c, .slice none 0 0] 37)) (Bk gm (.cells #[.bool (rneg m), .string (rnum m), .string (rden m)] 33)))) (by kernel_rfl) (by rw [← hw_w2]; exact hS1) ?_
 rw [← hw_w2]
 intro _
 clear hw_w2 HE1 HM1 HG1 HB1
 refine tv 0 (estV A n c) rfl (by intro w' hw'; obtain ⟨k0, k1, k2, k3, k4⟩ := EBox.cells (q := q) hw'.1; go_simp) hS1 ?_
 go_simp
 refine tv 2 (.agg #[.bool (rneg m), .string (rnum m), .string (rden m)]) rfl (by intro w' hw'; obtain ⟨k0, k1, k2, fk0, fk1, fk2, hzk⟩ := three_of hw'.2; go_simp) hS1 ?_
 go_simp
 refine wpAnyH_ready (rs := [1, 8]) (by kernel_rfl) (by simp) ?_
 refine AllReadyH.cons rfl (fun K hK => ?_) (AllReadyH.cons rfl (fun K hK => ?_) AllReadyH.nil)
 ·
  go_simp
  refine (HLY.out _ HB2.out).mono ?_
  rintro e w3 ⟨R, ts, tot, rfl, hla, htr, hb⟩
  have HE3 := bkn HE2 hb
  have HM3 := bkn HM2 hb
  have HG3 := bkn HG2 hb
  have HB3 := ben HB2 hb
  have HT : Hid (TrsOk z l ts) := htr
  have HLm3 : Hid (LadM w2.heap.size R ts w3) := hla
  clear hla htr
  clear hb HE2 HM2 HG2 HB2
  have hS2 := And.intro HE3.out HM3.out
  refine hK.out _ _ hS2 (fun _ => ?_)
  clear hK K
  refine wpAnyH_ready (rs := [3, 8]) (by kernel_rfl) (by simp) ?_
  refine AllReadyH.cons rfl (fun K hK => ?_) (AllReadyH.cons rfl (fun K hK => ?_) AllReadyH.nil)
  ·
   go_simp
   refine (HPO.out _).mono ?_
   rintro e w4 ⟨rfl, hb⟩
   have HE4 := bkn HE3 hb
   have HM4 := bkn HM3 hb
   have HG4 := bkn HG3 hb
   have HB4 := ben HB3 hb
   have HL4 : Hid (LadM w2.heap.size R ts w4) := HLm3.out.next hb
   clear hb HE3 HM3 HG3 HB3 HLm3
   have hS3 := And.intro HE4.out HM4.out
   refine hK.out _ _ hS3 (fun _ => ?_)
   clear hK K
   refine wpAnyH_ready (rs := [4, 8]) (by kernel_rfl) (by simp) ?_
   refine AllReadyH.cons rfl (fun K hK => ?_) (AllReadyH.cons rfl (fun K hK => ?_) AllReadyH.nil)
   ·
    go_simp
    refine (HLD.out w2.heap.size R tot ts _ HL4.out HT.out).mono ?_
    rintro e w5 ⟨A', c', rfl, hrd, hab, hb⟩
    have HE5 := bkn HE4 hb
    have HM5 := bkn HM4 hb
    have HG5 := bkn HG4 hb
    have HB5 := ben HB4 hb
    have HD5 : Hid (Rd w5 w5.heap.size 3 A' n ((deliv l m).flatMap rtV)) := hrd
    have HAG : Hid (∀ b off, A' = some ⟨b, off, none⟩ → b ≠ gr ∧ w.heap.size ≤ b) := fun b off e => by have h1 := hab.1 b off e; have h2 := blk_lt HG4.out; have h3 := HB4.out.size; exact ⟨by omega, by omega⟩
    have HNC := Lib.hid hab.2
    clear hrd hab
    clear hb HE4 HM4 HG4 HB4 HL4
    have hS4 := And.intro HE5.out HM5.out
    refine hK.out _ _ hS4 (fun _ => ?_)
    clear hK K
    refine tk 5 hS4 ?_
    go_simp
    refine tk 6 hS4 ?_
    go_simp
    refine tk 7 hS4 ?_
    go_simp
    refine tr 8 (fun K hK => ?_)
    go_simp
    obtain ⟨g9, hg_g9⟩ : ∃ g, g = w5.heap.size := ⟨_, rfl⟩
    obtain ⟨w6, hw_w6⟩ : ∃ W, W = w5.alloc (.cells #[.bool false, .string ⟨#[]⟩, .string ⟨#[]⟩] 33) := ⟨_, rfl⟩
    have HL_g9 := Lib.hid (And.intro (by have := blk_lt HE5.out; omega : q < g9) (And.intro (by have := blk_lt HM5.out; omega : gm < g9) (And.intro (by have := blk_lt HG5.out; omega : gr < g9) ((by have := HB5.out.size; omega : w.heap.size ≤ g9)))))
    have HE6 := bka HE5 hw_w6
    have HM6 := bka HM5 hw_w6
    have HG6 := bka HG5 hw_w6
    have HB6 := bea HB5 hw_w6
    have HD6 : Hid (Rd w6 w6.heap.size 3 A' n ((deliv l m).flatMap rtV)) := by rw [hw_w6]; exact HD5.out.next (bel_alloc _ _)
    have HN6 : Hid (Bk g9 (.cells #[.bool false, .string ⟨#[]⟩, .string ⟨#[]⟩] 33) w6) := by rw [hw_w6, hg_g9]; exact blk_new _ _
    have HA9 : Hid (∀ b off, A' = some ⟨b, off, none⟩ → 0 < n → b ≠ g9) := fun b off e hp => by obtain ⟨b', off', e', hb', _⟩ := HD5.out.2 hp; rw [e] at e'; injection e' with e'; injection e' with e1; subst e1; omega
    rw [← hw_w6]
    (try rw [← hg_g9])
    clear hw_w6 hg_g9 HE5 HM5 HG5 HB5 HD5
    have hS5 := And.intro HE6.out HM6.out
    refine hK.out _ _ hS5 (fun _ => ?_)
    clear hK K
    refine tk 9 hS5 ?_
    go_simp
    refine tr 10 (fun K hK => ?_)
    obtain ⟨c0, c1, c2, fc0, fc1, fc2, hzc⟩ := three_of HN6.out
    go_simp
    clear c0 c1 c2 fc0 fc1 fc2 hzc
    obtain ⟨wz, hwz⟩ : ∃ W, W = (((w6.setCell ⟨g9, 0, none⟩ (.bool false)).setCell ⟨g9, 1, none⟩ (.string ⟨#[]⟩)).setCell ⟨g9, 2, none⟩ (.string ⟨#[]⟩)) := ⟨_, rfl⟩
    have ho : Only g9 w6 wz := by rw [hwz]; exact (((Only.refl _ _).setC _ _).setC _ _).setC _ _
    have HNz : Hid (Bk g9 (.cells #[.bool false, .string ⟨#[]⟩, .string ⟨#[]⟩] 33) wz) := by rw [hwz]; exact heap_setCell_same _ g9 2 _ _ _ (heap_setCell_same _ g9 1 _ _ _ (heap_setCell_same _ g9 0 _ _ _ HN6.out))
    have HEz := bko HE6 ho (by have := HL_0.out; have := HL_g9.out; omega)
    have HMz := bko HM6 ho (by have := HL_0.out; have := HL_g9.out; omega)
    have HGz := bko HG6 ho (by have := HL_0.out; have := HL_g9.out; omega)
    have HBz := beo HB6 ho (by have := HL_0.out; have := HL_g9.out; omega)
    have HDz : Hid (Rd wz wz.heap.size 3 A' n ((deliv l m).flatMap rtV)) := rd_only9 HD6.out ho HA9.out
    have HGN : Hid (g9 ≠ gr) := (by show g9 ≠ gr; have := HL_0.out; have := HL_g9.out; omega)
    rw [← hwz]
    clear hwz ho HE6 HM6 HG6 HB6 HD6 HN6
    have hSz := And.intro HEz.out HMz.out
    refine hK.out _ _ hSz (fun _ => ?_)
    clear hK K
    refine wpAnyH_done (by kernel_rfl) ?_ _
    (try go_wp2_with fail)
    obtain ⟨w37, hw_w37⟩ : ∃ W, W = wz.drew := ⟨_, rfl⟩
    have HN37 := bkd HNz hw_w37
    have HG37 := bkd HGz hw_w37
    have HB37 := bed HBz hw_w37
    have HD37 : Hid (Rd w37 w37.heap.size 3 A' n ((deliv l m).flatMap rtV)) := by rw [hw_w37]; exact HDz.out
    have hS6 := HN37.out
    refine wp_region_held_drew (S := (Bk g9 (.cells #[.bool false, .string ⟨#[]⟩, .string ⟨#[]⟩] 33))) (by kernel_rfl) (by rw [← hw_w37]; exact hS6) ?_
    rw [← hw_w37]
    intro _
    clear hw_w37 HNz HGz HBz HDz
    refine tk 0 hS6 ?_
    go_simp
    refine tv 1 (.agg #[.bool false, .string ⟨#[]⟩, .string ⟨#[]⟩]) rfl (by intro w' hw'; obtain ⟨k0, k1, k2, fk0, fk1, fk2, hzk⟩ := three_of hw'; go_simp) hS6 ?_
    go_simp
    refine tk 2 hS6 ?_
    go_simp
    refine tr 3 (fun K hK => ?_)
    obtain ⟨c0, c1, c2, fc0, fc1, fc2, hzc⟩ := three_of HG37.out
    go_simp
    clear c0 c1 c2 fc0 fc1 fc2 hzc
    obtain ⟨wy, hwy⟩ : ∃ W, W = (((w37.setCell ⟨gr, 0, none⟩ (.bool false)).setCell ⟨gr, 1, none⟩ (.string ⟨#[]⟩)).setCell ⟨gr, 2, none⟩ (.string ⟨#[]⟩)) := ⟨_, rfl⟩
    have ho : Only gr w37 wy := by rw [hwy]; exact (((Only.refl _ _).setC _ _).setC _ _).setC _ _
    have HGy : Hid (Bk gr (.cells #[.bool false, .string ⟨#[]⟩, .string ⟨#[]⟩] 33) wy) := by rw [hwy]; exact heap_setCell_same _ gr 2 _ _ _ (heap_setCell_same _ gr 1 _ _ _ (heap_setCell_same _ gr 0 _ _ _ HG37.out))
    have HNy := bko HN37 ho HGN.out
    have HBy := beo HB37 ho (by have := HL_0.out; omega)
    have HDy : Hid (Rd wy wy.heap.size 3 A' n ((deliv l m).flatMap rtV)) := rd_only HD37.out ho (fun b off e => (HAG.out b off e).1)
    rw [← hwy]
    clear hwy ho HN37 HG37 HB37 HD37
    have hSy := HNy.out
    refine hK.out _ _ hSy (fun _ => ?_)
    clear hK K
    have hS98 := hSy
    refine tk 4 hS98 ?_
    go_simp
    refine wpAnyH_done (by kernel_rfl) ?_ _
    obtain ⟨c0, c1, c2, fc0, fc1, fc2, hzc⟩ := three_of HGy.out
    go_wp2_with fail
    exact bodyPost_ret (v := .tuple #[.slice A' n c', .agg #[.bool false, .string ⟨#[]⟩, .string ⟨#[]⟩], .int .i64 0]) (by simp [results, Tryz.results10, go_sem, c0, c1, c2]) rfl ⟨A', c', rfl, HDy.out, ⟨fun b off e => (HAG.out b off e).2, HNC.out⟩, HBy.out⟩
   ·
    go_simp
    obtain ⟨g9, hg_g9⟩ : ∃ g, g = w4.heap.size := ⟨_, rfl⟩
    obtain ⟨w5, hw_w5⟩ : ∃ W, W = w4.alloc (.cells #[.bool false, .string ⟨#[]⟩, .string ⟨#[]⟩] 33) := ⟨_, rfl⟩
    have HL_g9 := Lib.hid (And.intro (by have := blk_lt HE4.out; omega : q < g9) (And.intro (by have := blk_lt HM4.out; omega : gm < g9) (And.intro (by have := blk_lt HG4.out; omega : gr < g9) ((by have := HB4.out.size; omega : w.heap.size ≤ g9)))))
    have HE5 := bka HE4 hw_w5
    have HM5 := bka HM4 hw_w5
    have HG5 := bka HG4 hw_w5
    have HB5 := bea HB4 hw_w5
    have HL5 : Hid (LadM w2.heap.size R ts w5) := by rw [hw_w5]; exact HL4.out.next (bel_alloc _ _)
    have HN5 : Hid (Bk g9 (.cells #[.bool false, .string ⟨#[]⟩, .string ⟨#[]⟩] 33) w5) := by rw [hw_w5, hg_g9]; exact blk_new _ _
    rw [← hw_w5]
    (try rw [← hg_g9])
    clear hw_w5 hg_g9 HE4 HM4 HG4 HB4 HL4
    have hS4 := And.intro HE5.out HM5.out
    refine hK.out _ _ hS4 (fun _ => ?_)
    clear hK K
    refine tr 4 (fun K hK => ?_)
    go_simp
    refine (HLD.out w2.heap.size R tot ts _ HL5.out HT.out).mono ?_
    rintro e w6 ⟨A', c', rfl, hrd, hab, hb⟩
    have HE6 := bkn HE5 hb
    have HM6 := bkn HM5 hb
    have HG6 := bkn HG5 hb
    have HB6 := ben HB5 hb
    have HN6 := bkn HN5 hb
    have HD6 : Hid (Rd w6 w6.heap.size 3 A' n ((deliv l m).flatMap rtV)) := hrd
    have HAG : Hid (∀ b off, A' = some ⟨b, off, none⟩ → b ≠ gr ∧ w.heap.size ≤ b) := fun b off e => by have h1 := hab.1 b off e; have h2 := blk_lt HG5.out; have h3 := HB5.out.size; exact ⟨by omega, by omega⟩
    have HA9 : Hid (∀ b off, A' = some ⟨b, off, none⟩ → 0 < n → b ≠ g9) := fun b off e _ => by have h1 := hab.1 b off e; have h2 := blk_lt HN5.out; omega
    have HNC := Lib.hid hab.2
    clear hrd hab
    clear hb HE5 HM5 HG5 HB5 HL5 HN5
    have hS5 := And.intro HE6.out HM6.out
    refine hK.out _ _ hS5 (fun _ => ?_)
    clear hK K
    refine tk 5 hS5 ?_
    go_simp
    refine tk 6 hS5 ?_
    go_simp
    refine tk 7 hS5 ?_
    go_simp
    refine tk 9 hS5 ?_
    go_simp
    refine tr 10 (fun K hK => ?_)
    obtain ⟨c0, c1, c2, fc0, fc1, fc2, hzc⟩ := three_of HN6.out
    go_simp
    clear c0 c1 c2 fc0 fc1 fc2 hzc
    obtain ⟨wz, hwz⟩ : ∃ W, W = (((w6.setCell ⟨g9, 0, none⟩ (.bool false)).setCell ⟨g9, 1, none⟩ (.string ⟨#[]⟩)).setCell ⟨g9, 2, none⟩ (.string ⟨#[]⟩)) := ⟨_, rfl⟩
    have ho : Only g9 w6 wz := by rw [hwz]; exact (((Only.refl _ _).setC _ _).setC _ _).setC _ _
    have HNz : Hid (Bk g9 (.cells #[.bool false, .string ⟨#[]⟩, .string ⟨#[]⟩] 33) wz) := by rw [hwz]; exact heap_setCell_same _ g9 2 _ _ _ (heap_setCell_same _ g9 1 _ _ _ (heap_setCell_same _ g9 0 _ _ _ HN6.out))
    have HEz := bko HE6 ho (by have := HL_0.out; have := HL_g9.out; omega)
    have HMz := bko HM6 ho (by have := HL_0.out; have := HL_g9.out; omega)
    have HGz := bko HG6 ho (by have := HL_0.out; have := HL_g9.out; omega)
    have HBz := beo HB6 ho (by have := HL_0.out; have := HL_g9.out; omega)
    have HDz : Hid (Rd wz wz.heap.size 3 A' n ((deliv l m).flatMap rtV)) := rd_only9 HD6.out ho HA9.out
    have HGN : Hid (g9 ≠ gr) := (by show g9 ≠ gr; have := HL_0.out; have := HL_g9.out; omega)
    rw [← hwz]
    clear hwz ho HE6 HM6 HG6 HB6 HN6 HD6
    have hSz := And.intro HEz.out HMz.out
    refine hK.out _ _ hSz (fun _ => ?_)
    clear hK K
    refine wpAnyH_done (by kernel_rfl) ?_ _
    (try go_wp2_with fail)
    obtain ⟨w37, hw_w37⟩ : ∃ W, W = wz.drew := ⟨_, rfl⟩
    have HN37 := bkd HNz hw_w37
    have HG37 := bkd HGz hw_w37
    have HB37 := bed HBz hw_w37
    have HD37 : Hid (Rd w37 w37.heap.size 3 A' n ((deliv l m).flatMap rtV)) := by rw [hw_w37]; exact HDz.out
    have hS6 := HN37.out
    refine wp_region_held_drew (S := (Bk g9 (.cells #[.bool false, .string ⟨#[]⟩, .string ⟨#[]⟩] 33))) (by kernel_rfl) (by rw [← hw_w37]; exact hS6) ?_
    rw [← hw_w37]
    intro _
    clear hw_w37 HNz HGz HBz HDz
    refine tk 0 hS6 ?_
    go_simp
    refine tv 1 (.agg #[.bool false, .string ⟨#[]⟩, .string ⟨#[]⟩]) rfl (by intro w' hw'; obtain ⟨k0, k1, k2, fk0, fk1, fk2, hzk⟩ := three_of hw'; go_simp) hS6 ?_
    go_simp
    refine tk 2 hS6 ?_
    go_simp
    refine tr 3 (fun K hK => ?_)
    obtain ⟨c0, c1, c2, fc0, fc1, fc2, hzc⟩ := three_of HG37.out
    go_simp
    clear c0 c1 c2 fc0 fc1 fc2 hzc
    obtain ⟨wy, hwy⟩ : ∃ W, W = (((w37.setCell ⟨gr, 0, none⟩ (.bool false)).setCell ⟨gr, 1, none⟩ (.string ⟨#[]⟩)).setCell ⟨gr, 2, none⟩ (.string ⟨#[]⟩)) := ⟨_, rfl⟩
    have ho : Only gr w37 wy := by rw [hwy]; exact (((Only.refl _ _).setC _ _).setC _ _).setC _ _
    have HGy : Hid (Bk gr (.cells #[.bool false, .string ⟨#[]⟩, .string ⟨#[]⟩] 33) wy) := by rw [hwy]; exact heap_setCell_same _ gr 2 _ _ _ (heap_setCell_same _ gr 1 _ _ _ (heap_setCell_same _ gr 0 _ _ _ HG37.out))
    have HNy := bko HN37 ho HGN.out
    have HBy := beo HB37 ho (by have := HL_0.out; omega)
    have HDy : Hid (Rd wy wy.heap.size 3 A' n ((deliv l m).flatMap rtV)) := rd_only HD37.out ho (fun b off e => (HAG.out b off e).1)
    rw [← hwy]
    clear hwy ho HN37 HG37 HB37 HD37
    have hSy := HNy.out
    refine hK.out _ _ hSy (fun _ => ?_)
    clear hK K
    have hS98 := hSy
    refine tk 4 hS98 ?_
    go_simp
    refine wpAnyH_done (by kernel_rfl) ?_ _
    obtain ⟨c0, c1, c2, fc0, fc1, fc2, hzc⟩ := three_of HGy.out
    go_wp2_with fail
    exact bodyPost_ret (v := .tuple #[.slice A' n c', .agg #[.bool false, .string ⟨#[]⟩, .string ⟨#[]⟩], .int .i64 0]) (by simp [results, Tryz.results10, go_sem, c0, c1, c2]) rfl ⟨A', c', rfl, HDy.out, ⟨fun b off e => (HAG.out b off e).2, HNC.out⟩, HBy.out⟩
  ·
   go_simp
   obtain ⟨g9, hg_g9⟩ : ∃ g, g = w3.heap.size := ⟨_, rfl⟩
   obtain ⟨w4, hw_w4⟩ : ∃ W, W = w3.alloc (.cells #[.bool false, .string ⟨#[]⟩, .string ⟨#[]⟩] 33) := ⟨_, rfl⟩
   have HL_g9 := Lib.hid (And.intro (by have := blk_lt HE3.out; omega : q < g9) (And.intro (by have := blk_lt HM3.out; omega : gm < g9) (And.intro (by have := blk_lt HG3.out; omega : gr < g9) ((by have := HB3.out.size; omega : w.heap.size ≤ g9)))))
   have HE4 := bka HE3 hw_w4
   have HM4 := bka HM3 hw_w4
   have HG4 := bka HG3 hw_w4
   have HB4 := bea HB3 hw_w4
   have HL4 : Hid (LadM w2.heap.size R ts w4) := by rw [hw_w4]; exact HLm3.out.next (bel_alloc _ _)
   have HN4 : Hid (Bk g9 (.cells #[.bool false, .string ⟨#[]⟩, .string ⟨#[]⟩] 33) w4) := by rw [hw_w4, hg_g9]; exact blk_new _ _
   rw [← hw_w4]
   (try rw [← hg_g9])
   clear hw_w4 hg_g9 HE3 HM3 HG3 HB3 HLm3
   have hS3 := And.intro HE4.out HM4.out
   refine hK.out _ _ hS3 (fun _ => ?_)
   clear hK K
   refine tr 3 (fun K hK => ?_)
   go_simp
   refine (HPO.out _).mono ?_
   rintro e w5 ⟨rfl, hb⟩
   have HE5 := bkn HE4 hb
   have HM5 := bkn HM4 hb
   have HG5 := bkn HG4 hb
   have HB5 := ben HB4 hb
   have HL5 : Hid (LadM w2.heap.size R ts w5) := HL4.out.next hb
   have HN5 := bkn HN4 hb
   clear hb HE4 HM4 HG4 HB4 HL4 HN4
   have hS4 := And.intro HE5.out HM5.out
   refine hK.out _ _ hS4 (fun _ => ?_)
   clear hK K
   refine tr 4 (fun K hK => ?_)
   go_simp
   refine (HLD.out w2.heap.size R tot ts _ HL5.out HT.out).mono ?_
   rintro e w6 ⟨A', c', rfl, hrd, hab, hb⟩
   have HE6 := bkn HE5 hb
   have HM6 := bkn HM5 hb
   have HG6 := bkn HG5 hb
   have HB6 := ben HB5 hb
   have HN6 := bkn HN5 hb
   have HD6 : Hid (Rd w6 w6.heap.size 3 A' n ((deliv l m).flatMap rtV)) := hrd
   have HAG : Hid (∀ b off, A' = some ⟨b, off, none⟩ → b ≠ gr ∧ w.heap.size ≤ b) := fun b off e => by have h1 := hab.1 b off e; have h2 := blk_lt HG5.out; have h3 := HB5.out.size; exact ⟨by omega, by omega⟩
   have HA9 : Hid (∀ b off, A' = some ⟨b, off, none⟩ → 0 < n → b ≠ g9) := fun b off e _ => by have h1 := hab.1 b off e; have h2 := blk_lt HN5.out; omega
   have HNC := Lib.hid hab.2
   clear hrd hab
   clear hb HE5 HM5 HG5 HB5 HL5 HN5
   have hS5 := And.intro HE6.out HM6.out
   refine hK.out _ _ hS5 (fun _ => ?_)
   clear hK K
   refine tk 5 hS5 ?_
   go_simp
   refine tk 6 hS5 ?_
   go_simp
   refine tk 7 hS5 ?_
   go_simp
   refine tk 9 hS5 ?_
   go_simp
   refine tr 10 (fun K hK => ?_)
   obtain ⟨c0, c1, c2, fc0, fc1, fc2, hzc⟩ := three_of HN6.out
   go_simp
   clear c0 c1 c2 fc0 fc1 fc2 hzc
   obtain ⟨wz, hwz⟩ : ∃ W, W = (((w6.setCell ⟨g9, 0, none⟩ (.bool false)).setCell ⟨g9, 1, none⟩ (.string ⟨#[]⟩)).setCell ⟨g9, 2, none⟩ (.string ⟨#[]⟩)) := ⟨_, rfl⟩
   have ho : Only g9 w6 wz := by rw [hwz]; exact (((Only.refl _ _).setC _ _).setC _ _).setC _ _
   have HNz : Hid (Bk g9 (.cells #[.bool false, .string ⟨#[]⟩, .string ⟨#[]⟩] 33) wz) := by rw [hwz]; exact heap_setCell_same _ g9 2 _ _ _ (heap_setCell_same _ g9 1 _ _ _ (heap_setCell_same _ g9 0 _ _ _ HN6.out))
   have HEz := bko HE6 ho (by have := HL_0.out; have := HL_g9.out; omega)
   have HMz := bko HM6 ho (by have := HL_0.out; have := HL_g9.out; omega)
   have HGz := bko HG6 ho (by have := HL_0.out; have := HL_g9.out; omega)
   have HBz := beo HB6 ho (by have := HL_0.out; have := HL_g9.out; omega)
   have HDz : Hid (Rd wz wz.heap.size 3 A' n ((deliv l m).flatMap rtV)) := rd_only9 HD6.out ho HA9.out
   have HGN : Hid (g9 ≠ gr) := (by show g9 ≠ gr; have := HL_0.out; have := HL_g9.out; omega)
   rw [← hwz]
   clear hwz ho HE6 HM6 HG6 HB6 HN6 HD6
   have hSz := And.intro HEz.out HMz.out
   refine hK.out _ _ hSz (fun _ => ?_)
   clear hK K
   refine wpAnyH_done (by kernel_rfl) ?_ _
   (try go_wp2_with fail)
   obtain ⟨w37, hw_w37⟩ : ∃ W, W = wz.drew := ⟨_, rfl⟩
   have HN37 := bkd HNz hw_w37
   have HG37 := bkd HGz hw_w37
   have HB37 := bed HBz hw_w37
   have HD37 : Hid (Rd w37 w37.heap.size 3 A' n ((deliv l m).flatMap rtV)) := by rw [hw_w37]; exact HDz.out
   have hS6 := HN37.out
   refine wp_region_held_drew (S := (Bk g9 (.cells #[.bool false, .string ⟨#[]⟩, .string ⟨#[]⟩] 33))) (by kernel_rfl) (by rw [← hw_w37]; exact hS6) ?_
   rw [← hw_w37]
   intro _
   clear hw_w37 HNz HGz HBz HDz
   refine tk 0 hS6 ?_
   go_simp
   refine tv 1 (.agg #[.bool false, .string ⟨#[]⟩, .string ⟨#[]⟩]) rfl (by intro w' hw'; obtain ⟨k0, k1, k2, fk0, fk1, fk2, hzk⟩ := three_of hw'; go_simp) hS6 ?_
   go_simp
   refine tk 2 hS6 ?_
   go_simp
   refine tr 3 (fun K hK => ?_)
   obtain ⟨c0, c1, c2, fc0, fc1, fc2, hzc⟩ := three_of HG37.out
   go_simp
   clear c0 c1 c2 fc0 fc1 fc2 hzc
   obtain ⟨wy, hwy⟩ : ∃ W, W = (((w37.setCell ⟨gr, 0, none⟩ (.bool false)).setCell ⟨gr, 1, none⟩ (.string ⟨#[]⟩)).setCell ⟨gr, 2, none⟩ (.string ⟨#[]⟩)) := ⟨_, rfl⟩
   have ho : Only gr w37 wy := by rw [hwy]; exact (((Only.refl _ _).setC _ _).setC _ _).setC _ _
   have HGy : Hid (Bk gr (.cells #[.bool false, .string ⟨#[]⟩, .string ⟨#[]⟩] 33) wy) := by rw [hwy]; exact heap_setCell_same _ gr 2 _ _ _ (heap_setCell_same _ gr 1 _ _ _ (heap_setCell_same _ gr 0 _ _ _ HG37.out))
   have HNy := bko HN37 ho HGN.out
   have HBy := beo HB37 ho (by have := HL_0.out; omega)
   have HDy : Hid (Rd wy wy.heap.size 3 A' n ((deliv l m).flatMap rtV)) := rd_only HD37.out ho (fun b off e => (HAG.out b off e).1)
   rw [← hwy]
   clear hwy ho HN37 HG37 HB37 HD37
   have hSy := HNy.out
   refine hK.out _ _ hSy (fun _ => ?_)
   clear hK K
   have hS98 := hSy
   refine tk 4 hS98 ?_
   go_simp
   refine wpAnyH_done (by kernel_rfl) ?_ _
   obtain ⟨c0, c1, c2, fc0, fc1, fc2, hzc⟩ := three_of HGy.out
   go_wp2_with fail
   exact bodyPost_ret (v := .tuple #[.slice A' n c', .agg #[.bool false, .string ⟨#[]⟩, .string ⟨#[]⟩], .int .i64 0]) (by simp [results, Tryz.results10, go_sem, c0, c1, c2]) rfl ⟨A', c', rfl, HDy.out, ⟨fun b off e => (HAG.out b off e).2, HNC.out⟩, HBy.out⟩
 ·
  go_simp
  obtain ⟨g9, hg_g9⟩ : ∃ g, g = w2.heap.size := ⟨_, rfl⟩
  obtain ⟨w3, hw_w3⟩ : ∃ W, W = w2.alloc (.cells #[.bool false, .string ⟨#[]⟩, .string ⟨#[]⟩] 33) := ⟨_, rfl⟩
  have HL_g9 := Lib.hid (And.intro (by have := blk_lt HE2.out; omega : q < g9) (And.intro (by have := blk_lt HM2.out; omega : gm < g9) (And.intro (by have := blk_lt HG2.out; omega : gr < g9) ((by have := HB2.out.size; omega : w.heap.size ≤ g9)))))
  have HE3 := bka HE2 hw_w3
  have HM3 := bka HM2 hw_w3
  have HG3 := bka HG2 hw_w3
  have HB3 := bea HB2 hw_w3
  have HN3 : Hid (Bk g9 (.cells #[.bool false, .string ⟨#[]⟩, .string ⟨#[]⟩] 33) w3) := by rw [hw_w3, hg_g9]; exact blk_new _ _
  rw [← hw_w3]
  (try rw [← hg_g9])
  clear hw_w3 hg_g9 HE2 HM2 HG2 HB2
  have hS2 := And.intro HE3.out HM3.out
  refine hK.out _ _ hS2 (fun _ => ?_)
  clear hK K
  refine tr 1 (fun K hK => ?_)
  go_simp
  refine (HLY.out _ HB3.out).mono ?_
  rintro e w4 ⟨R, ts, tot, rfl, hla, htr, hb⟩
  have HE4 := bkn HE3 hb
  have HM4 := bkn HM3 hb
  have HG4 := bkn HG3 hb
  have HB4 := ben HB3 hb
  have HN4 := bkn HN3 hb
  have HT : Hid (TrsOk z l ts) := htr
  have HLm4 : Hid (LadM w3.heap.size R ts w4) := hla
  clear hla htr
  clear hb HE3 HM3 HG3 HB3 HN3
  have hS3 := And.intro HE4.out HM4.out
  refine hK.out _ _ hS3 (fun _ => ?_)
  clear hK K
  refine tr 3 (fun K hK => ?_)
  go_simp
  refine (HPO.out _).mono ?_
  rintro e w5 ⟨rfl, hb⟩
  have HE5 := bkn HE4 hb
  have HM5 := bkn HM4 hb
  have HG5 := bkn HG4 hb
  have HB5 := ben HB4 hb
  have HN5 := bkn HN4 hb
  have HL5 : Hid (LadM w3.heap.size R ts w5) := HLm4.out.next hb
  clear hb HE4 HM4 HG4 HB4 HN4 HLm4
  have hS4 := And.intro HE5.out HM5.out
  refine hK.out _ _ hS4 (fun _ => ?_)
  clear hK K
  refine tr 4 (fun K hK => ?_)
  go_simp
  refine (HLD.out w3.heap.size R tot ts _ HL5.out HT.out).mono ?_
  rintro e w6 ⟨A', c', rfl, hrd, hab, hb⟩
  have HE6 := bkn HE5 hb
  have HM6 := bkn HM5 hb
  have HG6 := bkn HG5 hb
  have HB6 := ben HB5 hb
  have HN6 := bkn HN5 hb
  have HD6 : Hid (Rd w6 w6.heap.size 3 A' n ((deliv l m).flatMap rtV)) := hrd
  have HAG : Hid (∀ b off, A' = some ⟨b, off, none⟩ → b ≠ gr ∧ w.heap.size ≤ b) := fun b off e => by have h1 := hab.1 b off e; have h2 := blk_lt HG5.out; have h3 := HB5.out.size; exact ⟨by omega, by omega⟩
  have HA9 : Hid (∀ b off, A' = some ⟨b, off, none⟩ → 0 < n → b ≠ g9) := fun b off e _ => by have h1 := hab.1 b off e; have h2 := blk_lt HN5.out; omega
  have HNC := Lib.hid hab.2
  clear hrd hab
  clear hb HE5 HM5 HG5 HB5 HN5 HL5
  have hS5 := And.intro HE6.out HM6.out
  refine hK.out _ _ hS5 (fun _ => ?_)
  clear hK K
  refine tk 5 hS5 ?_
  go_simp
  refine tk 6 hS5 ?_
  go_simp
  refine tk 7 hS5 ?_
  go_simp
  refine tk 9 hS5 ?_
  go_simp
  refine tr 10 (fun K hK => ?_)
  obtain ⟨c0, c1, c2, fc0, fc1, fc2, hzc⟩ := three_of HN6.out
  go_simp
  clear c0 c1 c2 fc0 fc1 fc2 hzc
  obtain ⟨wz, hwz⟩ : ∃ W, W = (((w6.setCell ⟨g9, 0, none⟩ (.bool false)).setCell ⟨g9, 1, none⟩ (.string ⟨#[]⟩)).setCell ⟨g9, 2, none⟩ (.string ⟨#[]⟩)) := ⟨_, rfl⟩
  have ho : Only g9 w6 wz := by rw [hwz]; exact (((Only.refl _ _).setC _ _).setC _ _).setC _ _
  have HNz : Hid (Bk g9 (.cells #[.bool false, .string ⟨#[]⟩, .string ⟨#[]⟩] 33) wz) := by rw [hwz]; exact heap_setCell_same _ g9 2 _ _ _ (heap_setCell_same _ g9 1 _ _ _ (heap_setCell_same _ g9 0 _ _ _ HN6.out))
  have HEz := bko HE6 ho (by have := HL_0.out; have := HL_g9.out; omega)
  have HMz := bko HM6 ho (by have := HL_0.out; have := HL_g9.out; omega)
  have HGz := bko HG6 ho (by have := HL_0.out; have := HL_g9.out; omega)
  have HBz := beo HB6 ho (by have := HL_0.out; have := HL_g9.out; omega)
  have HDz : Hid (Rd wz wz.heap.size 3 A' n ((deliv l m).flatMap rtV)) := rd_only9 HD6.out ho HA9.out
  have HGN : Hid (g9 ≠ gr) := (by show g9 ≠ gr; have := HL_0.out; have := HL_g9.out; omega)
  rw [← hwz]
  clear hwz ho HE6 HM6 HG6 HB6 HN6 HD6
  have hSz := And.intro HEz.out HMz.out
  refine hK.out _ _ hSz (fun _ => ?_)
  clear hK K
  refine wpAnyH_done (by kernel_rfl) ?_ _
  (try go_wp2_with fail)
  obtain ⟨w37, hw_w37⟩ : ∃ W, W = wz.drew := ⟨_, rfl⟩
  have HN37 := bkd HNz hw_w37
  have HG37 := bkd HGz hw_w37
  have HB37 := bed HBz hw_w37
  have HD37 : Hid (Rd w37 w37.heap.size 3 A' n ((deliv l m).flatMap rtV)) := by rw [hw_w37]; exact HDz.out
  have hS6 := HN37.out
  refine wp_region_held_drew (S := (Bk g9 (.cells #[.bool false, .string ⟨#[]⟩, .string ⟨#[]⟩] 33))) (by kernel_rfl) (by rw [← hw_w37]; exact hS6) ?_
  rw [← hw_w37]
  intro _
  clear hw_w37 HNz HGz HBz HDz
  refine tk 0 hS6 ?_
  go_simp
  refine tv 1 (.agg #[.bool false, .string ⟨#[]⟩, .string ⟨#[]⟩]) rfl (by intro w' hw'; obtain ⟨k0, k1, k2, fk0, fk1, fk2, hzk⟩ := three_of hw'; go_simp) hS6 ?_
  go_simp
  refine tk 2 hS6 ?_
  go_simp
  refine tr 3 (fun K hK => ?_)
  obtain ⟨c0, c1, c2, fc0, fc1, fc2, hzc⟩ := three_of HG37.out
  go_simp
  clear c0 c1 c2 fc0 fc1 fc2 hzc
  obtain ⟨wy, hwy⟩ : ∃ W, W = (((w37.setCell ⟨gr, 0, none⟩ (.bool false)).setCell ⟨gr, 1, none⟩ (.string ⟨#[]⟩)).setCell ⟨gr, 2, none⟩ (.string ⟨#[]⟩)) := ⟨_, rfl⟩
  have ho : Only gr w37 wy := by rw [hwy]; exact (((Only.refl _ _).setC _ _).setC _ _).setC _ _
  have HGy : Hid (Bk gr (.cells #[.bool false, .string ⟨#[]⟩, .string ⟨#[]⟩] 33) wy) := by rw [hwy]; exact heap_setCell_same _ gr 2 _ _ _ (heap_setCell_same _ gr 1 _ _ _ (heap_setCell_same _ gr 0 _ _ _ HG37.out))
  have HNy := bko HN37 ho HGN.out
  have HBy := beo HB37 ho (by have := HL_0.out; omega)
  have HDy : Hid (Rd wy wy.heap.size 3 A' n ((deliv l m).flatMap rtV)) := rd_only HD37.out ho (fun b off e => (HAG.out b off e).1)
  rw [← hwy]
  clear hwy ho HN37 HG37 HB37 HD37
  have hSy := HNy.out
  refine hK.out _ _ hSy (fun _ => ?_)
  clear hK K
  have hS98 := hSy
  refine tk 4 hS98 ?_
  go_simp
  refine wpAnyH_done (by kernel_rfl) ?_ _
  obtain ⟨c0, c1, c2, fc0, fc1, fc2, hzc⟩ := three_of HGy.out
  go_wp2_with fail
  exact bodyPost_ret (v := .tuple #[.slice A' n c', .agg #[.bool false, .string ⟨#[]⟩, .string ⟨#[]⟩], .int .i64 0]) (by simp [results, Tryz.results10, go_sem, c0, c1, c2]) rfl ⟨A', c', rfl, HDy.out, ⟨fun b off e => (HAG.out b off e).2, HNC.out⟩, HBy.out⟩

end Go.Proofs.YtjlicnhkemfmiaaGreatDoor

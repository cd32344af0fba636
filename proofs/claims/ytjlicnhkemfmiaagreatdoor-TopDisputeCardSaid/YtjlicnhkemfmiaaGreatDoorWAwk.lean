/- insolvencytop.awakeClaims: true. -/
import Derived.Test.YtjlicnhkemfmiaaGreatDoorM22
import Derived.Test.YtjlicnhkemfmiaaGreatDoorSq
import Derived.Test.YtjlicnhkemfmiaaGreatDoorWDlv
import Derived.Test.YtjlicnhkemfmiaaGreatDoorM23
set_option linter.unusedVariables false
set_option linter.unusedSimpArgs false
set_option maxHeartbeats 8000000
set_option maxRecDepth 100000
namespace Go.Proofs.YtjlicnhkemfmiaaGreatDoor
open Go.RowKit

theorem rd_blkW {W : World} {g S n : Nat} {T : TypeId} {cur : Array Value} {xs : List Value} (h : W.heap[g]? = some (.cells cur T (0, 0))) (e : cur.toList = xs) (hl : xs.length = n * S) : Rd W W.heap.size S (some ⟨g, 0, none⟩) n xs := by
 refine ⟨hl, fun _ => ⟨g, 0, rfl, blk_lt h, fun j u hu => ?_⟩⟩
 rw [Nat.zero_add, cell_of_row W g j _ _ (0, 0) h]
 rw [← e] at hu
 simpa using hu
def TwoQ (b off : Nat) (p q : Rat) (W : World) : Prop := Rd W W.heap.size 3 (some ⟨b, off, none⟩) 2 ([p, q].flatMap rtV)
theorem TwoQ.next {b off : Nat} {p q : Rat} {W W' : World} (h : TwoQ b off p q W) (hb : Below W.heap.size W W') : TwoQ b off p q W' := Rd.next h hb
theorem TwoQ.drew {b off : Nat} {p q : Rat} {W : World} (h : TwoQ b off p q W) : TwoQ b off p q W.drew := h
theorem TwoQ.cells {b off : Nat} {p q : Rat} {W : World} (h : TwoQ b off p q W) : W.cell? ⟨b, off, none⟩ = some (.bool (rneg p)) ∧ W.cell? ⟨b, off + 1, none⟩ = some (.string (rnum p)) ∧ W.cell? ⟨b, off + 2, none⟩ = some (.string (rden p)) ∧
 W.cell? ⟨b, off + 3, none⟩ = some (.bool (rneg q)) ∧ W.cell? ⟨b, off + 4, none⟩ = some (.string (rnum q)) ∧ W.cell? ⟨b, off + 5, none⟩ = some (.string (rden q)) := by
 obtain ⟨b', off', e, _, hc⟩ := h.2 (by decide)
 injection e with e
 injection e with e1 e2
 subst e1 e2
 exact ⟨hc 0 _ rfl, hc 1 _ rfl, hc 2 _ rfl, hc 3 _ rfl, hc 4 _ rfl, hc 5 _ rfl⟩
def qN (n : Nat) : Rat := ((n : Int) : Rat)
theorem qN_sz {n : Nat} (h : n < 256) : Sz 8 (qN n) := sz_int (by omega) (by omega)
theorem qN_nn (n : Nat) : 0 ≤ qN n := by
 have e : qN n = rv false n 1 := by rw [rv]; exact (Rat.mkRat_one _).symm
 rw [e]; exact rv_nn n (by decide)
theorem awake_deliv : deliv [⟨2, qN 60⟩, ⟨2, qN 40⟩] (qN 50) = [qN 30, qN 20] := by decide +kernel
theorem intN_calls (n : Nat) (w : World) (hn : n < 9223372036854775808) : Calls Tryz.prog 42 #[.int .i64 (n : Int)] w fun e w' => e = .returned (ratV (qN n)) ∧ Below w.heap.size w w' := pIntQ_calls n w hn
theorem awakeC_calls (w : World) : Calls Tryz.prog 16 #[] w fun e w' => e = .returned (.bool true) ∧ Below w.heap.size w w' := by
 have h60' : ∀ W, Calls Tryz.prog 42 #[.int .i64 60] W fun e w' => e = .returned (ratV (qN 60)) ∧ Below W.heap.size W w' := fun W => intN_calls 60 W (by decide)
 have h40' : ∀ W, Calls Tryz.prog 42 #[.int .i64 40] W fun e w' => e = .returned (ratV (qN 40)) ∧ Below W.heap.size W w' := fun W => intN_calls 40 W (by decide)
 have h50' : ∀ W, Calls Tryz.prog 42 #[.int .i64 50] W fun e w' => e = .returned (ratV (qN 50)) ∧ Below W.heap.size W w' := fun W => intN_calls 50 W (by decide)
 have h30' : ∀ W, Calls Tryz.prog 42 #[.int .i64 30] W fun e w' => e = .returned (ratV (qN 30)) ∧ Below W.heap.size W w' := fun W => intN_calls 30 W (by decide)
 have h20' : ∀ W, Calls Tryz.prog 42 #[.int .i64 20] W fun e w' => e = .returned (ratV (qN 20)) ∧ Below W.heap.size W w' := fun W => intN_calls 20 W (by decide)
 have hD' := fun gs W (h : Bk gs (.cells #[.int .i64 (-1), .int .i64 2, .bool (rneg (qN 60)), .string (rnum (qN 60)), .string (rden (qN 60)), .int .i64 (-1), .int .i64 2, .bool (rneg (qN 40)), .string (rnum (qN 40)), .string (rden (qN 40))] 40) W) => deliver_calls (some ⟨gs, 0, none⟩) 2 2 [⟨2, qN 60⟩, ⟨2, qN 40⟩] (qN 50) 8 8 W rfl (by decide) (rd_blkW h rfl rfl) ⟨fun c hc => by simp at hc; rcases hc with rfl | rfl <;> exact ⟨by decide, qN_nn _⟩⟩ (fun c hc => by simp at hc; rcases hc with rfl | rfl <;> exact qN_sz (by decide)) (qN_sz (by decide)) (qN_nn _) (by decide) (by decide) (by decide) (by decide) (by decide)
 unfold DelPost at hD'
 rw [awake_deliv, ratV_zero] at hD'
 unfold ratV at h60' h40' h50' h30' h20' hD'
 have H60 := Lib.hid h60'
 have H40 := Lib.hid h40'
 have H50 := Lib.hid h50'
 have H30 := Lib.hid h30'
 have H20 := Lib.hid h20'
 have HD := Lib.hid hD'
 clear h60' h40' h50' h30' h20' hD'
 go_enter Tryz.func16, Tryz.ntmps16
 go_wp2_with fail
 have HB0 : Hid (Below w.heap.size w w) := Below.refl _ _
 refine (H60.out _).mono ?_
 rintro e w1 ⟨rfl, hb⟩
 have HB1 := ben HB0 hb
 clear hb HB0
 go_wp2_with fail
 refine (H40.out _).mono ?_
 rintro e w2 ⟨rfl, hb⟩
 have HB2 := ben HB1 hb
 clear hb HB1
 go_wp2_with fail
 obtain ⟨gs, hgs⟩ : ∃ g, g = w2.heap.size := ⟨_, rfl⟩
 obtain ⟨ge, hge⟩ : ∃ g, g = w2.heap.size + 1 := ⟨_, rfl⟩
 (try rw [← hge])
 (try rw [← hgs])
 obtain ⟨w3, hw3⟩ : ∃ W, W = (w2.alloc (.cells #[.int .i64 (-1), .int .i64 2, .bool (rneg (qN 60)), .string (rnum (qN 60)), .string (rden (qN 60)), .int .i64 (-1), .int .i64 2, .bool (rneg (qN 40)), .string (rnum (qN 40)), .string (rden (qN 40))] 40)).alloc (.cells #[.bool false, .string ⟨#[]⟩, .string ⟨#[]⟩, .slice (some ⟨gs, 0, none⟩) 2 2, .slice none 0 0] 37) := ⟨_, rfl⟩
 have HS3 : Hid (Bk gs (.cells #[.int .i64 (-1), .int .i64 2, .bool (rneg (qN 60)), .string (rnum (qN 60)), .string (rden (qN 60)), .int .i64 (-1), .int .i64 2, .bool (rneg (qN 40)), .string (rnum (qN 40)), .string (rden (qN 40))] 40) w3) := by rw [hw3, hgs]; exact blk_alloc (blk_new _ _)
 have HE3 : Hid (Bk ge (.cells #[.bool false, .string ⟨#[]⟩, .string ⟨#[]⟩, .slice (some ⟨gs, 0, none⟩) 2 2, .slice none 0 0] 37) w3) := by rw [hw3, hge]; exact blk_new1 _ _ _
 have HB3 : Hid (Below w.heap.size w w3) := by rw [hw3]; exact (HB2.out.alloc HB2.out.size _).alloc (by have := HB2.out.size; simp; omega) _
 have HL_0 : Hid (w.heap.size ≤ gs ∧ gs < ge) := by rw [hgs, hge]; exact ⟨HB2.out.size, by omega⟩
 rw [← hw3]
 clear hw3 hgs hge HB2
 obtain ⟨w4, hw_w4⟩ : ∃ W, W = w3.drew := ⟨_, rfl⟩
 have HS4 := bkd HS3 hw_w4
 have HE4 := bkd HE3 hw_w4
 have HB4 := bed HB3 hw_w4
 have hS1 := HE4.out
 refine wp_region_held_drew (S := (Bk ge (.cells #[.bool false, .string ⟨#[]⟩, .string ⟨#[]⟩, .slice (some ⟨gs, 0, none⟩) 2 2, .slice none 0 0] 37))) (by kernel_rfl) (by rw [← hw_w4]; exact hS1) ?_
 rw [← hw_w4]
 intro _
 clear hw_w4 HS3 HE3 HB3
 refine tv 0 (estV (some ⟨gs, 0, none⟩) 2 2) rfl (by intro w' hw'; obtain ⟨k0, k1, k2, k3, k4⟩ := EBox.cells (q := ge) hw'; go_simp) hS1 ?_
 go_simp
 refine wpAnyH_ready (rs := [1, 7]) (by kernel_rfl) (by simp) ?_
 refine AllReadyH.cons rfl (fun K hK => ?_) (AllReadyH.cons rfl (fun K hK => ?_) AllReadyH.nil)
 ·
  go_simp
  refine (H50.out _).mono ?_
  rintro e w5 ⟨rfl, hb⟩
  have HS5 := bkn HS4 hb
  have HE5 := bkn HE4 hb
  have HB5 := ben HB4 hb
  clear hb HS4 HE4 HB4
  have hS2 := HE5.out
  refine hK.out _ _ hS2 (fun _ => ?_)
  clear hK K
  refine wpAnyH_ready (rs := [2, 7]) (by kernel_rfl) (by simp) ?_
  refine AllReadyH.cons rfl (fun K hK => ?_) (AllReadyH.cons rfl (fun K hK => ?_) AllReadyH.nil)
  ·
   go_simp
   refine (HD.out gs _ HS5.out).mono ?_
   rintro e w6 ⟨A', c', rfl, hrd, hab, hb⟩
   have HS6 := bkn HS5 hb
   have HE6 := bkn HE5 hb
   have HB6 := ben HB5 hb
   have HD6 : Hid (Rd w6 w6.heap.size 3 A' 2 ([qN 30, qN 20].flatMap rtV)) := hrd
   clear hrd hab
   clear hb HS5 HE5 HB5
   have hS3 := HE6.out
   refine hK.out _ _ hS3 (fun _ => ?_)
   clear hK K
   refine tk 3 hS3 ?_
   go_simp
   refine tk 4 hS3 ?_
   go_simp
   refine tk 5 hS3 ?_
   go_simp
   refine tk 6 hS3 ?_
   go_simp
   refine tr 7 (fun K hK => ?_)
   go_simp
   obtain ⟨g9, hg_g9⟩ : ∃ g, g = w6.heap.size := ⟨_, rfl⟩
   obtain ⟨w7, hw_w7⟩ : ∃ W, W = w6.alloc (.cells #[.bool false, .string ⟨#[]⟩, .string ⟨#[]⟩] 33) := ⟨_, rfl⟩
   have HL_g9 := Lib.hid (And.intro (by have := blk_lt HS6.out; omega : gs < g9) (And.intro (by have := blk_lt HE6.out; omega : ge < g9) ((by have := HB6.out.size; omega : w.heap.size ≤ g9))))
   have HS7 := bka HS6 hw_w7
   have HE7 := bka HE6 hw_w7
   have HB7 := bea HB6 hw_w7
   have HD7 : Hid (Rd w7 w7.heap.size 3 A' 2 ([qN 30, qN 20].flatMap rtV)) := by rw [hw_w7]; exact HD6.out.next (bel_alloc _ _)
   have HN7 : Hid (Bk g9 (.cells #[.bool false, .string ⟨#[]⟩, .string ⟨#[]⟩] 33) w7) := by rw [hw_w7, hg_g9]; exact blk_new _ _
   have HA9 : Hid (∀ b off, A' = some ⟨b, off, none⟩ → 0 < 2 → b ≠ g9) := fun b off e hp => by obtain ⟨b', off', e', hb', _⟩ := HD6.out.2 hp; rw [e] at e'; injection e' with e'; injection e' with e1; subst e1; omega
   rw [← hw_w7]
   (try rw [← hg_g9])
   clear hw_w7 hg_g9 HS6 HE6 HB6 HD6
   have hS4 := HE7.out
   refine hK.out _ _ hS4 (fun _ => ?_)
   clear hK K
   refine tk 8 hS4 ?_
   go_simp
   refine tr 9 (fun K hK => ?_)
   obtain ⟨c0, c1, c2, fc0, fc1, fc2, hzc⟩ := three_of HN7.out
   go_simp
   clear c0 c1 c2 fc0 fc1 fc2 hzc
   obtain ⟨wz, hwz⟩ : ∃ W, W = (((w7.setCell ⟨g9, 0, none⟩ (.bool false)).setCell ⟨g9, 1, none⟩ (.string ⟨#[]⟩)).setCell ⟨g9, 2, none⟩ (.string ⟨#[]⟩)) := ⟨_, rfl⟩
   have ho : Only g9 w7 wz := by rw [hwz]; exact (((Only.refl _ _).setC _ _).setC _ _).setC _ _
   have HEz := bko HE7 ho (by have := HL_0.out; have := HL_g9.out; omega)
   have HBz := beo HB7 ho (by have := HL_0.out; have := HL_g9.out; omega)
   have HDz : Hid (Rd wz wz.heap.size 3 A' 2 ([qN 30, qN 20].flatMap rtV)) := rd_only9 HD7.out ho HA9.out
   rw [← hwz]
   clear hwz ho HS7 HE7 HB7 HD7 HN7
   have hS98 := HEz.out
   refine hK.out _ _ hS98 (fun _ => ?_)
   clear hK K
   refine tk 10 hS98 ?_
   go_simp
   refine wpAnyH_done (by kernel_rfl) ?_ _
   (try go_wp2_with fail)
   obtain ⟨b, off, hA, _, _⟩ := HDz.out.2 (by decide)
   subst hA
   have HTz : Hid (TwoQ b off (qN 30) (qN 20) wz) := HDz.out
   clear HDz
   obtain ⟨w38, hw_w38⟩ : ∃ W, W = wz.drew := ⟨_, rfl⟩
   have HD38 : Hid (TwoQ b off (qN 30) (qN 20) w38) := by rw [hw_w38]; exact HTz.out.drew
   have HB38 := bed HBz hw_w38
   have hS99 : (TwoQ b off (qN 30) (qN 20)) w38 := HD38.out
   refine wp_region_held_drew (S := (TwoQ b off (qN 30) (qN 20))) (by kernel_rfl) (by rw [← hw_w38]; exact hS99) ?_
   rw [← hw_w38]
   intro _
   clear hw_w38 HTz HBz
   refine tk 0 hS99 ?_
   go_simp
   refine tk 1 hS99 ?_
   go_simp
   refine tk 2 hS99 ?_
   go_simp
   refine tk 3 hS99 ?_
   go_simp
   refine tk 4 hS99 ?_
   go_simp
   refine tk 5 hS99 ?_
   go_simp
   refine tk 6 hS99 ?_
   go_simp
   refine tk 7 hS99 ?_
   go_simp
   refine tk 8 hS99 ?_
   go_simp
   refine tk 9 hS99 ?_
   go_simp
   refine tv 10 (.agg #[.bool (rneg (qN 30)), .string (rnum (qN 30)), .string (rden (qN 30))]) rfl (by intro w' hw'; obtain ⟨k0, k1, k2, k3, k4, k5⟩ := TwoQ.cells (W := w') hw'; go_simp) hS99 ?_
   go_simp
   refine tr 11 (fun K hK => ?_)
   go_simp
   refine (H30.out _).mono ?_
   rintro e w39 ⟨rfl, hb⟩
   have HD39 : Hid (TwoQ b off (qN 30) (qN 20) w39) := HD38.out.next hb
   have HB39 := ben HB38 hb
   clear hb HD38 HB38
   have hS100 : (TwoQ b off (qN 30) (qN 20)) w39 := HD39.out
   refine hK.out _ _ hS100 (fun _ => ?_)
   clear hK K
   refine tk 12 hS100 ?_
   go_simp
   refine tk 13 hS100 ?_
   go_simp
   refine tk 14 hS100 ?_
   go_simp
   refine tk 15 hS100 ?_
   go_simp
   refine tk 16 hS100 ?_
   go_simp
   refine tv 17 (.agg #[.bool (rneg (qN 20)), .string (rnum (qN 20)), .string (rden (qN 20))]) rfl (by intro w' hw'; obtain ⟨k0, k1, k2, k3, k4, k5⟩ := TwoQ.cells (W := w') hw'; go_simp) hS100 ?_
   go_simp
   refine tr 18 (fun K hK => ?_)
   go_simp
   refine (H20.out _).mono ?_
   rintro e w40 ⟨rfl, hb⟩
   have HD40 : Hid (TwoQ b off (qN 30) (qN 20) w40) := HD39.out.next hb
   have HB40 := ben HB39 hb
   clear hb HD39 HB39
   have hS101 : (TwoQ b off (qN 30) (qN 20)) w40 := HD40.out
   refine hK.out _ _ hS101 (fun _ => ?_)
   clear hK K
   refine tk 19 hS101 ?_
   go_simp
   refine tk 20 hS101 ?_
   go_simp
   refine tk 21 hS101 ?_
   go_simp
   refine wpAnyH_done (by kernel_rfl) ?_ _
   go_wp2_with fail
   go_ret
   exact ⟨rfl, HB40.out⟩
  ·
   go_simp
   obtain ⟨g9, hg_g9⟩ : ∃ g, g = w5.heap.size := ⟨_, rfl⟩
   obtain ⟨w6, hw_w6⟩ : ∃ W, W = w5.alloc (.cells #[.bool false, .string ⟨#[]⟩, .string ⟨#[]⟩] 33) := ⟨_, rfl⟩
   have HL_g9 := Lib.hid (And.intro (by have := blk_lt HS5.out; omega : gs < g9) (And.intro (by have := blk_lt HE5.out; omega : ge < g9) ((by have := HB5.out.size; omega : w.heap.size ≤ g9))))
   have HS6 := bka HS5 hw_w6
   have HE6 := bka HE5 hw_w6
   have HB6 := bea HB5 hw_w6
   have HN6 : Hid (Bk g9 (.cells #[.bool false, .string ⟨#[]⟩, .string ⟨#[]⟩] 33) w6) := by rw [hw_w6, hg_g9]; exact blk_new _ _
   rw [← hw_w6]
   (try rw [← hg_g9])
   clear hw_w6 hg_g9 HS5 HE5 HB5
   have hS3 := HE6.out
   refine hK.out _ _ hS3 (fun _ => ?_)
   clear hK K
   refine tr 2 (fun K hK => ?_)
   go_simp
   refine (HD.out gs _ HS6.out).mono ?_
   rintro e w7 ⟨A', c', rfl, hrd, hab, hb⟩
   have HS7 := bkn HS6 hb
   have HE7 := bkn HE6 hb
   have HB7 := ben HB6 hb
   have HN7 := bkn HN6 hb
   have HD7 : Hid (Rd w7 w7.heap.size 3 A' 2 ([qN 30, qN 20].flatMap rtV)) := hrd
   have HA9 : Hid (∀ b off, A' = some ⟨b, off, none⟩ → 0 < 2 → b ≠ g9) := fun b off e _ => by have h1 := hab.1 b off e; have h2 := blk_lt HN6.out; omega
   clear hrd hab
   clear hb HS6 HE6 HB6 HN6
   have hS4 := HE7.out
   refine hK.out _ _ hS4 (fun _ => ?_)
   clear hK K
   refine tk 3 hS4 ?_
   go_simp
   refine tk 4 hS4 ?_
   go_simp
   refine tk 5 hS4 ?_
   go_simp
   refine tk 6 hS4 ?_
   go_simp
   refine tk 8 hS4 ?_
   go_simp
   refine tr 9 (fun K hK => ?_)
   obtain ⟨c0, c1, c2, fc0, fc1, fc2, hzc⟩ := three_of HN7.out
   go_simp
   clear c0 c1 c2 fc0 fc1 fc2 hzc
   obtain ⟨wz, hwz⟩ : ∃ W, W = (((w7.setCell ⟨g9, 0, none⟩ (.bool false)).setCell ⟨g9, 1, none⟩ (.string ⟨#[]⟩)).setCell ⟨g9, 2, none⟩ (.string ⟨#[]⟩)) := ⟨_, rfl⟩
   have ho : Only g9 w7 wz := by rw [hwz]; exact (((Only.refl _ _).setC _ _).setC _ _).setC _ _
   have HEz := bko HE7 ho (by have := HL_0.out; have := HL_g9.out; omega)
   have HBz := beo HB7 ho (by have := HL_0.out; have := HL_g9.out; omega)
   have HDz : Hid (Rd wz wz.heap.size 3 A' 2 ([qN 30, qN 20].flatMap rtV)) := rd_only9 HD7.out ho HA9.out
   rw [← hwz]
   clear hwz ho HS7 HE7 HB7 HN7 HD7
   have hS98 := HEz.out
   refine hK.out _ _ hS98 (fun _ => ?_)
   clear hK K
   refine tk 10 hS98 ?_
   go_simp
   refine wpAnyH_done (by kernel_rfl) ?_ _
   (try go_wp2_with fail)
   obtain ⟨b, off, hA, _, _⟩ := HDz.out.2 (by decide)
   subst hA
   have HTz : Hid (TwoQ b off (qN 30) (qN 20) wz) := HDz.out
   clear HDz
   obtain ⟨w38, hw_w38⟩ : ∃ W, W = wz.drew := ⟨_, rfl⟩
   have HD38 : Hid (TwoQ b off (qN 30) (qN 20) w38) := by rw [hw_w38]; exact HTz.out.drew
   have HB38 := bed HBz hw_w38
   have hS99 : (TwoQ b off (qN 30) (qN 20)) w38 := HD38.out
   refine wp_region_held_drew (S := (TwoQ b off (qN 30) (qN 20))) (by kernel_rfl) (by rw [← hw_w38]; exact hS99) ?_
   rw [← hw_w38]
   intro _
   clear hw_w38 HTz HBz
   refine tk 0 hS99 ?_
   go_simp
   refine tk 1 hS99 ?_
   go_simp
   refine tk 2 hS99 ?_
   go_simp
   refine tk 3 hS99 ?_
   go_simp
   refine tk 4 hS99 ?_
   go_simp
   refine tk 5 hS99 ?_
   go_simp
   refine tk 6 hS99 ?_
   go_simp
   refine tk 7 hS99 ?_
   go_simp
   refine tk 8 hS99 ?_
   go_simp
   refine tk 9 hS99 ?_
   go_simp
   refine tv 10 (.agg #[.bool (rneg (qN 30)), .string (rnum (qN 30)), .string (rden (qN 30))]) rfl (by intro w' hw'; obtain ⟨k0, k1, k2, k3, k4, k5⟩ := TwoQ.cells (W := w') hw'; go_simp) hS99 ?_
   go_simp
   refine tr 11 (fun K hK => ?_)
   go_simp
   refine (H30.out _).mono ?_
   rintro e w39 ⟨rfl, hb⟩
   have HD39 : Hid (TwoQ b off (qN 30) (qN 20) w39) := HD38.out.next hb
   have HB39 := ben HB38 hb
   clear hb HD38 HB38
   have hS100 : (TwoQ b off (qN 30) (qN 20)) w39 := HD39.out
   refine hK.out _ _ hS100 (fun _ => ?_)
   clear hK K
   refine tk 12 hS100 ?_
   go_simp
   refine tk 13 hS100 ?_
   go_simp
   refine tk 14 hS100 ?_
   go_simp
   refine tk 15 hS100 ?_
   go_simp
   refine tk 16 hS100 ?_
   go_simp
   refine tv 17 (.agg #[.bool (rneg (qN 20)), .string (rnum (qN 20)), .string (rden (qN 20))]) rfl (by intro w' hw'; obtain ⟨k0, k1, k2, k3, k4, k5⟩ := TwoQ.cells (W := w') hw'; go_simp) hS100 ?_
   go_simp
   refine tr 18 (fun K hK => ?_)
   go_simp
   refine (H20.out _).mono ?_
   rintro e w40 ⟨rfl, hb⟩
   have HD40 : Hid (TwoQ b off (qN 30) (qN 20) w40) := HD39.out.next hb
   have HB40 := ben HB39 hb
   clear hb HD39 HB39
   have hS101 : (TwoQ b off (qN 30) (qN 20)) w40 := HD40.out
   refine hK.out _ _ hS101 (fun _ => ?_)
   clear hK K
   refine tk 19 hS101 ?_
   go_simp
   refine tk 20 hS101 ?_
   go_simp
   refine tk 21 hS101 ?_
   go_simp
   refine wpAnyH_done (by kernel_rfl) ?_ _
   go_wp2_with fail
   go_ret
   exact ⟨rfl, HB40.out⟩
 ·
  go_simp
  obtain ⟨g9, hg_g9⟩ : ∃ g, g = w4.heap.size := ⟨_, rfl⟩
  obtain ⟨w5, hw_w5⟩ : ∃ W, W = w4.alloc (.cells #[.bool false, .string ⟨#[]⟩, .string ⟨#[]⟩] 33) := ⟨_, rfl⟩
  have HL_g9 := Lib.hid (And.intro (by have := blk_lt HS4.out; omega : gs < g9) (And.intro (by have := blk_lt HE4.out; omega : ge < g9) ((by have := HB4.out.size; omega : w.heap.size ≤ g9))))
  have HS5 := bka HS4 hw_w5
  have HE5 := bka HE4 hw_w5
  have HB5 := bea HB4 hw_w5
  have HN5 : Hid (Bk g9 (.cells #[.bool false, .string ⟨#[]⟩, .string ⟨#[]⟩] 33) w5) := by rw [hw_w5, hg_g9]; exact blk_new _ _
  rw [← hw_w5]
  (try rw [← hg_g9])
  clear hw_w5 hg_g9 HS4 HE4 HB4
  have hS2 := HE5.out
  refine hK.out _ _ hS2 (fun _ => ?_)
  clear hK K
  refine tr 1 (fun K hK => ?_)
  go_simp
  refine (H50.out _).mono ?_
  rintro e w6 ⟨rfl, hb⟩
  have HS6 := bkn HS5 hb
  have HE6 := bkn HE5 hb
  have HB6 := ben HB5 hb
  have HN6 := bkn HN5 hb
  clear hb HS5 HE5 HB5 HN5
  have hS3 := HE6.out
  refine hK.out _ _ hS3 (fun _ => ?_)
  clear hK K
  refine tr 2 (fun K hK => ?_)
  go_simp
  refine (HD.out gs _ HS6.out).mono ?_
  rintro e w7 ⟨A', c', rfl, hrd, hab, hb⟩
  have HS7 := bkn HS6 hb
  have HE7 := bkn HE6 hb
  have HB7 := ben HB6 hb
  have HN7 := bkn HN6 hb
  have HD7 : Hid (Rd w7 w7.heap.size 3 A' 2 ([qN 30, qN 20].flatMap rtV)) := hrd
  have HA9 : Hid (∀ b off, A' = some ⟨b, off, none⟩ → 0 < 2 → b ≠ g9) := fun b off e _ => by have h1 := hab.1 b off e; have h2 := blk_lt HN6.out; omega
  clear hrd hab
  clear hb HS6 HE6 HB6 HN6
  have hS4 := HE7.out
  refine hK.out _ _ hS4 (fun _ => ?_)
  clear hK K
  refine tk 3 hS4 ?_
  go_simp
  refine tk 4 hS4 ?_
  go_simp
  refine tk 5 hS4 ?_
  go_simp
  refine tk 6 hS4 ?_
  go_simp
  refine tk 8 hS4 ?_
  go_simp
  refine tr 9 (fun K hK => ?_)
  obtain ⟨c0, c1, c2, fc0, fc1, fc2, hzc⟩ := three_of HN7.out
  go_simp
  clear c0 c1 c2 fc0 fc1 fc2 hzc
  obtain ⟨wz, hwz⟩ : ∃ W, W = (((w7.setCell ⟨g9, 0, none⟩ (.bool false)).setCell ⟨g9, 1, none⟩ (.string ⟨#[]⟩)).setCell ⟨g9, 2, none⟩ (.string ⟨#[]⟩)) := ⟨_, rfl⟩
  have ho : Only g9 w7 wz := by rw [hwz]; exact (((Only.refl _ _).setC _ _).setC _ _).setC _ _
  have HEz := bko HE7 ho (by have := HL_0.out; have := HL_g9.out; omega)
  have HBz := beo HB7 ho (by have := HL_0.out; have := HL_g9.out; omega)
  have HDz : Hid (Rd wz wz.heap.size 3 A' 2 ([qN 30, qN 20].flatMap rtV)) := rd_only9 HD7.out ho HA9.out
  rw [← hwz]
  clear hwz ho HS7 HE7 HB7 HN7 HD7
  have hS98 := HEz.out
  refine hK.out _ _ hS98 (fun _ => ?_)
  clear hK K
  refine tk 10 hS98 ?_
  go_simp
  refine wpAnyH_done (by kernel_rfl) ?_ _
  (try go_wp2_with fail)
  obtain ⟨b, off, hA, _, _⟩ := HDz.out.2 (by decide)
  subst hA
  have HTz : Hid (TwoQ b off (qN 30) (qN 20) wz) := HDz.out
  clear HDz
  obtain ⟨w38, hw_w38⟩ : ∃ W, W = wz.drew := ⟨_, rfl⟩
  have HD38 : Hid (TwoQ b off (qN 30) (qN 20) w38) := by rw [hw_w38]; exact HTz.out.drew
  have HB38 := bed HBz hw_w38
  have hS99 : (TwoQ b off (qN 30) (qN 20)) w38 := HD38.out
  refine wp_region_held_drew (S := (TwoQ b off (qN 30) (qN 20))) (by kernel_rfl) (by rw [← hw_w38]; exact hS99) ?_
  rw [← hw_w38]
  intro _
  clear hw_w38 HTz HBz
  refine tk 0 hS99 ?_
  go_simp
  refine tk 1 hS99 ?_
  go_simp
  refine tk 2 hS99 ?_
  go_simp
  refine tk 3 hS99 ?_
  go_simp
  refine tk 4 hS99 ?_
  go_simp
  refine tk 5 hS99 ?_
  go_simp
  refine tk 6 hS99 ?_
  go_simp
  refine tk 7 hS99 ?_
  go_simp
  refine tk 8 hS99 ?_
  go_simp
  refine tk 9 hS99 ?_
  go_simp
  refine tv 10 (.agg #[.bool (rneg (qN 30)), .string (rnum (qN 30)), .string (rden (qN 30))]) rfl (by intro w' hw'; obtain ⟨k0, k1, k2, k3, k4, k5⟩ := TwoQ.cells (W := w') hw'; go_simp) hS99 ?_
  go_simp
  refine tr 11 (fun K hK => ?_)
  go_simp
  refine (H30.out _).mono ?_
  rintro e w39 ⟨rfl, hb⟩
  have HD39 : Hid (TwoQ b off (qN 30) (qN 20) w39) := HD38.out.next hb
  have HB39 := ben HB38 hb
  clear hb HD38 HB38
  have hS100 : (TwoQ b off (qN 30) (qN 20)) w39 := HD39.out
  refine hK.out _ _ hS100 (fun _ => ?_)
  clear hK K
  refine tk 12 hS100 ?_
  go_simp
  refine tk 13 hS100 ?_
  go_simp
  refine tk 14 hS100 ?_
  go_simp
  refine tk 15 hS100 ?_
  go_simp
  refine tk 16 hS100 ?_
  go_simp
  refine tv 17 (.agg #[.bool (rneg (qN 20)), .string (rnum (qN 20)), .string (rden (qN 20))]) rfl (by intro w' hw'; obtain ⟨k0, k1, k2, k3, k4, k5⟩ := TwoQ.cells (W := w') hw'; go_simp) hS100 ?_
  go_simp
  refine tr 18 (fun K hK => ?_)
  go_simp
  refine (H20.out _).mono ?_
  rintro e w40 ⟨rfl, hb⟩
  have HD40 : Hid (TwoQ b off (qN 30) (qN 20) w40) := HD39.out.next hb
  have HB40 := ben HB39 hb
  clear hb HD39 HB39
  have hS101 : (TwoQ b off (qN 30) (qN 20)) w40 := HD40.out
  refine hK.out _ _ hS101 (fun _ => ?_)
  clear hK K
  refine tk 19 hS101 ?_
  go_simp
  refine tk 20 hS101 ?_
  go_simp
  refine tk 21 hS101 ?_
  go_simp
  refine wpAnyH_done (by kernel_rfl) ?_ _
  go_wp2_with fail
  go_ret
  exact ⟨rfl, HB40.out⟩

end Go.Proofs.YtjlicnhkemfmiaaGreatDoor

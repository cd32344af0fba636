/- rational.Multiply, negate, Subtract, Make, Divide, Int over numbers' own structs. -/
import Derived.Test.YtjlicnhkemfmiaaGreatDoorSq
import Derived.Test.YtjlicnhkemfmiaaGreatDoorM25
import Derived.Deep.RegionHeld3
set_option linter.unusedVariables false
set_option linter.unusedSimpArgs false
set_option maxHeartbeats 8000000
set_option maxRecDepth 100000
namespace Go.Proofs.YtjlicnhkemfmiaaGreatDoor
open Go.RowKit

theorem sz_fitsQ {q : Rat} {k : Nat} (h : Sz k q) : (fqOf q).fits k := by
 refine ⟨?_, ?_⟩
 ·
  show (ncan q.num.natAbs).size ≤ k
  rw [ncan_size]; exact canon_len_le h.1
 ·
  show (rden q).size ≤ k
  unfold rden
  split
  ·
   exact Nat.zero_le _
  ·
   rw [ncan_size]; exact canon_len_le h.2
theorem bel_set3Q {B : Nat} {w W : World} (h : Below B w W) (g : Nat) (hg : B ≤ g) (a b c : Value) : Below B w (((W.setCell ⟨g, 0, none⟩ a).setCell ⟨g, 1, none⟩ b).setCell ⟨g, 2, none⟩ c) := ((h.setCell hg _).setCell hg _).setCell hg _
theorem blk_set3Q {W : World} {g r : Nat} {o : Obj} (h : W.heap[r]? = some o) (hne : g ≠ r) (a b c : Value) : (((W.setCell ⟨g, 0, none⟩ a).setCell ⟨g, 1, none⟩ b).setCell ⟨g, 2, none⟩ c).heap[r]? = some o :=
 (heap_setCell_other _ ⟨g, 2, none⟩ r _ (Ne.symm hne)).trans ((heap_setCell_other _ ⟨g, 1, none⟩ r _ (Ne.symm hne)).trans ((heap_setCell_other _ ⟨g, 0, none⟩ r _ (Ne.symm hne)).trans h))
theorem TwoR.setAQ {ga gb : Nat} {sa sb : Bool} {na da nb db : ByteArray} {W : World} (h : TwoR ga gb sa na da sb nb db W) (hne : ga ≠ gb) (s : Bool) (n d : ByteArray) : TwoR ga gb s n d sb nb db (((W.setCell ⟨ga, 0, none⟩ (.bool s)).setCell ⟨ga, 1, none⟩ (.string n)).setCell ⟨ga, 2, none⟩ (.string d)) := by
 have e0 := heap_setCell_same W ga 0 _ _ (.bool s) h.1
 have e1 := heap_setCell_same _ ga 1 _ _ (.string n) e0
 have e2 := heap_setCell_same _ ga 2 _ _ (.string d) e1
 exact ⟨e2, blk_set3Q h.2 hne _ _ _⟩
theorem TwoR.setBQ {ga gb : Nat} {sa sb : Bool} {na da nb db : ByteArray} {W : World} (h : TwoR ga gb sa na da sb nb db W) (hne : ga ≠ gb) (s : Bool) (n d : ByteArray) : TwoR ga gb sa na da s n d (((W.setCell ⟨gb, 0, none⟩ (.bool s)).setCell ⟨gb, 1, none⟩ (.string n)).setCell ⟨gb, 2, none⟩ (.string d)) := by
 have e0 := heap_setCell_same W gb 0 _ _ (.bool s) h.2
 have e1 := heap_setCell_same _ gb 1 _ _ (.string n) e0
 have e2 := heap_setCell_same _ gb 2 _ _ (.string d) e1
 exact ⟨blk_set3Q h.1 (Ne.symm hne) _ _ _, e2⟩
theorem pCleanQ_calls (q : Rat) (k : Nat) (w : World) (h : Sz k q) (hk : k ≤ 100000) : Calls Tryz.prog 31 #[ratV q] w fun e w' => e = .returned (ratV q) ∧ Below w.heap.size w w' := by
 have := pClean_calls (fqOf q) k w (sz_fitsQ h) (by omega)
 rw [fixR_of, fqOf_val] at this
 exact this
theorem pSignQ_calls (q : Rat) (k : Nat) (w : World) (h : Sz k q) (hk : k ≤ 100000) : Calls Tryz.prog 13 #[ratV q] w fun e w' => e = .returned (.int .i64 (sgnR q)) ∧ Below w.heap.size w w' := by
 have := pSign_calls (fqOf q) k w (sz_fitsQ h) (by omega)
 rw [fixR_of, fqOf_val] at this
 exact this
theorem pAddQ_calls (p q : Rat) (k m : Nat) (w : World) (hp : Sz k p) (hq : Sz m q) (k0 : 0 < k) (m0 : 0 < m) (hkm : k + m ≤ 99999) : Calls Tryz.prog 11 #[ratV p, ratV q] w fun e w' => e = .returned (ratV (p + q)) ∧ Below w.heap.size w w' := by
 have := pAddF_calls (fqOf p) (fqOf q) k m w (sz_fitsQ hp) (sz_fitsQ hq) k0 m0 hkm
 rw [fixR_of, fixR_of, fqOf_val, fqOf_val] at this
 exact this

theorem pMulQ_calls (p q : Rat) (k m : Nat) (w : World) (hp : Sz k p) (hq : Sz m q) (hkm : k + m ≤ 99999) :
 Calls Tryz.prog 20 #[ratV p, ratV q] w fun e w' => e = .returned (ratV (p * q)) ∧ Below w.heap.size w w' := by
 have HCA' := fun w => pCleanQ_calls p k w hp (by omega)
 have HCB' := fun w => pCleanQ_calls q m w hq (by omega)
 have HDA' := fun W => pDen_calls p W
 have HDB' := fun W => pDen_calls q W
 have HM1' := fun W => op_mul (Sm.of_num hp (by omega)) (Sm.of_num hq (by omega)) rfl W
 have HM2' := fun W => op_mul (Sm.of_den hp (by omega)) (Sm.of_den hq (by omega)) rfl W
 have HR' := fun W => pReduced_calls (rneg p != rneg q) (ncan (p.num.natAbs * q.num.natAbs)) (ncan (p.den * q.den)) (p.num.natAbs * q.num.natAbs) (p.den * q.den) W (Sm.can (pow_mul_lt hp.1 hq.1) (by omega)) (Sm.can (pow_mul_lt hp.2 hq.2) (by omega)) (Nat.mul_ne_zero p.den_nz q.den_nz) (p * q) (rv_mul p q).symm
 obtain ⟨v1, v2, v3, hv⟩ : ∃ v1 v2 v3, ratV (p * q) = .agg #[.bool v1, .string v2, .string v3] := ⟨_, _, _, rfl⟩
 rw [hv] at HR' ⊢
 obtain ⟨sa, hsa⟩ : ∃ x, x = rneg p := ⟨_, rfl⟩
 obtain ⟨na, hna⟩ : ∃ x, x = rnum p := ⟨_, rfl⟩
 obtain ⟨da, hda⟩ : ∃ x, x = rden p := ⟨_, rfl⟩
 have hrp : ratV p = .agg #[.bool sa, .string na, .string da] := by rw [ratV, hsa, hna, hda]
 obtain ⟨sb, hsb⟩ : ∃ x, x = rneg q := ⟨_, rfl⟩
 obtain ⟨nb, hnb⟩ : ∃ x, x = rnum q := ⟨_, rfl⟩
 obtain ⟨db, hdb⟩ : ∃ x, x = rden q := ⟨_, rfl⟩
 have hrq : ratV q = .agg #[.bool sb, .string nb, .string db] := by rw [ratV, hsb, hnb, hdb]
 rw [← hna, ← hnb] at HM1'
 rw [← hsa, ← hsb] at HR'
 rw [hrp] at HCA' HDA' ⊢
 rw [hrq] at HCB' HDB' ⊢
 obtain ⟨sx, hsx⟩ : ∃ x, x = ncan p.den := ⟨_, rfl⟩
 obtain ⟨sy, hsy⟩ : ∃ x, x = ncan q.den := ⟨_, rfl⟩
 obtain ⟨xx, hxx⟩ : ∃ x, x = ncan (p.num.natAbs * q.num.natAbs) := ⟨_, rfl⟩
 obtain ⟨yy, hyy⟩ : ∃ x, x = ncan (p.den * q.den) := ⟨_, rfl⟩
 rw [← hsx] at HDA' HM2'
 rw [← hsy] at HDB' HM2'
 rw [← hxx] at HM1' HR'
 rw [← hyy] at HM2' HR'
 have HCA := Lib.hid HCA'
 have HCB := Lib.hid HCB'
 have HDA := Lib.hid HDA'
 have HDB := Lib.hid HDB'
 have HM1 := Lib.hid HM1'
 have HM2 := Lib.hid HM2'
 have HR := Lib.hid HR'
 clear HCA' HCB' HDA' HDB' HM1' HM2' HR' hv hrp hrq hsa hna hda hsb hnb hdb hsx hsy hxx hyy hp hq hkm
 go_enter Tryz.func20, Tryz.ntmps20
 go_upto_region 1 with fail
 obtain ⟨W0, hW0⟩ : ∃ W0, W0 = ((w.alloc (.cells #[.bool sa, .string na, .string da] 33)).alloc (.cells #[.bool sb, .string nb, .string db] 33)).alloc (.cells #[.bool false, .string ⟨#[]⟩, .string ⟨#[]⟩] 33) := ⟨_, rfl⟩
 have hS0 : TwoR w.heap.size (w.heap.size + 1) sa na da sb nb db W0 := by
  rw [hW0]
  refine ⟨blk_alloc (blk_alloc (blk_new _ _)), blk_alloc ?_⟩
  have := blk_new (w.alloc (.cells #[.bool sa, .string na, .string da] 33)) (.cells #[.bool sb, .string nb, .string db] 33)
  rw [World.size_alloc] at this
  exact this
 have HB0 : Hid (Below w.heap.size w W0) := by rw [hW0]; exact ((bel_alloc _ _).alloc (by simp) _).alloc (by simp <;> omega) _
 have HG0 : Hid (W0.heap[w.heap.size + 1 + 1]? = some (.cells #[.bool false, .string ⟨#[]⟩, .string ⟨#[]⟩] 33)) := by
  have := blk_new ((w.alloc (.cells #[.bool sa, .string na, .string da] 33)).alloc (.cells #[.bool sb, .string nb, .string db] 33)) (.cells #[.bool false, .string ⟨#[]⟩, .string ⟨#[]⟩] 33)
  rw [World.size_alloc, World.size_alloc] at this
  rw [hW0]
  exact this
 rw [← hW0]
 clear hW0
 obtain ⟨W1, hW1⟩ : ∃ W, W = W0.drew := ⟨_, rfl⟩
 have hS1 : TwoR w.heap.size (w.heap.size + 1) sa na da sb nb db W1 := by rw [hW1]; exact hS0
 have HB1 := bed HB0 hW1
 have HG1 : Hid (W1.heap[w.heap.size + 1 + 1]? = some (.cells #[.bool false, .string ⟨#[]⟩, .string ⟨#[]⟩] 33)) := by rw [hW1]; exact HG0.out
 refine wp_region_held_drew (S := TwoR w.heap.size (w.heap.size + 1) sa na da sb nb db) (by kernel_rfl) (by rw [← hW1]; exact hS1) ?_
 rw [← hW1]
 intro _
 clear hW1 hS0 HB0 HG0
 refine tv 0 (.agg #[.bool sa, .string na, .string da]) rfl (by intro w' hw'; obtain ⟨k0, k1, k2, k3, k4, k5⟩ := hw'.three; go_simp) hS1 ?_
 go_simp
 refine tv 2 (.agg #[.bool sb, .string nb, .string db]) rfl (by intro w' hw'; obtain ⟨k0, k1, k2, k3, k4, k5⟩ := hw'.three; go_simp) hS1 ?_
 go_simp
 refine tr 1 (fun K hK => ?_)
 go_simp
 refine (HCA.out _).mono ?_
 rintro e W2 ⟨rfl, hb⟩
 have hS2 := hS1.next hb
 have HB2 := ben HB1 hb
 have HG2 := Lib.hid (blk_next HG1.out hb)
 clear hb hS1 HB1 HG1
 refine hK.out _ _ hS2 (fun _ => ?_)
 clear hK K
 refine tr 3 (fun K hK => ?_)
 go_simp
 refine (HCB.out _).mono ?_
 rintro e W3 ⟨rfl, hb⟩
 have hS3 := hS2.next hb
 have HB3 := ben HB2 hb
 have HG3 := Lib.hid (blk_next HG2.out hb)
 clear hb hS2 HB2 HG2
 refine hK.out _ _ hS3 (fun _ => ?_)
 clear hK K
 refine tr 4 (fun K hK => ?_)
 obtain ⟨c0, c1, c2, f0, f1, f2, hz⟩ := three_of hS3.1
 go_simp
 obtain ⟨W4, hW4⟩ : ∃ W, W = ((W3.setCell ⟨w.heap.size, 0, none⟩ (.bool sa)).setCell ⟨w.heap.size, 1, none⟩ (.string na)).setCell ⟨w.heap.size, 2, none⟩ (.string da) := ⟨_, rfl⟩
 have hS4 : TwoR w.heap.size (w.heap.size + 1) sa na da sb nb db W4 := by rw [hW4]; exact hS3.setAQ (by omega) sa na da
 have HB4 : Hid (Below w.heap.size w W4) := by rw [hW4]; exact bel_set3Q HB3.out w.heap.size (Nat.le_refl _) (.bool sa) (.string na) (.string da)
 have HG4 : Hid (W4.heap[w.heap.size + 1 + 1]? = some (.cells #[.bool false, .string ⟨#[]⟩, .string ⟨#[]⟩] 33)) := by rw [hW4]; exact blk_set3Q HG3.out (by omega) _ _ _
 rw [← hW4]
 clear c0 c1 c2 f0 f1 f2 hz hW4 hS3 HB3 HG3
 refine hK.out _ _ hS4 (fun _ => ?_)
 clear hK K
 refine tr 5 (fun K hK => ?_)
 obtain ⟨c0, c1, c2, f0, f1, f2, hz⟩ := three_of hS4.2
 go_simp
 obtain ⟨W5, hW5⟩ : ∃ W, W = ((W4.setCell ⟨w.heap.size + 1, 0, none⟩ (.bool sb)).setCell ⟨w.heap.size + 1, 1, none⟩ (.string nb)).setCell ⟨w.heap.size + 1, 2, none⟩ (.string db) := ⟨_, rfl⟩
 have hS5 : TwoR w.heap.size (w.heap.size + 1) sa na da sb nb db W5 := by rw [hW5]; exact hS4.setBQ (by omega) sb nb db
 have HB5 : Hid (Below w.heap.size w W5) := by rw [hW5]; exact bel_set3Q HB4.out (w.heap.size + 1) (by omega) (.bool sb) (.string nb) (.string db)
 have HG5 : Hid (W5.heap[w.heap.size + 1 + 1]? = some (.cells #[.bool false, .string ⟨#[]⟩, .string ⟨#[]⟩] 33)) := by rw [hW5]; exact blk_set3Q HG4.out (by omega) _ _ _
 rw [← hW5]
 clear c0 c1 c2 f0 f1 f2 hz hW5 hS4 HB4 HG4
 refine hK.out _ _ hS5 (fun _ => ?_)
 clear hK K
 refine wpAnyH_done (by kernel_rfl) ?_ _
 go_wp2_with fail
 obtain ⟨W6, hW6⟩ : ∃ W, W = W5.drew := ⟨_, rfl⟩
 have hS6 : TwoR w.heap.size (w.heap.size + 1) sa na da sb nb db W6 := by rw [hW6]; exact hS5
 have HB6 := bed HB5 hW6
 have HG6 : Hid (W6.heap[w.heap.size + 1 + 1]? = some (.cells #[.bool false, .string ⟨#[]⟩, .string ⟨#[]⟩] 33)) := by rw [hW6]; exact HG5.out
 refine wp_region_held_drew (S := TwoR w.heap.size (w.heap.size + 1) sa na da sb nb db) (by kernel_rfl) (by rw [← hW6]; exact hS6) ?_
 rw [← hW6]
 intro _
 clear hW6 hS5 HB5 HG5
 refine tk 0 hS6 ?_
 go_simp
 refine tv 1 (.bool sa) rfl (by intro w' hw'; obtain ⟨k0, k1, k2, k3, k4, k5⟩ := hw'.three; go_simp) hS6 ?_
 go_simp
 refine tk 2 hS6 ?_
 go_simp
 refine tv 3 (.bool sb) rfl (by intro w' hw'; obtain ⟨k0, k1, k2, k3, k4, k5⟩ := hw'.three; go_simp) hS6 ?_
 go_simp
 refine tk 4 hS6 ?_
 go_simp
 refine tk 5 hS6 ?_
 go_simp
 refine tv 6 (.string na) rfl (by intro w' hw'; obtain ⟨k0, k1, k2, k3, k4, k5⟩ := hw'.three; go_simp) hS6 ?_
 go_simp
 refine tk 7 hS6 ?_
 go_simp
 refine tv 8 (.string nb) rfl (by intro w' hw'; obtain ⟨k0, k1, k2, k3, k4, k5⟩ := hw'.three; go_simp) hS6 ?_
 go_simp
 refine tv 10 (.agg #[.bool sa, .string na, .string da]) rfl (by intro w' hw'; obtain ⟨k0, k1, k2, k3, k4, k5⟩ := hw'.three; go_simp) hS6 ?_
 go_simp
 refine tv 12 (.agg #[.bool sb, .string nb, .string db]) rfl (by intro w' hw'; obtain ⟨k0, k1, k2, k3, k4, k5⟩ := hw'.three; go_simp) hS6 ?_
 go_simp
 refine tr 9 (fun K hK => ?_)
 go_simp
 refine (HM1.out _).mono ?_
 rintro e W7 ⟨rfl, hb⟩
 have hS7 := hS6.next hb
 have HB7 := ben HB6 hb
 have HG7 := Lib.hid (blk_next HG6.out hb)
 clear hb hS6 HB6 HG6
 refine hK.out _ _ hS7 (fun _ => ?_)
 clear hK K
 refine tr 11 (fun K hK => ?_)
 go_simp
 refine (HDA.out _).mono ?_
 rintro e W8 ⟨rfl, hb⟩
 have hS8 := hS7.next hb
 have HB8 := ben HB7 hb
 have HG8 := Lib.hid (blk_next HG7.out hb)
 clear hb hS7 HB7 HG7
 refine hK.out _ _ hS8 (fun _ => ?_)
 clear hK K
 refine tr 13 (fun K hK => ?_)
 go_simp
 refine (HDB.out _).mono ?_
 rintro e W9 ⟨rfl, hb⟩
 have hS9 := hS8.next hb
 have HB9 := ben HB8 hb
 have HG9 := Lib.hid (blk_next HG8.out hb)
 clear hb hS8 HB8 HG8
 refine hK.out _ _ hS9 (fun _ => ?_)
 clear hK K
 refine tr 14 (fun K hK => ?_)
 go_simp
 refine (HM2.out _).mono ?_
 rintro e W10 ⟨rfl, hb⟩
 have hS10 := hS9.next hb
 have HB10 := ben HB9 hb
 have HG10 := Lib.hid (blk_next HG9.out hb)
 clear hb hS9 HB9 HG9
 refine hK.out _ _ hS10 (fun _ => ?_)
 clear hK K
 refine tr 15 (fun K hK => ?_)
 go_simp
 refine (HR.out _).mono ?_
 rintro e W11 ⟨rfl, hb⟩
 have hS11 := hS10.next hb
 have HB11 := ben HB10 hb
 have HG11 := Lib.hid (blk_next HG10.out hb)
 clear hb hS10 HB10 HG10
 refine hK.out _ _ hS11 (fun _ => ?_)
 clear hK K
 refine tr 16 (fun K hK => ?_)
 obtain ⟨c0, c1, c2, f0, f1, f2, hz⟩ := three_of HG11.out
 go_simp
 refine hK.out _ _ (((hS11.setCell (by omega) (by omega)).setCell (by omega) (by omega)).setCell (by omega) (by omega)) (fun _ => ?_)
 clear hK K
 refine wpAnyH_done (by kernel_rfl) ?_ _
 go_wp2_with fail
 exact bodyPost_ret (v := .agg #[.bool v1, .string v2, .string v3]) (by simp [results, Tryz.results20, go_sem, c0, c1, c2]) rfl ⟨rfl, ((HB11.out.setCell (by simp <;> omega) _).setCell (by simp <;> omega) _).setCell (by simp <;> omega) _⟩

theorem pNegQ_calls (q : Rat) (w : World) : Calls Tryz.prog 32 #[ratV q] w fun e w' => e = .returned (ratV (-q)) ∧ Below w.heap.size w w' := by
 by_cases h0 : q = 0
 ·
  have hz : ratV (-q) = .agg #[.bool false, .string ⟨#[]⟩, .string ⟨#[]⟩] := by rw [h0, show (-0 : Rat) = 0 by decide, ratV_zero]
  rw [hz, h0, ratV_zero]
  clear hz h0
  go_enter Tryz.func32, Tryz.ntmps32
  go_wp2_with fail
  exact bodyPost_ret (v := .agg #[.bool false, .string ⟨#[]⟩, .string ⟨#[]⟩]) (by simp [results, Tryz.results32, go_sem]) rfl ⟨rfl, ((Below.refl _ _).alloc (Nat.le_refl _) _).alloc (by simp) _⟩
 ·
  have hne := rnum_isEmpty h0
  have hn : rneg (-q) = !rneg q := by
   rw [rneg_neg]; simp only [decide_eq_true (natAbs_ne h0), Bool.and_true]
  have hv : ratV (-q) = .agg #[.bool (!rneg q), .string (rnum q), .string (rden q)] := by rw [ratV, (neg_fields q).1, (neg_fields q).2, hn]
  rw [hv]
  unfold ratV
  obtain ⟨sa, hsa⟩ : ∃ x, x = rneg q := ⟨_, rfl⟩
  obtain ⟨na, hna⟩ : ∃ x, x = rnum q := ⟨_, rfl⟩
  obtain ⟨da, hda⟩ : ∃ x, x = rden q := ⟨_, rfl⟩
  rw [← hna] at hne
  rw [← hsa, ← hda, ← hna]
  clear hn hv h0 hsa hda hna
  cases sa
  ·
   go_enter Tryz.func32, Tryz.ntmps32
   go_wp2_with fail
   exact bodyPost_ret (v := .agg #[.bool true, .string na, .string da]) (by simp [results, Tryz.results32, go_sem]) rfl ⟨rfl, ((Below.refl _ _).alloc (Nat.le_refl _) _).alloc (by simp) _⟩
  ·
   go_enter Tryz.func32, Tryz.ntmps32
   go_wp2_with fail
   exact bodyPost_ret (v := .agg #[.bool false, .string na, .string da]) (by simp [results, Tryz.results32, go_sem]) rfl ⟨rfl, ((Below.refl _ _).alloc (Nat.le_refl _) _).alloc (by simp) _⟩

theorem pSubQ_calls (p q : Rat) (k m : Nat) (w : World) (hp : Sz k p) (hq : Sz m q) (hkm : k + m ≤ 99999) :
 Calls Tryz.prog 8 #[ratV p, ratV q] w fun e w' => e = .returned (ratV (p - q)) ∧ Below w.heap.size w w' := by
 have HCA' := fun w => pCleanQ_calls p k w hp (by omega)
 have HCB' := fun w => pCleanQ_calls q m w hq (by omega)
 have HN' := fun w => pNegQ_calls q w
 have HD' := fun w => pAdd_calls p (-q) k m w hp hq.neg hkm
 rw [← Rat.sub_eq_add_neg] at HD'
 obtain ⟨v1, v2, v3, hv⟩ : ∃ v1 v2 v3, ratV (p - q) = .agg #[.bool v1, .string v2, .string v3] := ⟨_, _, _, rfl⟩
 rw [hv] at HD' ⊢
 obtain ⟨vn, hvn⟩ : ∃ v, v = ratV (-q) := ⟨_, rfl⟩
 rw [← hvn] at HN' HD'
 obtain ⟨sa, hsa⟩ : ∃ x, x = rneg p := ⟨_, rfl⟩
 obtain ⟨na, hna⟩ : ∃ x, x = rnum p := ⟨_, rfl⟩
 obtain ⟨da, hda⟩ : ∃ x, x = rden p := ⟨_, rfl⟩
 have hrp : ratV p = .agg #[.bool sa, .string na, .string da] := by rw [ratV, hsa, hna, hda]
 obtain ⟨sb, hsb⟩ : ∃ x, x = rneg q := ⟨_, rfl⟩
 obtain ⟨nb, hnb⟩ : ∃ x, x = rnum q := ⟨_, rfl⟩
 obtain ⟨db, hdb⟩ : ∃ x, x = rden q := ⟨_, rfl⟩
 have hrq : ratV q = .agg #[.bool sb, .string nb, .string db] := by rw [ratV, hsb, hnb, hdb]
 rw [hrp] at HCA' HD' ⊢
 rw [hrq] at HCB' HN' ⊢
 have HCA := Lib.hid HCA'
 have HCB := Lib.hid HCB'
 have HN := Lib.hid HN'
 have HD := Lib.hid HD'
 clear HCA' HCB' HN' HD' hv hvn hrp hrq hsa hna hda hsb hnb hdb hp hq hkm
 go_enter Tryz.func8, Tryz.ntmps8
 go_upto_region 1 with fail
 obtain ⟨W0, hW0⟩ : ∃ W0, W0 = ((w.alloc (.cells #[.bool sa, .string na, .string da] 33)).alloc (.cells #[.bool sb, .string nb, .string db] 33)).alloc (.cells #[.bool false, .string ⟨#[]⟩, .string ⟨#[]⟩] 33) := ⟨_, rfl⟩
 have hS0 : TwoR w.heap.size (w.heap.size + 1) sa na da sb nb db W0 := by
  rw [hW0]
  refine ⟨blk_alloc (blk_alloc (blk_new _ _)), blk_alloc ?_⟩
  have := blk_new (w.alloc (.cells #[.bool sa, .string na, .string da] 33)) (.cells #[.bool sb, .string nb, .string db] 33)
  rw [World.size_alloc] at this
  exact this
 have HB0 : Hid (Below w.heap.size w W0) := by rw [hW0]; exact ((bel_alloc _ _).alloc (by simp) _).alloc (by simp <;> omega) _
 have HG0 : Hid (W0.heap[w.heap.size + 1 + 1]? = some (.cells #[.bool false, .string ⟨#[]⟩, .string ⟨#[]⟩] 33)) := by
  have := blk_new ((w.alloc (.cells #[.bool sa, .string na, .string da] 33)).alloc (.cells #[.bool sb, .string nb, .string db] 33)) (.cells #[.bool false, .string ⟨#[]⟩, .string ⟨#[]⟩] 33)
  rw [World.size_alloc, World.size_alloc] at this
  rw [hW0]
  exact this
 rw [← hW0]
 clear hW0
 obtain ⟨W1, hW1⟩ : ∃ W, W = W0.drew := ⟨_, rfl⟩
 have hS1 : TwoR w.heap.size (w.heap.size + 1) sa na da sb nb db W1 := by rw [hW1]; exact hS0
 have HB1 := bed HB0 hW1
 have HG1 : Hid (W1.heap[w.heap.size + 1 + 1]? = some (.cells #[.bool false, .string ⟨#[]⟩, .string ⟨#[]⟩] 33)) := by rw [hW1]; exact HG0.out
 refine wp_region_held_drew (S := TwoR w.heap.size (w.heap.size + 1) sa na da sb nb db) (by kernel_rfl) (by rw [← hW1]; exact hS1) ?_
 rw [← hW1]
 intro _
 clear hW1 hS0 HB0 HG0
 refine tv 0 (.agg #[.bool sa, .string na, .string da]) rfl (by intro w' hw'; obtain ⟨k0, k1, k2, k3, k4, k5⟩ := hw'.three; go_simp) hS1 ?_
 go_simp
 refine tv 2 (.agg #[.bool sb, .string nb, .string db]) rfl (by intro w' hw'; obtain ⟨k0, k1, k2, k3, k4, k5⟩ := hw'.three; go_simp) hS1 ?_
 go_simp
 refine tr 1 (fun K hK => ?_)
 go_simp
 refine (HCA.out _).mono ?_
 rintro e W2 ⟨rfl, hb⟩
 have hS2 := hS1.next hb
 have HB2 := ben HB1 hb
 have HG2 := Lib.hid (blk_next HG1.out hb)
 clear hb hS1 HB1 HG1
 refine hK.out _ _ hS2 (fun _ => ?_)
 clear hK K
 refine tr 3 (fun K hK => ?_)
 go_simp
 refine (HCB.out _).mono ?_
 rintro e W3 ⟨rfl, hb⟩
 have hS3 := hS2.next hb
 have HB3 := ben HB2 hb
 have HG3 := Lib.hid (blk_next HG2.out hb)
 clear hb hS2 HB2 HG2
 refine hK.out _ _ hS3 (fun _ => ?_)
 clear hK K
 refine tr 4 (fun K hK => ?_)
 go_simp
 refine (HN.out _).mono ?_
 rintro e W4 ⟨rfl, hb⟩
 have hS4 := hS3.next hb
 have HB4 := ben HB3 hb
 have HG4 := Lib.hid (blk_next HG3.out hb)
 clear hb hS3 HB3 HG3
 refine hK.out _ _ hS4 (fun _ => ?_)
 clear hK K
 refine tr 5 (fun K hK => ?_)
 go_simp
 refine (HD.out _).mono ?_
 rintro e W5 ⟨rfl, hb⟩
 have hS5 := hS4.next hb
 have HB5 := ben HB4 hb
 have HG5 := Lib.hid (blk_next HG4.out hb)
 clear hb hS4 HB4 HG4
 refine hK.out _ _ hS5 (fun _ => ?_)
 clear hK K
 refine tr 6 (fun K hK => ?_)
 obtain ⟨c0, c1, c2, f0, f1, f2, hz⟩ := three_of HG5.out
 go_simp
 refine hK.out _ _ (((hS5.setCell (by omega) (by omega)).setCell (by omega) (by omega)).setCell (by omega) (by omega)) (fun _ => ?_)
 clear hK K
 refine wpAnyH_done (by kernel_rfl) ?_ _
 go_wp2_with fail
 exact bodyPost_ret (v := .agg #[.bool v1, .string v2, .string v3]) (by simp [results, Tryz.results8, go_sem, c0, c1, c2]) rfl ⟨rfl, ((HB5.out.setCell (by simp <;> omega) _).setCell (by simp <;> omega) _).setCell (by simp <;> omega) _⟩

theorem pMakeQ_calls (neg : Bool) (num den : ByteArray) (x y : Nat) (w : World) (hx : Sm num x) (hy : Sm den y) (hy0 : y ≠ 0) (q : Rat) (hq : rv neg x y = q) :
 Calls Tryz.prog 155 #[.bool neg, .string num, .string den] w fun e w' => e = .returned (.tuple #[ratV q, .bool true]) ∧ Below w.heap.size w w' := by
 have N1' := fun w => op_norm hy w
 obtain ⟨sy, hsy⟩ : ∃ s, s = ncan y := ⟨_, rfl⟩
 have ty : sy.toList.isEmpty = false := by rw [hsy]; exact ncan_isEmpty' hy0
 rw [← hsy] at N1'
 have N1 := Lib.hid N1'
 have HR := Lib.hid (fun w => pReduced_calls neg num den x y w hx hy hy0 q hq)
 clear N1' hsy hx hy hy0 hq
 obtain ⟨v1, v2, v3, hv⟩ : ∃ v1 v2 v3, ratV q = .agg #[.bool v1, .string v2, .string v3] := ⟨_, _, _, rfl⟩
 rw [hv] at HR ⊢
 clear hv
 go_enter Tryz.func155, Tryz.ntmps155
 go_wp2_with fail
 refine (N1.out _).mono ?_
 rintro e w1 ⟨rfl, rfl⟩
 go_wp2_with fail
 refine (HR.out _).mono ?_
 rintro e w2 ⟨rfl, hb⟩
 have HB2 : Hid (Below w.heap.size w w2) := (bel_alloc _ _).trans (hb.mono (by simp))
 obtain ⟨c0, c1, c2, f0, f1, f2, hz⟩ := three_of (blk_next (blk_new w (.cells #[.bool false, .string ⟨#[]⟩, .string ⟨#[]⟩] 33)) hb)
 clear hb
 go_wp2_with fail
 exact bodyPost_ret (v := .tuple #[.agg #[.bool v1, .string v2, .string v3], .bool true]) (by simp [results, Tryz.results155, go_sem, c0, c1, c2]) rfl ⟨rfl, ((HB2.out.setCell (by simp <;> omega) _).setCell (by simp <;> omega) _).setCell (by simp <;> omega) _⟩

theorem pDivQ_calls (p q : Rat) (k m : Nat) (w : World) (hp : Sz k p) (hq : Sz m q) (hq0 : q ≠ 0) (hkm : k + m ≤ 99999) :
 Calls Tryz.prog 123 #[ratV p, ratV q] w fun e w' => e = .returned (.tuple #[ratV (p / q), .bool true]) ∧ Below w.heap.size w w' := by
 have hn0 := natAbs_ne hq0
 have HCA' := fun w => pCleanQ_calls p k w hp (by omega)
 have HCB' := fun w => pCleanQ_calls q m w hq (by omega)
 have HDA' := fun W => pDen_calls p W
 have HDB' := fun W => pDen_calls q W
 have HM1' := fun W => op_mul (Sm.of_num hp (by omega)) (Sm.of_den hq (by omega)) rfl W
 have HM2' := fun W => op_mul (Sm.of_den hp (by omega)) (Sm.of_num hq (by omega)) rfl W
 have HR' := fun W => pMakeQ_calls (rneg p != rneg q) (ncan (p.num.natAbs * q.den)) (ncan (p.den * q.num.natAbs)) (p.num.natAbs * q.den) (p.den * q.num.natAbs) W (Sm.can (pow_mul_lt hp.1 hq.2) (by omega)) (Sm.can (pow_mul_lt hp.2 hq.1) (by omega)) (Nat.mul_ne_zero p.den_nz hn0) (p / q) (rv_div p q hq0).symm
 obtain ⟨v1, v2, v3, hv⟩ : ∃ v1 v2 v3, ratV (p / q) = .agg #[.bool v1, .string v2, .string v3] := ⟨_, _, _, rfl⟩
 rw [hv] at HR' ⊢
 obtain ⟨sa, hsa⟩ : ∃ x, x = rneg p := ⟨_, rfl⟩
 obtain ⟨na, hna⟩ : ∃ x, x = rnum p := ⟨_, rfl⟩
 obtain ⟨da, hda⟩ : ∃ x, x = rden p := ⟨_, rfl⟩
 have hrp : ratV p = .agg #[.bool sa, .string na, .string da] := by rw [ratV, hsa, hna, hda]
 obtain ⟨sb, hsb⟩ : ∃ x, x = rneg q := ⟨_, rfl⟩
 obtain ⟨nb, hnb⟩ : ∃ x, x = rnum q := ⟨_, rfl⟩
 obtain ⟨db, hdb⟩ : ∃ x, x = rden q := ⟨_, rfl⟩
 have hrq : ratV q = .agg #[.bool sb, .string nb, .string db] := by rw [ratV, hsb, hnb, hdb]
 rw [← hna] at HM1'
 rw [← hnb] at HM2'
 rw [← hsa, ← hsb] at HR'
 rw [hrp] at HCA' HDA' ⊢
 rw [hrq] at HCB' HDB' ⊢
 obtain ⟨sx, hsx⟩ : ∃ x, x = ncan p.den := ⟨_, rfl⟩
 obtain ⟨sy, hsy⟩ : ∃ x, x = ncan q.den := ⟨_, rfl⟩
 obtain ⟨xx, hxx⟩ : ∃ x, x = ncan (p.num.natAbs * q.den) := ⟨_, rfl⟩
 obtain ⟨yy, hyy⟩ : ∃ x, x = ncan (p.den * q.num.natAbs) := ⟨_, rfl⟩
 rw [← hsx] at HDA' HM2'
 rw [← hsy] at HDB' HM1'
 rw [← hxx] at HM1' HR'
 rw [← hyy] at HM2' HR'
 have HCA := Lib.hid HCA'
 have HCB := Lib.hid HCB'
 have HDA := Lib.hid HDA'
 have HDB := Lib.hid HDB'
 have HM1 := Lib.hid HM1'
 have HM2 := Lib.hid HM2'
 have HR := Lib.hid HR'
 clear HCA' HCB' HDA' HDB' HM1' HM2' HR' hv hrp hrq hsa hna hda hsb hnb hdb hsx hsy hxx hyy hp hq hq0 hn0 hkm
 go_enter Tryz.func123, Tryz.ntmps123
 go_upto_region 1 with fail
 obtain ⟨W0, hW0⟩ : ∃ W0, W0 = ((w.alloc (.cells #[.bool sa, .string na, .string da] 33)).alloc (.cells #[.bool sb, .string nb, .string db] 33)).alloc (.cells #[.bool false, .string ⟨#[]⟩, .string ⟨#[]⟩] 33) := ⟨_, rfl⟩
 have hS0 : TwoR w.heap.size (w.heap.size + 1) sa na da sb nb db W0 := by
  rw [hW0]
  refine ⟨blk_alloc (blk_alloc (blk_new _ _)), blk_alloc ?_⟩
  have := blk_new (w.alloc (.cells #[.bool sa, .string na, .string da] 33)) (.cells #[.bool sb, .string nb, .string db] 33)
  rw [World.size_alloc] at this
  exact this
 have HB0 : Hid (Below w.heap.size w W0) := by rw [hW0]; exact ((bel_alloc _ _).alloc (by simp) _).alloc (by simp <;> omega) _
 have HG0 : Hid (W0.heap[w.heap.size + 1 + 1]? = some (.cells #[.bool false, .string ⟨#[]⟩, .string ⟨#[]⟩] 33)) := by
  have := blk_new ((w.alloc (.cells #[.bool sa, .string na, .string da] 33)).alloc (.cells #[.bool sb, .string nb, .string db] 33)) (.cells #[.bool false, .string ⟨#[]⟩, .string ⟨#[]⟩] 33)
  rw [World.size_alloc, World.size_alloc] at this
  rw [hW0]
  exact this
 rw [← hW0]
 clear hW0
 obtain ⟨W1, hW1⟩ : ∃ W, W = W0.drew := ⟨_, rfl⟩
 have hS1 : TwoR w.heap.size (w.heap.size + 1) sa na da sb nb db W1 := by rw [hW1]; exact hS0
 have HB1 := bed HB0 hW1
 have HG1 : Hid (W1.heap[w.heap.size + 1 + 1]? = some (.cells #[.bool false, .string ⟨#[]⟩, .string ⟨#[]⟩] 33)) := by rw [hW1]; exact HG0.out
 refine wp_region_held_drew (S := TwoR w.heap.size (w.heap.size + 1) sa na da sb nb db) (by kernel_rfl) (by rw [← hW1]; exact hS1) ?_
 rw [← hW1]
 intro _
 clear hW1 hS0 HB0 HG0
 refine tv 0 (.agg #[.bool sa, .string na, .string da]) rfl (by intro w' hw'; obtain ⟨k0, k1, k2, k3, k4, k5⟩ := hw'.three; go_simp) hS1 ?_
 go_simp
 refine tv 2 (.agg #[.bool sb, .string nb, .string db]) rfl (by intro w' hw'; obtain ⟨k0, k1, k2, k3, k4, k5⟩ := hw'.three; go_simp) hS1 ?_
 go_simp
 refine tr 1 (fun K hK => ?_)
 go_simp
 refine (HCA.out _).mono ?_
 rintro e W2 ⟨rfl, hb⟩
 have hS2 := hS1.next hb
 have HB2 := ben HB1 hb
 have HG2 := Lib.hid (blk_next HG1.out hb)
 clear hb hS1 HB1 HG1
 refine hK.out _ _ hS2 (fun _ => ?_)
 clear hK K
 refine tr 3 (fun K hK => ?_)
 go_simp
 refine (HCB.out _).mono ?_
 rintro e W3 ⟨rfl, hb⟩
 have hS3 := hS2.next hb
 have HB3 := ben HB2 hb
 have HG3 := Lib.hid (blk_next HG2.out hb)
 clear hb hS2 HB2 HG2
 refine hK.out _ _ hS3 (fun _ => ?_)
 clear hK K
 refine tr 4 (fun K hK => ?_)
 obtain ⟨c0, c1, c2, f0, f1, f2, hz⟩ := three_of hS3.1
 go_simp
 obtain ⟨W4, hW4⟩ : ∃ W, W = ((W3.setCell ⟨w.heap.size, 0, none⟩ (.bool sa)).setCell ⟨w.heap.size, 1, none⟩ (.string na)).setCell ⟨w.heap.size, 2, none⟩ (.string da) := ⟨_, rfl⟩
 have hS4 : TwoR w.heap.size (w.heap.size + 1) sa na da sb nb db W4 := by rw [hW4]; exact hS3.setAQ (by omega) sa na da
 have HB4 : Hid (Below w.heap.size w W4) := by rw [hW4]; exact bel_set3Q HB3.out w.heap.size (Nat.le_refl _) (.bool sa) (.string na) (.string da)
 have HG4 : Hid (W4.heap[w.heap.size + 1 + 1]? = some (.cells #[.bool false, .string ⟨#[]⟩, .string ⟨#[]⟩] 33)) := by rw [hW4]; exact blk_set3Q HG3.out (by omega) _ _ _
 rw [← hW4]
 clear c0 c1 c2 f0 f1 f2 hz hW4 hS3 HB3 HG3
 refine hK.out _ _ hS4 (fun _ => ?_)
 clear hK K
 refine tr 5 (fun K hK => ?_)
 obtain ⟨c0, c1, c2, f0, f1, f2, hz⟩ := three_of hS4.2
 go_simp
 obtain ⟨W5, hW5⟩ : ∃ W, W = ((W4.setCell ⟨w.heap.size + 1, 0, none⟩ (.bool sb)).setCell ⟨w.heap.size + 1, 1, none⟩ (.string nb)).setCell ⟨w.heap.size + 1, 2, none⟩ (.string db) := ⟨_, rfl⟩
 have hS5 : TwoR w.heap.size (w.heap.size + 1) sa na da sb nb db W5 := by rw [hW5]; exact hS4.setBQ (by omega) sb nb db
 have HB5 : Hid (Below w.heap.size w W5) := by rw [hW5]; exact bel_set3Q HB4.out (w.heap.size + 1) (by omega) (.bool sb) (.string nb) (.string db)
 have HG5 : Hid (W5.heap[w.heap.size + 1 + 1]? = some (.cells #[.bool false, .string ⟨#[]⟩, .string ⟨#[]⟩] 33)) := by rw [hW5]; exact blk_set3Q HG4.out (by omega) _ _ _
 rw [← hW5]
 clear c0 c1 c2 f0 f1 f2 hz hW5 hS4 HB4 HG4
 refine hK.out _ _ hS5 (fun _ => ?_)
 clear hK K
 refine wpAnyH_done (by kernel_rfl) ?_ _
 go_wp2_with fail
 obtain ⟨W6, hW6⟩ : ∃ W, W = W5.drew := ⟨_, rfl⟩
 have hS6 : TwoR w.heap.size (w.heap.size + 1) sa na da sb nb db W6 := by rw [hW6]; exact hS5
 have HB6 := bed HB5 hW6
 have HG6 : Hid (W6.heap[w.heap.size + 1 + 1]? = some (.cells #[.bool false, .string ⟨#[]⟩, .string ⟨#[]⟩] 33)) := by rw [hW6]; exact HG5.out
 refine wp_region_held_drew (S := TwoR w.heap.size (w.heap.size + 1) sa na da sb nb db) (by kernel_rfl) (by rw [← hW6]; exact hS6) ?_
 rw [← hW6]
 intro _
 clear hW6 hS5 HB5 HG5
 refine tk 0 hS6 ?_
 go_simp
 refine tv 1 (.bool sa) rfl (by intro w' hw'; obtain ⟨k0, k1, k2, k3, k4, k5⟩ := hw'.three; go_simp) hS6 ?_
 go_simp
 refine tk 2 hS6 ?_
 go_simp
 refine tv 3 (.bool sb) rfl (by intro w' hw'; obtain ⟨k0, k1, k2, k3, k4, k5⟩ := hw'.three; go_simp) hS6 ?_
 go_simp
 refine tk 4 hS6 ?_
 go_simp
 refine tk 5 hS6 ?_
 go_simp
 refine tv 6 (.string na) rfl (by intro w' hw'; obtain ⟨k0, k1, k2, k3, k4, k5⟩ := hw'.three; go_simp) hS6 ?_
 go_simp
 refine tv 7 (.agg #[.bool sb, .string nb, .string db]) rfl (by intro w' hw'; obtain ⟨k0, k1, k2, k3, k4, k5⟩ := hw'.three; go_simp) hS6 ?_
 go_simp
 refine tv 10 (.agg #[.bool sa, .string na, .string da]) rfl (by intro w' hw'; obtain ⟨k0, k1, k2, k3, k4, k5⟩ := hw'.three; go_simp) hS6 ?_
 go_simp
 refine tk 12 hS6 ?_
 go_simp
 refine tv 13 (.string nb) rfl (by intro w' hw'; obtain ⟨k0, k1, k2, k3, k4, k5⟩ := hw'.three; go_simp) hS6 ?_
 go_simp
 refine tr 8 (fun K hK => ?_)
 go_simp
 refine (HDB.out _).mono ?_
 rintro e W7 ⟨rfl, hb⟩
 have hS7 := hS6.next hb
 have HB7 := ben HB6 hb
 have HG7 := Lib.hid (blk_next HG6.out hb)
 clear hb hS6 HB6 HG6
 refine hK.out _ _ hS7 (fun _ => ?_)
 clear hK K
 refine tr 9 (fun K hK => ?_)
 go_simp
 refine (HM1.out _).mono ?_
 rintro e W8 ⟨rfl, hb⟩
 have hS8 := hS7.next hb
 have HB8 := ben HB7 hb
 have HG8 := Lib.hid (blk_next HG7.out hb)
 clear hb hS7 HB7 HG7
 refine hK.out _ _ hS8 (fun _ => ?_)
 clear hK K
 refine tr 11 (fun K hK => ?_)
 go_simp
 refine (HDA.out _).mono ?_
 rintro e W9 ⟨rfl, hb⟩
 have hS9 := hS8.next hb
 have HB9 := ben HB8 hb
 have HG9 := Lib.hid (blk_next HG8.out hb)
 clear hb hS8 HB8 HG8
 refine hK.out _ _ hS9 (fun _ => ?_)
 clear hK K
 refine tr 14 (fun K hK => ?_)
 go_simp
 refine (HM2.out _).mono ?_
 rintro e W10 ⟨rfl, hb⟩
 have hS10 := hS9.next hb
 have HB10 := ben HB9 hb
 have HG10 := Lib.hid (blk_next HG9.out hb)
 clear hb hS9 HB9 HG9
 refine hK.out _ _ hS10 (fun _ => ?_)
 clear hK K
 refine tr 15 (fun K hK => ?_)
 go_simp
 refine (HR.out _).mono ?_
 rintro e W11 ⟨rfl, hb⟩
 have hS11 := hS10.next hb
 have HB11 := ben HB10 hb
 have HG11 := Lib.hid (blk_next HG10.out hb)
 clear hb hS10 HB10 HG10
 refine hK.out _ _ hS11 (fun _ => ?_)
 clear hK K
 refine tk 16 hS11 ?_
 go_simp
 refine tk 17 hS11 ?_
 go_simp
 refine tr 18 (fun K hK => ?_)
 obtain ⟨c0, c1, c2, f0, f1, f2, hz⟩ := three_of HG11.out
 go_simp
 refine hK.out _ _ (((hS11.setCell (by omega) (by omega)).setCell (by omega) (by omega)).setCell (by omega) (by omega)) (fun _ => ?_)
 clear hK K
 refine tr 19 (fun K hK => ?_)
 go_simp
 refine hK.out _ _ (((hS11.setCell (by omega) (by omega)).setCell (by omega) (by omega)).setCell (by omega) (by omega)) (fun _ => ?_)
 clear hK K
 refine wpAnyH_done (by kernel_rfl) ?_ _
 go_wp2_with fail
 exact bodyPost_ret (v := .tuple #[.agg #[.bool v1, .string v2, .string v3], .bool true]) (by simp [results, Tryz.results123, go_sem, c0, c1, c2]) rfl ⟨rfl, ((HB11.out.setCell (by simp <;> omega) _).setCell (by simp <;> omega) _).setCell (by simp <;> omega) _⟩

theorem pIntQ_calls (n : Nat) (w : World) (hn : n < 9223372036854775808) : Calls Tryz.prog 42 #[.int .i64 (n : Int)] w fun e w' => e = .returned (ratV ((n : Int) : Rat)) ∧ Below w.heap.size w w' := by
 have h0 : decide ((n : Int) < 0) = false := decide_eq_false (by omega)
 have HM' := fun w => pMag_calls n w hn
 have hs : Sm (ncan n) n := Sm.can (k := 8) (by omega) (by omega)
 have HR' := fun w => pReduced_calls false (ncan n) ⟨#[1]⟩ n 1 w hs sm_one (by decide) ((n : Int) : Rat) (by rw [rv]; exact Rat.mkRat_one _)
 obtain ⟨s, hs⟩ : ∃ s, s = ncan n := ⟨_, rfl⟩
 rw [← hs] at HM' HR'
 have HM := Lib.hid HM'
 have HR := Lib.hid HR'
 clear HM' HR' hs
 obtain ⟨v1, v2, v3, hv⟩ : ∃ v1 v2 v3, ratV ((n : Int) : Rat) = .agg #[.bool v1, .string v2, .string v3] := ⟨_, _, _, rfl⟩
 rw [hv] at HR ⊢
 clear hv
 go_enter Tryz.func42, Tryz.ntmps42
 go_wp2_with fail
 refine (HM.out _).mono ?_
 rintro e w1 ⟨rfl, hb⟩
 have HB1 : Hid (Below w.heap.size w w1) := (bel_alloc _ _).trans (hb.mono (by simp))
 have HG1 := Lib.hid (blk_next (blk_new w (.cells #[.bool false, .string ⟨#[]⟩, .string ⟨#[]⟩] 33)) hb)
 clear hb
 go_wp2_with fail
 refine (HR.out _).mono ?_
 rintro e w2 ⟨rfl, hb⟩
 have HB2 := ben HB1 hb
 obtain ⟨c0, c1, c2, f0, f1, f2, hz⟩ := three_of (blk_next HG1.out hb)
 clear hb
 go_wp2_with fail
 exact bodyPost_ret (v := .agg #[.bool v1, .string v2, .string v3]) (by simp [results, Tryz.results42, go_sem, c0, c1, c2]) rfl ⟨rfl, ((HB2.out.setCell (by simp <;> omega) _).setCell (by simp <;> omega) _).setCell (by simp <;> omega) _⟩

end Go.Proofs.YtjlicnhkemfmiaaGreatDoor

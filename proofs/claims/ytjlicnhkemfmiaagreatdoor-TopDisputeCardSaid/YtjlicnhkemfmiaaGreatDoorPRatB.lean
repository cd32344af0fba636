/- rational.add, Add. -/
import Derived.Test.YtjlicnhkemfmiaaGreatDoorSq
import Derived.Test.YtjlicnhkemfmiaaGreatDoorPRatA
import Derived.Deep.RegionHeld3
set_option linter.unusedVariables false
set_option linter.unusedSimpArgs false
set_option maxHeartbeats 8000000
set_option maxRecDepth 100000
namespace Go.Proofs.YtjlicnhkemfmiaaGreatDoor
open Go.RowKit

theorem rden_eq {a b : Rat} (h : a.den = b.den) : rden a = rden b := by unfold rden; rw [h]
theorem add_eqS {a b : Rat} (h : rneg a = rneg b) (hd : a.den = b.den) : rv (rneg a) (a.num.natAbs + b.num.natAbs) a.den = a + b := by
 rw [rv_add_same h, ← hd, ← Nat.add_mul, rv_common _ _ a.den_nz]
theorem add_eqG {a b : Rat} (h : rneg a ≠ rneg b) (hd : a.den = b.den) (hge : b.num.natAbs ≤ a.num.natAbs) : rv (rneg a) (a.num.natAbs - b.num.natAbs) a.den = a + b := by
 rw [rv_add_ge h (by rw [← hd]; exact Nat.mul_le_mul_right _ hge), ← hd, ← Nat.sub_mul, rv_common _ _ a.den_nz]
theorem add_eqL {a b : Rat} (h : rneg a ≠ rneg b) (hd : a.den = b.den) (hlt : a.num.natAbs < b.num.natAbs) : rv (rneg b) (b.num.natAbs - a.num.natAbs) a.den = a + b := by
 rw [rv_add_lt h (by rw [← hd]; exact Nat.mul_lt_mul_of_pos_right hlt (Nat.pos_of_ne_zero a.den_nz)), ← hd, ← Nat.sub_mul, rv_common _ _ a.den_nz]
theorem Sm.of_num {q : Rat} {k : Nat} (h : Sz k q) (hk : k ≤ 100000) : Sm (rnum q) q.num.natAbs := Sm.can h.1 hk
theorem Sm.of_den {q : Rat} {k : Nat} (h : Sz k q) (hk : k ≤ 100000) : Sm (ncan q.den) q.den := Sm.can h.2 hk

theorem pAdd_eq_same (a b : Rat) (k m : Nat) (w : World) (ha : Sz k a) (hb : Sz m b) (hkm : k + m ≤ 99999) (he : a.den = b.den) (hs : rneg a = rneg b) :
 Calls Tryz.prog 30 #[ratV a, ratV b] w fun e w' => e = .returned (ratV (a + b)) ∧ Below w.heap.size w w' := by
 have HDA' := fun W => pDen_calls a W
 have hde := rden_eq he
 have sNa := Sm.of_num ha (by omega)
 have sNb := Sm.of_num hb (by omega)
 have sDa := Sm.of_den ha (by omega)
 have sDb := Sm.of_den hb (by omega)
 have sX := sNa
 have sY := sNb
 have sD := sDa
 have hD0 := a.den_nz
 have hp : 256 ^ k ≤ 256 ^ (k + m) := Nat.pow_le_pow_right (by decide) (by omega)
 have hp2 : 256 ^ m ≤ 256 ^ (k + m) := Nat.pow_le_pow_right (by decide) (by omega)
 have hlX : a.num.natAbs < 256 ^ (k + m) := Nat.lt_of_lt_of_le ha.1 hp
 have hlY : b.num.natAbs < 256 ^ (k + m) := Nat.lt_of_lt_of_le hb.1 hp2
 have sZ : Sm (ncan (a.num.natAbs + b.num.natAbs)) (a.num.natAbs + b.num.natAbs) := Sm.can (pow_add_lt hlX hlY) (by omega)
 have HOP' := fun W => op_add sX sY rfl W
 have HRED' := fun W => pReduced_calls (rneg a) (ncan (a.num.natAbs + b.num.natAbs)) (ncan a.den) (a.num.natAbs + b.num.natAbs) (a.den) W sZ sD hD0 (a + b) (add_eqS hs he)
 obtain ⟨v1, v2, v3, hv⟩ : ∃ v1 v2 v3, ratV (a + b) = .agg #[.bool v1, .string v2, .string v3] := ⟨_, _, _, rfl⟩
 obtain ⟨sa, hsa⟩ : ∃ x, x = rneg a := ⟨_, rfl⟩
 obtain ⟨na, hna⟩ : ∃ x, x = rnum a := ⟨_, rfl⟩
 obtain ⟨da, hda⟩ : ∃ x, x = rden a := ⟨_, rfl⟩
 obtain ⟨nb, hnb⟩ : ∃ x, x = rnum b := ⟨_, rfl⟩
 have hsb2 : sa = rneg b := by rw [hsa, hs]
 have hdb2 : da = rden b := by rw [hda, hde]
 have hra : ratV a = .agg #[.bool sa, .string na, .string da] := by rw [ratV, hsa, hna, hda]
 have hrb : ratV b = .agg #[.bool sa, .string nb, .string da] := by rw [ratV, hsb2, hnb, hdb2]
 obtain ⟨sA, hsA⟩ : ∃ x, x = ncan a.den := ⟨_, rfl⟩
 obtain ⟨sB, hsB⟩ : ∃ x, x = ncan b.den := ⟨_, rfl⟩
 obtain ⟨zs, hzs⟩ : ∃ x, x = ncan (a.num.natAbs + b.num.natAbs) := ⟨_, rfl⟩
 rw [← hsA, hra] at HDA'
 rw [← hna, ← hnb, ← hzs] at HOP'
 rw [← hzs, ← hsA, ← hsa] at HRED'
 rw [hra, hrb]
 have HV := Lib.hid hv
 obtain ⟨R, hR⟩ : ∃ R, R = ratV (a + b) := ⟨_, rfl⟩
 rw [← hR] at HRED' HV ⊢
 have HDA := Lib.hid HDA'
 have HRED := Lib.hid HRED'
 have HOP := Lib.hid HOP'
 clear HDA' HRED' HOP'
 clear hv hR hra hrb hsa hna hda hnb hsb2 hdb2 hsA hsB hzs sZ sX sY sD sNa sNb sDa sDb hlX hlY hD0 ha hb hkm he hs hde hp hp2
 go_enter Tryz.func30, Tryz.ntmps30
 go_upto_region 1 with fail
 obtain ⟨W0, hW0⟩ : ∃ W0, W0 = ((w.alloc (.cells #[.bool sa, .string na, .string da] 33)).alloc (.cells #[.bool sa, .string nb, .string da] 33)).alloc (.cells #[.bool false, .string ⟨#[]⟩, .string ⟨#[]⟩] 33) := ⟨_, rfl⟩
 have hS0 : TwoR w.heap.size (w.heap.size + 1) sa na da sa nb da W0 := by
  rw [hW0]
  refine ⟨blk_alloc (blk_alloc (blk_new _ _)), blk_alloc ?_⟩
  have := blk_new (w.alloc (.cells #[.bool sa, .string na, .string da] 33)) (.cells #[.bool sa, .string nb, .string da] 33)
  rw [World.size_alloc] at this
  exact this
 have HB0 : Hid (Below w.heap.size w W0) := by rw [hW0]; exact ((bel_alloc _ _).alloc (by simp) _).alloc (by simp <;> omega) _
 have HG0 : Hid (W0.heap[w.heap.size + 1 + 1]? = some (.cells #[.bool false, .string ⟨#[]⟩, .string ⟨#[]⟩] 33)) := by
  have := blk_new ((w.alloc (.cells #[.bool sa, .string na, .string da] 33)).alloc (.cells #[.bool sa, .string nb, .string da] 33)) (.cells #[.bool false, .string ⟨#[]⟩, .string ⟨#[]⟩] 33)
  rw [World.size_alloc, World.size_alloc] at this
  rw [hW0]
  exact this
 rw [← hW0]
 clear hW0
 obtain ⟨W1, hW1⟩ : ∃ W, W = W0.drew := ⟨_, rfl⟩
 have hS1 : TwoR w.heap.size (w.heap.size + 1) sa na da sa nb da W1 := by rw [hW1]; exact hS0
 have HB1 := bed HB0 hW1
 have HG1 : Hid (W1.heap[w.heap.size + 1 + 1]? = some (.cells #[.bool false, .string ⟨#[]⟩, .string ⟨#[]⟩] 33)) := by rw [hW1]; exact HG0.out
 refine wp_region_held_drew (S := TwoR w.heap.size (w.heap.size + 1) sa na da sa nb da) (by kernel_rfl) (by rw [← hW1]; exact hS1) ?_
 rw [← hW1]
 intro _
 clear hW1 hS0 HB0 HG0
 refine tk 0 hS1 ?_
 go_simp
 refine tv 1 (.string na) rfl (by intro w' hw'; obtain ⟨k0, k1, k2, k3, k4, k5⟩ := hw'.three; go_simp) hS1 ?_
 go_simp
 refine tk 2 hS1 ?_
 go_simp
 refine tv 3 (.string nb) rfl (by intro w' hw'; obtain ⟨k0, k1, k2, k3, k4, k5⟩ := hw'.three; go_simp) hS1 ?_
 go_simp
 refine tk 4 hS1 ?_
 go_simp
 refine tk 5 hS1 ?_
 go_simp
 refine tk 6 hS1 ?_
 go_simp
 refine wpAnyH_done (by kernel_rfl) ?_ _
 obtain ⟨k0, k1, k2, k3, k4, k5⟩ := hS1.three
 go_wp2_with fail
 clear k0 k1 k2 k3 k4 k5
 refine (HDA.out _).mono ?_
 rintro e W2 ⟨rfl, hb⟩
 have hS2 := hS1.next hb
 have HB2 := ben HB1 hb
 have HG2 := Lib.hid (blk_next HG1.out hb)
 clear hb hS1 HB1 HG1
 obtain ⟨k0, k1, k2, k3, k4, k5⟩ := hS2.three
 go_wp2_with fail
 clear k0 k1 k2 k3 k4 k5
 obtain ⟨W3, hW3⟩ : ∃ W, W = W2.drew := ⟨_, rfl⟩
 have hS3 : TwoR w.heap.size (w.heap.size + 1) sa na da sa nb da W3 := by rw [hW3]; exact hS2
 have HB3 := bed HB2 hW3
 have HG3 : Hid (W3.heap[w.heap.size + 1 + 1]? = some (.cells #[.bool false, .string ⟨#[]⟩, .string ⟨#[]⟩] 33)) := by rw [hW3]; exact HG2.out
 refine wp_region_held_drew (S := TwoR w.heap.size (w.heap.size + 1) sa na da sa nb da) (by kernel_rfl) (by rw [← hW3]; exact hS3) ?_
 rw [← hW3]
 intro _
 clear hW3 hS2 HB2 HG2
 refine tk 0 hS3 ?_
 go_simp
 refine tv 1 (.bool sa) rfl (by intro w' hw'; obtain ⟨k0, k1, k2, k3, k4, k5⟩ := hw'.three; go_simp) hS3 ?_
 go_simp
 refine tk 2 hS3 ?_
 go_simp
 refine tk 3 hS3 ?_
 go_simp
 refine tk 5 hS3 ?_
 go_simp
 refine tr 4 (fun K hK => ?_)
 go_simp
 refine (HOP.out _).mono ?_
 rintro e W4 ⟨rfl, hb⟩
 have hS4 := hS3.next hb
 have HB4 := ben HB3 hb
 have HG4 := Lib.hid (blk_next HG3.out hb)
 clear hb hS3 HB3 HG3
 refine hK.out _ _ hS4 (fun _ => ?_)
 clear hK K
 refine tr 6 (fun K hK => ?_)
 go_simp
 refine (HRED.out _).mono ?_
 rintro e W5 ⟨rfl, hb⟩
 have hS5 := hS4.next hb
 have HB5 := ben HB4 hb
 have HG5 := Lib.hid (blk_next HG4.out hb)
 clear hb hS4 HB4 HG4
 refine hK.out _ _ hS5 (fun _ => ?_)
 clear hK K
 refine tr 7 (fun K hK => ?_)
 obtain ⟨c0, c1, c2, f0, f1, f2, hz⟩ := three_of HG5.out
 rw [HV.out]
 go_simp
 refine hK.out _ _ (((hS5.setCell (by omega) (by omega)).setCell (by omega) (by omega)).setCell (by omega) (by omega)) (fun _ => ?_)
 clear hK K
 refine wpAnyH_done (by kernel_rfl) ?_ _
 go_wp2_with fail
 exact bodyPost_ret (v := .agg #[.bool v1, .string v2, .string v3]) (by simp [results, Tryz.results30, go_sem, c0, c1, c2]) rfl ⟨by rw [HV.out], ((HB5.out.setCell (by simp <;> omega) _).setCell (by simp <;> omega) _).setCell (by simp <;> omega) _⟩

theorem pAdd_eq_ge (a b : Rat) (k m : Nat) (w : World) (ha : Sz k a) (hb : Sz m b) (hkm : k + m ≤ 99999) (he : a.den = b.den) (hs : rneg a ≠ rneg b) (hc : b.num.natAbs ≤ a.num.natAbs) :
 Calls Tryz.prog 30 #[ratV a, ratV b] w fun e w' => e = .returned (ratV (a + b)) ∧ Below w.heap.size w w' := by
 have HDA' := fun W => pDen_calls a W
 have hde := rden_eq he
 have sNa := Sm.of_num ha (by omega)
 have sNb := Sm.of_num hb (by omega)
 have sDa := Sm.of_den ha (by omega)
 have sDb := Sm.of_den hb (by omega)
 have sX := sNa
 have sY := sNb
 have sD := sDa
 have hD0 := a.den_nz
 have hp : 256 ^ k ≤ 256 ^ (k + m) := Nat.pow_le_pow_right (by decide) (by omega)
 have hp2 : 256 ^ m ≤ 256 ^ (k + m) := Nat.pow_le_pow_right (by decide) (by omega)
 have hlX : a.num.natAbs < 256 ^ (k + m) := Nat.lt_of_lt_of_le ha.1 hp
 have hlY : b.num.natAbs < 256 ^ (k + m) := Nat.lt_of_lt_of_le hb.1 hp2
 have sZ : Sm (ncan (a.num.natAbs - b.num.natAbs)) (a.num.natAbs - b.num.natAbs) := Sm.can (Nat.lt_of_le_of_lt (Nat.sub_le _ _) hlX) (by omega)
 have HOP' := fun W => op_sub sX sY hc rfl W
 have HRED' := fun W => pReduced_calls (rneg a) (ncan (a.num.natAbs - b.num.natAbs)) (ncan a.den) (a.num.natAbs - b.num.natAbs) (a.den) W sZ sD hD0 (a + b) (add_eqG hs he hc)
 have hsb : (rneg a == rneg b) = false := beq_eq_false_iff_ne.2 hs
 obtain ⟨v1, v2, v3, hv⟩ : ∃ v1 v2 v3, ratV (a + b) = .agg #[.bool v1, .string v2, .string v3] := ⟨_, _, _, rfl⟩
 obtain ⟨sa, hsa⟩ : ∃ x, x = rneg a := ⟨_, rfl⟩
 obtain ⟨na, hna⟩ : ∃ x, x = rnum a := ⟨_, rfl⟩
 obtain ⟨da, hda⟩ : ∃ x, x = rden a := ⟨_, rfl⟩
 obtain ⟨nb, hnb⟩ : ∃ x, x = rnum b := ⟨_, rfl⟩
 obtain ⟨sb, hsb2⟩ : ∃ x, x = rneg b := ⟨_, rfl⟩
 have hdb2 : da = rden b := by rw [hda, hde]
 have hra : ratV a = .agg #[.bool sa, .string na, .string da] := by rw [ratV, hsa, hna, hda]
 have hrb : ratV b = .agg #[.bool sb, .string nb, .string da] := by rw [ratV, hsb2, hnb, hdb2]
 obtain ⟨sA, hsA⟩ : ∃ x, x = ncan a.den := ⟨_, rfl⟩
 obtain ⟨sB, hsB⟩ : ∃ x, x = ncan b.den := ⟨_, rfl⟩
 obtain ⟨zs, hzs⟩ : ∃ x, x = ncan (a.num.natAbs - b.num.natAbs) := ⟨_, rfl⟩
 rw [← hsA, hra] at HDA'
 rw [← hna, ← hnb, ← hzs] at HOP'
 rw [← hzs, ← hsA, ← hsa] at HRED'
 rw [← hsa, ← hsb2] at hsb
 rw [hra, hrb]
 have HV := Lib.hid hv
 obtain ⟨R, hR⟩ : ∃ R, R = ratV (a + b) := ⟨_, rfl⟩
 rw [← hR] at HRED' HV ⊢
 have HDA := Lib.hid HDA'
 have HRED := Lib.hid HRED'
 have HOP := Lib.hid HOP'
 clear HDA' HRED' HOP'
 clear hv hR hra hrb hsa hna hda hnb hsb2 hdb2 hsA hsB hzs sZ sX sY sD sNa sNb sDa sDb hlX hlY hD0 ha hb hkm he hs hc hde hp hp2
 go_enter Tryz.func30, Tryz.ntmps30
 go_upto_region 1 with fail
 obtain ⟨W0, hW0⟩ : ∃ W0, W0 = ((w.alloc (.cells #[.bool sa, .string na, .string da] 33)).alloc (.cells #[.bool sb, .string nb, .string da] 33)).alloc (.cells #[.bool false, .string ⟨#[]⟩, .string ⟨#[]⟩] 33) := ⟨_, rfl⟩
 have hS0 : TwoR w.heap.size (w.heap.size + 1) sa na da sb nb da W0 := by
  rw [hW0]
  refine ⟨blk_alloc (blk_alloc (blk_new _ _)), blk_alloc ?_⟩
  have := blk_new (w.alloc (.cells #[.bool sa, .string na, .string da] 33)) (.cells #[.bool sb, .string nb, .string da] 33)
  rw [World.size_alloc] at this
  exact this
 have HB0 : Hid (Below w.heap.size w W0) := by rw [hW0]; exact ((bel_alloc _ _).alloc (by simp) _).alloc (by simp <;> omega) _
 have HG0 : Hid (W0.heap[w.heap.size + 1 + 1]? = some (.cells #[.bool false, .string ⟨#[]⟩, .string ⟨#[]⟩] 33)) := by
  have := blk_new ((w.alloc (.cells #[.bool sa, .string na, .string da] 33)).alloc (.cells #[.bool sb, .string nb, .string da] 33)) (.cells #[.bool false, .string ⟨#[]⟩, .string ⟨#[]⟩] 33)
  rw [World.size_alloc, World.size_alloc] at this
  rw [hW0]
  exact this
 rw [← hW0]
 clear hW0
 obtain ⟨W1, hW1⟩ : ∃ W, W = W0.drew := ⟨_, rfl⟩
 have hS1 : TwoR w.heap.size (w.heap.size + 1) sa na da sb nb da W1 := by rw [hW1]; exact hS0
 have HB1 := bed HB0 hW1
 have HG1 : Hid (W1.heap[w.heap.size + 1 + 1]? = some (.cells #[.bool false, .string ⟨#[]⟩, .string ⟨#[]⟩] 33)) := by rw [hW1]; exact HG0.out
 refine wp_region_held_drew (S := TwoR w.heap.size (w.heap.size + 1) sa na da sb nb da) (by kernel_rfl) (by rw [← hW1]; exact hS1) ?_
 rw [← hW1]
 intro _
 clear hW1 hS0 HB0 HG0
 refine tk 0 hS1 ?_
 go_simp
 refine tv 1 (.string na) rfl (by intro w' hw'; obtain ⟨k0, k1, k2, k3, k4, k5⟩ := hw'.three; go_simp) hS1 ?_
 go_simp
 refine tk 2 hS1 ?_
 go_simp
 refine tv 3 (.string nb) rfl (by intro w' hw'; obtain ⟨k0, k1, k2, k3, k4, k5⟩ := hw'.three; go_simp) hS1 ?_
 go_simp
 refine tk 4 hS1 ?_
 go_simp
 refine tk 5 hS1 ?_
 go_simp
 refine tk 6 hS1 ?_
 go_simp
 refine wpAnyH_done (by kernel_rfl) ?_ _
 obtain ⟨k0, k1, k2, k3, k4, k5⟩ := hS1.three
 go_wp2_with fail
 clear k0 k1 k2 k3 k4 k5
 refine (HDA.out _).mono ?_
 rintro e W2 ⟨rfl, hb⟩
 have hS2 := hS1.next hb
 have HB2 := ben HB1 hb
 have HG2 := Lib.hid (blk_next HG1.out hb)
 clear hb hS1 HB1 HG1
 obtain ⟨k0, k1, k2, k3, k4, k5⟩ := hS2.three
 go_wp2_with fail
 clear k0 k1 k2 k3 k4 k5
 refine (HOP.out _).mono ?_
 rintro e W3 ⟨rfl, hb⟩
 have hS3 := hS2.next hb
 have HB3 := ben HB2 hb
 have HG3 := Lib.hid (blk_next HG2.out hb)
 clear hb hS2 HB2 HG2
 obtain ⟨k0, k1, k2, k3, k4, k5⟩ := hS3.three
 go_wp2_with fail
 clear k0 k1 k2 k3 k4 k5
 refine (HRED.out _).mono ?_
 rintro e W4 ⟨rfl, hb⟩
 have hS4 := hS3.next hb
 have HB4 := ben HB3 hb
 have HG4 := Lib.hid (blk_next HG3.out hb)
 clear hb hS3 HB3 HG3
 obtain ⟨c0, c1, c2, f0, f1, f2, hz⟩ := three_of HG4.out
 rw [HV.out]
 go_wp2_with fail
 exact bodyPost_ret (v := .agg #[.bool v1, .string v2, .string v3]) (by simp [results, Tryz.results30, go_sem, c0, c1, c2]) rfl ⟨by rw [HV.out], ((HB4.out.setCell (by simp <;> omega) _).setCell (by simp <;> omega) _).setCell (by simp <;> omega) _⟩

theorem pAdd_eq_lt (a b : Rat) (k m : Nat) (w : World) (ha : Sz k a) (hb : Sz m b) (hkm : k + m ≤ 99999) (he : a.den = b.den) (hs : rneg a ≠ rneg b) (hc : a.num.natAbs < b.num.natAbs) :
 Calls Tryz.prog 30 #[ratV a, ratV b] w fun e w' => e = .returned (ratV (a + b)) ∧ Below w.heap.size w w' := by
 have HDA' := fun W => pDen_calls a W
 have hde := rden_eq he
 have sNa := Sm.of_num ha (by omega)
 have sNb := Sm.of_num hb (by omega)
 have sDa := Sm.of_den ha (by omega)
 have sDb := Sm.of_den hb (by omega)
 have sX := sNa
 have sY := sNb
 have sD := sDa
 have hD0 := a.den_nz
 have hp : 256 ^ k ≤ 256 ^ (k + m) := Nat.pow_le_pow_right (by decide) (by omega)
 have hp2 : 256 ^ m ≤ 256 ^ (k + m) := Nat.pow_le_pow_right (by decide) (by omega)
 have hlX : a.num.natAbs < 256 ^ (k + m) := Nat.lt_of_lt_of_le ha.1 hp
 have hlY : b.num.natAbs < 256 ^ (k + m) := Nat.lt_of_lt_of_le hb.1 hp2
 have sZ : Sm (ncan (b.num.natAbs - a.num.natAbs)) (b.num.natAbs - a.num.natAbs) := Sm.can (Nat.lt_of_le_of_lt (Nat.sub_le _ _) hlY) (by omega)
 have HOP' := fun W => op_sub_lt sX sY hc W
 have HOP2' := fun W => op_sub sY sX (Nat.le_of_lt hc) rfl W
 have HRED' := fun W => pReduced_calls (rneg b) (ncan (b.num.natAbs - a.num.natAbs)) (ncan a.den) (b.num.natAbs - a.num.natAbs) (a.den) W sZ sD hD0 (a + b) (add_eqL hs he hc)
 have hsb : (rneg a == rneg b) = false := beq_eq_false_iff_ne.2 hs
 obtain ⟨v1, v2, v3, hv⟩ : ∃ v1 v2 v3, ratV (a + b) = .agg #[.bool v1, .string v2, .string v3] := ⟨_, _, _, rfl⟩
 obtain ⟨sa, hsa⟩ : ∃ x, x = rneg a := ⟨_, rfl⟩
 obtain ⟨na, hna⟩ : ∃ x, x = rnum a := ⟨_, rfl⟩
 obtain ⟨da, hda⟩ : ∃ x, x = rden a := ⟨_, rfl⟩
 obtain ⟨nb, hnb⟩ : ∃ x, x = rnum b := ⟨_, rfl⟩
 obtain ⟨sb, hsb2⟩ : ∃ x, x = rneg b := ⟨_, rfl⟩
 have hdb2 : da = rden b := by rw [hda, hde]
 have hra : ratV a = .agg #[.bool sa, .string na, .string da] := by rw [ratV, hsa, hna, hda]
 have hrb : ratV b = .agg #[.bool sb, .string nb, .string da] := by rw [ratV, hsb2, hnb, hdb2]
 obtain ⟨sA, hsA⟩ : ∃ x, x = ncan a.den := ⟨_, rfl⟩
 obtain ⟨sB, hsB⟩ : ∃ x, x = ncan b.den := ⟨_, rfl⟩
 obtain ⟨zs, hzs⟩ : ∃ x, x = ncan (b.num.natAbs - a.num.natAbs) := ⟨_, rfl⟩
 rw [← hsA, hra] at HDA'
 rw [← hna, ← hnb] at HOP'
 rw [← hna, ← hnb, ← hzs] at HOP2'
 rw [← hzs, ← hsA, ← hsb2] at HRED'
 rw [← hsa, ← hsb2] at hsb
 rw [hra, hrb]
 have HV := Lib.hid hv
 obtain ⟨R, hR⟩ : ∃ R, R = ratV (a + b) := ⟨_, rfl⟩
 rw [← hR] at HRED' HV ⊢
 have HDA := Lib.hid HDA'
 have HRED := Lib.hid HRED'
 have HOP := Lib.hid HOP'
 have HOP2 := Lib.hid HOP2'
 clear HDA' HRED' HOP' HOP2'
 clear hv hR hra hrb hsa hna hda hnb hsb2 hdb2 hsA hsB hzs sZ sX sY sD sNa sNb sDa sDb hlX hlY hD0 ha hb hkm he hs hc hde hp hp2
 go_enter Tryz.func30, Tryz.ntmps30
 go_upto_region 1 with fail
 obtain ⟨W0, hW0⟩ : ∃ W0, W0 = ((w.alloc (.cells #[.bool sa, .string na, .string da] 33)).alloc (.cells #[.bool sb, .string nb, .string da] 33)).alloc (.cells #[.bool false, .string ⟨#[]⟩, .string ⟨#[]⟩] 33) := ⟨_, rfl⟩
 have hS0 : TwoR w.heap.size (w.heap.size + 1) sa na da sb nb da W0 := by
  rw [hW0]
  refine ⟨blk_alloc (blk_alloc (blk_new _ _)), blk_alloc ?_⟩
  have := blk_new (w.alloc (.cells #[.bool sa, .string na, .string da] 33)) (.cells #[.bool sb, .string nb, .string da] 33)
  rw [World.size_alloc] at this
  exact this
 have HB0 : Hid (Below w.heap.size w W0) := by rw [hW0]; exact ((bel_alloc _ _).alloc (by simp) _).alloc (by simp <;> omega) _
 have HG0 : Hid (W0.heap[w.heap.size + 1 + 1]? = some (.cells #[.bool false, .string ⟨#[]⟩, .string ⟨#[]⟩] 33)) := by
  have := blk_new ((w.alloc (.cells #[.bool sa, .string na, .string da] 33)).alloc (.cells #[.bool sb, .string nb, .string da] 33)) (.cells #[.bool false, .string ⟨#[]⟩, .string ⟨#[]⟩] 33)
  rw [World.size_alloc, World.size_alloc] at this
  rw [hW0]
  exact this
 rw [← hW0]
 clear hW0
 obtain ⟨W1, hW1⟩ : ∃ W, W = W0.drew := ⟨_, rfl⟩
 have hS1 : TwoR w.heap.size (w.heap.size + 1) sa na da sb nb da W1 := by rw [hW1]; exact hS0
 have HB1 := bed HB0 hW1
 have HG1 : Hid (W1.heap[w.heap.size + 1 + 1]? = some (.cells #[.bool false, .string ⟨#[]⟩, .string ⟨#[]⟩] 33)) := by rw [hW1]; exact HG0.out
 refine wp_region_held_drew (S := TwoR w.heap.size (w.heap.size + 1) sa na da sb nb da) (by kernel_rfl) (by rw [← hW1]; exact hS1) ?_
 rw [← hW1]
 intro _
 clear hW1 hS0 HB0 HG0
 refine tk 0 hS1 ?_
 go_simp
 refine tv 1 (.string na) rfl (by intro w' hw'; obtain ⟨k0, k1, k2, k3, k4, k5⟩ := hw'.three; go_simp) hS1 ?_
 go_simp
 refine tk 2 hS1 ?_
 go_simp
 refine tv 3 (.string nb) rfl (by intro w' hw'; obtain ⟨k0, k1, k2, k3, k4, k5⟩ := hw'.three; go_simp) hS1 ?_
 go_simp
 refine tk 4 hS1 ?_
 go_simp
 refine tk 5 hS1 ?_
 go_simp
 refine tk 6 hS1 ?_
 go_simp
 refine wpAnyH_done (by kernel_rfl) ?_ _
 obtain ⟨k0, k1, k2, k3, k4, k5⟩ := hS1.three
 go_wp2_with fail
 clear k0 k1 k2 k3 k4 k5
 refine (HDA.out _).mono ?_
 rintro e W2 ⟨rfl, hb⟩
 have hS2 := hS1.next hb
 have HB2 := ben HB1 hb
 have HG2 := Lib.hid (blk_next HG1.out hb)
 clear hb hS1 HB1 HG1
 obtain ⟨k0, k1, k2, k3, k4, k5⟩ := hS2.three
 go_wp2_with fail
 clear k0 k1 k2 k3 k4 k5
 refine (HOP.out _).mono ?_
 rintro e W3 ⟨rfl, hb⟩
 have hS3 := hS2.next hb
 have HB3 := ben HB2 hb
 have HG3 := Lib.hid (blk_next HG2.out hb)
 clear hb hS2 HB2 HG2
 obtain ⟨k0, k1, k2, k3, k4, k5⟩ := hS3.three
 go_wp2_with fail
 clear k0 k1 k2 k3 k4 k5
 refine (HOP2.out _).mono ?_
 rintro e W4 ⟨rfl, hb⟩
 have hS4 := hS3.next hb
 have HB4 := ben HB3 hb
 have HG4 := Lib.hid (blk_next HG3.out hb)
 clear hb hS3 HB3 HG3
 obtain ⟨k0, k1, k2, k3, k4, k5⟩ := hS4.three
 go_wp2_with fail
 clear k0 k1 k2 k3 k4 k5
 refine (HRED.out _).mono ?_
 rintro e W5 ⟨rfl, hb⟩
 have hS5 := hS4.next hb
 have HB5 := ben HB4 hb
 have HG5 := Lib.hid (blk_next HG4.out hb)
 clear hb hS4 HB4 HG4
 obtain ⟨c0, c1, c2, f0, f1, f2, hz⟩ := three_of HG5.out
 rw [HV.out]
 go_wp2_with fail
 exact bodyPost_ret (v := .agg #[.bool v1, .string v2, .string v3]) (by simp [results, Tryz.results30, go_sem, c0, c1, c2]) rfl ⟨by rw [HV.out], ((HB5.out.setCell (by simp <;> omega) _).setCell (by simp <;> omega) _).setCell (by simp <;> omega) _⟩

theorem pAdd_ne_same (a b : Rat) (k m : Nat) (w : World) (ha : Sz k a) (hb : Sz m b) (hkm : k + m ≤ 99999) (he : a.den ≠ b.den) (hs : rneg a = rneg b) :
 Calls Tryz.prog 30 #[ratV a, ratV b] w fun e w' => e = .returned (ratV (a + b)) ∧ Below w.heap.size w w' := by
 have HDA' := fun W => pDen_calls a W
 have HDB' := fun W => pDen_calls b W
 have tde : ¬ (rden a).toList = (rden b).toList := toList_ne (fun e => he (rden_inj e))
 have sNa := Sm.of_num ha (by omega)
 have sNb := Sm.of_num hb (by omega)
 have sDa := Sm.of_den ha (by omega)
 have sDb := Sm.of_den hb (by omega)
 have sX : Sm (ncan (a.num.natAbs * b.den)) (a.num.natAbs * b.den) := Sm.can (pow_mul_lt ha.1 hb.2) (by omega)
 have sY : Sm (ncan (b.num.natAbs * a.den)) (b.num.natAbs * a.den) := Sm.can (pow_mul_lt hb.1 ha.2) (by omega)
 have sD : Sm (ncan (a.den * b.den)) (a.den * b.den) := Sm.can (pow_mul_lt ha.2 hb.2) (by omega)
 have HM1' := fun W => op_mul sNa sDb rfl W
 have HM2' := fun W => op_mul sNb sDa rfl W
 have HM3' := fun W => op_mul sDa sDb rfl W
 have hD0 : a.den * b.den ≠ 0 := Nat.mul_ne_zero a.den_nz b.den_nz
 have hlX : a.num.natAbs * b.den < 256 ^ (k + m) := pow_mul_lt ha.1 hb.2
 have hlY : b.num.natAbs * a.den < 256 ^ (k + m) := by have := pow_mul_lt hb.1 ha.2; rwa [Nat.add_comm m k] at this
 have sZ : Sm (ncan (a.num.natAbs * b.den + b.num.natAbs * a.den)) (a.num.natAbs * b.den + b.num.natAbs * a.den) := Sm.can (pow_add_lt hlX hlY) (by omega)
 have HOP' := fun W => op_add sX sY rfl W
 have HRED' := fun W => pReduced_calls (rneg a) (ncan (a.num.natAbs * b.den + b.num.natAbs * a.den)) (ncan (a.den * b.den)) (a.num.natAbs * b.den + b.num.natAbs * a.den) (a.den * b.den) W sZ sD hD0 (a + b) ((rv_add_same hs).symm)
 obtain ⟨v1, v2, v3, hv⟩ : ∃ v1 v2 v3, ratV (a + b) = .agg #[.bool v1, .string v2, .string v3] := ⟨_, _, _, rfl⟩
 obtain ⟨sa, hsa⟩ : ∃ x, x = rneg a := ⟨_, rfl⟩
 obtain ⟨na, hna⟩ : ∃ x, x = rnum a := ⟨_, rfl⟩
 obtain ⟨da, hda⟩ : ∃ x, x = rden a := ⟨_, rfl⟩
 obtain ⟨nb, hnb⟩ : ∃ x, x = rnum b := ⟨_, rfl⟩
 have hsb2 : sa = rneg b := by rw [hsa, hs]
 obtain ⟨db, hdb2⟩ : ∃ x, x = rden b := ⟨_, rfl⟩
 have hra : ratV a = .agg #[.bool sa, .string na, .string da] := by rw [ratV, hsa, hna, hda]
 have hrb : ratV b = .agg #[.bool sa, .string nb, .string db] := by rw [ratV, hsb2, hnb, hdb2]
 obtain ⟨sA, hsA⟩ : ∃ x, x = ncan a.den := ⟨_, rfl⟩
 obtain ⟨sB, hsB⟩ : ∃ x, x = ncan b.den := ⟨_, rfl⟩
 obtain ⟨zs, hzs⟩ : ∃ x, x = ncan (a.num.natAbs * b.den + b.num.natAbs * a.den) := ⟨_, rfl⟩
 obtain ⟨xs, hxs⟩ : ∃ x, x = ncan (a.num.natAbs * b.den) := ⟨_, rfl⟩
 obtain ⟨ys, hys⟩ : ∃ x, x = ncan (b.num.natAbs * a.den) := ⟨_, rfl⟩
 obtain ⟨ds, hds⟩ : ∃ x, x = ncan (a.den * b.den) := ⟨_, rfl⟩
 rw [← hsA, hra] at HDA'
 rw [← hsB, hrb] at HDB'
 rw [← hda, ← hdb2] at tde
 have tde2 : (da.toList == db.toList) = false := beq_eq_false_iff_ne.2 tde
 rw [← hna, ← hsB, ← hxs] at HM1'
 rw [← hnb, ← hsA, ← hys] at HM2'
 rw [← hsA, ← hsB, ← hds] at HM3'
 rw [← hxs, ← hys, ← hzs] at HOP'
 rw [← hzs, ← hds, ← hsa] at HRED'
 rw [hra, hrb]
 have HV := Lib.hid hv
 obtain ⟨R, hR⟩ : ∃ R, R = ratV (a + b) := ⟨_, rfl⟩
 rw [← hR] at HRED' HV ⊢
 have HDA := Lib.hid HDA'
 have HRED := Lib.hid HRED'
 have HOP := Lib.hid HOP'
 have HDB := Lib.hid HDB'
 have HM1 := Lib.hid HM1'
 have HM2 := Lib.hid HM2'
 have HM3 := Lib.hid HM3'
 clear HDA' HRED' HOP' HDB' HM1' HM2' HM3'
 clear hv hR hra hrb hsa hna hda hnb hsb2 hdb2 hsA hsB hzs sZ sX sY sD sNa sNb sDa sDb hlX hlY hD0 ha hb hkm he hs hxs hys hds
 go_enter Tryz.func30, Tryz.ntmps30
 go_upto_region 1 with fail
 obtain ⟨W0, hW0⟩ : ∃ W0, W0 = ((w.alloc (.cells #[.bool sa, .string na, .string da] 33)).alloc (.cells #[.bool sa, .string nb, .string db] 33)).alloc (.cells #[.bool false, .string ⟨#[]⟩, .string ⟨#[]⟩] 33) := ⟨_, rfl⟩
 have hS0 : TwoR w.heap.size (w.heap.size + 1) sa na da sa nb db W0 := by
  rw [hW0]
  refine ⟨blk_alloc (blk_alloc (blk_new _ _)), blk_alloc ?_⟩
  have := blk_new (w.alloc (.cells #[.bool sa, .string na, .string da] 33)) (.cells #[.bool sa, .string nb, .string db] 33)
  rw [World.size_alloc] at this
  exact this
 have HB0 : Hid (Below w.heap.size w W0) := by rw [hW0]; exact ((bel_alloc _ _).alloc (by simp) _).alloc (by simp <;> omega) _
 have HG0 : Hid (W0.heap[w.heap.size + 1 + 1]? = some (.cells #[.bool false, .string ⟨#[]⟩, .string ⟨#[]⟩] 33)) := by
  have := blk_new ((w.alloc (.cells #[.bool sa, .string na, .string da] 33)).alloc (.cells #[.bool sa, .string nb, .string db] 33)) (.cells #[.bool false, .string ⟨#[]⟩, .string ⟨#[]⟩] 33)
  rw [World.size_alloc, World.size_alloc] at this
  rw [hW0]
  exact this
 rw [← hW0]
 clear hW0
 obtain ⟨W1, hW1⟩ : ∃ W, W = W0.drew := ⟨_, rfl⟩
 have hS1 : TwoR w.heap.size (w.heap.size + 1) sa na da sa nb db W1 := by rw [hW1]; exact hS0
 have HB1 := bed HB0 hW1
 have HG1 : Hid (W1.heap[w.heap.size + 1 + 1]? = some (.cells #[.bool false, .string ⟨#[]⟩, .string ⟨#[]⟩] 33)) := by rw [hW1]; exact HG0.out
 refine wp_region_held_drew (S := TwoR w.heap.size (w.heap.size + 1) sa na da sa nb db) (by kernel_rfl) (by rw [← hW1]; exact hS1) ?_
 rw [← hW1]
 intro _
 clear hW1 hS0 HB0 HG0
 refine tk 0 hS1 ?_
 go_simp
 refine tv 1 (.string na) rfl (by intro w' hw'; obtain ⟨k0, k1, k2, k3, k4, k5⟩ := hw'.three; go_simp) hS1 ?_
 go_simp
 refine tk 2 hS1 ?_
 go_simp
 refine tv 3 (.string nb) rfl (by intro w' hw'; obtain ⟨k0, k1, k2, k3, k4, k5⟩ := hw'.three; go_simp) hS1 ?_
 go_simp
 refine tk 4 hS1 ?_
 go_simp
 refine tk 5 hS1 ?_
 go_simp
 refine tk 6 hS1 ?_
 go_simp
 refine wpAnyH_done (by kernel_rfl) ?_ _
 obtain ⟨k0, k1, k2, k3, k4, k5⟩ := hS1.three
 go_wp2_with fail
 clear k0 k1 k2 k3 k4 k5
 obtain ⟨W2, hW2⟩ : ∃ W, W = W1.drew := ⟨_, rfl⟩
 have hS2 : TwoR w.heap.size (w.heap.size + 1) sa na da sa nb db W2 := by rw [hW2]; exact hS1
 have HB2 := bed HB1 hW2
 have HG2 : Hid (W2.heap[w.heap.size + 1 + 1]? = some (.cells #[.bool false, .string ⟨#[]⟩, .string ⟨#[]⟩] 33)) := by rw [hW2]; exact HG1.out
 refine wp_region_held_drew (S := TwoR w.heap.size (w.heap.size + 1) sa na da sa nb db) (by kernel_rfl) (by rw [← hW2]; exact hS2) ?_
 rw [← hW2]
 intro _
 clear hW2 hS1 HB1 HG1
 refine tk 0 hS2 ?_
 go_simp
 refine tv 1 (.agg #[.bool sa, .string nb, .string db]) rfl (by intro w' hw'; obtain ⟨k0, k1, k2, k3, k4, k5⟩ := hw'.three; go_simp) hS2 ?_
 go_simp
 refine tk 4 hS2 ?_
 go_simp
 refine tv 5 (.agg #[.bool sa, .string na, .string da]) rfl (by intro w' hw'; obtain ⟨k0, k1, k2, k3, k4, k5⟩ := hw'.three; go_simp) hS2 ?_
 go_simp
 refine tr 2 (fun K hK => ?_)
 go_simp
 refine (HDB.out _).mono ?_
 rintro e W3 ⟨rfl, hb⟩
 have hS3 := hS2.next hb
 have HB3 := ben HB2 hb
 have HG3 := Lib.hid (blk_next HG2.out hb)
 clear hb hS2 HB2 HG2
 refine hK.out _ _ hS3 (fun _ => ?_)
 clear hK K
 refine tr 3 (fun K hK => ?_)
 go_simp
 refine (HM1.out _).mono ?_
 rintro e W4 ⟨rfl, hb⟩
 have hS4 := hS3.next hb
 have HB4 := ben HB3 hb
 have HG4 := Lib.hid (blk_next HG3.out hb)
 clear hb hS3 HB3 HG3
 refine hK.out _ _ hS4 (fun _ => ?_)
 clear hK K
 refine tr 6 (fun K hK => ?_)
 go_simp
 refine (HDA.out _).mono ?_
 rintro e W5 ⟨rfl, hb⟩
 have hS5 := hS4.next hb
 have HB5 := ben HB4 hb
 have HG5 := Lib.hid (blk_next HG4.out hb)
 clear hb hS4 HB4 HG4
 refine hK.out _ _ hS5 (fun _ => ?_)
 clear hK K
 refine tr 7 (fun K hK => ?_)
 go_simp
 refine (HM2.out _).mono ?_
 rintro e W6 ⟨rfl, hb⟩
 have hS6 := hS5.next hb
 have HB6 := ben HB5 hb
 have HG6 := Lib.hid (blk_next HG5.out hb)
 clear hb hS5 HB5 HG5
 refine hK.out _ _ hS6 (fun _ => ?_)
 clear hK K
 refine tk 8 hS6 ?_
 go_simp
 refine tk 9 hS6 ?_
 go_simp
 refine wpAnyH_done (by kernel_rfl) ?_ _
 go_wp2_with fail
 obtain ⟨W7, hW7⟩ : ∃ W, W = W6.drew := ⟨_, rfl⟩
 have hS7 : TwoR w.heap.size (w.heap.size + 1) sa na da sa nb db W7 := by rw [hW7]; exact hS6
 have HB7 := bed HB6 hW7
 have HG7 : Hid (W7.heap[w.heap.size + 1 + 1]? = some (.cells #[.bool false, .string ⟨#[]⟩, .string ⟨#[]⟩] 33)) := by rw [hW7]; exact HG6.out
 refine wp_region_held_drew (S := TwoR w.heap.size (w.heap.size + 1) sa na da sa nb db) (by kernel_rfl) (by rw [← hW7]; exact hS7) ?_
 rw [← hW7]
 intro _
 clear hW7 hS6 HB6 HG6
 refine tv 0 (.agg #[.bool sa, .string na, .string da]) rfl (by intro w' hw'; obtain ⟨k0, k1, k2, k3, k4, k5⟩ := hw'.three; go_simp) hS7 ?_
 go_simp
 refine tv 2 (.agg #[.bool sa, .string nb, .string db]) rfl (by intro w' hw'; obtain ⟨k0, k1, k2, k3, k4, k5⟩ := hw'.three; go_simp) hS7 ?_
 go_simp
 refine tr 1 (fun K hK => ?_)
 go_simp
 refine (HDA.out _).mono ?_
 rintro e W8 ⟨rfl, hb⟩
 have hS8 := hS7.next hb
 have HB8 := ben HB7 hb
 have HG8 := Lib.hid (blk_next HG7.out hb)
 clear hb hS7 HB7 HG7
 refine hK.out _ _ hS8 (fun _ => ?_)
 clear hK K
 refine tr 3 (fun K hK => ?_)
 go_simp
 refine (HDB.out _).mono ?_
 rintro e W9 ⟨rfl, hb⟩
 have hS9 := hS8.next hb
 have HB9 := ben HB8 hb
 have HG9 := Lib.hid (blk_next HG8.out hb)
 clear hb hS8 HB8 HG8
 refine hK.out _ _ hS9 (fun _ => ?_)
 clear hK K
 refine tr 4 (fun K hK => ?_)
 go_simp
 refine (HM3.out _).mono ?_
 rintro e W10 ⟨rfl, hb⟩
 have hS10 := hS9.next hb
 have HB10 := ben HB9 hb
 have HG10 := Lib.hid (blk_next HG9.out hb)
 clear hb hS9 HB9 HG9
 refine hK.out _ _ hS10 (fun _ => ?_)
 clear hK K
 refine tk 5 hS10 ?_
 go_simp
 refine wpAnyH_done (by kernel_rfl) ?_ _
 obtain ⟨k0, k1, k2, k3, k4, k5⟩ := hS10.three
 go_wp2_with fail
 clear k0 k1 k2 k3 k4 k5
 obtain ⟨W11, hW11⟩ : ∃ W, W = W10.drew := ⟨_, rfl⟩
 have hS11 : TwoR w.heap.size (w.heap.size + 1) sa na da sa nb db W11 := by rw [hW11]; exact hS10
 have HB11 := bed HB10 hW11
 have HG11 : Hid (W11.heap[w.heap.size + 1 + 1]? = some (.cells #[.bool false, .string ⟨#[]⟩, .string ⟨#[]⟩] 33)) := by rw [hW11]; exact HG10.out
 refine wp_region_held_drew (S := TwoR w.heap.size (w.heap.size + 1) sa na da sa nb db) (by kernel_rfl) (by rw [← hW11]; exact hS11) ?_
 rw [← hW11]
 intro _
 clear hW11 hS10 HB10 HG10
 refine tk 0 hS11 ?_
 go_simp
 refine tv 1 (.bool sa) rfl (by intro w' hw'; obtain ⟨k0, k1, k2, k3, k4, k5⟩ := hw'.three; go_simp) hS11 ?_
 go_simp
 refine tk 2 hS11 ?_
 go_simp
 refine tk 3 hS11 ?_
 go_simp
 refine tk 5 hS11 ?_
 go_simp
 refine tr 4 (fun K hK => ?_)
 go_simp
 refine (HOP.out _).mono ?_
 rintro e W12 ⟨rfl, hb⟩
 have hS12 := hS11.next hb
 have HB12 := ben HB11 hb
 have HG12 := Lib.hid (blk_next HG11.out hb)
 clear hb hS11 HB11 HG11
 refine hK.out _ _ hS12 (fun _ => ?_)
 clear hK K
 refine tr 6 (fun K hK => ?_)
 go_simp
 refine (HRED.out _).mono ?_
 rintro e W13 ⟨rfl, hb⟩
 have hS13 := hS12.next hb
 have HB13 := ben HB12 hb
 have HG13 := Lib.hid (blk_next HG12.out hb)
 clear hb hS12 HB12 HG12
 refine hK.out _ _ hS13 (fun _ => ?_)
 clear hK K
 refine tr 7 (fun K hK => ?_)
 obtain ⟨c0, c1, c2, f0, f1, f2, hz⟩ := three_of HG13.out
 rw [HV.out]
 go_simp
 refine hK.out _ _ (((hS13.setCell (by omega) (by omega)).setCell (by omega) (by omega)).setCell (by omega) (by omega)) (fun _ => ?_)
 clear hK K
 refine wpAnyH_done (by kernel_rfl) ?_ _
 go_wp2_with fail
 exact bodyPost_ret (v := .agg #[.bool v1, .string v2, .string v3]) (by simp [results, Tryz.results30, go_sem, c0, c1, c2]) rfl ⟨by rw [HV.out], ((HB13.out.setCell (by simp <;> omega) _).setCell (by simp <;> omega) _).setCell (by simp <;> omega) _⟩

theorem pAdd_ne_ge (a b : Rat) (k m : Nat) (w : World) (ha : Sz k a) (hb : Sz m b) (hkm : k + m ≤ 99999) (he : a.den ≠ b.den) (hs : rneg a ≠ rneg b) (hc : b.num.natAbs * a.den ≤ a.num.natAbs * b.den) :
 Calls Tryz.prog 30 #[ratV a, ratV b] w fun e w' => e = .returned (ratV (a + b)) ∧ Below w.heap.size w w' := by
 have HDA' := fun W => pDen_calls a W
 have HDB' := fun W => pDen_calls b W
 have tde : ¬ (rden a).toList = (rden b).toList := toList_ne (fun e => he (rden_inj e))
 have sNa := Sm.of_num ha (by omega)
 have sNb := Sm.of_num hb (by omega)
 have sDa := Sm.of_den ha (by omega)
 have sDb := Sm.of_den hb (by omega)
 have sX : Sm (ncan (a.num.natAbs * b.den)) (a.num.natAbs * b.den) := Sm.can (pow_mul_lt ha.1 hb.2) (by omega)
 have sY : Sm (ncan (b.num.natAbs * a.den)) (b.num.natAbs * a.den) := Sm.can (pow_mul_lt hb.1 ha.2) (by omega)
 have sD : Sm (ncan (a.den * b.den)) (a.den * b.den) := Sm.can (pow_mul_lt ha.2 hb.2) (by omega)
 have HM1' := fun W => op_mul sNa sDb rfl W
 have HM2' := fun W => op_mul sNb sDa rfl W
 have HM3' := fun W => op_mul sDa sDb rfl W
 have hD0 : a.den * b.den ≠ 0 := Nat.mul_ne_zero a.den_nz b.den_nz
 have hlX : a.num.natAbs * b.den < 256 ^ (k + m) := pow_mul_lt ha.1 hb.2
 have hlY : b.num.natAbs * a.den < 256 ^ (k + m) := by have := pow_mul_lt hb.1 ha.2; rwa [Nat.add_comm m k] at this
 have sZ : Sm (ncan (a.num.natAbs * b.den - b.num.natAbs * a.den)) (a.num.natAbs * b.den - b.num.natAbs * a.den) := Sm.can (Nat.lt_of_le_of_lt (Nat.sub_le _ _) hlX) (by omega)
 have HOP' := fun W => op_sub sX sY hc rfl W
 have HRED' := fun W => pReduced_calls (rneg a) (ncan (a.num.natAbs * b.den - b.num.natAbs * a.den)) (ncan (a.den * b.den)) (a.num.natAbs * b.den - b.num.natAbs * a.den) (a.den * b.den) W sZ sD hD0 (a + b) ((rv_add_ge hs hc).symm)
 have hsb : (rneg a == rneg b) = false := beq_eq_false_iff_ne.2 hs
 obtain ⟨v1, v2, v3, hv⟩ : ∃ v1 v2 v3, ratV (a + b) = .agg #[.bool v1, .string v2, .string v3] := ⟨_, _, _, rfl⟩
 obtain ⟨sa, hsa⟩ : ∃ x, x = rneg a := ⟨_, rfl⟩
 obtain ⟨na, hna⟩ : ∃ x, x = rnum a := ⟨_, rfl⟩
 obtain ⟨da, hda⟩ : ∃ x, x = rden a := ⟨_, rfl⟩
 obtain ⟨nb, hnb⟩ : ∃ x, x = rnum b := ⟨_, rfl⟩
 obtain ⟨sb, hsb2⟩ : ∃ x, x = rneg b := ⟨_, rfl⟩
 obtain ⟨db, hdb2⟩ : ∃ x, x = rden b := ⟨_, rfl⟩
 have hra : ratV a = .agg #[.bool sa, .string na, .string da] := by rw [ratV, hsa, hna, hda]
 have hrb : ratV b = .agg #[.bool sb, .string nb, .string db] := by rw [ratV, hsb2, hnb, hdb2]
 obtain ⟨sA, hsA⟩ : ∃ x, x = ncan a.den := ⟨_, rfl⟩
 obtain ⟨sB, hsB⟩ : ∃ x, x = ncan b.den := ⟨_, rfl⟩
 obtain ⟨zs, hzs⟩ : ∃ x, x = ncan (a.num.natAbs * b.den - b.num.natAbs * a.den) := ⟨_, rfl⟩
 obtain ⟨xs, hxs⟩ : ∃ x, x = ncan (a.num.natAbs * b.den) := ⟨_, rfl⟩
 obtain ⟨ys, hys⟩ : ∃ x, x = ncan (b.num.natAbs * a.den) := ⟨_, rfl⟩
 obtain ⟨ds, hds⟩ : ∃ x, x = ncan (a.den * b.den) := ⟨_, rfl⟩
 rw [← hsA, hra] at HDA'
 rw [← hsB, hrb] at HDB'
 rw [← hda, ← hdb2] at tde
 have tde2 : (da.toList == db.toList) = false := beq_eq_false_iff_ne.2 tde
 rw [← hna, ← hsB, ← hxs] at HM1'
 rw [← hnb, ← hsA, ← hys] at HM2'
 rw [← hsA, ← hsB, ← hds] at HM3'
 rw [← hxs, ← hys, ← hzs] at HOP'
 rw [← hzs, ← hds, ← hsa] at HRED'
 rw [← hsa, ← hsb2] at hsb
 rw [hra, hrb]
 have HV := Lib.hid hv
 obtain ⟨R, hR⟩ : ∃ R, R = ratV (a + b) := ⟨_, rfl⟩
 rw [← hR] at HRED' HV ⊢
 have HDA := Lib.hid HDA'
 have HRED := Lib.hid HRED'
 have HOP := Lib.hid HOP'
 have HDB := Lib.hid HDB'
 have HM1 := Lib.hid HM1'
 have HM2 := Lib.hid HM2'
 have HM3 := Lib.hid HM3'
 clear HDA' HRED' HOP' HDB' HM1' HM2' HM3'
 clear hv hR hra hrb hsa hna hda hnb hsb2 hdb2 hsA hsB hzs sZ sX sY sD sNa sNb sDa sDb hlX hlY hD0 ha hb hkm he hs hc hxs hys hds
 go_enter Tryz.func30, Tryz.ntmps30
 go_upto_region 1 with fail
 obtain ⟨W0, hW0⟩ : ∃ W0, W0 = ((w.alloc (.cells #[.bool sa, .string na, .string da] 33)).alloc (.cells #[.bool sb, .string nb, .string db] 33)).alloc (.cells #[.bool false, .string ⟨#[]⟩, .string ⟨#[]⟩] 33) := ⟨_, rfl⟩
 have hS0 : TwoR w.heap.size (w.heap.size + 1) sa na da sb nb db W0 := by
  rw [hW0]
  refine ⟨blk_alloc (blk_alloc (blk_new _ _)), blk_alloc ?_⟩
  have := blk_new (w.alloc (.cells #[.bool sa, .string na, .string da] 33)) (.cells #[.bool sb, .string nb, .string db] 33)
  rw [World.size_alloc] at this
  exact this
 have HB0 : Hid (Below w.heap.size w W0) := by rw [hW0]; exact ((bel_alloc _ _).alloc (by simp) _).alloc (by simp <;> omega) _
 have HG0 : Hid (W0.heap[w.heap.size + 1 + 1]? = some (.cells #[.bool false, .string ⟨#[]⟩, .string ⟨#[]⟩] 33)) := by
  have := blk_new ((w.alloc (.cells #[.bool sa, .string na, .string da] 33)).alloc (.cells #[.bool sb, .string nb, .string db] 33)) (.cells #[.bool false, .string ⟨#[]⟩, .string ⟨#[]⟩] 33)
  rw [World.size_alloc, World.size_alloc] at this
  rw [hW0]
  exact this
 rw [← hW0]
 clear hW0
 obtain ⟨W1, hW1⟩ : ∃ W, W = W0.drew := ⟨_, rfl⟩
 have hS1 : TwoR w.heap.size (w.heap.size + 1) sa na da sb nb db W1 := by rw [hW1]; exact hS0
 have HB1 := bed HB0 hW1
 have HG1 : Hid (W1.heap[w.heap.size + 1 + 1]? = some (.cells #[.bool false, .string ⟨#[]⟩, .string ⟨#[]⟩] 33)) := by rw [hW1]; exact HG0.out
 refine wp_region_held_drew (S := TwoR w.heap.size (w.heap.size + 1) sa na da sb nb db) (by kernel_rfl) (by rw [← hW1]; exact hS1) ?_
 rw [← hW1]
 intro _
 clear hW1 hS0 HB0 HG0
 refine tk 0 hS1 ?_
 go_simp
 refine tv 1 (.string na) rfl (by intro w' hw'; obtain ⟨k0, k1, k2, k3, k4, k5⟩ := hw'.three; go_simp) hS1 ?_
 go_simp
 refine tk 2 hS1 ?_
 go_simp
 refine tv 3 (.string nb) rfl (by intro w' hw'; obtain ⟨k0, k1, k2, k3, k4, k5⟩ := hw'.three; go_simp) hS1 ?_
 go_simp
 refine tk 4 hS1 ?_
 go_simp
 refine tk 5 hS1 ?_
 go_simp
 refine tk 6 hS1 ?_
 go_simp
 refine wpAnyH_done (by kernel_rfl) ?_ _
 obtain ⟨k0, k1, k2, k3, k4, k5⟩ := hS1.three
 go_wp2_with fail
 clear k0 k1 k2 k3 k4 k5
 obtain ⟨W2, hW2⟩ : ∃ W, W = W1.drew := ⟨_, rfl⟩
 have hS2 : TwoR w.heap.size (w.heap.size + 1) sa na da sb nb db W2 := by rw [hW2]; exact hS1
 have HB2 := bed HB1 hW2
 have HG2 : Hid (W2.heap[w.heap.size + 1 + 1]? = some (.cells #[.bool false, .string ⟨#[]⟩, .string ⟨#[]⟩] 33)) := by rw [hW2]; exact HG1.out
 refine wp_region_held_drew (S := TwoR w.heap.size (w.heap.size + 1) sa na da sb nb db) (by kernel_rfl) (by rw [← hW2]; exact hS2) ?_
 rw [← hW2]
 intro _
 clear hW2 hS1 HB1 HG1
 refine tk 0 hS2 ?_
 go_simp
 refine tv 1 (.agg #[.bool sb, .string nb, .string db]) rfl (by intro w' hw'; obtain ⟨k0, k1, k2, k3, k4, k5⟩ := hw'.three; go_simp) hS2 ?_
 go_simp
 refine tk 4 hS2 ?_
 go_simp
 refine tv 5 (.agg #[.bool sa, .string na, .string da]) rfl (by intro w' hw'; obtain ⟨k0, k1, k2, k3, k4, k5⟩ := hw'.three; go_simp) hS2 ?_
 go_simp
 refine tr 2 (fun K hK => ?_)
 go_simp
 refine (HDB.out _).mono ?_
 rintro e W3 ⟨rfl, hb⟩
 have hS3 := hS2.next hb
 have HB3 := ben HB2 hb
 have HG3 := Lib.hid (blk_next HG2.out hb)
 clear hb hS2 HB2 HG2
 refine hK.out _ _ hS3 (fun _ => ?_)
 clear hK K
 refine tr 3 (fun K hK => ?_)
 go_simp
 refine (HM1.out _).mono ?_
 rintro e W4 ⟨rfl, hb⟩
 have hS4 := hS3.next hb
 have HB4 := ben HB3 hb
 have HG4 := Lib.hid (blk_next HG3.out hb)
 clear hb hS3 HB3 HG3
 refine hK.out _ _ hS4 (fun _ => ?_)
 clear hK K
 refine tr 6 (fun K hK => ?_)
 go_simp
 refine (HDA.out _).mono ?_
 rintro e W5 ⟨rfl, hb⟩
 have hS5 := hS4.next hb
 have HB5 := ben HB4 hb
 have HG5 := Lib.hid (blk_next HG4.out hb)
 clear hb hS4 HB4 HG4
 refine hK.out _ _ hS5 (fun _ => ?_)
 clear hK K
 refine tr 7 (fun K hK => ?_)
 go_simp
 refine (HM2.out _).mono ?_
 rintro e W6 ⟨rfl, hb⟩
 have hS6 := hS5.next hb
 have HB6 := ben HB5 hb
 have HG6 := Lib.hid (blk_next HG5.out hb)
 clear hb hS5 HB5 HG5
 refine hK.out _ _ hS6 (fun _ => ?_)
 clear hK K
 refine tk 8 hS6 ?_
 go_simp
 refine tk 9 hS6 ?_
 go_simp
 refine wpAnyH_done (by kernel_rfl) ?_ _
 go_wp2_with fail
 obtain ⟨W7, hW7⟩ : ∃ W, W = W6.drew := ⟨_, rfl⟩
 have hS7 : TwoR w.heap.size (w.heap.size + 1) sa na da sb nb db W7 := by rw [hW7]; exact hS6
 have HB7 := bed HB6 hW7
 have HG7 : Hid (W7.heap[w.heap.size + 1 + 1]? = some (.cells #[.bool false, .string ⟨#[]⟩, .string ⟨#[]⟩] 33)) := by rw [hW7]; exact HG6.out
 refine wp_region_held_drew (S := TwoR w.heap.size (w.heap.size + 1) sa na da sb nb db) (by kernel_rfl) (by rw [← hW7]; exact hS7) ?_
 rw [← hW7]
 intro _
 clear hW7 hS6 HB6 HG6
 refine tv 0 (.agg #[.bool sa, .string na, .string da]) rfl (by intro w' hw'; obtain ⟨k0, k1, k2, k3, k4, k5⟩ := hw'.three; go_simp) hS7 ?_
 go_simp
 refine tv 2 (.agg #[.bool sb, .string nb, .string db]) rfl (by intro w' hw'; obtain ⟨k0, k1, k2, k3, k4, k5⟩ := hw'.three; go_simp) hS7 ?_
 go_simp
 refine tr 1 (fun K hK => ?_)
 go_simp
 refine (HDA.out _).mono ?_
 rintro e W8 ⟨rfl, hb⟩
 have hS8 := hS7.next hb
 have HB8 := ben HB7 hb
 have HG8 := Lib.hid (blk_next HG7.out hb)
 clear hb hS7 HB7 HG7
 refine hK.out _ _ hS8 (fun _ => ?_)
 clear hK K
 refine tr 3 (fun K hK => ?_)
 go_simp
 refine (HDB.out _).mono ?_
 rintro e W9 ⟨rfl, hb⟩
 have hS9 := hS8.next hb
 have HB9 := ben HB8 hb
 have HG9 := Lib.hid (blk_next HG8.out hb)
 clear hb hS8 HB8 HG8
 refine hK.out _ _ hS9 (fun _ => ?_)
 clear hK K
 refine tr 4 (fun K hK => ?_)
 go_simp
 refine (HM3.out _).mono ?_
 rintro e W10 ⟨rfl, hb⟩
 have hS10 := hS9.next hb
 have HB10 := ben HB9 hb
 have HG10 := Lib.hid (blk_next HG9.out hb)
 clear hb hS9 HB9 HG9
 refine hK.out _ _ hS10 (fun _ => ?_)
 clear hK K
 refine tk 5 hS10 ?_
 go_simp
 refine wpAnyH_done (by kernel_rfl) ?_ _
 obtain ⟨k0, k1, k2, k3, k4, k5⟩ := hS10.three
 go_wp2_with fail
 clear k0 k1 k2 k3 k4 k5
 refine (HOP.out _).mono ?_
 rintro e W11 ⟨rfl, hb⟩
 have hS11 := hS10.next hb
 have HB11 := ben HB10 hb
 have HG11 := Lib.hid (blk_next HG10.out hb)
 clear hb hS10 HB10 HG10
 obtain ⟨k0, k1, k2, k3, k4, k5⟩ := hS11.three
 go_wp2_with fail
 clear k0 k1 k2 k3 k4 k5
 refine (HRED.out _).mono ?_
 rintro e W12 ⟨rfl, hb⟩
 have hS12 := hS11.next hb
 have HB12 := ben HB11 hb
 have HG12 := Lib.hid (blk_next HG11.out hb)
 clear hb hS11 HB11 HG11
 obtain ⟨c0, c1, c2, f0, f1, f2, hz⟩ := three_of HG12.out
 rw [HV.out]
 go_wp2_with fail
 exact bodyPost_ret (v := .agg #[.bool v1, .string v2, .string v3]) (by simp [results, Tryz.results30, go_sem, c0, c1, c2]) rfl ⟨by rw [HV.out], ((HB12.out.setCell (by simp <;> omega) _).setCell (by simp <;> omega) _).setCell (by simp <;> omega) _⟩

theorem pAdd_ne_lt (a b : Rat) (k m : Nat) (w : World) (ha : Sz k a) (hb : Sz m b) (hkm : k + m ≤ 99999) (he : a.den ≠ b.den) (hs : rneg a ≠ rneg b) (hc : a.num.natAbs * b.den < b.num.natAbs * a.den) :
 Calls Tryz.prog 30 #[ratV a, ratV b] w fun e w' => e = .returned (ratV (a + b)) ∧ Below w.heap.size w w' := by
 have HDA' := fun W => pDen_calls a W
 have HDB' := fun W => pDen_calls b W
 have tde : ¬ (rden a).toList = (rden b).toList := toList_ne (fun e => he (rden_inj e))
 have sNa := Sm.of_num ha (by omega)
 have sNb := Sm.of_num hb (by omega)
 have sDa := Sm.of_den ha (by omega)
 have sDb := Sm.of_den hb (by omega)
 have sX : Sm (ncan (a.num.natAbs * b.den)) (a.num.natAbs * b.den) := Sm.can (pow_mul_lt ha.1 hb.2) (by omega)
 have sY : Sm (ncan (b.num.natAbs * a.den)) (b.num.natAbs * a.den) := Sm.can (pow_mul_lt hb.1 ha.2) (by omega)
 have sD : Sm (ncan (a.den * b.den)) (a.den * b.den) := Sm.can (pow_mul_lt ha.2 hb.2) (by omega)
 have HM1' := fun W => op_mul sNa sDb rfl W
 have HM2' := fun W => op_mul sNb sDa rfl W
 have HM3' := fun W => op_mul sDa sDb rfl W
 have hD0 : a.den * b.den ≠ 0 := Nat.mul_ne_zero a.den_nz b.den_nz
 have hlX : a.num.natAbs * b.den < 256 ^ (k + m) := pow_mul_lt ha.1 hb.2
 have hlY : b.num.natAbs * a.den < 256 ^ (k + m) := by have := pow_mul_lt hb.1 ha.2; rwa [Nat.add_comm m k] at this
 have sZ : Sm (ncan (b.num.natAbs * a.den - a.num.natAbs * b.den)) (b.num.natAbs * a.den - a.num.natAbs * b.den) := Sm.can (Nat.lt_of_le_of_lt (Nat.sub_le _ _) hlY) (by omega)
 have HOP' := fun W => op_sub_lt sX sY hc W
 have HOP2' := fun W => op_sub sY sX (Nat.le_of_lt hc) rfl W
 have HRED' := fun W => pReduced_calls (rneg b) (ncan (b.num.natAbs * a.den - a.num.natAbs * b.den)) (ncan (a.den * b.den)) (b.num.natAbs * a.den - a.num.natAbs * b.den) (a.den * b.den) W sZ sD hD0 (a + b) ((rv_add_lt hs hc).symm)
 have hsb : (rneg a == rneg b) = false := beq_eq_false_iff_ne.2 hs
 obtain ⟨v1, v2, v3, hv⟩ : ∃ v1 v2 v3, ratV (a + b) = .agg #[.bool v1, .string v2, .string v3] := ⟨_, _, _, rfl⟩
 obtain ⟨sa, hsa⟩ : ∃ x, x = rneg a := ⟨_, rfl⟩
 obtain ⟨na, hna⟩ : ∃ x, x = rnum a := ⟨_, rfl⟩
 obtain ⟨da, hda⟩ : ∃ x, x = rden a := ⟨_, rfl⟩
 obtain ⟨nb, hnb⟩ : ∃ x, x = rnum b := ⟨_, rfl⟩
 obtain ⟨sb, hsb2⟩ : ∃ x, x = rneg b := ⟨_, rfl⟩
 obtain ⟨db, hdb2⟩ : ∃ x, x = rden b := ⟨_, rfl⟩
 have hra : ratV a = .agg #[.bool sa, .string na, .string da] := by rw [ratV, hsa, hna, hda]
 have hrb : ratV b = .agg #[.bool sb, .string nb, .string db] := by rw [ratV, hsb2, hnb, hdb2]
 obtain ⟨sA, hsA⟩ : ∃ x, x = ncan a.den := ⟨_, rfl⟩
 obtain ⟨sB, hsB⟩ : ∃ x, x = ncan b.den := ⟨_, rfl⟩
 obtain ⟨zs, hzs⟩ : ∃ x, x = ncan (b.num.natAbs * a.den - a.num.natAbs * b.den) := ⟨_, rfl⟩
 obtain ⟨xs, hxs⟩ : ∃ x, x = ncan (a.num.natAbs * b.den) := ⟨_, rfl⟩
 obtain ⟨ys, hys⟩ : ∃ x, x = ncan (b.num.natAbs * a.den) := ⟨_, rfl⟩
 obtain ⟨ds, hds⟩ : ∃ x, x = ncan (a.den * b.den) := ⟨_, rfl⟩
 rw [← hsA, hra] at HDA'
 rw [← hsB, hrb] at HDB'
 rw [← hda, ← hdb2] at tde
 have tde2 : (da.toList == db.toList) = false := beq_eq_false_iff_ne.2 tde
 rw [← hna, ← hsB, ← hxs] at HM1'
 rw [← hnb, ← hsA, ← hys] at HM2'
 rw [← hsA, ← hsB, ← hds] at HM3'
 rw [← hxs, ← hys] at HOP'
 rw [← hxs, ← hys, ← hzs] at HOP2'
 rw [← hzs, ← hds, ← hsb2] at HRED'
 rw [← hsa, ← hsb2] at hsb
 rw [hra, hrb]
 have HV := Lib.hid hv
 obtain ⟨R, hR⟩ : ∃ R, R = ratV (a + b) := ⟨_, rfl⟩
 rw [← hR] at HRED' HV ⊢
 have HDA := Lib.hid HDA'
 have HRED := Lib.hid HRED'
 have HOP := Lib.hid HOP'
 have HOP2 := Lib.hid HOP2'
 have HDB := Lib.hid HDB'
 have HM1 := Lib.hid HM1'
 have HM2 := Lib.hid HM2'
 have HM3 := Lib.hid HM3'
 clear HDA' HRED' HOP' HOP2' HDB' HM1' HM2' HM3'
 clear hv hR hra hrb hsa hna hda hnb hsb2 hdb2 hsA hsB hzs sZ sX sY sD sNa sNb sDa sDb hlX hlY hD0 ha hb hkm he hs hc hxs hys hds
 go_enter Tryz.func30, Tryz.ntmps30
 go_upto_region 1 with fail
 obtain ⟨W0, hW0⟩ : ∃ W0, W0 = ((w.alloc (.cells #[.bool sa, .string na, .string da] 33)).alloc (.cells #[.bool sb, .string nb, .string db] 33)).alloc (.cells #[.bool false, .string ⟨#[]⟩, .string ⟨#[]⟩] 33) := ⟨_, rfl⟩
 have hS0 : TwoR w.heap.size (w.heap.size + 1) sa na da sb nb db W0 := by
  rw [hW0]
  refine ⟨blk_alloc (blk_alloc (blk_new _ _)), blk_alloc ?_⟩
  have := blk_new (w.alloc (.cells #[.bool sa, .string na, .string da] 33)) (.cells #[.bool sb, .string nb, .string db] 33)
  rw [World.size_alloc] at this
  exact this
 have HB0 : Hid (Below w.heap.size w W0) := by rw [hW0]; exact ((bel_alloc _ _).alloc (by simp) _).alloc (by simp <;> omega) _
 have HG0 : Hid (W0.heap[w.heap.size + 1 + 1]? = some (.cells #[.bool false, .string ⟨#[]⟩, .string ⟨#[]⟩] 33)) := by
  have := blk_new ((w.alloc (.cells #[.bool sa, .string na, .string da] 33)).alloc (.cells #[.bool sb, .string nb, .string db] 33)) (.cells #[.bool false, .string ⟨#[]⟩, .string ⟨#[]⟩] 33)
  rw [World.size_alloc, World.size_alloc] at this
  rw [hW0]
  exact this
 rw [← hW0]
 clear hW0
 obtain ⟨W1, hW1⟩ : ∃ W, W = W0.drew := ⟨_, rfl⟩
 have hS1 : TwoR w.heap.size (w.heap.size + 1) sa na da sb nb db W1 := by rw [hW1]; exact hS0
 have HB1 := bed HB0 hW1
 have HG1 : Hid (W1.heap[w.heap.size + 1 + 1]? = some (.cells #[.bool false, .string ⟨#[]⟩, .string ⟨#[]⟩] 33)) := by rw [hW1]; exact HG0.out
 refine wp_region_held_drew (S := TwoR w.heap.size (w.heap.size + 1) sa na da sb nb db) (by kernel_rfl) (by rw [← hW1]; exact hS1) ?_
 rw [← hW1]
 intro _
 clear hW1 hS0 HB0 HG0
 refine tk 0 hS1 ?_
 go_simp
 refine tv 1 (.string na) rfl (by intro w' hw'; obtain ⟨k0, k1, k2, k3, k4, k5⟩ := hw'.three; go_simp) hS1 ?_
 go_simp
 refine tk 2 hS1 ?_
 go_simp
 refine tv 3 (.string nb) rfl (by intro w' hw'; obtain ⟨k0, k1, k2, k3, k4, k5⟩ := hw'.three; go_simp) hS1 ?_
 go_simp
 refine tk 4 hS1 ?_
 go_simp
 refine tk 5 hS1 ?_
 go_simp
 refine tk 6 hS1 ?_
 go_simp
 refine wpAnyH_done (by kernel_rfl) ?_ _
 obtain ⟨k0, k1, k2, k3, k4, k5⟩ := hS1.three
 go_wp2_with fail
 clear k0 k1 k2 k3 k4 k5
 obtain ⟨W2, hW2⟩ : ∃ W, W = W1.drew := ⟨_, rfl⟩
 have hS2 : TwoR w.heap.size (w.heap.size + 1) sa na da sb nb db W2 := by rw [hW2]; exact hS1
 have HB2 := bed HB1 hW2
 have HG2 : Hid (W2.heap[w.heap.size + 1 + 1]? = some (.cells #[.bool false, .string ⟨#[]⟩, .string ⟨#[]⟩] 33)) := by rw [hW2]; exact HG1.out
 refine wp_region_held_drew (S := TwoR w.heap.size (w.heap.size + 1) sa na da sb nb db) (by kernel_rfl) (by rw [← hW2]; exact hS2) ?_
 rw [← hW2]
 intro _
 clear hW2 hS1 HB1 HG1
 refine tk 0 hS2 ?_
 go_simp
 refine tv 1 (.agg #[.bool sb, .string nb, .string db]) rfl (by intro w' hw'; obtain ⟨k0, k1, k2, k3, k4, k5⟩ := hw'.three; go_simp) hS2 ?_
 go_simp
 refine tk 4 hS2 ?_
 go_simp
 refine tv 5 (.agg #[.bool sa, .string na, .string da]) rfl (by intro w' hw'; obtain ⟨k0, k1, k2, k3, k4, k5⟩ := hw'.three; go_simp) hS2 ?_
 go_simp
 refine tr 2 (fun K hK => ?_)
 go_simp
 refine (HDB.out _).mono ?_
 rintro e W3 ⟨rfl, hb⟩
 have hS3 := hS2.next hb
 have HB3 := ben HB2 hb
 have HG3 := Lib.hid (blk_next HG2.out hb)
 clear hb hS2 HB2 HG2
 refine hK.out _ _ hS3 (fun _ => ?_)
 clear hK K
 refine tr 3 (fun K hK => ?_)
 go_simp
 refine (HM1.out _).mono ?_
 rintro e W4 ⟨rfl, hb⟩
 have hS4 := hS3.next hb
 have HB4 := ben HB3 hb
 have HG4 := Lib.hid (blk_next HG3.out hb)
 clear hb hS3 HB3 HG3
 refine hK.out _ _ hS4 (fun _ => ?_)
 clear hK K
 refine tr 6 (fun K hK => ?_)
 go_simp
 refine (HDA.out _).mono ?_
 rintro e W5 ⟨rfl, hb⟩
 have hS5 := hS4.next hb
 have HB5 := ben HB4 hb
 have HG5 := Lib.hid (blk_next HG4.out hb)
 clear hb hS4 HB4 HG4
 refine hK.out _ _ hS5 (fun _ => ?_)
 clear hK K
 refine tr 7 (fun K hK => ?_)
 go_simp
 refine (HM2.out _).mono ?_
 rintro e W6 ⟨rfl, hb⟩
 have hS6 := hS5.next hb
 have HB6 := ben HB5 hb
 have HG6 := Lib.hid (blk_next HG5.out hb)
 clear hb hS5 HB5 HG5
 refine hK.out _ _ hS6 (fun _ => ?_)
 clear hK K
 refine tk 8 hS6 ?_
 go_simp
 refine tk 9 hS6 ?_
 go_simp
 refine wpAnyH_done (by kernel_rfl) ?_ _
 go_wp2_with fail
 obtain ⟨W7, hW7⟩ : ∃ W, W = W6.drew := ⟨_, rfl⟩
 have hS7 : TwoR w.heap.size (w.heap.size + 1) sa na da sb nb db W7 := by rw [hW7]; exact hS6
 have HB7 := bed HB6 hW7
 have HG7 : Hid (W7.heap[w.heap.size + 1 + 1]? = some (.cells #[.bool false, .string ⟨#[]⟩, .string ⟨#[]⟩] 33)) := by rw [hW7]; exact HG6.out
 refine wp_region_held_drew (S := TwoR w.heap.size (w.heap.size + 1) sa na da sb nb db) (by kernel_rfl) (by rw [← hW7]; exact hS7) ?_
 rw [← hW7]
 intro _
 clear hW7 hS6 HB6 HG6
 refine tv 0 (.agg #[.bool sa, .string na, .string da]) rfl (by intro w' hw'; obtain ⟨k0, k1, k2, k3, k4, k5⟩ := hw'.three; go_simp) hS7 ?_
 go_simp
 refine tv 2 (.agg #[.bool sb, .string nb, .string db]) rfl (by intro w' hw'; obtain ⟨k0, k1, k2, k3, k4, k5⟩ := hw'.three; go_simp) hS7 ?_
 go_simp
 refine tr 1 (fun K hK => ?_)
 go_simp
 refine (HDA.out _).mono ?_
 rintro e W8 ⟨rfl, hb⟩
 have hS8 := hS7.next hb
 have HB8 := ben HB7 hb
 have HG8 := Lib.hid (blk_next HG7.out hb)
 clear hb hS7 HB7 HG7
 refine hK.out _ _ hS8 (fun _ => ?_)
 clear hK K
 refine tr 3 (fun K hK => ?_)
 go_simp
 refine (HDB.out _).mono ?_
 rintro e W9 ⟨rfl, hb⟩
 have hS9 := hS8.next hb
 have HB9 := ben HB8 hb
 have HG9 := Lib.hid (blk_next HG8.out hb)
 clear hb hS8 HB8 HG8
 refine hK.out _ _ hS9 (fun _ => ?_)
 clear hK K
 refine tr 4 (fun K hK => ?_)
 go_simp
 refine (HM3.out _).mono ?_
 rintro e W10 ⟨rfl, hb⟩
 have hS10 := hS9.next hb
 have HB10 := ben HB9 hb
 have HG10 := Lib.hid (blk_next HG9.out hb)
 clear hb hS9 HB9 HG9
 refine hK.out _ _ hS10 (fun _ => ?_)
 clear hK K
 refine tk 5 hS10 ?_
 go_simp
 refine wpAnyH_done (by kernel_rfl) ?_ _
 obtain ⟨k0, k1, k2, k3, k4, k5⟩ := hS10.three
 go_wp2_with fail
 clear k0 k1 k2 k3 k4 k5
 refine (HOP.out _).mono ?_
 rintro e W11 ⟨rfl, hb⟩
 have hS11 := hS10.next hb
 have HB11 := ben HB10 hb
 have HG11 := Lib.hid (blk_next HG10.out hb)
 clear hb hS10 HB10 HG10
 obtain ⟨k0, k1, k2, k3, k4, k5⟩ := hS11.three
 go_wp2_with fail
 clear k0 k1 k2 k3 k4 k5
 refine (HOP2.out _).mono ?_
 rintro e W12 ⟨rfl, hb⟩
 have hS12 := hS11.next hb
 have HB12 := ben HB11 hb
 have HG12 := Lib.hid (blk_next HG11.out hb)
 clear hb hS11 HB11 HG11
 obtain ⟨k0, k1, k2, k3, k4, k5⟩ := hS12.three
 go_wp2_with fail
 clear k0 k1 k2 k3 k4 k5
 refine (HRED.out _).mono ?_
 rintro e W13 ⟨rfl, hb⟩
 have hS13 := hS12.next hb
 have HB13 := ben HB12 hb
 have HG13 := Lib.hid (blk_next HG12.out hb)
 clear hb hS12 HB12 HG12
 obtain ⟨c0, c1, c2, f0, f1, f2, hz⟩ := three_of HG13.out
 rw [HV.out]
 go_wp2_with fail
 exact bodyPost_ret (v := .agg #[.bool v1, .string v2, .string v3]) (by simp [results, Tryz.results30, go_sem, c0, c1, c2]) rfl ⟨by rw [HV.out], ((HB13.out.setCell (by simp <;> omega) _).setCell (by simp <;> omega) _).setCell (by simp <;> omega) _⟩

theorem pAdd_calls (a b : Rat) (k m : Nat) (w : World) (ha : Sz k a) (hb : Sz m b) (hkm : k + m ≤ 99999) :
 Calls Tryz.prog 30 #[ratV a, ratV b] w fun e w' => e = .returned (ratV (a + b)) ∧ Below w.heap.size w w' := by
 by_cases he : a.den = b.den
 ·
  by_cases hs : rneg a = rneg b
  ·
   exact pAdd_eq_same a b k m w ha hb hkm he hs
  ·
   by_cases hc : b.num.natAbs ≤ a.num.natAbs
   ·
    exact pAdd_eq_ge a b k m w ha hb hkm he hs hc
   ·
    exact pAdd_eq_lt a b k m w ha hb hkm he hs (by omega)
 ·
  by_cases hs : rneg a = rneg b
  ·
   exact pAdd_ne_same a b k m w ha hb hkm he hs
  ·
   by_cases hc : b.num.natAbs * a.den ≤ a.num.natAbs * b.den
   ·
    exact pAdd_ne_ge a b k m w ha hb hkm he hs hc
   ·
    exact pAdd_ne_lt a b k m w ha hb hkm he hs (by omega)

end Go.Proofs.YtjlicnhkemfmiaaGreatDoor

/- Merged of PRatE PRatF. -/
import Derived.Test.YtjlicnhkemfmiaaGreatDoorSq
import Derived.Test.YtjlicnhkemfmiaaGreatDoorPRatB
import Derived.Deep.RegionHeld3
import Derived.Test.YtjlicnhkemfmiaaGreatDoorPRatA
import Derived.Test.YtjlicnhkemfmiaaGreatDoorM21
/- rational.Add. -/
set_option linter.unusedVariables false
set_option linter.unusedSimpArgs false
set_option maxHeartbeats 8000000
set_option maxRecDepth 100000
namespace Go.Proofs.YtjlicnhkemfmiaaGreatDoor
open Go.RowKit

theorem pAddF_calls (a b : FQ) (k m : Nat) (w : World) (ha : a.fits k) (hb : b.fits m) (k0 : 0 < k) (m0 : 0 < m) (hkm : k + m ≤ 99999) :
 Calls Tryz.prog 11 #[a.val, b.val] w fun e w' => e = .returned (ratV (fixR a + fixR b)) ∧ Below w.heap.size w w' := by
 have HA := Lib.hid (fun w => pClean_calls a k w ha (by omega))
 have HB := Lib.hid (fun w => pClean_calls b m w hb (by omega))
 have HD := Lib.hid (fun w => pAdd_calls (fixR a) (fixR b) k m w (fix_sz ha k0) (fix_sz hb m0) hkm)
 clear ha hb
 obtain ⟨p, hp⟩ : ∃ p, p = fixR a := ⟨_, rfl⟩
 obtain ⟨q, hq⟩ : ∃ q, q = fixR b := ⟨_, rfl⟩
 rw [← hp] at HA HD ⊢
 rw [← hq] at HB HD ⊢
 obtain ⟨va, hva⟩ : ∃ v, v = ratV p := ⟨_, rfl⟩
 obtain ⟨vb, hvb⟩ : ∃ v, v = ratV q := ⟨_, rfl⟩
 rw [← hva] at HA HD
 rw [← hvb] at HB HD
 obtain ⟨v1, v2, v3, hv⟩ : ∃ v1 v2 v3, ratV (p + q) = .agg #[.bool v1, .string v2, .string v3] := ⟨_, _, _, rfl⟩
 rw [hv] at HD ⊢
 obtain ⟨sa, na, da⟩ := a
 obtain ⟨sb, nb, db⟩ := b
 unfold FQ.val at HA HB ⊢
 clear hp hq hva hvb hv
 go_enter Tryz.func11, Tryz.ntmps11
 go_upto_region 1 with fail
 obtain ⟨W0, hW0⟩ : ∃ W0, W0 = ((w.alloc (.cells #[.bool sa, .string na, .string da] 33)).alloc (.cells #[.bool sb, .string nb, .string db] 33)).alloc (.cells #[.bool false, .string ⟨#[]⟩, .string ⟨#[]⟩] 33) := ⟨_, rfl⟩
 have hS0 : TwoR w.heap.size (w.heap.size + 1) sa na da sb nb db W0 := by
  rw [hW0]
  refine ⟨blk_alloc (blk_alloc (blk_new _ _)), blk_alloc ?_⟩
  have := blk_new (w.alloc (.cells #[.bool sa, .string na, .string da] 33)) (.cells #[.bool sb, .string nb, .string db] 33)
  rw [World.size_alloc] at this
  exact this
 have HB0 : Hid (Below w.heap.size w W0) := by rw [hW0]; exact ((bel_alloc _ _).alloc (by simp) _).alloc (by simp <;> omega) _
 have HG0 : Hid (W0.heap[w.heap.size + 1 + 1]? = some (.cells #[.bool false, .string ⟨#[]⟩, .string ⟨#[]⟩] 33)) := by
  have := blk_new ((w.alloc (.cells #[.bool sa, .string na, .string da] 33)).alloc (.cells #[.bool sb, .string nb, .string db] 33)) (.cells #[.bool false, .string ⟨#[]⟩, .string ⟨#[]⟩] 33)
  rw [World.size_alloc, World.size_alloc] at this
  rw [hW0]
  exact this
 rw [← hW0]
 clear hW0
 obtain ⟨W1, hW1⟩ : ∃ W, W = W0.drew := ⟨_, rfl⟩
 have hS1 : TwoR w.heap.size (w.heap.size + 1) sa na da sb nb db W1 := by rw [hW1]; exact hS0
 have HB1 := bed HB0 hW1
 have HG1 : Hid (W1.heap[w.heap.size + 1 + 1]? = some (.cells #[.bool false, .string ⟨#[]⟩, .string ⟨#[]⟩] 33)) := by rw [hW1]; exact HG0.out
 refine wp_region_held_drew (S := TwoR w.heap.size (w.heap.size + 1) sa na da sb nb db) (by kernel_rfl) (by rw [← hW1]; exact hS1) ?_
 rw [← hW1]
 intro _
 clear hW1 hS0 HB0 HG0
 refine tv 0 (.agg #[.bool sa, .string na, .string da]) rfl (by intro w' hw'; obtain ⟨k0, k1, k2, k3, k4, k5⟩ := hw'.three; go_simp) hS1 ?_
 go_simp
 refine tv 2 (.agg #[.bool sb, .string nb, .string db]) rfl (by intro w' hw'; obtain ⟨k0, k1, k2, k3, k4, k5⟩ := hw'.three; go_simp) hS1 ?_
 go_simp
 refine tr 1 (fun K hK => ?_)
 go_simp
 refine (HA.out _).mono ?_
 rintro e W2 ⟨rfl, hb⟩
 have hS2 := hS1.next hb
 have HB2 := ben HB1 hb
 have HG2 := Lib.hid (blk_next HG1.out hb)
 clear hb hS1 HB1 HG1
 refine hK.out _ _ hS2 (fun _ => ?_)
 clear hK K
 refine tr 3 (fun K hK => ?_)
 go_simp
 refine (HB.out _).mono ?_
 rintro e W3 ⟨rfl, hb⟩
 have hS3 := hS2.next hb
 have HB3 := ben HB2 hb
 have HG3 := Lib.hid (blk_next HG2.out hb)
 clear hb hS2 HB2 HG2
 refine hK.out _ _ hS3 (fun _ => ?_)
 clear hK K
 refine tr 4 (fun K hK => ?_)
 go_simp
 refine (HD.out _).mono ?_
 rintro e W4 ⟨rfl, hb⟩
 have hS4 := hS3.next hb
 have HB4 := ben HB3 hb
 have HG4 := Lib.hid (blk_next HG3.out hb)
 clear hb hS3 HB3 HG3
 refine hK.out _ _ hS4 (fun _ => ?_)
 clear hK K
 refine tr 5 (fun K hK => ?_)
 obtain ⟨c0, c1, c2, f0, f1, f2, hz⟩ := three_of HG4.out
 go_simp
 refine hK.out _ _ (((hS4.setCell (by omega) (by omega)).setCell (by omega) (by omega)).setCell (by omega) (by omega)) (fun _ => ?_)
 clear hK K
 refine wpAnyH_done (by kernel_rfl) ?_ _
 go_wp2_with fail
 exact bodyPost_ret (v := .agg #[.bool v1, .string v2, .string v3]) (by simp [results, Tryz.results11, go_sem, c0, c1, c2]) rfl ⟨rfl, ((HB4.out.setCell (by simp <;> omega) _).setCell (by simp <;> omega) _).setCell (by simp <;> omega) _⟩

end Go.Proofs.YtjlicnhkemfmiaaGreatDoor

/- rational.magnitude, Int (of 1), Make, Fraction (1/2); party.half. -/
namespace Go.Proofs.YtjlicnhkemfmiaaGreatDoor
open Go.RowKit

theorem pMag_calls (u : Nat) (w : World) (hu : u < 9223372036854775808) : Calls Tryz.prog 78 #[.int .i64 (u : Int)] w fun e w' => e = .returned (.string (ncan u)) ∧ Below w.heap.size w w' := by
 have HF := Lib.hid (fun w => natFromUint_calls u w (by omega))
 have h0 : decide ((u : Int) < 0) = false := decide_eq_false (by omega)
 obtain ⟨s, hs⟩ : ∃ s, s = ncan u := ⟨_, rfl⟩
 rw [← hs] at HF ⊢
 clear hs
 go_enter Tryz.func78, Tryz.ntmps78
 go_wp2_with fail
 refine (HF.out _).mono ?_
 rintro e w1 ⟨rfl, hb⟩
 have HB := Lib.hid hb
 clear hb
 go_wp2_with fail
 go_ret
 exact ⟨rfl, HB.out⟩
theorem sm_one : Sm (⟨#[1]⟩ : ByteArray) 1 := ⟨by rw [← ncan_one, snum_ncan], by decide⟩
end Go.Proofs.YtjlicnhkemfmiaaGreatDoor

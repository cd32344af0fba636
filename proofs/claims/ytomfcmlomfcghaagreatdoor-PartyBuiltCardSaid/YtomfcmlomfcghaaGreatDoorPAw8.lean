/- insolvencylaw8.awake. -/
import Derived.Test.YtomfcmlomfcghaaGreatDoorPCtlB
import Derived.Test.YtomfcmlomfcghaaGreatDoorPtsI
set_option linter.unusedVariables false
set_option linter.unusedSimpArgs false
namespace Go.Proofs.YtomfcmlomfcghaaGreatDoor
open Go.RowKit

theorem rd_of_blk {W : World} {b n S : Nat} {T : TypeId} {a : Array Value} {xs : List Value} (h : W.heap[b]? = some (.cells a T (0, 0))) (e : a.toList = xs) (hl : xs.length = n * S) : Rd W W.heap.size S (some ⟨b, 0, none⟩) n xs := by
  refine ⟨hl, fun _ => ⟨b, 0, rfl, (Array.getElem?_eq_some_iff.1 h).1, fun j u hu => ?_⟩⟩
  rw [Nat.zero_add, cell_of_row W b j _ _ (0, 0) h]
  rw [← e] at hu
  simpa using hu
theorem aw_pb : PB 1 awP := by
  refine ⟨by decide, by decide, ?_, ?_, ?_, by decide, by decide, by decide⟩
  · intro x hx
    simp [awP] at hx
    rcases hx with rfl | rfl <;> (unfold i64b; omega)
  · intro x hx
    simp [awP] at hx
    rcases hx with rfl | rfl | rfl
    · exact ⟨by unfold i64b; dsimp only; omega, by unfold i64b; dsimp only; omega, sz_fits (frac_sz (by decide) (by decide) (by decide))⟩
    · exact ⟨by unfold i64b; dsimp only; omega, by unfold i64b; dsimp only; omega, sz_fits (frac_sz (by decide) (by decide) (by decide))⟩
    · exact ⟨by unfold i64b; dsimp only; omega, by unfold i64b; dsimp only; omega, sz_fits (frac_sz (by decide) (by decide) (by decide))⟩
  · intro x hx
    simp [awP] at hx
theorem aw_flat {s6 s3 : Bool} {n6 d6 n3 d3 : ByteArray} (h6 : rneg (frac 10 6) = s6 ∧ rnum (frac 10 6) = n6 ∧ rden (frac 10 6) = d6) (h3 : rneg (frac 10 3) = s3 ∧ rnum (frac 10 3) = n3 ∧ rden (frac 10 3) = d3) :
    awP.stakes.flatMap stkV = [.int .i64 0, .int .i64 1, .bool s6, .string n6, .string d6, .int .i64 0, .int .i64 2, .bool s3, .string n3, .string d3, .int .i64 1, .int .i64 2, .bool s3, .string n3, .string d3] := by
  obtain ⟨rfl, rfl, rfl⟩ := h6
  obtain ⟨rfl, rfl, rfl⟩ := h3
  rfl

set_option maxHeartbeats 4000000 in
set_option maxRecDepth 100000 in
theorem awake8_calls (w : World) : Calls Tryz.prog 11 #[] w fun e w' => e = .returned (.bool true) ∧ Below w.heap.size w w' := by
  have HR1' := fun w => ratio_calls 6 10 w (by decide) (by decide) (by decide) (by decide) (by decide) _ (frac_quo 6 10)
  have HR2' := fun w => ratio_calls 3 10 w (by decide) (by decide) (by decide) (by decide) (by decide) _ (frac_quo 3 10)
  obtain ⟨s6, hs6⟩ : ∃ x, rneg (frac 10 6) = x := ⟨_, rfl⟩
  obtain ⟨n6, hn6⟩ : ∃ x, rnum (frac 10 6) = x := ⟨_, rfl⟩
  obtain ⟨d6, hd6⟩ : ∃ x, rden (frac 10 6) = x := ⟨_, rfl⟩
  obtain ⟨s3, hs3⟩ : ∃ x, rneg (frac 10 3) = x := ⟨_, rfl⟩
  obtain ⟨n3, hn3⟩ : ∃ x, rnum (frac 10 3) = x := ⟨_, rfl⟩
  obtain ⟨d3, hd3⟩ : ∃ x, rden (frac 10 3) = x := ⟨_, rfl⟩
  have HFL := Lib.hid (aw_flat ⟨hs6, hn6, hd6⟩ ⟨hs3, hn3, hd3⟩)
  unfold ratV at HR1' HR2'
  rw [hs6, hn6, hd6] at HR1'
  rw [hs3, hn3, hd3] at HR2'
  have HR1 := Lib.hid HR1'
  have HR2 := Lib.hid HR2'
  clear HR1' HR2' hs6 hn6 hd6 hs3 hn3 hd3
  obtain ⟨K, hK⟩ : ∃ K, K = w.heap.size := ⟨_, rfl⟩
  obtain ⟨X, hX⟩ : ∃ X, X = w.heap.size + 1 := ⟨_, rfl⟩
  obtain ⟨wa, hwa⟩ : ∃ W, W = (w.alloc (.cells #[.int .i64 1, .int .i64 2, .int .i64 2] 3)).alloc (.cells #[.slice (some ⟨K, 0, none⟩) 3 3, .slice none 0 0, .slice none 0 0] 26) := ⟨_, rfl⟩
  have HKa : Hid (wa.heap[K]? = some (.cells #[.int .i64 1, .int .i64 2, .int .i64 2] 3 (0, 0))) := by rw [hwa, hK]; exact blk_alloc (blk_new _ _)
  have HXa : Hid (PBox X (some ⟨K, 0, none⟩) 3 3 none 0 0 none 0 0 wa) := by
    have := blk_new (w.alloc (.cells #[.int .i64 1, .int .i64 2, .int .i64 2] 3)) (.cells #[.slice (some ⟨K, 0, none⟩) 3 3, .slice none 0 0, .slice none 0 0] 26)
    rw [World.size_alloc, ← hX, ← hwa] at this
    exact this
  have HBa : Hid (Below w.heap.size w wa) := by rw [hwa]; exact (bel_alloc _ _).alloc (by simp) _
  have hwX : w.heap.size ≤ X := by omega
  have hKX : K ≠ X := by omega
  have HW := Lib.hid (And.intro hwa (And.intro hK hX))
  clear hwa hK hX
  go_enter Tryz.func11, Tryz.ntmps11
  go_wp2_with fail
  rw [← HW.out.2.2, ← HW.out.2.1, ← HW.out.1]
  refine (HR1.out _).mono ?_
  rintro e w1 ⟨rfl, hb⟩
  have HK1 := Lib.hid (blk_next HKa.out hb)
  have HX1 := Lib.hid (HXa.out.next hb)
  have HB1 : Hid (Below w.heap.size w w1) := HBa.out.trans (hb.mono HBa.out.size)
  clear hb HKa HXa HBa
  go_wp2_with fail
  refine (HR2.out _).mono ?_
  rintro e w2 ⟨rfl, hb⟩
  have HK2 := Lib.hid (blk_next HK1.out hb)
  have HX2 := Lib.hid (HX1.out.next hb)
  have HB2 : Hid (Below w.heap.size w w2) := HB1.out.trans (hb.mono HB1.out.size)
  clear hb HK1 HX1 HB1
  go_wp2_with fail
  refine (HR2.out _).mono ?_
  rintro e w3 ⟨rfl, hb⟩
  have HK3 := Lib.hid (blk_next HK2.out hb)
  have HX3 := Lib.hid (HX2.out.next hb)
  have HB3 : Hid (Below w.heap.size w w3) := HB2.out.trans (hb.mono HB2.out.size)
  clear hb HK2 HX2 HB2
  obtain ⟨S, hS⟩ : ∃ S, S = w3.heap.size := ⟨_, rfl⟩
  obtain ⟨wb, hwb⟩ : ∃ W, W = w3.alloc (.cells #[.int .i64 0, .int .i64 1, .bool s6, .string n6, .string d6, .int .i64 0, .int .i64 2, .bool s3, .string n3, .string d3, .int .i64 1, .int .i64 2, .bool s3, .string n3, .string d3] 72) := ⟨_, rfl⟩
  have HSb : Hid (wb.heap[S]? = some (.cells #[.int .i64 0, .int .i64 1, .bool s6, .string n6, .string d6, .int .i64 0, .int .i64 2, .bool s3, .string n3, .string d3, .int .i64 1, .int .i64 2, .bool s3, .string n3, .string d3] 72 (0, 0))) := by rw [hwb, hS]; exact blk_new _ _
  have HKb : Hid (wb.heap[K]? = some (.cells #[.int .i64 1, .int .i64 2, .int .i64 2] 3 (0, 0))) := by rw [hwb]; exact blk_alloc HK3.out
  have HXb : Hid (PBox X (some ⟨K, 0, none⟩) 3 3 none 0 0 none 0 0 wb) := by rw [hwb]; exact HX3.out.next (bel_alloc _ _)
  have HBb : Hid (Below w.heap.size w wb) := by rw [hwb]; exact HB3.out.alloc HB3.out.size _
  have hSX : S ≠ X := by rw [hS]; intro e; have := HX3.out.store.2.2.2; omega
  have hxb := HXb.out
  rw [hwb] at hxb
  obtain ⟨k0, k1, k2⟩ := hxb.cells
  obtain ⟨f0, f1, f2, fz⟩ := hxb.store
  have HX4 : Hid (PBox X (some ⟨K, 0, none⟩) 3 3 (some ⟨S, 0, none⟩) 3 3 none 0 0 (wb.setCell ⟨X, 1, none⟩ (.slice (some ⟨S, 0, none⟩) 3 3))) := HXb.out.set1 _ _ _
  have HK4 : Hid ((wb.setCell ⟨X, 1, none⟩ (.slice (some ⟨S, 0, none⟩) 3 3)).heap[K]? = some (.cells #[.int .i64 1, .int .i64 2, .int .i64 2] 3 (0, 0))) := (heap_setCell_other _ ⟨X, 1, none⟩ K _ hKX).trans HKb.out
  have HS4 := Lib.hid ((heap_setCell_other _ ⟨X, 1, none⟩ S (.slice (some ⟨S, 0, none⟩) 3 3) hSX).trans HSb.out)
  have HB4 : Hid (Below w.heap.size w (wb.setCell ⟨X, 1, none⟩ (.slice (some ⟨S, 0, none⟩) 3 3))) := HBb.out.setCell hwX _
  have hx4 := HX4.out
  rw [hwb, hS] at hx4
  obtain ⟨j0, j1, j2⟩ := hx4.cells
  have HWB := Lib.hid (And.intro hwb hS)
  clear hwb hS hxb hx4 HK3 HX3 HB3 HSb HKb HXb HBb
  go_wp2_with fail
  rw [← HWB.out.2, ← HWB.out.1]
  clear k0 k1 k2 f0 f1 f2 fz j0 j1 j2
  refine (pControlled_calls (some ⟨K, 0, none⟩) 3 3 (some ⟨S, 0, none⟩) 3 3 none 0 0 awP 1 0 _ ⟨rd_of_blk HK4.out rfl rfl, rd_of_blk HS4.out (by rw [HFL.out]) rfl, Rd.nil, rfl, rfl, rfl⟩ aw_pb).mono ?_
  rintro e w5 ⟨A, c, rfl, hr, hb⟩
  have e1 : oneErr awP 0 = 0 := oneErr_of aw_chk (by decide)
  have e2 : ctlList awP 0 = [1, 2] := by unfold ctlList; rw [if_pos e1]; exact aw_ctl
  rw [e2] at hr ⊢
  rw [e1]
  obtain ⟨b, off, hA, _, c0⟩ := rd_int (l := [1, 2]) hr (k := 0) (x := 1) rfl
  obtain ⟨b', off', hA', _, c1⟩ := rd_int (l := [1, 2]) hr (k := 1) (x := 2) rfl
  subst hA
  simp only [Option.some.injEq, Addr.mk.injEq, and_true] at hA'
  obtain ⟨rfl, rfl⟩ := hA'
  have HB5 : Hid (Below w.heap.size w w5) := HB4.out.trans (hb.mono HB4.out.size)
  clear hr hb e1 e2 HB4 HX4 HK4 HS4
  rw [show ([1, 2] : List Int).length = 2 from rfl]
  rw [Nat.add_zero] at c0
  go_wp2_with fail
  go_ret
  exact ⟨rfl, HB5.out⟩

end Go.Proofs.YtomfcmlomfcghaaGreatDoor

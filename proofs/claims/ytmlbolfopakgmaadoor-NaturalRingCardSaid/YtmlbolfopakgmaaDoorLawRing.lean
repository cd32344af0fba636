/- NaturalRing: the plain walk. -/
import Derived.Test.YtmlbolfopakgmaaDoorFew
set_option linter.unusedVariables false
set_option linter.unusedSimpArgs false
namespace Go.Proofs.YtmlbolfopakgmaaDoor
open Go.RowKit

set_option maxHeartbeats 4000000 in
set_option maxRecDepth 100000 in
theorem ringLaw (a b c : ByteArray) (w : World) (ha : a.size ≤ maxLen) (hb : b.size ≤ maxLen) (hc : c.size ≤ maxLen) : Calls Tryd.prog 12 #[.string a, .string b, .string c] w fun e w' => e = .returned (.bool true) ∧ Below w.heap.size w w' := by
  unfold maxLen at ha hb hc
  have HF := few_calls w.heap.size 0 3 3 [a, b, c] (w.alloc (.cells #[.string a, .string b, .string c] 9)) rfl (few_cells w [.string a, .string b, .string c] [a, b, c] 9 rfl) (by simp) (by intro s hs; simp at hs; rcases hs with rfl | rfl | rfl <;> assumption)
  have hba : Below w.heap.size w (w.alloc (.cells #[.string a, .string b, .string c] 9)) := (Below.refl _ _).alloc (Nat.le_refl _) _
  obtain ⟨w0, hw0⟩ : ∃ w0, w0 = w.alloc (.cells #[.string a, .string b, .string c] 9) := ⟨_, rfl⟩
  have HBA := Lib.hid hba
  clear hw0 w0 hba
  by_cases hfew : a.size ≤ 60 ∧ b.size ≤ 60 ∧ c.size ≤ 60
  · obtain ⟨h1, h2, h3⟩ := hfew
    have hall : ([a, b, c].all fun s => decide (s.size ≤ 60)) = true := by simp [h1, h2, h3]
    rw [hall] at HF
    have HFF := Lib.hid HF
    have sa := Sm.of h1
    have sb := Sm.of h2
    have sc := Sm.of h3
    have la := snum_lt60 h1
    have lb := snum_lt60 h2
    have lc := snum_lt60 h3
    obtain ⟨x, hx⟩ : ∃ x, x = snum a := ⟨_, rfl⟩
    obtain ⟨y, hy⟩ : ∃ y, y = snum b := ⟨_, rfl⟩
    obtain ⟨z, hz⟩ : ∃ z, z = snum c := ⟨_, rfl⟩
    rw [← hx] at sa la
    rw [← hy] at sb lb
    rw [← hz] at sc lc
    have bs : ∀ u v : Nat, u < 256 ^ 60 → v < 256 ^ 60 → u + v < 256 ^ 61 := fun u v h1 h2 => by
      have : (256 : Nat) ^ (60 + 1) = 256 ^ 60 * 256 := Nat.pow_succ _ _
      omega
    have bm : ∀ u v : Nat, u < 256 ^ 60 → v < 256 ^ 60 → u * v < 256 ^ 120 := fun u v h1 h2 => by
      have : (256 : Nat) ^ 120 = 256 ^ 60 * 256 ^ 60 := by rw [← Nat.pow_add]
      rw [this]
      exact Nat.mul_lt_mul'' h1 h2
    have A1 := Lib.hid (op_add sa sb rfl)
    have A2 := Lib.hid (op_add (Sm.can (bs x y la lb) (by decide)) sc rfl)
    have A3 := Lib.hid (op_add sc sb rfl)
    have A4 := Lib.hid (op_add sa (Sm.can (bs z y lc lb) (by decide)) (show x + (z + y) = x + y + z by omega))
    have M1 := Lib.hid (op_mul sa sb rfl)
    have M2 := Lib.hid (op_mul (Sm.can (bm x y la lb) (by decide)) sc rfl)
    have M3 := Lib.hid (op_mul sc sa rfl)
    have M4 := Lib.hid (op_mul sb (Sm.can (bm z x lc la) (by decide)) (show y * (z * x) = x * y * z by grind))
    have D1 := Lib.hid (op_add sb sc rfl)
    have D2 := Lib.hid (op_mul sa (Sm.can (bs y z lb lc) (by decide)) rfl)
    have D3 := Lib.hid (op_mul sa sb rfl)
    have D4 := Lib.hid (op_mul sa sc rfl)
    have D5 := Lib.hid (op_add (Sm.can (bm x y la lb) (by decide)) (Sm.can (bm x z la lc) (by decide)) (show x * y + x * z = x * (y + z) by grind))
    clear HF hall h1 h2 h3 la lb lc sa sb sc hx hy hz bs bm ha hb hc
    go_enter Tryd.func12, Tryd.ntmps12
    go_wp2_with fail
    refine HFF.out.mono ?_
    rintro e w1 ⟨rfl, rfl⟩
    go_wp2_with fail
    refine (A1.out _).mono ?_
    rintro e wz1 ⟨rfl, hbz⟩
    have HBZ1 : Hid (Below w.heap.size w wz1) := HBA.out.trans (hbz.mono HBA.out.size)
    clear hbz
    go_wp2_with fail
    refine (A2.out _).mono ?_
    rintro e wz2 ⟨rfl, hbz⟩
    have HBZ2 : Hid (Below w.heap.size w wz2) := HBZ1.out.trans (hbz.mono HBZ1.out.size)
    clear hbz
    go_wp2_with fail
    refine (A3.out _).mono ?_
    rintro e wz3 ⟨rfl, hbz⟩
    have HBZ3 : Hid (Below w.heap.size w wz3) := HBZ2.out.trans (hbz.mono HBZ2.out.size)
    clear hbz
    go_wp2_with fail
    refine (A4.out _).mono ?_
    rintro e wz4 ⟨rfl, hbz⟩
    have HBZ4 : Hid (Below w.heap.size w wz4) := HBZ3.out.trans (hbz.mono HBZ3.out.size)
    clear hbz
    go_wp2_with fail
    refine (M1.out _).mono ?_
    rintro e wz5 ⟨rfl, hbz⟩
    have HBZ5 : Hid (Below w.heap.size w wz5) := HBZ4.out.trans (hbz.mono HBZ4.out.size)
    clear hbz
    go_wp2_with fail
    refine (M2.out _).mono ?_
    rintro e wz6 ⟨rfl, hbz⟩
    have HBZ6 : Hid (Below w.heap.size w wz6) := HBZ5.out.trans (hbz.mono HBZ5.out.size)
    clear hbz
    go_wp2_with fail
    refine (M3.out _).mono ?_
    rintro e wz7 ⟨rfl, hbz⟩
    have HBZ7 : Hid (Below w.heap.size w wz7) := HBZ6.out.trans (hbz.mono HBZ6.out.size)
    clear hbz
    go_wp2_with fail
    refine (M4.out _).mono ?_
    rintro e wz8 ⟨rfl, hbz⟩
    have HBZ8 : Hid (Below w.heap.size w wz8) := HBZ7.out.trans (hbz.mono HBZ7.out.size)
    clear hbz
    go_wp2_with fail
    refine (D1.out _).mono ?_
    rintro e wz9 ⟨rfl, hbz⟩
    have HBZ9 : Hid (Below w.heap.size w wz9) := HBZ8.out.trans (hbz.mono HBZ8.out.size)
    clear hbz
    go_wp2_with fail
    refine (D2.out _).mono ?_
    rintro e wz10 ⟨rfl, hbz⟩
    have HBZ10 : Hid (Below w.heap.size w wz10) := HBZ9.out.trans (hbz.mono HBZ9.out.size)
    clear hbz
    go_wp2_with fail
    refine (D3.out _).mono ?_
    rintro e wz11 ⟨rfl, hbz⟩
    have HBZ11 : Hid (Below w.heap.size w wz11) := HBZ10.out.trans (hbz.mono HBZ10.out.size)
    clear hbz
    go_wp2_with fail
    refine (D4.out _).mono ?_
    rintro e wz12 ⟨rfl, hbz⟩
    have HBZ12 : Hid (Below w.heap.size w wz12) := HBZ11.out.trans (hbz.mono HBZ11.out.size)
    clear hbz
    go_wp2_with fail
    refine (D5.out _).mono ?_
    rintro e wz13 ⟨rfl, hbz⟩
    have HBZ13 : Hid (Below w.heap.size w wz13) := HBZ12.out.trans (hbz.mono HBZ12.out.size)
    clear hbz
    go_wp2_with fail
    refine (awake1_calls _).mono ?_
    rintro e wz14 ⟨rfl, hbz⟩
    have HBZ14 : Hid (Below w.heap.size w wz14) := HBZ13.out.trans (hbz.mono HBZ13.out.size)
    clear hbz
    have HBZ := HBZ14
    go_wp2_with fail
    go_ret
    exact ⟨rfl, HBZ.out⟩
  · have hall : ([a, b, c].all fun s => decide (s.size ≤ 60)) = false := by
      rw [Bool.eq_false_iff]
      intro h
      simp at h
      exact hfew ⟨h.1, h.2.1, h.2.2⟩
    rw [hall] at HF
    have HFF := Lib.hid HF
    clear HF hall hfew ha hb hc
    go_enter Tryd.func12, Tryd.ntmps12
    go_wp2_with fail
    refine HFF.out.mono ?_
    rintro e w1 ⟨rfl, rfl⟩
    go_wp2_with fail
    refine (awake1_calls _).mono ?_
    rintro e wz1 ⟨rfl, hbz⟩
    have HBZ1 : Hid (Below w.heap.size w wz1) := HBA.out.trans (hbz.mono HBA.out.size)
    clear hbz
    have HBZ := HBZ1
    go_wp2_with fail
    go_ret
    exact ⟨rfl, HBZ.out⟩

end Go.Proofs.YtmlbolfopakgmaaDoor

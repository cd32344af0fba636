/- NaturalDivisors: the plain walk. -/
import Derived.Test.YtmlbolfopakgmaaDoorFew2
set_option linter.unusedVariables false
set_option linter.unusedSimpArgs false
namespace Go.Proofs.YtmlbolfopakgmaaDoor
open Go.RowKit

theorem gcd_lt {x y b : Nat} (hx : x < b) (hy : y < b) : Nat.gcd x y < b := by
  by_cases h : x = 0
  · subst h; rw [Nat.gcd_zero_left]; exact hy
  · exact Nat.lt_of_le_of_lt (Nat.gcd_le_left y (Nat.pos_of_ne_zero h)) hx

theorem divisorsLaw_p61 : ∀ u v : Nat, u < 256 ^ 60 → v < 256 ^ 60 → u + v < 256 ^ 61 := fun u v h1 h2 => by
  have : (256 : Nat) ^ (60 + 1) = 256 ^ 60 * 256 := Nat.pow_succ _ _
  omega
theorem divisorsLaw_p120 : ∀ u v : Nat, u < 256 ^ 60 → v < 256 ^ 60 → u * v < 256 ^ 120 := fun u v h1 h2 => by
  have : (256 : Nat) ^ 120 = 256 ^ 60 * 256 ^ 60 := by rw [← Nat.pow_add]
  rw [this]
  exact Nat.mul_lt_mul'' h1 h2

set_option maxHeartbeats 4000000 in
set_option maxRecDepth 100000 in
theorem divisorsLaw (a b c : ByteArray) (w : World) (ha : a.size ≤ maxLen) (hb : b.size ≤ maxLen) (hc : c.size ≤ maxLen) : Calls Tryd.prog 15 #[.string a, .string b, .string c] w fun e w' => e = .returned (.bool true) ∧ Below w.heap.size w w' := by
  unfold maxLen at ha hb hc
  have HF := few_calls w.heap.size 0 3 3 [a, b, c] (w.alloc (.cells #[.string a, .string b, .string c] 9)) rfl (few_cells w [.string a, .string b, .string c] [a, b, c] 9 rfl) (by simp) (by intro s hs; simp at hs; rcases hs with rfl | rfl | rfl <;> assumption)
  have hba : Below w.heap.size w (w.alloc (.cells #[.string a, .string b, .string c] 9)) := (Below.refl _ _).alloc (Nat.le_refl _) _
  have HBA := Lib.hid hba
  clear hba
  by_cases hfew : a.size ≤ 60 ∧ b.size ≤ 60 ∧ c.size ≤ 60
  · obtain ⟨h1, h2, h3⟩ := hfew
    have hall : ([a, b, c].all fun s => decide (s.size ≤ 60)) = true := by simp [h1, h2, h3]
    rw [hall] at HF
    have HFF := Lib.hid HF
    have sa := Sm.of h1
    have la := snum_lt60 h1
    have sb := Sm.of h2
    have lb := snum_lt60 h2
    have sc := Sm.of h3
    have lc := snum_lt60 h3
    obtain ⟨x, hx⟩ : ∃ x, x = snum a := ⟨_, rfl⟩
    obtain ⟨y, hy⟩ : ∃ y, y = snum b := ⟨_, rfl⟩
    obtain ⟨z, hz⟩ : ∃ z, z = snum c := ⟨_, rfl⟩
    rw [← hx] at sa la
    rw [← hy] at sb lb
    rw [← hz] at sc lc
    clear HF hall h1 h2 h3 hx hy hz ha hb hc
    have G1 := Lib.hid (op_gcd sa sb rfl)
    have lg : Nat.gcd x y < 256 ^ 60 := gcd_lt la lb
    have sg := Sm.can lg (show 60 ≤ 100000 by decide)
    have M1 := Lib.hid (op_mul sa sc rfl)
    have M2 := Lib.hid (op_mul sb sc rfl)
    have G2 := Lib.hid (op_gcd (Sm.can (divisorsLaw_p120 _ _ la lc) (by decide)) (Sm.can (divisorsLaw_p120 _ _ lb lc) (by decide)) (Nat.gcd_mul_right x z y))
    have M3 := Lib.hid (op_mul sg sc rfl)
    have G3 := Lib.hid (op_gcd sb sa (Nat.gcd_comm y x))
    by_cases h0 : Nat.gcd x y = 0
    · have sg0 := sg
      rw [h0] at sg0
      have D1 := Lib.hid (op_div0 sa sg0)
      have D2 := Lib.hid (op_div0 sb sg0)
      rw [h0] at G1 G2 M3 G3
      clear sa sb sc sg sg0 la lb lc lg h0
      go_enter Tryd.func15, Tryd.ntmps15
      go_wp2_with fail
      refine HFF.out.mono ?_
      rintro e w1 ⟨rfl, rfl⟩
      go_wp2_with fail
      refine (G1.out _).mono ?_
      rintro e wz1 ⟨rfl, hbz⟩
      have HBZ1 : Hid (Below w.heap.size w wz1) := HBA.out.trans (hbz.mono HBA.out.size)
      clear hbz
      go_wp2_with fail
      refine (D1.out _).mono ?_
      rintro e wz2 ⟨rfl, hbz⟩
      have HBZ2 : Hid (Below w.heap.size w wz2) := HBZ1.out.trans (hbz.mono HBZ1.out.size)
      clear hbz
      go_wp2_with fail
      refine (D2.out _).mono ?_
      rintro e wz3 ⟨rfl, hbz⟩
      have HBZ3 : Hid (Below w.heap.size w wz3) := HBZ2.out.trans (hbz.mono HBZ2.out.size)
      clear hbz
      go_wp2_with fail
      refine (awake1_calls _).mono ?_
      rintro e wz4 ⟨rfl, hbz⟩
      have HBZ4 : Hid (Below w.heap.size w wz4) := HBZ3.out.trans (hbz.mono HBZ3.out.size)
      clear hbz
      go_wp2_with fail
      refine (M1.out _).mono ?_
      rintro e wz5 ⟨rfl, hbz⟩
      have HBZ5 : Hid (Below w.heap.size w wz5) := HBZ4.out.trans (hbz.mono HBZ4.out.size)
      clear hbz
      go_wp2_with fail
      refine (M2.out _).mono ?_
      rintro e wz6 ⟨rfl, hbz⟩
      have HBZ6 : Hid (Below w.heap.size w wz6) := HBZ5.out.trans (hbz.mono HBZ5.out.size)
      clear hbz
      go_wp2_with fail
      refine (G2.out _).mono ?_
      rintro e wz7 ⟨rfl, hbz⟩
      have HBZ7 : Hid (Below w.heap.size w wz7) := HBZ6.out.trans (hbz.mono HBZ6.out.size)
      clear hbz
      go_wp2_with fail
      refine (M3.out _).mono ?_
      rintro e wz8 ⟨rfl, hbz⟩
      have HBZ8 : Hid (Below w.heap.size w wz8) := HBZ7.out.trans (hbz.mono HBZ7.out.size)
      clear hbz
      go_wp2_with fail
      refine (G3.out _).mono ?_
      rintro e wz9 ⟨rfl, hbz⟩
      have HBZ9 : Hid (Below w.heap.size w wz9) := HBZ8.out.trans (hbz.mono HBZ8.out.size)
      clear hbz
      have HBZ := HBZ9
      go_wp2_with fail
      go_ret
      exact ⟨rfl, HBZ.out⟩
    · have D1 := op_div sa sg h0 rfl (Nat.mod_eq_zero_of_dvd (Nat.gcd_dvd_left x y))
      have D2 := op_div sb sg h0 rfl (Nat.mod_eq_zero_of_dvd (Nat.gcd_dvd_right x y))
      rw [ncan_zero] at D1 D2
      have D1 := Lib.hid D1
      have D2 := Lib.hid D2
      clear sa sb sc sg la lb lc lg h0
      go_enter Tryd.func15, Tryd.ntmps15
      go_wp2_with fail
      refine HFF.out.mono ?_
      rintro e w1 ⟨rfl, rfl⟩
      go_wp2_with fail
      refine (G1.out _).mono ?_
      rintro e wz1 ⟨rfl, hbz⟩
      have HBZ1 : Hid (Below w.heap.size w wz1) := HBA.out.trans (hbz.mono HBA.out.size)
      clear hbz
      go_wp2_with fail
      refine (D1.out _).mono ?_
      rintro e wz2 ⟨rfl, hbz⟩
      have HBZ2 : Hid (Below w.heap.size w wz2) := HBZ1.out.trans (hbz.mono HBZ1.out.size)
      clear hbz
      go_wp2_with fail
      refine (D2.out _).mono ?_
      rintro e wz3 ⟨rfl, hbz⟩
      have HBZ3 : Hid (Below w.heap.size w wz3) := HBZ2.out.trans (hbz.mono HBZ2.out.size)
      clear hbz
      go_wp2_with fail
      refine (awake1_calls _).mono ?_
      rintro e wz4 ⟨rfl, hbz⟩
      have HBZ4 : Hid (Below w.heap.size w wz4) := HBZ3.out.trans (hbz.mono HBZ3.out.size)
      clear hbz
      go_wp2_with fail
      refine (M1.out _).mono ?_
      rintro e wz5 ⟨rfl, hbz⟩
      have HBZ5 : Hid (Below w.heap.size w wz5) := HBZ4.out.trans (hbz.mono HBZ4.out.size)
      clear hbz
      go_wp2_with fail
      refine (M2.out _).mono ?_
      rintro e wz6 ⟨rfl, hbz⟩
      have HBZ6 : Hid (Below w.heap.size w wz6) := HBZ5.out.trans (hbz.mono HBZ5.out.size)
      clear hbz
      go_wp2_with fail
      refine (G2.out _).mono ?_
      rintro e wz7 ⟨rfl, hbz⟩
      have HBZ7 : Hid (Below w.heap.size w wz7) := HBZ6.out.trans (hbz.mono HBZ6.out.size)
      clear hbz
      go_wp2_with fail
      refine (M3.out _).mono ?_
      rintro e wz8 ⟨rfl, hbz⟩
      have HBZ8 : Hid (Below w.heap.size w wz8) := HBZ7.out.trans (hbz.mono HBZ7.out.size)
      clear hbz
      go_wp2_with fail
      refine (G3.out _).mono ?_
      rintro e wz9 ⟨rfl, hbz⟩
      have HBZ9 : Hid (Below w.heap.size w wz9) := HBZ8.out.trans (hbz.mono HBZ8.out.size)
      clear hbz
      have HBZ := HBZ9
      go_wp2_with fail
      go_ret
      exact ⟨rfl, HBZ.out⟩
  · have hall : ([a, b, c].all fun s => decide (s.size ≤ 60)) = false := by
      rw [Bool.eq_false_iff]
      intro h
      simp at h
      exact hfew ⟨h.1, h.2.1, h.2.2⟩
    rw [hall] at HF
    have HFF := Lib.hid HF
    clear HF hall hfew ha hb hc
    go_enter Tryd.func15, Tryd.ntmps15
    go_wp2_with fail
    refine HFF.out.mono ?_
    rintro e w1 ⟨rfl, rfl⟩
    go_wp2_with fail
    refine (awake1_calls _).mono ?_
    rintro e wz1 ⟨rfl, hbz⟩
    have HBZ1 : Hid (Below w.heap.size w wz1) := HBA.out.trans (hbz.mono HBA.out.size)
    clear hbz
    have HBZ := HBZ1
    go_wp2_with fail
    go_ret
    exact ⟨rfl, HBZ.out⟩

end Go.Proofs.YtmlbolfopakgmaaDoor

/- NaturalBack: the plain walk. -/
import Derived.Test.YtmlbolfopakgmaaDoorFew2
import Derived.Test.YtmlbolfopakgmaaDoorBack
set_option linter.unusedVariables false
set_option linter.unusedSimpArgs false
namespace Go.Proofs.YtmlbolfopakgmaaDoor
open Go.RowKit


theorem backLaw_p61 : ∀ u v : Nat, u < 256 ^ 60 → v < 256 ^ 60 → u + v < 256 ^ 61 := fun u v h1 h2 => by
  have : (256 : Nat) ^ (60 + 1) = 256 ^ 60 * 256 := Nat.pow_succ _ _
  omega
theorem backLaw_p120 : ∀ u v : Nat, u < 256 ^ 60 → v < 256 ^ 60 → u * v < 256 ^ 120 := fun u v h1 h2 => by
  have : (256 : Nat) ^ 120 = 256 ^ 60 * 256 ^ 60 := by rw [← Nat.pow_add]
  rw [this]
  exact Nat.mul_lt_mul'' h1 h2

set_option maxHeartbeats 4000000 in
set_option maxRecDepth 100000 in
theorem backLaw (a b : ByteArray) (w : World) (ha : a.size ≤ maxLen) (hb : b.size ≤ maxLen) : Calls Tryd.prog 14 #[.string a, .string b] w fun e w' => e = .returned (.bool true) ∧ Below w.heap.size w w' := by
  unfold maxLen at ha hb
  have HF := few_calls w.heap.size 0 2 2 [a, b] (w.alloc (.cells #[.string a, .string b] 9)) rfl (few_cells w [.string a, .string b] [a, b] 9 rfl) (by simp) (by intro s hs; simp at hs; rcases hs with rfl | rfl <;> assumption)
  have hba : Below w.heap.size w (w.alloc (.cells #[.string a, .string b] 9)) := (Below.refl _ _).alloc (Nat.le_refl _) _
  have HBA := Lib.hid hba
  clear hba
  by_cases hfew : a.size ≤ 60 ∧ b.size ≤ 60
  · obtain ⟨h1, h2⟩ := hfew
    have hall : ([a, b].all fun s => decide (s.size ≤ 60)) = true := by simp [h1, h2]
    rw [hall] at HF
    have HFF := Lib.hid HF
    have sa := Sm.of h1
    have la := snum_lt60 h1
    have sb := Sm.of h2
    have lb := snum_lt60 h2
    obtain ⟨x, hx⟩ : ∃ x, x = snum a := ⟨_, rfl⟩
    obtain ⟨y, hy⟩ : ∃ y, y = snum b := ⟨_, rfl⟩
    rw [← hx] at sa la
    rw [← hy] at sb lb
    clear HF hall h1 h2 hx hy ha hb
    have F1 := Lib.hid (fun w => natFormat_calls a w sa.2)
    rw [sa.1] at F1
    obtain ⟨f1, f2, f3, f4, f5⟩ := fmt_facts la
    have P1 := fun w => parse_ok_calls (nstr (decOf x)) w f1 f2 f3 f4
    rw [f5] at P1
    have P1 := Lib.hid P1
    have A1 := Lib.hid (op_add sa sb rfl)
    have S1 := Lib.hid (op_sub (Sm.can (backLaw_p61 _ _ la lb) (by decide)) sb (Nat.le_add_left y x) (Nat.add_sub_cancel x y))
    have N1 := Lib.hid (op_norm sa)
    clear sa sb la lb f1 f2 f3 f4 f5
    go_enter Tryd.func14, Tryd.ntmps14
    go_wp2_with fail
    refine HFF.out.mono ?_
    rintro e w1 ⟨rfl, rfl⟩
    go_wp2_with fail
    refine (F1.out _).mono ?_
    rintro e wz1 ⟨rfl, hbz⟩
    have HBZ1 : Hid (Below w.heap.size w wz1) := HBA.out.trans (hbz.mono HBA.out.size)
    clear hbz
    go_wp2_with fail
    refine (P1.out _).mono ?_
    rintro e wz2 ⟨rfl, hbz⟩
    have HBZ2 : Hid (Below w.heap.size w wz2) := HBZ1.out.trans (hbz.mono HBZ1.out.size)
    clear hbz
    go_wp2_with fail
    refine (A1.out _).mono ?_
    rintro e wz3 ⟨rfl, hbz⟩
    have HBZ3 : Hid (Below w.heap.size w wz3) := HBZ2.out.trans (hbz.mono HBZ2.out.size)
    clear hbz
    go_wp2_with fail
    refine (S1.out _).mono ?_
    rintro e wz4 ⟨rfl, hbz⟩
    have HBZ4 : Hid (Below w.heap.size w wz4) := HBZ3.out.trans (hbz.mono HBZ3.out.size)
    clear hbz
    go_wp2_with fail
    refine (awake1_calls _).mono ?_
    rintro e wz5 ⟨rfl, hbz⟩
    have HBZ5 : Hid (Below w.heap.size w wz5) := HBZ4.out.trans (hbz.mono HBZ4.out.size)
    clear hbz
    go_wp2_with fail
    refine (N1.out _).mono ?_
    rintro e wz6 ⟨rfl, rfl⟩
    go_wp2_with fail
    refine (N1.out _).mono ?_
    rintro e wz7 ⟨rfl, rfl⟩
    have HBZ := HBZ5
    go_wp2_with fail
    go_ret
    exact ⟨rfl, HBZ.out⟩
  · have hall : ([a, b].all fun s => decide (s.size ≤ 60)) = false := by
      rw [Bool.eq_false_iff]
      intro h
      simp at h
      exact hfew ⟨h.1, h.2⟩
    rw [hall] at HF
    have HFF := Lib.hid HF
    clear HF hall hfew ha hb
    go_enter Tryd.func14, Tryd.ntmps14
    go_wp2_with fail
    refine HFF.out.mono ?_
    rintro e w1 ⟨rfl, rfl⟩
    go_wp2_with fail
    refine (awake1_calls _).mono ?_
    rintro e wz1 ⟨rfl, hbz⟩
    have HBZ1 : Hid (Below w.heap.size w wz1) := HBA.out.trans (hbz.mono HBA.out.size)
    clear hbz
    have HBZ := HBZ1
    go_wp2_with fail
    go_ret
    exact ⟨rfl, HBZ.out⟩

end Go.Proofs.YtmlbolfopakgmaaDoor

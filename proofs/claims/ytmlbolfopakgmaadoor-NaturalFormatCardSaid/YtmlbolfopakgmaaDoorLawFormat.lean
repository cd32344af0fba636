/- NaturalFormat: the plain walk. -/
import Derived.Test.YtmlbolfopakgmaaDoorFew2
import Derived.Test.YtmlbolfopakgmaaDoorWritten
set_option linter.unusedVariables false
set_option linter.unusedSimpArgs false
namespace Go.Proofs.YtmlbolfopakgmaaDoor
open Go.RowKit


theorem formatLaw_p61 : ∀ u v : Nat, u < 256 ^ 60 → v < 256 ^ 60 → u + v < 256 ^ 61 := fun u v h1 h2 => by
  have : (256 : Nat) ^ (60 + 1) = 256 ^ 60 * 256 := Nat.pow_succ _ _
  omega
theorem formatLaw_p120 : ∀ u v : Nat, u < 256 ^ 60 → v < 256 ^ 60 → u * v < 256 ^ 120 := fun u v h1 h2 => by
  have : (256 : Nat) ^ 120 = 256 ^ 60 * 256 ^ 60 := by rw [← Nat.pow_add]
  rw [this]
  exact Nat.mul_lt_mul'' h1 h2

set_option maxHeartbeats 4000000 in
set_option maxRecDepth 100000 in
theorem formatLaw (a : ByteArray) (w : World) (ha : a.size ≤ maxLen) : Calls Tryd.prog 7 #[.string a] w fun e w' => e = .returned (.bool true) ∧ Below w.heap.size w w' := by
  unfold maxLen at ha
  have HF := few_calls w.heap.size 0 1 1 [a] (w.alloc (.cells #[.string a] 9)) rfl (few_cells w [.string a] [a] 9 rfl) (by simp) (by intro s hs; simp at hs; rcases hs with rfl <;> assumption)
  have hba : Below w.heap.size w (w.alloc (.cells #[.string a] 9)) := (Below.refl _ _).alloc (Nat.le_refl _) _
  have HBA := Lib.hid hba
  clear hba
  by_cases hfew : a.size ≤ 60
  · have h1 := hfew
    have hall : ([a].all fun s => decide (s.size ≤ 60)) = true := by simp [h1]
    rw [hall] at HF
    have HFF := Lib.hid HF
    have sa := Sm.of h1
    have la := snum_lt60 h1
    obtain ⟨x, hx⟩ : ∃ x, x = snum a := ⟨_, rfl⟩
    rw [← hx] at sa la
    clear HF hall h1 hx ha
    have F1 := Lib.hid (fun w => natFormat_calls a w sa.2)
    have F2 := Lib.hid (fun w => refFormat_calls a w sa.2)
    rw [sa.1] at F1 F2
    clear sa la
    go_enter Tryd.func7, Tryd.ntmps7
    go_wp2_with fail
    refine HFF.out.mono ?_
    rintro e w1 ⟨rfl, rfl⟩
    go_wp2_with fail
    refine (awake1_calls _).mono ?_
    rintro e wz1 ⟨rfl, hbz⟩
    have HBZ1 : Hid (Below w.heap.size w wz1) := HBA.out.trans (hbz.mono HBA.out.size)
    clear hbz
    go_wp2_with fail
    refine (F1.out _).mono ?_
    rintro e wz2 ⟨rfl, hbz⟩
    have HBZ2 : Hid (Below w.heap.size w wz2) := HBZ1.out.trans (hbz.mono HBZ1.out.size)
    clear hbz
    go_wp2_with fail
    refine (F2.out _).mono ?_
    rintro e wz3 ⟨rfl, hbz⟩
    have HBZ3 : Hid (Below w.heap.size w wz3) := HBZ2.out.trans (hbz.mono HBZ2.out.size)
    clear hbz
    have HBZ := HBZ3
    go_wp2_with fail
    go_ret
    exact ⟨rfl, HBZ.out⟩
  · have hall : ([a].all fun s => decide (s.size ≤ 60)) = false := by
      rw [Bool.eq_false_iff]
      intro h
      simp at h
      exact hfew h
    rw [hall] at HF
    have HFF := Lib.hid HF
    clear HF hall hfew ha
    go_enter Tryd.func7, Tryd.ntmps7
    go_wp2_with fail
    refine HFF.out.mono ?_
    rintro e w1 ⟨rfl, rfl⟩
    go_wp2_with fail
    refine (awake1_calls _).mono ?_
    rintro e wz1 ⟨rfl, hbz⟩
    have HBZ1 : Hid (Below w.heap.size w wz1) := HBA.out.trans (hbz.mono HBA.out.size)
    clear hbz
    have HBZ := HBZ1
    go_wp2_with fail
    go_ret
    exact ⟨rfl, HBZ.out⟩

end Go.Proofs.YtmlbolfopakgmaaDoor

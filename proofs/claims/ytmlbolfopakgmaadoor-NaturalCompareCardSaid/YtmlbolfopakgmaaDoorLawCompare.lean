/- NaturalCompare: the plain walk. -/
import Derived.Test.YtmlbolfopakgmaaDoorFew2
import Derived.Test.YtmlbolfopakgmaaDoorNatRef
set_option linter.unusedVariables false
set_option linter.unusedSimpArgs false
namespace Go.Proofs.YtmlbolfopakgmaaDoor
open Go.RowKit


theorem compareLaw_p61 : ∀ u v : Nat, u < 256 ^ 60 → v < 256 ^ 60 → u + v < 256 ^ 61 := fun u v h1 h2 => by
  have : (256 : Nat) ^ (60 + 1) = 256 ^ 60 * 256 := Nat.pow_succ _ _
  omega
theorem compareLaw_p120 : ∀ u v : Nat, u < 256 ^ 60 → v < 256 ^ 60 → u * v < 256 ^ 120 := fun u v h1 h2 => by
  have : (256 : Nat) ^ 120 = 256 ^ 60 * 256 ^ 60 := by rw [← Nat.pow_add]
  rw [this]
  exact Nat.mul_lt_mul'' h1 h2

set_option maxHeartbeats 4000000 in
set_option maxRecDepth 100000 in
theorem compareLaw (a b : ByteArray) (k : Nat) (w : World) (ha : a.size ≤ maxLen) (hb : b.size ≤ maxLen) : Calls Tryd.prog 9 #[.string a, .string b, .int .u8 (k : Int)] w fun e w' => e = .returned (.bool true) ∧ Below w.heap.size w w' := by
  unfold maxLen at ha hb
  have HF := few_calls w.heap.size 0 2 2 [a, b] (w.alloc (.cells #[.string a, .string b] 9)) rfl (few_cells w [.string a, .string b] [a, b] 9 rfl) (by simp) (by intro s hs; simp at hs; rcases hs with rfl | rfl <;> assumption)
  have hba : Below w.heap.size w (w.alloc (.cells #[.string a, .string b] 9)) := (Below.refl _ _).alloc (Nat.le_refl _) _
  have HBA := Lib.hid hba
  clear hba
  by_cases hfew : a.size ≤ 60 ∧ b.size ≤ 60
  · obtain ⟨h1, h2⟩ := hfew
    have hall : ([a, b].all fun s => decide (s.size ≤ 60)) = true := by simp [h1, h2]
    rw [hall] at HF
    have HFF := Lib.hid HF
    have sa := Sm.of h1
    have la := snum_lt60 h1
    have sb := Sm.of h2
    have lb := snum_lt60 h2
    obtain ⟨x, hx⟩ : ∃ x, x = snum a := ⟨_, rfl⟩
    obtain ⟨y, hy⟩ : ∃ y, y = snum b := ⟨_, rfl⟩
    rw [← hx] at sa la
    rw [← hy] at sb lb
    clear HF hall  hx hy ha hb
    obtain ⟨c, hc⟩ : ∃ c, c = cmpN x y := ⟨_, rfl⟩
    have hcr : -1 ≤ c ∧ c ≤ 1 := by rw [hc]; unfold cmpN; split <;> (try split) <;> omega
    have hcn : cmpN y x = -c := by rw [hc]; unfold cmpN; (repeat' split) <;> omega
    have hm : k % 8 ≤ 7 := by omega
    have szx : Sm (lead (k % 8) ++ a) x := ⟨by rw [lead_snum]; exact sa.1, by rw [ByteArray.size_append, lead_size]; omega⟩
    have C1 := Lib.hid (op_cmp sa sb hc.symm)
    have C2 := Lib.hid (ref_cmp sa sb hc.symm)
    have C3 := Lib.hid (op_cmp szx sb hc.symm)
    have C4 := Lib.hid (op_cmp sb szx hcn)
    have e1 : ((k : Nat) : Int).tmod 8 = ((k % 8 : Nat) : Int) := by rw [Int.tmod_eq_emod_of_nonneg (by omega)]; rfl
    have e2 := lead_extract hm
    obtain ⟨m, hmk⟩ : ∃ m, m = k % 8 := ⟨_, rfl⟩
    rw [← hmk] at C3 C4 e1 e2 hm
    have hls := lead_size m
    clear sa sb la lb szx hc hcn hmk h2
    go_enter Tryd.func9, Tryd.ntmps9
    go_wp2_with fail
    refine HFF.out.mono ?_
    rintro e w1 ⟨rfl, rfl⟩
    go_wp2_with fail
    refine (C1.out _).mono ?_
    rintro e wz1 ⟨rfl, rfl⟩
    go_wp2_with fail
    refine (awake1_calls _).mono ?_
    rintro e wz2 ⟨rfl, hbz⟩
    have HBZ2 : Hid (Below w.heap.size w wz2) := HBA.out.trans (hbz.mono HBA.out.size)
    clear hbz
    go_wp2_with fail
    refine (C2.out _).mono ?_
    rintro e wz3 ⟨rfl, hbz⟩
    have HBZ3 : Hid (Below w.heap.size w wz3) := HBZ2.out.trans (hbz.mono HBZ2.out.size)
    clear hbz
    go_wp2_with fail
    refine (C3.out _).mono ?_
    rintro e wz4 ⟨rfl, rfl⟩
    go_wp2_with fail
    refine (C4.out _).mono ?_
    rintro e wz5 ⟨rfl, rfl⟩
    have HBZ := HBZ3
    go_wp2_with fail
    go_ret
    exact ⟨rfl, HBZ.out⟩
  · have hall : ([a, b].all fun s => decide (s.size ≤ 60)) = false := by
      rw [Bool.eq_false_iff]
      intro h
      simp at h
      exact hfew ⟨h.1, h.2⟩
    rw [hall] at HF
    have HFF := Lib.hid HF
    clear HF hall hfew ha hb
    go_enter Tryd.func9, Tryd.ntmps9
    go_wp2_with fail
    refine HFF.out.mono ?_
    rintro e w1 ⟨rfl, rfl⟩
    go_wp2_with fail
    refine (awake1_calls _).mono ?_
    rintro e wz1 ⟨rfl, hbz⟩
    have HBZ1 : Hid (Below w.heap.size w wz1) := HBA.out.trans (hbz.mono HBA.out.size)
    clear hbz
    have HBZ := HBZ1
    go_wp2_with fail
    go_ret
    exact ⟨rfl, HBZ.out⟩

theorem compareLawI (a b : ByteArray) (u : Int) (w : World) (hu : 0 ≤ u) (ha : a.size ≤ maxLen) (hb : b.size ≤ maxLen) : Calls Tryd.prog 9 #[.string a, .string b, .int .u8 u] w fun e w' => e = .returned (.bool true) ∧ Below w.heap.size w w' := by
  obtain ⟨k, rfl⟩ := Int.eq_ofNat_of_zero_le hu
  exact compareLaw a b k w ha hb

end Go.Proofs.YtmlbolfopakgmaaDoor

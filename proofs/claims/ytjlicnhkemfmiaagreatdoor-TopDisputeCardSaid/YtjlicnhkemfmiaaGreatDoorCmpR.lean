/- Comparing rational numbers: plain laws. -/
import Derived.Test.YtjlicnhkemfmiaaGreatDoorM21
import Derived.Test.YtjlicnhkemfmiaaGreatDoorM4
set_option linter.unusedVariables false
set_option linter.unusedSimpArgs false
namespace Go.Proofs.YtjlicnhkemfmiaaGreatDoor
open Go.RowKit

def cmpR (p q : Rat) : Int := if p < q then -1 else if q < p then 1 else 0
theorem cmpR_pos {p q : Rat} : 0 < cmpR p q ↔ q < p := by
 unfold cmpR
 split
 ·
  rename_i h
  constructor
  ·
   intro h2; omega
  ·
   intro h2; exact absurd (Rat.le_of_lt h) (Rat.not_le.2 h2)
 ·
  split
  ·
   rename_i h; constructor <;> intro _ <;> first | exact h | omega
  ·
   rename_i h; constructor
   ·
    intro h2; omega
   ·
    intro h2; exact absurd h2 h
theorem rneg_iff (p : Rat) : rneg p = true ↔ p < 0 := by rw [rneg_lt]; exact decide_eq_true_iff
theorem sgnR_cases (p : Rat) : (sgnR p = -1 ∧ p < 0 ∧ rneg p = true) ∨ (sgnR p = 0 ∧ p = 0 ∧ rneg p = false) ∨ (sgnR p = 1 ∧ 0 < p ∧ rneg p = false) := by
 by_cases h0 : p = 0
 ·
  right; left
  refine ⟨by unfold sgnR; rw [if_pos h0], h0, by rw [h0]; decide⟩
 ·
  by_cases hn : p < 0
  ·
   left
   have h1 : rneg p = true := (rneg_iff p).2 hn
   exact ⟨by unfold sgnR; rw [if_neg h0, if_pos h1], hn, h1⟩
  ·
   right; right
   have h1 : rneg p = false := by
    rcases h : rneg p with _ | _
    ·
     rfl
    ·
     exact absurd ((rneg_iff p).1 h) hn
   have h2 : sgnR p = 1 := by unfold sgnR; rw [if_neg h0, if_neg (by rw [h1]; decide)]
   exact ⟨h2, sgnR_pos.1 (by rw [h2]; decide), h1⟩
theorem lt_le_trans {a b c : Rat} (h1 : a < b) (h2 : b ≤ c) : a < c := Rat.not_le.1 (fun h => absurd (Rat.le_trans h2 h) (Rat.not_le.2 h1))
theorem sgn_lt {p q : Rat} (h : sgnR p < sgnR q) : p < q := by
 rcases sgnR_cases p with ⟨e, hp, _⟩ | ⟨e, hp, _⟩ | ⟨e, hp, _⟩ <;> rcases sgnR_cases q with ⟨e2, hq, _⟩ | ⟨e2, hq, _⟩ | ⟨e2, hq, _⟩ <;> rw [e, e2] at h <;> first | (exfalso; omega) | skip
 ·
  rw [hq]; exact hp
 ·
  exact lt_le_trans hp (Rat.le_of_lt hq)
 ·
  rw [hp]; exact hq
theorem cmpR_ne {p q : Rat} (h : sgnR p ≠ sgnR q) : cmpR p q = if sgnR p < sgnR q then -1 else 1 := by
 unfold cmpR
 by_cases h1 : sgnR p < sgnR q
 ·
  rw [if_pos h1, if_pos (sgn_lt h1)]
 ·
  have h2 : q < p := sgn_lt (by omega)
  rw [if_neg h1, if_neg (fun h3 => absurd (Rat.le_of_lt h3) (Rat.not_le.2 h2)), if_pos h2]
theorem sgn_rneg {p q : Rat} (h : sgnR p = sgnR q) : rneg p = rneg q := by
 rcases sgnR_cases p with ⟨e, _, hp⟩ | ⟨e, _, hp⟩ | ⟨e, _, hp⟩ <;> rcases sgnR_cases q with ⟨e2, _, hq⟩ | ⟨e2, _, hq⟩ | ⟨e2, _, hq⟩ <;> rw [e, e2] at h <;> first | (exfalso; omega) | rw [hp, hq]
theorem num_rsg (p : Rat) : p.num = rsg (rneg p) p.num.natAbs := (rsg_self p.num).symm
theorem cmpR_same {p q : Rat} (h : rneg p = rneg q) : cmpR p q = if rneg p = true then -cmpN (p.num.natAbs * q.den) (q.num.natAbs * p.den) else cmpN (p.num.natAbs * q.den) (q.num.natAbs * p.den) := by
 have hp := num_rsg p
 have hq := num_rsg q
 rw [← h] at hq
 obtain ⟨x, hx⟩ : ∃ x, x = p.num.natAbs * q.den := ⟨_, rfl⟩
 obtain ⟨y, hy⟩ : ∃ y, y = q.num.natAbs * p.den := ⟨_, rfl⟩
 have hxi : (p.num.natAbs : Int) * (q.den : Int) = (x : Int) := by rw [hx]; simp
 have hyi : (q.num.natAbs : Int) * (p.den : Int) = (y : Int) := by rw [hy]; simp
 have l1 : p < q ↔ (if rneg p = true then y < x else x < y) := by
  rw [Rat.lt_iff, hp, hq]
  cases rneg p
  ·
   simp only [rsg]; simp [hxi, hyi]
  ·
   simp only [rsg]; simp [Int.neg_mul, hxi, hyi]
 have l2 : q < p ↔ (if rneg p = true then x < y else y < x) := by
  rw [Rat.lt_iff, hp, hq]
  cases rneg p
  ·
   simp only [rsg]; simp [hxi, hyi]
  ·
   simp only [rsg]; simp [Int.neg_mul, hxi, hyi]
 rw [← hx, ← hy]
 unfold cmpR cmpN
 rcases hn : rneg p with _ | _
 ·
  rw [hn] at l1 l2
  simp only [Bool.false_eq_true, if_false] at l1 l2 ⊢
  simp only [l1, l2] <;> (repeat' split) <;> omega
 ·
  rw [hn] at l1 l2
  simp only [if_true] at l1 l2 ⊢
  simp only [l1, l2] <;> (repeat' split) <;> omega

end Go.Proofs.YtjlicnhkemfmiaaGreatDoor

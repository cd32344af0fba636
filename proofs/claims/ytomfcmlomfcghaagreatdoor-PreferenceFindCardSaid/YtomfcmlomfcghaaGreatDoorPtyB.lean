/- Parties: plain laws for the statements. Nothing of the program's text. -/
import Derived.Test.YtomfcmlomfcghaaGreatDoorPty
set_option linter.unusedVariables false
set_option linter.unusedSimpArgs false
namespace Go.Proofs.YtomfcmlomfcghaaGreatDoor
open Go.RowKit

theorem stks_all {ks : List Int} : ∀ {l : List Stk}, (∀ x ∈ l, stkErr ks x = 0) → stksErr ks l = 0
  | [], _ => rfl
  | y :: l, h => by
    unfold stksErr
    rw [if_pos (h y (by simp))]
    exact stks_all (fun x hx => h x (by simp [hx]))
theorem chk_of {P : Prt} (h1 : P.kinds.length ≤ 32 ∧ P.stakes.length ≤ 64 ∧ P.ties.length ≤ 64) (h2 : P.kinds.any kindBad = false) (h3 : ∀ x ∈ P.stakes, stkErr P.kinds x = 0) (h4 : overs P.kinds.length P.stakes = false) (h5 : P.ties.all (tieFine P.kinds.length) = true) : chk P = 0 := by
  unfold chk
  rw [if_neg (by omega), if_neg (by rw [h2]; decide), if_neg (by rw [stks_all h3]; omega), if_neg (by rw [h4]; decide), if_pos h5]
theorem stkErr_of {ks : List Int} {s : Stk} (h1 : stkFine ks s = true) (h2 : 0 < fixR s.v) : stkErr ks s = 0 := by unfold stkErr; rw [if_pos h1, if_pos h2]
theorem overs_false {n : Nat} {l : List Stk} : overs n l = false ↔ ∀ c : Nat, c < n → vs (fun s => s.c == (c : Int)) l ≤ 1 := by
  unfold overs
  rw [List.any_eq_false]
  constructor
  · intro h c hc
    have := h c (List.mem_range.2 hc)
    unfold overAt at this
    exact Rat.not_lt.1 (fun h2 => this (decide_eq_true h2))
  · intro h c hc
    unfold overAt
    have := h c (List.mem_range.1 hc)
    intro h2
    exact absurd this (Rat.not_le.2 (of_decide_eq_true h2))
/-! the list of a set -/
theorem mem_idxs {S : Nat → Bool} {n : Nat} {x : Int} : x ∈ idxs S n ↔ ∃ c : Nat, c < n ∧ S c = true ∧ x = (c : Int) := by
  unfold idxs
  simp only [List.mem_map, List.mem_filter, List.mem_range]
  constructor
  · rintro ⟨c, ⟨h1, h2⟩, rfl⟩; exact ⟨c, h1, h2, rfl⟩
  · rintro ⟨c, h1, h2, rfl⟩; exact ⟨c, ⟨h1, h2⟩, rfl⟩
theorem has_idxs {S : Nat → Bool} {n c : Nat} (hc : c < n) : (idxs S n).any (· == (c : Int)) = S c := by
  rcases h : S c with _ | _
  · rw [List.any_eq_false]
    intro x hx
    obtain ⟨d, _, hd, rfl⟩ := mem_idxs.1 hx
    intro h2
    simp only [beq_iff_eq] at h2
    have : d = c := by omega
    rw [this, h] at hd; cases hd
  · rw [List.any_eq_true]
    exact ⟨(c : Int), mem_idxs.2 ⟨c, hc, h, rfl⟩, by simp⟩
theorem idxs_take (S : Nat → Bool) (k : Nat) : idxs S (k + 1) = if S k = true then idxs S k ++ [(k : Int)] else idxs S k := by
  unfold idxs
  rw [List.range_succ, List.filter_append, List.map_append]
  split
  · rename_i h; simp [List.filter, h]
  · rename_i h; simp [List.filter, h]
theorem idxs_len (S : Nat → Bool) (n : Nat) : (idxs S n).length ≤ n := by
  unfold idxs
  rw [List.length_map]
  exact Nat.le_trans (List.length_filter_le _ _) (by rw [List.length_range]; exact Nat.le_refl _)
theorem con_self {P : Prt} {a : Nat} : con P a a = true := con_iff.2 (.inl rfl)
end Go.Proofs.YtomfcmlomfcghaaGreatDoor

/- Parties: plain laws for the statements. Nothing of the program's text. -/
import Derived.Test.YtjlicnhkemfmiaaDoorPty
set_option linter.unusedVariables false
set_option linter.unusedSimpArgs false
namespace Go.Proofs.YtjlicnhkemfmiaaDoor
open Go.RowKit

theorem vs_sub {f : Stk → Bool} {l l' : List Stk} (h : List.Sublist l' l) (hp : ∀ s ∈ l, 0 ≤ fixR s.v) : vs f l' ≤ vs f l := by
  unfold vs
  have : ∀ {l' l : List Stk}, List.Sublist l' l → (∀ s ∈ l, 0 ≤ fixR s.v) → ∀ a b : Rat, a ≤ b → l'.foldl (fun s x => if f x = true then s + fixR x.v else s) a ≤ l.foldl (fun s x => if f x = true then s + fixR x.v else s) b := by
    intro l' l h
    induction h with
    | slnil => intro _ a b hab; exact hab
    | cons x h ih =>
      intro hp a b hab
      rw [List.foldl_cons]
      refine ih (fun s hs => hp s (by simp [hs])) _ _ ?_
      split
      · refine Rat.le_trans hab ?_
        have := (Rat.add_le_add_left (c := b)).2 (hp x (by simp))
        rwa [Rat.add_zero] at this
      · exact hab
    | cons_cons x h ih =>
      intro hp a b hab
      rw [List.foldl_cons, List.foldl_cons]
      refine ih (fun s hs => hp s (by simp [hs])) _ _ ?_
      split
      · exact Rat.add_le_add_right.2 hab
      · exact hab
  exact this h hp 0 0 Rat.le_refl
theorem stks_all {ks : List Int} : ∀ {l : List Stk}, (∀ x ∈ l, stkErr ks x = 0) → stksErr ks l = 0
  | [], _ => rfl
  | y :: l, h => by
    unfold stksErr
    rw [if_pos (h y (by simp))]
    exact stks_all (fun x hx => h x (by simp [hx]))
theorem chk_parts {P : Prt} (h : chk P = 0) : (P.kinds.length ≤ 32 ∧ P.stakes.length ≤ 64 ∧ P.ties.length ≤ 64) ∧ P.kinds.any kindBad = false ∧ (∀ x ∈ P.stakes, stkErr P.kinds x = 0) ∧ overs P.kinds.length P.stakes = false ∧ P.ties.all (tieFine P.kinds.length) = true := by
  unfold chk at h
  split at h
  · omega
  · rename_i h1
    split at h
    · omega
    · rename_i h2
      split at h
      · rename_i h3; exact absurd h h3
      · rename_i h3
        split at h
        · omega
        · rename_i h4
          split at h
          · rename_i h5
            exact ⟨⟨by omega, by omega, by omega⟩, by simpa using h2, stks_ok (by omega), by simpa using h4, h5⟩
          · omega
theorem chk_of {P : Prt} (h1 : P.kinds.length ≤ 32 ∧ P.stakes.length ≤ 64 ∧ P.ties.length ≤ 64) (h2 : P.kinds.any kindBad = false) (h3 : ∀ x ∈ P.stakes, stkErr P.kinds x = 0) (h4 : overs P.kinds.length P.stakes = false) (h5 : P.ties.all (tieFine P.kinds.length) = true) : chk P = 0 := by
  unfold chk
  rw [if_neg (by omega), if_neg (by rw [h2]; decide), if_neg (by rw [stks_all h3]; omega), if_neg (by rw [h4]; decide), if_pos h5]
theorem stkErr_of {ks : List Int} {s : Stk} (h1 : stkFine ks s = true) (h2 : 0 < fixR s.v) : stkErr ks s = 0 := by unfold stkErr; rw [if_pos h1, if_pos h2]
theorem overs_false {n : Nat} {l : List Stk} : overs n l = false ↔ ∀ c : Nat, c < n → vs (fun s => s.c == (c : Int)) l ≤ 1 := by
  unfold overs
  rw [List.any_eq_false]
  constructor
  · intro h c hc
    have := h c (List.mem_range.2 hc)
    unfold overAt at this
    exact Rat.not_lt.1 (fun h2 => this (decide_eq_true h2))
  · intro h c hc
    unfold overAt
    have := h c (List.mem_range.1 hc)
    intro h2
    exact absurd this (Rat.not_le.2 (of_decide_eq_true h2))
/-- parties with fewer stakes -/
def lessS (P : Prt) (l : List Stk) : Prt := ⟨P.kinds, l, P.ties⟩
theorem chk_less {P : Prt} {l : List Stk} (h : chk P = 0) (hl : List.Sublist l P.stakes) : chk (lessS P l) = 0 := by
  obtain ⟨⟨a, b, c⟩, h2, h3, h4, h5⟩ := chk_parts h
  have hp := (Good.of_chk h).pos
  refine chk_of ⟨a, Nat.le_trans hl.length_le b, c⟩ h2 (fun x hx => h3 x (hl.subset hx)) ?_ h5
  rw [overs_false] at h4 ⊢
  exact fun c hc => Rat.le_trans (vs_sub hl hp) (h4 c hc)
theorem ctl_less {P : Prt} {l : List Stk} (hp : ∀ s ∈ P.stakes, 0 ≤ fixR s.v) (hl : List.Sublist l P.stakes) {own : Int} {c : Nat} (h : ctl (lessS P l) own c = true) : ctl P own c = true := by
  rw [ctl_iff] at h ⊢
  refine ⟨h.1, fun S hS => h.2 S (fun d hd hn hh => hS d hd hn (Rat.not_le.1 (fun h3 => ?_)))⟩
  exact absurd (Rat.le_trans (vs_sub hl hp) h3) (Rat.not_le.2 hh)

/-! the list of a set -/
theorem mem_idxs {S : Nat → Bool} {n : Nat} {x : Int} : x ∈ idxs S n ↔ ∃ c : Nat, c < n ∧ S c = true ∧ x = (c : Int) := by
  unfold idxs
  simp only [List.mem_map, List.mem_filter, List.mem_range]
  constructor
  · rintro ⟨c, ⟨h1, h2⟩, rfl⟩; exact ⟨c, h1, h2, rfl⟩
  · rintro ⟨c, h1, h2, rfl⟩; exact ⟨c, ⟨h1, h2⟩, rfl⟩
theorem has_idxs {S : Nat → Bool} {n c : Nat} (hc : c < n) : (idxs S n).any (· == (c : Int)) = S c := by
  rcases h : S c with _ | _
  · rw [List.any_eq_false]
    intro x hx
    obtain ⟨d, _, hd, rfl⟩ := mem_idxs.1 hx
    intro h2
    simp only [beq_iff_eq] at h2
    have : d = c := by omega
    rw [this, h] at hd; cases hd
  · rw [List.any_eq_true]
    exact ⟨(c : Int), mem_idxs.2 ⟨c, hc, h, rfl⟩, by simp⟩
theorem has_idxsZ {S : Nat → Bool} {n : Nat} {z : Int} (h0 : 0 ≤ z) (hn : z < n) : (idxs S n).any (· == z) = S z.toNat := by
  have := has_idxs (S := S) (n := n) (c := z.toNat) (by omega)
  rwa [show ((z.toNat : Nat) : Int) = z by omega] at this
theorem idxs_take (S : Nat → Bool) (k : Nat) : idxs S (k + 1) = if S k = true then idxs S k ++ [(k : Int)] else idxs S k := by
  unfold idxs
  rw [List.range_succ, List.filter_append, List.map_append]
  split
  · rename_i h; simp [List.filter, h]
  · rename_i h; simp [List.filter, h]
theorem idxs_len (S : Nat → Bool) (n : Nat) : (idxs S n).length ≤ n := by
  unfold idxs
  rw [List.length_map]
  exact Nat.le_trans (List.length_filter_le _ _) (by rw [List.length_range]; exact Nat.le_refl _)
theorem idxs_congr {S S' : Nat → Bool} {n : Nat} (h : ∀ c, c < n → S c = S' c) : idxs S n = idxs S' n := by
  unfold idxs
  congr 1
  exact List.filter_congr (fun c hc => h c (List.mem_range.1 hc))
/-- the votes that the law counts -/
theorem votes_vt {P : Prt} (h : chk P = 0) (a : Nat) (c : Nat) : vs (fun s => ((s.o == (a : Int)) || (idxs (ctl P (a : Int)) P.kinds.length).any (· == s.o)) && (s.c == (c : Int))) P.stakes = vt P (a : Int) (ctl P (a : Int)) c := by
  unfold vt
  refine vs_congr (fun s hs => ?_)
  obtain ⟨h1, _, _⟩ := fine_parts ((Good.of_chk h).s s hs).1
  unfold hold
  rw [has_idxsZ h1.1 h1.2, Bool.and_comm]
theorem fixpoint {P : Prt} (h : chk P = 0) {a c : Nat} (hc : c < P.kinds.length) (hne : c ≠ a) : ctl P (a : Int) c = decide (halfR < vt P (a : Int) (ctl P (a : Int)) c) := by
  have hp := (Good.of_chk h).pos
  rcases h2 : ctl P (a : Int) c with _ | _
  · refine (decide_eq_false (fun h3 => ?_)).symm
    rw [ctl_closed hp c hc (by omega) h3] at h2; cases h2
  · exact (decide_eq_true (ctl_more hp h2)).symm
theorem ctl_self {P : Prt} {a : Nat} : ctl P (a : Int) a = false := by
  rcases h : ctl P (a : Int) a with _ | _
  · rfl
  · exact absurd rfl (ctl_ne h)
/-- controlled parties, and what is under common control, are connected -/
theorem con_ctl {P : Prt} {a b : Nat} (ha : a < P.kinds.length) (hb : ctl P (a : Int) b = true) : con P a b = true := con_iff.2 (.inr (.inr ⟨a, ha, .inl rfl, .inr hb⟩))
theorem con_both {P : Prt} {a b c : Nat} (ha : a < P.kinds.length) (hb : ctl P (a : Int) b = true) (hc : ctl P (a : Int) c = true) : con P b c = true := con_iff.2 (.inr (.inr ⟨a, ha, .inr hb, .inr hc⟩))
theorem con_self {P : Prt} {a : Nat} : con P a a = true := con_iff.2 (.inl rfl)
theorem con_tie {P : Prt} {t : Int × Int} (ht : t ∈ P.ties) (h1 : 0 ≤ t.1) (h2 : 0 ≤ t.2) : con P t.1.toNat t.2.toNat = true := con_iff.2 (.inr (.inl ⟨t, ht, .inl ⟨by omega, by omega⟩⟩))

end Go.Proofs.YtjlicnhkemfmiaaDoor

/- The definition's list of a set: plain laws. -/
import Derived.Test.YtomfcmlomfcghaaGreatDoorPtyE
import Derived.Test.YtomfcmlomfcghaaGreatDoorRVotes
set_option linter.unusedVariables false
set_option linter.unusedSimpArgs false
namespace Go.Proofs.YtomfcmlomfcghaaGreatDoor
open Go.RowKit

/-! the definition's list of a set -/
def setS (l : List Int) (c : Nat) : Bool := l.any (· == (c : Int))
theorem setS_snoc (l : List Int) (k : Nat) : setS (l ++ [(k : Int)]) = addS (setS l) k := by
  funext d
  unfold setS addS
  rw [List.any_append]
  congr 1
  rw [List.any_cons, List.any_nil, Bool.or_false]
  by_cases h : d = k
  · subst h; simp
  · rw [beq_eq_false_iff_ne.2 h, beq_eq_false_iff_ne]; omega
theorem cnt_nil (n : Nat) : cnt (setS []) n = 0 := by
  induction n with
  | zero => rfl
  | succ n ih => rw [cnt_succ, ih]; rfl
theorem vF_vt {P : Prt} (h : Good P) (l : List Int) {own : Int} (ho : 0 ≤ own) (c : Nat) : vs (vF l own (c : Int)) P.stakes = vt P own (setS l) c := by
  unfold vt
  refine vs_congr (fun s hs => ?_)
  obtain ⟨h1, _, _⟩ := fine_parts (h.s s hs).1
  unfold vF hold setS
  rw [decide_eq_false (show ¬ own < 0 by omega), Bool.false_or, show ((s.o.toNat : Nat) : Int) = s.o by omega]
theorem vF_all (P : Prt) (c : Nat) : vs (vF [] (-1) (c : Int)) P.stakes = vs (fun s => s.c == (c : Int)) P.stakes := by
  refine vs_congr (fun s _ => ?_)
  unfold vF
  rw [decide_eq_true (show (-1 : Int) < 0 by decide), Bool.true_or, Bool.and_true]
theorem half_pos : (0 : Rat) ≤ halfR := by unfold halfR; decide +kernel
theorem vt_kind {P : Prt} (h : Good P) {own : Int} {S : Nat → Bool} {c : Nat} (hk : kindAt P.kinds (c : Int) ≠ 2) : ¬ halfR < vt P own S c := by
  have : vt P own S c = 0 := by
    unfold vt
    refine vs_none (fun s hs => ?_)
    obtain ⟨_, _, h2, _⟩ := fine_parts (h.s s hs).1
    unfold hold
    rw [beq_eq_false_iff_ne.2 (fun e => hk (by rw [← e]; exact h2)), Bool.false_and]
  rw [this]
  exact Rat.not_lt.2 half_pos


end Go.Proofs.YtomfcmlomfcghaaGreatDoor

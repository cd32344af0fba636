/- The parties of two examples: plain laws. -/
import Derived.Test.YtomfcmlomfcghaaGreatDoorPtyC
set_option linter.unusedVariables false
set_option linter.unusedSimpArgs false
namespace Go.Proofs.YtomfcmlomfcghaaGreatDoor
open Go.RowKit

def manyP (n s t : Nat) : Prt := ⟨List.replicate n 2, List.replicate s ⟨0, 1, fqOf (frac 70 1)⟩, List.replicate t (0, 1)⟩
theorem many_chk {n s t : Nat} (hn : 2 ≤ n) : chk (manyP n s t) = if 32 < n ∨ 64 < s ∨ 64 < t then 2 else 0 := by
  by_cases h : 32 < n ∨ 64 < s ∨ 64 < t
  · rw [if_pos h]
    unfold chk manyP
    dsimp only
    rw [List.length_replicate, List.length_replicate, List.length_replicate, if_pos h]
  · rw [if_neg h]
    refine chk_of ⟨?_, ?_, ?_⟩ ?_ ?_ ?_ ?_
    · show (List.replicate n (2 : Int)).length ≤ 32; rw [List.length_replicate]; omega
    · show (List.replicate s _).length ≤ 64; rw [List.length_replicate]; omega
    · show (List.replicate t _).length ≤ 64; rw [List.length_replicate]; omega
    · rw [List.any_eq_false]
      intro k hk
      rw [List.eq_of_mem_replicate hk]; decide
    · intro x hx
      rw [List.eq_of_mem_replicate hx]
      refine stkErr_of ?_ ?_
      · unfold stkFine manyP
        dsimp only
        rw [List.length_replicate, inN_iff.2 ⟨by omega, by omega⟩, inN_iff.2 ⟨by omega, by omega⟩]
        have : kindAt (List.replicate n 2) 1 = 2 := by
          unfold kindAt
          simp [List.getD, List.getElem?_replicate, show 1 < n by omega]
        rw [this]; decide
      · rw [fixR_of]; exact f70p
    · rw [overs_false]
      intro c hc
      refine Rat.le_trans (vs_rep (s := ⟨0, 1, fqOf (frac 70 1)⟩) (d := 70) (by decide) (show fixR (fqOf (frac 70 1)) = frac 70 1 from fixR_of _) f70 s) ?_
      rw [← f70one]
      exact frac_le (by decide) f70 (by omega)
    · rw [List.all_eq_true]
      intro x hx
      rw [List.eq_of_mem_replicate hx]
      unfold tieFine manyP
      dsimp only
      rw [List.length_replicate, inN_iff.2 ⟨by omega, by omega⟩, inN_iff.2 ⟨by omega, by omega⟩]
      decide

def awP : Prt := ⟨[1, 2, 2], [⟨0, 1, fqOf (frac 10 6)⟩, ⟨0, 2, fqOf (frac 10 3)⟩, ⟨1, 2, fqOf (frac 10 3)⟩], []⟩
theorem aw_chk : chk awP = 0 := by
  refine chk_of ⟨by decide, by decide, by decide⟩ (by decide) ?_ ?_ (by decide)
  · intro x hx
    simp [awP] at hx
    rcases hx with rfl | rfl | rfl <;> refine stkErr_of (by decide) ?_ <;> rw [fixR_of] <;> exact frac_pos (by decide) f10p (by decide)
  · rw [overs_false]
    intro c hc
    have hc' : c = 0 ∨ c = 1 ∨ c = 2 := by have : c < 3 := hc; omega
    rcases hc' with rfl | rfl | rfl
    · show vs _ _ ≤ 1
      unfold vs awP
      simp
      decide +kernel
    · show vs _ _ ≤ 1
      unfold vs awP
      simp [fixR_of]
      decide +kernel
    · show vs _ _ ≤ 1
      unfold vs awP
      simp [fixR_of]
      decide +kernel
theorem aw_ctl : idxs (ctl awP 0) 3 = [1, 2] := by
  have hp := (Good.of_chk aw_chk).pos
  have h0 : ctl awP 0 0 = false := by
    rcases h : ctl awP 0 0 with _ | _
    · rfl
    · exact absurd rfl (ctl_ne h)
  have h1 : ctl awP 0 1 = true := by
    refine ctl_step hp (S := fun _ => false) (fun c h => by cases h) (by decide) (by decide) ?_
    unfold vt vs awP hold
    simp [fixR_of]
    decide +kernel
  have h2 : ctl awP 0 2 = true := by
    refine ctl_step hp (S := fun d => d == 1) (fun c h => by rw [beq_iff_eq] at h; rw [h]; exact h1) (by decide) (by decide) ?_
    unfold vt vs awP hold
    simp [fixR_of]
    decide +kernel
  rw [idxs_take, idxs_take, idxs_take, h0, h1, h2]
  rfl

end Go.Proofs.YtomfcmlomfcghaaGreatDoor

/- insolvencyref1: Opposite, Signum, Plus, Minus, Less in terms of Rat. -/
import Derived.Test.YtcljkdjmmolfoaaDoorRatTimes
import Derived.Test.YtcljkdjmmolfoaaDoorM4
set_option linter.unusedVariables false
set_option linter.unusedSimpArgs false
namespace Go.Proofs.YtcljkdjmmolfoaaDoor
open Go.RowKit

theorem neg_fields (a : Rat) : rnum (-a) = rnum a ∧ rden (-a) = rden a := by
  refine ⟨?_, rfl⟩
  rw [rnum, rnum, show (-a).num = -a.num from rfl, Int.natAbs_neg]

set_option maxHeartbeats 1000000 in
theorem refOpposite_calls (a : Rat) (w : World) :
    Calls Tryd.prog 38 #[ratV a] w fun e w' => e = .returned (ratV (-a)) ∧ Below w.heap.size w w' := by
  have hv : ratV (-a) = .agg #[.bool (rneg (-a)), .string (rnum a), .string (rden a)] := by rw [ratV, (neg_fields a).1, (neg_fields a).2]
  rw [hv, ratV]
  by_cases h0 : a = 0
  · have hn : rneg (-a) = rneg a := by rw [h0]; decide
    rw [hn, rnum_empty h0]
    obtain ⟨sa, hsa⟩ : ∃ x, x = rneg a := ⟨_, rfl⟩
    obtain ⟨da, hda⟩ : ∃ x, x = rden a := ⟨_, rfl⟩
    rw [← hsa, ← hda]
    clear hn hv h0 hsa hda
    go_enter Tryd.func38, Tryd.ntmps38
    go_wp2_with fail
    exact bodyPost_ret (v := .agg #[.bool sa, .string ⟨#[]⟩, .string da]) (by simp [results, Tryd.results38, go_sem]) rfl ⟨rfl, ((Below.refl _ _).alloc (Nat.le_refl _) _).alloc (by simp) _⟩
  · have hne := rnum_isEmpty h0
    have hn : rneg (-a) = !rneg a := by
      rw [rneg_neg]; simp only [decide_eq_true (natAbs_ne h0), Bool.and_true]
    rw [hn]
    obtain ⟨sa, hsa⟩ : ∃ x, x = rneg a := ⟨_, rfl⟩
    obtain ⟨na, hna⟩ : ∃ x, x = rnum a := ⟨_, rfl⟩
    obtain ⟨da, hda⟩ : ∃ x, x = rden a := ⟨_, rfl⟩
    rw [← hna] at hne
    rw [← hsa, ← hda, ← hna]
    clear hn hv h0 hsa hda hna
    go_enter Tryd.func38, Tryd.ntmps38
    go_wp2_with fail
    exact bodyPost_ret (v := .agg #[.bool (!sa), .string na, .string da]) (by simp [results, Tryd.results38, go_sem]) rfl ⟨rfl, ((Below.refl _ _).alloc (Nat.le_refl _) _).alloc (by simp) _⟩

/-- the sign of a number -/
def sgnR (a : Rat) : Int := if a = 0 then 0 else if rneg a = true then -1 else 1

theorem rt_le {w : World} {a b c : Obj} : Below w.heap.size w (((w.alloc a).alloc b).alloc c) :=
  (((Below.refl _ _).alloc (Nat.le_refl _) _).alloc (by simp) _).alloc (by simp <;> omega) _

end Go.Proofs.YtcljkdjmmolfoaaDoor

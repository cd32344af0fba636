/- insolvencylaw27: awake, same. -/
import Derived.Test.YtlljmiddgadcpaaTraceRef2
import Derived.Test.YtlljmiddgadcpaaTracePlain
import Derived.Test.YtlljmiddgadcpaaLaw26
set_option linter.unusedVariables false
set_option linter.unusedSimpArgs false
namespace Go.Proofs.Ytlljmiddgadcpaa
open Go.RowKit

def awRows : List Row := [⟨0, 1, 0, 1, 100, 0⟩, ⟨0, 1, 1, 2, 50, 0⟩, ⟨0, 3, 3, 1, 40, 0⟩]
theorem aw_err : traceErr awRows [0, 30, 0, 0] 0 = 0 := by decide +kernel
theorem aw_tr : (runW awRows 0 (initW [0, 30, 0, 0]) 3).tr = [0, 40, 20, 0] := by decide +kernel
theorem aw_lost : (runW awRows 0 (initW [0, 30, 0, 0]) 3).lost = 40 := by decide +kernel

set_option maxHeartbeats 1000000 in
theorem awake27_calls (w : World) : Calls Try.prog 4 #[] w fun e w' => e = .returned (.bool true) ∧ Below w.heap.size w w' := by
  go_enter Try.func4, Try.ntmps4
  go_wp2_with fail
  refine (trace_calls _ _ awRows _ _ [0, 30, 0, 0] 0 _ (Rd.next (rd_new _ _ _ 6 3 _ rfl rfl) ((Below.refl _ _).alloc (Nat.le_refl _) _)) (rd_new _ _ _ 1 4 _ (by simp) rfl) (by simp)).mono ?_
  rintro e w1 ⟨hb, _, hok⟩
  obtain ⟨g, hg, rfl, hrow⟩ := hok aw_err
  have e1 : (runW awRows 0 (initW [0, 30, 0, 0]) awRows.length) = runW awRows 0 (initW [0, 30, 0, 0]) 3 := rfl
  rw [e1] at hrow ⊢
  rw [aw_tr] at hrow
  rw [aw_lost]
  have k1 := hrow.cell (k := 1) rfl
  have k2 := hrow.cell (k := 2) rfl
  clear e1
  have HB : Below w.heap.size w w1 := ((((Below.refl _ _).alloc (Nat.le_refl _) _).alloc (by simp) _).trans (hb.mono (by simp <;> omega)))
  go_wp2_with fail
  go_ret
  exact ⟨rfl, HB⟩

theorem trace_same {rows : List Row} {os : List Int} {at_ : Int} (h : traceErr rows os at_ = 0) :
    runW rows at_ (initW os) rows.length = runR rows at_ (initW os) rows.length ∧ (runR rows at_ (initW os) rows.length).tr.length = os.length ∧
    (∃ rq, rows[at_.toNat]? = some rq ∧ rq.kind = 1 ∧ 0 ≤ at_ ∧ at_ < rows.length ∧ Inv os.length rows.length rq.amount (runR rows at_ (initW os) rows.length)) ∧
    (∀ k, k ≤ rows.length → ∃ amt, Inv os.length k amt (runR rows at_ (initW os) k)) ∧ (∀ r ∈ rows, RowOk os.length r) ∧ rows.length ≤ 256 := by
  unfold traceErr at h
  split at h
  · omega
  · rename_i hc
    split at h
    · omega
    · rename_i ho
      split at h
      · omega
      · rename_i hr
        split at h
        · omega
        · rename_i hk
          have hc0 : check os.length rows = 0 := by omega
          have hrl : rows.length ≤ 256 := by unfold check at hc0; split at hc0 <;> omega
          have hchk : chk os.length 0 rows = 0 := by unfold check at hc0; split at hc0 <;> omega
          have hall : ∀ r ∈ rows, RowOk os.length r := chk_ok _ _ _ hchk
          have hos : ∀ j, j < os.length → -1125899906842624 ≤ os.getD j 0 ∧ os.getD j 0 ≤ 1125899906842624 := fun j hj => by
            have hm : os.getD j 0 ∈ os := by rw [List.getD_eq_getElem?_getD, List.getElem?_eq_getElem hj]; exact List.getElem_mem hj
            have := ho
            rw [Bool.not_eq_true, List.any_eq_false] at this
            have := this _ hm
            simp [outOf] at this
            simp only [List.getD_eq_getElem?_getD]
            omega
          obtain ⟨rq, hrq⟩ := getElem?_of_lt (show at_.toNat < rows.length by omega)
          have hkind : rq.kind = 1 := by simp only [kindAt, hrq] at hk; omega
          have hrun := run_eq hos hall hrl (fun r hr' => by rw [hrq] at hr'; injection hr' with hr'; rw [← hr']; exact hkind) (show 0 ≤ at_ by omega)
          obtain ⟨e1, e2⟩ := hrun rows.length (Nat.le_refl _)
          rw [if_neg (by omega), hrq] at e2
          exact ⟨e1, e2.mid.len, ⟨rq, hrq, hkind, by omega, by omega, e2⟩, fun k hk => ⟨_, (hrun k hk).2⟩, hall, hrl⟩

end Go.Proofs.Ytlljmiddgadcpaa

/- insolvencylaw27: awake, same. -/
import Derived.Test.YtdkllifoglibcaaTraceRef2
import Derived.Test.YtdkllifoglibcaaTracePlain
import Derived.Test.YtdkllifoglibcaaLaw26
set_option linter.unusedVariables false
set_option linter.unusedSimpArgs false
namespace Go.Proofs.Ytdkllifoglibcaa
open Go.RowKit

def awRows : List Row := [⟨0, 1, 0, 1, 100, 0⟩, ⟨0, 1, 1, 2, 50, 0⟩, ⟨0, 3, 3, 1, 40, 0⟩]
theorem aw_err : traceErr awRows [0, 30, 0, 0] 0 = 0 := by decide +kernel
theorem aw_tr : (runW awRows 0 (initW [0, 30, 0, 0]) 3).tr = [0, 40, 20, 0] := by decide +kernel
theorem aw_lost : (runW awRows 0 (initW [0, 30, 0, 0]) 3).lost = 40 := by decide +kernel

set_option maxHeartbeats 1000000 in
theorem awake27_calls (w : World) : Calls Try.prog 12 #[] w fun e w' => e = .returned (.bool true) ∧ Below w.heap.size w w' := by
  go_enter Try.func12, Try.ntmps12
  go_wp2_with fail
  refine (trace_calls _ _ awRows _ _ [0, 30, 0, 0] 0 _ (Rd.next (rd_new _ _ _ 6 3 _ rfl rfl) ((Below.refl _ _).alloc (Nat.le_refl _) _)) (rd_new _ _ _ 1 4 _ (by simp) rfl) (by simp)).mono ?_
  rintro e w1 ⟨hb, _, hok⟩
  obtain ⟨g, hg, rfl, hrow⟩ := hok aw_err
  have e1 : (runW awRows 0 (initW [0, 30, 0, 0]) awRows.length) = runW awRows 0 (initW [0, 30, 0, 0]) 3 := rfl
  rw [e1] at hrow ⊢
  rw [aw_tr] at hrow
  rw [aw_lost]
  have k1 := hrow.cell (k := 1) rfl
  have k2 := hrow.cell (k := 2) rfl
  clear e1
  have HB : Below w.heap.size w w1 := ((((Below.refl _ _).alloc (Nat.le_refl _) _).alloc (by simp) _).trans (hb.mono (by simp <;> omega)))
  go_wp2_with fail
  go_ret
  exact ⟨rfl, HB⟩

theorem trace_same {rows : List Row} {os : List Int} {at_ : Int} (h : traceErr rows os at_ = 0) :
    runW rows at_ (initW os) rows.length = runR rows at_ (initW os) rows.length ∧ (runR rows at_ (initW os) rows.length).tr.length = os.length ∧
    (∃ rq, rows[at_.toNat]? = some rq ∧ rq.kind = 1 ∧ 0 ≤ at_ ∧ at_ < rows.length ∧ Inv os.length rows.length rq.amount (runR rows at_ (initW os) rows.length)) ∧
    (∀ k, k ≤ rows.length → ∃ amt, Inv os.length k amt (runR rows at_ (initW os) k)) ∧ (∀ r ∈ rows, RowOk os.length r) ∧ rows.length ≤ 256 := by
  unfold traceErr at h
  split at h
  · omega
  · rename_i hc
    split at h
    · omega
    · rename_i ho
      split at h
      · omega
      · rename_i hr
        split at h
        · omega
        · rename_i hk
          have hc0 : check os.length rows = 0 := by omega
          have hrl : rows.length ≤ 256 := by unfold check at hc0; split at hc0 <;> omega
          have hchk : chk os.length 0 rows = 0 := by unfold check at hc0; split at hc0 <;> omega
          have hall : ∀ r ∈ rows, RowOk os.length r := chk_ok _ _ _ hchk
          have hos : ∀ j, j < os.length → -1125899906842624 ≤ os.getD j 0 ∧ os.getD j 0 ≤ 1125899906842624 := fun j hj => by
            have hm : os.getD j 0 ∈ os := by rw [List.getD_eq_getElem?_getD, List.getElem?_eq_getElem hj]; exact List.getElem_mem hj
            have := ho
            rw [Bool.not_eq_true, List.any_eq_false] at this
            have := this _ hm
            simp [outOf] at this
            simp only [List.getD_eq_getElem?_getD]
            omega
          obtain ⟨rq, hrq⟩ := getElem?_of_lt (show at_.toNat < rows.length by omega)
          have hkind : rq.kind = 1 := by simp only [kindAt, hrq] at hk; omega
          have hrun := run_eq hos hall hrl (fun r hr' => by rw [hrq] at hr'; injection hr' with hr'; rw [← hr']; exact hkind) (show 0 ≤ at_ by omega)
          obtain ⟨e1, e2⟩ := hrun rows.length (Nat.le_refl _)
          rw [if_neg (by omega), hrq] at e2
          exact ⟨e1, e2.mid.len, ⟨rq, hrq, hkind, by omega, by omega, e2⟩, fun k hk => ⟨_, (hrun k hk).2⟩, hall, hrl⟩

set_option maxHeartbeats 2000000 in
theorem same_calls (A : Option Addr) (c : Nat) (rows : List Row) (A1 : Option Addr) (c1 : Nat) (os : List Int) (at_ : Int) (w : World) (hr : RowsRd w w.heap.size A rows) (ho : IntsRd w w.heap.size A1 os) (hn : os.length ≤ 1000000) :
    Calls Try.prog 13 #[.slice A rows.length c, .slice A1 os.length c1, .int .i64 at_] w fun e w' => e = .returned (.bool true) ∧ Below w.heap.size w w' := by
  go_enter Try.func13, Try.ntmps13
  go_wp2_with fail
  refine (trace_calls A c rows A1 c1 os at_ w hr ho hn).mono ?_
  rintro e w1 ⟨hb1, hne, heq⟩
  replace hr := hr.next hb1
  replace ho := ho.next hb1
  by_cases he : traceErr rows os at_ = 0
  · obtain ⟨g, hg, rfl, hrow⟩ := heq he
    obtain ⟨e1, e2, _⟩ := trace_same he
    rw [e1] at hrow ⊢
    obtain ⟨S, hS⟩ : ∃ S, S = runR rows at_ (initW os) rows.length := ⟨_, rfl⟩
    rw [← hS] at hrow e2 ⊢
    have HS := Lib.hid hS
    have HE := Lib.hid he
    clear hne heq he hS e1
    go_wp2_with fail
    refine (traceRef_calls A c rows A1 c1 os at_ w1 hr ho hn).mono ?_
    rintro e w2 ⟨hb2, _, heq⟩
    obtain ⟨g2, hg2, rfl, hrow2⟩ := heq HE.out
    rw [← HS.out] at hrow2 ⊢
    have hrow1 : IRow w2 g S.tr := hrow.below hb2 hrow.lt
    have HB := hb1.trans (hb2.mono hb1.size)
    have H1 := Lib.hid hrow1
    have H2 := Lib.hid hrow2
    have hl2 := Lib.hid e2
    clear heq hrow hrow1 hrow2 hr ho hb1 hb2 e2
    go_wp2_with fail
    go_loopw [13] (fun i wr => ∃ k : Nat, k ≤ os.length ∧ i = .int .i64 k ∧ ∃ m, wr = w2.drewN m) (fun i _ => os.length - (intOf i).toNat)
    case atStart => exact ⟨0, by omega, rfl, 0, rfl⟩
    case round =>
      obtain ⟨k, hk, rfl, m, rfl⟩ := hrel
      by_cases hlt : k < os.length
      · have k1 : w2.cell? ⟨g, k, none⟩ = some (.int .i64 (S.tr.getD k 0)) := H1.out.getD (by rw [hl2.out]; exact hlt)
        have k2 : w2.cell? ⟨g2, k, none⟩ = some (.int .i64 (S.tr.getD k 0)) := H2.out.getD (by rw [hl2.out]; exact hlt)
        obtain ⟨z, hz⟩ : ∃ z, z = S.tr.getD k 0 := ⟨_, rfl⟩
        rw [← hz] at k1 k2
        clear hz
        go_wp2_with fail
        go_quiet (fail)
        go_wp2_with fail
        go_roundw
        case measure => simp [intOf] <;> omega
        case rel => exact ⟨k + 1, by omega, by go_num, _, rfl⟩
      · go_wp2_with fail
        go_ret
        exact ⟨rfl, HB.drewN _⟩
  · obtain rfl := hne he
    have HE := Lib.hid he
    obtain ⟨V, hV⟩ : ∃ V, V = traceErr rows os at_ := ⟨_, rfl⟩
    rw [← hV]
    have HV := Lib.hid hV
    clear hne heq he hV
    go_wp2_with fail
    refine (traceRef_calls A c rows A1 c1 os at_ w1 hr ho hn).mono ?_
    rintro e w2 ⟨hb2, hne, _⟩
    obtain rfl := hne HE.out
    rw [← HV.out]
    have HB := hb1.trans (hb2.mono hb1.size)
    clear hne hr ho hb1 hb2
    go_wp2_with fail
    refine wp_loop_rounds 1 ?_
    rw [rounds_succ]
    go_wp2_with fail
    go_ret
    exact ⟨rfl, HB⟩

end Go.Proofs.Ytdkllifoglibcaa

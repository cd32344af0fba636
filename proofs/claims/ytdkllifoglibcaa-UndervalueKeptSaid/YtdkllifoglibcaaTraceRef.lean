/- The definition's CheckTrace and Trace. -/
import Derived.Test.YtdkllifoglibcaaTraceRefW
import Derived.Test.YtdkllifoglibcaaHistRef
import Derived.Test.YtdkllifoglibcaaTrace
set_option linter.unusedVariables false
set_option linter.unusedSimpArgs false
namespace Go.Proofs.Ytdkllifoglibcaa
open Go.RowKit

set_option maxHeartbeats 4000000 in
set_option maxRecDepth 100000 in
theorem checkTrace_calls (A : Option Addr) (c : Nat) (rows : List Row) (A1 : Option Addr) (c1 : Nat) (os : List Int) (at_ : Int) (w : World) (hr : RowsRd w w.heap.size A rows) (ho : IntsRd w w.heap.size A1 os) (hn : os.length ≤ 1000000) :
    Calls Try.prog 24 #[.slice A rows.length c, .slice A1 os.length c1, .int .i64 at_] w fun e w' => e = .returned (.int .i64 (traceErr rows os at_)) ∧ Below w.heap.size w w' := by
  obtain ⟨E, hE⟩ : ∃ E, E = check os.length rows := ⟨_, rfl⟩
  have HE := Lib.hid hE
  clear hE
  obtain ⟨V, hV⟩ : ∃ V, V = traceErr rows os at_ := ⟨_, rfl⟩
  rw [← hV]
  have HV := Lib.hid hV
  clear hV
  go_enter Try.func24, Try.ntmps24
  go_wp2_with fail
  refine (checkRef_calls A c rows os.length w hr).mono ?_
  rintro e w1 ⟨rfl, hb1⟩
  rw [← HE.out]
  have HR := Lib.hid (hr.next hb1)
  have HO := Lib.hid (ho.next hb1)
  clear hr ho
  by_cases he : E = 0
  · subst he
    go_wp2_with fail
    go_loopw [8] (fun i wr => ∃ k : Nat, k ≤ os.length ∧ i = .int .i64 k ∧ Hid (∀ x ∈ os.take k, outOf x = false) ∧ wr = w1) (fun i _ => os.length - (intOf i).toNat)
    case atStart => exact ⟨0, by omega, rfl, by simp [Hid], rfl⟩
    case round =>
      obtain ⟨k, hk, rfl, HK, rfl⟩ := hrel
      by_cases hlt : k < os.length
      · obtain ⟨x, hxk⟩ := getElem?_of_lt hlt
        obtain ⟨b, off, rfl, hbl, cx⟩ := HO.out.at_ hxk
        by_cases hx : outOf x = true
        · have HF : Hid (V = 1) := by
            show _ = _
            rw [HV.out]
            unfold traceErr
            rw [← HE.out, if_neg (by simp), if_pos (List.any_eq_true.2 ⟨x, List.mem_of_getElem? hxk, hx⟩)]
          have hx2 : x < -1125899906842624 ∨ 1125899906842624 < x := by simpa [outOf] using hx
          clear hx hxk
          rcases hx2 with hx2 | hx2
          · have hx3 : ¬ 1125899906842624 < x := by omega
            go_wp2_with fail
            go_ret
            exact ⟨ret_int HF.out.symm, hb1⟩
          · go_wp2_with fail
            go_ret
            exact ⟨ret_int HF.out.symm, hb1⟩
        · have hx2 : ¬ x < -1125899906842624 ∧ ¬ 1125899906842624 < x := by simpa [outOf] using hx
          obtain ⟨hx3, hx4⟩ := hx2
          have HN : Hid (∀ y ∈ os.take (k+1), outOf y = false) := by
            intro y hy
            rw [List.take_add_one, hxk] at hy
            rcases List.mem_append.1 hy with hy | hy
            · exact HK.out y hy
            · simp at hy; subst hy; simpa using hx
          clear hx hxk
          go_wp2_with fail
          go_roundw
          case measure => simp [intOf] <;> omega
          case rel => first | exact ⟨k + 1, by omega, by go_num, HN, trivial⟩ | exact ⟨k + 1, by omega, by go_num, HN, rfl⟩
      · have HOut : Hid (os.any outOf = false) := by
          show _ = _
          have hkk : k = os.length := by omega
          have := HK.out
          rw [hkk, List.take_length] at this
          rw [List.any_eq_false]
          intro x hx
          simp [this x hx]
        clear HK
        by_cases hat : 0 ≤ at_ ∧ at_ < (rows.length : Int)
        · obtain ⟨hat0, hat1⟩ := hat
          obtain ⟨q, rfl⟩ := Int.eq_ofNat_of_zero_le hat0
          have hql : q < rows.length := by omega
          obtain ⟨rq, hrq⟩ := getElem?_of_lt hql
          obtain ⟨br, offr, rfl, hbr, e0, e1, e2, e3, e4, e5⟩ := HR.out.at_ hrq
          by_cases hk1 : rq.kind = 1
          · have HF : Hid (V = 0) := by
              show _ = _
              rw [HV.out]
              unfold traceErr
              rw [← HE.out, if_neg (by simp), HOut.out, if_neg (by simp), if_neg (by omega), if_neg (by unfold kindAt; simp only [Int.toNat_natCast, hrq]; simpa using hk1)]
            have hk2 : (rq.kind != 1) = false := by simpa using hk1
            clear hk1 hrq
            go_wp2_with fail
            go_ret
            exact ⟨ret_int HF.out.symm, hb1⟩
          · have HF : Hid (V = 13) := by
              show _ = _
              rw [HV.out]
              unfold traceErr
              rw [← HE.out, if_neg (by simp), HOut.out, if_neg (by simp), if_neg (by omega), if_pos (by unfold kindAt; simp only [Int.toNat_natCast, hrq]; exact hk1)]
            have hk2 : (rq.kind != 1) = true := by simpa using hk1
            clear hk1 hrq
            go_wp2_with fail
            go_ret
            exact ⟨ret_int HF.out.symm, hb1⟩
        · have HF : Hid (V = 1) := by
            show _ = _
            rw [HV.out]
            unfold traceErr
            rw [← HE.out, if_neg (by simp), HOut.out, if_neg (by simp), if_pos (by omega)]
          by_cases hneg : at_ < 0
          · clear hat
            go_wp2_with fail
            go_ret
            exact ⟨ret_int HF.out.symm, hb1⟩
          · have hge : (rows.length : Int) ≤ at_ := by omega
            clear hat
            go_wp2_with fail
            go_ret
            exact ⟨ret_int HF.out.symm, hb1⟩
  · have HF : Hid (V = E) := by
      show _ = _
      rw [HV.out]
      unfold traceErr
      rw [← HE.out, if_pos he]
    have he2 : (E != 0) = true := by simpa using he
    clear he
    go_wp2_with fail
    go_ret
    exact ⟨ret_int HF.out.symm, hb1⟩

end Go.Proofs.Ytdkllifoglibcaa

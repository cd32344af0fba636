/- The contract of preference.Exposure and of the definition's Exposure. -/
import Derived.Test.YtomfcmlomfcghaaDoorRow
import Derived.Test.YtomfcmlomfcghaaDoorRows
set_option linter.unusedVariables false
set_option linter.unusedSimpArgs false
namespace Go.Proofs.YtomfcmlomfcghaaDoor
open Go.RowKit

set_option maxHeartbeats 1000000 in
theorem expo_calls (A : Option Addr) (c : Nat) (rows : List Row) (deb cre f t : Int) (w : World) (hn : rows.length ≤ 9223372036854775807) (hr : RowsRd w w.heap.size A rows) :
    Calls Tryd.prog 47 #[.slice A rows.length c, .int .i64 deb, .int .i64 cre, .int .i64 f, .int .i64 t] w fun e w' => e = .returned (.int .i64 (expo deb cre f t rows)) ∧ Below w.heap.size w w' := by
  by_cases hd : deb = cre
  · have hE : expo deb cre f t rows = 0 := by simp [expo, hd]
    have HE := Lib.hid hE
    clear hE hr
    subst hd
    go_enter Tryd.func47, Tryd.ntmps47
    go_wp2
    go_ret
    exact ⟨ret_int HE.out.symm, Below.refl _ _⟩
  · have hE : expo deb cre f t rows = rows.foldl (expoStep deb cre f t) 0 := by simp [expo, hd]
    have HE := Lib.hid hE
    have hd' : (deb == cre) = false := by simpa using hd
    clear hE
    go_enter Tryd.func47, Tryd.ntmps47
    go_wp2
    go_loopw [11, 19] (fun o i wr => ∃ (k : Nat) (x : Int), k ≤ rows.length ∧ i = .int .i64 k ∧ o = .int .i64 x ∧ Hid (x = (rows.take k).foldl (expoStep deb cre f t) 0) ∧ Below w.heap.size w wr) (fun _ i _ => rows.length - (intOf i).toNat)
    case atStart => exact ⟨0, 0, by omega, rfl, rfl, rfl, Below.refl _ _⟩
    case round =>
      obtain ⟨k, x, hk, rfl, rfl, HX, hbel⟩ := hrel
      by_cases hlt : k < rows.length
      · obtain ⟨r, hrk⟩ := getElem?_of_lt hlt
        obtain ⟨b, off, rfl, hb, c0, c1, c2, c3, c4, c5⟩ := (hr.below hbel).at_ hrk
        have hbs : b < wr.heap.size := by have := hbel.size; omega
        have HN : Hid ((rows.take (k+1)).foldl (expoStep deb cre f t) 0 = expoStep deb cre f t x r) := by
          rw [HX.out]; exact take_foldl _ _ _ _ _ hrk
        clear hrk hr HX HE
        go_wp2
        all_goals
          go_roundw
          case measure => simp [intOf]; omega
          case rel =>
            refine ⟨k + 1, _, by omega, by go_num, rfl, ?_, hbel.alloc hbel.size _⟩
            show _ = _
            rw [HN.out]
            clear c0 c1 c2 c3 c4 c5 HN
            simp only [beq_iff_eq, beq_eq_false_iff_ne] at *
            unfold expoStep
            repeat' split
            all_goals first | rfl | (exfalso; omega)
      · have hkk : k = rows.length := by omega
        go_wp2
        go_ret
        refine ⟨ret_int ?_, hbel⟩
        rw [HE.out, HX.out, hkk, List.take_length]

end Go.Proofs.YtomfcmlomfcghaaDoor

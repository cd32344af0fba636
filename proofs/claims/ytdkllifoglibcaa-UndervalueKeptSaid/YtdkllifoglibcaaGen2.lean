/- insolvencylaw0.Rows once more: the capacity holds the rows. -/
import Derived.Test.YtdkllifoglibcaaGen
set_option linter.unusedVariables false
set_option linter.unusedSimpArgs false
namespace Go.Proofs.Ytdkllifoglibcaa
open Go.RowKit

set_option maxHeartbeats 2000000 in
theorem rows_calls2 (A : Option Addr) (c : Nat) (l : List W5) (parties most : Int) (w : World) (hp : 2 ≤ parties) (hp2 : parties ≤ 1000) (hm : 0 ≤ most) (hm2 : most ≤ 1000) (hn : l.length ≤ 9223372036854775807) (hr : W5Rd w w.heap.size A l) (hok : ∀ x ∈ l, x.ok) :
    Calls Try.prog 9 #[.slice A l.length c, .int .i64 parties, .int .i64 most] w fun e w' => ∃ A' c' rows, e = .returned (.slice A' rows.length c') ∧ RowsRd w' w'.heap.size A' rows ∧ rows.length ≤ c' ∧ (rows.length : Int) ≤ most ∧ GoodRows parties (5 * most) rows ∧ Below w.heap.size w w' := by
  obtain ⟨i0, hi, hz0, hz1, hz2⟩ := info_parts Try.info30
  have HR := Lib.hid hr
  clear hr
  have HO := Lib.hid hok
  clear hok
  go_enter Try.func9, Try.ntmps9
  go_wp2
  go_loopw [7, 8, 16] (fun o dd i wr => ∃ (k : Nat) (d : Int) (rows : List Row), k ≤ l.length ∧ i = .int .i64 k ∧ dd = .int .i64 d ∧ 0 ≤ d ∧ d ≤ 5 * rows.length ∧ (rows.length : Int) ≤ most ∧
      wr.ownsRow w.heap.size 30 6 o rows.length (rows.flatMap Row.cells) ∧ Hid (GoodRows parties d rows) ∧ Below w.heap.size w wr) (fun _ _ i _ => l.length - (intOf i).toNat)
  case atStart => exact ⟨0, 0, [], by omega, rfl, rfl, by omega, by simp, by simp; omega, World.ownsRow_nil _ _ _ _, GoodRows.nil _ _, Below.refl _ _⟩
  case round =>
    obtain ⟨k, d, rows, hk, rfl, rfl, hd0, hd1, hlen, hown, HG, hbel⟩ := hrel
    obtain ⟨A', c', hv, hrd, hle⟩ := own_shape hown
    subst hv
    by_cases hlt : k < l.length
    · obtain ⟨r, hrk⟩ := getElem?_of_lt hlt
      obtain ⟨⟨a0, a1⟩, ⟨b0, b1⟩, ⟨e0, e1⟩, ⟨d0, d1⟩, ⟨f0, f1⟩⟩ := HO.out r (List.mem_of_getElem? hrk)
      obtain ⟨b, off, rfl, hb, c0, c1, c2, c3, c4⟩ := W5Rd.at_ (Rd.below HR.out hbel) hrk
      have hbs : b < wr.heap.size := by have := hbel.size; omega
      clear hrk HR HO hrd
      by_cases hfull : most ≤ (rows.length : Int)
      · go_wp2
        go_ret
        exact ⟨A', c', rows, rfl, own_rd (hown.alloc _), hle, hlen, HG.out.more (by omega), hbel.alloc hbel.size _⟩
      · have hfull' : (rows.length : Int) < most := by omega
        clear hfull
        have g0 := Int.emod_nonneg r.c (show parties ≠ 0 by omega)
        have g1 := Int.emod_lt_of_pos r.c (show 0 < parties by omega)
        have g2 := Int.emod_nonneg r.d (show parties - 1 ≠ 0 by omega)
        have g3 := Int.emod_lt_of_pos r.d (show 0 < parties - 1 by omega)
        go_wp2_with (at_builtin; refine wpList_append_own _ rfl (.tmp 72) (.tmp 74) _ rfl w.heap.size 30 i0 _ 6 48 Try.underlying22 hi hz0 hz1 hz2 rfl (by decide) _ _ _ rfl (by exact ((hown.alloc _).alloc _).alloc _) _ 1 1 _ rfl rfl (new_cells _ _ _ _ (by simp)) (by simp [Value.oneCell']) (by simp only [maxLen]; omega) (by omega) (by have := hbel.size; simp; omega) ?_)
        all_goals
          intro v' w1 hown' hg _
          have hb1 : Below w.heap.size w w1 := by
            refine Below.grown ?_ hg (by have := hbel.size; simp; omega) (fun q hq => (hown.lt q hq).1)
            exact ((hbel.alloc hbel.size _).alloc (by have := hbel.size; simp; omega) _).alloc (by have := hbel.size; simp; omega) _
          have h2 := own_snoc hown'
          clear hown' hg hown
          go_wp2
          go_roundw
          case measure => simp [intOf]; omega
          case rel =>
            simp only [beq_iff_eq, beq_eq_false_iff_ne] at *
            refine ⟨k + 1, _, _, by omega, by go_num, rfl, by omega, by rw [List.length_append, List.length_singleton]; omega, by rw [List.length_append, List.length_singleton]; omega, h2, HG.out.snoc (by omega) _ ?_ rfl, hb1⟩
            have hw := worth_bd r.e f0 f1
            unfold Row.good
            dsimp only
            omega
    · have hkk : k = l.length := by omega
      go_wp2
      go_ret
      exact ⟨A', c', rows, rfl, own_rd hown, hle, hlen, HG.out.more (by omega), hbel⟩

end Go.Proofs.Ytdkllifoglibcaa

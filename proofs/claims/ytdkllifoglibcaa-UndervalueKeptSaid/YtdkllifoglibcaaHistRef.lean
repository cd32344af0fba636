/- The definition's Money, Check, CheckTrace. -/
import Derived.Test.YtdkllifoglibcaaHistDef
import Derived.Test.YtdkllifoglibcaaRows
import Derived.BigQuiet
import Derived.Deep.QuietTactic
set_option linter.unusedVariables false
set_option linter.unusedSimpArgs false
namespace Go.Proofs.Ytdkllifoglibcaa
open Go.RowKit

/-- the definition's Money, with its own wraps -/
def moneyRef (r : Row) (p : Int) : Int :=
  let f := if r.kind = 1 then wrap64 (-r.amount) else if r.kind = 3 then r.amount else 0
  let n := if r.frm = p then wrap64 (0 + f) else 0
  if r.to = p then wrap64 (n - f) else n

set_option maxHeartbeats 1000000 in
theorem moneyRef_calls (r : Row) (p : Int) (w : World) :
    Calls Try.prog 18 #[.agg #[.int .i64 r.day, .int .i64 r.kind, .int .i64 r.frm, .int .i64 r.to, .int .i64 r.amount, .int .i64 r.worth], .int .i64 p] w fun e w' => e = .returned (.int .i64 (moneyRef r p)) ∧ Below w.heap.size w w' := by
  go_enter Try.func18, Try.ntmps18
  go_wp2
  all_goals
    go_ret
    refine ⟨ret_int ?_, (Below.refl _ _).alloc (Nat.le_refl _) _⟩
    unfold moneyRef
    simp only [beq_iff_eq, beq_eq_false_iff_ne] at *
    repeat' split
    all_goals first | rfl | (exfalso; omega) | (simp [wrap64]; done)

set_option maxHeartbeats 4000000 in
set_option maxRecDepth 100000 in
theorem checkRef_calls (A : Option Addr) (c : Nat) (rows : List Row) (n : Int) (w : World) (hr : RowsRd w w.heap.size A rows) :
    Calls Try.prog 27 #[.int .i64 n, .slice A rows.length c] w fun e w' => e = .returned (.int .i64 (check n rows)) ∧ Below w.heap.size w w' := by
  by_cases hb : 256 < rows.length
  · have hE : check n rows = 2 := by simp [check, hb]
    have HE := Lib.hid hE
    clear hE hr
    go_enter Try.func27, Try.ntmps27
    go_wp2
    go_ret
    exact ⟨ret_int HE.out.symm, Below.refl _ _⟩
  · have hE : check n rows = chk n 0 rows := by simp [check, hb]
    have HE := Lib.hid hE
    have hb' : rows.length ≤ 256 := by omega
    clear hE hb
    go_enter Try.func27, Try.ntmps27
    go_wp2_with fail
    go_loopw [5] (fun i wr => ∃ (k : Nat) (b : Int), k ≤ rows.length ∧ i = .int .i64 k ∧ Hid ((k = 0 ∧ b = 0) ∨ (∃ m r, k = m + 1 ∧ rows[m]? = some r ∧ b = r.day)) ∧ Hid (chk n 0 rows = chk n b (rows.drop k)) ∧ Below w.heap.size w wr) (fun i _ => rows.length - (intOf i).toNat)
    case atStart => exact ⟨0, 0, by omega, rfl, .inl ⟨rfl, rfl⟩, by simp [Hid], Below.refl _ _⟩
    case round =>
      obtain ⟨k, b, hk, rfl, HK, HX, hbel⟩ := hrel
      by_cases hlt : k < rows.length
      · obtain ⟨r, hrk⟩ := getElem?_of_lt hlt
        obtain ⟨bb, off, rfl, hbb, c0, c1, c2, c3, c4, c5⟩ := (hr.below hbel).at_ hrk
        have hbs : bb < wr.heap.size := by have := hbel.size; omega
        have HN : Hid (chk n 0 rows = if rowErr n b r ≠ 0 then rowErr n b r else chk n r.day (rows.drop (k+1))) := by
          rw [HX.out, List.drop_eq_getElem_cons hlt, chk]
          rw [(List.getElem?_eq_some_iff.1 hrk).2]; rfl
        have HRK := Lib.hid hrk
        clear hrk HX
        have hb1 : Below w.heap.size w (wr.alloc (.cells #[.int .i64 r.day, .int .i64 r.kind, .int .i64 r.frm, .int .i64 r.to, .int .i64 r.amount, .int .i64 r.worth] 30)) := hbel.alloc hbel.size _
        by_cases hgood : rowRange r = true ∧ rowParty n r = true
        · obtain ⟨g1, g2⟩ := hgood
          have HG : Hid (rowErr n b r = if r.day < b then 15 else 0) := by simp [Hid, rowErr, g1, g2]
          unfold rowRange at g1
          unfold rowParty at g2
          simp only [decide_eq_true_eq] at g1 g2
          obtain ⟨q1, q2, q3, q4, q5, q6, q7, q8, q9⟩ := g1
          obtain ⟨s1, s2, s3, s4, s5⟩ := g2
          have u1 : ¬ r.kind < 1 := by omega
          have u2 : ¬ 3 < r.kind := by omega
          have u3 : ¬ r.frm < 0 := by omega
          have u4 : ¬ n ≤ r.frm := by omega
          have u5 : ¬ r.to < 0 := by omega
          have u6 : ¬ n ≤ r.to := by omega
          have u7 : (r.frm == r.to) = false := by simpa using s5
          have q9 : (r.worth != 0) = false ∨ (r.worth != 0) = true ∧ (r.kind != 3) = false := by
            by_cases hw : r.worth = 0
            · exact .inl (by simp [hw])
            · exact .inr ⟨by simp [hw], by simp; omega⟩
          clear s5
          by_cases hpos : 0 < k
          · have hd : decide ((0 : Int) < (k : Int)) = true := by simp; omega
            obtain ⟨r', hr'⟩ : ∃ r', rows[k-1]? = some r' ∧ b = r'.day := by
              rcases HK.out with h | ⟨m, r', hm, h1, h2⟩
              · omega
              · exact ⟨r', by rw [hm]; exact h1, h2⟩
            obtain ⟨b2, off2, hA2, hbb2, p0, _⟩ := (hr.below hbel).at_ hr'.1
            simp only [Option.some.injEq, Addr.mk.injEq, and_true] at hA2
            obtain ⟨rfl, rfl⟩ := hA2
            have HB := Lib.hid hr'.2
            have hk1 : 1 ≤ k := hpos
            clear hr HK hr'
            rcases q9 with q9 | ⟨q9, q10⟩
            all_goals
              go_wp2_with go_in
              go_quiet (fail)
              by_cases hday : r.day < r'.day
              · go_wp2
                go_ret
                refine ⟨ret_int ?_, hb1.drewN _⟩
                rw [HE.out, HN.out, HG.out, HB.out, if_pos hday]; rfl
              · go_wp2
                go_roundw
                case measure => simp [intOf] <;> omega
                case rel =>
                  refine ⟨k + 1, r.day, by omega, by go_num, .inr ⟨k, r, rfl, HRK.out, rfl⟩, ?_, hb1.drewN _⟩
                  have := HN.out
                  rw [HG.out, HB.out, if_neg hday] at this
                  exact this
          · have hb0 : b = 0 := by
              rcases HK.out with h | ⟨m, r', hm, _⟩
              · exact h.2
              · omega
            have HB := Lib.hid hb0
            obtain rfl : k = 0 := by omega
            simp only [Nat.zero_mul, Nat.add_zero] at c0 c1 c2 c3 c4 c5
            have hlt0 : 0 < rows.length := hlt
            clear hr HK hb0 hpos
            rcases q9 with q9 | ⟨q9, q10⟩
            all_goals
              go_wp2_with go_in
              go_quiet (fail)
              go_wp2
              go_roundw
              case measure => simp [intOf] <;> omega
              case rel =>
                refine ⟨1, r.day, by omega, by go_num, .inr ⟨0, r, rfl, HRK.out, rfl⟩, ?_, hb1.drewN _⟩
                have := HN.out
                rw [HG.out, HB.out, if_neg (by omega)] at this
                exact this
        · clear HRK HK hr
          have key : ∀ V : Int, V ≠ 0 → V = rowErr n b r → V = check n rows := fun V h1 h2 => by rw [HE.out, HN.out, ← h2, if_pos h1]
          have HK2 := Lib.hid key
          clear key
          have HBad : Hid (¬ (rowRange r = true ∧ rowParty n r = true)) := hgood
          clear hgood
          go_wp2
          all_goals first
            | (go_ret
               refine ⟨ret_int (HK2.out _ (by decide) ?_), hbel.alloc hbel.size _⟩
               clear c0 c1 c2 c3 c4 c5 HN HE HK2
               unfold rowErr rowRange rowParty
               simp only [beq_iff_eq, beq_eq_false_iff_ne, bne_iff_ne, bne_eq_false_iff_eq, decide_eq_false_iff_not, ne_eq] at *
               repeat' split
               all_goals first | rfl | (exfalso; omega))
            | (exfalso
               have hx := HBad.out
               clear HBad
               apply hx
               clear hx
               unfold rowRange rowParty
               simp only [beq_iff_eq, beq_eq_false_iff_ne, bne_iff_ne, bne_eq_false_iff_eq, decide_eq_false_iff_not, decide_eq_true_eq, ne_eq] at *
               omega)
      · have hkk : k = rows.length := by omega
        go_wp2_with fail
        go_ret
        refine ⟨ret_int ?_, hbel⟩
        rw [HE.out, HX.out, hkk, List.drop_length, chk]

end Go.Proofs.Ytdkllifoglibcaa

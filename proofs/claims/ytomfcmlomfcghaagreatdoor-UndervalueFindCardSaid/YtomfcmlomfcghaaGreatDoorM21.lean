/- Merged of PHistDef PHist. -/
import Derived.Test.YtomfcmlomfcghaaGreatDoorM20
import Derived.Test.YtomfcmlomfcghaaGreatDoorRows
/- Lean's words for the history: errors of rows, money of a row. Nothing of the program. -/
set_option linter.unusedVariables false
set_option linter.unusedSimpArgs false
namespace Go.Proofs.YtomfcmlomfcghaaGreatDoor
open Go.RowKit

def rowRange (r : Row) : Bool := decide (0 ≤ r.day ∧ r.day ≤ 1048576 ∧ 1 ≤ r.kind ∧ r.kind ≤ 3 ∧ 0 ≤ r.amount ∧ r.amount ≤ 1125899906842624 ∧ 0 ≤ r.worth ∧ r.worth ≤ 1125899906842624 ∧ (r.worth = 0 ∨ r.kind = 3))
def rowParty (n : Int) (r : Row) : Bool := decide (0 ≤ r.frm ∧ r.frm < n ∧ 0 ≤ r.to ∧ r.to < n ∧ r.frm ≠ r.to)
def rowErr (n before : Int) (r : Row) : Int := if rowRange r = false then 1 else if rowParty n r = false then 14 else if r.day < before then 15 else 0
def hchk (n : Int) : Int → List Row → Int
  | _, [] => 0
  | b, r :: l => if rowErr n b r ≠ 0 then rowErr n b r else hchk n r.day l
def hcheck (n : Int) (rows : List Row) : Int := if 256 < rows.length then 2 else hchk n 0 rows

def moneyOf (r : Row) (p : Int) : Int :=
  let n := if r.kind = 1 then r.amount else if r.kind = 3 then wrap64 (-r.amount) else 0
  let o := if r.to = p then wrap64 (0 + n) else 0
  if r.frm = p then wrap64 (o - n) else o

theorem hchk_ok (n : Int) : ∀ (rows : List Row) (b : Int), hchk n b rows = 0 → ∀ r ∈ rows, rowRange r = true ∧ rowParty n r = true
  | [], _, _, r, hr => by simp at hr
  | x :: l, b, h, r, hr => by
    rw [hchk] at h
    split at h
    · rename_i hne; exact absurd h hne
    · rename_i hne
      have hx : rowErr n b x = 0 := by omega
      rcases List.mem_cons.1 hr with rfl | hr
      · unfold rowErr at hx
        repeat' split at hx
        all_goals simp_all
      · exact hchk_ok n l _ h r hr

end Go.Proofs.YtomfcmlomfcghaaGreatDoor

/- history.Money, checkRow, Check. -/
set_option linter.unusedVariables false
set_option linter.unusedSimpArgs false
namespace Go.Proofs.YtomfcmlomfcghaaGreatDoor
open Go.RowKit

set_option maxHeartbeats 1000000 in
theorem money_calls (r : Row) (p : Int) (w : World) :
    Calls Tryz.prog 109 #[.agg #[.int .i64 r.day, .int .i64 r.kind, .int .i64 r.frm, .int .i64 r.to, .int .i64 r.amount, .int .i64 r.worth], .int .i64 p] w fun e w' => e = .returned (.int .i64 (moneyOf r p)) ∧ Below w.heap.size w w' := by
  have HM : Hid (moneyOf r p = moneyOf r p) := rfl
  go_enter Tryz.func109, Tryz.ntmps109
  go_wp2
  all_goals
    go_ret
    refine ⟨ret_int ?_, (Below.refl _ _).alloc (Nat.le_refl _) _⟩
    unfold moneyOf
    simp only [beq_iff_eq, beq_eq_false_iff_ne] at *
    repeat' split
    all_goals first | rfl | (exfalso; omega) | (simp [wrap64]; done)

set_option maxHeartbeats 2000000 in
theorem checkRow_calls (r : Row) (n before : Int) (w : World) :
    Calls Tryz.prog 76 #[.int .i64 n, .agg #[.int .i64 r.day, .int .i64 r.kind, .int .i64 r.frm, .int .i64 r.to, .int .i64 r.amount, .int .i64 r.worth], .int .i64 before] w fun e w' => e = .returned (.int .i64 (rowErr n before r)) ∧ Below w.heap.size w w' := by
  go_enter Tryz.func76, Tryz.ntmps76
  go_wp2
  all_goals
    go_ret
    refine ⟨ret_int ?_, (Below.refl _ _).alloc (Nat.le_refl _) _⟩
    unfold rowErr rowRange rowParty
    simp only [beq_iff_eq, beq_eq_false_iff_ne, bne_iff_ne, bne_eq_false_iff_eq, decide_eq_false_iff_not, ne_eq] at *
    repeat' split
    all_goals first | rfl | (exfalso; omega)

set_option maxHeartbeats 2000000 in
theorem hcheck_calls (A : Option Addr) (c : Nat) (rows : List Row) (n : Int) (w : World) (hr : RowsRd w w.heap.size A rows) :
    Calls Tryz.prog 54 #[.int .i64 n, .slice A rows.length c] w fun e w' => e = .returned (.int .i64 (hcheck n rows)) ∧ Below w.heap.size w w' := by
  by_cases hb : 256 < rows.length
  · have hE : hcheck n rows = 2 := by simp [hcheck, hb]
    have HE := Lib.hid hE
    clear hE hr
    go_enter Tryz.func54, Tryz.ntmps54
    go_wp2
    go_ret
    exact ⟨ret_int HE.out.symm, Below.refl _ _⟩
  · have hE : hcheck n rows = hchk n 0 rows := by simp [hcheck, hb]
    have HE := Lib.hid hE
    have hb' : rows.length ≤ 256 := by omega
    clear hE hb
    go_enter Tryz.func54, Tryz.ntmps54
    go_wp2_with fail
    go_loopw [5, 14] (fun o i wr => ∃ (k : Nat) (b : Int), k ≤ rows.length ∧ i = .int .i64 k ∧ o = .int .i64 b ∧ Hid (hchk n 0 rows = hchk n b (rows.drop k)) ∧ Below w.heap.size w wr) (fun _ i _ => rows.length - (intOf i).toNat)
    case atStart => exact ⟨0, 0, by omega, rfl, rfl, by simp [Hid], Below.refl _ _⟩
    case round =>
      obtain ⟨k, b, hk, rfl, rfl, HX, hbel⟩ := hrel
      by_cases hlt : k < rows.length
      · obtain ⟨r, hrk⟩ := getElem?_of_lt hlt
        obtain ⟨bb, off, rfl, hbb, c0, c1, c2, c3, c4, c5⟩ := (hr.below hbel).at_ hrk
        have hbs : bb < wr.heap.size := by have := hbel.size; omega
        have HN : Hid (hchk n 0 rows = if rowErr n b r ≠ 0 then rowErr n b r else hchk n r.day (rows.drop (k+1))) := by
          rw [HX.out, List.drop_eq_getElem_cons hlt, hchk]
          rw [(List.getElem?_eq_some_iff.1 hrk).2]; rfl
        clear hrk hr HX
        go_wp2_with fail
        refine (checkRow_calls r n b _).mono ?_
        rintro e w1 ⟨rfl, hb1⟩
        have hb2 : Below w.heap.size w w1 := (hbel.alloc hbel.size _).trans (hb1.mono (by have := hbel.size; simp; omega))
        have hc : ∀ j, j < 6 → w1.cell? ⟨wr.heap.size, j, none⟩ = (wr.alloc (.cells #[.int .i64 r.day, .int .i64 r.kind, .int .i64 r.frm, .int .i64 r.to, .int .i64 r.amount, .int .i64 r.worth] 94)).cell? ⟨wr.heap.size, j, none⟩ := fun j _ => hb1.cell (by simp)
        have hc0 : w1.cell? ⟨wr.heap.size, 0, none⟩ = some (.int .i64 r.day) := by
          rw [hc 0 (by omega), cell_of_row _ _ _ _ _ _ (heap_alloc_new _ _)]; rfl
        clear hc hb1 c0 c1 c2 c3 c4 c5
        obtain ⟨er, her⟩ : ∃ er, er = rowErr n b r := ⟨_, rfl⟩
        rw [← her]
        rw [← her] at HN
        clear her
        by_cases he : er = 0
        · subst he
          go_wp2_with fail
          go_roundw
          case measure => simp [intOf] <;> omega
          case rel => exact ⟨k + 1, r.day, by omega, by go_num, rfl, by have := HN.out; simpa [Hid] using this, hb2⟩
        · have he' : (er != 0) = true := by simpa using he
          go_wp2_with fail
          go_ret
          refine ⟨ret_int ?_, hb2⟩
          rw [HE.out, HN.out, if_pos he]
      · have hkk : k = rows.length := by omega
        go_wp2_with fail
        go_ret
        refine ⟨ret_int ?_, hbel⟩
        rw [HE.out, HX.out, hkk, List.drop_length, hchk]

end Go.Proofs.YtomfcmlomfcghaaGreatDoor

/- insolvencylaw27: openings, payment; the definition's Balance. -/
import Derived.Test.YtdkllifoglibcaaTraceRef2
import Derived.Test.YtdkllifoglibcaaGen
set_option linter.unusedVariables false
set_option linter.unusedSimpArgs false
namespace Go.Proofs.Ytdkllifoglibcaa
open Go.RowKit

def openF (x0 x1 x2 x3 : Int) : List Int := [x0 % 60 - 15, x1 % 60 - 15, x2 % 60 - 15, x3 % 60 - 15]
theorem openF_len (x0 x1 x2 x3 : Int) : (openF x0 x1 x2 x3).length = 4 := rfl

theorem ints_snoc {w1 : World} {B T : Nat} {v : Value} {n : Nat} {xs : List Int} {a : Int} (h : w1.ownsRow B T 1 v (n + 1) (xs.map (Value.int .i64) ++ [.int .i64 a])) : w1.ownsRow B T 1 v (n + 1) ((xs ++ [a]).map (Value.int .i64)) := by simpa using h

set_option maxHeartbeats 1000000 in
theorem openings_calls (x0 x1 x2 x3 : Int) (w : World) (b0 : 0 ≤ x0 ∧ x0 ≤ 255) (b1 : 0 ≤ x1 ∧ x1 ≤ 255) (b2 : 0 ≤ x2 ∧ x2 ≤ 255) (b3 : 0 ≤ x3 ∧ x3 ≤ 255) :
    Calls Try.prog 14 #[.agg #[.int .u8 x0, .int .u8 x1, .int .u8 x2, .int .u8 x3]] w fun e w' => ∃ A c, e = .returned (.slice A (openF x0 x1 x2 x3).length c) ∧ IntsRd w' w'.heap.size A (openF x0 x1 x2 x3) ∧ Below w.heap.size w w' := by
  obtain ⟨i0, hi, hz0, hz1, hz2⟩ := info_parts Try.info2
  go_enter Try.func14, Try.ntmps14
  go_wp2
  go_loopw [3, 4] (fun o i wr => ∃ (k : Nat), k ≤ 4 ∧ i = .int .i64 k ∧ wr.ownsRow (w.heap.size + 1) 2 1 o k (((openF x0 x1 x2 x3).take k).map (Value.int .i64)) ∧ wr.heap[w.heap.size]? = some (.cells #[.int .u8 x0, .int .u8 x1, .int .u8 x2, .int .u8 x3] 32 (0, 0)) ∧ Below w.heap.size w wr) (fun _ i _ => 4 - (intOf i).toNat)
  case atStart => exact ⟨0, by omega, rfl, World.ownsRow_nil _ _ _ _, heap_alloc_new _ _, (Below.refl _ _).alloc (Nat.le_refl _) _⟩
  case round =>
    obtain ⟨k, hk, rfl, hown, hbx, hbel⟩ := hrel
    by_cases hlt : k < 4
    · obtain ⟨x, hx, hc, hnx⟩ : ∃ x : Int, (0 ≤ x ∧ x ≤ 255) ∧ wr.cell? ⟨w.heap.size, k, none⟩ = some (.int .u8 x) ∧ (openF x0 x1 x2 x3).take (k + 1) = (openF x0 x1 x2 x3).take k ++ [x % 60 - 15] := by
        rw [cell_of_row _ _ _ _ _ _ hbx]
        rcases k with _ | _ | _ | _ | k
        · exact ⟨x0, b0, rfl, rfl⟩
        · exact ⟨x1, b1, rfl, rfl⟩
        · exact ⟨x2, b2, rfl, rfl⟩
        · exact ⟨x3, b3, rfl, rfl⟩
        · omega
      have hsz := hbel.size
      have hbl : w.heap.size < wr.heap.size := (Array.getElem?_eq_some_iff.1 hbx).1
      have HBX := Lib.hid hbx
      have HNX := Lib.hid hnx
      clear hbx hnx b0 b1 b2 b3
      obtain ⟨A', c', hv, hrd, hle⟩ := own_shape hown
      subst hv
      obtain ⟨hx1, hx2⟩ := hx
      go_wp2_with (at_builtin; refine wpList_append_own _ rfl (.tmp 9) (.tmp 16) 33 rfl (w.heap.size + 1) 2 i0 (.int .i64 0) 1 8 Try.underlying33 hi hz0 hz1 hz2 rfl (by decide) _ k _ rfl (by exact hown.alloc _) _ 1 1 [.int .i64 (x % 60 - 15)] rfl rfl (new_cells _ _ _ _ (by simp)) (by simp [Value.oneCell']) (by simp only [maxLen]; omega) (by omega) (by simp <;> omega) ?_)
      intro v' w1 hown' hg _
      have hb1 : Below w.heap.size w w1 := by
        refine Below.grown (hbel.alloc hsz _) hg (by simp <;> omega) (fun q hq => by have := (hown.lt q hq).1; omega)
      have hx1' : w1.heap[w.heap.size]? = some (.cells #[.int .u8 x0, .int .u8 x1, .int .u8 x2, .int .u8 x3] 32 (0, 0)) := by
        rw [hg.block _ (by simp <;> omega) (fun e => by have := (hown.lt _ e.symm).1; omega), heap_alloc_old _ _ hbl]
        exact HBX.out
      have h2 : w1.ownsRow (w.heap.size + 1) 2 1 v' (k + 1) (((openF x0 x1 x2 x3).take (k + 1)).map (Value.int .i64)) := by
        rw [HNX.out]; rw [← List.map_take] at hown'; exact ints_snoc hown'
      have H2 := Lib.hid h2
      have HX1 := Lib.hid hx1'
      clear hown' hg hown hrd h2 hx1'
      go_wp2
      go_roundw
      case measure => simp [intOf] <;> omega
      case rel => exact ⟨k + 1, by omega, by go_num, H2.out, HX1.out, hb1⟩
    · obtain rfl : k = 4 := by omega
      have ht : (openF x0 x1 x2 x3).take 4 = openF x0 x1 x2 x3 := rfl
      rw [ht] at hown
      obtain ⟨A', c', hv, hrd, hle⟩ := own_shape hown
      subst hv
      go_wp2
      go_ret
      exact ⟨A', c', rfl, hrd, hbel⟩

set_option maxHeartbeats 1000000 in
theorem payment_calls (A : Option Addr) (c : Nat) (rows : List Row) (x : Int) (w : World) (hr : RowsRd w w.heap.size A rows) (hn : rows.length ≤ 1000) (hx : 0 ≤ x ∧ x ≤ 255) :
    Calls Try.prog 15 #[.slice A rows.length c, .int .u8 x] w fun e w' => ∃ k : Nat, (rows ≠ [] → k < rows.length) ∧ (rows = [] → k = 0) ∧ e = .returned (.int .i64 k) ∧ w' = w := by
  obtain ⟨hx1, hx2⟩ := hx
  have HR := Lib.hid hr
  clear hr
  go_enter Try.func15, Try.ntmps15
  go_wp2
  go_loop [5] (fun i => ∃ k : Nat, k ≤ rows.length ∧ i = .int .i64 k) (fun i => rows.length - (intOf i).toNat)
  case atStart => exact ⟨0, by omega, rfl⟩
  case round =>
    obtain ⟨k, hk, rfl⟩ := hrel
    by_cases hlt : k < rows.length
    · obtain ⟨q, hq⟩ : ∃ q : Nat, (q : Int) = (x + k) % rows.length := ⟨((x + k) % rows.length).toNat, by have := Int.emod_nonneg (x + k) (show (rows.length : Int) ≠ 0 by omega); omega⟩
      have hql : q < rows.length := by have := Int.emod_lt_of_pos (x + k) (show (0 : Int) < rows.length by omega); omega
      have hq' : (x + (k : Int)) % (rows.length : Int) = (q : Int) := hq.symm
      obtain ⟨r, hrk⟩ := getElem?_of_lt hql
      obtain ⟨b, off, rfl, hb, e0, e1, e2, e3, e4, e5⟩ := HR.out.at_ hrk
      have hne : rows ≠ [] := by rintro rfl; simp at hlt
      have HNE := Lib.hid hne
      have hlp : (0 : Int) < (rows.length : Int) := by omega
      clear hq hrk hne
      by_cases hk1 : r.kind = 1
      · have hk1' : (r.kind == 1) = true := by simp [hk1]
        clear hk1
        go_wp2
        go_ret
        exact ⟨q, fun _ => hql, fun h => absurd h HNE.out, rfl, rfl⟩
      · have hk1' : (r.kind == 1) = false := by simp [hk1]
        clear hk1
        go_wp2
        go_round
        case measure => simp [intOf] <;> omega
        case rel => exact ⟨k + 1, by omega, by go_num⟩
    · go_wp2
      go_ret
      refine ⟨0, fun h => ?_, fun _ => rfl, rfl, rfl⟩
      exact List.length_pos_iff.2 h

def balF (rows : List Row) (p day o : Int) : Int := rows.foldl (fun o r => if r.day ≤ day then wrap64 (o + moneyRef r p) else o) o

set_option maxHeartbeats 1000000 in
theorem balance_calls (A : Option Addr) (c : Nat) (rows : List Row) (p o day : Int) (w : World) (hr : RowsRd w w.heap.size A rows) (hn : rows.length ≤ 1000000) :
    Calls Try.prog 17 #[.slice A rows.length c, .int .i64 p, .int .i64 o, .int .i64 day] w fun e w' => e = .returned (.int .i64 (balF rows p day o)) ∧ Below w.heap.size w w' := by
  have HR := Lib.hid hr
  clear hr
  obtain ⟨F, hF⟩ : ∃ F : Int → Row → Int, F = fun o r => if r.day ≤ day then wrap64 (o + moneyRef r p) else o := ⟨_, rfl⟩
  have HF := Lib.hid hF
  have HB : Hid (balF rows p day o = rows.foldl F o) := by rw [hF]; rfl
  clear hF
  go_enter Try.func17, Try.ntmps17
  go_wp2_with fail
  go_loopw [2, 9] (fun oo i wr => ∃ (k : Nat) (x : Int), k ≤ rows.length ∧ i = .int .i64 k ∧ oo = .int .i64 x ∧ Hid (x = (rows.take k).foldl F o) ∧ Below w.heap.size w wr) (fun _ i _ => rows.length - (intOf i).toNat)
  case atStart => exact ⟨0, o, by omega, rfl, rfl, rfl, Below.refl _ _⟩
  case round =>
    obtain ⟨k, x, hk, rfl, rfl, HX, hbel⟩ := hrel
    by_cases hlt : k < rows.length
    · obtain ⟨r, hrk⟩ := getElem?_of_lt hlt
      obtain ⟨b, off, rfl, hb, e0, e1, e2, e3, e4, e5⟩ := (HR.out.below hbel).at_ hrk
      have hbs : b < wr.heap.size := by have := hbel.size; omega
      have HN : Hid ((rows.take (k+1)).foldl F o = if r.day ≤ day then wrap64 (x + moneyRef r p) else x) := by
        rw [HX.out, take_foldl _ _ _ _ _ hrk, HF.out]; rfl
      clear hrk HX
      by_cases hd : r.day ≤ day
      · go_wp2_with fail
        refine (moneyRef_calls r p _).mono ?_
        rintro e w1 ⟨rfl, hb1⟩
        have hb2 := hbel.trans (hb1.mono hbel.size)
        obtain ⟨m, hm⟩ : ∃ m, m = moneyRef r p := ⟨_, rfl⟩
        rw [← hm]
        rw [← hm] at HN
        clear hm
        go_wp2_with fail
        go_roundw
        case measure => simp [intOf] <;> omega
        case rel => exact ⟨k + 1, _, by omega, by go_num, rfl, by show _ = _; rw [HN.out, if_pos hd], hb2⟩
      · have hd' : day < r.day := by omega
        go_wp2_with fail
        go_roundw
        case measure => simp [intOf] <;> omega
        case rel => exact ⟨k + 1, _, by omega, by go_num, rfl, by show _ = _; rw [HN.out, if_neg hd], hbel⟩
    · have hkk : k = rows.length := by omega
      go_wp2_with fail
      go_ret
      refine ⟨ret_int ?_, hbel⟩
      rw [HB.out, HX.out, hkk, List.take_length]

end Go.Proofs.Ytdkllifoglibcaa

/- party.is, list. -/
import Derived.Test.YtomfcmlomfcghaaGreatDoorPtyM
import Derived.Test.YtomfcmlomfcghaaGreatDoorM3
import Derived.Deep.QuietTactic
import Derived.StillTailTactics
set_option linter.unusedVariables false
set_option linter.unusedSimpArgs false
namespace Go.Proofs.YtomfcmlomfcghaaGreatDoor
open Go.RowKit

theorem own_below {w w' : World} {base e size n : Nat} {v : Value} {xs : List Value} (h : w.ownsRow base e size v n xs) (hb : Below w.heap.size w w') : w'.ownsRow base e size v n xs := by
  refine ⟨h.1, ?_⟩
  rcases h.2 with hn | ⟨g, cap, cur, rfl, hb2, hgg, rest⟩
  · exact .inl hn
  · refine .inr ⟨g, cap, cur, rfl, hb2, ?_, rest⟩
    rw [hb.block g (Array.getElem?_eq_some_iff.1 hgg).1]; exact hgg
theorem Tryz.info_int : (Tryz.prog.info? 3).map (fun i => (i.zero, i.size, i.bytes)) = some (some (.int .i64 0), 1, 8) := by kernel_rfl
def boolV (b : Bool) : List Value := [.bool b]
theorem rd_bool {w : World} {B : Nat} {A : Option Addr} {l : List Bool} (h : Rd w B 1 A l.length (l.flatMap boolV)) {k : Nat} {x : Bool} (hk : l[k]? = some x) : ∃ b off, A = some ⟨b, off, none⟩ ∧ b < B ∧ w.cell? ⟨b, off + k, none⟩ = some (.bool x) := by
  obtain ⟨b, off, e, hb, hc⟩ := Rd.at_ (enc := boolV) (fun _ => rfl) h hk
  have := hc 0 _ rfl
  rw [Nat.mul_one, Nat.add_zero] at this
  exact ⟨b, off, e, hb, this⟩
theorem flags_len (S : Nat → Bool) (n : Nat) : (flags S n).length = n := by unfold flags; rw [List.length_map, List.length_range]
theorem flags_at {S : Nat → Bool} {n k : Nat} (h : k < n) : (flags S n)[k]? = some (S k) := by
  unfold flags
  rw [List.getElem?_map, List.getElem?_range h]; rfl

set_option maxHeartbeats 1000000 in
theorem is_calls (Ak : Option Addr) (nk ck : Nat) (As : Option Addr) (ns cs : Nat) (At : Option Addr) (nt ct : Nat) (a : Int) (w : World) (hk : nk ≤ maxLen) :
    Calls Tryz.prog 38 #[ptyVal Ak nk ck As ns cs At nt ct, .int .i64 a] w fun e w' => e = .returned (.bool (inN nk a)) ∧ Below w.heap.size w w' := by
  unfold maxLen at hk
  unfold inN
  by_cases h0 : 0 ≤ a
  · have d0 : decide ((0 : Int) ≤ a) = true := decide_eq_true h0
    by_cases h1 : a < (nk : Int)
    · have d1 : decide (a < (nk : Int)) = true := decide_eq_true h1
      rw [d0, d1]
      go_enter Tryz.func38, Tryz.ntmps38
      go_wp2_with fail
      go_ret
      exact ⟨rfl, bel_alloc _ _⟩
    · have d1 : decide (a < (nk : Int)) = false := decide_eq_false h1
      rw [d0, d1]
      go_enter Tryz.func38, Tryz.ntmps38
      go_wp2_with fail
      go_ret
      exact ⟨rfl, bel_alloc _ _⟩
  · have d0 : decide ((0 : Int) ≤ a) = false := decide_eq_false h0
    rw [d0, Bool.false_and]
    go_enter Tryz.func38, Tryz.ntmps38
    go_wp2_with fail
    go_ret
    exact ⟨rfl, bel_alloc _ _⟩

/-- a list of integers that a function returns -/
def IntsPost (l : List Int) (w : World) (e : Ending) (w' : World) : Prop := ∃ A c, e = .returned (.slice A l.length c) ∧ Rd w' w'.heap.size 1 A l.length (l.flatMap intV) ∧ Below w.heap.size w w'
theorem intV_len (l : List Int) : (l.flatMap intV).length = l.length := by rw [flat_len intV 1 (fun _ => rfl), Nat.mul_one]
set_option maxHeartbeats 2000000 in
theorem list_calls (A : Option Addr) (n c : Nat) (S : Nat → Bool) (w : World) (hr : Rd w w.heap.size 1 A (flags S n).length ((flags S n).flatMap boolV)) (hn : n ≤ 1000000) :
    Calls Tryz.prog 39 #[.slice A n c] w (IntsPost (idxs S n) w) := by
  have HR := Lib.hid hr
  clear hr
  obtain ⟨i0, hi, hz0, hz1, hz2⟩ := info_parts Tryz.info_int
  have HF := Lib.hid (And.intro hi (And.intro hz0 (And.intro hz1 hz2)))
  clear hi hz0 hz1 hz2
  go_enter Tryz.func39, Tryz.ntmps39
  go_wp2_with fail
  go_loopw [3, 8] (fun o i wr => ∃ (k : Nat) (m co : Nat) (Ao : Option Addr), k ≤ n ∧ i = .int .i64 (k : Int) ∧ o = .slice Ao m co ∧ Hid (m = (idxs S k).length ∧ wr.ownsRow w.heap.size 3 1 (.slice Ao m co) m ((idxs S k).flatMap intV)) ∧ Hid (Below w.heap.size w wr)) (fun _ i _ => n - (intOf i).toNat)
  case atStart => exact ⟨0, 0, 0, none, Nat.zero_le _, rfl, rfl, ⟨rfl, World.ownsRow_nil _ _ _ _⟩, Below.refl _ _⟩
  case round =>
    obtain ⟨k, m, co, Ao, hk, rfl, rfl, HO, HB⟩ := hrel
    rename World => wo
    by_cases hlt : k < n
    · obtain ⟨b, off, hA, _, k1⟩ := rd_bool (HR.out.next HB.out) (flags_at hlt)
      subst hA
      rcases hS : S k with _ | _
      · rw [hS] at k1
        have HNX : Hid (idxs S (k + 1) = idxs S k) := by show _ = _; rw [idxs_take, if_neg (by rw [hS]; decide)]
        clear hS
        go_wp2_with fail
        go_roundw
        case measure => simp [intOf] <;> omega
        case rel => exact ⟨k + 1, m, co, Ao, by omega, by go_num, rfl, by rw [HNX.out]; exact HO, HB⟩
      · rw [hS] at k1
        have HNX : Hid (idxs S (k + 1) = idxs S k ++ [(k : Int)]) := by show _ = _; rw [idxs_take, if_pos hS]
        have hml : m ≤ k := by rw [HO.out.1]; exact idxs_len _ _
        clear hS
        have HOa := Lib.hid (own_below HO.out.2 (bel_alloc wo (.cells #[.int .i64 (k : Int)] 3)))
        have HBa := Lib.hid (HB.out.alloc HB.out.size (.cells #[.int .i64 (k : Int)] 3))
        have hsz := HBa.out.size
        go_wp2_with (at_builtin; refine wpList_append_own _ rfl (.tmp 14) (.tmp 16) 22 rfl w.heap.size 3 i0 _ 1 8 Tryz.underlying22 HF.out.1 HF.out.2.1 HF.out.2.2.1 HF.out.2.2.2 rfl (by decide) _ m ((idxs S k).flatMap intV) rfl HOa.out _ 1 1 [.int .i64 (k : Int)] rfl rfl (rd_new_cells _ _ _ _ (by simp)) (by simp [Value.oneCell']) (by simp only [maxLen]; omega) (by omega) hsz ?_)
        intro v' w' hown hgr hnil
        have HB' : Hid (Below w.heap.size w w') := Below.grown HBa.out hgr HBa.out.size (fun q hq => (HOa.out.lt q hq).1)
        obtain ⟨g', cap, rfl, _, _⟩ := hown.form (by omega)
        have HO' : Hid (m + 1 = (idxs S (k + 1)).length ∧ w'.ownsRow w.heap.size 3 1 (.slice (some ⟨g', 0, none⟩) (m + 1) cap) (m + 1) ((idxs S (k + 1)).flatMap intV)) := by
          show _ ∧ _
          rw [HNX.out, List.length_append, ← HO.out.1, List.flatMap_append]
          exact ⟨rfl, hown⟩
        clear hown hgr hnil HOa HBa HO HB k1
        go_wp2_with fail
        go_roundw
        case measure => simp [intOf] <;> omega
        case rel => exact ⟨k + 1, _, _, _, by omega, by go_num, rfl, HO', HB'⟩
    · obtain rfl : k = n := by omega
      go_wp2_with fail
      go_ret
      refine ⟨Ao, co, by rw [← HO.out.1]; rfl, ?_, HB.out⟩
      have := Rd.of_own HO.out.2
      rw [HO.out.1] at this
      exact this

end Go.Proofs.YtomfcmlomfcghaaGreatDoor

/- codec: (*writer).number. -/
import Derived.Test.YtcljkdjmmolfoaaDoorVar
import Derived.Deep.DeepCutAuto
set_option linter.unusedVariables false
set_option linter.unusedSimpArgs false
namespace Go.Proofs.YtcljkdjmmolfoaaDoor
open Go.RowKit

def WrPost (B g : Nat) (bs : List Nat) (ok : Bool) (w : World) (e : Ending) (w' : World) : Prop :=
  e = .returned (.tuple #[]) ∧ Wr B g bs ok w' ∧ Below B w w' ∧ KeepT g w w'

theorem zig_lt {n : Int} (h1 : -9223372036854775808 ≤ n) (h2 : n ≤ 9223372036854775807) : zig n < 18446744073709551616 := by
  unfold zig; split <;> omega

set_option maxHeartbeats 4000000 in
set_option maxRecDepth 100000 in
theorem number_calls (B g : Nat) (bs : List Nat) (ok : Bool) (n : Int) (w : World) (hW : Wr B g bs ok w) (hB : B ≤ w.heap.size) (hl : bs.length ≤ 1000000) (h1 : -9223372036854775808 ≤ n) (h2 : n ≤ 9223372036854775807) (ok' : Bool) (hok : ok' = (ok && rngN n)) :
    Calls Tryd.prog 46 #[.pointer (some ⟨g, 0, none⟩), .int .i64 n] w (WrPost B g (bs ++ vint (zig n)) ok' w) := by
  obtain ⟨i0, hi, hz0, hz1, hz2⟩ := info_parts Tryd.info_u8
  have HI0 : Hid (Tryd.prog.info? 5 = some i0 ∧ i0.zero = some (.int .u8 0) ∧ i0.size = 1 ∧ i0.bytes = 1) := ⟨hi, hz0, hz1, hz2⟩
  clear hi hz0 hz1 hz2
  have HW := Lib.hid hW
  have hgl := hW.lt
  obtain ⟨v, hg, hown, hBg⟩ := hW
  have c0 : w.cell? ⟨g, 0, none⟩ = some v := by rw [cell_of_row w g 0 _ _ (0, 0) hg]; rfl
  have c1 : w.cell? ⟨g, 1, none⟩ = some (.bool ok) := by rw [cell_of_row w g 1 _ _ (0, 0) hg]; rfl
  have f0 := frozen_of_row w g 0 _ _ hg
  have f1 := frozen_of_row w g 1 _ _ hg
  obtain ⟨u, hu⟩ : ∃ u, u = zig n := ⟨_, rfl⟩
  have hub : u < 18446744073709551616 := by rw [hu]; exact zig_lt h1 h2
  have HU : Hid ((n < 0 → (u : Int) = -2 * n - 1) ∧ (¬ n < 0 → (u : Int) = 2 * n)) := by
    rw [hu]; unfold zig
    refine ⟨fun h => ?_, fun h => ?_⟩
    · rw [if_pos h]; omega
    · rw [if_neg h]; omega
  rw [← hu]
  clear hu
  have HG := Lib.hid hg
  have HOWN := Lib.hid hown
  have HOK := Lib.hid hok
  clear hg hown hok
  go_enter Tryd.func46, Tryd.ntmps46
  go_upto_region 0 with fail
  go_cut [] (fun wx => wx = w.setCell ⟨g, 1, none⟩ (.bool ok'))
  case first =>
    have hr : rngN n = (decide (-1125899906842624 ≤ n) && decide (n ≤ 1125899906842624)) := rfl
    cases ok
    · obtain rfl : ok' = false := by rw [HOK.out]; rfl
      clear hr
      go_wp2_with fail
      go_meet
      rfl
    · by_cases ha : -1125899906842624 ≤ n
      · have t1 : decide (-1125899906842624 ≤ n) = true := decide_eq_true ha
        by_cases hb : n ≤ 1125899906842624
        · have t2 : decide (n ≤ 1125899906842624) = true := decide_eq_true hb
          obtain rfl : ok' = true := by rw [HOK.out, hr, t1, t2]; rfl
          clear hr
          go_wp2_with fail
          go_meet
          rfl
        · have t2 : decide (n ≤ 1125899906842624) = false := decide_eq_false hb
          obtain rfl : ok' = false := by rw [HOK.out, hr, t1, t2]; rfl
          clear hr
          go_wp2_with fail
          go_meet
          rfl
      · have t1 : decide (-1125899906842624 ≤ n) = false := decide_eq_false ha
        obtain rfl : ok' = false := by rw [HOK.out, hr, t1]; rfl
        clear hr
        go_wp2_with fail
        go_meet
        rfl
  case rest =>
    have HW1 : Hid (Wr B g bs ok' wc) := by rw [hcut]; exact HW.out.setOk
    have HB1 : Hid (Below B w wc) := by rw [hcut]; exact (Below.refl _ _).setCell hBg _
    have HK1 : Hid (KeepT g w wc) := by rw [hcut]; exact (KeepT.refl _ _).setCell
    clear hcut HW HG HOWN HOK c0 c1 f0 f1
    go_upto_if 24 with fail
    go_cut [4] (fun s4 wx => s4 = .int .u64 (u : Int) ∧ wc = wx)
    case first =>
      by_cases hn : n < 0
      · have hd : decide (n < 0) = true := decide_eq_true hn
        have hw1 : IntKind.u64.wrap (wrap64 (wrap64 (-2 * n) - 1)) = (u : Int) := by rw [IntKind.wrap_u64]; unfold wrap64; have := HU.out.1 hn; omega
        go_wp2_with fail
        go_meet
        exact ⟨rfl, rfl⟩
      · have hd : decide (n < 0) = false := decide_eq_false hn
        have hw1 : IntKind.u64.wrap (wrap64 (2 * n)) = (u : Int) := by rw [IntKind.wrap_u64]; unfold wrap64; have := HU.out.2 hn; omega
        go_wp2_with fail
        go_meet
        exact ⟨by first | rfl | rw [hw1], rfl⟩
    case rest =>
      obtain ⟨rfl, rfl⟩ := hcut
      clear h1 h2 HU
      go_wp2_with fail
      go_loopw [4] (fun s4 wr => ∃ (x : Nat) (cs : List Nat), s4 = .int .u64 (x : Int) ∧ x < 18446744073709551616 ∧ Hid (Wr B g cs ok' wr) ∧ Hid (cs ++ vint x = bs ++ vint u) ∧ cs.length ≤ 1000011 ∧ Hid (Below B w wr) ∧ Hid (KeepT g w wr)) (fun s4 _ => (intOf s4).toNat)
      case atStart => exact ⟨u, bs, rfl, hub, HW1, rfl, by omega, HB1, HK1⟩
      case round =>
        obtain ⟨x, cs, rfl, hx, HWR, HE, hcl, HB, HK⟩ := hrel
        obtain ⟨A, c, c0, c1, f0, f1, hg, hown⟩ := HWR.out.open_
        have hbs : B ≤ wr.heap.size := Nat.le_trans hB HB.out.size
        by_cases hlt : x < 128
        · have hd : decide ((128 : Int) ≤ (x : Int)) = false := decide_eq_false (by omega)
          have hm : (x : Int) % 256 = (x : Int) := by omega
          go_wp2_with (at_builtin; refine wpList_append_own _ rfl (.tmp 49) (.tmp 52) 22 rfl B 5 i0 (.int .u8 0) 1 1 Tryd.underlying22 HI0.out.1 HI0.out.2.1 HI0.out.2.2.1 HI0.out.2.2.2 rfl (by decide) _ _ _ rfl (by exact hown.alloc _) _ 1 1 _ rfl rfl (rd_new_cells _ _ _ _ (by simp)) (by simp [Value.oneCell']) (by simp only [maxLen]; omega) (by omega) (by simp <;> omega) ?_)
          intro v' w3 hown' hg3 _
          have h2 : w3.ownsRow B 5 1 v' (cs ++ [x]).length (u8s (cs ++ [x])) := by
            have e : (cs ++ [x]).length = cs.length + 1 := by simp
            rw [e, u8s_append]
            exact hown'
          obtain ⟨A', c', hv', _, _⟩ := own_shape h2
          subst hv'
          have hgA : (wr.alloc (.cells #[.int .u8 (x : Int)] 5)).heap[g]? = some (.cells #[.slice A cs.length c, .bool ok'] 101 (0, 0)) :=
            (Below.heap_alloc wr _ g (Array.getElem?_eq_some_iff.1 hg).1).trans hg
          have HWN : Hid (Wr B g (cs ++ [x]) ok' (w3.setCell ⟨g, 0, none⟩ (.slice A' (cs ++ [x]).length c'))) := Wr.grow (bs := cs ++ [x]) hgA (hown.alloc _) HWR.out.ge hg3 h2
          have hg4 : w3.heap[g]? = some (.cells #[.slice A cs.length c, .bool ok'] 101 (0, 0)) := by
            refine (hg3.block g (Array.getElem?_eq_some_iff.1 hgA).1 fun e => ?_).trans hgA
            exact own_tne (hown.alloc _) hgA (by decide) e
          have d0 : w3.cell? ⟨g, 0, none⟩ = some (.slice A cs.length c) := by rw [cell_of_row w3 g 0 _ _ (0, 0) hg4]; rfl
          have e0 := frozen_of_row w3 g 0 _ _ hg4
          have HBN : Hid (Below B w (w3.setCell ⟨g, 0, none⟩ (.slice A' (cs ++ [x]).length c'))) := (Below.grown (HB.out.alloc hbs (.cells #[.int .u8 (x : Int)] 5)) hg3 (by simp <;> omega) (fun q hq => (hown.lt q hq).1)).setCell HWR.out.ge _
          have HKN : Hid (KeepT g w (w3.setCell ⟨g, 0, none⟩ (.slice A' (cs ++ [x]).length c'))) := ((HK.out.alloc _).grown (hown.alloc _) hg3).setCell
          have el : (cs ++ [x]).length = cs.length + 1 := by simp
          rw [el] at HWN HBN HKN
          clear el
          clear hown' h2 hgA hg3 hown hg hg4 HB HK HWR c0 c1 f0 f1

          have HEN : Hid (cs ++ [x] = bs ++ vint u) := by have := HE.out; rwa [vint_small hlt] at this
          go_wp2_with fail
          go_end0
          refine ⟨rfl, ?_, HBN.out, HKN.out⟩
          rw [← HEN.out]; exact HWN.out
        · have hd : decide ((128 : Int) ≤ (x : Int)) = true := decide_eq_true (by omega)
          obtain ⟨y, hy⟩ : ∃ y, y = x % 256 := ⟨_, rfl⟩
          have hm : (x : Int) % 256 = (y : Int) := by omega
          obtain ⟨d, hdd⟩ : ∃ d, d = x % 128 + 128 := ⟨_, rfl⟩
          have hor : bits .or .u8 (y : Int) 128 = (d : Int) := by rw [or128 y (by omega), hdd, hy]; congr 1; omega
          obtain ⟨z, hz⟩ : ∃ z, z = x / 128 := ⟨_, rfl⟩
          have hsh : (x : Int) / 128 = (z : Int) := by omega
          have HEN : Hid ((cs ++ [d]) ++ vint z = bs ++ vint u) := by have := HE.out; rw [vint_big hlt, ← hdd, ← hz] at this; rw [List.append_assoc]; exact this
          have hzl : z < x := by omega
          clear hy hdd hz
          go_wp2_with (at_builtin; refine wpList_append_own _ rfl (.tmp 35) (.tmp 39) 22 rfl B 5 i0 (.int .u8 0) 1 1 Tryd.underlying22 HI0.out.1 HI0.out.2.1 HI0.out.2.2.1 HI0.out.2.2.2 rfl (by decide) _ _ _ rfl (by exact hown.alloc _) _ 1 1 _ rfl rfl (rd_new_cells _ _ _ _ (by simp)) (by simp [Value.oneCell']) (by simp only [maxLen]; omega) (by omega) (by simp <;> omega) ?_)
          intro v' w3 hown' hg3 _
          have h2 : w3.ownsRow B 5 1 v' (cs ++ [d]).length (u8s (cs ++ [d])) := by
            have e : (cs ++ [d]).length = cs.length + 1 := by simp
            rw [e, u8s_append]
            exact hown'
          obtain ⟨A', c', hv', _, _⟩ := own_shape h2
          subst hv'
          have hgA : (wr.alloc (.cells #[.int .u8 (d : Int)] 5)).heap[g]? = some (.cells #[.slice A cs.length c, .bool ok'] 101 (0, 0)) :=
            (Below.heap_alloc wr _ g (Array.getElem?_eq_some_iff.1 hg).1).trans hg
          have HWN : Hid (Wr B g (cs ++ [d]) ok' (w3.setCell ⟨g, 0, none⟩ (.slice A' (cs ++ [d]).length c'))) := Wr.grow (bs := cs ++ [d]) hgA (hown.alloc _) HWR.out.ge hg3 h2
          have hg4 : w3.heap[g]? = some (.cells #[.slice A cs.length c, .bool ok'] 101 (0, 0)) := by
            refine (hg3.block g (Array.getElem?_eq_some_iff.1 hgA).1 fun e => ?_).trans hgA
            exact own_tne (hown.alloc _) hgA (by decide) e
          have d0 : w3.cell? ⟨g, 0, none⟩ = some (.slice A cs.length c) := by rw [cell_of_row w3 g 0 _ _ (0, 0) hg4]; rfl
          have e0 := frozen_of_row w3 g 0 _ _ hg4
          have HBN : Hid (Below B w (w3.setCell ⟨g, 0, none⟩ (.slice A' (cs ++ [d]).length c'))) := (Below.grown (HB.out.alloc hbs (.cells #[.int .u8 (d : Int)] 5)) hg3 (by simp <;> omega) (fun q hq => (hown.lt q hq).1)).setCell HWR.out.ge _
          have HKN : Hid (KeepT g w (w3.setCell ⟨g, 0, none⟩ (.slice A' (cs ++ [d]).length c'))) := ((HK.out.alloc _).grown (hown.alloc _) hg3).setCell
          have el : (cs ++ [d]).length = cs.length + 1 := by simp
          rw [el] at HWN HBN HKN
          clear el
          clear hown' h2 hgA hg3 hown hg hg4 HB HK HWR c0 c1 f0 f1

          go_wp2_with fail
          go_roundw
          case measure => simp [intOf]; omega
          case rel => exact ⟨z, cs ++ [d], rfl, by omega, HWN, HEN, by have := congrArg List.length HEN.out; have := vint_len10 hub; have := vint_pos z; simp at *; omega, HBN, HKN⟩

end Go.Proofs.YtcljkdjmmolfoaaDoor

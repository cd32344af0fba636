/- strings.Trim at the cutset of the ten digits: makeASCIISet, contains, trimLeftASCII, trimRightASCII. -/
import Derived.Test.YtmlbolfopakgmaaDoorNorm
import Derived.Lib.AsciiSet
import Derived.Lib.SlTrimSet
import Derived.Laws.Strings3
import Derived.Laws.ResultCell
import Derived.Deep.LoopGhost
import Derived.Deep.WholeRow
set_option linter.unusedVariables false
set_option linter.unusedSimpArgs false
namespace Go.Proofs.YtmlbolfopakgmaaDoor
open Go.RowKit Go.Lib

theorem set_under : Tryd.prog.underlying 75 = some (TypeDesc.array 256 4) := by kernel_rfl
theorem set_agg : ∀ w, (isAgg 75).run Tryd.prog w = .ok true w := fun w => by kernel_rfl
theorem set_size : ∀ w, (Go.sizeOf 75).run Tryd.prog w = .ok 256 w := fun w => by kernel_rfl
theorem set_zeroCells : Tryd.zeroCells75 = Lib.setCells [] := by kernel_rfl
theorem set_info : (Tryd.prog.info? 75).map (·.size) = some 256 := by kernel_rfl
theorem set_zero : ∀ w, (zeroValue 75).run Tryd.prog w = .ok (.agg (Array.replicate 256 (.bool false))) w := fun w => by kernel_rfl

set_option maxHeartbeats 2000000 in
set_option maxRecDepth 1000000 in
theorem contains_calls (b : Nat) (x : UInt8) (v : Bool) (w : World) (hc : w.cell? ⟨b, x.toNat, none⟩ = some (.bool v)) :
    Calls Tryd.prog 82 #[.pointer (some ⟨b, 0, none⟩), .int .u8 x.toNat] w fun e w' => e = .returned (.bool v) ∧ w' = w := by
  have hx256 : (x.toNat : Int) < 256 := by have := UInt8.toNat_lt x; omega
  go_enter Tryd.func82, Tryd.ntmps82
  go_wp2_with fail
  go_ret
  exact ⟨rfl, rfl⟩

set_option maxHeartbeats 2000000 in
set_option maxRecDepth 1000000 in
theorem trimLeftA_calls (s : ByteArray) (b : Nat) (cs : List UInt8) (w : World) (hset : ∀ x : UInt8, w.cell? ⟨b, x.toNat, none⟩ = some (.bool (cs.contains x))) :
    Calls Tryd.prog 68 #[.string s, .pointer (some ⟨b, 0, none⟩)] w fun e w' => e = .returned (.string (bstr (Lib.trimLeftS s.data.toList cs))) ∧ w' = w := by
  have HS := Lib.hid hset
  clear hset
  go_enter Tryd.func68, Tryd.ntmps68
  go_wp2_with fail
  go_loop [0] (fun v => ∃ k : Nat, k ≤ s.size ∧ v = .string (bstr (s.data.toList.drop k)) ∧ Hid (∀ (j : Nat) b, j < k → s.data.toList[j]? = some b → cs.contains b = true)) (fun v => Lib.strSize v)
  case atStart => exact ⟨0, Nat.zero_le _, by simp [bstr_data], fun j b hj => absurd hj (Nat.not_lt_zero _)⟩
  case round =>
    obtain ⟨k, hk, rfl, hc⟩ := hrel
    obtain ⟨t, ht⟩ : ∃ t, t = bstr (s.data.toList.drop k) := ⟨_, rfl⟩
    have hts : t.size = s.size - k := by rw [ht, bstr_size, List.length_drop, ← Lib.size_eq]
    have hx1 : t.extract 1 t.size = bstr (s.data.toList.drop (k + 1)) := by rw [ht, bstr_tail, List.drop_drop]
    have hkl : k ≤ s.data.toList.length := by rw [← Lib.size_eq]; exact hk
    rw [← ht]
    by_cases h0 : 0 < t.size
    · have hb : s.data.toList[k]? = some (t[0]'h0) := by
        have : (s.data.toList.drop k)[0]? = some (t[0]'h0) := by subst ht; exact (Lib.getElem_mk (s.data.toList.drop k) 0 h0)
        rw [List.getElem?_drop] at this
        exact this
      have HB := Lib.hid hb
      have HT := Lib.hid ht
      have HKL := Lib.hid hkl
      have HTS := Lib.hid hts
      have HX := Lib.hid hx1
      have hcx := HS.out (t[0]'h0)
      have HH0 : 0 < t.size := h0
      clear hb ht hkl hx1 hts
      cases hin : cs.contains (t[0]'h0) <;> rw [hin] at hcx
      · have HI := Lib.hid hin
        clear hin
        go_wp2_with (go_at_call 82; refine (contains_calls _ (t[0]'h0) _ _ hcx).mono ?_; rintro e w' ⟨rfl, rfl⟩)
        go_ret
        refine ⟨ret_str ?_, rfl⟩
        rw [HT.out, Lib.trimLeftS_drop s.data.toList cs k HKL.out hc.out (fun b hb => by rw [HB.out] at hb; rw [← Option.some.inj hb]; exact HI.out)]
      · have HI := Lib.hid hin
        clear hin
        go_wp2_with (go_at_call 82; refine (contains_calls _ (t[0]'h0) _ _ hcx).mono ?_; rintro e w' ⟨rfl, rfl⟩)
        go_round
        case measure =>
          rw [Lib.strSize_string, Lib.strSize_string, HX.out, bstr_size, List.length_drop, ← Lib.size_eq]
          have := HTS.out; omega
        case rel =>
          refine ⟨k + 1, by have := HTS.out; omega, by rw [HX.out], fun j b hj hb => ?_⟩
          by_cases e : j = k
          · subst e
            rw [HB.out] at hb
            rw [← Option.some.inj hb]
            exact HI.out
          · exact hc.out j b (by omega) hb
    · have hz : t.size = 0 := by omega
      have HTS := Lib.hid hts
      have HT := Lib.hid ht
      have HKL := Lib.hid hkl
      clear hts h0 hx1 ht hkl
      have HZ := Lib.hid hz
      go_wp2_with fail
      go_ret
      refine ⟨ret_str ?_, rfl⟩
      rw [HT.out, Lib.trimLeftS_drop s.data.toList cs k HKL.out hc.out (fun b hb => by
        have : s.data.toList.length ≤ k := by rw [← Lib.size_eq]; have := HTS.out; have := HZ.out; omega
        simp [List.getElem?_eq_none this] at hb)]

set_option maxHeartbeats 2000000 in
set_option maxRecDepth 1000000 in
theorem trimRightA_calls (s : ByteArray) (b : Nat) (cs : List UInt8) (w : World) (hs : s.size ≤ 9223372036854775807) (hset : ∀ x : UInt8, w.cell? ⟨b, x.toNat, none⟩ = some (.bool (cs.contains x))) :
    Calls Tryd.prog 78 #[.string s, .pointer (some ⟨b, 0, none⟩)] w fun e w' => e = .returned (.string (bstr (Lib.trimRightS s.data.toList cs))) ∧ w' = w := by
  have HS := Lib.hid hset
  have HSZ := Lib.hid hs
  clear hset hs
  go_enter Tryd.func78, Tryd.ntmps78
  go_wp2_with fail
  go_loop [0] (fun v => ∃ k : Nat, k ≤ s.size ∧ v = .string (bstr (s.data.toList.take k)) ∧ Hid (∀ (j : Nat) b, k ≤ j → s.data.toList[j]? = some b → cs.contains b = true)) (fun v => Lib.strSize v)
  case atStart =>
    refine ⟨s.size, Nat.le_refl _, ?_, fun j b hj hb => ?_⟩
    · rw [Lib.size_eq, List.take_length, bstr_data]
    · have : s.data.toList.length ≤ j := by rw [← Lib.size_eq]; exact hj
      simp [List.getElem?_eq_none this] at hb
  case round =>
    obtain ⟨k, hk, rfl, hc⟩ := hrel
    have hkl : k ≤ s.data.toList.length := by rw [← Lib.size_eq]; exact hk
    obtain ⟨t, ht⟩ : ∃ t, t = bstr (s.data.toList.take k) := ⟨_, rfl⟩
    have hts : t.size = k := by rw [ht, bstr_size, List.length_take]; omega
    have hx1 : t.extract 0 (k - 1) = bstr (s.data.toList.take (k - 1)) := by
      rw [ht]
      show (⟨(s.data.toList.take k).toArray⟩ : ByteArray).extract 0 (k - 1) = ⟨(s.data.toList.take (k - 1)).toArray⟩
      rw [Lib.extract_mk, List.drop_zero, List.take_take]
      congr 3
      omega
    rw [← ht]
    have hk63 : k ≤ 9223372036854775807 := Nat.le_trans hk HSZ.out
    have HKK := Lib.hid hk
    by_cases h0 : 0 < k
    · have h1 : k - 1 < t.size := by omega
      have hb : s.data.toList[k - 1]? = some (t[k - 1]'h1) := by
        have : (s.data.toList.take k)[k - 1]? = some (t[k - 1]'h1) := by subst ht; exact (Lib.getElem_mk (s.data.toList.take k) (k - 1) h1)
        rw [List.getElem?_take, if_pos (by omega)] at this
        exact this
      have hwr : ((k : Int) - 1) = ((k - 1 : Nat) : Int) := by omega
      have HB := Lib.hid hb
      have HT := Lib.hid ht
      have HKL := Lib.hid hkl
      have HX := Lib.hid hx1
      have hcx := HS.out (t[k - 1]'h1)
      clear hb ht hkl hx1 hk
      cases hin : cs.contains (t[k - 1]'h1) <;> rw [hin] at hcx
      · have HI := Lib.hid hin
        clear hin
        go_wp2_with (go_at_call 82; refine (contains_calls _ (t[k - 1]'h1) _ _ hcx).mono ?_; rintro e w' ⟨rfl, rfl⟩)
        go_ret
        refine ⟨ret_str ?_, rfl⟩
        rw [HT.out, Lib.trimRightS_take s.data.toList cs k HKL.out hc.out (fun b _ hb => by rw [HB.out] at hb; rw [← Option.some.inj hb]; exact HI.out)]
      · have HI := Lib.hid hin
        clear hin
        go_wp2_with (go_at_call 82; refine (contains_calls _ (t[k - 1]'h1) _ _ hcx).mono ?_; rintro e w' ⟨rfl, rfl⟩)
        go_round
        case measure =>
          rw [Lib.strSize_string, Lib.strSize_string, HX.out, bstr_size, List.length_take, ← Lib.size_eq]
          omega
        case rel =>
          refine ⟨k - 1, by have := HKK.out; omega, by rw [HX.out], fun j b hj hb => ?_⟩
          by_cases e : j = k - 1
          · subst e
            rw [HB.out] at hb
            rw [← Option.some.inj hb]
            exact HI.out
          · exact hc.out j b (by omega) hb
    · obtain rfl : k = 0 := by omega
      have HT := Lib.hid ht
      have HKL := Lib.hid hkl
      clear hx1 ht hkl hk h0
      go_wp2_with fail
      go_ret
      refine ⟨ret_str ?_, rfl⟩
      rw [HT.out, Lib.trimRightS_take s.data.toList cs 0 HKL.out hc.out (fun b hk0 _ => absurd hk0 (Nat.lt_irrefl 0))]

/-- the ten digits -/
def dgs : ByteArray := ⟨#[48, 49, 50, 51, 52, 53, 54, 55, 56, 57]⟩
theorem dgs_ascii : ∀ (j : Nat) (b : UInt8), dgs.data.toList[j]? = some b → b.toNat < 128 := by
  intro j b h
  have hm := List.mem_of_getElem? h
  have : ∀ b ∈ dgs.data.toList, b.toNat < 128 := by decide
  exact this b hm

set_option maxHeartbeats 4000000 in
set_option maxRecDepth 1000000 in
theorem makeSet_calls (chars : ByteArray) (w : World) (hs : chars.size < 1000) (hascii : ∀ (j : Nat) b, chars.data.toList[j]? = some b → b.toNat < 128) :
    Calls Tryd.prog 67 #[.string chars] w fun e w' => e = .returned (.tuple #[.agg (Lib.setCells chars.data.toList), .bool true]) ∧ w' = w.alloc (.cells (Lib.setCells chars.data.toList) 75) := by
  have HA := Lib.hid hascii
  clear hascii
  go_enter Tryd.func67, Tryd.ntmps67
  go_wp2_with fail
  rw [set_zeroCells]
  go_loopg [4] chars.size (fun g s4 wx => ∃ i : Nat, i + g = chars.size ∧ s4 = .int .i64 i ∧ wx = w.alloc (.cells (Lib.setCells (chars.data.toList.take i)) 75))
  case atStart => exact ⟨0, by omega, rfl, rfl⟩
  case round =>
    obtain ⟨i, hig, rfl, rfl⟩ := hrel
    by_cases hg0 : gk = 0
    · subst hg0
      obtain rfl : i = chars.size := by omega
      rw [show chars.data.toList.take chars.size = chars.data.toList from List.take_of_length_le (by rw [← Lib.size_eq]; exact Nat.le_refl _)]
      have hld := run_loadVar_new (P := Tryd.prog) w 75 (Lib.setCells chars.data.toList) 256 4 set_under (by rw [Lib.setCells_size]; exact set_info)
      have hsz := Lib.setCells_size chars.data.toList
      have hsc := run_storeCells_new (P := Tryd.prog) w 75 (Lib.setCells chars.data.toList) (Lib.setCells chars.data.toList) (by rw [hsz]; exact set_info) rfl (Lib.setCells_one _)
      have hla := run_loadAt_new (P := Tryd.prog) w 75 (Lib.setCells chars.data.toList) 256 4 set_under (by rw [hsz]; exact set_info)
      go_wp2_with fail
      unfold Oper.wp
      simp only [execOp, Sem.run_bind, Sem.run_pure, Result.andThen]
      erw [hla]
      dsimp only
      rw [Oper.upon_value]
      go_wp2_with fail
      (try simp only [Exit.inBlock, Exit.then])
      refine bodyPost_ret (v := .tuple #[.agg (Lib.setCells chars.data.toList), .bool true]) ?_ rfl ⟨rfl, rfl⟩
      rw [results_cell_tmp rfl]
      simp [asAddr, Result.andThen, hld]
    · have hi : i < chars.size := by omega
      obtain ⟨x, hx⟩ : ∃ x : UInt8, chars[i]'hi = x := ⟨_, rfl⟩
      have hxl : chars.data.toList[i]? = some x := by rw [← hx]; exact Lib.data_getElem? chars i hi
      have hx128 : ¬ ((128 : Int) ≤ (x.toNat : Int)) := by have := HA.out i x hxl; omega
      have hx256 : (x.toNat : Int) < 256 := by have := HA.out i x hxl; omega
      have hcell := Lib.setCells_at (chars.data.toList.take i) x
      have HX := Lib.hid hxl
      clear hxl
      go_wp2_with fail
      go_roundg (gk - 1)
      case measure => omega
      case rel => exact ⟨i + 1, by omega, by first | rfl | simp, by rw [List.take_add_one, HX.out]; simp only [Option.toList]; rw [Lib.setCells_snoc]⟩

set_option maxHeartbeats 8000000 in
set_option maxRecDepth 1000000 in
theorem trim_dgs_calls (s : ByteArray) (w : World) (h0 : 0 < s.size) (hs : s.size ≤ 9223372036854775807) :
    Calls Tryd.prog 48 #[.string s, .string ⟨#[48, 49, 50, 51, 52, 53, 54, 55, 56, 57]⟩] w fun e w' => e = .returned (.string (bstr (Lib.trimS s.data.toList dgs.data.toList))) ∧ Below w.heap.size w w' := by
  have hM := Lib.hid (makeSet_calls dgs w (by decide) dgs_ascii)
  have hemps : s.toList.isEmpty = false := by
    rw [Lib.toList_data]
    cases h : s.data.toList with
    | nil => have := Lib.size_eq s; rw [h, List.length_nil] at this; omega
    | cons _ _ => rfl
  obtain ⟨cs, hcs⟩ : ∃ cs, cs = Lib.setCells dgs.data.toList := ⟨_, rfl⟩
  have hsc : (storeCells ⟨w.heap.size + 1, 0, none⟩ cs.toList 0).run Tryd.prog ((w.alloc (.cells cs 75)).alloc (.cells Tryd.zeroCells75 75)) = .ok () ((w.alloc (.cells cs 75)).alloc (.cells cs 75)) := by
    have := run_storeCells_new (P := Tryd.prog) (w.alloc (.cells cs 75)) 75 Tryd.zeroCells75 cs (by rw [hcs, Lib.setCells_size]; exact set_info) (by rw [set_zeroCells, hcs, Lib.setCells_size, Lib.setCells_size]) (by rw [hcs]; exact Lib.setCells_one _)
    simpa using this
  have HC : Hid (∀ x : UInt8, ((w.alloc (.cells cs 75)).alloc (.cells cs 75)).cell? ⟨w.heap.size + 1, x.toNat, none⟩ = some (.bool (dgs.data.toList.contains x))) := fun x => by
    rw [World.cell?_alloc_at _ _ _ _ (by simp), hcs, Lib.setCells_at]
  have HS := Lib.hid hs
  have hsz : cs.size = 256 := by rw [hcs]; exact Lib.setCells_size _
  rw [← hcs] at hM
  clear hcs hs h0
  go_enter Tryd.func48, Tryd.ntmps48
  go_wp2_with fail
  refine hM.out.mono ?_
  rintro e w1 ⟨rfl, rfl⟩
  go_wp2_with fail
  refine (trimRightA_calls s (w.heap.size + 1) dgs.data.toList _ HS.out HC.out).mono ?_
  rintro e w2 ⟨rfl, rfl⟩
  clear hsc
  go_wp2_with fail
  refine (trimLeftA_calls _ (w.heap.size + 1) dgs.data.toList _ HC.out).mono ?_
  rintro e w2 ⟨rfl, rfl⟩
  go_wp2_with fail
  go_ret
  exact ⟨rfl, ((Below.refl _ _).alloc (Nat.le_refl _) _).alloc (by simp) _⟩

end Go.Proofs.YtmlbolfopakgmaaDoor

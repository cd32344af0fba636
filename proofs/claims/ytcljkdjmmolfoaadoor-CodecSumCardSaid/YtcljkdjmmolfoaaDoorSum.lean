/- codec.Sum, insolvencyref33.Adler. -/
import Derived.Test.YtcljkdjmmolfoaaDoorCmp
set_option linter.unusedVariables false
set_option linter.unusedSimpArgs false
namespace Go.Proofs.YtcljkdjmmolfoaaDoor
open Go.RowKit

def adStep (s : Nat × Nat) (b : Nat) : Nat × Nat := ((s.1 + b) % 65521, (s.2 + (s.1 + b) % 65521) % 65521)
def ad (l : List Nat) : Nat × Nat := l.foldl adStep (1, 0)
theorem ad_snoc (l : List Nat) (b : Nat) : ad (l ++ [b]) = adStep (ad l) b := by simp [ad]
theorem ad_lt (l : List Nat) : (ad l).1 < 65521 ∧ (ad l).2 < 65521 := by
  rcases List.eq_nil_or_concat l with rfl | ⟨l', b, rfl⟩
  · decide
  · rw [List.concat_eq_append, ad_snoc]; exact ⟨Nat.mod_lt _ (by decide), Nat.mod_lt _ (by decide)⟩
def adV (l : List Nat) : Nat := (ad l).2 * 65536 + (ad l).1
theorem ad_take (l : List Nat) (k : Nat) (h : k < l.length) : ad (l.take (k + 1)) = adStep (ad (l.take k)) (l.getD k 0) := by
  rw [List.take_succ_eq_append_getElem h, ad_snoc]
  simp [List.getD, List.getElem?_eq_getElem h]

set_option maxHeartbeats 4000000 in
set_option maxRecDepth 100000 in
theorem sum_calls (A : Option Addr) (c : Nat) (l : List Nat) (w : World) (hr : KRd .u8 w w.heap.size A l) (hb : Byt l) (hl : l.length ≤ 1000000000) :
    Calls Tryd.prog 11 #[.slice A l.length c] w fun e w' => e = .returned (.int .u32 (adV l : Nat)) ∧ w' = w := by
  obtain ⟨m, hm⟩ : ∃ m, m = l.length := ⟨_, rfl⟩
  rw [← hm] at hl ⊢
  have HM := Lib.hid hm
  have HR := Lib.hid hr
  have HBY := Lib.hid hb
  clear hm hr hb
  go_enter Tryd.func11, Tryd.ntmps11
  go_wp2_with fail
  go_loop [3, 4, 9] (fun xx yy ii => ∃ (k x y : Nat), k ≤ m ∧ ii = .int .i64 (k : Int) ∧ xx = .int .u32 (x : Int) ∧ yy = .int .u32 (y : Int) ∧ x < 65521 ∧ y < 65521 ∧ Hid (ad (l.take k) = (x, y))) (fun _ _ ii => m - (intOf ii).toNat)
  case atStart => exact ⟨0, 1, 0, by omega, rfl, rfl, rfl, by omega, by omega, rfl⟩
  case round =>
    obtain ⟨k, x, y, hk, rfl, rfl, rfl, hx, hy, HA⟩ := hrel
    by_cases hlt : k < m
    · obtain ⟨b, off, rfl, hbl, hc⟩ := HR.out.at_ (getElem?_getD (show k < l.length by rw [← HM.out]; exact hlt))
      have hv := byt_getD HBY.out k
      obtain ⟨v, hv'⟩ : ∃ v, v = l.getD k 0 := ⟨_, rfl⟩
      rw [← hv'] at hc hv
      obtain ⟨x1, hx1⟩ : ∃ x1, x1 = (x + v) % 65521 := ⟨_, rfl⟩
      obtain ⟨y1, hy1⟩ : ∃ y1, y1 = (y + x1) % 65521 := ⟨_, rfl⟩
      have HA2 : Hid (ad (l.take (k + 1)) = (x1, y1)) := by
        show _ = _
        rw [ad_take _ _ (by rw [← HM.out]; exact hlt), HA.out, ← hv', adStep, hx1, hy1, hx1]
      have e1 : ((x : Int) + (v : Int)) % 65521 = (x1 : Int) := by omega
      have e2 : ((y : Int) + (x1 : Int)) % 65521 = (y1 : Int) := by omega
      have hx1l : x1 < 65521 := by omega
      have hy1l : y1 < 65521 := by omega
      clear hv' hx1 hy1 HA
      go_wp2_with fail
      go_round
      case measure => simp [intOf]; omega
      case rel => exact ⟨k + 1, x1, y1, by omega, by go_num, by first | rfl | rw [e1], by first | rfl | rw [e2], hx1l, hy1l, HA2⟩
    · obtain rfl : k = m := by omega
      have HE : Hid (adV l = y * 65536 + x) := by
        have := HA.out
        rw [List.take_of_length_le (by rw [← HM.out]; omega)] at this
        show _ = _
        rw [adV, this]
      have e2 : bits .or .u32 ((y : Int) * 65536) (x : Int) = ((y * 65536 + x : Nat) : Int) := by
        have := or_u32' x (y * 65536) 16 y (by omega) (by omega) (by omega)
        rwa [show ((y * 65536 : Nat) : Int) = (y : Int) * 65536 by simp] at this
      clear HA
      go_wp2_with fail
      go_ret
      exact ⟨ret_int (by rw [HE.out]; first | rfl | omega | rw [e2]), rfl⟩

set_option maxHeartbeats 4000000 in
set_option maxRecDepth 100000 in
theorem adler_calls (A : Option Addr) (c : Nat) (l : List Nat) (w : World) (hr : KRd .u8 w w.heap.size A l) (hb : Byt l) (hl : l.length ≤ 1000000000) :
    Calls Tryd.prog 12 #[.slice A l.length c] w fun e w' => e = .returned (.int .u32 (adV l : Nat)) ∧ w' = w := by
  obtain ⟨m, hm⟩ : ∃ m, m = l.length := ⟨_, rfl⟩
  rw [← hm] at hl ⊢
  have HM := Lib.hid hm
  have HR := Lib.hid hr
  have HBY := Lib.hid hb
  clear hm hr hb
  go_enter Tryd.func12, Tryd.ntmps12
  go_wp2_with fail
  go_loop [3, 4, 5] (fun xx yy ii => ∃ (k x y : Nat), k ≤ m ∧ ii = .int .i64 (k : Int) ∧ xx = .int .i64 (x : Int) ∧ yy = .int .i64 (y : Int) ∧ x < 65521 ∧ y < 65521 ∧ Hid (ad (l.take k) = (x, y))) (fun _ _ ii => m - (intOf ii).toNat)
  case atStart => exact ⟨0, 1, 0, by omega, rfl, rfl, rfl, by omega, by omega, rfl⟩
  case round =>
    obtain ⟨k, x, y, hk, rfl, rfl, rfl, hx, hy, HA⟩ := hrel
    by_cases hlt : k < m
    · obtain ⟨b, off, rfl, hbl, hc⟩ := HR.out.at_ (getElem?_getD (show k < l.length by rw [← HM.out]; exact hlt))
      have hv := byt_getD HBY.out k
      obtain ⟨v, hv'⟩ : ∃ v, v = l.getD k 0 := ⟨_, rfl⟩
      rw [← hv'] at hc hv
      obtain ⟨x1, hx1⟩ : ∃ x1, x1 = (x + v) % 65521 := ⟨_, rfl⟩
      obtain ⟨y1, hy1⟩ : ∃ y1, y1 = (y + x1) % 65521 := ⟨_, rfl⟩
      have HA2 : Hid (ad (l.take (k + 1)) = (x1, y1)) := by
        show _ = _
        rw [ad_take _ _ (by rw [← HM.out]; exact hlt), HA.out, ← hv', adStep, hx1, hy1, hx1]
      have e1 : ((x : Int) + (v : Int)) % 65521 = (x1 : Int) := by omega
      have e2 : ((y : Int) + (x1 : Int)) % 65521 = (y1 : Int) := by omega
      have hx1l : x1 < 65521 := by omega
      have hy1l : y1 < 65521 := by omega
      clear hv' hx1 hy1 HA
      go_wp2_with fail
      go_round
      case measure => simp [intOf]; omega
      case rel => exact ⟨k + 1, x1, y1, by omega, by go_num, by first | rfl | rw [e1], by first | rfl | rw [e2], hx1l, hy1l, HA2⟩
    · obtain rfl : k = m := by omega
      have HE : Hid (adV l = y * 65536 + x) := by
        have := HA.out
        rw [List.take_of_length_le (by rw [← HM.out]; omega)] at this
        show _ = _
        rw [adV, this]
      obtain ⟨z, hz⟩ : ∃ z, z = y * 65536 + x := ⟨_, rfl⟩
      rw [← hz] at HE
      have e2 : (y : Int) * 65536 + (x : Int) = (z : Int) := by omega
      have hzl : z < 4294967296 := by omega
      clear HA hz
      go_wp2_with fail
      go_ret
      exact ⟨ret_int (by rw [HE.out]), rfl⟩

end Go.Proofs.YtcljkdjmmolfoaaDoor

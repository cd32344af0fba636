/- FromUint, Uint of both; Compare, Subtract; the definition's NatCompare. -/
import Derived.Test.YtmlbolfopakgmaaDoorAdd
import Derived.Lib.Bytealg
set_option linter.unusedVariables false
set_option linter.unusedSimpArgs false
namespace Go.Proofs.YtmlbolfopakgmaaDoor
open Go.RowKit

theorem two_val {u : Nat} (h : u < 18446744073709551616) : valL [u % 4294967296, u / 4294967296] = u ∧ Dig [u % 4294967296, u / 4294967296] := by
  refine ⟨by simp only [valL]; omega, Dig.cons (by omega) (Dig.one (by omega))⟩

theorem krd_new2 (w : World) (a b : Nat) (T : TypeId) : KRd .u32 (w.alloc (.cells #[.int .u32 (a : Int), .int .u32 (b : Int)] T)) (w.alloc (.cells #[.int .u32 (a : Int), .int .u32 (b : Int)] T)).heap.size (some ⟨w.heap.size, 0, none⟩) [a, b] := by
  refine KRd.mk_ (by simp) fun j x hj => ?_
  have h := rd_new_cells w [.int .u32 (a : Int), .int .u32 (b : Int)] T w.heap.size rfl j (.int .u32 (x : Int)) (by
    rcases j with _ | _ | j
    · simp at hj; simp [hj]
    · simp at hj; simp [hj]
    · simp at hj)
  rw [Addr.add_lit] at h
  exact h

set_option maxHeartbeats 1000000 in
set_option maxRecDepth 100000 in
theorem natFromUint_calls (u : Nat) (w : World) (hu : u < 18446744073709551616) :
    Calls Tryd.prog 32 #[.int .u64 u] w fun e w' => e = .returned (.string (ncan u)) ∧ Below w.heap.size w w' := by
  obtain ⟨a, ha⟩ : ∃ a, a = u % 4294967296 := ⟨_, rfl⟩
  obtain ⟨b, hb⟩ : ∃ b, b = u / 4294967296 := ⟨_, rfl⟩
  obtain ⟨h1, h2⟩ := two_val hu
  rw [← ha, ← hb] at h1 h2
  have HT := Lib.hid (text_calls (some ⟨w.heap.size, 0, none⟩) 2 [a, b] _ (krd_new2 w a b 60) h2 (by simp) (by simp))
  rw [h1] at HT
  have u1 : IntKind.u32.wrap (u : Int) = (a : Int) := by rw [IntKind.wrap_u32]; omega
  have u2 : (u : Int) % 4294967296 = (a : Int) := by omega
  have u3 : (u : Int) / 4294967296 = (b : Int) := by omega
  have hbl : b < 4294967296 := by omega
  clear ha hb h1 h2 hu
  go_enter Tryd.func32, Tryd.ntmps32
  go_wp2_with fail
  refine HT.out.mono ?_
  rintro e w1 ⟨rfl, hb1⟩
  have hba := ((Below.refl _ _).alloc (Nat.le_refl _) (.cells #[.int .u32 (a : Int), .int .u32 (b : Int)] 60)).trans (hb1.mono (by simp))
  clear hb1
  go_wp2_with fail
  go_ret
  exact ⟨rfl, hba⟩

set_option maxHeartbeats 1000000 in
set_option maxRecDepth 100000 in
theorem refFromUint_calls (u : Nat) (w : World) (hu : u < 18446744073709551616) :
    Calls Tryd.prog 34 #[.int .u64 u] w fun e w' => e = .returned (.string (ncan u)) ∧ Below w.heap.size w w' := by
  obtain ⟨a, ha⟩ : ∃ a, a = u % 4294967296 := ⟨_, rfl⟩
  obtain ⟨b, hb⟩ : ∃ b, b = u / 4294967296 := ⟨_, rfl⟩
  obtain ⟨h1, h2⟩ := two_val hu
  rw [← ha, ← hb] at h1 h2
  have HT := Lib.hid (textRef_calls (some ⟨w.heap.size, 0, none⟩) 2 [a, b] _ (krd_new2 w a b 60) h2 (by simp) (by simp))
  rw [h1] at HT
  have u1 : IntKind.u32.wrap (u : Int) = (a : Int) := by rw [IntKind.wrap_u32]; omega
  have u2 : (u : Int) % 4294967296 = (a : Int) := by omega
  have u3 : (u : Int) / 4294967296 = (b : Int) := by omega
  have hbl : b < 4294967296 := by omega
  clear ha hb h1 h2 hu
  go_enter Tryd.func34, Tryd.ntmps34
  go_wp2_with fail
  refine HT.out.mono ?_
  rintro e w1 ⟨rfl, hb1⟩
  have hba := ((Below.refl _ _).alloc (Nat.le_refl _) (.cells #[.int .u32 (a : Int), .int .u32 (b : Int)] 60)).trans (hb1.mono (by simp))
  clear hb1
  go_wp2_with fail
  go_ret
  exact ⟨rfl, hba⟩

/-- what Uint answers -/
def uintV (n : Nat) : Nat := if n < 18446744073709551616 then n else 0
def uintOk (n : Nat) : Bool := decide (n < 18446744073709551616)

theorem len8 {n : Nat} : (canon n).length ≤ 8 ↔ n < 18446744073709551616 := by
  constructor
  · intro h
    have h1 := num_lt (canon n)
    rw [num_canon] at h1
    have h2 : 256 ^ (canon n).length ≤ 256 ^ 8 := Nat.pow_le_pow_right (by omega) h
    omega
  · intro h
    exact canon_len_le (k := 8) (by omega)

theorem num_take_succ (l : List UInt8) (k : Nat) (h : k < l.length) : num (l.take (k + 1)) = num (l.take k) * 256 + (l[k]).toNat := by
  rw [List.take_succ_eq_append_getElem h, num_snoc]

theorem ret_u_b {a b : Int} {p q : Bool} (h : a = b) (h2 : p = q) : Ending.returned (.tuple #[.int .u64 a, .bool p]) = .returned (.tuple #[.int .u64 b, .bool q]) := by rw [h, h2]

theorem num_take_bd (l : List UInt8) (k : Nat) (h : l.length ≤ 8) (hk : k < l.length) : num (l.take k) < 72057594037927936 := by
  have h1 := num_lt (l.take k)
  rw [List.length_take_of_le (by omega)] at h1
  have h2 : 256 ^ k ≤ 256 ^ 7 := Nat.pow_le_pow_right (by omega) (by omega)
  omega

set_option maxHeartbeats 1000000 in
set_option maxRecDepth 100000 in
theorem natUint_calls (s : ByteArray) (w : World) :
    Calls Tryd.prog 31 #[.string s] w fun e w' => e = .returned (.tuple #[.int .u64 (uintV (snum s) : Nat), .bool (uintOk (snum s))]) ∧ w' = w := by
  have HN := Lib.hid (fun w => normalize_calls s w)
  obtain ⟨n, hn⟩ : ∃ n, n = snum s := ⟨_, rfl⟩
  rw [← hn] at HN ⊢
  obtain ⟨t, ht⟩ : ∃ t, t = ncan n := ⟨_, rfl⟩
  rw [← ht] at HN
  have htl : t.size = (canon n).length := by rw [ht, ncan_size]
  have htd : t.data.toList = canon n := by rw [ht]; rfl
  clear hn ht
  by_cases hb : 8 < t.size
  · have HE : Hid (uintV n = 0 ∧ uintOk n = false) := by
      have h1 : ¬ n < 18446744073709551616 := by
        intro h; have := len8.2 h; omega
      exact ⟨by unfold uintV; rw [if_neg h1], by unfold uintOk; simpa using h1⟩
    clear htl htd
    go_enter Tryd.func31, Tryd.ntmps31
    go_wp2_with fail
    refine (HN.out _).mono ?_
    rintro e w1 ⟨rfl, rfl⟩
    go_wp2_with fail
    go_ret2
    exact ⟨ret_u_b (by rw [HE.out.1]; rfl) HE.out.2.symm, rfl⟩
  · have hb2 : t.size ≤ 8 := by omega
    have HE : Hid (uintV n = n ∧ uintOk n = true) := by
      have h1 : n < 18446744073709551616 := len8.1 (by omega)
      exact ⟨by unfold uintV; rw [if_pos h1], by unfold uintOk; simpa using h1⟩
    have HTD := Lib.hid htd
    clear htl htd hb
    go_enter Tryd.func31, Tryd.ntmps31
    go_wp2_with fail
    refine (HN.out _).mono ?_
    rintro e w1 ⟨rfl, rfl⟩
    go_wp2_with fail
    go_loop [4, 13] (fun uu ii => ∃ k u : Nat, k ≤ t.size ∧ ii = .int .i64 (k : Int) ∧ uu = .int .u64 (u : Int) ∧ Hid (u = num (t.data.toList.take k))) (fun _ ii => t.size - (intOf ii).toNat)
    case atStart => exact ⟨0, 0, by omega, rfl, rfl, rfl⟩
    case round =>
      obtain ⟨k, u, hk, rfl, rfl, HU⟩ := hrel
      by_cases hlt : k < t.size
      · have hdl : k < t.data.toList.length := by rw [← Lib.size_eq]; exact hlt
        have hub : u < 72057594037927936 := by rw [HU.out]; exact num_take_bd _ _ (by rw [← Lib.size_eq]; exact hb2) hdl
        obtain ⟨c, hc⟩ : ∃ c, c = t[k].toNat := ⟨_, rfl⟩
        have hcl : c < 256 := by rw [hc]; exact t[k].toNat_lt
        have u1 : IntKind.u64.wrap ((u : Int) * 256) = (u : Int) * 256 := IntWalk.u64_in _ (by omega)
        have u2 : (t[k].toNat : Int) = (c : Int) := by rw [hc]
        have u3 : bits .or .u64 ((u : Int) * 256) (c : Int) = ((u * 256 + c : Nat) : Int) := by
          have := or_u64' c (u * 256) 8 u hcl (by omega) (by omega)
          rw [← this]; simp
        have HU2 : Hid (u * 256 + c = num (t.data.toList.take (k + 1))) := by
          show _ = _
          rw [num_take_succ _ _ hdl, ← HU.out, hc]; rfl
        clear hub hc
        go_wp2_with fail
        go_round
        case measure => simp [intOf]; omega
        case rel => exact ⟨k + 1, u * 256 + c, by omega, by go_num, by go_num, HU2⟩
      · have HF : Hid (u = n) := by
          show _ = _
          rw [HU.out, List.take_of_length_le (by rw [← Lib.size_eq]; omega), HTD.out, num_canon]
        go_wp2_with fail
        go_ret2
        exact ⟨ret_u_b (by rw [HF.out, HE.out.1]) HE.out.2.symm, rfl⟩

set_option maxHeartbeats 1000000 in
set_option maxRecDepth 100000 in
theorem refUint_calls (s : ByteArray) (w : World) (hs : s.size ≤ 9223372036854775807) :
    Calls Tryd.prog 33 #[.string s] w fun e w' => e = .returned (.tuple #[.int .u64 (uintV (snum s) : Nat), .bool (uintOk (snum s))]) ∧ w' = w := by
  have HN := Lib.hid (fun w => normRef_calls s w hs)
  clear hs
  obtain ⟨n, hn⟩ : ∃ n, n = snum s := ⟨_, rfl⟩
  rw [← hn] at HN ⊢
  obtain ⟨t, ht⟩ : ∃ t, t = ncan n := ⟨_, rfl⟩
  rw [← ht] at HN
  have htl : t.size = (canon n).length := by rw [ht, ncan_size]
  have htd : t.data.toList = canon n := by rw [ht]; rfl
  clear hn ht
  by_cases hb : 8 < t.size
  · have HE : Hid (uintV n = 0 ∧ uintOk n = false) := by
      have h1 : ¬ n < 18446744073709551616 := by
        intro h; have := len8.2 h; omega
      exact ⟨by unfold uintV; rw [if_neg h1], by unfold uintOk; simpa using h1⟩
    clear htl htd
    go_enter Tryd.func33, Tryd.ntmps33
    go_wp2_with fail
    refine (HN.out _).mono ?_
    rintro e w1 ⟨rfl, rfl⟩
    go_wp2_with fail
    go_ret2
    exact ⟨ret_u_b (by rw [HE.out.1]; rfl) HE.out.2.symm, rfl⟩
  · have hb2 : t.size ≤ 8 := by omega
    have HE : Hid (uintV n = n ∧ uintOk n = true) := by
      have h1 : n < 18446744073709551616 := len8.1 (by omega)
      exact ⟨by unfold uintV; rw [if_pos h1], by unfold uintOk; simpa using h1⟩
    have HTD := Lib.hid htd
    clear htl htd hb
    go_enter Tryd.func33, Tryd.ntmps33
    go_wp2_with fail
    refine (HN.out _).mono ?_
    rintro e w1 ⟨rfl, rfl⟩
    go_wp2_with fail
    go_loop [4, 5] (fun uu ii => ∃ k u : Nat, k ≤ t.size ∧ ii = .int .i64 (k : Int) ∧ uu = .int .u64 (u : Int) ∧ Hid (u = num (t.data.toList.take k))) (fun _ ii => t.size - (intOf ii).toNat)
    case atStart => exact ⟨0, 0, by omega, rfl, rfl, rfl⟩
    case round =>
      obtain ⟨k, u, hk, rfl, rfl, HU⟩ := hrel
      by_cases hlt : k < t.size
      · have hdl : k < t.data.toList.length := by rw [← Lib.size_eq]; exact hlt
        have hub : u < 72057594037927936 := by rw [HU.out]; exact num_take_bd _ _ (by rw [← Lib.size_eq]; exact hb2) hdl
        obtain ⟨c, hc⟩ : ∃ c, c = t[k].toNat := ⟨_, rfl⟩
        have hcl : c < 256 := by rw [hc]; exact t[k].toNat_lt
        have u1 : IntKind.u64.wrap ((u : Int) * 256) = (u : Int) * 256 := IntWalk.u64_in _ (by omega)
        have u2 : (t[k].toNat : Int) = (c : Int) := by rw [hc]
        have u3 : bits .or .u64 ((u : Int) * 256) (c : Int) = ((u * 256 + c : Nat) : Int) := by
          have := or_u64' c (u * 256) 8 u hcl (by omega) (by omega)
          rw [← this]; simp
        have HU2 : Hid (u * 256 + c = num (t.data.toList.take (k + 1))) := by
          show _ = _
          rw [num_take_succ _ _ hdl, ← HU.out, hc]; rfl
        clear hub hc
        go_wp2_with fail
        go_round
        case measure => simp [intOf]; omega
        case rel => exact ⟨k + 1, u * 256 + c, by omega, by go_num, by go_num, HU2⟩
      · have HF : Hid (u = n) := by
          show _ = _
          rw [HU.out, List.take_of_length_le (by rw [← Lib.size_eq]; omega), HTD.out, num_canon]
        go_wp2_with fail
        go_ret2
        exact ⟨ret_u_b (by rw [HF.out, HE.out.1]) HE.out.2.symm, rfl⟩

end Go.Proofs.YtmlbolfopakgmaaDoor

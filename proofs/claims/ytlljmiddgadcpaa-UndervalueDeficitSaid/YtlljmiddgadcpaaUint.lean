/- FromUint, Uint of both; Compare, Subtract; the definition's NatCompare. -/
import Derived.Test.YtlljmiddgadcpaaAdd
import Derived.Lib.Bytealg
set_option linter.unusedVariables false
set_option linter.unusedSimpArgs false
namespace Go.Proofs.Ytlljmiddgadcpaa
open Go.RowKit

theorem two_val {u : Nat} (h : u < 18446744073709551616) : valL [u % 4294967296, u / 4294967296] = u ∧ Dig [u % 4294967296, u / 4294967296] := by
  refine ⟨by simp only [valL]; omega, Dig.cons (by omega) (Dig.one (by omega))⟩

theorem krd_new2 (w : World) (a b : Nat) (T : TypeId) : KRd .u32 (w.alloc (.cells #[.int .u32 (a : Int), .int .u32 (b : Int)] T)) (w.alloc (.cells #[.int .u32 (a : Int), .int .u32 (b : Int)] T)).heap.size (some ⟨w.heap.size, 0, none⟩) [a, b] := by
  refine KRd.mk_ (by simp) fun j x hj => ?_
  have h := rd_new_cells w [.int .u32 (a : Int), .int .u32 (b : Int)] T w.heap.size rfl j (.int .u32 (x : Int)) (by
    rcases j with _ | _ | j
    · simp at hj; simp [hj]
    · simp at hj; simp [hj]
    · simp at hj)
  rw [Addr.add_lit] at h
  exact h

set_option maxHeartbeats 1000000 in
set_option maxRecDepth 100000 in
theorem refFromUint_calls (u : Nat) (w : World) (hu : u < 18446744073709551616) :
    Calls Try.prog 21 #[.int .u64 u] w fun e w' => e = .returned (.string (ncan u)) ∧ Below w.heap.size w w' := by
  obtain ⟨a, ha⟩ : ∃ a, a = u % 4294967296 := ⟨_, rfl⟩
  obtain ⟨b, hb⟩ : ∃ b, b = u / 4294967296 := ⟨_, rfl⟩
  obtain ⟨h1, h2⟩ := two_val hu
  rw [← ha, ← hb] at h1 h2
  have HT := Lib.hid (textRef_calls (some ⟨w.heap.size, 0, none⟩) 2 [a, b] _ (krd_new2 w a b 60) h2 (by simp) (by simp))
  rw [h1] at HT
  have u1 : IntKind.u32.wrap (u : Int) = (a : Int) := by rw [IntKind.wrap_u32]; omega
  have u2 : (u : Int) % 4294967296 = (a : Int) := by omega
  have u3 : (u : Int) / 4294967296 = (b : Int) := by omega
  have hbl : b < 4294967296 := by omega
  clear ha hb h1 h2 hu
  go_enter Try.func21, Try.ntmps21
  go_wp2_with fail
  refine HT.out.mono ?_
  rintro e w1 ⟨rfl, hb1⟩
  have hba := ((Below.refl _ _).alloc (Nat.le_refl _) (.cells #[.int .u32 (a : Int), .int .u32 (b : Int)] 60)).trans (hb1.mono (by simp))
  clear hb1
  go_wp2_with fail
  go_ret
  exact ⟨rfl, hba⟩

/-- what Uint answers -/
def uintV (n : Nat) : Nat := if n < 18446744073709551616 then n else 0
def uintOk (n : Nat) : Bool := decide (n < 18446744073709551616)

theorem len8 {n : Nat} : (canon n).length ≤ 8 ↔ n < 18446744073709551616 := by
  constructor
  · intro h
    have h1 := num_lt (canon n)
    rw [num_canon] at h1
    have h2 : 256 ^ (canon n).length ≤ 256 ^ 8 := Nat.pow_le_pow_right (by omega) h
    omega
  · intro h
    exact canon_len_le (k := 8) (by omega)

theorem num_take_succ (l : List UInt8) (k : Nat) (h : k < l.length) : num (l.take (k + 1)) = num (l.take k) * 256 + (l[k]).toNat := by
  rw [List.take_succ_eq_append_getElem h, num_snoc]

theorem ret_u_b {a b : Int} {p q : Bool} (h : a = b) (h2 : p = q) : Ending.returned (.tuple #[.int .u64 a, .bool p]) = .returned (.tuple #[.int .u64 b, .bool q]) := by rw [h, h2]

theorem num_take_bd (l : List UInt8) (k : Nat) (h : l.length ≤ 8) (hk : k < l.length) : num (l.take k) < 72057594037927936 := by
  have h1 := num_lt (l.take k)
  rw [List.length_take_of_le (by omega)] at h1
  have h2 : 256 ^ k ≤ 256 ^ 7 := Nat.pow_le_pow_right (by omega) (by omega)
  omega

end Go.Proofs.Ytlljmiddgadcpaa

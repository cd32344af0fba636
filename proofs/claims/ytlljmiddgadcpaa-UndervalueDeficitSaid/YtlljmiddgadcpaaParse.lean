/- limbs.trim, strip, parse, limbs. -/
import Derived.Test.YtlljmiddgadcpaaNorm
import Derived.StillTailTactics
import Derived.Deep.OwnRows
import Derived.BigQuiet
import Derived.Deep.QuietTactic
set_option linter.unusedVariables false
set_option linter.unusedSimpArgs false
namespace Go.Proofs.Ytlljmiddgadcpaa
open Go.RowKit

/-- a slice of digits that holds the number n -/
theorem trim_end {l : List Nat} (hd : Dig l) {k : Nat} (hk : k ≤ l.length) (hz : ∀ x ∈ l.drop k, x = 0) (ht : k = 0 ∨ l.getD (k - 1) 0 ≠ 0) : l.take k = limbs (valL l) ∧ (limbs (valL l)).length = k := by
  have := trim_take hd hk hz ht
  exact ⟨this, by rw [← this, List.length_take_of_le hk]⟩

theorem zero_more {l : List Nat} {k : Nat} (hk : k + 1 ≤ l.length) (hz : ∀ x ∈ l.drop (k + 1), x = 0) (h0 : l.getD k 0 = 0) : ∀ x ∈ l.drop k, x = 0 := by
  rw [List.drop_eq_getElem_cons (by omega)]
  intro x hx
  rcases List.mem_cons.1 hx with hx | hx
  · subst hx
    rwa [List.getD_eq_getElem?_getD, List.getElem?_eq_getElem (by omega)] at h0
  · exact hz x hx

theorem KRd.fin {k : IntKind} {w : World} {B : Nat} {A : Option Addr} {l m : List Nat} {n : Nat} (h : KRd k w B A l) (e : l.take n = m) : KRd k w B A m := e ▸ h.take n

set_option maxHeartbeats 1000000 in
theorem strip_calls (A : Option Addr) (c : Nat) (l : List Nat) (w : World) (hr : KRd .u32 w w.heap.size A l) (hd : Dig l) (hc : l.length ≤ c) (hl : l.length ≤ 1000000000) :
    Calls Try.prog 31 #[.slice A l.length c] w fun e w' => e = .returned (.slice A (limbs (valL l)).length c) ∧ w' = w := by
  have HR := Lib.hid hr
  have HD := Lib.hid hd
  clear hr hd
  go_enter Try.func31, Try.ntmps31
  go_wp2_with fail
  go_loop [3] (fun i => ∃ k : Nat, k ≤ l.length ∧ i = .int .i64 k ∧ Hid (∀ x ∈ l.drop k, x = 0)) (fun i => (intOf i).toNat)
  case atStart => exact ⟨l.length, Nat.le_refl _, rfl, by intro x hx; simp at hx⟩
  case round =>
    obtain ⟨k, hk, rfl, HZ⟩ := hrel
    by_cases h0 : k = 0
    · subst h0
      have HE : Hid ((limbs (valL l)).length = 0) := (trim_end HD.out hk HZ.out (.inl rfl)).2
      clear HZ
      go_wp2
      go_ret
      exact ⟨by rw [HE.out]; rfl, rfl⟩
    · obtain ⟨j, rfl⟩ : ∃ j, k = j + 1 := ⟨k - 1, by omega⟩
      obtain ⟨b, off, rfl, hb, hcell⟩ := HR.out.at_ (getElem?_getD (show j < l.length by omega))
      obtain ⟨x, hx⟩ : ∃ x, x = l.getD j 0 := ⟨_, rfl⟩
      rw [← hx] at hcell
      have HX := Lib.hid hx
      clear h0 hx
      by_cases hx0 : x = 0
      · have HZ2 : Hid (∀ x ∈ l.drop j, x = 0) := zero_more hk HZ.out (by rw [← HX.out, hx0])
        have hx1 : ((x : Int) == 0) = true := by simp [hx0]
        clear hx0 HZ HX
        go_wp2
        go_round
        case rel => exact ⟨j, by omega, by go_num, HZ2⟩
        case measure => simp [intOf]
      · have hx1 : ((x : Int) == 0) = false := by simpa using hx0
        have HE : Hid ((limbs (valL l)).length = j + 1) := (trim_end HD.out hk HZ.out (.inr (by show l.getD j 0 ≠ 0; rw [← HX.out]; exact hx0))).2
        clear hx0 HZ HX
        go_wp2
        go_ret
        exact ⟨by rw [HE.out]; rfl, rfl⟩

/-- the bytes of a string, the least one first -/
def lebytes (s : ByteArray) : List Nat := s.data.toList.reverse.map UInt8.toNat
theorem lebytes_len (s : ByteArray) : (lebytes s).length = s.size := by rw [lebytes, List.length_map, List.length_reverse, Lib.size_eq]
theorem lebytes_byt (s : ByteArray) : Byt (lebytes s) := by
  intro x hx
  obtain ⟨c, _, rfl⟩ := List.mem_map.1 hx
  exact c.toNat_lt
theorem lebytes_get (s : ByteArray) (i : Nat) (h : i < s.size) (h' : s.size - 1 - i < s.size) : (lebytes s).getD i 0 = (s[s.size - 1 - i]'h').toNat := by
  rw [lebytes, List.getD_eq_getElem?_getD, List.getElem?_map, List.getElem?_reverse (by rw [← Lib.size_eq]; exact h), ← Lib.size_eq]
  rw [List.getElem?_eq_getElem (by rw [← Lib.size_eq]; exact h')]
  rfl
theorem snum_le (s : ByteArray) : snum s = valB (lebytes s) := rfl

theorem packs_nil (K : Nat) : packs K [] = List.replicate K 0 := by
  apply List.ext_getElem?
  intro j
  by_cases hj : j < K <;> simp [packs, pk, List.getElem?_replicate, hj]

theorem pow8 (m : Nat) : 2 ^ (8 * m) = 256 ^ m := by rw [Nat.pow_mul]

theorem shl_byte (c m : Nat) (hm : m < 4) (hc : c < 256) : IntKind.u32.wrap ((c : Int) * 2 ^ (8 * (m : Int)).toNat) = ((c * 256 ^ m : Nat) : Int) ∧ c * 256 ^ m + 256 ^ m ≤ 4294967296 := by
  have e : (8 * (m : Int)).toNat = 8 * m := by omega
  rw [e]
  have h1 : ((c : Int) * 2 ^ (8 * m)) = ((c * 256 ^ m : Nat) : Int) := by
    rw [Int.natCast_mul, ← pow8]; simp
  have h2 : c * 256 ^ m + 256 ^ m ≤ 4294967296 := by
    have h3 : (c + 1) * 256 ^ m ≤ 256 * 256 ^ 3 := Nat.mul_le_mul (by omega) (Nat.pow_le_pow_right (by omega) (by omega))
    rw [Nat.add_mul, Nat.one_mul] at h3
    omega
  refine ⟨?_, h2⟩
  rw [h1, IntWalk.u32_in]
  have : 0 < 256 ^ m := Nat.pow_pos (by omega)
  omega

theorem or_byte (v c m : Nat) (hm : m < 4) (hc : c < 256) (hv : v < 256 ^ m) : bits BinOp.or IntKind.u32 (v : Int) (IntKind.u32.wrap ((c : Int) * 2 ^ (8 * (m : Int)).toNat)) = ((v + c * 256 ^ m : Nat) : Int) := by
  obtain ⟨h1, h2⟩ := shl_byte c m hm hc
  rw [h1]
  exact or_u32 v (c * 256 ^ m) (8 * m) c (by rw [pow8]; exact hv) (by rw [pow8, Nat.mul_comm]) (by omega)

end Go.Proofs.Ytlljmiddgadcpaa

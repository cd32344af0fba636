/- insolvencylaw1.few; the program's operations on strings whose numbers are known. -/
import Derived.Test.YtmlbolfopakgmaaDoorAwake1
import Derived.Test.YtmlbolfopakgmaaDoorMul
import Derived.Test.YtmlbolfopakgmaaDoorCmpS
set_option linter.unusedVariables false
set_option linter.unusedSimpArgs false
namespace Go.Proofs.YtmlbolfopakgmaaDoor
open Go.RowKit

theorem few_calls (b off n c : Nat) (ss : List ByteArray) (w : World) (hn : n = ss.length) (hc : ∀ (j : Nat) (s : ByteArray), ss[j]? = some s → w.cell? ⟨b, off + j, none⟩ = some (.string s)) (hl : ss.length ≤ 1000) (hs : ∀ s ∈ ss, s.size ≤ 9223372036854775807) :
    Calls Tryd.prog 20 #[.slice (some ⟨b, off, none⟩) n c] w fun e w' => e = .returned (.bool (ss.all fun s => decide (s.size ≤ 60))) ∧ w' = w := by
  have HS := Lib.hid hs
  have HC := Lib.hid hc
  have HN := Lib.hid hn
  have hnl : n ≤ 1000 := by omega
  clear hs hc hl hn
  go_enter Tryd.func20, Tryd.ntmps20
  go_wp2_with fail
  go_loop [7] (fun ii => ∃ k : Nat, k ≤ n ∧ ii = .int .i64 (k : Int) ∧ Hid (∀ s ∈ ss.take k, s.size ≤ 60)) (fun ii => n - (intOf ii).toNat)
  case atStart => exact ⟨0, by omega, rfl, by simp [Hid]⟩
  case round =>
    obtain ⟨k, hk, rfl, HI⟩ := hrel
    by_cases hlt : k < n
    · obtain ⟨s, hsk⟩ := getElem?_of_lt (show k < ss.length by have := HN.out; omega)
      have hcell := HC.out k s hsk
      have hsm := HS.out s (List.mem_of_getElem? hsk)
      have HSK := Lib.hid hsk
      clear hsk
      by_cases hb : 60 < s.size
      · have HE : Hid ((ss.all fun s => decide (s.size ≤ 60)) = false) := by
          show _ = _
          rw [List.all_eq_false]
          exact ⟨s, List.mem_of_getElem? HSK.out, by simpa using hb⟩
        go_wp2_with fail
        go_ret
        exact ⟨ret_bool HE.out.symm, rfl⟩
      · have HI2 : Hid (∀ s ∈ ss.take (k + 1), s.size ≤ 60) := by
          intro t ht
          rw [List.take_add_one, HSK.out] at ht
          rcases List.mem_append.1 ht with ht | ht
          · exact HI.out t ht
          · simp at ht; subst ht; omega
        go_wp2_with fail
        go_round
        case measure => simp [intOf]; omega
        case rel => exact ⟨k + 1, by omega, by go_num, HI2⟩
    · have HE : Hid ((ss.all fun s => decide (s.size ≤ 60)) = true) := by
        show _ = _
        rw [List.all_eq_true]
        intro s hs
        have h := HI.out s (by rw [List.take_of_length_le (by have := HN.out; omega)]; exact hs)
        simpa using h
      go_wp2_with fail
      go_ret
      exact ⟨ret_bool HE.out.symm, rfl⟩

/-- a string, its number, a bound of its length -/
def Sm (s : ByteArray) (n : Nat) : Prop := snum s = n ∧ s.size ≤ 100000
theorem Sm.of {s : ByteArray} (h : s.size ≤ 60) : Sm s (snum s) := ⟨rfl, by omega⟩
theorem Sm.can {n k : Nat} (h : n < 256 ^ k) (hk : k ≤ 100000) : Sm (ncan n) n := ⟨snum_ncan n, by rw [ncan_size]; exact Nat.le_trans (canon_len_le h) hk⟩

section
variable {s t : ByteArray} {x y z : Nat}
theorem op_add (hs : Sm s x) (ht : Sm t y) (hz : x + y = z) (w : World) : Calls Tryd.prog 37 #[.string s, .string t] w fun e w' => e = .returned (.string (ncan z)) ∧ Below w.heap.size w w' := by
  have h := natAdd_calls s t w (by have := hs.2; omega) (by have := ht.2; omega)
  rwa [hs.1, ht.1, hz] at h
theorem op_mul (hs : Sm s x) (ht : Sm t y) (hz : x * y = z) (w : World) : Calls Tryd.prog 35 #[.string s, .string t] w fun e w' => e = .returned (.string (ncan z)) ∧ Below w.heap.size w w' := by
  have h := natMultiply_calls s t w (by have := hs.2; omega) (by have := ht.2; omega)
  rwa [hs.1, ht.1, hz] at h
theorem op_gcd (hs : Sm s x) (ht : Sm t y) (hz : Nat.gcd x y = z) (w : World) : Calls Tryd.prog 27 #[.string s, .string t] w fun e w' => e = .returned (.string (ncan z)) ∧ Below w.heap.size w w' := by
  have h := natGCD_calls s t w (by have := hs.2; omega) (by have := ht.2; omega)
  rwa [hs.1, ht.1, hz] at h
theorem op_div (hs : Sm s x) (ht : Sm t y) (hy : y ≠ 0) {q r : Nat} (hq : x / y = q) (hr : x % y = r) (w : World) : Calls Tryd.prog 21 #[.string s, .string t] w fun e w' => e = .returned (.tuple #[.string (ncan q), .string (ncan r), .bool true]) ∧ Below w.heap.size w w' := by
  refine (natDivide_calls s t w (by have := hs.2; omega) (by have := ht.2; omega)).mono ?_
  rintro e w1 ⟨rfl, h2⟩
  rw [hs.1, ht.1, if_neg hy, hq, hr]
  exact ⟨rfl, h2⟩
theorem op_div0 (hs : Sm s x) (ht : Sm t 0) (w : World) : Calls Tryd.prog 21 #[.string s, .string t] w fun e w' => e = .returned (.tuple #[.string ⟨#[]⟩, .string ⟨#[]⟩, .bool false]) ∧ Below w.heap.size w w' := by
  refine (natDivide_calls s t w (by have := hs.2; omega) (by have := ht.2; omega)).mono ?_
  rintro e w1 ⟨rfl, h2⟩
  rw [ht.1, if_pos rfl]
  exact ⟨rfl, h2⟩
theorem op_cmp (hs : Sm s x) (ht : Sm t y) {c : Int} (hz : cmpN x y = c) (w : World) : Calls Tryd.prog 29 #[.string s, .string t] w fun e w' => e = .returned (.int .i64 c) ∧ w' = w := by
  have h := natCompare_calls s t w (by have := hs.2; omega) (by have := ht.2; omega)
  rwa [hs.1, ht.1, hz] at h
theorem op_norm (hs : Sm s x) (w : World) : Calls Tryd.prog 18 #[.string s] w fun e w' => e = .returned (.string (ncan x)) ∧ w' = w := by
  have h := normalize_calls s w
  rwa [hs.1] at h
theorem op_sub (hs : Sm s x) (ht : Sm t y) (hle : y ≤ x) (hz : x - y = z) (w : World) : Calls Tryd.prog 38 #[.string s, .string t] w fun e w' => e = .returned (.tuple #[.string (ncan z), .bool true]) ∧ Below w.heap.size w w' := by
  refine (natSubtract_calls s t w (by have := hs.2; omega) (by have := ht.2; omega)).mono ?_
  rintro e w1 ⟨rfl, h2⟩
  rw [hs.1, ht.1, if_neg (by omega), hz]
  exact ⟨rfl, h2⟩
end

theorem snum_lt60 {s : ByteArray} (h : s.size ≤ 60) : snum s < 256 ^ 60 := by
  have h1 := num_lt s.data.toList
  rw [← Lib.size_eq] at h1
  exact Nat.lt_of_lt_of_le h1 (Nat.pow_le_pow_right (by omega) h)

/-- the arguments of few, in a block of its own -/
theorem few_cells (w : World) (cs : List Value) (ss : List ByteArray) (T : TypeId) (h : cs = ss.map Value.string) : ∀ (j : Nat) (s : ByteArray), ss[j]? = some s → (w.alloc (.cells cs.toArray T)).cell? ⟨w.heap.size, 0 + j, none⟩ = some (.string s) := by
  intro j s hj
  have := rd_new_cells w cs T w.heap.size rfl j (.string s) (by rw [h]; simp [hj])
  rw [Addr.add_lit] at this
  exact this

end Go.Proofs.YtmlbolfopakgmaaDoor

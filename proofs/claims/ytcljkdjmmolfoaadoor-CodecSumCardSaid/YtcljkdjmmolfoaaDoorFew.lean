/- insolvencylaw1.few; the program's operations on strings whose numbers are known. -/
import Derived.Test.YtcljkdjmmolfoaaDoorAwake1
import Derived.Test.YtcljkdjmmolfoaaDoorMul
import Derived.Test.YtcljkdjmmolfoaaDoorCmpS
set_option linter.unusedVariables false
set_option linter.unusedSimpArgs false
namespace Go.Proofs.YtcljkdjmmolfoaaDoor
open Go.RowKit

/-- a string, its number, a bound of its length -/
def Sm (s : ByteArray) (n : Nat) : Prop := snum s = n ∧ s.size ≤ 100000
theorem Sm.of {s : ByteArray} (h : s.size ≤ 60) : Sm s (snum s) := ⟨rfl, by omega⟩
theorem Sm.can {n k : Nat} (h : n < 256 ^ k) (hk : k ≤ 100000) : Sm (ncan n) n := ⟨snum_ncan n, by rw [ncan_size]; exact Nat.le_trans (canon_len_le h) hk⟩

section
variable {s t : ByteArray} {x y z : Nat}
theorem op_gcd (hs : Sm s x) (ht : Sm t y) (hz : Nat.gcd x y = z) (w : World) : Calls Tryd.prog 65 #[.string s, .string t] w fun e w' => e = .returned (.string (ncan z)) ∧ Below w.heap.size w w' := by
  have h := natGCD_calls s t w (by have := hs.2; omega) (by have := ht.2; omega)
  rwa [hs.1, ht.1, hz] at h
theorem op_norm (hs : Sm s x) (w : World) : Calls Tryd.prog 64 #[.string s] w fun e w' => e = .returned (.string (ncan x)) ∧ w' = w := by
  have h := normalize_calls s w
  rwa [hs.1] at h
end

theorem snum_lt60 {s : ByteArray} (h : s.size ≤ 60) : snum s < 256 ^ 60 := by
  have h1 := num_lt s.data.toList
  rw [← Lib.size_eq] at h1
  exact Nat.lt_of_lt_of_le h1 (Nat.pow_le_pow_right (by omega) h)

/-- the arguments of few, in a block of its own -/
theorem few_cells (w : World) (cs : List Value) (ss : List ByteArray) (T : TypeId) (h : cs = ss.map Value.string) : ∀ (j : Nat) (s : ByteArray), ss[j]? = some s → (w.alloc (.cells cs.toArray T)).cell? ⟨w.heap.size, 0 + j, none⟩ = some (.string s) := by
  intro j s hj
  have := rd_new_cells w cs T w.heap.size rfl j (.string s) (by rw [h]; simp [hj])
  rw [Addr.add_lit] at this
  exact this

end Go.Proofs.YtcljkdjmmolfoaaDoor

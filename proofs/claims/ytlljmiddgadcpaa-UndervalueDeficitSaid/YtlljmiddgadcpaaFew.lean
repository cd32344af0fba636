/- insolvencylaw1.few; the program's operations on strings whose numbers are known. -/
import Derived.Test.YtlljmiddgadcpaaAwake1
import Derived.Test.YtlljmiddgadcpaaMul
import Derived.Test.YtlljmiddgadcpaaCmpS
set_option linter.unusedVariables false
set_option linter.unusedSimpArgs false
namespace Go.Proofs.Ytlljmiddgadcpaa
open Go.RowKit

/-- a string, its number, a bound of its length -/
def Sm (s : ByteArray) (n : Nat) : Prop := snum s = n ∧ s.size ≤ 100000
theorem Sm.of {s : ByteArray} (h : s.size ≤ 60) : Sm s (snum s) := ⟨rfl, by omega⟩
theorem Sm.can {n k : Nat} (h : n < 256 ^ k) (hk : k ≤ 100000) : Sm (ncan n) n := ⟨snum_ncan n, by rw [ncan_size]; exact Nat.le_trans (canon_len_le h) hk⟩

section
variable {s t : ByteArray} {x y z : Nat}
end

theorem snum_lt60 {s : ByteArray} (h : s.size ≤ 60) : snum s < 256 ^ 60 := by
  have h1 := num_lt s.data.toList
  rw [← Lib.size_eq] at h1
  exact Nat.lt_of_lt_of_le h1 (Nat.pow_le_pow_right (by omega) h)

/-- the arguments of few, in a block of its own -/
theorem few_cells (w : World) (cs : List Value) (ss : List ByteArray) (T : TypeId) (h : cs = ss.map Value.string) : ∀ (j : Nat) (s : ByteArray), ss[j]? = some s → (w.alloc (.cells cs.toArray T)).cell? ⟨w.heap.size, 0 + j, none⟩ = some (.string s) := by
  intro j s hj
  have := rd_new_cells w cs T w.heap.size rfl j (.string s) (by rw [h]; simp [hj])
  rw [Addr.add_lit] at this
  exact this

end Go.Proofs.Ytlljmiddgadcpaa

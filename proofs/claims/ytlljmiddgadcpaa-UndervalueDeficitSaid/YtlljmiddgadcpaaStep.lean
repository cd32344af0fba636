/- natural.step: a digit of the quotient. -/
import Derived.Test.YtlljmiddgadcpaaShift
import Derived.Deep.DeepCutAuto
import Derived.Deep.CutBlock
set_option linter.unusedVariables false
set_option linter.unusedSimpArgs false
namespace Go.Proofs.Ytlljmiddgadcpaa
open Go.RowKit

/-- block g alone has turned, and new ones have come -/
structure Only (g : Nat) (w w' : World) : Prop where
  os : w'.os = w.os
  tape : w'.tape = w.tape
  output : w'.output = w.output
  size : w.heap.size ≤ w'.heap.size
  block : ∀ k, k < w.heap.size → k ≠ g → w'.heap[k]? = w.heap[k]?
section
variable {g : Nat} {w w' w1 w2 w3 : World}
theorem Only.refl (g : Nat) (w : World) : Only g w w := ⟨rfl, rfl, rfl, Nat.le_refl _, fun _ _ _ => rfl⟩
theorem Only.trans (h : Only g w1 w2) (k : Only g w2 w3) : Only g w1 w3 :=
  ⟨k.os.trans h.os, k.tape.trans h.tape, k.output.trans h.output, Nat.le_trans h.size k.size, fun i hi h1 => (k.block i (Nat.lt_of_lt_of_le hi h.size) h1).trans (h.block i hi h1)⟩
theorem Only.drew (h : Only g w1 w2) : Only g w1 w2.drew := ⟨h.os, h.tape, h.output, h.size, h.block⟩
theorem Only.drewN (h : Only g w1 w2) (k : Nat) : Only g w1 (w2.drewN k) := ⟨h.os, h.tape, h.output, h.size, h.block⟩
theorem Only.setC (h : Only g w1 w2) (k : Nat) (u : Value) : Only g w1 (w2.setCell ⟨g, k, none⟩ u) :=
  h.trans ⟨rfl, rfl, rfl, by simp [World.setCell], fun i hi h1 => heap_setCell_other w2 ⟨g, k, none⟩ i u h1⟩
theorem Only.at_ (h : Only g w1 w2) (B : Nat) (h0 : B ≤ w1.heap.size) (h1 : B ≤ g) : Below B w1 w2 :=
  ⟨h.os, h.tape, h.output, h.size, fun k hk => h.block k (by omega) (by omega)⟩
theorem KRow.only {k : IntKind} {T : TypeId} {g2 : Nat} {xs : List Nat} (h : KRow k T w1 g2 xs) (ho : Only g w1 w2) (hne : g2 ≠ g) : KRow k T w2 g2 xs := h.same (ho.block g2 h.lt hne)
end

theorem row_getD (pre o rest : List Nat) (k : Nat) (h : k < rest.length) : (pre ++ (o ++ rest)).getD (pre.length + (o.length + k)) 0 = rest.getD k 0 := by
  rw [List.getD_eq_getElem?_getD, List.getElem?_append_right (by omega), List.getElem?_append_right (by omega), List.getD_eq_getElem?_getD]
  congr 2; omega
theorem row_set (pre o rest : List Nat) (r z : Nat) : (pre ++ (o ++ r :: rest)).set (pre.length + o.length) z = pre ++ ((o ++ [z]) ++ rest) := by
  rw [List.set_append_right _ _ (by omega), List.set_append_right _ _ (by omega)]
  have : pre.length + o.length - pre.length - o.length = 0 := by omega
  rw [this]; simp

theorem KRow.at_ {k : IntKind} {T : TypeId} {w : World} {g i : Nat} {pre us post : List Nat} (h : KRow k T w g (pre ++ (us ++ post))) (hi : pre.length = i) {j : Nat} (hj : j < us.length) : w.cell? ⟨g, i + j, none⟩ = some (.int k ((us.getD j 0 : Nat) : Int)) := by
  subst hi
  have := h.getD (j := pre.length + j) (by simp; omega)
  have e : (pre ++ (us ++ post)).getD (pre.length + j) 0 = us.getD j 0 := by
    rw [List.getD_eq_getElem?_getD, List.getElem?_append_right (by omega), List.getElem?_append_left (by omega), List.getD_eq_getElem?_getD]
    congr 2; omega
  rwa [e] at this

theorem KRow.cellAt {k : IntKind} {T : TypeId} {w : World} {g i j : Nat} {pre o us post : List Nat} (h : KRow k T w g (pre ++ (o ++ us.drop j ++ post))) (hi : pre.length = i) (ho : o.length = j) (hj : j < us.length) : w.cell? ⟨g, i + j, none⟩ = some (.int k ((us.getD j 0 : Nat) : Int)) := by
  subst hi ho
  have e : (pre ++ (o ++ us.drop o.length ++ post)).getD (pre.length + o.length) 0 = us.getD o.length 0 := by
    rw [List.append_assoc]
    have := row_getD pre o (us.drop o.length ++ post) 0 (by rw [List.length_append, List.length_drop]; omega)
    rw [Nat.add_zero] at this
    rw [this]
    rw [List.getD_eq_getElem?_getD, List.getElem?_append_left (by rw [List.length_drop]; omega), List.getElem?_drop, Nat.add_zero, ← List.getD_eq_getElem?_getD]
  have := h.getD (j := pre.length + o.length) (by simp; omega)
  rwa [e] at this
theorem row_put {i j : Nat} {pre o us post : List Nat} (hi : pre.length = i) (ho : o.length = j) (hj : j < us.length) (z : Nat) : (pre ++ (o ++ us.drop j ++ post)).set (i + j) z = pre ++ ((o ++ [z]) ++ us.drop (j + 1) ++ post) := by
  subst hi ho
  rw [List.drop_eq_getElem_cons hj, List.append_assoc, List.cons_append, row_set, List.append_assoc (o ++ [z])]

/-- behind the loop that guesses -/
def GMid (g : Nat) (w : World) (row us d : List Nat) (s7 : Value) (wx : World) : Prop :=
  ∃ gg : Nat, s7 = .int .u64 (gg : Int) ∧ gg < 4294967296 ∧ (valL us / valL d ≤ gg ∧ gg ≤ valL us / valL d + 1) ∧ KRow .u32 60 wx g row ∧ Only g w wx

end Go.Proofs.Ytlljmiddgadcpaa

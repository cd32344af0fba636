/- The definition's Trace. -/
import Derived.Test.YtlljmiddgadcpaaTraceRef
set_option linter.unusedVariables false
set_option linter.unusedSimpArgs false
namespace Go.Proofs.Ytlljmiddgadcpaa
open Go.RowKit

theorem spentW_alt (bx tx am : Int) : spentW bx tx am = if tx < pos (wrap64 (am - wrap64 (pos bx - tx))) then tx else pos (wrap64 (am - wrap64 (pos bx - tx))) := by
  unfold spentW
  generalize pos (wrap64 (am - wrap64 (pos bx - tx))) = z
  split <;> split <;> omega

/-- two rows of numbers in memory, apart -/
structure TwoT (w : World) (gb gt n : Nat) (bal tr : List Int) : Prop where
  b : IRow w gb bal
  t : IRow w gt tr
  lb : bal.length = n
  lt : tr.length = n
  ne : gb ≠ gt
theorem TwoT.alloc {w : World} {gb gt n : Nat} {bal tr : List Int} (h : TwoT w gb gt n bal tr) (o : Obj) : TwoT (w.alloc o) gb gt n bal tr := ⟨h.b.alloc o, h.t.alloc o, h.lb, h.lt, h.ne⟩
theorem TwoT.drewN {w : World} {gb gt n : Nat} {bal tr : List Int} (h : TwoT w gb gt n bal tr) (k : Nat) : TwoT (w.drewN k) gb gt n bal tr := ⟨h.b, h.t, h.lb, h.lt, h.ne⟩
theorem TwoT.drew {w : World} {gb gt n : Nat} {bal tr : List Int} (h : TwoT w gb gt n bal tr) : TwoT w.drew gb gt n bal tr := ⟨h.b, h.t, h.lb, h.lt, h.ne⟩
theorem TwoT.setB {w : World} {gb gt n : Nat} {bal tr : List Int} (h : TwoT w gb gt n bal tr) (k : Nat) (v : Int) : TwoT (w.setCell ⟨gb, k, none⟩ (.int .i64 v)) gb gt n (bal.set k v) tr :=
  ⟨h.b.set_ k v, h.t.other (a := ⟨gb, k, none⟩) (Ne.symm h.ne) _, by simpa using h.lb, h.lt, h.ne⟩
theorem TwoT.setT {w : World} {gb gt n : Nat} {bal tr : List Int} (h : TwoT w gb gt n bal tr) (k : Nat) (v : Int) : TwoT (w.setCell ⟨gt, k, none⟩ (.int .i64 v)) gb gt n bal (tr.set k v) :=
  ⟨h.b.other (a := ⟨gt, k, none⟩) h.ne _, h.t.set_ k v, h.lb, by simpa using h.lt, h.ne⟩

end Go.Proofs.Ytlljmiddgadcpaa

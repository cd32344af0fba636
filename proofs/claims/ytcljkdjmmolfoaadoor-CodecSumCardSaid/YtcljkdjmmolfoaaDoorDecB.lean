/- Arguments of type []byte opened. -/
import Derived.Test.YtcljkdjmmolfoaaDoorDec
import Derived.Test.YtcljkdjmmolfoaaDoorMem
set_option linter.unusedVariables false
set_option linter.unusedSimpArgs false
namespace Go.Proofs.YtcljkdjmmolfoaaDoor
open Go.RowKit Go.ChangeShapes Go.WideShapes Go.Deep Go.ChangeAt

section
variable {H : Type} {enc : TypeId × Value → H} {w : World} {base : Nat} {spare : Nat → Bool} {held : Bool}

theorem flat_bytes (l : List Nat) : l.flatMap (fun x : Nat => [Value.int .u8 (x : Int)]) = l.map (fun (x : Nat) => Value.int .u8 (x : Int)) := by
  induction l with
  | nil => rfl
  | cons x l ih => rw [List.flatMap_cons, ih]; rfl

set_option maxRecDepth 100000 in
theorem open_bytes {v : Value} {d : DataW H} {p : List MemPlace} {r : Reach} {b0 : Nat} (hv : Value.okWide Tryd.prog w r b0 22 v) (h : DataW.Trod enc Tryd.prog w base spare held 22 v d p) :
    ∃ (A : Option Addr) (c : Nat) (l : List Nat), v = .slice A l.length c ∧ KRd .u8 w w.heap.size A l ∧ Byt l ∧ l.length ≤ maxLen := by
  obtain ⟨A, n, c, rfl⟩ := okWide_slice Tryd.underlying22 hv
  obtain ⟨fuel, hf⟩ := h
  obtain ⟨l, rfl, h1, h2, h3, h4⟩ := dec_slice (C := 1) (fun x : Nat => [Value.int .u8 (x : Int)]) (fun x => x < 256) (fun _ => rfl) (by decide) Tryd.underlying22 (by kernel_rfl) (fun _ _ _ h => by
    obtain ⟨n, h1, _, h3⟩ := DataW.trod_int Tryd.underlying5 h
    have hb := bounds_u8 h3
    refine ⟨n.toNat, ?_, by omega⟩
    rw [h1, show ((n.toNat : Nat) : Int) = n by omega]) (by simpa [Value.cells] using hf)
  refine ⟨A, c, l, rfl, ?_, h2, by omega⟩
  rw [flat_bytes] at h1
  exact h1
end

end Go.Proofs.YtcljkdjmmolfoaaDoor

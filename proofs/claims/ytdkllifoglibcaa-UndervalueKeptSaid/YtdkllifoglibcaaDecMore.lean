/- Arguments of types []int64, [4]uint8 opened. -/
import Derived.Test.YtdkllifoglibcaaDecRow
import Derived.Test.YtdkllifoglibcaaTraceW
set_option linter.unusedVariables false
set_option linter.unusedSimpArgs false
namespace Go.Proofs.Ytdkllifoglibcaa
open Go.RowKit Go.ChangeShapes Go.WideShapes Go.Deep Go.ChangeAt

section
variable {H : Type} {enc : TypeId × Value → H} {w : World} {base : Nat} {spare : Nat → Bool} {held : Bool}

theorem flat_single (l : List Int) : l.flatMap (fun x : Int => [Value.int .i64 x]) = l.map (Value.int .i64) := by
  induction l with
  | nil => rfl
  | cons x l ih => rw [List.flatMap_cons, ih]; rfl

theorem open_i64s {v : Value} {d : DataW H} {p : List MemPlace} {r : Reach} {b0 : Nat} (hv : Value.okWide Try.prog w r b0 33 v) (h : DataW.Trod enc Try.prog w base spare held 33 v d p) :
    ∃ (A : Option Addr) (c : Nat) (l : List Int), v = .slice A l.length c ∧ IntsRd w w.heap.size A l ∧ (∀ x ∈ l, i64ok x) ∧ l.length ≤ maxLen := by
  obtain ⟨A, n, c, rfl⟩ := okWide_slice Try.underlying33 hv
  obtain ⟨fuel, hf⟩ := h
  obtain ⟨l, rfl, h1, h2, h3, h4⟩ := dec_slice (C := 1) (fun x : Int => [Value.int .i64 x]) i64ok (fun _ => rfl) (by decide) Try.underlying33 (by kernel_rfl) (fun _ _ _ h => by
    obtain ⟨n, h1, _, h3⟩ := DataW.trod_int Try.underlying2 h
    exact ⟨n, h1, bounds_i64 h3⟩) (by simpa [Value.cells] using hf)
  refine ⟨A, c, l, rfl, ?_, h2, by omega⟩
  rw [flat_single] at h1
  exact h1

theorem okWide_array' {P : Program} {r : Reach} {b0 : Nat} {t e : TypeId} {n : Nat} {v : Value} (ht : P.underlying t = some (.array n e)) (h : Value.okWide P w r b0 t v) : ∃ cs, v = .agg cs ∧ cs.size = P.cellsOf t := by
  simp only [Value.okWide, ht] at h
  obtain ⟨cs, h1, h2, _⟩ := h
  exact ⟨cs, h1, h2⟩

def u8ok (x : Int) : Prop := 0 ≤ x ∧ x ≤ 255
theorem open_u8x4 {v : Value} {d : DataW H} {p : List MemPlace} {r : Reach} {b0 : Nat} (hv : Value.okWide Try.prog w r b0 32 v) (h : DataW.Trod enc Try.prog w base spare held 32 v d p) :
    ∃ (x0 x1 x2 x3 : Int), v = .agg #[.int .u8 x0, .int .u8 x1, .int .u8 x2, .int .u8 x3] ∧ u8ok x0 ∧ u8ok x1 ∧ u8ok x2 ∧ u8ok x3 := by
  obtain ⟨cs, rfl, _⟩ := okWide_array' Try.underlying32 hv
  obtain ⟨fuel, hf⟩ := h
  have hf' : DataW.trod enc Try.prog w base spare held fuel 32 cs.toList = some (d, p) := by simpa [Value.cells] using hf
  obtain ⟨hl, n, hj⟩ := dec_array1 Try.underlying32 (by kernel_rfl) (by kernel_rfl) hf'
  obtain ⟨v0, y0, e0, t0⟩ := hj 0 (by omega)
  obtain ⟨v1, y1, e1, t1⟩ := hj 1 (by omega)
  obtain ⟨v2, y2, e2, t2⟩ := hj 2 (by omega)
  obtain ⟨v3, y3, e3, t3⟩ := hj 3 (by omega)
  obtain ⟨n0, q0, _, w0⟩ := DataW.trod_int Try.underlying5 t0
  obtain ⟨n1, q1, _, w1⟩ := DataW.trod_int Try.underlying5 t1
  obtain ⟨n2, q2, _, w2⟩ := DataW.trod_int Try.underlying5 t2
  obtain ⟨n3, q3, _, w3⟩ := DataW.trod_int Try.underlying5 t3
  refine ⟨n0, n1, n2, n3, ?_, bounds_u8 w0, bounds_u8 w1, bounds_u8 w2, bounds_u8 w3⟩
  obtain ⟨l⟩ := cs
  match l, hl, e0, e1, e2, e3 with
  | [c0, c1, c2, c3], _, e0, e1, e2, e3 =>
    simp at e0 e1 e2 e3 q0 q1 q2 q3
    subst e0 e1 e2 e3 q0 q1 q2 q3
    rfl
end
end Go.Proofs.Ytdkllifoglibcaa

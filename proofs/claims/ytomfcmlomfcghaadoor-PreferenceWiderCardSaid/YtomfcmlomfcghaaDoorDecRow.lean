/- Arguments of types []api.Row, [][5]uint16 opened. -/
import Derived.Test.YtomfcmlomfcghaaDoorDec
import Derived.Test.YtomfcmlomfcghaaDoorM20
set_option linter.unusedVariables false
set_option linter.unusedSimpArgs false
namespace Go.Proofs.YtomfcmlomfcghaaDoor
open Go.RowKit Go.ChangeShapes Go.WideShapes Go.Deep Go.ChangeAt

def i64ok (x : Int) : Prop := -9223372036854775808 ≤ x ∧ x ≤ 9223372036854775807
def Row.ok (r : Row) : Prop := i64ok r.day ∧ i64ok r.kind ∧ i64ok r.frm ∧ i64ok r.to ∧ i64ok r.amount ∧ i64ok r.worth

section
variable {H : Type} {enc : TypeId × Value → H} {w : World} {base : Nat} {spare : Nat → Bool} {held : Bool} {fuel : Nat} {cs : List Value} {x : DataW H × List MemPlace}

theorem dec_row (h : DataW.trod enc Tryd.prog w base spare held fuel 90 cs = some x) : ∃ r : Row, cs = r.cells ∧ r.ok := by
  obtain ⟨hl, n, hj⟩ := dec_fields Tryd.underlying90 (by kernel_rfl) (by kernel_rfl) h
  obtain ⟨v0, y0, e0, t0⟩ := hj 0 _ rfl
  obtain ⟨v1, y1, e1, t1⟩ := hj 1 _ rfl
  obtain ⟨v2, y2, e2, t2⟩ := hj 2 _ rfl
  obtain ⟨v3, y3, e3, t3⟩ := hj 3 _ rfl
  obtain ⟨v4, y4, e4, t4⟩ := hj 4 _ rfl
  obtain ⟨v5, y5, e5, t5⟩ := hj 5 _ rfl
  obtain ⟨n0, q0, _, w0⟩ := DataW.trod_int Tryd.underlying3 t0
  obtain ⟨n1, q1, _, w1⟩ := DataW.trod_int Tryd.underlying3 t1
  obtain ⟨n2, q2, _, w2⟩ := DataW.trod_int Tryd.underlying3 t2
  obtain ⟨n3, q3, _, w3⟩ := DataW.trod_int Tryd.underlying3 t3
  obtain ⟨n4, q4, _, w4⟩ := DataW.trod_int Tryd.underlying2 t4
  obtain ⟨n5, q5, _, w5⟩ := DataW.trod_int Tryd.underlying2 t5
  refine ⟨⟨n0, n1, n2, n3, n4, n5⟩, ?_, bounds_i64 w0, bounds_i64 w1, bounds_i64 w2, bounds_i64 w3, bounds_i64 w4, bounds_i64 w5⟩
  match cs, hl, e0, e1, e2, e3, e4, e5 with
  | [c0, c1, c2, c3, c4, c5], _, e0, e1, e2, e3, e4, e5 =>
    simp at e0 e1 e2 e3 e4 e5 q0 q1 q2 q3 q4 q5
    subst e0 e1 e2 e3 e4 e5 q0 q1 q2 q3 q4 q5
    rfl

theorem dec_w5 (h : DataW.trod enc Tryd.prog w base spare held fuel 88 cs = some x) : ∃ r : W5, cs = r.cells ∧ r.ok := by
  obtain ⟨hl, n, hj⟩ := dec_array1 Tryd.underlying88 (by kernel_rfl) (by kernel_rfl) h
  obtain ⟨v0, y0, e0, t0⟩ := hj 0 (by omega)
  obtain ⟨v1, y1, e1, t1⟩ := hj 1 (by omega)
  obtain ⟨v2, y2, e2, t2⟩ := hj 2 (by omega)
  obtain ⟨v3, y3, e3, t3⟩ := hj 3 (by omega)
  obtain ⟨v4, y4, e4, t4⟩ := hj 4 (by omega)
  obtain ⟨n0, q0, _, w0⟩ := DataW.trod_int Tryd.underlying40 t0
  obtain ⟨n1, q1, _, w1⟩ := DataW.trod_int Tryd.underlying40 t1
  obtain ⟨n2, q2, _, w2⟩ := DataW.trod_int Tryd.underlying40 t2
  obtain ⟨n3, q3, _, w3⟩ := DataW.trod_int Tryd.underlying40 t3
  obtain ⟨n4, q4, _, w4⟩ := DataW.trod_int Tryd.underlying40 t4
  refine ⟨⟨n0, n1, n2, n3, n4⟩, ?_, bounds_u16 w0, bounds_u16 w1, bounds_u16 w2, bounds_u16 w3, bounds_u16 w4⟩
  match cs, hl, e0, e1, e2, e3, e4 with
  | [c0, c1, c2, c3, c4], _, e0, e1, e2, e3, e4 =>
    simp at e0 e1 e2 e3 e4 q0 q1 q2 q3 q4
    subst e0 e1 e2 e3 e4 q0 q1 q2 q3 q4
    rfl

set_option maxRecDepth 100000 in
theorem open_rows {v : Value} {d : DataW H} {p : List MemPlace} {r : Reach} {b0 : Nat} (hv : Value.okWide Tryd.prog w r b0 56 v) (h : DataW.Trod enc Tryd.prog w base spare held 56 v d p) :
    ∃ (A : Option Addr) (c : Nat) (rows : List Row), v = .slice A rows.length c ∧ RowsRd w w.heap.size A rows ∧ (∀ r ∈ rows, r.ok) ∧ rows.length ≤ maxLen := by
  obtain ⟨A, n, c, rfl⟩ := okWide_slice Tryd.underlying56 hv
  obtain ⟨fuel, hf⟩ := h
  obtain ⟨l, rfl, h1, h2, h3, h4⟩ := dec_slice Row.cells Row.ok Row.cells_len (by omega) Tryd.underlying56 (by kernel_rfl) (fun _ _ _ h => dec_row h) (by simpa [Value.cells] using hf)
  exact ⟨A, c, l, rfl, h1, h2, by omega⟩

set_option maxRecDepth 100000 in
theorem open_w5 {v : Value} {d : DataW H} {p : List MemPlace} {r : Reach} {b0 : Nat} (hv : Value.okWide Tryd.prog w r b0 54 v) (h : DataW.Trod enc Tryd.prog w base spare held 54 v d p) :
    ∃ (A : Option Addr) (c : Nat) (l : List W5), v = .slice A l.length c ∧ W5Rd w w.heap.size A l ∧ (∀ r ∈ l, r.ok) ∧ l.length ≤ maxLen := by
  obtain ⟨A, n, c, rfl⟩ := okWide_slice Tryd.underlying54 hv
  obtain ⟨fuel, hf⟩ := h
  obtain ⟨l, rfl, h1, h2, h3, h4⟩ := dec_slice W5.cells W5.ok W5.cells_len (by omega) Tryd.underlying54 (by kernel_rfl) (fun _ _ _ h => dec_w5 h) (by simpa [Value.cells] using hf)
  exact ⟨A, c, l, rfl, h1, h2, by omega⟩
end
end Go.Proofs.YtomfcmlomfcghaaDoor

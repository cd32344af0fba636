/- Merged of DecPty DecRow. -/
import Derived.Test.YtomfcmlomfcghaaGreatDoorDec
import Derived.Test.YtomfcmlomfcghaaGreatDoorM2
import Derived.Test.YtomfcmlomfcghaaGreatDoorM41
import Derived.Test.YtomfcmlomfcghaaGreatDoorM20
/- Arguments of types api.Parties, [][3]uint16, [][2]uint16, api.Window, [3]uint8 opened. -/
set_option linter.unusedVariables false
set_option linter.unusedSimpArgs false
set_option maxRecDepth 100000
namespace Go.Proofs.YtomfcmlomfcghaaGreatDoor
open Go.RowKit Go.ChangeShapes Go.WideShapes Go.Deep Go.ChangeAt

section
variable {H : Type} {enc : TypeId × Value → H} {w : World} {base : Nat} {spare : Nat → Bool} {held : Bool} {fuel : Nat} {cs : List Value} {x : DataW H × List MemPlace}

theorem dec_struct {P : Program} {t : TypeId} {C : Nat} {fs : Array Field} (he : P.underlying t = some (.struct fs)) (hC : P.cellsOf t = C) (h : DataW.trod enc P w base spare held fuel t cs = some x) :
    cs.length = C ∧ ∃ n, ∀ (j : Nat) (f : Field), fs[j]? = some f → ∃ y, DataW.trod enc P w base spare held n f.type ((cs.drop f.offset).take (P.cellsOf f.type)) = some y := by
  obtain ⟨ys, n, _, _, hlen, hyl, hf⟩ := DataW.trod_struct he h
  rw [hC] at hlen
  refine ⟨hlen, n, fun j f hj => ?_⟩
  have hjl : j < ys.length := by rw [hyl]; exact (Array.getElem?_eq_some_iff.1 hj).1
  exact ⟨ys[j], (hf j f hj).trans (List.getElem?_eq_getElem hjl)⟩
theorem b_i64 {x : Int} (h : (Lit.int .i64 x).wf = true) : i64b x := by have := bounds_i64 h; unfold i64b; omega
theorem cut_cells {P : Program} {n : Nat} {t : TypeId} {C : Nat} {l : List Value} {y : DataW H × List MemPlace} (hC : P.cellsOf t = C) (h : DataW.trod enc P w base spare held n t (l.take (P.cellsOf t)) = some y) : DataW.trod enc P w base spare held n t (l.take C) = some y := by rw [← hC]; exact h
theorem okWide_struct' {P : Program} {r : Reach} {b0 : Nat} {t : TypeId} {fs : Array Field} {v : Value} (ht : P.underlying t = some (.struct fs)) (h : Value.okWide P w r b0 t v) : ∃ cs, v = .agg cs ∧ cs.size = P.cellsOf t := by
  simp only [Value.okWide, ht] at h
  obtain ⟨cs, h1, h2, _⟩ := h
  exact ⟨cs, h1, h2⟩

theorem dec_u16x3 (h : DataW.trod enc Tryz.prog w base spare held fuel 84 cs = some x) : ∃ (x0 x1 x2 : Int), cs = [.int .u16 x0, .int .u16 x1, .int .u16 x2] ∧ (0 ≤ x0 ∧ x0 ≤ 65535) ∧ (0 ≤ x1 ∧ x1 ≤ 65535) ∧ (0 ≤ x2 ∧ x2 ≤ 65535) := by
  obtain ⟨hl, n, hj⟩ := dec_array1 Tryz.underlying84 (by kernel_rfl) (by kernel_rfl) h
  obtain ⟨v0, y0, e0, t0⟩ := hj 0 (by omega)
  obtain ⟨v1, y1, e1, t1⟩ := hj 1 (by omega)
  obtain ⟨v2, y2, e2, t2⟩ := hj 2 (by omega)
  obtain ⟨n0, q0, _, w0⟩ := DataW.trod_int Tryz.underlying40 t0
  obtain ⟨n1, q1, _, w1⟩ := DataW.trod_int Tryz.underlying40 t1
  obtain ⟨n2, q2, _, w2⟩ := DataW.trod_int Tryz.underlying40 t2
  have b0 := bounds_u16 w0
  have b1 := bounds_u16 w1
  have b2 := bounds_u16 w2
  refine ⟨n0, n1, n2, ?_, ⟨by omega, by omega⟩, ⟨by omega, by omega⟩, ⟨by omega, by omega⟩⟩
  match cs, hl, e0, e1, e2 with
  | [c0, c1, c2], _, e0, e1, e2 =>
    simp at e0 e1 e2 q0 q1 q2
    subst e0 e1 e2 q0 q1 q2
    rfl

theorem dec_u16x2 (h : DataW.trod enc Tryz.prog w base spare held fuel 85 cs = some x) : ∃ (x0 x1 : Int), cs = [.int .u16 x0, .int .u16 x1] ∧ (0 ≤ x0 ∧ x0 ≤ 65535) ∧ (0 ≤ x1 ∧ x1 ≤ 65535) := by
  obtain ⟨hl, n, hj⟩ := dec_array1 Tryz.underlying85 (by kernel_rfl) (by kernel_rfl) h
  obtain ⟨v0, y0, e0, t0⟩ := hj 0 (by omega)
  obtain ⟨v1, y1, e1, t1⟩ := hj 1 (by omega)
  obtain ⟨n0, q0, _, w0⟩ := DataW.trod_int Tryz.underlying40 t0
  obtain ⟨n1, q1, _, w1⟩ := DataW.trod_int Tryz.underlying40 t1
  have b0 := bounds_u16 w0
  have b1 := bounds_u16 w1
  refine ⟨n0, n1, ?_, ⟨by omega, by omega⟩, ⟨by omega, by omega⟩⟩
  match cs, hl, e0, e1 with
  | [c0, c1], _, e0, e1 =>
    simp at e0 e1 q0 q1
    subst e0 e1 q0 q1
    rfl

theorem dec_u8x3 (h : DataW.trod enc Tryz.prog w base spare held fuel 47 cs = some x) : ∃ (x0 x1 x2 : Int), cs = [.int .u8 x0, .int .u8 x1, .int .u8 x2] ∧ (0 ≤ x0 ∧ x0 ≤ 255) ∧ (0 ≤ x1 ∧ x1 ≤ 255) ∧ (0 ≤ x2 ∧ x2 ≤ 255) := by
  obtain ⟨hl, n, hj⟩ := dec_array1 Tryz.underlying47 (by kernel_rfl) (by kernel_rfl) h
  obtain ⟨v0, y0, e0, t0⟩ := hj 0 (by omega)
  obtain ⟨v1, y1, e1, t1⟩ := hj 1 (by omega)
  obtain ⟨v2, y2, e2, t2⟩ := hj 2 (by omega)
  obtain ⟨n0, q0, _, w0⟩ := DataW.trod_int Tryz.underlying5 t0
  obtain ⟨n1, q1, _, w1⟩ := DataW.trod_int Tryz.underlying5 t1
  obtain ⟨n2, q2, _, w2⟩ := DataW.trod_int Tryz.underlying5 t2
  have b0 := bounds_u8 w0
  have b1 := bounds_u8 w1
  have b2 := bounds_u8 w2
  refine ⟨n0, n1, n2, ?_, ⟨by omega, by omega⟩, ⟨by omega, by omega⟩, ⟨by omega, by omega⟩⟩
  match cs, hl, e0, e1, e2 with
  | [c0, c1, c2], _, e0, e1, e2 =>
    simp at e0 e1 e2 q0 q1 q2
    subst e0 e1 e2 q0 q1 q2
    rfl

theorem okWide_array' {P : Program} {r : Reach} {b0 : Nat} {t e : TypeId} {n : Nat} {v : Value} (ht : P.underlying t = some (.array n e)) (h : Value.okWide P w r b0 t v) : ∃ cs, v = .agg cs ∧ cs.size = P.cellsOf t := by
  simp only [Value.okWide, ht] at h
  obtain ⟨cs, h1, h2, _⟩ := h
  exact ⟨cs, h1, h2⟩

theorem open_u8x3 {v : Value} {d : DataW H} {p : List MemPlace} {r : Reach} {b0 : Nat} (hv : Value.okWide Tryz.prog w r b0 47 v) (h : DataW.Trod enc Tryz.prog w base spare held 47 v d p) :
    ∃ (x0 x1 x2 : Int), v = .agg #[.int .u8 x0, .int .u8 x1, .int .u8 x2] ∧ (0 ≤ x0 ∧ x0 ≤ 255) ∧ (0 ≤ x1 ∧ x1 ≤ 255) ∧ (0 ≤ x2 ∧ x2 ≤ 255) := by
  obtain ⟨cs, rfl, _⟩ := okWide_array' Tryz.underlying47 hv
  obtain ⟨fuel, hf⟩ := h
  have hf' : DataW.trod enc Tryz.prog w base spare held fuel 47 cs.toList = some (d, p) := by simpa [Value.cells] using hf
  obtain ⟨x0, x1, x2, e, hb⟩ := dec_u8x3 hf'
  refine ⟨x0, x1, x2, ?_, hb⟩
  obtain ⟨l⟩ := cs
  simp at e
  subst e
  rfl

structure W3 where
  a : Int
  b : Int
  c : Int
def u16V3 (p : W3) : List Value := [.int .u16 p.a, .int .u16 p.b, .int .u16 p.c]
def u16V (p : Int × Int) : List Value := [.int .u16 p.1, .int .u16 p.2]
def u16ok3 (p : W3) : Prop := (0 ≤ p.a ∧ p.a ≤ 65535) ∧ (0 ≤ p.b ∧ p.b ≤ 65535) ∧ (0 ≤ p.c ∧ p.c ≤ 65535)
def u16ok (p : Int × Int) : Prop := (0 ≤ p.1 ∧ p.1 ≤ 65535) ∧ (0 ≤ p.2 ∧ p.2 ≤ 65535)

theorem open_u16x3s {v : Value} {d : DataW H} {p : List MemPlace} {r : Reach} {b0 : Nat} (hv : Value.okWide Tryz.prog w r b0 41 v) (h : DataW.Trod enc Tryz.prog w base spare held 41 v d p) :
    ∃ (A : Option Addr) (c : Nat) (l : List W3), v = .slice A l.length c ∧ Rd w w.heap.size 3 A l.length (l.flatMap u16V3) ∧ (∀ a ∈ l, u16ok3 a) ∧ l.length ≤ maxLen := by
  obtain ⟨A, n, c, rfl⟩ := okWide_slice Tryz.underlying41 hv
  obtain ⟨fuel, hf⟩ := h
  obtain ⟨l, rfl, h1, h2, h3, h4⟩ := dec_slice (C := 3) u16V3 u16ok3 (fun _ => rfl) (by decide) Tryz.underlying41 (by kernel_rfl) (fun _ _ _ h => by
    obtain ⟨x0, x1, x2, e, hb⟩ := dec_u16x3 h
    exact ⟨⟨x0, x1, x2⟩, e, hb⟩) (by simpa [Value.cells] using hf)
  exact ⟨A, c, l, rfl, h1, h2, by omega⟩

theorem open_u16x2s {v : Value} {d : DataW H} {p : List MemPlace} {r : Reach} {b0 : Nat} (hv : Value.okWide Tryz.prog w r b0 42 v) (h : DataW.Trod enc Tryz.prog w base spare held 42 v d p) :
    ∃ (A : Option Addr) (c : Nat) (l : List (Int × Int)), v = .slice A l.length c ∧ Rd w w.heap.size 2 A l.length (l.flatMap u16V) ∧ (∀ a ∈ l, u16ok a) ∧ l.length ≤ maxLen := by
  obtain ⟨A, n, c, rfl⟩ := okWide_slice Tryz.underlying42 hv
  obtain ⟨fuel, hf⟩ := h
  obtain ⟨l, rfl, h1, h2, h3, h4⟩ := dec_slice (C := 2) u16V u16ok (fun _ => rfl) (by decide) Tryz.underlying42 (by kernel_rfl) (fun _ _ _ h => by
    obtain ⟨x0, x1, e, hb⟩ := dec_u16x2 h
    exact ⟨⟨x0, x1⟩, e, hb⟩) (by simpa [Value.cells] using hf)
  exact ⟨A, c, l, rfl, h1, h2, by omega⟩
theorem dec_window (h : DataW.trod enc Tryz.prog w base spare held fuel 49 cs = some x) : ∃ a b c : Int, cs = [.int .i64 a, .int .i64 b, .int .i64 c] ∧ i64b a ∧ i64b b ∧ i64b c := by
  obtain ⟨hl, n, hj⟩ := dec_struct (C := 3) Tryz.underlying49 (by kernel_rfl) h
  obtain ⟨y0, t0⟩ := hj 0 _ rfl
  replace t0 := cut_cells (C := 1) (by kernel_rfl) t0
  obtain ⟨y1, t1⟩ := hj 1 _ rfl
  replace t1 := cut_cells (C := 1) (by kernel_rfl) t1
  obtain ⟨y2, t2⟩ := hj 2 _ rfl
  replace t2 := cut_cells (C := 1) (by kernel_rfl) t2
  match cs, hl, t0, t1, t2 with
  | [c0, c1, c2], _, t0, t1, t2 =>
    obtain ⟨n0, q0, _, w0⟩ := DataW.trod_int Tryz.underlying3 t0
    obtain ⟨n1, q1, _, w1⟩ := DataW.trod_int Tryz.underlying3 t1
    obtain ⟨n2, q2, _, w2⟩ := DataW.trod_int Tryz.underlying3 t2
    simp at q0 q1 q2
    subst q0 q1 q2
    exact ⟨n0, n1, n2, rfl, b_i64 w0, b_i64 w1, b_i64 w2⟩

theorem open_window {v : Value} {d : DataW H} {p : List MemPlace} {r : Reach} {b0 : Nat} (hv : Value.okWide Tryz.prog w r b0 49 v) (h : DataW.Trod enc Tryz.prog w base spare held 49 v d p) :
    ∃ a b c : Int, v = .agg #[.int .i64 a, .int .i64 b, .int .i64 c] ∧ i64b a ∧ i64b b ∧ i64b c := by
  obtain ⟨cs, rfl, _⟩ := okWide_struct' Tryz.underlying49 hv
  obtain ⟨fuel, hf⟩ := h
  have hf' : DataW.trod enc Tryz.prog w base spare held fuel 49 cs.toList = some (d, p) := by simpa [Value.cells] using hf
  obtain ⟨a, b, c, e, hb⟩ := dec_window hf'
  refine ⟨a, b, c, ?_, hb⟩
  obtain ⟨l⟩ := cs
  simp at e
  subst e
  rfl
end
end Go.Proofs.YtomfcmlomfcghaaGreatDoor

/- Arguments of types []api.Row, [][5]uint16 opened. -/
set_option linter.unusedVariables false
set_option linter.unusedSimpArgs false
namespace Go.Proofs.YtomfcmlomfcghaaGreatDoor
open Go.RowKit Go.ChangeShapes Go.WideShapes Go.Deep Go.ChangeAt

def i64ok (x : Int) : Prop := -9223372036854775808 ≤ x ∧ x ≤ 9223372036854775807
def Row.ok (r : Row) : Prop := i64ok r.day ∧ i64ok r.kind ∧ i64ok r.frm ∧ i64ok r.to ∧ i64ok r.amount ∧ i64ok r.worth

section
variable {H : Type} {enc : TypeId × Value → H} {w : World} {base : Nat} {spare : Nat → Bool} {held : Bool} {fuel : Nat} {cs : List Value} {x : DataW H × List MemPlace}

theorem dec_w5 (h : DataW.trod enc Tryz.prog w base spare held fuel 98 cs = some x) : ∃ r : W5, cs = r.cells ∧ r.ok := by
  obtain ⟨hl, n, hj⟩ := dec_array1 Tryz.underlying98 (by kernel_rfl) (by kernel_rfl) h
  obtain ⟨v0, y0, e0, t0⟩ := hj 0 (by omega)
  obtain ⟨v1, y1, e1, t1⟩ := hj 1 (by omega)
  obtain ⟨v2, y2, e2, t2⟩ := hj 2 (by omega)
  obtain ⟨v3, y3, e3, t3⟩ := hj 3 (by omega)
  obtain ⟨v4, y4, e4, t4⟩ := hj 4 (by omega)
  obtain ⟨n0, q0, _, w0⟩ := DataW.trod_int Tryz.underlying40 t0
  obtain ⟨n1, q1, _, w1⟩ := DataW.trod_int Tryz.underlying40 t1
  obtain ⟨n2, q2, _, w2⟩ := DataW.trod_int Tryz.underlying40 t2
  obtain ⟨n3, q3, _, w3⟩ := DataW.trod_int Tryz.underlying40 t3
  obtain ⟨n4, q4, _, w4⟩ := DataW.trod_int Tryz.underlying40 t4
  refine ⟨⟨n0, n1, n2, n3, n4⟩, ?_, bounds_u16 w0, bounds_u16 w1, bounds_u16 w2, bounds_u16 w3, bounds_u16 w4⟩
  match cs, hl, e0, e1, e2, e3, e4 with
  | [c0, c1, c2, c3, c4], _, e0, e1, e2, e3, e4 =>
    simp at e0 e1 e2 e3 e4 q0 q1 q2 q3 q4
    subst e0 e1 e2 e3 e4 q0 q1 q2 q3 q4
    rfl

set_option maxRecDepth 100000 in
theorem open_w5 {v : Value} {d : DataW H} {p : List MemPlace} {r : Reach} {b0 : Nat} (hv : Value.okWide Tryz.prog w r b0 56 v) (h : DataW.Trod enc Tryz.prog w base spare held 56 v d p) :
    ∃ (A : Option Addr) (c : Nat) (l : List W5), v = .slice A l.length c ∧ W5Rd w w.heap.size A l ∧ (∀ r ∈ l, r.ok) ∧ l.length ≤ maxLen := by
  obtain ⟨A, n, c, rfl⟩ := okWide_slice Tryz.underlying56 hv
  obtain ⟨fuel, hf⟩ := h
  obtain ⟨l, rfl, h1, h2, h3, h4⟩ := dec_slice W5.cells W5.ok W5.cells_len (by omega) Tryz.underlying56 (by kernel_rfl) (fun _ _ _ h => dec_w5 h) (by simpa [Value.cells] using hf)
  exact ⟨A, c, l, rfl, h1, h2, by omega⟩
end
end Go.Proofs.YtomfcmlomfcghaaGreatDoor

/- Arguments of types api.Parties, [][3]uint16, [][2]uint16, api.Window, [3]uint8 opened. -/
import Derived.Test.YtjlicnhkemfmiaaDoorDec
import Derived.Test.YtjlicnhkemfmiaaDoorM2
import Derived.Test.YtjlicnhkemfmiaaDoorPtyM
set_option linter.unusedVariables false
set_option linter.unusedSimpArgs false
set_option maxRecDepth 100000
namespace Go.Proofs.YtjlicnhkemfmiaaDoor
open Go.RowKit Go.ChangeShapes Go.WideShapes Go.Deep Go.ChangeAt

section
variable {H : Type} {enc : TypeId × Value → H} {w : World} {base : Nat} {spare : Nat → Bool} {held : Bool} {fuel : Nat} {cs : List Value} {x : DataW H × List MemPlace}

theorem dec_struct {P : Program} {t : TypeId} {C : Nat} {fs : Array Field} (he : P.underlying t = some (.struct fs)) (hC : P.cellsOf t = C) (h : DataW.trod enc P w base spare held fuel t cs = some x) :
    cs.length = C ∧ ∃ n, ∀ (j : Nat) (f : Field), fs[j]? = some f → ∃ y, DataW.trod enc P w base spare held n f.type ((cs.drop f.offset).take (P.cellsOf f.type)) = some y := by
  obtain ⟨ys, n, _, _, hlen, hyl, hf⟩ := DataW.trod_struct he h
  rw [hC] at hlen
  refine ⟨hlen, n, fun j f hj => ?_⟩
  have hjl : j < ys.length := by rw [hyl]; exact (Array.getElem?_eq_some_iff.1 hj).1
  exact ⟨ys[j], (hf j f hj).trans (List.getElem?_eq_getElem hjl)⟩
theorem b_i64 {x : Int} (h : (Lit.int .i64 x).wf = true) : i64b x := by have := bounds_i64 h; unfold i64b; omega
theorem cut_cells {P : Program} {n : Nat} {t : TypeId} {C : Nat} {l : List Value} {y : DataW H × List MemPlace} (hC : P.cellsOf t = C) (h : DataW.trod enc P w base spare held n t (l.take (P.cellsOf t)) = some y) : DataW.trod enc P w base spare held n t (l.take C) = some y := by rw [← hC]; exact h
theorem dec_rat (h : DataW.trod enc Tryd.prog w base spare held fuel 26 cs = some x) : ∃ q : FQ, cs = q.cells ∧ q.fits maxLen := by
  obtain ⟨hl, n, hj⟩ := dec_struct (C := 3) Tryd.underlying26 (by kernel_rfl) h
  obtain ⟨y0, t0⟩ := hj 0 _ rfl
  replace t0 := cut_cells (C := 1) (by kernel_rfl) t0
  obtain ⟨y1, t1⟩ := hj 1 _ rfl
  replace t1 := cut_cells (C := 1) (by kernel_rfl) t1
  obtain ⟨y2, t2⟩ := hj 2 _ rfl
  replace t2 := cut_cells (C := 1) (by kernel_rfl) t2
  match cs, hl, t0, t1, t2 with
  | [c0, c1, c2], _, t0, t1, t2 =>
    obtain ⟨n0, q0, _⟩ := DataW.trod_bool Tryd.underlying4 t0
    obtain ⟨n1, q1, _, w1⟩ := DataW.trod_string Tryd.underlying9 t1
    obtain ⟨n2, q2, _, w2⟩ := DataW.trod_string Tryd.underlying9 t2
    simp at q0 q1 q2
    subst q0 q1 q2
    exact ⟨⟨n0, n1, n2⟩, rfl, w1, w2⟩
theorem dec_slice' {α : Type} {P : Program} {t e : TypeId} {C : Nat} (en : α → List Value) (ok : α → Prop) (hen : ∀ a, (en a).length = C) (hC0 : 0 < C)
    (ht : P.underlying t = some (.slice e)) (hC : P.cellsOf e = C)
    (dec : ∀ (fuel : Nat) (cs : List Value) (x : DataW H × List MemPlace), DataW.trod enc P w base spare held fuel e cs = some x → ∃ a, cs = en a ∧ ok a)
    {v : Value} (h : DataW.trod enc P w base spare held fuel t [v] = some x) :
    ∃ (A : Option Addr) (n c : Nat) (l : List α), v = .slice A n c ∧ n = l.length ∧ Rd w w.heap.size C A l.length (l.flatMap en) ∧ (∀ a ∈ l, ok a) ∧ l.length ≤ maxLen := by
  have hv : ∃ A n c, v = .slice A n c := by
    rcases open_slice ht h with ⟨hcs, _⟩ | ⟨a, len, cap, m, k, D, Pl, hcs, _⟩
    · exact ⟨none, 0, 0, by simpa using hcs⟩
    · exact ⟨some a, len, cap, by simpa using hcs⟩
  obtain ⟨A, n, c, rfl⟩ := hv
  obtain ⟨l, hl, r, o, h1, h2⟩ := dec_slice en ok hen hC0 ht hC dec h
  exact ⟨A, n, c, l, rfl, hl.symm, r, o, by omega⟩

theorem okWide_struct' {P : Program} {r : Reach} {b0 : Nat} {t : TypeId} {fs : Array Field} {v : Value} (ht : P.underlying t = some (.struct fs)) (h : Value.okWide P w r b0 t v) : ∃ cs, v = .agg cs ∧ cs.size = P.cellsOf t := by
  simp only [Value.okWide, ht] at h
  obtain ⟨cs, h1, h2, _⟩ := h
  exact ⟨cs, h1, h2⟩

theorem dec_int1 (h : DataW.trod enc Tryd.prog w base spare held fuel 3 cs = some x) : ∃ n : Int, cs = intV n ∧ i64b n := by
  obtain ⟨n, h1, _, h3⟩ := DataW.trod_int Tryd.underlying3 h
  exact ⟨n, by simpa [intV] using h1, b_i64 h3⟩
theorem dec_u16x3 (h : DataW.trod enc Tryd.prog w base spare held fuel 48 cs = some x) : ∃ (x0 x1 x2 : Int), cs = [.int .u16 x0, .int .u16 x1, .int .u16 x2] ∧ (0 ≤ x0 ∧ x0 ≤ 65535) ∧ (0 ≤ x1 ∧ x1 ≤ 65535) ∧ (0 ≤ x2 ∧ x2 ≤ 65535) := by
  obtain ⟨hl, n, hj⟩ := dec_array1 Tryd.underlying48 (by kernel_rfl) (by kernel_rfl) h
  obtain ⟨v0, y0, e0, t0⟩ := hj 0 (by omega)
  obtain ⟨v1, y1, e1, t1⟩ := hj 1 (by omega)
  obtain ⟨v2, y2, e2, t2⟩ := hj 2 (by omega)
  obtain ⟨n0, q0, _, w0⟩ := DataW.trod_int Tryd.underlying22 t0
  obtain ⟨n1, q1, _, w1⟩ := DataW.trod_int Tryd.underlying22 t1
  obtain ⟨n2, q2, _, w2⟩ := DataW.trod_int Tryd.underlying22 t2
  have b0 := bounds_u16 w0
  have b1 := bounds_u16 w1
  have b2 := bounds_u16 w2
  refine ⟨n0, n1, n2, ?_, ⟨by omega, by omega⟩, ⟨by omega, by omega⟩, ⟨by omega, by omega⟩⟩
  match cs, hl, e0, e1, e2 with
  | [c0, c1, c2], _, e0, e1, e2 =>
    simp at e0 e1 e2 q0 q1 q2
    subst e0 e1 e2 q0 q1 q2
    rfl

theorem okWide_array' {P : Program} {r : Reach} {b0 : Nat} {t e : TypeId} {n : Nat} {v : Value} (ht : P.underlying t = some (.array n e)) (h : Value.okWide P w r b0 t v) : ∃ cs, v = .agg cs ∧ cs.size = P.cellsOf t := by
  simp only [Value.okWide, ht] at h
  obtain ⟨cs, h1, h2, _⟩ := h
  exact ⟨cs, h1, h2⟩

structure W3 where
  a : Int
  b : Int
  c : Int
def u16V3 (p : W3) : List Value := [.int .u16 p.a, .int .u16 p.b, .int .u16 p.c]
def u16V (p : Int × Int) : List Value := [.int .u16 p.1, .int .u16 p.2]
def u16ok3 (p : W3) : Prop := (0 ≤ p.a ∧ p.a ≤ 65535) ∧ (0 ≤ p.b ∧ p.b ≤ 65535) ∧ (0 ≤ p.c ∧ p.c ≤ 65535)
def u16ok (p : Int × Int) : Prop := (0 ≤ p.1 ∧ p.1 ≤ 65535) ∧ (0 ≤ p.2 ∧ p.2 ≤ 65535)

theorem open_u16x3s {v : Value} {d : DataW H} {p : List MemPlace} {r : Reach} {b0 : Nat} (hv : Value.okWide Tryd.prog w r b0 24 v) (h : DataW.Trod enc Tryd.prog w base spare held 24 v d p) :
    ∃ (A : Option Addr) (c : Nat) (l : List W3), v = .slice A l.length c ∧ Rd w w.heap.size 3 A l.length (l.flatMap u16V3) ∧ (∀ a ∈ l, u16ok3 a) ∧ l.length ≤ maxLen := by
  obtain ⟨A, n, c, rfl⟩ := okWide_slice Tryd.underlying24 hv
  obtain ⟨fuel, hf⟩ := h
  obtain ⟨l, rfl, h1, h2, h3, h4⟩ := dec_slice (C := 3) u16V3 u16ok3 (fun _ => rfl) (by decide) Tryd.underlying24 (by kernel_rfl) (fun _ _ _ h => by
    obtain ⟨x0, x1, x2, e, hb⟩ := dec_u16x3 h
    exact ⟨⟨x0, x1, x2⟩, e, hb⟩) (by simpa [Value.cells] using hf)
  exact ⟨A, c, l, rfl, h1, h2, by omega⟩

end
end Go.Proofs.YtjlicnhkemfmiaaDoor

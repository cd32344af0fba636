/- Arguments of types api.Record, [6]int16, [2]uint16, [][2]int8, [][2]uint16, [][4]int16 opened. -/
import Derived.Test.YtcljkdjmmolfoaaDoorM12
import Derived.Test.YtcljkdjmmolfoaaDoorM2
import Derived.Test.YtcljkdjmmolfoaaDoorM10
set_option linter.unusedVariables false
set_option linter.unusedSimpArgs false
set_option maxRecDepth 100000
namespace Go.Proofs.YtcljkdjmmolfoaaDoor
open Go.RowKit Go.ChangeShapes Go.WideShapes Go.Deep Go.ChangeAt

section
variable {H : Type} {enc : TypeId × Value → H} {w : World} {base : Nat} {spare : Nat → Bool} {held : Bool} {fuel : Nat} {cs : List Value} {x : DataW H × List MemPlace}

theorem dec_struct {P : Program} {t : TypeId} {C : Nat} {fs : Array Field} (he : P.underlying t = some (.struct fs)) (hC : P.cellsOf t = C) (h : DataW.trod enc P w base spare held fuel t cs = some x) :
    cs.length = C ∧ ∃ n, ∀ (j : Nat) (f : Field), fs[j]? = some f → ∃ y, DataW.trod enc P w base spare held n f.type ((cs.drop f.offset).take (P.cellsOf f.type)) = some y := by
  obtain ⟨ys, n, _, _, hlen, hyl, hf⟩ := DataW.trod_struct he h
  rw [hC] at hlen
  refine ⟨hlen, n, fun j f hj => ?_⟩
  have hjl : j < ys.length := by rw [hyl]; exact (Array.getElem?_eq_some_iff.1 hj).1
  exact ⟨ys[j], (hf j f hj).trans (List.getElem?_eq_getElem hjl)⟩
theorem b_i64 {x : Int} (h : (Lit.int .i64 x).wf = true) : i64b x := by have := bounds_i64 h; unfold i64b; omega
theorem cut_cells {P : Program} {n : Nat} {t : TypeId} {C : Nat} {l : List Value} {y : DataW H × List MemPlace} (hC : P.cellsOf t = C) (h : DataW.trod enc P w base spare held n t (l.take (P.cellsOf t)) = some y) : DataW.trod enc P w base spare held n t (l.take C) = some y := by rw [← hC]; exact h
theorem dec_rat (h : DataW.trod enc Tryd.prog w base spare held fuel 30 cs = some x) : ∃ q : RQ, cs = q.cells ∧ q.fits := by
  obtain ⟨hl, n, hj⟩ := dec_struct (C := 3) Tryd.underlying30 (by kernel_rfl) h
  obtain ⟨y0, t0⟩ := hj 0 _ rfl
  replace t0 := cut_cells (C := 1) (by kernel_rfl) t0
  obtain ⟨y1, t1⟩ := hj 1 _ rfl
  replace t1 := cut_cells (C := 1) (by kernel_rfl) t1
  obtain ⟨y2, t2⟩ := hj 2 _ rfl
  replace t2 := cut_cells (C := 1) (by kernel_rfl) t2
  match cs, hl, t0, t1, t2 with
  | [c0, c1, c2], _, t0, t1, t2 =>
    obtain ⟨n0, q0, _⟩ := DataW.trod_bool Tryd.underlying4 t0
    obtain ⟨n1, q1, _, w1⟩ := DataW.trod_string Tryd.underlying9 t1
    obtain ⟨n2, q2, _, w2⟩ := DataW.trod_string Tryd.underlying9 t2
    simp at q0 q1 q2
    subst q0 q1 q2
    exact ⟨⟨n0, n1, n2⟩, rfl, w1, w2⟩
theorem dec_leg (h : DataW.trod enc Tryd.prog w base spare held fuel 49 cs = some x) : ∃ p : Int × Int, cs = legV p ∧ (i64b p.1 ∧ i64b p.2) := by
  obtain ⟨hl, n, hj⟩ := dec_struct (C := 2) Tryd.underlying49 (by kernel_rfl) h
  obtain ⟨y0, t0⟩ := hj 0 _ rfl
  replace t0 := cut_cells (C := 1) (by kernel_rfl) t0
  obtain ⟨y1, t1⟩ := hj 1 _ rfl
  replace t1 := cut_cells (C := 1) (by kernel_rfl) t1
  match cs, hl, t0, t1 with
  | [c0, c1], _, t0, t1 =>
    obtain ⟨n0, q0, _, w0⟩ := DataW.trod_int Tryd.underlying3 t0
    obtain ⟨n1, q1, _, w1⟩ := DataW.trod_int Tryd.underlying3 t1
    simp at q0 q1
    subst q0 q1
    exact ⟨⟨n0, n1⟩, rfl, b_i64 w0, b_i64 w1⟩
theorem dec_opt (h : DataW.trod enc Tryd.prog w base spare held fuel 51 cs = some x) : ∃ p : RQ × Int, cs = optV p ∧ (p.1.fits ∧ i64b p.2) := by
  obtain ⟨hl, n, hj⟩ := dec_struct (C := 4) Tryd.underlying51 (by kernel_rfl) h
  obtain ⟨y0, t0⟩ := hj 0 _ rfl
  replace t0 := cut_cells (C := 3) (by kernel_rfl) t0
  obtain ⟨y1, t1⟩ := hj 1 _ rfl
  replace t1 := cut_cells (C := 1) (by kernel_rfl) t1
  match cs, hl, t0, t1 with
  | [c0, c1, c2, c3], _, t0, t1 =>
    obtain ⟨n0, q0, w0⟩ := dec_rat t0
    obtain ⟨n1, q1, _, w1⟩ := DataW.trod_int Tryd.underlying3 t1
    simp at q0 q1
    obtain ⟨e0, e1, e2⟩ : c0 = .bool n0.neg ∧ c1 = .string n0.num ∧ c2 = .string n0.den := by simpa [RQ.cells] using q0
    subst e0 e1 e2 q1
    exact ⟨⟨n0, n1⟩, rfl, w0, b_i64 w1⟩
theorem dec_right (h : DataW.trod enc Tryd.prog w base spare held fuel 53 cs = some x) : ∃ a b c : Int, cs = [.int .i64 a, .int .i64 b, .int .i64 c] ∧ i64b a ∧ i64b b ∧ i64b c := by
  obtain ⟨hl, n, hj⟩ := dec_struct (C := 3) Tryd.underlying53 (by kernel_rfl) h
  obtain ⟨y0, t0⟩ := hj 0 _ rfl
  replace t0 := cut_cells (C := 1) (by kernel_rfl) t0
  obtain ⟨y1, t1⟩ := hj 1 _ rfl
  replace t1 := cut_cells (C := 2) (by kernel_rfl) t1
  match cs, hl, t0, t1 with
  | [c0, c1, c2], _, t0, t1 =>
    obtain ⟨n0, q0, _, w0⟩ := DataW.trod_int Tryd.underlying3 t0
    obtain ⟨n1, q1, w1⟩ := dec_leg t1
    simp at q0 q1
    obtain ⟨e1, e2⟩ : c1 = .int .i64 n1.1 ∧ c2 = .int .i64 n1.2 := by simpa [legV] using q1
    subst e1 e2 q0
    exact ⟨n0, n1.1, n1.2, rfl, b_i64 w0, w1.1, w1.2⟩
theorem dec_pay (h : DataW.trod enc Tryd.prog w base spare held fuel 55 cs = some x) : ∃ p : Pay, cs = payV p ∧ (i64b p.debt ∧ i64b p.estate ∧ i64b p.claim ∧ i64b p.cents) := by
  obtain ⟨hl, n, hj⟩ := dec_struct (C := 4) Tryd.underlying55 (by kernel_rfl) h
  obtain ⟨y0, t0⟩ := hj 0 _ rfl
  replace t0 := cut_cells (C := 3) (by kernel_rfl) t0
  obtain ⟨y1, t1⟩ := hj 1 _ rfl
  replace t1 := cut_cells (C := 1) (by kernel_rfl) t1
  match cs, hl, t0, t1 with
  | [c0, c1, c2, c3], _, t0, t1 =>
    obtain ⟨a, b, c, q0, wa, wb, wc⟩ := dec_right t0
    obtain ⟨n1, q1, _, w1⟩ := DataW.trod_int Tryd.underlying2 t1
    simp at q0 q1
    obtain ⟨e0, e1, e2⟩ := q0
    subst e0 e1 e2 q1
    exact ⟨⟨a, b, c, n1⟩, rfl, wa, wb, wc, b_i64 w1⟩

theorem dec_slice' {α : Type} {P : Program} {t e : TypeId} {C : Nat} (en : α → List Value) (ok : α → Prop) (hen : ∀ a, (en a).length = C) (hC0 : 0 < C)
    (ht : P.underlying t = some (.slice e)) (hC : P.cellsOf e = C)
    (dec : ∀ (fuel : Nat) (cs : List Value) (x : DataW H × List MemPlace), DataW.trod enc P w base spare held fuel e cs = some x → ∃ a, cs = en a ∧ ok a)
    {v : Value} (h : DataW.trod enc P w base spare held fuel t [v] = some x) :
    ∃ (A : Option Addr) (n c : Nat) (l : List α), v = .slice A n c ∧ n = l.length ∧ Rd w w.heap.size C A l.length (l.flatMap en) ∧ (∀ a ∈ l, ok a) ∧ l.length ≤ maxLen := by
  have hv : ∃ A n c, v = .slice A n c := by
    rcases open_slice ht h with ⟨hcs, _⟩ | ⟨a, len, cap, m, k, D, Pl, hcs, _⟩
    · exact ⟨none, 0, 0, by simpa using hcs⟩
    · exact ⟨some a, len, cap, by simpa using hcs⟩
  obtain ⟨A, n, c, rfl⟩ := hv
  obtain ⟨l, hl, r, o, h1, h2⟩ := dec_slice en ok hen hC0 ht hC dec h
  exact ⟨A, n, c, l, rfl, hl.symm, r, o, by omega⟩
theorem dec_act (h : DataW.trod enc Tryd.prog w base spare held fuel 34 cs = some x) : ∃ (z1 z2 z3 z4 z5 z6 : Int) (a c : RQ) (A1 : Option Addr) (c1 : Nat) (A2 : Option Addr) (c2 : Nat) (legs : List (Int × Int)) (opts : List (RQ × Int)),
      cs = [.int .i64 z1, .int .i64 z2, .int .i64 z3, .int .i64 z4, .int .i64 z5, .int .i64 z6, .bool a.neg, .string a.num, .string a.den, .bool c.neg, .string c.num, .string c.den, .slice A1 legs.length c1, .slice A2 opts.length c2] ∧ i64s [z1, z2, z3, z4, z5, z6] ∧ a.fits ∧ c.fits ∧
      Rd w w.heap.size 2 A1 legs.length (legs.flatMap legV) ∧ (∀ p ∈ legs, i64b p.1 ∧ i64b p.2) ∧ legs.length ≤ maxLen ∧ Rd w w.heap.size 4 A2 opts.length (opts.flatMap optV) ∧ (∀ p ∈ opts, p.1.fits ∧ i64b p.2) ∧ opts.length ≤ maxLen := by
  obtain ⟨hl, n, hj⟩ := dec_struct (C := 14) Tryd.underlying34 (by kernel_rfl) h
  obtain ⟨y0, t0⟩ := hj 0 _ rfl
  replace t0 := cut_cells (C := 1) (by kernel_rfl) t0
  obtain ⟨y1, t1⟩ := hj 1 _ rfl
  replace t1 := cut_cells (C := 1) (by kernel_rfl) t1
  obtain ⟨y2, t2⟩ := hj 2 _ rfl
  replace t2 := cut_cells (C := 1) (by kernel_rfl) t2
  obtain ⟨y3, t3⟩ := hj 3 _ rfl
  replace t3 := cut_cells (C := 1) (by kernel_rfl) t3
  obtain ⟨y4, t4⟩ := hj 4 _ rfl
  replace t4 := cut_cells (C := 1) (by kernel_rfl) t4
  obtain ⟨y5, t5⟩ := hj 5 _ rfl
  replace t5 := cut_cells (C := 1) (by kernel_rfl) t5
  obtain ⟨y6, t6⟩ := hj 6 _ rfl
  replace t6 := cut_cells (C := 3) (by kernel_rfl) t6
  obtain ⟨y7, t7⟩ := hj 7 _ rfl
  replace t7 := cut_cells (C := 3) (by kernel_rfl) t7
  obtain ⟨y8, t8⟩ := hj 8 _ rfl
  replace t8 := cut_cells (C := 1) (by kernel_rfl) t8
  obtain ⟨y9, t9⟩ := hj 9 _ rfl
  replace t9 := cut_cells (C := 1) (by kernel_rfl) t9
  match cs, hl, t0, t1, t2, t3, t4, t5, t6, t7, t8, t9 with
  | [c0, c1, c2, c3, c4, c5, c6, c7, c8, c9, c10, c11, c12, c13], _, t0, t1, t2, t3, t4, t5, t6, t7, t8, t9 =>
    obtain ⟨n0, q0, _, w0⟩ := DataW.trod_int Tryd.underlying3 t0
    obtain ⟨n1, q1, _, w1⟩ := DataW.trod_int Tryd.underlying3 t1
    obtain ⟨n2, q2, _, w2⟩ := DataW.trod_int Tryd.underlying3 t2
    obtain ⟨n3, q3, _, w3⟩ := DataW.trod_int Tryd.underlying3 t3
    obtain ⟨n4, q4, _, w4⟩ := DataW.trod_int Tryd.underlying3 t4
    obtain ⟨n5, q5, _, w5⟩ := DataW.trod_int Tryd.underlying3 t5
    obtain ⟨n6, q6, w6⟩ := dec_rat t6
    obtain ⟨n7, q7, w7⟩ := dec_rat t7
    have s8 : DataW.trod enc Tryd.prog w base spare held n 31 [c12] = some y8 := t8
    have s9 : DataW.trod enc Tryd.prog w base spare held n 32 [c13] = some y9 := t9
    obtain ⟨A1, m1, d1, legs, e8, h81, r1, o1, g1⟩ := dec_slice' (C := 2) legV (fun p => i64b p.1 ∧ i64b p.2) (fun _ => rfl) (by decide) Tryd.underlying31 (by kernel_rfl) (fun _ _ _ h => dec_leg h) s8
    obtain ⟨A2, m2, d2, opts, e9, h91, r2, o2, g2⟩ := dec_slice' (C := 4) optV (fun p => p.1.fits ∧ i64b p.2) (fun _ => rfl) (by decide) Tryd.underlying32 (by kernel_rfl) (fun _ _ _ h => dec_opt h) s9
    subst h81 h91
    simp at q0 q1 q2 q3 q4 q5 q6 q7
    obtain ⟨e60, e61, e62⟩ : c6 = .bool n6.neg ∧ c7 = .string n6.num ∧ c8 = .string n6.den := by simpa [RQ.cells] using q6
    obtain ⟨e70, e71, e72⟩ : c9 = .bool n7.neg ∧ c10 = .string n7.num ∧ c11 = .string n7.den := by simpa [RQ.cells] using q7
    subst q0 q1 q2 q3 q4 q5 e60 e61 e62 e70 e71 e72 e8 e9
    exact ⟨n0, n1, n2, n3, n4, n5, n6, n7, A1, d1, A2, d2, legs, opts, rfl, fun z hz => by
      simp at hz
      rcases hz with rfl | rfl | rfl | rfl | rfl | rfl <;> (first | exact b_i64 w0 | exact b_i64 w1 | exact b_i64 w2 | exact b_i64 w3 | exact b_i64 w4 | exact b_i64 w5), w6, w7, r1, o1, g1, r2, o2, g2⟩

theorem okWide_struct' {P : Program} {r : Reach} {b0 : Nat} {t : TypeId} {fs : Array Field} {v : Value} (ht : P.underlying t = some (.struct fs)) (h : Value.okWide P w r b0 t v) : ∃ cs, v = .agg cs ∧ cs.size = P.cellsOf t := by
  simp only [Value.okWide, ht] at h
  obtain ⟨cs, h1, h2, _⟩ := h
  exact ⟨cs, h1, h2⟩

theorem open_record {v : Value} {d : DataW H} {p : List MemPlace} {r : Reach} {b0 : Nat} (hv : Value.okWide Tryd.prog w r b0 37 v) (h : DataW.Trod enc Tryd.prog w base spare held 37 v d p) :
    ∃ (z1 z2 z3 z4 z5 z6 : Int) (a c : RQ) (A1 : Option Addr) (c1 : Nat) (A2 : Option Addr) (c2 : Nat) (A3 : Option Addr) (c3 : Nat) (legs : List (Int × Int)) (opts : List (RQ × Int)) (pays : List Pay),
      v = .agg #[.int .i64 z1, .int .i64 z2, .int .i64 z3, .int .i64 z4, .int .i64 z5, .int .i64 z6, .bool a.neg, .string a.num, .string a.den, .bool c.neg, .string c.num, .string c.den, .slice A1 legs.length c1, .slice A2 opts.length c2, .slice A3 pays.length c3] ∧ i64s [z1, z2, z3, z4, z5, z6] ∧ a.fits ∧ c.fits ∧
      Rd w w.heap.size 2 A1 legs.length (legs.flatMap legV) ∧ (∀ p ∈ legs, i64b p.1 ∧ i64b p.2) ∧ legs.length ≤ maxLen ∧ Rd w w.heap.size 4 A2 opts.length (opts.flatMap optV) ∧ (∀ p ∈ opts, p.1.fits ∧ i64b p.2) ∧ opts.length ≤ maxLen ∧
      Rd w w.heap.size 4 A3 pays.length (pays.flatMap payV) ∧ (∀ p ∈ pays, i64b p.debt ∧ i64b p.estate ∧ i64b p.claim ∧ i64b p.cents) ∧ pays.length ≤ maxLen := by
  obtain ⟨cs, rfl, _⟩ := okWide_struct' Tryd.underlying37 hv
  obtain ⟨fuel, hf⟩ := h
  have hf' : DataW.trod enc Tryd.prog w base spare held fuel 37 cs.toList = some (d, p) := by simpa [Value.cells] using hf
  obtain ⟨hl, n, hj⟩ := dec_struct (C := 15) Tryd.underlying37 (by kernel_rfl) hf'
  obtain ⟨y0, t0⟩ := hj 0 _ rfl
  replace t0 := cut_cells (C := 14) (by kernel_rfl) t0
  obtain ⟨y1, t1⟩ := hj 1 _ rfl
  replace t1 := cut_cells (C := 1) (by kernel_rfl) t1
  obtain ⟨cl⟩ := cs
  match cl, hl, t0, t1 with
  | [c0, c1, c2, c3, c4, c5, c6, c7, c8, c9, c10, c11, c12, c13, c14], _, t0, t1 =>
    have s0 : DataW.trod enc Tryd.prog w base spare held n 34 [c0, c1, c2, c3, c4, c5, c6, c7, c8, c9, c10, c11, c12, c13] = some y0 := t0
    have s1 : DataW.trod enc Tryd.prog w base spare held n 35 [c14] = some y1 := t1
    obtain ⟨z1, z2, z3, z4, z5, z6, a, c, A1, d1, A2, d2, legs, opts, e, hz, ha, hc, r1, o1, g1, r2, o2, g2⟩ := dec_act s0
    obtain ⟨A3, m3, d3, pays, e1, h1, r3, o3, g3⟩ := dec_slice' (C := 4) payV (fun p => i64b p.debt ∧ i64b p.estate ∧ i64b p.claim ∧ i64b p.cents) (fun _ => rfl) (by decide) Tryd.underlying35 (by kernel_rfl) (fun _ _ _ h => dec_pay h) s1
    subst h1 e1
    refine ⟨z1, z2, z3, z4, z5, z6, a, c, A1, d1, A2, d2, A3, d3, legs, opts, pays, ?_, hz, ha, hc, r1, o1, g1, r2, o2, g2, r3, o3, g3⟩
    have e2 := congrArg (fun l => Value.agg (l ++ [Value.slice A3 pays.length d3]).toArray) e
    exact e2

theorem dec_i16x6 (h : DataW.trod enc Tryd.prog w base spare held fuel 39 cs = some x) : ∃ (x0 x1 x2 x3 x4 x5 : Int), cs = [.int .i16 x0, .int .i16 x1, .int .i16 x2, .int .i16 x3, .int .i16 x4, .int .i16 x5] ∧ (-32768 ≤ x0 ∧ x0 ≤ 32767) ∧ (-32768 ≤ x1 ∧ x1 ≤ 32767) ∧ (-32768 ≤ x2 ∧ x2 ≤ 32767) ∧ (-32768 ≤ x3 ∧ x3 ≤ 32767) ∧ (-32768 ≤ x4 ∧ x4 ≤ 32767) ∧ (-32768 ≤ x5 ∧ x5 ≤ 32767) := by
  obtain ⟨hl, n, hj⟩ := dec_array1 Tryd.underlying39 (by kernel_rfl) (by kernel_rfl) h
  obtain ⟨v0, y0, e0, t0⟩ := hj 0 (by omega)
  obtain ⟨v1, y1, e1, t1⟩ := hj 1 (by omega)
  obtain ⟨v2, y2, e2, t2⟩ := hj 2 (by omega)
  obtain ⟨v3, y3, e3, t3⟩ := hj 3 (by omega)
  obtain ⟨v4, y4, e4, t4⟩ := hj 4 (by omega)
  obtain ⟨v5, y5, e5, t5⟩ := hj 5 (by omega)
  obtain ⟨n0, q0, _, w0⟩ := DataW.trod_int Tryd.underlying38 t0
  obtain ⟨n1, q1, _, w1⟩ := DataW.trod_int Tryd.underlying38 t1
  obtain ⟨n2, q2, _, w2⟩ := DataW.trod_int Tryd.underlying38 t2
  obtain ⟨n3, q3, _, w3⟩ := DataW.trod_int Tryd.underlying38 t3
  obtain ⟨n4, q4, _, w4⟩ := DataW.trod_int Tryd.underlying38 t4
  obtain ⟨n5, q5, _, w5⟩ := DataW.trod_int Tryd.underlying38 t5
  have b0 := bounds_i16 w0
  have b1 := bounds_i16 w1
  have b2 := bounds_i16 w2
  have b3 := bounds_i16 w3
  have b4 := bounds_i16 w4
  have b5 := bounds_i16 w5
  refine ⟨n0, n1, n2, n3, n4, n5, ?_, ⟨by omega, by omega⟩, ⟨by omega, by omega⟩, ⟨by omega, by omega⟩, ⟨by omega, by omega⟩, ⟨by omega, by omega⟩, ⟨by omega, by omega⟩⟩
  match cs, hl, e0, e1, e2, e3, e4, e5 with
  | [c0, c1, c2, c3, c4, c5], _, e0, e1, e2, e3, e4, e5 =>
    simp at e0 e1 e2 e3 e4 e5 q0 q1 q2 q3 q4 q5
    subst e0 e1 e2 e3 e4 e5 q0 q1 q2 q3 q4 q5
    rfl

theorem dec_u16x2 (h : DataW.trod enc Tryd.prog w base spare held fuel 40 cs = some x) : ∃ (x0 x1 : Int), cs = [.int .u16 x0, .int .u16 x1] ∧ (0 ≤ x0 ∧ x0 ≤ 65535) ∧ (0 ≤ x1 ∧ x1 ≤ 65535) := by
  obtain ⟨hl, n, hj⟩ := dec_array1 Tryd.underlying40 (by kernel_rfl) (by kernel_rfl) h
  obtain ⟨v0, y0, e0, t0⟩ := hj 0 (by omega)
  obtain ⟨v1, y1, e1, t1⟩ := hj 1 (by omega)
  obtain ⟨n0, q0, _, w0⟩ := DataW.trod_int Tryd.underlying23 t0
  obtain ⟨n1, q1, _, w1⟩ := DataW.trod_int Tryd.underlying23 t1
  have b0 := bounds_u16 w0
  have b1 := bounds_u16 w1
  refine ⟨n0, n1, ?_, ⟨by omega, by omega⟩, ⟨by omega, by omega⟩⟩
  match cs, hl, e0, e1 with
  | [c0, c1], _, e0, e1 =>
    simp at e0 e1 q0 q1
    subst e0 e1 q0 q1
    rfl

theorem dec_i8x2 (h : DataW.trod enc Tryd.prog w base spare held fuel 72 cs = some x) : ∃ (x0 x1 : Int), cs = [.int .i8 x0, .int .i8 x1] ∧ (-128 ≤ x0 ∧ x0 ≤ 127) ∧ (-128 ≤ x1 ∧ x1 ≤ 127) := by
  obtain ⟨hl, n, hj⟩ := dec_array1 Tryd.underlying72 (by kernel_rfl) (by kernel_rfl) h
  obtain ⟨v0, y0, e0, t0⟩ := hj 0 (by omega)
  obtain ⟨v1, y1, e1, t1⟩ := hj 1 (by omega)
  obtain ⟨n0, q0, _, w0⟩ := DataW.trod_int Tryd.underlying47 t0
  obtain ⟨n1, q1, _, w1⟩ := DataW.trod_int Tryd.underlying47 t1
  have b0 := bounds_i8 w0
  have b1 := bounds_i8 w1
  refine ⟨n0, n1, ?_, ⟨by omega, by omega⟩, ⟨by omega, by omega⟩⟩
  match cs, hl, e0, e1 with
  | [c0, c1], _, e0, e1 =>
    simp at e0 e1 q0 q1
    subst e0 e1 q0 q1
    rfl

theorem dec_i16x4 (h : DataW.trod enc Tryd.prog w base spare held fuel 73 cs = some x) : ∃ (x0 x1 x2 x3 : Int), cs = [.int .i16 x0, .int .i16 x1, .int .i16 x2, .int .i16 x3] ∧ (-32768 ≤ x0 ∧ x0 ≤ 32767) ∧ (-32768 ≤ x1 ∧ x1 ≤ 32767) ∧ (-32768 ≤ x2 ∧ x2 ≤ 32767) ∧ (-32768 ≤ x3 ∧ x3 ≤ 32767) := by
  obtain ⟨hl, n, hj⟩ := dec_array1 Tryd.underlying73 (by kernel_rfl) (by kernel_rfl) h
  obtain ⟨v0, y0, e0, t0⟩ := hj 0 (by omega)
  obtain ⟨v1, y1, e1, t1⟩ := hj 1 (by omega)
  obtain ⟨v2, y2, e2, t2⟩ := hj 2 (by omega)
  obtain ⟨v3, y3, e3, t3⟩ := hj 3 (by omega)
  obtain ⟨n0, q0, _, w0⟩ := DataW.trod_int Tryd.underlying38 t0
  obtain ⟨n1, q1, _, w1⟩ := DataW.trod_int Tryd.underlying38 t1
  obtain ⟨n2, q2, _, w2⟩ := DataW.trod_int Tryd.underlying38 t2
  obtain ⟨n3, q3, _, w3⟩ := DataW.trod_int Tryd.underlying38 t3
  have b0 := bounds_i16 w0
  have b1 := bounds_i16 w1
  have b2 := bounds_i16 w2
  have b3 := bounds_i16 w3
  refine ⟨n0, n1, n2, n3, ?_, ⟨by omega, by omega⟩, ⟨by omega, by omega⟩, ⟨by omega, by omega⟩, ⟨by omega, by omega⟩⟩
  match cs, hl, e0, e1, e2, e3 with
  | [c0, c1, c2, c3], _, e0, e1, e2, e3 =>
    simp at e0 e1 e2 e3 q0 q1 q2 q3
    subst e0 e1 e2 e3 q0 q1 q2 q3
    rfl

theorem okWide_array' {P : Program} {r : Reach} {b0 : Nat} {t e : TypeId} {n : Nat} {v : Value} (ht : P.underlying t = some (.array n e)) (h : Value.okWide P w r b0 t v) : ∃ cs, v = .agg cs ∧ cs.size = P.cellsOf t := by
  simp only [Value.okWide, ht] at h
  obtain ⟨cs, h1, h2, _⟩ := h
  exact ⟨cs, h1, h2⟩

theorem open_i16x6 {v : Value} {d : DataW H} {p : List MemPlace} {r : Reach} {b0 : Nat} (hv : Value.okWide Tryd.prog w r b0 39 v) (h : DataW.Trod enc Tryd.prog w base spare held 39 v d p) :
    ∃ (x0 x1 x2 x3 x4 x5 : Int), v = .agg #[.int .i16 x0, .int .i16 x1, .int .i16 x2, .int .i16 x3, .int .i16 x4, .int .i16 x5] ∧ (-32768 ≤ x0 ∧ x0 ≤ 32767) ∧ (-32768 ≤ x1 ∧ x1 ≤ 32767) ∧ (-32768 ≤ x2 ∧ x2 ≤ 32767) ∧ (-32768 ≤ x3 ∧ x3 ≤ 32767) ∧ (-32768 ≤ x4 ∧ x4 ≤ 32767) ∧ (-32768 ≤ x5 ∧ x5 ≤ 32767) := by
  obtain ⟨cs, rfl, _⟩ := okWide_array' Tryd.underlying39 hv
  obtain ⟨fuel, hf⟩ := h
  have hf' : DataW.trod enc Tryd.prog w base spare held fuel 39 cs.toList = some (d, p) := by simpa [Value.cells] using hf
  obtain ⟨x0, x1, x2, x3, x4, x5, e, hb⟩ := dec_i16x6 hf'
  refine ⟨x0, x1, x2, x3, x4, x5, ?_, hb⟩
  obtain ⟨l⟩ := cs
  simp at e
  subst e
  rfl

theorem open_u16x2 {v : Value} {d : DataW H} {p : List MemPlace} {r : Reach} {b0 : Nat} (hv : Value.okWide Tryd.prog w r b0 40 v) (h : DataW.Trod enc Tryd.prog w base spare held 40 v d p) :
    ∃ (x0 x1 : Int), v = .agg #[.int .u16 x0, .int .u16 x1] ∧ (0 ≤ x0 ∧ x0 ≤ 65535) ∧ (0 ≤ x1 ∧ x1 ≤ 65535) := by
  obtain ⟨cs, rfl, _⟩ := okWide_array' Tryd.underlying40 hv
  obtain ⟨fuel, hf⟩ := h
  have hf' : DataW.trod enc Tryd.prog w base spare held fuel 40 cs.toList = some (d, p) := by simpa [Value.cells] using hf
  obtain ⟨x0, x1, e, hb⟩ := dec_u16x2 hf'
  refine ⟨x0, x1, ?_, hb⟩
  obtain ⟨l⟩ := cs
  simp at e
  subst e
  rfl

def i8V (p : Int × Int) : List Value := [.int .i8 p.1, .int .i8 p.2]
def u16V (p : Int × Int) : List Value := [.int .u16 p.1, .int .u16 p.2]
structure W4 where
  a : Int
  b : Int
  c : Int
  d : Int
def i16V (p : W4) : List Value := [.int .i16 p.a, .int .i16 p.b, .int .i16 p.c, .int .i16 p.d]
def i8ok (p : Int × Int) : Prop := (-128 ≤ p.1 ∧ p.1 ≤ 127) ∧ (-128 ≤ p.2 ∧ p.2 ≤ 127)
def u16ok (p : Int × Int) : Prop := (0 ≤ p.1 ∧ p.1 ≤ 65535) ∧ (0 ≤ p.2 ∧ p.2 ≤ 65535)
def i16ok (p : W4) : Prop := (-32768 ≤ p.a ∧ p.a ≤ 32767) ∧ (-32768 ≤ p.b ∧ p.b ≤ 32767) ∧ (-32768 ≤ p.c ∧ p.c ≤ 32767) ∧ (-32768 ≤ p.d ∧ p.d ≤ 32767)

theorem open_i8x2s {v : Value} {d : DataW H} {p : List MemPlace} {r : Reach} {b0 : Nat} (hv : Value.okWide Tryd.prog w r b0 41 v) (h : DataW.Trod enc Tryd.prog w base spare held 41 v d p) :
    ∃ (A : Option Addr) (c : Nat) (l : List (Int × Int)), v = .slice A l.length c ∧ Rd w w.heap.size 2 A l.length (l.flatMap i8V) ∧ (∀ a ∈ l, i8ok a) ∧ l.length ≤ maxLen := by
  obtain ⟨A, n, c, rfl⟩ := okWide_slice Tryd.underlying41 hv
  obtain ⟨fuel, hf⟩ := h
  obtain ⟨l, rfl, h1, h2, h3, h4⟩ := dec_slice (C := 2) i8V i8ok (fun _ => rfl) (by decide) Tryd.underlying41 (by kernel_rfl) (fun _ _ _ h => by
    obtain ⟨x0, x1, e, hb⟩ := dec_i8x2 h
    exact ⟨⟨x0, x1⟩, e, hb⟩) (by simpa [Value.cells] using hf)
  exact ⟨A, c, l, rfl, h1, h2, by omega⟩

theorem open_u16x2s {v : Value} {d : DataW H} {p : List MemPlace} {r : Reach} {b0 : Nat} (hv : Value.okWide Tryd.prog w r b0 42 v) (h : DataW.Trod enc Tryd.prog w base spare held 42 v d p) :
    ∃ (A : Option Addr) (c : Nat) (l : List (Int × Int)), v = .slice A l.length c ∧ Rd w w.heap.size 2 A l.length (l.flatMap u16V) ∧ (∀ a ∈ l, u16ok a) ∧ l.length ≤ maxLen := by
  obtain ⟨A, n, c, rfl⟩ := okWide_slice Tryd.underlying42 hv
  obtain ⟨fuel, hf⟩ := h
  obtain ⟨l, rfl, h1, h2, h3, h4⟩ := dec_slice (C := 2) u16V u16ok (fun _ => rfl) (by decide) Tryd.underlying42 (by kernel_rfl) (fun _ _ _ h => by
    obtain ⟨x0, x1, e, hb⟩ := dec_u16x2 h
    exact ⟨⟨x0, x1⟩, e, hb⟩) (by simpa [Value.cells] using hf)
  exact ⟨A, c, l, rfl, h1, h2, by omega⟩

theorem open_i16x4s {v : Value} {d : DataW H} {p : List MemPlace} {r : Reach} {b0 : Nat} (hv : Value.okWide Tryd.prog w r b0 43 v) (h : DataW.Trod enc Tryd.prog w base spare held 43 v d p) :
    ∃ (A : Option Addr) (c : Nat) (l : List W4), v = .slice A l.length c ∧ Rd w w.heap.size 4 A l.length (l.flatMap i16V) ∧ (∀ a ∈ l, i16ok a) ∧ l.length ≤ maxLen := by
  obtain ⟨A, n, c, rfl⟩ := okWide_slice Tryd.underlying43 hv
  obtain ⟨fuel, hf⟩ := h
  obtain ⟨l, rfl, h1, h2, h3, h4⟩ := dec_slice (C := 4) i16V i16ok (fun _ => rfl) (by decide) Tryd.underlying43 (by kernel_rfl) (fun _ _ _ h => by
    obtain ⟨x0, x1, x2, x3, e, hb⟩ := dec_i16x4 h
    exact ⟨⟨x0, x1, x2, x3⟩, e, hb⟩) (by simpa [Value.cells] using hf)
  exact ⟨A, c, l, rfl, h1, h2, by omega⟩
end
end Go.Proofs.YtcljkdjmmolfoaaDoor

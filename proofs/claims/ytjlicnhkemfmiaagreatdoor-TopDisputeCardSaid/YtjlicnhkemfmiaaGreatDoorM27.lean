/- Merged of DecPty TDec. -/
import Derived.Test.YtjlicnhkemfmiaaGreatDoorDec
import Derived.Test.YtjlicnhkemfmiaaGreatDoorM2
import Derived.Test.YtjlicnhkemfmiaaGreatDoorM21
/- Arguments of types api.Parties, [][3]uint16, [][2]uint16, api.Window, [3]uint8 opened. -/
set_option linter.unusedVariables false
set_option linter.unusedSimpArgs false
set_option maxRecDepth 100000
namespace Go.Proofs.YtjlicnhkemfmiaaGreatDoor
open Go.RowKit Go.ChangeShapes Go.WideShapes Go.Deep Go.ChangeAt

section
variable {H : Type} {enc : TypeId × Value → H} {w : World} {base : Nat} {spare : Nat → Bool} {held : Bool} {fuel : Nat} {cs : List Value} {x : DataW H × List MemPlace}

structure W3 where
 a : Int
 b : Int
 c : Int
end
end Go.Proofs.YtjlicnhkemfmiaaGreatDoor

/- The opener of [6]uint16. -/
namespace Go.Proofs.YtjlicnhkemfmiaaGreatDoor
open Go.RowKit Go.ChangeShapes Go.WideShapes Go.Deep Go.ChangeAt

section
variable {H : Type} {enc : TypeId × Value → H} {w : World} {base fuel : Nat} {spare : Nat → Bool} {held : Bool} {cs : List Value} {x : DataW H × List MemPlace}
theorem dec_u16x6 (h : DataW.trod enc Tryz.prog w base spare held fuel 81 cs = some x) : ∃ (x0 x1 x2 x3 x4 x5 : Int), cs = [.int .u16 x0, .int .u16 x1, .int .u16 x2, .int .u16 x3, .int .u16 x4, .int .u16 x5] ∧ (0 ≤ x0 ∧ x0 ≤ 65535) ∧ (0 ≤ x1 ∧ x1 ≤ 65535) ∧ (0 ≤ x2 ∧ x2 ≤ 65535) ∧ (0 ≤ x3 ∧ x3 ≤ 65535) ∧ (0 ≤ x4 ∧ x4 ≤ 65535) ∧ (0 ≤ x5 ∧ x5 ≤ 65535) := by
 obtain ⟨hl, n, hj⟩ := dec_array1 Tryz.underlying81 (by kernel_rfl) (by kernel_rfl) h
 obtain ⟨v0, y0, e0, t0⟩ := hj 0 (by omega)
 obtain ⟨v1, y1, e1, t1⟩ := hj 1 (by omega)
 obtain ⟨v2, y2, e2, t2⟩ := hj 2 (by omega)
 obtain ⟨v3, y3, e3, t3⟩ := hj 3 (by omega)
 obtain ⟨v4, y4, e4, t4⟩ := hj 4 (by omega)
 obtain ⟨v5, y5, e5, t5⟩ := hj 5 (by omega)
 obtain ⟨n0, q0, _, w0⟩ := DataW.trod_int Tryz.underlying24 t0
 obtain ⟨n1, q1, _, w1⟩ := DataW.trod_int Tryz.underlying24 t1
 obtain ⟨n2, q2, _, w2⟩ := DataW.trod_int Tryz.underlying24 t2
 obtain ⟨n3, q3, _, w3⟩ := DataW.trod_int Tryz.underlying24 t3
 obtain ⟨n4, q4, _, w4⟩ := DataW.trod_int Tryz.underlying24 t4
 obtain ⟨n5, q5, _, w5⟩ := DataW.trod_int Tryz.underlying24 t5
 have b0 := bounds_u16 w0
 have b1 := bounds_u16 w1
 have b2 := bounds_u16 w2
 have b3 := bounds_u16 w3
 have b4 := bounds_u16 w4
 have b5 := bounds_u16 w5
 refine ⟨n0, n1, n2, n3, n4, n5, ?_, ⟨by omega, by omega⟩, ⟨by omega, by omega⟩, ⟨by omega, by omega⟩, ⟨by omega, by omega⟩, ⟨by omega, by omega⟩, ⟨by omega, by omega⟩⟩
 match cs, hl, e0, e1, e2, e3, e4, e5 with
 | [c0, c1, c2, c3, c4, c5], _, e0, e1, e2, e3, e4, e5 =>
  simp at e0 e1 e2 e3 e4 e5 q0 q1 q2 q3 q4 q5
  subst e0 e1 e2 e3 e4 e5 q0 q1 q2 q3 q4 q5
  rfl

end

end Go.Proofs.YtjlicnhkemfmiaaGreatDoor

/- Arguments of type [][6]uint16 opened; the law TopDispute over whole numbers. -/
import Derived.Test.YtjlicnhkemfmiaaGreatDoorM27
import Derived.Test.YtjlicnhkemfmiaaGreatDoorLawDsp
set_option linter.unusedVariables false
set_option linter.unusedSimpArgs false
set_option maxRecDepth 100000
namespace Go.Proofs.YtjlicnhkemfmiaaGreatDoor
open Go.RowKit Go.ChangeShapes Go.WideShapes Go.Deep Go.ChangeAt

section
variable {H : Type} {enc : TypeId × Value → H} {w : World} {base : Nat} {spare : Nat → Bool} {held : Bool} {fuel : Nat} {cs : List Value} {x : DataW H × List MemPlace}
theorem open_u16x6s {v : Value} {d : DataW H} {p : List MemPlace} {r : Reach} {b0 : Nat} (hv : Value.okWide Tryz.prog w r b0 22 v) (h : DataW.Trod enc Tryz.prog w base spare held 22 v d p) :
 ∃ (A : Option Addr) (c : Nat) (l : List W6), v = .slice A l.length c ∧ Rd w w.heap.size 6 A l.length (l.flatMap u16V6) ∧ (∀ a ∈ l, u16ok6 a) ∧ l.length ≤ maxLen := by
 obtain ⟨A, n, c, rfl⟩ := okWide_slice Tryz.underlying22 hv
 obtain ⟨fuel, hf⟩ := h
 obtain ⟨l, rfl, h1, h2, h3, h4⟩ := dec_slice (C := 6) u16V6 u16ok6 (fun _ => rfl) (by decide) Tryz.underlying22 (by kernel_rfl) (fun _ _ _ h => by
  obtain ⟨x0, x1, x2, x3, x4, x5, e, hb⟩ := dec_u16x6 h
  exact ⟨⟨x0, x1, x2, x3, x4, x5⟩, e, hb⟩) (by simpa [Value.cells] using hf)
 exact ⟨A, c, l, rfl, h1, h2, by omega⟩
end

theorem topDisputeLawI (A0 : Option Addr) (c0 : Nat) (l0 : List W6) (x1 x2 x3 x4 : Int) (w : World) (r0 : Rd w w.heap.size 6 A0 l0.length (l0.flatMap u16V6)) (o0 : ∀ a ∈ l0, u16ok6 a) (g0 : l0.length ≤ maxLen) (b1 : 0 ≤ x1 ∧ x1 ≤ 255) (b2 : 0 ≤ x2 ∧ x2 ≤ 255) (b3 : 0 ≤ x3 ∧ x3 ≤ 255) (b4 : 0 ≤ x4 ∧ x4 ≤ 65535) :
 Calls Tryz.prog 4 #[.slice A0 l0.length c0, .int .u8 x1, .int .u8 x2, .int .u8 x3, .int .u16 x4] w fun e w' => e = .returned (.bool true) ∧ Below w.heap.size w w' := by
 obtain ⟨n1, rfl⟩ : ∃ n : Nat, x1 = (n : Int) := ⟨x1.toNat, by omega⟩
 obtain ⟨n2, rfl⟩ : ∃ n : Nat, x2 = (n : Int) := ⟨x2.toNat, by omega⟩
 obtain ⟨n3, rfl⟩ : ∃ n : Nat, x3 = (n : Int) := ⟨x3.toNat, by omega⟩
 obtain ⟨n4, rfl⟩ : ∃ n : Nat, x4 = (n : Int) := ⟨x4.toNat, by omega⟩
 exact topDisputeLaw A0 l0.length c0 l0 n1 n2 n3 n4 w rfl r0 o0 g0 (by omega) (by omega) (by omega) (by omega)

end Go.Proofs.YtjlicnhkemfmiaaGreatDoor

/- Arguments of types [][6]uint16, []uint16 opened; the table of the trailing zeros out of the row's laid variables. -/
import Derived.Test.YtjlicnhkemfmiaaGreatDoorTDec
import Derived.Test.YtjlicnhkemfmiaaGreatDoorLawSec
import Derived.Lib.LaidTab
set_option linter.unusedVariables false
set_option linter.unusedSimpArgs false
set_option maxRecDepth 100000
namespace Go.Proofs.YtjlicnhkemfmiaaGreatDoor
open Go.RowKit Go.ChangeShapes Go.WideShapes Go.Deep Go.ChangeAt

section
variable {H : Type} {enc : TypeId × Value → H} {w : World} {base : Nat} {spare : Nat → Bool} {held : Bool} {fuel : Nat} {cs : List Value} {x : DataW H × List MemPlace}
theorem open_u16x6s {v : Value} {d : DataW H} {p : List MemPlace} {r : Reach} {b0 : Nat} (hv : Value.okWide Tryz.prog w r b0 22 v) (h : DataW.Trod enc Tryz.prog w base spare held 22 v d p) :
    ∃ (A : Option Addr) (c : Nat) (l : List W6), v = .slice A l.length c ∧ Rd w w.heap.size 6 A l.length (l.flatMap u16V6) ∧ (∀ a ∈ l, u16ok6 a) ∧ l.length ≤ maxLen := by
  obtain ⟨A, n, c, rfl⟩ := okWide_slice Tryz.underlying22 hv
  obtain ⟨fuel, hf⟩ := h
  obtain ⟨l, rfl, h1, h2, h3, h4⟩ := dec_slice (C := 6) u16V6 u16ok6 (fun _ => rfl) (by decide) Tryz.underlying22 (by kernel_rfl) (fun _ _ _ h => by
    obtain ⟨x0, x1, x2, x3, x4, x5, e, hb⟩ := dec_u16x6 h
    exact ⟨⟨x0, x1, x2, x3, x4, x5⟩, e, hb⟩) (by simpa [Value.cells] using hf)
  exact ⟨A, c, l, rfl, h1, h2, by omega⟩
theorem open_u16s {v : Value} {d : DataW H} {p : List MemPlace} {r : Reach} {b0 : Nat} (hv : Value.okWide Tryz.prog w r b0 23 v) (h : DataW.Trod enc Tryz.prog w base spare held 23 v d p) :
    ∃ (A : Option Addr) (c : Nat) (l : List Int), v = .slice A l.length c ∧ Rd w w.heap.size 1 A l.length (l.flatMap u16W) ∧ (∀ a ∈ l, u16b a) ∧ l.length ≤ maxLen := by
  obtain ⟨A, n, c, rfl⟩ := okWide_slice Tryz.underlying23 hv
  obtain ⟨fuel, hf⟩ := h
  obtain ⟨l, rfl, h1, h2, h3, h4⟩ := dec_slice (C := 1) u16W u16b (fun _ => rfl) (by decide) Tryz.underlying23 (by kernel_rfl) (fun _ _ _ h => by
    obtain ⟨n, h1, _, h3⟩ := DataW.trod_int Tryz.underlying24 h
    have := bounds_u16 h3
    exact ⟨n, by simpa [u16W] using h1, by omega, by omega⟩) (by simpa [Value.cells] using hf)
  exact ⟨A, c, l, rfl, h1, h2, by omega⟩
end

theorem tabW_of {W : World} (h : laidMetH Tryz.prog Rows.topSecuredRow.laid W) : TabW W := by
  have h1 : laidMet Tryz.prog Rows.topSecuredRow.laid W := h
  obtain ⟨ps, ⟨g', t', cs, fuel, p, q, hg', ht', hvar, hd, ⟨g2, t2, cs2, fuel2, p2, q2, hg2, ht2, hvar2, hd2, _, _⟩, _⟩, _⟩ := h1
  have hg : Tryz.prog.globalNamed "math/bits.deBruijn64tab" = some 2 := by kernel_rfl
  obtain rfl := Option.some.inj (hg.symm.trans hg2)
  have hty : (Tryz.prog.globals[2]?).map (·.type) = some 229 := by kernel_rfl
  obtain rfl := Option.some.inj (hty.symm.trans ht2)
  have e := Lib.cells_of_tab (k := .u8) (zs := Lib.deBruijn64tab.map fun n : Nat => (n : Int)) Tryz.underlying229 Tryz.underlying5 (by kernel_rfl) (by kernel_rfl) hd2
  have ht : Lib.TabIs Tryz.prog W "math/bits.deBruijn64tab" .u8 (Lib.deBruijn64tab.map fun n : Nat => (n : Int)) := by
    unfold Lib.TabIs
    rw [hvar2, ← e]
  refine ⟨fun i hi => ?_, ?_⟩
  · have hl : Lib.deBruijn64tab.length = 64 := by decide +kernel
    have := ht.cell hg i (by rw [List.length_map, hl]; exact hi)
    rw [this]
    congr 2
    simp only [List.getD_eq_getElem?_getD, List.getElem?_map]
    rcases Lib.deBruijn64tab[i]? with _ | n <;> rfl
  · have := ht.cell hg 0 (by decide)
    exact World.block_lt_of_cell? W ⟨2, 0, none⟩ this

theorem topSecuredLawI (A1 : Option Addr) (c1 : Nat) (l1 : List W6) (A2 : Option Addr) (c2 : Nat) (l2 : List Int) (x3 : Int) (w : World) (hT : TabW w) (r1 : Rd w w.heap.size 6 A1 l1.length (l1.flatMap u16V6)) (o1 : ∀ a ∈ l1, u16ok6 a) (g1 : l1.length ≤ maxLen) (r2 : Rd w w.heap.size 1 A2 l2.length (l2.flatMap u16W)) (o2 : ∀ a ∈ l2, u16b a) (g2 : l2.length ≤ maxLen) (b3 : 0 ≤ x3 ∧ x3 ≤ 65535) :
    Calls Tryz.prog 3 #[.slice A1 l1.length c1, .slice A2 l2.length c2, .int .u16 x3] w fun e w' => e = .returned (.bool true) ∧ Below w.heap.size w w' := by
  obtain ⟨n, rfl⟩ : ∃ n : Nat, x3 = (n : Int) := ⟨x3.toNat, by omega⟩
  exact topSecuredLaw A1 c1 l1 A2 c2 l2 n w hT r1 o1 g1 r2 o2 g2 (by omega)

end Go.Proofs.YtjlicnhkemfmiaaGreatDoor

/- insolvencylaw35.CodecEdges. -/
import Derived.Test.YtcljkdjmmolfoaaDoorM11
import Derived.Test.YtcljkdjmmolfoaaDoorM9
set_option linter.unusedVariables false
set_option linter.unusedSimpArgs false
namespace Go.Proofs.YtcljkdjmmolfoaaDoor
open Go.RowKit

def EdgeN (x : Int) (s13 : Value) (w wx : World) : Prop := ∃ z : Int, s13 = .int .i64 z ∧ -1125899906842626 ≤ z ∧ z ≤ 1125899906842626 ∧ w = wx
theorem tmod3 (x : Int) : -2 ≤ x.tmod 3 ∧ x.tmod 3 ≤ 2 := by
  have h : (x.tmod 3).natAbs = x.natAbs % 3 := by rw [Int.natAbs_tmod]; rfl
  have : x.natAbs % 3 < 3 := Nat.mod_lt _ (by decide)
  omega
theorem edge_n (x : Int) : -1125899906842626 ≤ wrap64 (1125899906842624 + wrap64 (x.tmod 3)) ∧ wrap64 (1125899906842624 + wrap64 (x.tmod 3)) ≤ 1125899906842626 := by
  have := tmod3 x
  unfold wrap64
  omega
theorem edge_m (x : Int) : -1125899906842626 ≤ wrap64 (-wrap64 (1125899906842624 + wrap64 (x.tmod 3))) ∧ wrap64 (-wrap64 (1125899906842624 + wrap64 (x.tmod 3))) ≤ 1125899906842626 := by
  have := tmod3 x
  unfold wrap64
  omega
/-- a block that holds the elements of a slice -/
theorem rd_block {w : World} {g S n : Nat} {cur : Array Value} {T : TypeId} {xs : List Value} (h : w.heap[g]? = some (.cells cur T (0, 0))) (hx : cur.toList = xs) (hn : xs.length = n * S) : Rd w w.heap.size S (some ⟨g, 0, none⟩) n xs := by
  refine ⟨hn, fun _ => ⟨g, 0, rfl, (Array.getElem?_eq_some_iff.1 h).1, fun j u hu => ?_⟩⟩
  rw [Nat.zero_add, cell_of_row w g j cur T (0, 0) h, ← hu, ← hx]
  simp
theorem made_flat {α : Type} (en : α → List Value) (S : Nat) (hS : ∀ x, (en x).length = S) (h0 : 0 < S) (x : α) (n : Nat) : (madeCells (en x).toArray (n * S)).toList = (List.replicate n x).flatMap en := by
  apply List.ext_getElem?
  intro j
  by_cases hj : j < n * S
  · have hk : j / S < n := Nat.div_lt_of_lt_mul (by rw [Nat.mul_comm]; exact hj)
    have hm := Nat.mod_lt j h0
    have hjj : j / S * S + j % S = j := by rw [Nat.mul_comm]; exact Nat.div_add_mod j S
    have h1 := flat_get en S hS (List.replicate n x) (j / S) (j % S) x (by simp [hk]) hm
    rw [hjj] at h1
    rw [h1]
    have hml : j % S < (en x).length := by rw [hS]; exact hm
    simp only [madeCells, Array.getElem?_toList]
    rw [Array.getElem?_map, Array.getElem?_range, if_pos hj]
    simp only [Option.map_some, List.size_toArray, hS]
    rw [List.getElem?_eq_getElem hml]
    simp [hml]
  · have h2 := flat_len en S hS (List.replicate n x)
    rw [List.length_replicate] at h2
    rw [List.getElem?_eq_none (by rw [Array.length_toList, size_madeCells]; omega), List.getElem?_eq_none (by rw [h2]; omega)]
def q0 : RQ := ⟨false, ⟨#[]⟩, ⟨#[]⟩⟩
theorem i64s_edge (z1 z2 z3 z4 z5 z6 : Int) (h1 : -1125899906842626 ≤ z1 ∧ z1 ≤ 1125899906842626) (h2 : -1125899906842626 ≤ z2 ∧ z2 ≤ 1125899906842626) (h3 : -1125899906842626 ≤ z3 ∧ z3 ≤ 1125899906842626) (h4 : -1125899906842626 ≤ z4 ∧ z4 ≤ 1125899906842626) (h5 : -1125899906842626 ≤ z5 ∧ z5 ≤ 1125899906842626) (h6 : -1125899906842626 ≤ z6 ∧ z6 ≤ 1125899906842626) : i64s [z1, z2, z3, z4, z5, z6] := by
  intro z hz
  simp at hz
  rcases hz with rfl | rfl | rfl | rfl | rfl | rfl <;> omega
theorem fit_edge (z1 z2 z3 z4 z5 z6 : Int) (as_ : ByteArray) (A1 : Option Addr) (n1 c1 : Nat) (A2 : Option Addr) (n2 c2 : Nat) (A3 : Option Addr) (n3 c3 : Nat) (legs : List (Int × Int)) (opts : List (RQ × Int)) (pays : List Pay) (w : World)
    (h1 : -1125899906842626 ≤ z1 ∧ z1 ≤ 1125899906842626) (h2 : -1125899906842626 ≤ z2 ∧ z2 ≤ 1125899906842626) (h3 : -1125899906842626 ≤ z3 ∧ z3 ≤ 1125899906842626) (h4 : -1125899906842626 ≤ z4 ∧ z4 ≤ 1125899906842626) (h5 : -1125899906842626 ≤ z5 ∧ z5 ≤ 1125899906842626) (h6 : -1125899906842626 ≤ z6 ∧ z6 ≤ 1125899906842626)
    (ha : as_.size ≤ 5000) (e1 : n1 = legs.length) (e2 : n2 = opts.length) (e3 : n3 = pays.length)
    (r1 : Rd w w.heap.size 2 A1 legs.length (legs.flatMap legV)) (o1 : ∀ p ∈ legs, i64b p.1 ∧ i64b p.2)
    (r2 : Rd w w.heap.size 4 A2 opts.length (opts.flatMap optV)) (o2 : ∀ p ∈ opts, (p.1.num.size ≤ 5000 ∧ p.1.den.size ≤ 5000) ∧ i64b p.2)
    (r3 : Rd w w.heap.size 4 A3 pays.length (pays.flatMap payV)) (o3 : ∀ p ∈ pays, i64b p.debt ∧ i64b p.estate ∧ i64b p.claim ∧ i64b p.cents)
    (g1 : n1 ≤ 1000) (g2 : n2 ≤ 1000) (g3 : n3 ≤ 1000) : RecFit z1 z2 z3 z4 z5 z6 false as_ ⟨#[]⟩ false ⟨#[]⟩ ⟨#[]⟩ A1 n1 c1 A2 n2 c2 A3 n3 c3 legs opts pays w := by
  have hm : (1000 : Nat) ≤ maxLen := by unfold maxLen; omega
  exact ⟨i64s_edge _ _ _ _ _ _ h1 h2 h3 h4 h5 h6, ⟨ha, by decide⟩, ⟨by decide, by decide⟩, e1, e2, e3, r1, o1, r2, o2, r3, o3, Nat.le_trans g1 hm, Nat.le_trans g2 hm, Nat.le_trans g3 hm⟩
theorem zero_edge : (-1125899906842626 : Int) ≤ 0 ∧ (0 : Int) ≤ 1125899906842626 := by decide
theorem i64b_edge {z : Int} (h : -1125899906842626 ≤ z ∧ z ≤ 1125899906842626) : i64b z := by unfold i64b; omega
theorem no_mem {α : Type} {P : α → Prop} : ∀ p ∈ ([] : List α), P p := fun _ h => by cases h
theorem mem_one {α : Type} {P : α → Prop} {x : α} (h : P x) : ∀ p ∈ [x], P p := fun p hp => by rw [List.mem_singleton.1 hp]; exact h
theorem mem_rep {α : Type} {P : α → Prop} {x : α} {n : Nat} (h : P x) : ∀ p ∈ List.replicate n x, P p := fun p hp => by rw [(List.mem_replicate.1 hp).2]; exact h
def leg0 : Int × Int := (0, 0)
def opt0 : RQ × Int := (q0, 0)
def pay0 : Pay := ⟨0, 0, 0, 0⟩
theorem Tryd.info_leg : (Tryd.prog.info? 49).map (fun i => (i.zero, i.size, i.bytes)) = some (some (.agg #[.int .i64 0, .int .i64 0]), 2, 16) := by kernel_rfl
theorem cells_leg : (Value.agg #[.int .i64 0, .int .i64 0]).cells = (legV leg0).toArray := by kernel_rfl
theorem Tryd.info_opt : (Tryd.prog.info? 51).map (fun i => (i.zero, i.size, i.bytes)) = some (some (.agg #[.bool false, .string ⟨#[]⟩, .string ⟨#[]⟩, .int .i64 0]), 4, 48) := by kernel_rfl
theorem cells_opt : (Value.agg #[.bool false, .string ⟨#[]⟩, .string ⟨#[]⟩, .int .i64 0]).cells = (optV opt0).toArray := by kernel_rfl
theorem Tryd.info_pay : (Tryd.prog.info? 55).map (fun i => (i.zero, i.size, i.bytes)) = some (some (.agg #[.int .i64 0, .int .i64 0, .int .i64 0, .int .i64 0]), 4, 32) := by kernel_rfl
theorem cells_pay : (Value.agg #[.int .i64 0, .int .i64 0, .int .i64 0, .int .i64 0]).cells = (payV pay0).toArray := by kernel_rfl
theorem make_legs (m : Nat) (hm : m ≤ 1000) (W : World) : (Instr.makeSlice 31 (.int .i64 (m : Int)) (.int .i64 (m : Int))).run Tryd.prog W = .ok (.slice (some ⟨W.heap.size, 0, none⟩) m m) (W.alloc (.cells (madeCells (legV leg0).toArray (m * 2)) 49)) := by
  obtain ⟨i, hi, hz, hs, hb⟩ := info_parts Tryd.info_leg
  have hc := cells_leg
  have := run_make (P := Tryd.prog) W 31 49 i _ Tryd.underlying31 hi hz .i64 .i64 m m (by omega) (Int.le_refl _) (by rw [hb]; omega) (by omega)
  simp only [Int.toNat_natCast, hs, hc] at this
  exact this
theorem make_opts (m : Nat) (hm : m ≤ 1000) (W : World) : (Instr.makeSlice 32 (.int .i64 (m : Int)) (.int .i64 (m : Int))).run Tryd.prog W = .ok (.slice (some ⟨W.heap.size, 0, none⟩) m m) (W.alloc (.cells (madeCells (optV opt0).toArray (m * 4)) 51)) := by
  obtain ⟨i, hi, hz, hs, hb⟩ := info_parts Tryd.info_opt
  have hc := cells_opt
  have := run_make (P := Tryd.prog) W 32 51 i _ Tryd.underlying32 hi hz .i64 .i64 m m (by omega) (Int.le_refl _) (by rw [hb]; omega) (by omega)
  simp only [Int.toNat_natCast, hs, hc] at this
  exact this
theorem make_pays (m : Nat) (hm : m ≤ 1000) (W : World) : (Instr.makeSlice 35 (.int .i64 (m : Int)) (.int .i64 (m : Int))).run Tryd.prog W = .ok (.slice (some ⟨W.heap.size, 0, none⟩) m m) (W.alloc (.cells (madeCells (payV pay0).toArray (m * 4)) 55)) := by
  obtain ⟨i, hi, hz, hs, hb⟩ := info_parts Tryd.info_pay
  have hc := cells_pay
  have := run_make (P := Tryd.prog) W 35 55 i _ Tryd.underlying35 hi hz .i64 .i64 m m (by omega) (Int.le_refl _) (by rw [hb]; omega) (by omega)
  simp only [Int.toNat_natCast, hs, hc] at this
  exact this

end Go.Proofs.YtcljkdjmmolfoaaDoor

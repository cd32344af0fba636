/- Slices of uint32 and of bytes in memory: read, owned and written. -/
import Derived.Test.YtcljkdjmmolfoaaDoorLib
import Derived.Test.YtcljkdjmmolfoaaDoorRows
import Derived.Test.YtcljkdjmmolfoaaDoorNumOps
import Derived.Laws.Rows
import Derived.Lib.TrimByte
set_option linter.unusedVariables false
set_option linter.unusedSimpArgs false
namespace Go.Proofs.YtcljkdjmmolfoaaDoor
open Go.RowKit

/-- a slice's elements of an integer kind -/
def KRd (k : IntKind) (w : World) (B : Nat) (A : Option Addr) (l : List Nat) : Prop := Rd w B 1 A l.length (l.map fun (x : Nat) => Value.int k (x : Int))

section
variable {k : IntKind} {w w' : World} {B B' : Nat} {A : Option Addr} {l : List Nat}

theorem KRd.nil : KRd k w B A [] := Rd.nil
theorem KRd.below (h : KRd k w B A l) (hb : Below B w w') : KRd k w' B A l := Rd.below h hb
theorem KRd.next (h : KRd k w w.heap.size A l) (hb : Below w.heap.size w w') : KRd k w' w'.heap.size A l := Rd.next h hb
theorem KRd.more (h : KRd k w B A l) (hB : B ≤ B') : KRd k w B' A l := Rd.more h hB
theorem KRd.upTo (h : KRd k w B A l) (hb : Below B w w') (hs : B ≤ w'.heap.size) : KRd k w' w'.heap.size A l := (h.below hb).more hs

theorem KRd.open_ (h : KRd k w B A l) (hl : 0 < l.length) : ∃ b off, A = some ⟨b, off, none⟩ ∧ b < B ∧ ∀ (j x : Nat), l[j]? = some x → w.cell? ⟨b, off + j, none⟩ = some (.int k (x : Int)) := by
  obtain ⟨b, off, e, hb, hc⟩ := h.2 hl
  exact ⟨b, off, e, hb, fun j x hj => hc j _ (by simp [hj])⟩

theorem KRd.at_ (h : KRd k w B A l) {j x : Nat} (hj : l[j]? = some x) : ∃ b off, A = some ⟨b, off, none⟩ ∧ b < B ∧ w.cell? ⟨b, off + j, none⟩ = some (.int k (x : Int)) := by
  obtain ⟨b, off, e, hb, hc⟩ := h.open_ (by have := (List.getElem?_eq_some_iff.1 hj).1; omega)
  exact ⟨b, off, e, hb, hc j x hj⟩

theorem KRd.mk_ {b off : Nat} (hb : b < B) (h : ∀ (j x : Nat), l[j]? = some x → w.cell? ⟨b, off + j, none⟩ = some (.int k (x : Int))) : KRd k w B (some ⟨b, off, none⟩) l := by
  refine ⟨by simp, fun _ => ⟨b, off, rfl, hb, fun j u hu => ?_⟩⟩
  rw [List.getElem?_map] at hu
  rcases hj : l[j]? with _ | x
  · rw [hj] at hu; simp at hu
  · rw [hj] at hu
    simp only [Option.map_some, Option.some.injEq] at hu
    subst hu
    exact h j x hj

theorem KRd.take (h : KRd k w B A l) (n : Nat) : KRd k w B A (l.take n) := by
  by_cases hl : 0 < l.length
  · obtain ⟨b, off, rfl, hb, hc⟩ := h.open_ hl
    refine KRd.mk_ hb fun j x hj => hc j x ?_
    rw [List.getElem?_take] at hj
    split at hj
    · exact hj
    · simp at hj
  · obtain rfl : l = [] := List.eq_nil_of_length_eq_zero (by omega)
    simpa using h

theorem KRd.drop {b off : Nat} (h : KRd k w B (some ⟨b, off, none⟩) l) (n : Nat) : KRd k w B (some ⟨b, off + n, none⟩) (l.drop n) := by
  by_cases hl : 0 < l.length
  · obtain ⟨b, off, e, hb, hc⟩ := h.open_ hl
    simp only [Option.some.injEq, Addr.mk.injEq, and_true] at e
    obtain ⟨rfl, rfl⟩ := e
    refine KRd.mk_ hb fun j x hj => ?_
    rw [List.getElem?_drop] at hj
    rw [Nat.add_assoc]
    exact hc _ x hj
  · obtain rfl : l = [] := List.eq_nil_of_length_eq_zero (by omega)
    simpa using KRd.nil
end

/-- a block of the call's own that holds elements of an integer kind (its type T) -/
def KRow (k : IntKind) (T : TypeId) (w : World) (g : Nat) (xs : List Nat) : Prop :=
  ∃ cur, w.heap[g]? = some (.cells cur T (0, 0)) ∧ cur.toList.take xs.length = xs.map (fun (x : Nat) => Value.int k (x : Int)) ∧ xs.length ≤ cur.size

section
variable {k : IntKind} {T : TypeId} {w w' : World} {g : Nat} {xs : List Nat}
theorem KRow.lt (h : KRow k T w g xs) : g < w.heap.size := by
  obtain ⟨cur, hg, _⟩ := h
  exact (Array.getElem?_eq_some_iff.1 hg).1
theorem KRow.cell (h : KRow k T w g xs) {j x : Nat} (hj : xs[j]? = some x) : w.cell? ⟨g, j, none⟩ = some (.int k (x : Int)) := by
  obtain ⟨cur, hg, ht, hl⟩ := h
  have hlt := (List.getElem?_eq_some_iff.1 hj).1
  rw [cell_of_row w g j cur _ (0, 0) hg]
  have : (xs.map (fun (x : Nat) => Value.int k (x : Int)))[j]? = some (.int k (x : Int)) := by simp [hj]
  rw [← ht, List.getElem?_take, if_pos hlt] at this
  simpa using this
theorem KRow.getD (h : KRow k T w g xs) {j : Nat} (hj : j < xs.length) : w.cell? ⟨g, j, none⟩ = some (.int k ((xs.getD j 0 : Nat) : Int)) :=
  h.cell (by simp [List.getD, List.getElem?_eq_getElem hj])
theorem KRow.frozen (h : KRow k T w g xs) (j : Nat) : w.frozen? ⟨g, j, none⟩ = false := by
  obtain ⟨cur, hg, _⟩ := h
  exact frozen_of_row w g j cur _ hg
theorem KRow.set_ (h : KRow k T w g xs) (j v : Nat) : KRow k T (w.setCell ⟨g, j, none⟩ (.int k (v : Int))) g (xs.set j v) := by
  obtain ⟨cur, hg, ht, hl⟩ := h
  refine ⟨cur.setIfInBounds j (.int k (v : Int)), heap_setCell_same w g j cur _ _ hg, ?_, by simpa using hl⟩
  rw [Array.toList_setIfInBounds, List.length_set, List.map_set, ← ht, List.take_set]
theorem KRow.same (h : KRow k T w g xs) (hb : w'.heap[g]? = w.heap[g]?) : KRow k T w' g xs := by
  obtain ⟨cur, hg, r⟩ := h
  exact ⟨cur, hb.trans hg, r⟩
theorem KRow.other (h : KRow k T w g xs) {a : Addr} (ha : g ≠ a.block) (u : Value) : KRow k T (w.setCell a u) g xs := h.same (heap_setCell_other w a g u ha)
theorem KRow.alloc (h : KRow k T w g xs) (o : Obj) : KRow k T (w.alloc o) g xs := h.same (Below.heap_alloc w o g h.lt)
theorem KRow.drew (h : KRow k T w g xs) : KRow k T w.drew g xs := h
theorem KRow.drewN (h : KRow k T w g xs) (n : Nat) : KRow k T (w.drewN n) g xs := h
theorem KRow.below {B : Nat} (h : KRow k T w g xs) (hb : Below B w w') (hg : g < B) : KRow k T w' g xs := h.same (hb.block g hg)
theorem KRow.next (h : KRow k T w g xs) (hb : Below w.heap.size w w') : KRow k T w' g xs := h.below hb h.lt
theorem KRow.rd (h : KRow k T w g xs) : KRd k w w.heap.size (some ⟨g, 0, none⟩) xs :=
  KRd.mk_ h.lt fun j x hj => by rw [Nat.zero_add]; exact h.cell hj
theorem KRow.cast {ys : List Nat} (h : KRow k T w g xs) (e : xs = ys) : KRow k T w g ys := e ▸ h
theorem KRow.take (h : KRow k T w g xs) (n : Nat) : KRow k T w g (xs.take n) := by
  obtain ⟨cur, hg, ht, hl⟩ := h
  refine ⟨cur, hg, ?_, by rw [List.length_take]; omega⟩
  rw [List.length_take, List.map_take, ← ht, List.take_take]

theorem KRow.made (w : World) (n N : Nat) (hN : N = w.heap.size) : KRow k T (w.alloc (.cells (madeCells #[.int k 0] n) T)) N (List.replicate n 0) := by
  subst hN
  refine ⟨_, heap_alloc_new _ _, ?_, by simp [size_madeCells]⟩
  rw [toList_madeCells_one, List.map_replicate, List.length_replicate, List.take_of_length_le (by simp)]
  rfl

theorem KRow.of_own {base n cap : Nat} (h : w.ownsRow base T 1 (.slice (some ⟨g, 0, none⟩) n cap) n (xs.map fun (x : Nat) => Value.int k (x : Int))) : KRow k T w g xs := by
  have hl : xs.length = n := by simpa using h.1
  rcases h.2 with ⟨h', _⟩ | ⟨g', cap', cur, h', _, hg, hnc, _, hcs, htake⟩
  · simp at h'
  · simp only [Value.slice.injEq, Option.some.injEq, Addr.mk.injEq, and_true, true_and] at h'
    obtain ⟨rfl, rfl⟩ := h'
    exact ⟨cur, hg, by rw [hl]; simpa using htake, by omega⟩

theorem KRd.of_own {base c n : Nat} {A : Option Addr} (h : w.ownsRow base T 1 (.slice A n c) n (xs.map fun (x : Nat) => Value.int k (x : Int))) : KRd k w w.heap.size A xs := by
  have hl : xs.length = n := by simpa using h.1
  subst hl
  exact Rd.of_own h
end

theorem Tryd.info_u32 : (Tryd.prog.info? 25).map (fun i => (i.zero, i.size, i.bytes)) = some (some (.int .u32 0), 1, 4) := by kernel_rfl
theorem Tryd.info_u8 : (Tryd.prog.info? 5).map (fun i => (i.zero, i.size, i.bytes)) = some (some (.int .u8 0), 1, 1) := by kernel_rfl

theorem getElem?_getD {l : List Nat} {k : Nat} (h : k < l.length) : l[k]? = some (l.getD k 0) := by simp [List.getD, List.getElem?_eq_getElem h]

theorem KRd.limbs {k : IntKind} {w : World} {B : Nat} {A : Option Addr} {l : List Nat} {n : Nat} (h : KRd k w B A l) (hd : Dig l) (hn : valL l = n) : KRd k w B A (limbs n) := by
  subst hn
  have := h.take (Go.Proofs.YtcljkdjmmolfoaaDoor.limbs (valL l)).length
  rwa [(take_limbs hd).1] at this
theorem KRow.setI {k : IntKind} {T : TypeId} {w : World} {g : Nat} {xs ys : List Nat} (h : KRow k T w g xs) (j v : Nat) {x : Int} (hx : x = (v : Int)) (hy : xs.set j v = ys) : KRow k T (w.setCell ⟨g, j, none⟩ (.int k x)) g ys := by
  subst hx hy; exact h.set_ j v

/-! ### bits -/
theorem or_add (a b s q : Nat) (ha : a < 2 ^ s) (hb : b = 2 ^ s * q) : a ||| b = a + b := by
  subst hb
  rw [Nat.or_comm, ← Nat.two_pow_add_eq_or_of_lt ha]; omega

theorem bits_or (k : IntKind) (n : Nat) (hk : k.bits = n) (hs : k.signed = false) (a b : Nat) (ha : a < 2 ^ n) (hb : b < 2 ^ n) : bits .or k (a : Int) (b : Int) = ((a ||| b : Nat) : Int) := by
  subst hk
  have hab : a ||| b < 2 ^ k.bits := Nat.or_lt_two_pow ha hb
  simp only [bits, BitVec.toNat_or, BitVec.toNat_ofInt]
  have e1 : ((a : Int) % ((2 ^ k.bits : Nat) : Int)).toNat = a := by
    rw [← Int.natCast_emod, Int.toNat_natCast, Nat.mod_eq_of_lt ha]
  have e2 : ((b : Int) % ((2 ^ k.bits : Nat) : Int)).toNat = b := by
    rw [← Int.natCast_emod, Int.toNat_natCast, Nat.mod_eq_of_lt hb]
  rw [e1, e2]
  simp only [IntKind.wrap, hs]
  simp
  exact Int.emod_eq_of_lt (by omega) (by exact_mod_cast hab)

theorem or_u32 (a b s q : Nat) (ha : a < 2 ^ s) (hb : b = 2 ^ s * q) (h : a + b < 4294967296) : bits .or .u32 (a : Int) (b : Int) = ((a + b : Nat) : Int) := by
  rw [bits_or .u32 32 rfl rfl a b (by omega) (by omega), or_add a b s q ha hb]
theorem or_u64 (a b s q : Nat) (ha : a < 2 ^ s) (hb : b = 2 ^ s * q) (h : a + b < 18446744073709551616) : bits .or .u64 (a : Int) (b : Int) = ((a + b : Nat) : Int) := by
  rw [bits_or .u64 64 rfl rfl a b (by omega) (by omega), or_add a b s q ha hb]
theorem or_u32' (a b s q : Nat) (ha : a < 2 ^ s) (hb : b = 2 ^ s * q) (h : a + b < 4294967296) : bits .or .u32 (b : Int) (a : Int) = ((b + a : Nat) : Int) := by
  rw [bits_or .u32 32 rfl rfl b a (by omega) (by omega), Nat.or_comm, or_add a b s q ha hb, Nat.add_comm]
theorem or_u64' (a b s q : Nat) (ha : a < 2 ^ s) (hb : b = 2 ^ s * q) (h : a + b < 18446744073709551616) : bits .or .u64 (b : Int) (a : Int) = ((b + a : Nat) : Int) := by
  rw [bits_or .u64 64 rfl rfl b a (by omega) (by omega), Nat.or_comm, or_add a b s q ha hb, Nat.add_comm]

/-- bytes as a string -/
def bstr (l : List UInt8) : ByteArray := ⟨l.toArray⟩
theorem bstr_toList (l : List UInt8) : (bstr l).data.toList = l := rfl
theorem bstr_size (l : List UInt8) : (bstr l).size = l.length := by simp [bstr, ByteArray.size]
theorem bstr_data (s : ByteArray) : bstr s.data.toList = s := rfl
/-- the number of a string -/
def snum (s : ByteArray) : Nat := num s.data.toList
/-- the string of a number -/
def ncan (n : Nat) : ByteArray := bstr (canon n)
theorem snum_ncan (n : Nat) : snum (ncan n) = n := num_canon n

end Go.Proofs.YtcljkdjmmolfoaaDoor

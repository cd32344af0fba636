/- Merged of Lib Mem Norm Parse Rat. -/
import Derived.WalkKit
import Derived.WalkSpells
import Derived.WalkLawsBesides
import Derived.Lib.Hide
import Derived.Deep.AppendLies
import Derived.Deep.Draws
import Derived.Test.YtjlicnhkemfmiaaGreatDoorRows
import Derived.Test.YtjlicnhkemfmiaaGreatDoorM1
import Derived.Laws.Rows
import Derived.Lib.TrimByte
import Derived.StillTailTactics
import Derived.Deep.OwnRows
import Derived.BigQuiet
import Derived.Deep.QuietTactic
/- Small laws on worlds, slices that are read, owned rows. Nothing of the program. -/
set_option linter.unusedVariables false
set_option linter.unusedSimpArgs false
namespace Go.Proofs.YtjlicnhkemfmiaaGreatDoor
open Go.RowKit

/-- a slice value's address A, its n elements of S cells each read as xs; it lies below block B -/
def Rd (w : World) (B S : Nat) (A : Option Addr) (n : Nat) (xs : List Value) : Prop :=
 xs.length = n * S ∧ (0 < n → ∃ b off, A = some ⟨b, off, none⟩ ∧ b < B ∧ ∀ j u, xs[j]? = some u → w.cell? ⟨b, off + j, none⟩ = some u)

section
variable {w w' : World} {B B' S n : Nat} {A : Option Addr} {xs : List Value}

theorem Rd.nil : Rd w B S A 0 [] := ⟨by simp, fun h => absurd h (by omega)⟩

theorem Rd.keep (h : Rd w B S A n xs) (hk : ∀ p : Addr, p.block < B → w'.cell? p = w.cell? p) : Rd w' B S A n xs :=
 ⟨h.1, fun hn => by
  obtain ⟨b, off, e, hb, hc⟩ := h.2 hn
  exact ⟨b, off, e, hb, fun j u hu => (hk _ hb).trans (hc j u hu)⟩⟩

theorem Rd.more (h : Rd w B S A n xs) (hB : B ≤ B') : Rd w B' S A n xs :=
 ⟨h.1, fun hn => by
  obtain ⟨b, off, e, hb, hc⟩ := h.2 hn
  exact ⟨b, off, e, by omega, hc⟩⟩

theorem Rd.below (h : Rd w B S A n xs) (hb : Below B w w') : Rd w' B S A n xs := h.keep fun _ hp => hb.cell hp

theorem Rd.next (h : Rd w w.heap.size S A n xs) (hb : Below w.heap.size w w') : Rd w' w'.heap.size S A n xs :=
 (h.below hb).more hb.size

theorem Rd.of_own {base : Nat} {e : TypeId} {c : Nat} (h : w.ownsRow base e S (.slice A n c) n xs) : Rd w w.heap.size S A n xs := by
 refine ⟨h.1, fun hn => ?_⟩
 obtain ⟨g, cap, hv, _, hlt⟩ := h.form hn
 have hA : A = some ⟨g, 0, none⟩ := by injection hv
 subst hA
 refine ⟨g, 0, rfl, hlt, fun j u hu => ?_⟩
 have := h.cells (g := g) rfl j u hu
 rw [Addr.add_lit] at this
 exact this
end

theorem own_shape {w : World} {base : Nat} {e : TypeId} {S n : Nat} {v : Value} {xs : List Value} (h : w.ownsRow base e S v n xs) :
 ∃ A c, v = .slice A n c ∧ Rd w w.heap.size S A n xs ∧ n ≤ c := by
 rcases h.2 with ⟨rfl, rfl⟩ | ⟨g, cap, cur, rfl, _, _, hle, _⟩
 ·
  exact ⟨none, 0, rfl, by have := h.1; simp at this; subst this; exact Rd.nil, Nat.le_refl _⟩
 ·
  exact ⟨_, _, rfl, Rd.of_own h, hle⟩

theorem flat_get {α : Type} (enc : α → List Value) (S : Nat) (hS : ∀ x, (enc x).length = S) : ∀ (l : List α) (k j : Nat) (x : α), l[k]? = some x → j < S → (l.flatMap enc)[k * S + j]? = (enc x)[j]?
 | [], k, j, x, h, _ => by simp at h
 | y :: l, 0, j, x, h, hj => by
  simp at h; subst h
  rw [List.flatMap_cons, List.getElem?_append_left (by rw [hS]; omega)]
  simp
 | y :: l, k + 1, j, x, h, hj => by
  rw [List.flatMap_cons, List.getElem?_append_right (by rw [hS]; have : (k+1) * S = k * S + S := Nat.succ_mul k S; omega), hS]
  have e : (k + 1) * S + j - S = k * S + j := by have : (k+1) * S = k * S + S := Nat.succ_mul k S; omega
  rw [e]
  exact flat_get enc S hS l k j x (by simpa using h) hj

theorem flat_len {α : Type} (enc : α → List Value) (S : Nat) (hS : ∀ x, (enc x).length = S) (l : List α) : (l.flatMap enc).length = l.length * S := by
 induction l with
 | nil => simp
 | cons x l ih => rw [List.flatMap_cons, List.length_append, hS, ih, List.length_cons, Nat.succ_mul]; omega

/-- the cell j of element k -/
theorem Rd.at_ {α : Type} {w : World} {B S : Nat} {A : Option Addr} {l : List α} {enc : α → List Value} (hS : ∀ x, (enc x).length = S) (h : Rd w B S A l.length (l.flatMap enc)) {k : Nat} {x : α} (hk : l[k]? = some x) :
 ∃ b off, A = some ⟨b, off, none⟩ ∧ b < B ∧ ∀ j u, (enc x)[j]? = some u → w.cell? ⟨b, off + (k * S + j), none⟩ = some u := by
 have hlt : k < l.length := (List.getElem?_eq_some_iff.1 hk).1
 obtain ⟨b, off, e, hb, hc⟩ := h.2 (by omega)
 refine ⟨b, off, e, hb, fun j u hu => hc _ u ?_⟩
 have hj : j < S := by have := (List.getElem?_eq_some_iff.1 hu).1; rw [hS] at this; exact this
 rw [flat_get enc S hS l k j x hk hj]
 exact hu

theorem take_foldl {α β : Type} (f : β → α → β) (b : β) (l : List α) (k : Nat) (x : α) (h : l[k]? = some x) : (l.take (k + 1)).foldl f b = f ((l.take k).foldl f b) x := by
 rw [List.take_add_one, h]
 simp

theorem getElem?_of_lt {α : Type} {l : List α} {k : Nat} (h : k < l.length) : ∃ x, l[k]? = some x := ⟨_, List.getElem?_eq_getElem h⟩

theorem _root_.Go.RowKit.Below.drewN {B : Nat} {a w : World} (h : Below B a w) (n : Nat) : Below B a (w.drewN n) := ⟨h.os, h.tape, h.output, h.size, h.block⟩

theorem ret_int {k : IntKind} {a b : Int} (h : a = b) : Ending.returned (.int k a) = .returned (.int k b) := by rw [h]
end Go.Proofs.YtjlicnhkemfmiaaGreatDoor

/- Slices of uint32 and of bytes in memory: read, owned and written. -/
namespace Go.Proofs.YtjlicnhkemfmiaaGreatDoor
open Go.RowKit

/-- a slice's elements of an integer kind -/
def KRd (k : IntKind) (w : World) (B : Nat) (A : Option Addr) (l : List Nat) : Prop := Rd w B 1 A l.length (l.map fun (x : Nat) => Value.int k (x : Int))

section
variable {k : IntKind} {w w' : World} {B B' : Nat} {A : Option Addr} {l : List Nat}

theorem KRd.nil : KRd k w B A [] := Rd.nil
theorem KRd.below (h : KRd k w B A l) (hb : Below B w w') : KRd k w' B A l := Rd.below h hb
theorem KRd.next (h : KRd k w w.heap.size A l) (hb : Below w.heap.size w w') : KRd k w' w'.heap.size A l := Rd.next h hb
theorem KRd.more (h : KRd k w B A l) (hB : B ≤ B') : KRd k w B' A l := Rd.more h hB
theorem KRd.upTo (h : KRd k w B A l) (hb : Below B w w') (hs : B ≤ w'.heap.size) : KRd k w' w'.heap.size A l := (h.below hb).more hs

theorem KRd.open_ (h : KRd k w B A l) (hl : 0 < l.length) : ∃ b off, A = some ⟨b, off, none⟩ ∧ b < B ∧ ∀ (j x : Nat), l[j]? = some x → w.cell? ⟨b, off + j, none⟩ = some (.int k (x : Int)) := by
 obtain ⟨b, off, e, hb, hc⟩ := h.2 hl
 exact ⟨b, off, e, hb, fun j x hj => hc j _ (by simp [hj])⟩

theorem KRd.at_ (h : KRd k w B A l) {j x : Nat} (hj : l[j]? = some x) : ∃ b off, A = some ⟨b, off, none⟩ ∧ b < B ∧ w.cell? ⟨b, off + j, none⟩ = some (.int k (x : Int)) := by
 obtain ⟨b, off, e, hb, hc⟩ := h.open_ (by have := (List.getElem?_eq_some_iff.1 hj).1; omega)
 exact ⟨b, off, e, hb, hc j x hj⟩

theorem KRd.mk_ {b off : Nat} (hb : b < B) (h : ∀ (j x : Nat), l[j]? = some x → w.cell? ⟨b, off + j, none⟩ = some (.int k (x : Int))) : KRd k w B (some ⟨b, off, none⟩) l := by
 refine ⟨by simp, fun _ => ⟨b, off, rfl, hb, fun j u hu => ?_⟩⟩
 rw [List.getElem?_map] at hu
 rcases hj : l[j]? with _ | x
 ·
  rw [hj] at hu; simp at hu
 ·
  rw [hj] at hu
  simp only [Option.map_some, Option.some.injEq] at hu
  subst hu
  exact h j x hj

theorem KRd.take (h : KRd k w B A l) (n : Nat) : KRd k w B A (l.take n) := by
 by_cases hl : 0 < l.length
 ·
  obtain ⟨b, off, rfl, hb, hc⟩ := h.open_ hl
  refine KRd.mk_ hb fun j x hj => hc j x ?_
  rw [List.getElem?_take] at hj
  split at hj
  ·
   exact hj
  ·
   simp at hj
 ·
  obtain rfl : l = [] := List.eq_nil_of_length_eq_zero (by omega)
  simpa using h

theorem KRd.drop {b off : Nat} (h : KRd k w B (some ⟨b, off, none⟩) l) (n : Nat) : KRd k w B (some ⟨b, off + n, none⟩) (l.drop n) := by
 by_cases hl : 0 < l.length
 ·
  obtain ⟨b, off, e, hb, hc⟩ := h.open_ hl
  simp only [Option.some.injEq, Addr.mk.injEq, and_true] at e
  obtain ⟨rfl, rfl⟩ := e
  refine KRd.mk_ hb fun j x hj => ?_
  rw [List.getElem?_drop] at hj
  rw [Nat.add_assoc]
  exact hc _ x hj
 ·
  obtain rfl : l = [] := List.eq_nil_of_length_eq_zero (by omega)
  simpa using KRd.nil
end

/-- a block of the call's own that holds elements of an integer kind (its type T) -/
def KRow (k : IntKind) (T : TypeId) (w : World) (g : Nat) (xs : List Nat) : Prop :=
 ∃ cur, w.heap[g]? = some (.cells cur T (0, 0)) ∧ cur.toList.take xs.length = xs.map (fun (x : Nat) => Value.int k (x : Int)) ∧ xs.length ≤ cur.size

section
variable {k : IntKind} {T : TypeId} {w w' : World} {g : Nat} {xs : List Nat}
theorem KRow.lt (h : KRow k T w g xs) : g < w.heap.size := by
 obtain ⟨cur, hg, _⟩ := h
 exact (Array.getElem?_eq_some_iff.1 hg).1
theorem KRow.cell (h : KRow k T w g xs) {j x : Nat} (hj : xs[j]? = some x) : w.cell? ⟨g, j, none⟩ = some (.int k (x : Int)) := by
 obtain ⟨cur, hg, ht, hl⟩ := h
 have hlt := (List.getElem?_eq_some_iff.1 hj).1
 rw [cell_of_row w g j cur _ (0, 0) hg]
 have : (xs.map (fun (x : Nat) => Value.int k (x : Int)))[j]? = some (.int k (x : Int)) := by simp [hj]
 rw [← ht, List.getElem?_take, if_pos hlt] at this
 simpa using this
theorem KRow.getD (h : KRow k T w g xs) {j : Nat} (hj : j < xs.length) : w.cell? ⟨g, j, none⟩ = some (.int k ((xs.getD j 0 : Nat) : Int)) :=
 h.cell (by simp [List.getD, List.getElem?_eq_getElem hj])
theorem KRow.frozen (h : KRow k T w g xs) (j : Nat) : w.frozen? ⟨g, j, none⟩ = false := by
 obtain ⟨cur, hg, _⟩ := h
 exact frozen_of_row w g j cur _ hg
theorem KRow.set_ (h : KRow k T w g xs) (j v : Nat) : KRow k T (w.setCell ⟨g, j, none⟩ (.int k (v : Int))) g (xs.set j v) := by
 obtain ⟨cur, hg, ht, hl⟩ := h
 refine ⟨cur.setIfInBounds j (.int k (v : Int)), heap_setCell_same w g j cur _ _ hg, ?_, by simpa using hl⟩
 rw [Array.toList_setIfInBounds, List.length_set, List.map_set, ← ht, List.take_set]
theorem KRow.same (h : KRow k T w g xs) (hb : w'.heap[g]? = w.heap[g]?) : KRow k T w' g xs := by
 obtain ⟨cur, hg, r⟩ := h
 exact ⟨cur, hb.trans hg, r⟩
theorem KRow.other (h : KRow k T w g xs) {a : Addr} (ha : g ≠ a.block) (u : Value) : KRow k T (w.setCell a u) g xs := h.same (heap_setCell_other w a g u ha)
theorem KRow.alloc (h : KRow k T w g xs) (o : Obj) : KRow k T (w.alloc o) g xs := h.same (Below.heap_alloc w o g h.lt)
theorem KRow.drew (h : KRow k T w g xs) : KRow k T w.drew g xs := h
theorem KRow.drewN (h : KRow k T w g xs) (n : Nat) : KRow k T (w.drewN n) g xs := h
theorem KRow.below {B : Nat} (h : KRow k T w g xs) (hb : Below B w w') (hg : g < B) : KRow k T w' g xs := h.same (hb.block g hg)
theorem KRow.next (h : KRow k T w g xs) (hb : Below w.heap.size w w') : KRow k T w' g xs := h.below hb h.lt
theorem KRow.rd (h : KRow k T w g xs) : KRd k w w.heap.size (some ⟨g, 0, none⟩) xs :=
 KRd.mk_ h.lt fun j x hj => by rw [Nat.zero_add]; exact h.cell hj
theorem KRow.cast {ys : List Nat} (h : KRow k T w g xs) (e : xs = ys) : KRow k T w g ys := e ▸ h
theorem KRow.take (h : KRow k T w g xs) (n : Nat) : KRow k T w g (xs.take n) := by
 obtain ⟨cur, hg, ht, hl⟩ := h
 refine ⟨cur, hg, ?_, by rw [List.length_take]; omega⟩
 rw [List.length_take, List.map_take, ← ht, List.take_take]

theorem KRow.made (w : World) (n N : Nat) (hN : N = w.heap.size) : KRow k T (w.alloc (.cells (madeCells #[.int k 0] n) T)) N (List.replicate n 0) := by
 subst hN
 refine ⟨_, heap_alloc_new _ _, ?_, by simp [size_madeCells]⟩
 rw [toList_madeCells_one, List.map_replicate, List.length_replicate, List.take_of_length_le (by simp)]
 rfl

theorem KRd.of_own {base c n : Nat} {A : Option Addr} (h : w.ownsRow base T 1 (.slice A n c) n (xs.map fun (x : Nat) => Value.int k (x : Int))) : KRd k w w.heap.size A xs := by
 have hl : xs.length = n := by simpa using h.1
 subst hl
 exact Rd.of_own h
end

theorem Tryz.info_u32 : (Tryz.prog.info? 152).map (fun i => (i.zero, i.size, i.bytes)) = some (some (.int .u32 0), 1, 4) := by kernel_rfl
theorem Tryz.info_u8 : (Tryz.prog.info? 5).map (fun i => (i.zero, i.size, i.bytes)) = some (some (.int .u8 0), 1, 1) := by kernel_rfl

theorem getElem?_getD {l : List Nat} {k : Nat} (h : k < l.length) : l[k]? = some (l.getD k 0) := by simp [List.getD, List.getElem?_eq_getElem h]

theorem KRd.limbs {k : IntKind} {w : World} {B : Nat} {A : Option Addr} {l : List Nat} {n : Nat} (h : KRd k w B A l) (hd : Dig l) (hn : valL l = n) : KRd k w B A (limbs n) := by
 subst hn
 have := h.take (Go.Proofs.YtjlicnhkemfmiaaGreatDoor.limbs (valL l)).length
 rwa [(take_limbs hd).1] at this
theorem KRow.setI {k : IntKind} {T : TypeId} {w : World} {g : Nat} {xs ys : List Nat} (h : KRow k T w g xs) (j v : Nat) {x : Int} (hx : x = (v : Int)) (hy : xs.set j v = ys) : KRow k T (w.setCell ⟨g, j, none⟩ (.int k x)) g ys := by
 subst hx hy; exact h.set_ j v

/-! ### bits -/
theorem or_add (a b s q : Nat) (ha : a < 2 ^ s) (hb : b = 2 ^ s * q) : a ||| b = a + b := by
 subst hb
 rw [Nat.or_comm, ← Nat.two_pow_add_eq_or_of_lt ha]; omega

theorem bits_or (k : IntKind) (n : Nat) (hk : k.bits = n) (hs : k.signed = false) (a b : Nat) (ha : a < 2 ^ n) (hb : b < 2 ^ n) : bits .or k (a : Int) (b : Int) = ((a ||| b : Nat) : Int) := by
 subst hk
 have hab : a ||| b < 2 ^ k.bits := Nat.or_lt_two_pow ha hb
 simp only [bits, BitVec.toNat_or, BitVec.toNat_ofInt]
 have e1 : ((a : Int) % ((2 ^ k.bits : Nat) : Int)).toNat = a := by
  rw [← Int.natCast_emod, Int.toNat_natCast, Nat.mod_eq_of_lt ha]
 have e2 : ((b : Int) % ((2 ^ k.bits : Nat) : Int)).toNat = b := by
  rw [← Int.natCast_emod, Int.toNat_natCast, Nat.mod_eq_of_lt hb]
 rw [e1, e2]
 simp only [IntKind.wrap, hs]
 simp
 exact Int.emod_eq_of_lt (by omega) (by exact_mod_cast hab)

theorem or_u32 (a b s q : Nat) (ha : a < 2 ^ s) (hb : b = 2 ^ s * q) (h : a + b < 4294967296) : bits .or .u32 (a : Int) (b : Int) = ((a + b : Nat) : Int) := by
 rw [bits_or .u32 32 rfl rfl a b (by omega) (by omega), or_add a b s q ha hb]
theorem or_u64 (a b s q : Nat) (ha : a < 2 ^ s) (hb : b = 2 ^ s * q) (h : a + b < 18446744073709551616) : bits .or .u64 (a : Int) (b : Int) = ((a + b : Nat) : Int) := by
 rw [bits_or .u64 64 rfl rfl a b (by omega) (by omega), or_add a b s q ha hb]
theorem or_u64' (a b s q : Nat) (ha : a < 2 ^ s) (hb : b = 2 ^ s * q) (h : a + b < 18446744073709551616) : bits .or .u64 (b : Int) (a : Int) = ((b + a : Nat) : Int) := by
 rw [bits_or .u64 64 rfl rfl b a (by omega) (by omega), Nat.or_comm, or_add a b s q ha hb, Nat.add_comm]

/-- bytes as a string -/
def bstr (l : List UInt8) : ByteArray := ⟨l.toArray⟩
theorem bstr_size (l : List UInt8) : (bstr l).size = l.length := by simp [bstr, ByteArray.size]
theorem bstr_data (s : ByteArray) : bstr s.data.toList = s := rfl
/-- the number of a string -/
def snum (s : ByteArray) : Nat := num s.data.toList
/-- the string of a number -/
def ncan (n : Nat) : ByteArray := bstr (canon n)
theorem snum_ncan (n : Nat) : snum (ncan n) = n := num_canon n

end Go.Proofs.YtjlicnhkemfmiaaGreatDoor

/- natural.Normalize (strings.TrimLeft at one byte) and the definition's Normalize. -/
set_option maxHeartbeats 8000000
namespace Go.Proofs.YtjlicnhkemfmiaaGreatDoor
open Go.RowKit

theorem bstr_head (l : List UInt8) (h : 0 < (bstr l).size) : (bstr l)[0]'h = l.head (by intro e; subst e; simp [bstr_size] at h) := by
 rcases l with _ | ⟨c, l⟩
 ·
  simp [bstr_size] at h
 ·
  rfl

theorem extract_bstr (s : ByteArray) (k : Nat) : s.extract k s.size = bstr (s.data.toList.drop k) := by
 apply ByteArray.ext
 apply Array.ext'
 simp only [bstr, ByteArray.data_extract, Array.toList_extract, List.extract_eq_take_drop]
 rw [List.take_of_length_le (by simp)]

theorem bstr_tail (l : List UInt8) : (bstr l).extract 1 (bstr l).size = bstr (l.drop 1) := extract_bstr (bstr l) 1

theorem ret_str {a b : ByteArray} (h : a = b) : Ending.returned (.string a) = .returned (.string b) := by rw [h]

/-- what stands before the first byte that is not c -/
theorem dropWhile_from (c : UInt8) (l : List UInt8) (k : Nat) (h1 : ∀ (j : Nat) b, j < k → l[j]? = some b → b = c) : l.dropWhile (· == c) = (l.drop k).dropWhile (· == c) := by
 induction k generalizing l with
 | zero => simp
 | succ k ih =>
  rcases l with _ | ⟨x, l⟩
  ·
   simp
  ·
   have hx : x = c := h1 0 x (by omega) rfl
   subst hx
   simp only [List.drop_succ_cons]
   rw [List.dropWhile_cons_of_pos (by simp)]
   exact ih l (fun j b hj hb => h1 (j + 1) b (by omega) (by simpa using hb))

theorem trimLeftByte_calls (s : ByteArray) (c : UInt8) (w : World) :
 Calls Tryz.prog 124 #[.string s, .int .u8 c.toNat] w fun e w' => e = .returned (.string (bstr (s.data.toList.dropWhile (· == c)))) ∧ w' = w := by
 go_enter Tryz.func124, Tryz.ntmps124
 go_wp2_with fail
 go_loop [0] (fun v => ∃ l : List UInt8, v = .string (bstr l) ∧ Hid (s.data.toList.dropWhile (· == c) = l.dropWhile (· == c))) (fun v => Lib.strSize v)
 case atStart => exact ⟨s.data.toList, rfl, rfl⟩
 case round =>
  obtain ⟨l, rfl, HC⟩ := hrel
  rcases l with _ | ⟨x, l⟩
  ·
   have hz : (bstr ([] : List UInt8)).size = 0 := rfl
   go_wp2
   go_ret
   exact ⟨ret_str (by rw [HC.out]; rfl), rfl⟩
  ·
   have hsz : (bstr (x :: l)).size = l.length + 1 := bstr_size _
   have hd : ∀ h, (bstr (x :: l))[0]'h = x := fun h => bstr_head _ h
   have htl : (bstr (x :: l)).extract 1 (l.length + 1) = bstr l := by rw [← hsz]; exact bstr_tail _
   have hs2 : Hid ((bstr l).size = l.length) := bstr_size _
   have HB : Hid (∃ t, t = bstr (x :: l)) := ⟨_, rfl⟩
   by_cases heq : x = c
   ·
    have HC2 : Hid (s.data.toList.dropWhile (· == c) = l.dropWhile (· == c)) := by
     rw [HC.out, List.dropWhile_cons_of_pos (by simp [heq])]; rfl
    have heq' : ((x.toNat : Int) == (c.toNat : Int)) = true := by simp [heq]
    have HQ := Lib.hid heq
    clear HC heq
    go_wp2
    go_round
    case rel => exact ⟨l, rfl, HC2⟩
    case measure => simp [Lib.strSize, hsz, hs2.out]
   ·
    have hne : ((x.toNat : Int) == (c.toNat : Int)) = false := by
     simp
     intro h
     exact heq (UInt8.toNat_inj.1 (by omega))
    have HQ := Lib.hid heq
    clear heq
    go_wp2
    go_ret
    exact ⟨ret_str (by rw [HC.out, List.dropWhile_cons_of_neg (by simpa using HQ.out)]), rfl⟩

set_option maxRecDepth 1000000 in
theorem trimLeft_calls (s : ByteArray) (c : UInt8) (hc : c.toNat < 128) (w : World) :
 Calls Tryz.prog 105 #[.string s, .string ⟨#[c]⟩] w fun e w' => e = .returned (.string (bstr (s.data.toList.dropWhile (· == c)))) ∧ w' = w := by
 have hcc : ∀ h, (⟨#[c]⟩ : ByteArray)[0]'h = c := fun _ => rfl
 have hcs : (⟨#[c]⟩ : ByteArray).size = 1 := rfl
 by_cases hs : s.data.toList = []
 ·
  have hs0 : s = ⟨#[]⟩ := by rw [← bstr_data s, hs]; rfl
  subst hs0
  go_enter Tryz.func105, Tryz.ntmps105
  go_wp2_with fail
  go_ret
  exact ⟨rfl, rfl⟩
 ·
  have hs1 : s.toList.isEmpty = false := by rw [Lib.toList_data]; simpa using hs
  have hs2 : ¬ s.toList = [] := by rw [Lib.toList_data]; exact hs
  have HS := Lib.hid hs
  clear hs
  go_enter Tryz.func105, Tryz.ntmps105
  go_wp2_with (go_at_call 124; refine (trimLeftByte_calls s c _).mono ?_; rintro e w' ⟨rfl, rfl⟩)
  all_goals
   go_ret
   exact ⟨rfl, rfl⟩

theorem normalize_calls (s : ByteArray) (w : World) :
 Calls Tryz.prog 73 #[.string s] w fun e w' => e = .returned (.string (ncan (snum s))) ∧ w' = w := by
 have HN : Hid (bstr (s.data.toList.dropWhile (· == 0)) = ncan (snum s)) := by show _ = _; rw [dropZero_eq]; rfl
 go_enter Tryz.func73, Tryz.ntmps73
 go_wp2_with (go_at_call 105; refine (trimLeft_calls s 0 (by decide) _).mono ?_; rintro e w' ⟨rfl, rfl⟩)
 go_ret
 exact ⟨ret_str HN.out, rfl⟩

theorem drop_keep (s : ByteArray) (k : Nat) (hb : ∀ h : k < s.size, s[k] ≠ 0) : (s.data.toList.drop k).dropWhile (· == 0) = s.data.toList.drop k := by
 rcases hd : s.data.toList.drop k with _ | ⟨x, l⟩
 ·
  rfl
 ·
  have hlt : k < s.size := by
   rcases Nat.lt_or_ge k s.size with h | h
   ·
    exact h
   ·
    rw [List.drop_of_length_le (by rw [← Lib.size_eq]; exact h)] at hd
    simp at hd
  have hx : x = s[k] := by
   have h1 : (s.data.toList.drop k)[0]? = some x := by rw [hd]; rfl
   rw [List.getElem?_drop, Nat.add_zero, List.getElem?_eq_getElem (by rw [← Lib.size_eq]; exact hlt)] at h1
   injection h1 with h1
   rw [← h1]; rfl
  rw [List.dropWhile_cons_of_neg]
  rw [hx]
  simpa using hb hlt

theorem normRef_calls (s : ByteArray) (w : World) (hs : s.size ≤ 9223372036854775807) :
 Calls Tryz.prog 140 #[.string s] w fun e w' => e = .returned (.string (ncan (snum s))) ∧ w' = w := by
 go_enter Tryz.func140, Tryz.ntmps140
 go_wp2_with fail
 go_loop [3] (fun i => ∃ k : Nat, k ≤ s.size ∧ i = .int .i64 k ∧ Hid (∀ (j : Nat) b, j < k → s.data.toList[j]? = some b → b = 0)) (fun i => s.size - (intOf i).toNat)
 case atStart => exact ⟨0, Nat.zero_le _, rfl, fun j b hj => absurd hj (Nat.not_lt_zero _)⟩
 case round =>
  obtain ⟨k, hk, rfl, HC⟩ := hrel
  have HE : Hid (k ≤ s.size → (∀ h : k < s.size, s[k] ≠ 0) → s.extract k s.size = ncan (snum s)) := by
   intro hk hb
   show _ = bstr (canon (num s.data.toList))
   rw [← dropZero_eq, dropWhile_from 0 _ k HC.out, extract_bstr]
   rw [drop_keep s k hb]
  by_cases hlt : k < s.size
  ·
   by_cases h0 : s[k] = 0
   ·
    have h0' : ((s[k].toNat : Int) == 0) = true := by simp [h0]
    have HC2 : Hid (∀ (j : Nat) b, j < k + 1 → s.data.toList[j]? = some b → b = 0) := by
     intro j b hj hb
     by_cases e : j = k
     ·
      subst e
      have : s.data.toList[j]? = some s[j] := by rw [List.getElem?_eq_getElem (by rw [← Lib.size_eq]; exact hlt)]; rfl
      rw [this] at hb
      injection hb with hb
      rw [← hb, h0]
     ·
      exact HC.out j b (by omega) hb
    clear h0 HE
    go_wp2
    go_round
    case rel => exact ⟨k + 1, by omega, by go_num, HC2⟩
    case measure => simp [intOf]; omega
   ·
    have h0' : ((s[k].toNat : Int) == 0) = false := by
     simp
     intro h
     exact h0 (UInt8.toNat_inj.1 h)
    have HZ := Lib.hid h0
    clear h0
    go_wp2
    go_ret
    exact ⟨ret_str (HE.out hk (fun _ => HZ.out)), rfl⟩
  ·
   go_wp2
   go_ret
   exact ⟨ret_str (HE.out hk (fun h => absurd h hlt)), rfl⟩

end Go.Proofs.YtjlicnhkemfmiaaGreatDoor

/- limbs.trim, strip, parse, limbs. -/
set_option maxRecDepth 100000
namespace Go.Proofs.YtjlicnhkemfmiaaGreatDoor
open Go.RowKit

/-- a slice of digits that holds the number n -/
theorem trim_end {l : List Nat} (hd : Dig l) {k : Nat} (hk : k ≤ l.length) (hz : ∀ x ∈ l.drop k, x = 0) (ht : k = 0 ∨ l.getD (k - 1) 0 ≠ 0) : l.take k = limbs (valL l) ∧ (limbs (valL l)).length = k := by
 have := trim_take hd hk hz ht
 exact ⟨this, by rw [← this, List.length_take_of_le hk]⟩

theorem zero_more {l : List Nat} {k : Nat} (hk : k + 1 ≤ l.length) (hz : ∀ x ∈ l.drop (k + 1), x = 0) (h0 : l.getD k 0 = 0) : ∀ x ∈ l.drop k, x = 0 := by
 rw [List.drop_eq_getElem_cons (by omega)]
 intro x hx
 rcases List.mem_cons.1 hx with hx | hx
 ·
  subst hx
  rwa [List.getD_eq_getElem?_getD, List.getElem?_eq_getElem (by omega)] at h0
 ·
  exact hz x hx

theorem trim_calls (A : Option Addr) (c : Nat) (l : List Nat) (w : World) (hr : KRd .u32 w w.heap.size A l) (hd : Dig l) (hc : l.length ≤ c) (hl : l.length ≤ 1000000000) :
 Calls Tryz.prog 107 #[.slice A l.length c] w fun e w' => e = .returned (.slice A (limbs (valL l)).length c) ∧ w' = w := by
 have HR := Lib.hid hr
 have HD := Lib.hid hd
 clear hr hd
 go_enter Tryz.func107, Tryz.ntmps107
 go_wp2_with fail
 go_loop [3] (fun i => ∃ k : Nat, k ≤ l.length ∧ i = .int .i64 k ∧ Hid (∀ x ∈ l.drop k, x = 0)) (fun i => (intOf i).toNat)
 case atStart => exact ⟨l.length, Nat.le_refl _, rfl, by intro x hx; simp at hx⟩
 case round =>
  obtain ⟨k, hk, rfl, HZ⟩ := hrel
  by_cases h0 : k = 0
  ·
   subst h0
   have HE : Hid ((limbs (valL l)).length = 0) := (trim_end HD.out hk HZ.out (.inl rfl)).2
   clear HZ
   go_wp2
   go_ret
   exact ⟨by rw [HE.out]; rfl, rfl⟩
  ·
   obtain ⟨j, rfl⟩ : ∃ j, k = j + 1 := ⟨k - 1, by omega⟩
   obtain ⟨b, off, rfl, hb, hcell⟩ := HR.out.at_ (getElem?_getD (show j < l.length by omega))
   obtain ⟨x, hx⟩ : ∃ x, x = l.getD j 0 := ⟨_, rfl⟩
   rw [← hx] at hcell
   have HX := Lib.hid hx
   clear h0 hx
   by_cases hx0 : x = 0
   ·
    have HZ2 : Hid (∀ x ∈ l.drop j, x = 0) := zero_more hk HZ.out (by rw [← HX.out, hx0])
    have hx1 : ((x : Int) == 0) = true := by simp [hx0]
    clear hx0 HZ HX
    go_wp2
    go_round
    case rel => exact ⟨j, by omega, by go_num, HZ2⟩
    case measure => simp [intOf]
   ·
    have hx1 : ((x : Int) == 0) = false := by simpa using hx0
    have HE : Hid ((limbs (valL l)).length = j + 1) := (trim_end HD.out hk HZ.out (.inr (by show l.getD j 0 ≠ 0; rw [← HX.out]; exact hx0))).2
    clear hx0 HZ HX
    go_wp2
    go_ret
    exact ⟨by rw [HE.out]; rfl, rfl⟩

theorem strip_calls (A : Option Addr) (c : Nat) (l : List Nat) (w : World) (hr : KRd .u32 w w.heap.size A l) (hd : Dig l) (hc : l.length ≤ c) (hl : l.length ≤ 1000000000) :
 Calls Tryz.prog 143 #[.slice A l.length c] w fun e w' => e = .returned (.slice A (limbs (valL l)).length c) ∧ w' = w := by
 have HR := Lib.hid hr
 have HD := Lib.hid hd
 clear hr hd
 go_enter Tryz.func143, Tryz.ntmps143
 go_wp2_with fail
 go_loop [3] (fun i => ∃ k : Nat, k ≤ l.length ∧ i = .int .i64 k ∧ Hid (∀ x ∈ l.drop k, x = 0)) (fun i => (intOf i).toNat)
 case atStart => exact ⟨l.length, Nat.le_refl _, rfl, by intro x hx; simp at hx⟩
 case round =>
  obtain ⟨k, hk, rfl, HZ⟩ := hrel
  by_cases h0 : k = 0
  ·
   subst h0
   have HE : Hid ((limbs (valL l)).length = 0) := (trim_end HD.out hk HZ.out (.inl rfl)).2
   clear HZ
   go_wp2
   go_ret
   exact ⟨by rw [HE.out]; rfl, rfl⟩
  ·
   obtain ⟨j, rfl⟩ : ∃ j, k = j + 1 := ⟨k - 1, by omega⟩
   obtain ⟨b, off, rfl, hb, hcell⟩ := HR.out.at_ (getElem?_getD (show j < l.length by omega))
   obtain ⟨x, hx⟩ : ∃ x, x = l.getD j 0 := ⟨_, rfl⟩
   rw [← hx] at hcell
   have HX := Lib.hid hx
   clear h0 hx
   by_cases hx0 : x = 0
   ·
    have HZ2 : Hid (∀ x ∈ l.drop j, x = 0) := zero_more hk HZ.out (by rw [← HX.out, hx0])
    have hx1 : ((x : Int) == 0) = true := by simp [hx0]
    clear hx0 HZ HX
    go_wp2
    go_round
    case rel => exact ⟨j, by omega, by go_num, HZ2⟩
    case measure => simp [intOf]
   ·
    have hx1 : ((x : Int) == 0) = false := by simpa using hx0
    have HE : Hid ((limbs (valL l)).length = j + 1) := (trim_end HD.out hk HZ.out (.inr (by show l.getD j 0 ≠ 0; rw [← HX.out]; exact hx0))).2
    clear hx0 HZ HX
    go_wp2
    go_ret
    exact ⟨by rw [HE.out]; rfl, rfl⟩

/-- the bytes of a string, the least one first -/
def lebytes (s : ByteArray) : List Nat := s.data.toList.reverse.map UInt8.toNat
theorem lebytes_len (s : ByteArray) : (lebytes s).length = s.size := by rw [lebytes, List.length_map, List.length_reverse, Lib.size_eq]
theorem lebytes_byt (s : ByteArray) : Byt (lebytes s) := by
 intro x hx
 obtain ⟨c, _, rfl⟩ := List.mem_map.1 hx
 exact c.toNat_lt
theorem lebytes_get (s : ByteArray) (i : Nat) (h : i < s.size) (h' : s.size - 1 - i < s.size) : (lebytes s).getD i 0 = (s[s.size - 1 - i]'h').toNat := by
 rw [lebytes, List.getD_eq_getElem?_getD, List.getElem?_map, List.getElem?_reverse (by rw [← Lib.size_eq]; exact h), ← Lib.size_eq]
 rw [List.getElem?_eq_getElem (by rw [← Lib.size_eq]; exact h')]
 rfl
theorem packs_nil (K : Nat) : packs K [] = List.replicate K 0 := by
 apply List.ext_getElem?
 intro j
 by_cases hj : j < K <;> simp [packs, pk, List.getElem?_replicate, hj]

theorem pow8 (m : Nat) : 2 ^ (8 * m) = 256 ^ m := by rw [Nat.pow_mul]

theorem shl_byte (c m : Nat) (hm : m < 4) (hc : c < 256) : IntKind.u32.wrap ((c : Int) * 2 ^ (8 * (m : Int)).toNat) = ((c * 256 ^ m : Nat) : Int) ∧ c * 256 ^ m + 256 ^ m ≤ 4294967296 := by
 have e : (8 * (m : Int)).toNat = 8 * m := by omega
 rw [e]
 have h1 : ((c : Int) * 2 ^ (8 * m)) = ((c * 256 ^ m : Nat) : Int) := by
  rw [Int.natCast_mul, ← pow8]; simp
 have h2 : c * 256 ^ m + 256 ^ m ≤ 4294967296 := by
  have h3 : (c + 1) * 256 ^ m ≤ 256 * 256 ^ 3 := Nat.mul_le_mul (by omega) (Nat.pow_le_pow_right (by omega) (by omega))
  rw [Nat.add_mul, Nat.one_mul] at h3
  omega
 refine ⟨?_, h2⟩
 rw [h1, IntWalk.u32_in]
 have : 0 < 256 ^ m := Nat.pow_pos (by omega)
 omega

theorem or_byte (v c m : Nat) (hm : m < 4) (hc : c < 256) (hv : v < 256 ^ m) : bits BinOp.or IntKind.u32 (v : Int) (IntKind.u32.wrap ((c : Int) * 2 ^ (8 * (m : Int)).toNat)) = ((v + c * 256 ^ m : Nat) : Int) := by
 obtain ⟨h1, h2⟩ := shl_byte c m hm hc
 rw [h1]
 exact or_u32 v (c * 256 ^ m) (8 * m) c (by rw [pow8]; exact hv) (by rw [pow8, Nat.mul_comm]) (by omega)

theorem parse_calls (s : ByteArray) (w : World) (hs : s.size ≤ 1000000000) :
 Calls Tryz.prog 76 #[.string s] w fun e w' => ∃ A c, e = .returned (.slice A (limbs (snum s)).length c) ∧ (limbs (snum s)).length ≤ c ∧ KRd .u32 w' w'.heap.size A (limbs (snum s)) ∧ Below w.heap.size w w' := by
 obtain ⟨K, hK⟩ : ∃ K : Nat, K = (s.size + 3) / 4 := ⟨_, rfl⟩
 have hK1 : s.size ≤ 4 * K := by omega
 have hK2 : 4 * K ≤ s.size + 3 := by omega
 have hKI : ((s.size : Int) + 4 - 1) / 4 = (K : Int) := by omega
 have hmk := run_make_row' (P := Tryz.prog) 150 152 (.int .u32 0) 4 Tryz.underlying150 Tryz.info_u32 rfl .i64 .i64 K (by omega) (by omega)
 clear hK
 go_enter Tryz.func76, Tryz.ntmps76
 go_wp2_with fail
 go_loopw [13] (fun i wr => ∃ k : Nat, k ≤ s.size ∧ i = .int .i64 k ∧ KRow .u32 152 wr w.heap.size (packs K ((lebytes s).take k)) ∧ Below w.heap.size w wr) (fun i _ => s.size - (intOf i).toNat)
 case atStart => exact ⟨0, Nat.zero_le _, rfl, (KRow.made _ _ _ rfl).cast (by rw [List.take_zero]; exact (packs_nil K).symm), (Below.refl _ _).alloc (Nat.le_refl _) _⟩
 case round =>
  obtain ⟨k, hk, rfl, hrow, hbel⟩ := hrel
  by_cases hlt : k < s.size
  ·
   have hq : k / 4 < K := by omega
   have hq1 : (k : Int) / 4 < (K : Int) := by omega
   have hidx : s.size - 1 - k < s.size := by omega
   have hc := hrow.getD (j := k / 4) (by rw [packs_len]; exact hq)
   have hf := hrow.frozen (k / 4)
   have hsz := hrow.lt
   obtain ⟨v, hv⟩ : ∃ v, v = (packs K ((lebytes s).take k)).getD (k / 4) 0 := ⟨_, rfl⟩
   rw [← hv] at hc
   have HV := Lib.hid hv
   have HROW := Lib.hid hrow
   clear hv hrow hq hK1 hK2 hmk hKI
   obtain ⟨q, hq⟩ : ∃ q, q = k / 4 := ⟨_, rfl⟩
   obtain ⟨m, hm⟩ : ∃ m, m = k % 4 := ⟨_, rfl⟩
   obtain ⟨t, ht⟩ : ∃ t, t = s.size - 1 - k := ⟨_, rfl⟩
   have htl : t < s.size := by omega
   have hqK : q < K := by omega
   have hm4 : m < 4 := by omega
   have w1 : IntKind.i64.wrap ((k : Int) / 4) = (q : Int) := by rw [IntWalk.i64_in _ (by omega)]; omega
   have w2 : IntKind.i64.wrap ((s.size : Int) - 1) = (s.size : Int) - 1 := IntWalk.i64_in _ (by omega)
   have w3 : IntKind.i64.wrap ((s.size : Int) - 1 - (k : Int)) = (t : Int) := by rw [IntWalk.i64_in _ (by omega)]; omega
   have w4 : (k : Int).tmod 4 = (m : Int) := by rw [Int.tmod_eq_emod_of_nonneg (by omega)]; omega
   obtain ⟨c, hcc⟩ : ∃ c : Nat, c = s[t].toNat := ⟨_, rfl⟩
   have hc8 : c < 256 := by rw [hcc]; exact s[t].toNat_lt
   have w6 : IntKind.u32.wrap (s[t].toNat : Int) = (c : Int) := by rw [← hcc]; exact IntWalk.u32_in _ (by omega)
   have w5 : IntKind.i64.wrap (8 * (m : Int)) = ((8 * m : Nat) : Int) := by rw [IntWalk.i64_in _ (by omega)]; omega
   rw [← hq] at hc hf
   go_wp2_with fail
   have HC := Lib.hid hcc
   have HQ := Lib.hid hq
   have HM := Lib.hid hm
   have hgv : v = pk ((lebytes s).take k) q := by rw [HV.out, packs_get (by omega), hq]
   have hvm : v < 256 ^ m := by rw [hgv, hq, hm]; exact pk_take_lt (lebytes_byt s) k
   have HCl : Hid ((lebytes s).getD k 0 = c) := by
    show _ = _
    rw [hcc, lebytes_get s k hlt (by omega)]
    simp only [ht]
   have HGV := Lib.hid hgv
   have HVM := Lib.hid hvm
   clear hq1 hidx hq hm ht hcc hgv hvm
   have HF : Hid (bits BinOp.or IntKind.u32 (v : Int) (IntKind.u32.wrap ((c : Int) * 2 ^ (8 * (m : Int)).toNat)) = ((pk ((lebytes s).take k) (k / 4) + (lebytes s).getD k 0 * 256 ^ (k % 4) : Nat) : Int)) := by
    show _ = _
    rw [← HM.out, ← HQ.out, ← HGV.out, HCl.out]
    exact or_byte v c m hm4 hc8 HVM.out
   go_still_tail 19, (by kernel_rfl)
   change wpList _ _ _ _ _ wr.drew
   clear w1 w2 w3 w4 w5 w6
   go_wp2_with fail
   go_roundw
   case measure => simp [intOf]; omega
   case rel =>
    refine ⟨k + 1, by omega, by go_num, HROW.out.drew.setI _ _ HF.out ?_, hbel.drew.setCell (by simp) _⟩
    rw [packs_take_succ, HQ.out]
  ·
   obtain rfl : k = s.size := by omega
   have HV : Hid (valL (packs K ((lebytes s).take s.size)) = snum s) := by
    show _ = _
    rw [List.take_of_length_le (by rw [lebytes_len]; omega), valL_packs _ _ (by rw [lebytes_len]; exact hK1)]
    rfl
   have hrd := hrow.rd
   have hdg : Dig (packs K ((lebytes s).take s.size)) := packs_dig (fun x hx => lebytes_byt s x (List.mem_of_mem_take hx)) _
   have hlen : (packs K ((lebytes s).take s.size)).length = K := packs_len _ _
   have HT := trim_calls _ K _ wr hrd hdg (by omega) (by omega)
   rw [hlen, HV.out] at HT
   have HRD := Lib.hid hrd
   have HDG := Lib.hid hdg
   have HLEN := Lib.hid hlen
   have HTT := Lib.hid HT
   clear hrd hdg hlen hmk hKI HT
   go_wp2_with fail
   refine HTT.out.mono ?_
   rintro e w1 ⟨rfl, rfl⟩
   go_wp2_with fail
   go_ret
   refine ⟨_, _, rfl, ?_, ?_, hbel⟩
   ·
    have h1 := valL_lt _ HDG.out
    rw [HV.out, HLEN.out] at h1
    exact limbs_len_le h1
   ·
    exact HRD.out.limbs HDG.out HV.out

end Go.Proofs.YtjlicnhkemfmiaaGreatDoor

/- Rational numbers in the program's form: sign, numerator, denominator; plain laws. Nothing of the program. -/
namespace Go.Proofs.YtjlicnhkemfmiaaGreatDoor
open Go.RowKit

def rsg (neg : Bool) (n : Nat) : Int := if neg then -(n : Int) else n
theorem natAbs_rsg (b : Bool) (n : Nat) : (rsg b n).natAbs = n := by unfold rsg; split <;> simp
theorem rsg_zero (b : Bool) : rsg b 0 = 0 := by unfold rsg; split <;> simp
theorem rsg_self (z : Int) : rsg (decide (z < 0)) z.natAbs = z := by
 unfold rsg; by_cases h : z < 0 <;> simp [h] <;> omega

def rneg (q : Rat) : Bool := decide (q.num < 0)
def rv (neg : Bool) (n d : Nat) : Rat := mkRat (rsg neg n) d
theorem rv_zero (b : Bool) (d : Nat) : rv b 0 d = 0 := by rw [rv, rsg_zero, Rat.zero_mkRat]
theorem rv_self (q : Rat) : rv (rneg q) q.num.natAbs q.den = q := by
 rw [rv, rneg, rsg_self, Rat.mkRat_self]
theorem rv_den {b : Bool} {n d : Nat} (h : d ≠ 0) : (rv b n d).den = d / Nat.gcd n d := by
 rw [rv, Rat.den_mkRat, if_neg h, natAbs_rsg, Nat.gcd_comm]
theorem rv_num {b : Bool} {n d : Nat} (h : d ≠ 0) : (rv b n d).num.natAbs = n / Nat.gcd n d := by
 rw [rv, Rat.num_mkRat, if_neg h, natAbs_rsg, Nat.gcd_comm, Int.natAbs_ediv_of_dvd, natAbs_rsg, Int.natAbs_natCast]
 rw [← Int.dvd_natAbs, natAbs_rsg]
 exact Int.ofNat_dvd.2 (Nat.gcd_dvd_left n d)
theorem rv_neg {b : Bool} {n d : Nat} (hn : n ≠ 0) (h : d ≠ 0) : rneg (rv b n d) = b := by
 have h1 : rv b n d ≠ 0 := by rw [rv, Rat.mkRat_ne_zero h]; intro e; have := natAbs_rsg b n; rw [e] at this; simp at this; exact hn this.symm
 rw [rneg, rv, Rat.num_mkRat, if_neg h, natAbs_rsg]
 have hg : 0 < Nat.gcd d n := Nat.gcd_pos_of_pos_left _ (Nat.pos_of_ne_zero h)
 cases b
 ·
  have : 0 ≤ rsg false n / ((d.gcd n : Nat) : Int) := Int.ediv_nonneg (by simp [rsg]) (by simp)
  exact decide_eq_false (by omega)
 ·
  have : rsg true n / ((d.gcd n : Nat) : Int) < 0 := Int.ediv_neg_of_neg_of_pos (by simp [rsg]; omega) (by omega)
  exact decide_eq_true this
theorem rv_add_same {a b : Rat} (h : rneg a = rneg b) : a + b = rv (rneg a) (a.num.natAbs * b.den + b.num.natAbs * a.den) (a.den * b.den) := by
 rw [Rat.add_def', rv]
 congr 1
 have ha := rsg_self a.num
 have hb := rsg_self b.num
 rw [show decide (a.num < 0) = rneg a from rfl] at ha
 rw [show decide (b.num < 0) = rneg b from rfl, ← h] at hb
 rw [← ha, ← hb, natAbs_rsg, natAbs_rsg]
 cases rneg a <;> simp [rsg, Int.neg_mul] <;> omega
theorem rv_add_ge {a b : Rat} (h : rneg a ≠ rneg b) (hge : b.num.natAbs * a.den ≤ a.num.natAbs * b.den) : a + b = rv (rneg a) (a.num.natAbs * b.den - b.num.natAbs * a.den) (a.den * b.den) := by
 rw [Rat.add_def', rv]
 congr 1
 have ha := rsg_self a.num
 have hb := rsg_self b.num
 rw [show decide (a.num < 0) = rneg a from rfl] at ha
 rw [show decide (b.num < 0) = rneg b from rfl] at hb
 rw [← ha, ← hb, natAbs_rsg, natAbs_rsg]
 cases h1 : rneg a <;> cases h2 : rneg b <;> simp [h1, h2] at h <;> simp [rsg, Int.neg_mul] <;> omega
theorem rv_add_lt {a b : Rat} (h : rneg a ≠ rneg b) (hlt : a.num.natAbs * b.den < b.num.natAbs * a.den) : a + b = rv (rneg b) (b.num.natAbs * a.den - a.num.natAbs * b.den) (a.den * b.den) := by
 rw [Rat.add_comm, rv_add_ge (Ne.symm h) (by omega), Nat.mul_comm b.den]
theorem rv_mul (a b : Rat) : a * b = rv (rneg a != rneg b) (a.num.natAbs * b.num.natAbs) (a.den * b.den) := by
 rw [Rat.mul_def', rv]
 congr 1
 have ha := rsg_self a.num
 have hb := rsg_self b.num
 rw [show decide (a.num < 0) = rneg a from rfl] at ha
 rw [show decide (b.num < 0) = rneg b from rfl] at hb
 rw [← ha, ← hb, natAbs_rsg, natAbs_rsg]
 cases rneg a <;> cases rneg b <;> simp [rsg, Int.neg_mul, Int.mul_neg]
theorem rv_common (b : Bool) (n : Nat) {d k : Nat} (hk : k ≠ 0) : rv b (n * k) (d * k) = rv b n d := by
 rw [rv, rv, show rsg b (n * k) = rsg b n * (k : Int) by cases b <;> simp [rsg, Int.neg_mul], Rat.mkRat_mul_right hk]
theorem rv_div (a b : Rat) (hb : b ≠ 0) : a / b = rv (rneg a != rneg b) (a.num.natAbs * b.den) (a.den * b.num.natAbs) := by
 have h0 : b.num ≠ 0 := fun e => hb (Rat.num_eq_zero.1 e)
 have e : rv (rneg a != rneg b) (a.num.natAbs * b.den) (a.den * b.num.natAbs) * b = a := by
  conv => lhs; rhs; rw [← rv_self b]
  conv => rhs; rw [← rv_self a]
  have : rv (rneg a != rneg b) (a.num.natAbs * b.den) (a.den * b.num.natAbs) * rv (rneg b) b.num.natAbs b.den = rv (rneg a) (a.num.natAbs * (b.den * b.num.natAbs)) (a.den * (b.den * b.num.natAbs)) := by
   rw [rv, rv, Rat.mkRat_mul_mkRat, rv]
   have e1 : rsg (rneg a != rneg b) (a.num.natAbs * b.den) * rsg (rneg b) b.num.natAbs = rsg (rneg a) (a.num.natAbs * (b.den * b.num.natAbs)) := by
    cases rneg a <;> cases rneg b <;> simp [rsg, Int.neg_mul, Int.mul_neg, Int.mul_assoc]
   rw [e1, Nat.mul_assoc, Nat.mul_comm b.num.natAbs]
  rw [this, rv_common _ _ (Nat.mul_ne_zero b.den_nz (by omega))]
 conv => lhs; rw [← e]
 rw [Rat.mul_div_cancel hb]
theorem rneg_neg {a : Rat} : rneg (-a) = (!rneg a && decide (a.num.natAbs ≠ 0)) := by
 rw [rneg, rneg, show (-a).num = -a.num from rfl]
 by_cases h : a.num < 0 <;> by_cases h2 : a.num = 0 <;> simp [h, h2] <;> omega
theorem rneg_lt (a : Rat) : rneg a = decide (a < 0) := by
 rw [rneg, decide_eq_decide, Rat.lt_iff]
 simp
/-! ### the fields -/
def rnum (q : Rat) : ByteArray := ncan q.num.natAbs
def rden (q : Rat) : ByteArray := if q.den = 1 then ⟨#[]⟩ else ncan q.den
def ratV (q : Rat) : Value := .agg #[.bool (rneg q), .string (rnum q), .string (rden q)]
theorem ncan_zero' : ncan 0 = ⟨#[]⟩ := by unfold ncan canon; rw [canB_zero]; rfl
theorem ncan_isEmpty' {n : Nat} (h : n ≠ 0) : (ncan n).toList.isEmpty = false := by
 rw [List.isEmpty_eq_false_iff]
 intro e
 refine h ?_
 have e2 : (ncan n).data.toList = [] := by rw [← e]; exact (ByteArray.toList_eq _).symm
 have e3 : ncan n = ncan 0 := by rw [ncan_zero']; exact congrArg ByteArray.mk (Array.toList_eq_nil_iff.1 e2)
 have := congrArg snum e3
 rwa [snum_ncan, snum_ncan] at this
theorem ncan_inj {a b : Nat} (h : ncan a = ncan b) : a = b := by
 have := congrArg snum h
 rwa [snum_ncan, snum_ncan] at this
theorem rden_inj {a b : Rat} (h : rden a = rden b) : a.den = b.den := by
 unfold rden at h
 by_cases h1 : a.den = 1 <;> by_cases h2 : b.den = 1
 ·
  rw [h1, h2]
 ·
  rw [if_pos h1, if_neg h2, ← ncan_zero'] at h
  exact absurd (ncan_inj h).symm b.den_nz
 ·
  rw [if_neg h1, if_pos h2, ← ncan_zero'] at h
  exact absurd (ncan_inj h) a.den_nz
 ·
  rw [if_neg h1, if_neg h2] at h
  exact ncan_inj h
theorem rat_inj {a b : Rat} (h1 : rneg a = rneg b) (h2 : rnum a = rnum b) (h3 : rden a = rden b) : a = b := by
 rw [← rv_self a, ← rv_self b, h1, ncan_inj h2, rden_inj h3]
theorem rneg_zero : rneg 0 = false := by decide
theorem rnum_zero : rnum 0 = ⟨#[]⟩ := by rw [rnum, show (0 : Rat).num.natAbs = 0 from rfl, ncan_zero']
theorem rden_zero : rden 0 = ⟨#[]⟩ := if_pos (show (0 : Rat).den = 1 from rfl)
theorem ratV_zero : ratV 0 = .agg #[.bool false, .string ⟨#[]⟩, .string ⟨#[]⟩] := by rw [ratV, rneg_zero, rnum_zero, rden_zero]

/-- numerator and denominator have at most k digits to base 256 -/
def Sz (k : Nat) (q : Rat) : Prop := q.num.natAbs < 256 ^ k ∧ q.den < 256 ^ k
theorem Sz.mono {k m : Nat} {q : Rat} (h : Sz k q) (hm : k ≤ m) : Sz m q :=
 ⟨Nat.lt_of_lt_of_le h.1 (Nat.pow_le_pow_right (by decide) hm), Nat.lt_of_lt_of_le h.2 (Nat.pow_le_pow_right (by decide) hm)⟩
theorem Sz.rv {k n d : Nat} {b : Bool} (hd : d ≠ 0) (h1 : n < 256 ^ k) (h2 : d < 256 ^ k) : Sz k (rv b n d) := by
 refine ⟨?_, ?_⟩
 ·
  rw [rv_num hd]; exact Nat.lt_of_le_of_lt (Nat.div_le_self _ _) h1
 ·
  rw [rv_den hd]; exact Nat.lt_of_le_of_lt (Nat.div_le_self _ _) h2
theorem pow_mul_lt {k m a b : Nat} (ha : a < 256 ^ k) (hb : b < 256 ^ m) : a * b < 256 ^ (k + m) := by
 rw [Nat.pow_add]; exact Nat.mul_lt_mul'' ha hb
theorem Sz.mul {k m : Nat} {a b : Rat} (ha : Sz k a) (hb : Sz m b) : Sz (k + m) (a * b) := by
 rw [rv_mul]
 exact Sz.rv (Nat.mul_ne_zero a.den_nz b.den_nz) (pow_mul_lt ha.1 hb.1) (pow_mul_lt ha.2 hb.2)
theorem pow_add_lt {k x y : Nat} (ha : x < 256 ^ k) (hb : y < 256 ^ k) : x + y < 256 ^ (k + 1) := by
 have : (256 : Nat) ^ (k + 1) = 256 ^ k * 256 := Nat.pow_succ _ _
 omega
theorem pow_succ_lt {k x : Nat} (ha : x < 256 ^ k) : x < 256 ^ (k + 1) := by
 have : (256 : Nat) ^ (k + 1) = 256 ^ k * 256 := Nat.pow_succ _ _
 omega
theorem Sz.add {k m : Nat} {a b : Rat} (ha : Sz k a) (hb : Sz m b) : Sz (k + m + 1) (a + b) := by
 have h1 := pow_mul_lt ha.1 hb.2
 have h2 : b.num.natAbs * a.den < 256 ^ (k + m) := by rw [Nat.add_comm]; exact pow_mul_lt hb.1 ha.2
 have h3 := pow_succ_lt (pow_mul_lt ha.2 hb.2)
 have hd := Nat.mul_ne_zero a.den_nz b.den_nz
 by_cases h : rneg a = rneg b
 ·
  rw [rv_add_same h]
  exact Sz.rv hd (pow_add_lt h1 h2) h3
 ·
  have e := pow_add_lt h1 h2
  rcases Nat.lt_or_ge (a.num.natAbs * b.den) (b.num.natAbs * a.den) with hl | hl
  ·
   rw [rv_add_lt h hl]
   exact Sz.rv hd (by omega) h3
  ·
   rw [rv_add_ge h hl]
   exact Sz.rv hd (by omega) h3
theorem Sz.neg {k : Nat} {a : Rat} (ha : Sz k a) : Sz k (-a) := ⟨by rw [show (-a).num = -a.num from rfl, Int.natAbs_neg]; exact ha.1, ha.2⟩
theorem Sz.sub {k m : Nat} {a b : Rat} (ha : Sz k a) (hb : Sz m b) : Sz (k + m + 1) (a - b) := by
 rw [Rat.sub_eq_add_neg]; exact ha.add hb.neg

/-- a struct of three cells that the call made, behind a further call -/
theorem three_facts {w w2 : World} {a b c : Value} {T : TypeId} (hb : Below (w.alloc (.cells #[a, b, c] T)).heap.size (w.alloc (.cells #[a, b, c] T)) w2) :
 w2.cell? ⟨w.heap.size, 0, none⟩ = some a ∧ w2.cell? ⟨w.heap.size, 1, none⟩ = some b ∧ w2.cell? ⟨w.heap.size, 2, none⟩ = some c ∧
 w2.frozen? ⟨w.heap.size, 0, none⟩ = false ∧ w2.frozen? ⟨w.heap.size, 1, none⟩ = false ∧ w2.frozen? ⟨w.heap.size, 2, none⟩ = false ∧ w.heap.size < w2.heap.size ∧ Hid (Below w.heap.size w w2) := by
 have hg : w2.heap[w.heap.size]? = some (.cells #[a, b, c] T (0, 0)) := (hb.block w.heap.size (by simp)).trans (heap_alloc_new _ _)
 refine ⟨?_, ?_, ?_, frozen_of_row w2 _ 0 _ _ hg, frozen_of_row w2 _ 1 _ _ hg, frozen_of_row w2 _ 2 _ _ hg, (Array.getElem?_eq_some_iff.1 hg).1, ((Below.refl _ _).alloc (Nat.le_refl _) _).trans (hb.mono (by simp))⟩
 ·
  rw [cell_of_row w2 _ 0 _ _ (0, 0) hg]; rfl
 ·
  rw [cell_of_row w2 _ 1 _ _ (0, 0) hg]; rfl
 ·
  rw [cell_of_row w2 _ 2 _ _ (0, 0) hg]; rfl

theorem three_of {w2 : World} {g : Nat} {a b c : Value} {T : TypeId} (hg : w2.heap[g]? = some (.cells #[a, b, c] T (0, 0))) :
 w2.cell? ⟨g, 0, none⟩ = some a ∧ w2.cell? ⟨g, 1, none⟩ = some b ∧ w2.cell? ⟨g, 2, none⟩ = some c ∧
 w2.frozen? ⟨g, 0, none⟩ = false ∧ w2.frozen? ⟨g, 1, none⟩ = false ∧ w2.frozen? ⟨g, 2, none⟩ = false ∧ g < w2.heap.size := by
 refine ⟨?_, ?_, ?_, frozen_of_row w2 _ 0 _ _ hg, frozen_of_row w2 _ 1 _ _ hg, frozen_of_row w2 _ 2 _ _ hg, (Array.getElem?_eq_some_iff.1 hg).1⟩
 ·
  rw [cell_of_row w2 _ 0 _ _ (0, 0) hg]; rfl
 ·
  rw [cell_of_row w2 _ 1 _ _ (0, 0) hg]; rfl
 ·
  rw [cell_of_row w2 _ 2 _ _ (0, 0) hg]; rfl
theorem blk_new (w : World) (o : Obj) : (w.alloc o).heap[w.heap.size]? = some o := heap_alloc_new _ _
theorem blk_next {w w' : World} {g : Nat} {o : Obj} (h : w.heap[g]? = some o) (hb : Below w.heap.size w w') : w'.heap[g]? = some o :=
 (hb.block g (Array.getElem?_eq_some_iff.1 h).1).trans h
theorem blk_alloc {w : World} {g : Nat} {o o' : Obj} (h : w.heap[g]? = some o) : (w.alloc o').heap[g]? = some o :=
 (Below.heap_alloc w o' g (Array.getElem?_eq_some_iff.1 h).1).trans h
theorem bel_alloc (w : World) (o : Obj) : Below w.heap.size w (w.alloc o) := (Below.refl _ _).alloc (Nat.le_refl _) _

end Go.Proofs.YtjlicnhkemfmiaaGreatDoor

/- Small laws on worlds, slices that are read, owned rows. Nothing of the program. -/
import Derived.WalkKit
import Derived.WalkSpells
import Derived.WalkLawsBesides
import Derived.Lib.Hide
import Derived.Deep.AppendLies
import Derived.Deep.Draws
set_option linter.unusedVariables false
set_option linter.unusedSimpArgs false
namespace Go.Proofs.YtcljkdjmmolfoaaDoor
open Go.RowKit

/-- a slice value's address A, its n elements of S cells each read as xs; it lies below block B -/
def Rd (w : World) (B S : Nat) (A : Option Addr) (n : Nat) (xs : List Value) : Prop :=
  xs.length = n * S ∧ (0 < n → ∃ b off, A = some ⟨b, off, none⟩ ∧ b < B ∧ ∀ j u, xs[j]? = some u → w.cell? ⟨b, off + j, none⟩ = some u)

section
variable {w w' : World} {B B' S n : Nat} {A : Option Addr} {xs : List Value}

theorem Rd.nil : Rd w B S A 0 [] := ⟨by simp, fun h => absurd h (by omega)⟩

theorem Rd.keep (h : Rd w B S A n xs) (hk : ∀ p : Addr, p.block < B → w'.cell? p = w.cell? p) : Rd w' B S A n xs :=
  ⟨h.1, fun hn => by
    obtain ⟨b, off, e, hb, hc⟩ := h.2 hn
    exact ⟨b, off, e, hb, fun j u hu => (hk _ hb).trans (hc j u hu)⟩⟩

theorem Rd.more (h : Rd w B S A n xs) (hB : B ≤ B') : Rd w B' S A n xs :=
  ⟨h.1, fun hn => by
    obtain ⟨b, off, e, hb, hc⟩ := h.2 hn
    exact ⟨b, off, e, by omega, hc⟩⟩

theorem Rd.below (h : Rd w B S A n xs) (hb : Below B w w') : Rd w' B S A n xs := h.keep fun _ hp => hb.cell hp

theorem Rd.next (h : Rd w w.heap.size S A n xs) (hb : Below w.heap.size w w') : Rd w' w'.heap.size S A n xs :=
  (h.below hb).more hb.size

theorem Rd.of_own {base : Nat} {e : TypeId} {c : Nat} (h : w.ownsRow base e S (.slice A n c) n xs) : Rd w w.heap.size S A n xs := by
  refine ⟨h.1, fun hn => ?_⟩
  obtain ⟨g, cap, hv, _, hlt⟩ := h.form hn
  have hA : A = some ⟨g, 0, none⟩ := by injection hv
  subst hA
  refine ⟨g, 0, rfl, hlt, fun j u hu => ?_⟩
  have := h.cells (g := g) rfl j u hu
  rw [Addr.add_lit] at this
  exact this
end

theorem own_shape {w : World} {base : Nat} {e : TypeId} {S n : Nat} {v : Value} {xs : List Value} (h : w.ownsRow base e S v n xs) :
    ∃ A c, v = .slice A n c ∧ Rd w w.heap.size S A n xs ∧ n ≤ c := by
  rcases h.2 with ⟨rfl, rfl⟩ | ⟨g, cap, cur, rfl, _, _, hle, _⟩
  · exact ⟨none, 0, rfl, by have := h.1; simp at this; subst this; exact Rd.nil, Nat.le_refl _⟩
  · exact ⟨_, _, rfl, Rd.of_own h, hle⟩

theorem flat_get {α : Type} (enc : α → List Value) (S : Nat) (hS : ∀ x, (enc x).length = S) : ∀ (l : List α) (k j : Nat) (x : α), l[k]? = some x → j < S → (l.flatMap enc)[k * S + j]? = (enc x)[j]?
  | [], k, j, x, h, _ => by simp at h
  | y :: l, 0, j, x, h, hj => by
    simp at h; subst h
    rw [List.flatMap_cons, List.getElem?_append_left (by rw [hS]; omega)]
    simp
  | y :: l, k + 1, j, x, h, hj => by
    rw [List.flatMap_cons, List.getElem?_append_right (by rw [hS]; have : (k+1) * S = k * S + S := Nat.succ_mul k S; omega), hS]
    have e : (k + 1) * S + j - S = k * S + j := by have : (k+1) * S = k * S + S := Nat.succ_mul k S; omega
    rw [e]
    exact flat_get enc S hS l k j x (by simpa using h) hj

theorem flat_len {α : Type} (enc : α → List Value) (S : Nat) (hS : ∀ x, (enc x).length = S) (l : List α) : (l.flatMap enc).length = l.length * S := by
  induction l with
  | nil => simp
  | cons x l ih => rw [List.flatMap_cons, List.length_append, hS, ih, List.length_cons, Nat.succ_mul]; omega

/-- the cell j of element k -/
theorem Rd.at_ {α : Type} {w : World} {B S : Nat} {A : Option Addr} {l : List α} {enc : α → List Value} (hS : ∀ x, (enc x).length = S) (h : Rd w B S A l.length (l.flatMap enc)) {k : Nat} {x : α} (hk : l[k]? = some x) :
    ∃ b off, A = some ⟨b, off, none⟩ ∧ b < B ∧ ∀ j u, (enc x)[j]? = some u → w.cell? ⟨b, off + (k * S + j), none⟩ = some u := by
  have hlt : k < l.length := (List.getElem?_eq_some_iff.1 hk).1
  obtain ⟨b, off, e, hb, hc⟩ := h.2 (by omega)
  refine ⟨b, off, e, hb, fun j u hu => hc _ u ?_⟩
  have hj : j < S := by have := (List.getElem?_eq_some_iff.1 hu).1; rw [hS] at this; exact this
  rw [flat_get enc S hS l k j x hk hj]
  exact hu

theorem take_foldl {α β : Type} (f : β → α → β) (b : β) (l : List α) (k : Nat) (x : α) (h : l[k]? = some x) : (l.take (k + 1)).foldl f b = f ((l.take k).foldl f b) x := by
  rw [List.take_add_one, h]
  simp

theorem getElem?_of_lt {α : Type} {l : List α} {k : Nat} (h : k < l.length) : ∃ x, l[k]? = some x := ⟨_, List.getElem?_eq_getElem h⟩

theorem _root_.Go.RowKit.Below.drewN {B : Nat} {a w : World} (h : Below B a w) (n : Nat) : Below B a (w.drewN n) := ⟨h.os, h.tape, h.output, h.size, h.block⟩

theorem ret_int {k : IntKind} {a b : Int} (h : a = b) : Ending.returned (.int k a) = .returned (.int k b) := by rw [h]
theorem ret_bool {a b : Bool} (h : a = b) : Ending.returned (.bool a) = .returned (.bool b) := by rw [h]
theorem val_int {k : IntKind} {a b : Int} (h : a = b) : Value.int k a = .int k b := by rw [h]

end Go.Proofs.YtcljkdjmmolfoaaDoor

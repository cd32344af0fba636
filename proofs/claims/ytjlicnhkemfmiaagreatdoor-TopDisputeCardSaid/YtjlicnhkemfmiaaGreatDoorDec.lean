/- What an argument that can be read looks like in cells: structs of one-cell fields, arrays, slices of these. Nothing of the program. -/
import Derived.Test.YtjlicnhkemfmiaaGreatDoorM2
import Derived.ProofKit
import Derived.OpenShut
import Derived.ShutString
import Derived.ChangeOld
import Derived.Deep.Slices
import Derived.Deep.Fields
set_option linter.unusedVariables false
set_option linter.unusedSimpArgs false
namespace Go.Proofs.YtjlicnhkemfmiaaGreatDoor
open Go.RowKit Go.ChangeShapes Go.WideShapes Go.Deep Go.ChangeAt

section
variable {H : Type} {enc : TypeId × Value → H} {P : Program} {w : World} {base : Nat} {spare : Nat → Bool} {held : Bool} {fuel : Nat} {t : TypeId} {cs : List Value} {x : DataW H × List MemPlace}

theorem dec_array1 {m : Nat} {e : TypeId} (ht : P.underlying t = some (.array m e)) (he : P.cellsOf e = 1) (hC : P.cellsOf t = m) (h : DataW.trod enc P w base spare held fuel t cs = some x) :
 cs.length = m ∧ ∃ n, ∀ (j : Nat), j < m → ∃ v y, cs[j]? = some v ∧ DataW.trod enc P w base spare held n e [v] = some y := by
 obtain ⟨ys, n, _, _, hlen, hyl, hf⟩ := DataW.trod_array ht h
 rw [hC] at hlen
 refine ⟨hlen, n, fun j hj => ?_⟩
 have h1 := hf j hj
 rw [he, Nat.mul_one] at h1
 have e1 : (cs.drop j).take 1 = [cs[j]'(by omega)] := by
  rw [List.drop_eq_getElem_cons (by omega)]
  rfl
 rw [e1] at h1
 exact ⟨cs[j]'(by omega), ys[j]'(by omega), List.getElem?_eq_getElem (by omega), h1.trans (List.getElem?_eq_getElem (by omega))⟩

theorem choose_list {α : Type} {p : Nat → α → Prop} : ∀ n, (∀ i, i < n → ∃ a, p i a) → ∃ l : List α, l.length = n ∧ ∀ i a, l[i]? = some a → p i a
 | 0, _ => ⟨[], rfl, by simp⟩
 | n + 1, h => by
  obtain ⟨l, hl, hp⟩ := choose_list n (fun i hi => h i (by omega))
  obtain ⟨a, ha⟩ := h n (by omega)
  refine ⟨l ++ [a], by simp [hl], fun i b hb => ?_⟩
  by_cases hi : i < l.length
  ·
   rw [List.getElem?_append_left hi] at hb; exact hp i b hb
  ·
   have : i = n := by
    have := (List.getElem?_eq_some_iff.1 hb).1
    simp at this; omega
   subst this
   rw [List.getElem?_append_right (by omega), hl] at hb
   simp at hb; subst hb; exact ha

/-- a slice whose elements decode by 'dec' -/
theorem dec_slice {α : Type} {e : TypeId} {C : Nat} (en : α → List Value) (ok : α → Prop) (hen : ∀ a, (en a).length = C) (hC0 : 0 < C)
 (ht : P.underlying t = some (.slice e)) (hC : P.cellsOf e = C)
 (dec : ∀ (fuel : Nat) (cs : List Value) (x : DataW H × List MemPlace), DataW.trod enc P w base spare held fuel e cs = some x → ∃ a, cs = en a ∧ ok a)
 {A : Option Addr} {n c : Nat} (h : DataW.trod enc P w base spare held fuel t [.slice A n c] = some x) :
 ∃ l : List α, l.length = n ∧ Rd w w.heap.size C A l.length (l.flatMap en) ∧ (∀ a ∈ l, ok a) ∧ n ≤ c ∧ c ≤ maxLen := by
 rcases open_slice ht h with ⟨hcs, _⟩ | ⟨a, len, cap, m, k, D, Pl, hcs, _, hlc, hcm, hm, _, hi⟩
 ·
  simp at hcs
  obtain ⟨rfl, rfl, rfl⟩ := hcs
  exact ⟨[], rfl, Rd.nil, by simp, by omega, by simp [maxLen]⟩
 ·
  simp at hcs
  obtain ⟨rfl, rfl, rfl⟩ := hcs
  have hnm : n ≤ m := by rw [hm]; split <;> omega
  obtain ⟨l, hl, hp⟩ := choose_list (p := fun i a' => (∀ j u, (en a')[j]? = some u → w.cell? (a.add (i * C + j)) = some u) ∧ ok a') n (fun i hin => by
   obtain ⟨cs', hc, htr⟩ := hi i (by omega)
   rw [hC] at hc
   obtain ⟨a', rfl, hok⟩ := dec _ _ _ htr
   obtain ⟨_, hcl, hat⟩ := World.cells?_some hc
   refine ⟨a', fun j u hu => ?_, hok⟩
   have hj : j < C := by have := (List.getElem?_eq_some_iff.1 hu).1; omega
   rw [← Go.Deep.add_add, hat j hj, hu])
  refine ⟨l, hl, ⟨flat_len en C hen l, fun hn => ?_⟩, fun a' ha' => ?_, hlc, hcm⟩
  ·
   have hspot : a.spot = none := by
    obtain ⟨y, hy⟩ := getElem?_of_lt hn
    obtain ⟨u, hu⟩ := getElem?_of_lt (l := en y) (k := 0) (by rw [hen]; exact hC0)
    have := (hp 0 y hy).1 0 u hu
    simp [Addr.add] at this
    exact World.cell?_spot this
   obtain ⟨b, off, spot⟩ := a
   simp at hspot; subst hspot
   have hcell : ∀ j u, (l.flatMap en)[j]? = some u → w.cell? ⟨b, off + j, none⟩ = some u := by
    intro j u hu
    have hjl : j < l.length * C := by
     have := (List.getElem?_eq_some_iff.1 hu).1
     rwa [flat_len en C hen] at this
    have hk : j / C < l.length := Nat.div_lt_of_lt_mul (by rw [Nat.mul_comm]; exact hjl)
    obtain ⟨y, hy⟩ := getElem?_of_lt hk
    have hjm := Nat.mod_lt j hC0
    have hjj : j / C * C + j % C = j := by rw [Nat.mul_comm]; exact Nat.div_add_mod j C
    have e1 := flat_get en C hen l (j / C) (j % C) y hy hjm
    rw [hjj, hu] at e1
    have := (hp _ y hy).1 (j % C) u e1.symm
    rw [hjj, Addr.add_lit] at this
    exact this
   refine ⟨b, off, rfl, ?_, hcell⟩
   have h0 : 0 < (l.flatMap en).length := by
    rw [flat_len en C hen]; exact Nat.mul_pos hn hC0
   obtain ⟨u, hu⟩ := getElem?_of_lt h0
   exact World.block_lt_of_cell? w _ (hcell 0 u hu)
  ·
   obtain ⟨i, hia⟩ := List.mem_iff_getElem?.1 ha'
   exact (hp i a' hia).2
end

end Go.Proofs.YtjlicnhkemfmiaaGreatDoor

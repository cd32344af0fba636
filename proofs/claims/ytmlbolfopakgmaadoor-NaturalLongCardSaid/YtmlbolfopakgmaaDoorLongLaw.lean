/- plain laws for NaturalLong: digits without a leading 0 are what Format writes of their number. -/
import Derived.Test.YtmlbolfopakgmaaDoorBack
set_option linter.unusedVariables false
set_option linter.unusedSimpArgs false
namespace Go.Proofs.YtmlbolfopakgmaaDoor
open Go.RowKit

theorem decOf_back {l : List Nat} (h : Ten l) (hne : l ≠ []) (hh : l.head hne ≠ 0) : decOf (valT l.reverse) = l.map (48 + ·) := by
  have ht : Ten l.reverse := fun x hx => h x (List.mem_reverse.1 hx)
  have hd : decs (valT l.reverse) = l.reverse := by
    refine decs_valT _ ht fun _ => ?_
    rw [List.getLast?_reverse, List.head?_eq_some_head hne]
    simpa using hh
  have h0 : valT l.reverse ≠ 0 := by
    intro e
    rw [e, decs_zero] at hd
    exact hne (List.reverse_eq_nil_iff.1 hd.symm)
  rw [decOf, if_neg h0, hd, chars, List.reverse_reverse]

/-- the digits that the law writes -/
def dgRow (f n : Nat) : List Nat := (List.range n).map fun i => (i + f) % 10
def dgFix (l : List Nat) : List Nat := if l.getD 0 0 = 0 then l.set 0 1 else l
theorem dgRow_len (f n : Nat) : (dgRow f n).length = n := by simp [dgRow]
theorem dgRow_get {f n i : Nat} (h : i < n) : (dgRow f n).getD i 0 = (i + f) % 10 := by simp [dgRow, h]
theorem dgRow_ten (f n : Nat) : Ten (dgRow f n) := by
  intro x hx
  obtain ⟨i, _, rfl⟩ := List.mem_map.1 hx
  exact Nat.mod_lt _ (by decide)
theorem dgFix_len (l : List Nat) : (dgFix l).length = l.length := by unfold dgFix; split <;> simp
theorem dgFix_ten {l : List Nat} (h : Ten l) : Ten (dgFix l) := by
  unfold dgFix; split
  · intro x hx
    rcases List.mem_or_eq_of_mem_set hx with hx | hx
    · exact h x hx
    · omega
  · exact h
theorem dgFix_head {l : List Nat} (hp : 0 < l.length) : (dgFix l).getD 0 0 ≠ 0 := by
  unfold dgFix; split
  · rcases l with _ | ⟨x, l⟩
    · simp at hp
    · simp
  · assumption

theorem valT_lt256 : ∀ (l : List Nat), Ten l → valT l < 256 ^ l.length
  | [], _ => by simp [valT]
  | x :: l, h => by
    have hx : x < 10 := h x (by simp)
    have ih := valT_lt256 l (fun y hy => h y (by simp [hy]))
    rw [valT, List.length_cons, Nat.pow_succ]
    omega

theorem long_facts {l : List Nat} (h : Ten l) (hp : 0 < l.length) (hh : l.getD 0 0 ≠ 0) :
    (nstr (l.map (48 + ·))).size = l.length ∧ ((g : 0 < (nstr (l.map (48 + ·))).size) → ((nstr (l.map (48 + ·)))[0]'g).toNat ≠ 48) ∧ Dgt (nstr (l.map (48 + ·))).data.toList ∧ decOf (decv (nstr (l.map (48 + ·))).data.toList) = l.map (48 + ·) ∧ (ncan (decv (nstr (l.map (48 + ·))).data.toList)).size ≤ l.length := by
  have hne : l ≠ [] := by rintro rfl; simp at hp
  have he : chars l.reverse = l.map (48 + ·) := by rw [chars, List.reverse_reverse]
  have hr : Ten l.reverse := fun x hx => h x (List.mem_reverse.1 hx)
  have hb : (nstr (l.map (48 + ·))).data.toList = (chars l.reverse).map UInt8.ofNat := by rw [he]; simp [nstr, bstr]
  have hhd : l.head hne = l.getD 0 0 := by
    rcases l with _ | ⟨x, l⟩
    · simp at hp
    · rfl
  refine ⟨by rw [nstr_size, List.length_map], fun g => ?_, by rw [hb]; exact dgt_chars hr, ?_, ?_⟩
  · have e2 : ((nstr (l.map (48 + ·)))[0]'g) = ((l.map (48 + ·)).map UInt8.ofNat).head (by simpa using hne) := bstr_head _ g
    rw [e2]
    have e3 : ((l.map (48 + ·)).map UInt8.ofNat).head (by simpa using hne) = UInt8.ofNat (48 + l.getD 0 0) := by
      rw [← hhd]; simp only [List.head_map]
    rw [e3, ofNat_dig (h _ (by rw [← hhd]; exact List.head_mem hne))]
    omega
  · rw [hb, decv_chars _ hr]
    exact decOf_back h hne (by rw [hhd]; exact hh)
  · rw [hb, decv_chars _ hr, ncan_size]
    have := valT_lt256 _ hr
    rw [List.length_reverse] at this
    exact canon_len_le this

end Go.Proofs.YtmlbolfopakgmaaDoor

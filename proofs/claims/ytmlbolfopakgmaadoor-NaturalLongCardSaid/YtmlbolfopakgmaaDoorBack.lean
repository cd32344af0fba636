/- Format's digits read again. -/
import Derived.Test.YtmlbolfopakgmaaDoorParseTen
import Derived.Test.YtmlbolfopakgmaaDoorFew2
set_option linter.unusedVariables false
set_option linter.unusedSimpArgs false
namespace Go.Proofs.YtmlbolfopakgmaaDoor
open Go.RowKit

theorem ofNat_dig {x : Nat} (h : x < 10) : (UInt8.ofNat (48 + x)).toNat = 48 + x := by
  rw [UInt8.toNat_ofNat']; omega

theorem decv_chars : ∀ (l : List Nat), Ten l → decv ((chars l).map UInt8.ofNat) = valT l
  | [], _ => rfl
  | x :: l, h => by
    have hx : x < 10 := h x (by simp)
    have ih := decv_chars l (fun y hy => h y (by simp [hy]))
    have e : (chars (x :: l)).map UInt8.ofNat = (chars l).map UInt8.ofNat ++ [UInt8.ofNat (48 + x)] := by simp [chars]
    rw [e, decv_snoc, ih, ofNat_dig hx, valT]
    omega

theorem dgt_chars {l : List Nat} (h : Ten l) : Dgt ((chars l).map UInt8.ofNat) := by
  intro b hb
  obtain ⟨y, hy, rfl⟩ := List.mem_map.1 hb
  unfold chars at hy
  obtain ⟨z, hz, rfl⟩ := List.mem_map.1 hy
  have := h z (List.mem_reverse.1 hz)
  rw [ofNat_dig this]; omega

theorem decs_last (n : Nat) : ∀ (h : decs n ≠ []), (decs n).getLast h ≠ 0 := by
  induction n using Nat.strongRecOn with
  | ind n ih =>
    intro h
    have h0 : n ≠ 0 := by rintro rfl; exact h decs_zero
    have e := decs_pos h0
    by_cases h1 : n / 10 = 0
    · rw [h1, decs_zero] at e
      simp only [e, List.getLast_singleton]
      omega
    · have hne : decs (n / 10) ≠ [] := by rw [decs_pos h1]; simp
      simp only [e]
      rw [List.getLast_cons hne]
      exact ih (n / 10) (by omega) hne

theorem fmt_bytes (n : Nat) : (nstr (decOf n)).data.toList = (decOf n).map UInt8.ofNat := by simp [nstr, bstr]

theorem fmt_facts {n : Nat} (hn : n < 256 ^ 60) : 0 < (nstr (decOf n)).size ∧ (nstr (decOf n)).size ≤ 2000 ∧ ((h : 0 < (nstr (decOf n)).size) → (nstr (decOf n)).size = 1 ∨ ((nstr (decOf n))[0]'h).toNat ≠ 48) ∧ Dgt (nstr (decOf n)).data.toList ∧ decv (nstr (decOf n)).data.toList = n := by
  by_cases h0 : n = 0
  · subst h0
    have e : nstr (decOf 0) = ⟨#[48]⟩ := rfl
    rw [e]
    refine ⟨by decide, by decide, fun _ => .inl rfl, ?_, rfl⟩
    intro b hb
    have : b = 48 := by simpa using hb
    subst this; decide
  · have hd : decOf n = chars (decs n) := by rw [decOf, if_neg h0]
    have hsz : (nstr (decOf n)).size = (decs n).length := by rw [Lib.size_eq, fmt_bytes, hd]; simp [chars]
    have hne : decs n ≠ [] := by rw [decs_pos h0]; simp
    have hlp : 0 < (decs n).length := List.length_pos_iff.2 hne
    have hll : (decs n).length ≤ 145 := decs_len_le (Nat.lt_of_lt_of_le hn (by decide +kernel))
    refine ⟨by omega, by omega, fun h => .inr ?_, ?_, ?_⟩
    · have e1 : (nstr (decOf n)) = bstr ((decOf n).map UInt8.ofNat) := rfl
      have e2 : ((nstr (decOf n))[0]'h) = ((decOf n).map UInt8.ofNat).head (by rw [hd]; simp [chars, hne]) := by
        exact bstr_head _ h
      rw [e2]
      have e3 : ((decOf n).map UInt8.ofNat).head (by rw [hd]; simp [chars, hne]) = UInt8.ofNat (48 + (decs n).getLast hne) := by
        simp only [hd, chars, List.head_map, List.head_reverse]
      rw [e3]
      have h10 : (decs n).getLast hne < 10 := decs_ten n _ (List.getLast_mem hne)
      rw [ofNat_dig h10]
      have := decs_last n hne
      omega
    · rw [fmt_bytes, hd]; exact dgt_chars (decs_ten n)
    · rw [fmt_bytes, hd, decv_chars _ (decs_ten n), valT_decs]

end Go.Proofs.YtmlbolfopakgmaaDoor

/- What a struct of a sign and two strings means as a rational number: plain. -/
import Derived.Test.YtjlicnhkemfmiaaGreatDoorM15
import Derived.Test.YtjlicnhkemfmiaaGreatDoorValid
set_option linter.unusedVariables false
set_option linter.unusedSimpArgs false
namespace Go.Proofs.YtjlicnhkemfmiaaGreatDoor
open Go.RowKit

structure FQ where
  neg : Bool
  num : ByteArray
  den : ByteArray
def FQ.vl (a : FQ) : Bool := vld a.neg a.num a.den
def FQ.fits (k : Nat) (a : FQ) : Prop := a.num.size ≤ k ∧ a.den.size ≤ k
def FQ.cells (a : FQ) : List Value := [.bool a.neg, .string a.num, .string a.den]
def FQ.val (a : FQ) : Value := .agg #[.bool a.neg, .string a.num, .string a.den]
/-- what it stands for; what is not valid stands for nought -/
def fixR (a : FQ) : Rat := if a.vl = true then rv a.neg (snum a.num) (if snum a.den = 0 then 1 else snum a.den) else 0
theorem fixR_not {a : FQ} (h : a.vl = false) : fixR a = 0 := by unfold fixR; rw [h]; rfl
theorem snum_lt_size (s : ByteArray) : snum s < 256 ^ s.size := by
  have := num_lt s.data.toList
  have e : s.data.toList.length = s.size := Array.length_toList
  rw [e] at this
  exact this
theorem fix_fields {a : FQ} (h : a.vl = true) : rneg (fixR a) = a.neg ∧ rnum (fixR a) = a.num ∧ rden (fixR a) = a.den := by
  obtain ⟨neg, num, den⟩ := a
  have hv := h
  unfold FQ.vl vld at h
  simp only [Bool.and_eq_true, decide_eq_true_eq] at h
  obtain ⟨h1, h2, h3⟩ := h
  unfold fixR
  rw [if_pos hv]
  dsimp only
  by_cases h0 : snum num = 0
  · rw [if_pos h0, Bool.and_eq_true, decide_eq_true_eq] at h3
    obtain ⟨h3, h4⟩ := h3
    have hn : neg = false := by simpa using h3
    rw [h0, rv_zero, rneg_zero, rnum_zero, rden_zero, nrm_zero h1 h0, nrm_zero h2 h4, hn]
    exact ⟨rfl, rfl, rfl⟩
  · rw [if_neg h0] at h3
    by_cases hd : snum den = 0
    · rw [if_pos hd]
      have e2 : (rv neg (snum num) 1).den = 1 := by rw [rv_den (by decide), Nat.gcd_one_right]
      have e3 : (rv neg (snum num) 1).num.natAbs = snum num := by rw [rv_num (by decide), Nat.gcd_one_right, Nat.div_one]
      refine ⟨rv_neg h0 (by decide), ?_, ?_⟩
      · rw [rnum, e3]; exact h1
      · rw [rden, if_pos e2]; exact (nrm_zero h2 hd).symm
    · rw [if_neg hd]
      have hg : snum den ≠ 1 ∧ Nat.gcd (snum num) (snum den) = 1 := by simpa [hd] using h3
      have e2 : (rv neg (snum num) (snum den)).den = snum den := by rw [rv_den hd, hg.2, Nat.div_one]
      have e3 : (rv neg (snum num) (snum den)).num.natAbs = snum num := by rw [rv_num hd, hg.2, Nat.div_one]
      refine ⟨rv_neg h0 hd, ?_, ?_⟩
      · rw [rnum, e3]; exact h1
      · rw [rden, if_neg (by rw [e2]; exact hg.1), e2]; exact h2
theorem fix_val {a : FQ} (h : a.vl = true) : ratV (fixR a) = a.val := by
  obtain ⟨h1, h2, h3⟩ := fix_fields h
  rw [ratV, h1, h2, h3]; rfl
theorem fix_sz {a : FQ} {k : Nat} (h : a.fits k) (hk : 0 < k) : Sz k (fixR a) := by
  have hp : 1 < 256 ^ k := Nat.one_lt_pow (by omega) (by decide)
  unfold fixR
  split
  · have h1 := Nat.lt_of_lt_of_le (snum_lt_size a.num) (Nat.pow_le_pow_right (by decide) h.1)
    have h2 := Nat.lt_of_lt_of_le (snum_lt_size a.den) (Nat.pow_le_pow_right (by decide) h.2)
    split
    · exact Sz.rv (by decide) h1 hp
    · rename_i h0; exact Sz.rv h0 h1 h2
  · exact ⟨by show 0 < _; omega, by show 1 < _; exact hp⟩
/-- a number's own struct -/
def fqOf (q : Rat) : FQ := ⟨rneg q, rnum q, rden q⟩
theorem fqOf_val (q : Rat) : (fqOf q).val = ratV q := rfl
theorem vld_rqP (q : Rat) : (fqOf q).vl = true := by
  have hn : nrm (rnum q) = rnum q := by unfold nrm rnum; rw [snum_ncan]
  have hs : snum (rnum q) = q.num.natAbs := by unfold rnum; rw [snum_ncan]
  have hd0 := q.den_nz
  have hr : Nat.gcd q.num.natAbs q.den = 1 := q.reduced
  show vld (rneg q) (rnum q) (rden q) = true
  by_cases h1 : q.den = 1
  · have e : rden q = ⟨#[]⟩ := if_pos h1
    have e2 : nrm (⟨#[]⟩ : ByteArray) = ⟨#[]⟩ := by unfold nrm; rw [snum_emptyB, ncan_zero']
    unfold vld
    rw [hn, hs, e, e2, snum_emptyB]
    by_cases h0 : q.num.natAbs = 0
    · have : rneg q = false := by unfold rneg; exact decide_eq_false (by omega)
      simp [h0, this]
    · simp [h0]
  · have e : rden q = ncan q.den := if_neg h1
    have e2 : nrm (ncan q.den) = ncan q.den := by unfold nrm; rw [snum_ncan]
    have h0 : q.num.natAbs ≠ 0 := fun h => by rw [h, Nat.gcd_zero_left] at hr; exact h1 hr
    unfold vld
    rw [hn, hs, e, e2, snum_ncan, if_neg h0]
    simp [h1, hr]
theorem fixR_of (q : Rat) : fixR (fqOf q) = q := by
  obtain ⟨h1, h2, h3⟩ := fix_fields (vld_rqP q)
  exact rat_inj h1 h2 h3
theorem sgnR_pos {q : Rat} : 0 < sgnR q ↔ 0 < q := by
  unfold sgnR
  by_cases h0 : q = 0
  · rw [if_pos h0, h0]; constructor <;> intro h <;> first | exact absurd h (by decide) | omega
  · rw [if_neg h0]
    rw [rneg_lt]
    by_cases hn : q < 0
    · rw [decide_eq_true hn, if_pos rfl]
      constructor
      · intro h; omega
      · intro h; exact absurd (Rat.le_of_lt h) (Rat.not_le.2 hn)
    · rw [decide_eq_false hn]
      constructor
      · intro _
        exact Rat.lt_of_le_of_ne (Rat.not_lt.1 hn) (Ne.symm h0)
      · intro _; decide

end Go.Proofs.YtjlicnhkemfmiaaGreatDoor

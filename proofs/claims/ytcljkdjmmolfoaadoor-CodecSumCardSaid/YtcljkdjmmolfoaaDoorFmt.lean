/- natural.Format. -/
import Derived.Test.YtcljkdjmmolfoaaDoorRev
import Derived.Test.YtcljkdjmmolfoaaDoorTen
set_option linter.unusedVariables false
set_option linter.unusedSimpArgs false
namespace Go.Proofs.YtcljkdjmmolfoaaDoor
open Go.RowKit

theorem fmt_step {ds : List Nat} {r V : Nat} (h : valT ds + 10 ^ ds.length * r = V) : valT (ds ++ [r % 10]) + 10 ^ (ds ++ [r % 10]).length * (r / 10) = V := by
  rw [valT_snoc, List.length_append, List.length_singleton, Nat.pow_succ]
  have := Nat.div_add_mod r 10
  generalize 10 ^ ds.length = P at *
  rw [← h]
  conv => rhs; rw [← this]
  grind

theorem pow9 {r m : Nat} (h : r < 10 ^ (9 - m)) (hm : m < 9) : r / 10 < 10 ^ (9 - (m + 1)) := by
  have e : 9 - m = (9 - (m + 1)) + 1 := by omega
  rw [e, Nat.pow_succ] at h
  omega

theorem own_next {w w' : World} {base e size n : Nat} {v : Value} {xs : List Value} (h : w.ownsRow base e size v n xs) (hb : Below w.heap.size w w') : w'.ownsRow base e size v n xs := by
  refine ⟨h.1, ?_⟩
  rcases h.2 with hn | ⟨g, cap, cur, rfl, hb2, hgg, rest⟩
  · exact .inl hn
  · refine .inr ⟨g, cap, cur, rfl, hb2, ?_, rest⟩
    rw [hb.block g (Array.getElem?_eq_some_iff.1 hgg).1]
    exact hgg

theorem own_ne {w : World} {base n : Nat} {T1 T2 : TypeId} {v : Value} {xs : List Value} {k : IntKind} {g : Nat} {l : List Nat} (h : w.ownsRow base T1 1 v n xs) (hr : KRow k T2 w g l) (hne : T1 ≠ T2) : some g ≠ v.ownBlock := by
  intro e
  rcases h.2 with ⟨rfl, _⟩ | ⟨g', cap, cur, rfl, _, hgg, _⟩
  · simp [Value.ownBlock] at e
  · simp only [Value.ownBlock, Option.some.injEq] at e
    subst e
    obtain ⟨cur2, h2, _⟩ := hr
    rw [hgg] at h2
    simp only [Option.some.injEq, Obj.cells.injEq] at h2
    exact hne h2.2.1

/-- the string of characters that are numbers -/
theorem nstr_trim {l : List Nat} (hl : Ten l) : bstr ((nstr (chars l)).data.toList.dropWhile (· == 48)) = nstr (chars (decs (valT l))) := by
  show bstr (((chars l).map UInt8.ofNat).dropWhile (· == 48)) = bstr ((chars (decs (valT l))).map UInt8.ofNat)
  congr 1
  rw [← chars_trim hl]
  have hb := chars_byte hl
  generalize chars l = c at *
  induction c with
  | nil => rfl
  | cons x c ih =>
    have hx := hb x (by simp)
    have ih' := ih (fun y hy => hb y (by simp [hy]))
    rw [List.map_cons, List.dropWhile_cons, List.dropWhile_cons]
    by_cases h : x = 48
    · subst h
      simpa using ih'
    · have e1 : (x == 48) = false := by simpa using h
      have e2 : (UInt8.ofNat x == 48) = false := by
        simp only [beq_eq_false_iff_ne]
        intro h2
        have := congrArg UInt8.toNat h2
        simp at this
        omega
      rw [e1, e2]; rfl

theorem lt_pow9 (a : Nat) : a < 1000000000 ^ (2 * (limbs a).length) := by
  have h := lt_pow_limbs a
  refine Nat.lt_of_lt_of_le h ?_
  rw [Nat.pow_mul]
  exact Nat.pow_le_pow_left (by decide) _

theorem fmt_outer {ds ds9 : List Nat} {x a V : Nat} (h : valT ds + 10 ^ ds.length * x = a) (hV : V = valT ds + 10 ^ ds.length * (x % 1000000000)) (h9 : valT ds9 = V) (hl : ds9.length = ds.length + 9) : valT ds9 + 10 ^ ds9.length * (x / 1000000000) = a := by
  rw [h9, hV, hl, ← h, Nat.pow_add]
  have := Nat.div_add_mod x 1000000000
  have e : (10 : Nat) ^ 9 = 1000000000 := by decide
  rw [e]
  generalize 10 ^ ds.length = P at *
  conv => rhs; rw [← this]
  grind

end Go.Proofs.YtcljkdjmmolfoaaDoor

/- Decimal digits: plain laws. Nothing of the program. -/
import Derived.Test.YtcljkdjmmolfoaaDoorNum
set_option linter.unusedVariables false
set_option linter.unusedSimpArgs false
namespace Go.Proofs.YtcljkdjmmolfoaaDoor

def valT : List Nat → Nat
  | [] => 0
  | x :: l => x + 10 * valT l
def Ten (l : List Nat) : Prop := ∀ x ∈ l, x < 10

theorem valT_snoc (l : List Nat) (x : Nat) : valT (l ++ [x]) = valT l + 10 ^ l.length * x := by
  induction l with
  | nil => simp [valT]
  | cons y l ih => simp only [List.cons_append, valT, ih, List.length_cons, Nat.pow_succ]; grind

def decs (n : Nat) : List Nat := if n = 0 then [] else n % 10 :: decs (n / 10)
termination_by n
decreasing_by omega

theorem decs_zero : decs 0 = [] := by rw [decs]; simp
theorem decs_pos {n : Nat} (h : n ≠ 0) : decs n = n % 10 :: decs (n / 10) := by rw [decs]; simp [h]
theorem valT_decs (n : Nat) : valT (decs n) = n := by
  induction n using Nat.strongRecOn with
  | ind n ih =>
    by_cases h : n = 0
    · subst h; rw [decs_zero]; rfl
    · rw [decs_pos h, valT, ih _ (by omega)]; omega
theorem decs_ten (n : Nat) : Ten (decs n) := by
  induction n using Nat.strongRecOn with
  | ind n ih =>
    by_cases h : n = 0
    · subst h; rw [decs_zero]; simp [Ten]
    · rw [decs_pos h]
      intro x hx
      rcases List.mem_cons.1 hx with hx | hx
      · omega
      · exact ih _ (by omega) x hx

theorem decs_valT : ∀ (l : List Nat), Ten l → (l ≠ [] → l.getLast? ≠ some 0) → decs (valT l) = l
  | [], _, _ => by simp [valT, decs_zero]
  | x :: l, hd, ht => by
    have hx : x < 10 := hd x (by simp)
    have hdl : Ten l := fun y hy => hd y (by simp [hy])
    have ht' : l ≠ [] → l.getLast? ≠ some 0 := by
      intro hl
      have := ht (by simp)
      rwa [List.getLast?_cons_of_ne_nil hl] at this
    have ih := decs_valT l hdl ht'
    have hne : x + 10 * valT l ≠ 0 := by
      intro h
      have h1 : x = 0 := by omega
      have h2 : valT l = 0 := by omega
      rcases l with _ | ⟨y, l⟩
      · have := ht (by simp)
        simp at this
        exact this h1
      · rw [h2, decs_zero] at ih
        simp at ih
    rw [valT, decs_pos hne]
    have e1 : (x + 10 * valT l) % 10 = x := by omega
    have e2 : (x + 10 * valT l) / 10 = valT l := by omega
    rw [e1, e2, ih]

/-- the characters of digits, the greatest first -/
def chars (l : List Nat) : List Nat := l.reverse.map (48 + ·)
/-- a number in decimal -/
def decOf (n : Nat) : List Nat := if n = 0 then [48] else chars (decs n)

theorem valT_dropZ (l : List Nat) : valT ((l.reverse.dropWhile (· == 0)).reverse) = valT l := by
  generalize hr : l.reverse = r
  have hl : l = r.reverse := by rw [← hr, List.reverse_reverse]
  subst hl
  clear hr
  induction r with
  | nil => rfl
  | cons x r ih =>
    rw [List.dropWhile_cons]
    split
    · rename_i h
      have h0 : x = 0 := by simpa using h
      subst h0
      rw [ih, List.reverse_cons, valT_snoc]; simp
    · rfl

theorem chars_trim {l : List Nat} (hl : Ten l) : (chars l).dropWhile (· == 48) = chars (decs (valT l)) := by
  have h1 : (l.reverse.map (48 + ·)).dropWhile (· == 48) = (l.reverse.dropWhile (· == 0)).map (48 + ·) := by
    rw [List.dropWhile_map]
    congr 1
    apply congrArg (fun f => List.dropWhile f l.reverse)
    funext x
    simp only [Function.comp]
    by_cases hx : x = 0
    · subst hx; rfl
    · have e1 : (48 + x == 48) = false := by simp; exact hx
      have e2 : (x == 0) = false := by simpa using hx
      rw [e1, e2]
  unfold chars
  rw [h1]
  congr 1
  have h2 : decs (valT ((l.reverse.dropWhile (· == 0)).reverse)) = (l.reverse.dropWhile (· == 0)).reverse := by
    apply decs_valT
    · intro x hx
      exact hl x (by simpa using (List.dropWhile_sublist _).subset (List.mem_reverse.1 hx))
    · intro h
      rw [List.getLast?_reverse]
      intro h0
      have h3 := List.head?_dropWhile_not (· == 0) l.reverse
      rw [h0] at h3
      simp at h3
  rw [valT_dropZ] at h2
  rw [h2, List.reverse_reverse]

theorem decs_len_le {n k : Nat} (h : n < 10 ^ k) : (decs n).length ≤ k := by
  induction k generalizing n with
  | zero => simp at h; subst h; simp [decs_zero]
  | succ k ih =>
    by_cases h0 : n = 0
    · subst h0; simp [decs_zero]
    · rw [decs_pos h0, List.length_cons]
      have := ih (n := n / 10) (by rw [Nat.pow_succ] at h; omega)
      omega

/-- the number that digits represent, the greatest first -/
def numT (l : List Nat) : Nat := valT l.reverse
theorem numT_snoc (l : List Nat) (x : Nat) : numT (l ++ [x]) = numT l * 10 + x := by
  rw [numT, List.reverse_append]; simp [valT, numT]; omega
theorem numT_nil : numT [] = 0 := rfl

theorem chars_byte {l : List Nat} (hl : Ten l) : ∀ x ∈ chars l, 48 ≤ x ∧ x < 58 := by
  intro x hx
  obtain ⟨y, hy, rfl⟩ := List.mem_map.1 hx
  have := hl y (by simpa using hy)
  omega

end Go.Proofs.YtcljkdjmmolfoaaDoor

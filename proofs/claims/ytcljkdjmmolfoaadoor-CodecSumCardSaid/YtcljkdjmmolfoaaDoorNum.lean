/- Numbers in base 2^32 and in base 256: plain laws. Nothing of the program. -/
import Derived.NoCompiler
set_option linter.unusedVariables false
set_option linter.unusedSimpArgs false
namespace Go.Proofs.YtcljkdjmmolfoaaDoor

/-- the value of digits in base 2^32, the least one first -/
def valL : List Nat → Nat
  | [] => 0
  | x :: l => x + 4294967296 * valL l

def Dig (l : List Nat) : Prop := ∀ x ∈ l, x < 4294967296

theorem Dig.nil : Dig [] := by simp [Dig]
theorem Dig.tail {x : Nat} {l : List Nat} (h : Dig (x :: l)) : Dig l := fun y hy => h y (by simp [hy])
theorem Dig.head {x : Nat} {l : List Nat} (h : Dig (x :: l)) : x < 4294967296 := h x (by simp)
theorem Dig.get {l : List Nat} (h : Dig l) {k x : Nat} (hk : l[k]? = some x) : x < 4294967296 := h x (List.mem_of_getElem? hk)
theorem Dig.getD {l : List Nat} (h : Dig l) (k : Nat) : l.getD k 0 < 4294967296 := by
  rw [List.getD_eq_getElem?_getD]
  rcases hk : l[k]? with _ | x
  · simp
  · simpa using h.get hk
theorem Dig.take {l : List Nat} (h : Dig l) (k : Nat) : Dig (l.take k) := fun x hx => h x (List.mem_of_mem_take hx)
theorem Dig.drop {l : List Nat} (h : Dig l) (k : Nat) : Dig (l.drop k) := fun x hx => h x (List.mem_of_mem_drop hx)
theorem Dig.append {a b : List Nat} (ha : Dig a) (hb : Dig b) : Dig (a ++ b) := fun x hx => (List.mem_append.1 hx).elim (ha x) (hb x)
theorem Dig.set {l : List Nat} (h : Dig l) (k : Nat) {x : Nat} (hx : x < 4294967296) : Dig (l.set k x) := fun y hy => (List.mem_or_eq_of_mem_set hy).elim (h y) (fun e => e ▸ hx)
theorem Dig.zeros (k : Nat) : Dig (List.replicate k 0) := fun x hx => by rw [(List.mem_replicate.1 hx).2]; omega
theorem Dig.one {x : Nat} (h : x < 4294967296) : Dig [x] := by simp [Dig, h]
theorem Dig.cons {x : Nat} {l : List Nat} (h : x < 4294967296) (hl : Dig l) : Dig (x :: l) := fun y hy => (List.mem_cons.1 hy).elim (fun e => e ▸ h) (hl y)

theorem valL_append : ∀ (a b : List Nat), valL (a ++ b) = valL a + 4294967296 ^ a.length * valL b
  | [], b => by simp [valL]
  | x :: a, b => by
    simp only [List.cons_append, valL, valL_append a b, List.length_cons, Nat.pow_succ]
    grind

theorem valL_snoc (a : List Nat) (x : Nat) : valL (a ++ [x]) = valL a + 4294967296 ^ a.length * x := by
  rw [valL_append]; simp [valL]

theorem valL_zeros : ∀ (k : Nat), valL (List.replicate k 0) = 0
  | 0 => rfl
  | k + 1 => by simp [List.replicate_succ, valL, valL_zeros k]

theorem valL_lt : ∀ (l : List Nat), Dig l → valL l < 4294967296 ^ l.length
  | [], _ => by simp [valL]
  | x :: l, h => by
    have h1 := h.head
    have h2 := valL_lt l h.tail
    simp only [valL, List.length_cons, Nat.pow_succ]
    omega

theorem take_snoc_getD (l : List Nat) (k : Nat) (h : k < l.length) : l.take (k + 1) = l.take k ++ [l.getD k 0] := by
  rw [List.take_succ_eq_append_getElem h]
  simp [List.getD_eq_getElem?_getD, h]

theorem valL_take_succ (l : List Nat) (k : Nat) (h : k < l.length) : valL (l.take (k + 1)) = valL (l.take k) + 4294967296 ^ k * l.getD k 0 := by
  rw [take_snoc_getD l k h, valL_snoc, List.length_take_of_le (by omega)]

theorem valL_drop (l : List Nat) (k : Nat) (h : k < l.length) : valL (l.drop k) = l.getD k 0 + 4294967296 * valL (l.drop (k + 1)) := by
  rw [List.drop_eq_getElem_cons h, valL]
  simp [List.getD_eq_getElem?_getD, h]

theorem valL_split (l : List Nat) (k : Nat) (h : k ≤ l.length) : valL l = valL (l.take k) + 4294967296 ^ k * valL (l.drop k) := by
  have := valL_append (l.take k) (l.drop k)
  rw [List.take_append_drop, List.length_take_of_le h] at this
  exact this

/-! ### the digits of a number -/
def limbs (n : Nat) : List Nat := if n = 0 then [] else n % 4294967296 :: limbs (n / 4294967296)
termination_by n
decreasing_by omega

theorem limbs_zero : limbs 0 = [] := by rw [limbs]; simp
theorem limbs_pos {n : Nat} (h : n ≠ 0) : limbs n = n % 4294967296 :: limbs (n / 4294967296) := by rw [limbs]; simp [h]

theorem limbs_dig (n : Nat) : Dig (limbs n) := by
  induction n using Nat.strongRecOn with
  | ind n ih =>
    by_cases h : n = 0
    · subst h; rw [limbs_zero]; exact Dig.nil
    · rw [limbs_pos h]
      exact Dig.cons (by omega) (ih _ (by omega))

theorem valL_limbs (n : Nat) : valL (limbs n) = n := by
  induction n using Nat.strongRecOn with
  | ind n ih =>
    by_cases h : n = 0
    · subst h; rw [limbs_zero]; rfl
    · rw [limbs_pos h, valL, ih _ (by omega)]
      omega

theorem limbs_eq_nil {n : Nat} : limbs n = [] ↔ n = 0 := by
  constructor
  · intro h; have := valL_limbs n; rw [h] at this; exact this.symm
  · rintro rfl; exact limbs_zero

theorem limbs_len_pos {n : Nat} (h : n ≠ 0) : 0 < (limbs n).length := by rw [limbs_pos h]; simp

theorem limbs_last : ∀ (n : Nat), n ≠ 0 → (limbs n).getD ((limbs n).length - 1) 0 ≠ 0 := by
  intro n
  induction n using Nat.strongRecOn with
  | ind n ih =>
    intro h
    rw [limbs_pos h]
    by_cases h2 : n / 4294967296 = 0
    · rw [h2, limbs_zero]
      simp
      omega
    · have := ih _ (by omega) h2
      have hl := limbs_len_pos h2
      simp only [List.length_cons]
      obtain ⟨k, hk⟩ : ∃ k, (limbs (n / 4294967296)).length = k + 1 := ⟨_, (Nat.succ_pred_eq_of_pos hl).symm⟩
      rw [hk] at this ⊢
      simpa using this

/-- no leading zero -/
def Trim (l : List Nat) : Prop := l ≠ [] → l.getD (l.length - 1) 0 ≠ 0

theorem limbs_trim (n : Nat) : Trim (limbs n) := fun h => limbs_last n (fun e => h (limbs_eq_nil.2 e))

theorem limbs_valL : ∀ (l : List Nat), Dig l → Trim l → limbs (valL l) = l
  | [], _, _ => by simp [valL, limbs_zero]
  | x :: l, hd, ht => by
    have hx := hd.head
    have hne : x + 4294967296 * valL l ≠ 0 := by
      intro h
      have h1 : x = 0 := by omega
      have h2 : valL l = 0 := by omega
      have ih := limbs_valL l hd.tail
      rcases l with _ | ⟨y, l⟩
      · have := ht (by simp); simp at this; omega
      · have ht' : Trim (y :: l) := fun _ => by have := ht (by simp); simpa using this
        have := ih ht'
        rw [h2, limbs_zero] at this
        simp at this
    rw [valL, limbs_pos hne]
    have e1 : (x + 4294967296 * valL l) % 4294967296 = x := by omega
    have e2 : (x + 4294967296 * valL l) / 4294967296 = valL l := by omega
    rw [e1, e2, limbs_valL l hd.tail]
    intro hl
    have := ht (by simp)
    obtain ⟨y, l', rfl⟩ := List.exists_cons_of_ne_nil hl
    simpa using this

theorem valL_eq_zero {l : List Nat} (h : ∀ x ∈ l, x = 0) : valL l = 0 := by
  induction l with
  | nil => rfl
  | cons x l ih => rw [valL, ih (fun y hy => h y (by simp [hy])), h x (by simp)]

/-- what trimming leaves -/
theorem trim_take {l : List Nat} (hd : Dig l) {k : Nat} (hk : k ≤ l.length) (hz : ∀ x ∈ l.drop k, x = 0) (ht : k = 0 ∨ l.getD (k - 1) 0 ≠ 0) : l.take k = limbs (valL l) := by
  have h1 : valL l = valL (l.take k) := by
    rw [valL_split l k hk, valL_eq_zero hz]; simp
  rw [h1, limbs_valL _ (hd.take k)]
  intro hne
  rcases ht with rfl | ht
  · simp at hne
  · rw [List.length_take_of_le hk]
    have hk0 : 0 < k := by
      rcases k with _ | k
      · simp at hne
      · omega
    rwa [List.getD_eq_getElem?_getD, List.getElem?_take, if_pos (by omega), ← List.getD_eq_getElem?_getD]

theorem limbs_len_le {n k : Nat} (h : n < 4294967296 ^ k) : (limbs n).length ≤ k := by
  induction k generalizing n with
  | zero => simp at h; subst h; simp [limbs_zero]
  | succ k ih =>
    by_cases h0 : n = 0
    · subst h0; simp [limbs_zero]
    · rw [limbs_pos h0, List.length_cons]
      have := ih (n := n / 4294967296) (by rw [Nat.pow_succ] at h; exact Nat.div_lt_of_lt_mul (by rwa [Nat.mul_comm] at h))
      omega

theorem lt_pow_limbs (n : Nat) : n < 4294967296 ^ (limbs n).length := by
  have := valL_lt _ (limbs_dig n)
  rwa [valL_limbs] at this

theorem pow_le_limbs {n : Nat} (h : n ≠ 0) : 4294967296 ^ ((limbs n).length - 1) ≤ n := by
  rcases Nat.lt_or_ge n (4294967296 ^ ((limbs n).length - 1)) with h1 | h1
  · have := limbs_len_le h1
    have := limbs_len_pos h
    omega
  · exact h1

theorem lt_of_len {a b : Nat} (h : (limbs a).length < (limbs b).length) : a < b := by
  have hb : b ≠ 0 := by rintro rfl; simp [limbs_zero] at h
  have h1 := lt_pow_limbs a
  have h2 := pow_le_limbs hb
  have h3 : 4294967296 ^ (limbs a).length ≤ 4294967296 ^ ((limbs b).length - 1) := Nat.pow_le_pow_right (by omega) (by omega)
  omega

theorem valL_lt_of {a b : List Nat} (hl : a.length = b.length) (ha : Dig a) {i : Nat} (hi : i < a.length) (hd : a.drop (i + 1) = b.drop (i + 1)) (hlt : a.getD i 0 < b.getD i 0) : valL a < valL b := by
  rw [valL_split a i (by omega), valL_split b i (by omega), valL_drop a i hi, valL_drop b i (by omega), hd]
  have h1 := valL_lt _ (ha.take i)
  rw [List.length_take_of_le (by omega)] at h1
  generalize 4294967296 ^ i = P at *
  generalize valL (b.drop (i + 1)) = V at *
  have h2 : P * (a.getD i 0 + 1) ≤ P * b.getD i 0 := Nat.mul_le_mul_left _ hlt
  rw [Nat.mul_add] at h2
  rw [Nat.mul_add, Nat.mul_add]
  omega

theorem valL_inj : ∀ (a b : List Nat), a.length = b.length → Dig a → Dig b → valL a = valL b → a = b
  | [], [], _, _, _, _ => rfl
  | [], y :: b, h, _, _, _ => by simp at h
  | x :: a, [], h, _, _, _ => by simp at h
  | x :: a, y :: b, h, ha, hb, e => by
    have hx := ha.head
    have hy := hb.head
    simp only [valL] at e
    have e1 : x = y := by omega
    have e2 : valL a = valL b := by omega
    rw [e1, valL_inj a b (by simpa using h) ha.tail hb.tail e2]

theorem take_limbs {l : List Nat} (hd : Dig l) : l.take (limbs (valL l)).length = limbs (valL l) ∧ (limbs (valL l)).length ≤ l.length := by
  have hle := limbs_len_le (valL_lt l hd)
  refine ⟨?_, hle⟩
  apply valL_inj _ _ (List.length_take_of_le hle) (hd.take _) (limbs_dig _)
  rw [valL_limbs]
  have h1 := valL_split l _ hle
  have h2 := lt_pow_limbs (valL l)
  have h3 : valL (l.drop (limbs (valL l)).length) = 0 := by
    rcases Nat.eq_zero_or_pos (valL (l.drop (limbs (valL l)).length)) with h | h
    · exact h
    · exfalso
      have := Nat.mul_le_mul_left (4294967296 ^ (limbs (valL l)).length) h
      omega
  rw [h3] at h1
  omega

/-! ### bytes -/
def valB : List Nat → Nat
  | [] => 0
  | x :: l => x + 256 * valB l
def Byt (l : List Nat) : Prop := ∀ x ∈ l, x < 256

theorem valB_append : ∀ (a b : List Nat), valB (a ++ b) = valB a + 256 ^ a.length * valB b
  | [], b => by simp [valB]
  | x :: a, b => by
    simp only [List.cons_append, valB, valB_append a b, List.length_cons, Nat.pow_succ]
    grind

/-- the value of a string, the most significant byte first -/
def num (s : List UInt8) : Nat := valB (s.reverse.map UInt8.toNat)

def canB (n : Nat) : List UInt8 := if n = 0 then [] else UInt8.ofNat n :: canB (n / 256)
termination_by n
decreasing_by omega
def canon (n : Nat) : List UInt8 := (canB n).reverse

theorem canB_zero : canB 0 = [] := by rw [canB]; simp
theorem canB_pos {n : Nat} (h : n ≠ 0) : canB n = UInt8.ofNat n :: canB (n / 256) := by rw [canB]; simp [h]
theorem canon_zero : canon 0 = [] := by rw [canon, canB_zero]; rfl

theorem valB_canB (n : Nat) : valB ((canB n).map UInt8.toNat) = n := by
  induction n using Nat.strongRecOn with
  | ind n ih =>
    by_cases h : n = 0
    · subst h; rw [canB_zero]; rfl
    · rw [canB_pos h, List.map_cons, valB, ih _ (by omega)]
      simp
      omega

theorem num_canon (n : Nat) : num (canon n) = n := by
  rw [num, canon, List.reverse_reverse, valB_canB]

theorem canB_valB : ∀ (l : List UInt8), (l ≠ [] → l.getLast? ≠ some 0) → canB (valB (l.map UInt8.toNat)) = l
  | [], _ => by simp [valB, canB_zero]
  | x :: l, ht => by
    have hx : x.toNat < 256 := x.toNat_lt
    have ht' : l ≠ [] → l.getLast? ≠ some 0 := by
      intro hl
      have := ht (by simp)
      rwa [List.getLast?_cons_of_ne_nil hl] at this
    have ih := canB_valB l ht'
    have hne : x.toNat + 256 * valB (l.map UInt8.toNat) ≠ 0 := by
      intro h
      have h1 : x.toNat = 0 := by omega
      have h2 : valB (l.map UInt8.toNat) = 0 := by omega
      rcases l with _ | ⟨y, l⟩
      · have := ht (by simp)
        simp at this
        exact this (UInt8.toNat_inj.1 h1)
      · rw [h2, canB_zero] at ih
        simp at ih
    rw [List.map_cons, valB, canB_pos hne]
    have e1 : UInt8.ofNat (x.toNat + 256 * valB (l.map UInt8.toNat)) = x := by
      apply UInt8.toNat_inj.1
      simp
    have e2 : (x.toNat + 256 * valB (l.map UInt8.toNat)) / 256 = valB (l.map UInt8.toNat) := by omega
    rw [e1, e2, ih]

theorem num_cons (c : UInt8) (s : List UInt8) : num (c :: s) = num s + 256 ^ s.length * c.toNat := by
  rw [num, num, List.reverse_cons, List.map_append, valB_append]
  simp [valB]

theorem num_dropZero (s : List UInt8) : num (s.dropWhile (· == 0)) = num s := by
  induction s with
  | nil => rfl
  | cons c s ih =>
    rw [List.dropWhile_cons]
    split
    · rename_i h
      have : c = 0 := by simpa using h
      subst this
      rw [ih, num_cons]; simp
    · rfl

theorem dropZero_eq (s : List UInt8) : s.dropWhile (· == 0) = canon (num s) := by
  rw [← num_dropZero]
  generalize ht : s.dropWhile (· == 0) = t
  rw [canon, num, canB_valB, List.reverse_reverse]
  intro h
  rw [List.getLast?_reverse]
  intro h0
  have h1 := List.head?_dropWhile_not (· == (0 : UInt8)) s
  rw [ht, h0] at h1
  simp at h1

theorem num_snoc (s : List UInt8) (c : UInt8) : num (s ++ [c]) = num s * 256 + c.toNat := by
  rw [num, List.reverse_append]; simp [valB, num]; omega

theorem num_nil : num [] = 0 := rfl
theorem num_lt (s : List UInt8) : num s < 256 ^ s.length := by
  induction s with
  | nil => simp [num, valB]
  | cons c s ih =>
    rw [num_cons, List.length_cons, Nat.pow_succ]
    have hc : c.toNat < 256 := c.toNat_lt
    have : 256 ^ s.length * (c.toNat + 1) ≤ 256 ^ s.length * 256 := Nat.mul_le_mul_left _ (by omega)
    rw [Nat.mul_add] at this
    omega
theorem canon_head {n : Nat} (h : n ≠ 0) : canon n ≠ [] := by
  intro e
  have := num_canon n
  rw [e] at this
  exact h this.symm
theorem canon_eq_nil {n : Nat} : canon n = [] ↔ n = 0 := ⟨fun h => by have := num_canon n; rw [h] at this; exact this.symm, fun h => by rw [h, canon_zero]⟩
theorem canon_inj {a b : Nat} (h : canon a = canon b) : a = b := by rw [← num_canon a, h, num_canon]

theorem canon_len_le {n k : Nat} (h : n < 256 ^ k) : (canon n).length ≤ k := by
  rw [canon, List.length_reverse]
  induction k generalizing n with
  | zero => simp at h; subst h; simp [canB_zero]
  | succ k ih =>
    by_cases h0 : n = 0
    · subst h0; simp [canB_zero]
    · rw [canB_pos h0, List.length_cons]
      have := ih (n := n / 256) (by rw [Nat.pow_succ] at h; exact Nat.div_lt_of_lt_mul (by rwa [Nat.mul_comm] at h))
      omega

/-! ### bytes and digits -/
/-- the bytes of digits, the least one first -/
def bytesL : List Nat → List Nat
  | [] => []
  | x :: l => x % 256 :: x / 256 % 256 :: x / 65536 % 256 :: x / 16777216 % 256 :: bytesL l

theorem bytesL_len : ∀ l, (bytesL l).length = 4 * l.length
  | [] => rfl
  | x :: l => by simp [bytesL, bytesL_len l]; omega

theorem valB_bytesL : ∀ (l : List Nat), Dig l → valB (bytesL l) = valL l
  | [], _ => rfl
  | x :: l, h => by
    have := h.head
    simp only [bytesL, valB, valL, valB_bytesL l h.tail]
    omega

theorem bytesL_get : ∀ (l : List Nat) (i : Nat), (bytesL l).getD i 0 = l.getD (i / 4) 0 / 256 ^ (i % 4) % 256
  | [], i => by simp [bytesL]
  | x :: l, 0 => by simp [bytesL]
  | x :: l, 1 => by simp [bytesL]
  | x :: l, 2 => by simp [bytesL]
  | x :: l, 3 => by simp [bytesL]
  | x :: l, i + 4 => by
    have h1 : (i + 4) / 4 = i / 4 + 1 := by omega
    have h2 : (i + 4) % 4 = i % 4 := by omega
    rw [h1, h2]
    simpa [bytesL] using bytesL_get l i

/-- the digit j of bytes, the least one first -/
def pk (r : List Nat) (j : Nat) : Nat := r.getD (4 * j) 0 + 256 * r.getD (4 * j + 1) 0 + 65536 * r.getD (4 * j + 2) 0 + 16777216 * r.getD (4 * j + 3) 0
def packs (k : Nat) (r : List Nat) : List Nat := (List.range k).map (pk r)

theorem packs_len (k : Nat) (r : List Nat) : (packs k r).length = k := by simp [packs]
theorem packs_get {k : Nat} {r : List Nat} {j : Nat} (h : j < k) : (packs k r).getD j 0 = pk r j := by simp [packs, h]

theorem byt_getD {r : List Nat} (h : Byt r) (i : Nat) : r.getD i 0 < 256 := by
  rw [List.getD_eq_getElem?_getD]
  rcases hk : r[i]? with _ | x
  · simp
  · simpa using h x (List.mem_of_getElem? hk)

theorem packs_dig {r : List Nat} (h : Byt r) (k : Nat) : Dig (packs k r) := by
  intro x hx
  obtain ⟨j, _, rfl⟩ := List.mem_map.1 hx
  have := byt_getD h (4 * j)
  have := byt_getD h (4 * j + 1)
  have := byt_getD h (4 * j + 2)
  have := byt_getD h (4 * j + 3)
  unfold pk
  omega

theorem valL_packs : ∀ (k : Nat) (r : List Nat), r.length ≤ 4 * k → valL (packs k r) = valB r
  | 0, r, h => by
    have : r = [] := List.eq_nil_of_length_eq_zero (by omega)
    subst this; rfl
  | k + 1, r, h => by
    have e : packs (k + 1) r = pk r 0 :: packs k (r.drop 4) := by
      rw [packs, List.range_succ_eq_map, List.map_cons, List.map_map, packs]
      congr 1
      apply List.map_congr_left
      intro j _
      simp only [Function.comp, pk, List.getD_eq_getElem?_getD, List.getElem?_drop]
      have e1 : 4 + 4 * j = 4 * (j + 1) := by omega
      have e2 : 4 + (4 * j + 1) = 4 * (j + 1) + 1 := by omega
      have e3 : 4 + (4 * j + 2) = 4 * (j + 1) + 2 := by omega
      have e4 : 4 + (4 * j + 3) = 4 * (j + 1) + 3 := by omega
      rw [e1, e2, e3, e4]
    rw [e, valL, valL_packs k (r.drop 4) (by rw [List.length_drop]; omega)]
    rcases r with _ | ⟨a, _ | ⟨b, _ | ⟨c, _ | ⟨d, r⟩⟩⟩⟩ <;> simp [pk, valB]
    all_goals omega

theorem getD_take (r : List Nat) (i k : Nat) : (r.take i).getD k 0 = if k < i then r.getD k 0 else 0 := by
  simp only [List.getD_eq_getElem?_getD, List.getElem?_take]
  split <;> simp

theorem pk_take_lt {r : List Nat} (h : Byt r) (i : Nat) : pk (r.take i) (i / 4) < 256 ^ (i % 4) := by
  have h4 : i = 4 * (i / 4) + i % 4 := by omega
  have hm : i % 4 < 4 := by omega
  generalize i / 4 = j at *
  generalize i % 4 = m at *
  subst h4
  have b0 := byt_getD h (4 * j)
  have b1 := byt_getD h (4 * j + 1)
  have b2 := byt_getD h (4 * j + 2)
  simp only [pk, getD_take]
  obtain rfl | rfl | rfl | rfl : m = 0 ∨ m = 1 ∨ m = 2 ∨ m = 3 := by omega
  all_goals
    simp only [Nat.reducePow]
    repeat' split
    all_goals omega

theorem pk_take_succ (r : List Nat) (i j : Nat) : pk (r.take (i + 1)) j = if j = i / 4 then pk (r.take i) j + r.getD i 0 * 256 ^ (i % 4) else pk (r.take i) j := by
  have h4 : i = 4 * (i / 4) + i % 4 := by omega
  have hm : i % 4 < 4 := by omega
  generalize i / 4 = q at *
  generalize i % 4 = m at *
  subst h4
  simp only [pk, getD_take]
  by_cases hj : j = q
  · subst hj
    rw [if_pos rfl]
    obtain rfl | rfl | rfl | rfl : m = 0 ∨ m = 1 ∨ m = 2 ∨ m = 3 := by omega
    all_goals
      simp only [Nat.reducePow, Nat.add_zero]
      repeat' split
      all_goals omega
  · rw [if_neg hj]
    have e0 : (4 * j < 4 * q + m + 1) = (4 * j < 4 * q + m) := by simp only [eq_iff_iff]; omega
    have e1 : (4 * j + 1 < 4 * q + m + 1) = (4 * j + 1 < 4 * q + m) := by simp only [eq_iff_iff]; omega
    have e2 : (4 * j + 2 < 4 * q + m + 1) = (4 * j + 2 < 4 * q + m) := by simp only [eq_iff_iff]; omega
    have e3 : (4 * j + 3 < 4 * q + m + 1) = (4 * j + 3 < 4 * q + m) := by simp only [eq_iff_iff]; omega
    simp only [e0, e1, e2, e3]

theorem packs_take_succ (k : Nat) (r : List Nat) (i : Nat) : packs k (r.take (i + 1)) = (packs k (r.take i)).set (i / 4) (pk (r.take i) (i / 4) + r.getD i 0 * 256 ^ (i % 4)) := by
  apply List.ext_getElem?
  intro j
  rw [List.getElem?_set, packs_len]
  by_cases hj : j < k
  · simp only [packs, List.getElem?_map, List.getElem?_range hj, Option.map_some, pk_take_succ]
    by_cases e : i / 4 = j
    · subst e; simp [hj]
    · rw [if_neg e, if_neg (fun h => e h.symm)]
  · have h1 : (packs k (r.take (i+1)))[j]? = none := List.getElem?_eq_none (by rw [packs_len]; omega)
    have h2 : (packs k (r.take i))[j]? = none := List.getElem?_eq_none (by rw [packs_len]; omega)
    rw [h1, h2]
    split <;> simp
    omega

end Go.Proofs.YtcljkdjmmolfoaaDoor

/- Merged of Num NumOps DivPl Ten. -/
import Derived.NoCompiler
/- Numbers in base 2^32 and in base 256: plain laws. Nothing of the program. -/
set_option linter.unusedVariables false
set_option linter.unusedSimpArgs false
namespace Go.Proofs.YtjlicnhkemfmiaaGreatDoor

/-- the value of digits in base 2^32, the least one first -/
def valL : List Nat → Nat
 | [] => 0
 | x :: l => x + 4294967296 * valL l

def Dig (l : List Nat) : Prop := ∀ x ∈ l, x < 4294967296

theorem Dig.nil : Dig [] := by simp [Dig]
theorem Dig.tail {x : Nat} {l : List Nat} (h : Dig (x :: l)) : Dig l := fun y hy => h y (by simp [hy])
theorem Dig.head {x : Nat} {l : List Nat} (h : Dig (x :: l)) : x < 4294967296 := h x (by simp)
theorem Dig.get {l : List Nat} (h : Dig l) {k x : Nat} (hk : l[k]? = some x) : x < 4294967296 := h x (List.mem_of_getElem? hk)
theorem Dig.getD {l : List Nat} (h : Dig l) (k : Nat) : l.getD k 0 < 4294967296 := by
 rw [List.getD_eq_getElem?_getD]
 rcases hk : l[k]? with _ | x
 ·
  simp
 ·
  simpa using h.get hk
theorem Dig.take {l : List Nat} (h : Dig l) (k : Nat) : Dig (l.take k) := fun x hx => h x (List.mem_of_mem_take hx)
theorem Dig.drop {l : List Nat} (h : Dig l) (k : Nat) : Dig (l.drop k) := fun x hx => h x (List.mem_of_mem_drop hx)
theorem Dig.append {a b : List Nat} (ha : Dig a) (hb : Dig b) : Dig (a ++ b) := fun x hx => (List.mem_append.1 hx).elim (ha x) (hb x)
theorem Dig.set {l : List Nat} (h : Dig l) (k : Nat) {x : Nat} (hx : x < 4294967296) : Dig (l.set k x) := fun y hy => (List.mem_or_eq_of_mem_set hy).elim (h y) (fun e => e ▸ hx)
theorem Dig.zeros (k : Nat) : Dig (List.replicate k 0) := fun x hx => by rw [(List.mem_replicate.1 hx).2]; omega
theorem Dig.one {x : Nat} (h : x < 4294967296) : Dig [x] := by simp [Dig, h]
theorem Dig.cons {x : Nat} {l : List Nat} (h : x < 4294967296) (hl : Dig l) : Dig (x :: l) := fun y hy => (List.mem_cons.1 hy).elim (fun e => e ▸ h) (hl y)

theorem valL_append : ∀ (a b : List Nat), valL (a ++ b) = valL a + 4294967296 ^ a.length * valL b
 | [], b => by simp [valL]
 | x :: a, b => by
  simp only [List.cons_append, valL, valL_append a b, List.length_cons, Nat.pow_succ]
  grind

theorem valL_snoc (a : List Nat) (x : Nat) : valL (a ++ [x]) = valL a + 4294967296 ^ a.length * x := by
 rw [valL_append]; simp [valL]

theorem valL_zeros : ∀ (k : Nat), valL (List.replicate k 0) = 0
 | 0 => rfl
 | k + 1 => by simp [List.replicate_succ, valL, valL_zeros k]

theorem valL_lt : ∀ (l : List Nat), Dig l → valL l < 4294967296 ^ l.length
 | [], _ => by simp [valL]
 | x :: l, h => by
  have h1 := h.head
  have h2 := valL_lt l h.tail
  simp only [valL, List.length_cons, Nat.pow_succ]
  omega

theorem take_snoc_getD (l : List Nat) (k : Nat) (h : k < l.length) : l.take (k + 1) = l.take k ++ [l.getD k 0] := by
 rw [List.take_succ_eq_append_getElem h]
 simp [List.getD_eq_getElem?_getD, h]

theorem valL_take_succ (l : List Nat) (k : Nat) (h : k < l.length) : valL (l.take (k + 1)) = valL (l.take k) + 4294967296 ^ k * l.getD k 0 := by
 rw [take_snoc_getD l k h, valL_snoc, List.length_take_of_le (by omega)]

theorem valL_drop (l : List Nat) (k : Nat) (h : k < l.length) : valL (l.drop k) = l.getD k 0 + 4294967296 * valL (l.drop (k + 1)) := by
 rw [List.drop_eq_getElem_cons h, valL]
 simp [List.getD_eq_getElem?_getD, h]

theorem valL_split (l : List Nat) (k : Nat) (h : k ≤ l.length) : valL l = valL (l.take k) + 4294967296 ^ k * valL (l.drop k) := by
 have := valL_append (l.take k) (l.drop k)
 rw [List.take_append_drop, List.length_take_of_le h] at this
 exact this

/-! ### the digits of a number -/
def limbs (n : Nat) : List Nat := if n = 0 then [] else n % 4294967296 :: limbs (n / 4294967296)
termination_by n
decreasing_by omega

theorem limbs_zero : limbs 0 = [] := by rw [limbs]; simp
theorem limbs_pos {n : Nat} (h : n ≠ 0) : limbs n = n % 4294967296 :: limbs (n / 4294967296) := by rw [limbs]; simp [h]

theorem limbs_dig (n : Nat) : Dig (limbs n) := by
 induction n using Nat.strongRecOn with
 | ind n ih =>
  by_cases h : n = 0
  ·
   subst h; rw [limbs_zero]; exact Dig.nil
  ·
   rw [limbs_pos h]
   exact Dig.cons (by omega) (ih _ (by omega))

theorem valL_limbs (n : Nat) : valL (limbs n) = n := by
 induction n using Nat.strongRecOn with
 | ind n ih =>
  by_cases h : n = 0
  ·
   subst h; rw [limbs_zero]; rfl
  ·
   rw [limbs_pos h, valL, ih _ (by omega)]
   omega

theorem limbs_len_pos {n : Nat} (h : n ≠ 0) : 0 < (limbs n).length := by rw [limbs_pos h]; simp

theorem limbs_last : ∀ (n : Nat), n ≠ 0 → (limbs n).getD ((limbs n).length - 1) 0 ≠ 0 := by
 intro n
 induction n using Nat.strongRecOn with
 | ind n ih =>
  intro h
  rw [limbs_pos h]
  by_cases h2 : n / 4294967296 = 0
  ·
   rw [h2, limbs_zero]
   simp
   omega
  ·
   have := ih _ (by omega) h2
   have hl := limbs_len_pos h2
   simp only [List.length_cons]
   obtain ⟨k, hk⟩ : ∃ k, (limbs (n / 4294967296)).length = k + 1 := ⟨_, (Nat.succ_pred_eq_of_pos hl).symm⟩
   rw [hk] at this ⊢
   simpa using this

/-- no leading zero -/
def Trim (l : List Nat) : Prop := l ≠ [] → l.getD (l.length - 1) 0 ≠ 0

theorem limbs_valL : ∀ (l : List Nat), Dig l → Trim l → limbs (valL l) = l
 | [], _, _ => by simp [valL, limbs_zero]
 | x :: l, hd, ht => by
  have hx := hd.head
  have hne : x + 4294967296 * valL l ≠ 0 := by
   intro h
   have h1 : x = 0 := by omega
   have h2 : valL l = 0 := by omega
   have ih := limbs_valL l hd.tail
   rcases l with _ | ⟨y, l⟩
   ·
    have := ht (by simp); simp at this; omega
   ·
    have ht' : Trim (y :: l) := fun _ => by have := ht (by simp); simpa using this
    have := ih ht'
    rw [h2, limbs_zero] at this
    simp at this
  rw [valL, limbs_pos hne]
  have e1 : (x + 4294967296 * valL l) % 4294967296 = x := by omega
  have e2 : (x + 4294967296 * valL l) / 4294967296 = valL l := by omega
  rw [e1, e2, limbs_valL l hd.tail]
  intro hl
  have := ht (by simp)
  obtain ⟨y, l', rfl⟩ := List.exists_cons_of_ne_nil hl
  simpa using this

theorem valL_eq_zero {l : List Nat} (h : ∀ x ∈ l, x = 0) : valL l = 0 := by
 induction l with
 | nil => rfl
 | cons x l ih => rw [valL, ih (fun y hy => h y (by simp [hy])), h x (by simp)]

/-- what trimming leaves -/
theorem trim_take {l : List Nat} (hd : Dig l) {k : Nat} (hk : k ≤ l.length) (hz : ∀ x ∈ l.drop k, x = 0) (ht : k = 0 ∨ l.getD (k - 1) 0 ≠ 0) : l.take k = limbs (valL l) := by
 have h1 : valL l = valL (l.take k) := by
  rw [valL_split l k hk, valL_eq_zero hz]; simp
 rw [h1, limbs_valL _ (hd.take k)]
 intro hne
 rcases ht with rfl | ht
 ·
  simp at hne
 ·
  rw [List.length_take_of_le hk]
  have hk0 : 0 < k := by
   rcases k with _ | k
   ·
    simp at hne
   ·
    omega
  rwa [List.getD_eq_getElem?_getD, List.getElem?_take, if_pos (by omega), ← List.getD_eq_getElem?_getD]

theorem limbs_len_le {n k : Nat} (h : n < 4294967296 ^ k) : (limbs n).length ≤ k := by
 induction k generalizing n with
 | zero => simp at h; subst h; simp [limbs_zero]
 | succ k ih =>
  by_cases h0 : n = 0
  ·
   subst h0; simp [limbs_zero]
  ·
   rw [limbs_pos h0, List.length_cons]
   have := ih (n := n / 4294967296) (by rw [Nat.pow_succ] at h; exact Nat.div_lt_of_lt_mul (by rwa [Nat.mul_comm] at h))
   omega

theorem lt_pow_limbs (n : Nat) : n < 4294967296 ^ (limbs n).length := by
 have := valL_lt _ (limbs_dig n)
 rwa [valL_limbs] at this

theorem pow_le_limbs {n : Nat} (h : n ≠ 0) : 4294967296 ^ ((limbs n).length - 1) ≤ n := by
 rcases Nat.lt_or_ge n (4294967296 ^ ((limbs n).length - 1)) with h1 | h1
 ·
  have := limbs_len_le h1
  have := limbs_len_pos h
  omega
 ·
  exact h1

theorem lt_of_len {a b : Nat} (h : (limbs a).length < (limbs b).length) : a < b := by
 have hb : b ≠ 0 := by rintro rfl; simp [limbs_zero] at h
 have h1 := lt_pow_limbs a
 have h2 := pow_le_limbs hb
 have h3 : 4294967296 ^ (limbs a).length ≤ 4294967296 ^ ((limbs b).length - 1) := Nat.pow_le_pow_right (by omega) (by omega)
 omega

theorem valL_lt_of {a b : List Nat} (hl : a.length = b.length) (ha : Dig a) {i : Nat} (hi : i < a.length) (hd : a.drop (i + 1) = b.drop (i + 1)) (hlt : a.getD i 0 < b.getD i 0) : valL a < valL b := by
 rw [valL_split a i (by omega), valL_split b i (by omega), valL_drop a i hi, valL_drop b i (by omega), hd]
 have h1 := valL_lt _ (ha.take i)
 rw [List.length_take_of_le (by omega)] at h1
 generalize 4294967296 ^ i = P at *
 generalize valL (b.drop (i + 1)) = V at *
 have h2 : P * (a.getD i 0 + 1) ≤ P * b.getD i 0 := Nat.mul_le_mul_left _ hlt
 rw [Nat.mul_add] at h2
 rw [Nat.mul_add, Nat.mul_add]
 omega

theorem valL_inj : ∀ (a b : List Nat), a.length = b.length → Dig a → Dig b → valL a = valL b → a = b
 | [], [], _, _, _, _ => rfl
 | [], y :: b, h, _, _, _ => by simp at h
 | x :: a, [], h, _, _, _ => by simp at h
 | x :: a, y :: b, h, ha, hb, e => by
  have hx := ha.head
  have hy := hb.head
  simp only [valL] at e
  have e1 : x = y := by omega
  have e2 : valL a = valL b := by omega
  rw [e1, valL_inj a b (by simpa using h) ha.tail hb.tail e2]

theorem take_limbs {l : List Nat} (hd : Dig l) : l.take (limbs (valL l)).length = limbs (valL l) ∧ (limbs (valL l)).length ≤ l.length := by
 have hle := limbs_len_le (valL_lt l hd)
 refine ⟨?_, hle⟩
 apply valL_inj _ _ (List.length_take_of_le hle) (hd.take _) (limbs_dig _)
 rw [valL_limbs]
 have h1 := valL_split l _ hle
 have h2 := lt_pow_limbs (valL l)
 have h3 : valL (l.drop (limbs (valL l)).length) = 0 := by
  rcases Nat.eq_zero_or_pos (valL (l.drop (limbs (valL l)).length)) with h | h
  ·
   exact h
  ·
   exfalso
   have := Nat.mul_le_mul_left (4294967296 ^ (limbs (valL l)).length) h
   omega
 rw [h3] at h1
 omega

/-! ### bytes -/
def valB : List Nat → Nat
 | [] => 0
 | x :: l => x + 256 * valB l
def Byt (l : List Nat) : Prop := ∀ x ∈ l, x < 256

theorem valB_append : ∀ (a b : List Nat), valB (a ++ b) = valB a + 256 ^ a.length * valB b
 | [], b => by simp [valB]
 | x :: a, b => by
  simp only [List.cons_append, valB, valB_append a b, List.length_cons, Nat.pow_succ]
  grind

/-- the value of a string, the most significant byte first -/
def num (s : List UInt8) : Nat := valB (s.reverse.map UInt8.toNat)

def canB (n : Nat) : List UInt8 := if n = 0 then [] else UInt8.ofNat n :: canB (n / 256)
termination_by n
decreasing_by omega
def canon (n : Nat) : List UInt8 := (canB n).reverse

theorem canB_zero : canB 0 = [] := by rw [canB]; simp
theorem canB_pos {n : Nat} (h : n ≠ 0) : canB n = UInt8.ofNat n :: canB (n / 256) := by rw [canB]; simp [h]
theorem canon_zero : canon 0 = [] := by rw [canon, canB_zero]; rfl

theorem valB_canB (n : Nat) : valB ((canB n).map UInt8.toNat) = n := by
 induction n using Nat.strongRecOn with
 | ind n ih =>
  by_cases h : n = 0
  ·
   subst h; rw [canB_zero]; rfl
  ·
   rw [canB_pos h, List.map_cons, valB, ih _ (by omega)]
   simp
   omega

theorem num_canon (n : Nat) : num (canon n) = n := by
 rw [num, canon, List.reverse_reverse, valB_canB]

theorem canB_valB : ∀ (l : List UInt8), (l ≠ [] → l.getLast? ≠ some 0) → canB (valB (l.map UInt8.toNat)) = l
 | [], _ => by simp [valB, canB_zero]
 | x :: l, ht => by
  have hx : x.toNat < 256 := x.toNat_lt
  have ht' : l ≠ [] → l.getLast? ≠ some 0 := by
   intro hl
   have := ht (by simp)
   rwa [List.getLast?_cons_of_ne_nil hl] at this
  have ih := canB_valB l ht'
  have hne : x.toNat + 256 * valB (l.map UInt8.toNat) ≠ 0 := by
   intro h
   have h1 : x.toNat = 0 := by omega
   have h2 : valB (l.map UInt8.toNat) = 0 := by omega
   rcases l with _ | ⟨y, l⟩
   ·
    have := ht (by simp)
    simp at this
    exact this (UInt8.toNat_inj.1 h1)
   ·
    rw [h2, canB_zero] at ih
    simp at ih
  rw [List.map_cons, valB, canB_pos hne]
  have e1 : UInt8.ofNat (x.toNat + 256 * valB (l.map UInt8.toNat)) = x := by
   apply UInt8.toNat_inj.1
   simp
  have e2 : (x.toNat + 256 * valB (l.map UInt8.toNat)) / 256 = valB (l.map UInt8.toNat) := by omega
  rw [e1, e2, ih]

theorem num_cons (c : UInt8) (s : List UInt8) : num (c :: s) = num s + 256 ^ s.length * c.toNat := by
 rw [num, num, List.reverse_cons, List.map_append, valB_append]
 simp [valB]

theorem num_dropZero (s : List UInt8) : num (s.dropWhile (· == 0)) = num s := by
 induction s with
 | nil => rfl
 | cons c s ih =>
  rw [List.dropWhile_cons]
  split
  ·
   rename_i h
   have : c = 0 := by simpa using h
   subst this
   rw [ih, num_cons]; simp
  ·
   rfl

theorem dropZero_eq (s : List UInt8) : s.dropWhile (· == 0) = canon (num s) := by
 rw [← num_dropZero]
 generalize ht : s.dropWhile (· == 0) = t
 rw [canon, num, canB_valB, List.reverse_reverse]
 intro h
 rw [List.getLast?_reverse]
 intro h0
 have h1 := List.head?_dropWhile_not (· == (0 : UInt8)) s
 rw [ht, h0] at h1
 simp at h1

theorem num_lt (s : List UInt8) : num s < 256 ^ s.length := by
 induction s with
 | nil => simp [num, valB]
 | cons c s ih =>
  rw [num_cons, List.length_cons, Nat.pow_succ]
  have hc : c.toNat < 256 := c.toNat_lt
  have : 256 ^ s.length * (c.toNat + 1) ≤ 256 ^ s.length * 256 := Nat.mul_le_mul_left _ (by omega)
  rw [Nat.mul_add] at this
  omega
theorem canon_head {n : Nat} (h : n ≠ 0) : canon n ≠ [] := by
 intro e
 have := num_canon n
 rw [e] at this
 exact h this.symm
theorem canon_len_le {n k : Nat} (h : n < 256 ^ k) : (canon n).length ≤ k := by
 rw [canon, List.length_reverse]
 induction k generalizing n with
 | zero => simp at h; subst h; simp [canB_zero]
 | succ k ih =>
  by_cases h0 : n = 0
  ·
   subst h0; simp [canB_zero]
  ·
   rw [canB_pos h0, List.length_cons]
   have := ih (n := n / 256) (by rw [Nat.pow_succ] at h; exact Nat.div_lt_of_lt_mul (by rwa [Nat.mul_comm] at h))
   omega

/-! ### bytes and digits -/
/-- the bytes of digits, the least one first -/
def bytesL : List Nat → List Nat
 | [] => []
 | x :: l => x % 256 :: x / 256 % 256 :: x / 65536 % 256 :: x / 16777216 % 256 :: bytesL l

theorem bytesL_len : ∀ l, (bytesL l).length = 4 * l.length
 | [] => rfl
 | x :: l => by simp [bytesL, bytesL_len l]; omega

theorem valB_bytesL : ∀ (l : List Nat), Dig l → valB (bytesL l) = valL l
 | [], _ => rfl
 | x :: l, h => by
  have := h.head
  simp only [bytesL, valB, valL, valB_bytesL l h.tail]
  omega

theorem bytesL_get : ∀ (l : List Nat) (i : Nat), (bytesL l).getD i 0 = l.getD (i / 4) 0 / 256 ^ (i % 4) % 256
 | [], i => by simp [bytesL]
 | x :: l, 0 => by simp [bytesL]
 | x :: l, 1 => by simp [bytesL]
 | x :: l, 2 => by simp [bytesL]
 | x :: l, 3 => by simp [bytesL]
 | x :: l, i + 4 => by
  have h1 : (i + 4) / 4 = i / 4 + 1 := by omega
  have h2 : (i + 4) % 4 = i % 4 := by omega
  rw [h1, h2]
  simpa [bytesL] using bytesL_get l i

/-- the digit j of bytes, the least one first -/
def pk (r : List Nat) (j : Nat) : Nat := r.getD (4 * j) 0 + 256 * r.getD (4 * j + 1) 0 + 65536 * r.getD (4 * j + 2) 0 + 16777216 * r.getD (4 * j + 3) 0
def packs (k : Nat) (r : List Nat) : List Nat := (List.range k).map (pk r)

theorem packs_len (k : Nat) (r : List Nat) : (packs k r).length = k := by simp [packs]
theorem packs_get {k : Nat} {r : List Nat} {j : Nat} (h : j < k) : (packs k r).getD j 0 = pk r j := by simp [packs, h]

theorem byt_getD {r : List Nat} (h : Byt r) (i : Nat) : r.getD i 0 < 256 := by
 rw [List.getD_eq_getElem?_getD]
 rcases hk : r[i]? with _ | x
 ·
  simp
 ·
  simpa using h x (List.mem_of_getElem? hk)

theorem packs_dig {r : List Nat} (h : Byt r) (k : Nat) : Dig (packs k r) := by
 intro x hx
 obtain ⟨j, _, rfl⟩ := List.mem_map.1 hx
 have := byt_getD h (4 * j)
 have := byt_getD h (4 * j + 1)
 have := byt_getD h (4 * j + 2)
 have := byt_getD h (4 * j + 3)
 unfold pk
 omega

theorem valL_packs : ∀ (k : Nat) (r : List Nat), r.length ≤ 4 * k → valL (packs k r) = valB r
 | 0, r, h => by
  have : r = [] := List.eq_nil_of_length_eq_zero (by omega)
  subst this; rfl
 | k + 1, r, h => by
  have e : packs (k + 1) r = pk r 0 :: packs k (r.drop 4) := by
   rw [packs, List.range_succ_eq_map, List.map_cons, List.map_map, packs]
   congr 1
   apply List.map_congr_left
   intro j _
   simp only [Function.comp, pk, List.getD_eq_getElem?_getD, List.getElem?_drop]
   have e1 : 4 + 4 * j = 4 * (j + 1) := by omega
   have e2 : 4 + (4 * j + 1) = 4 * (j + 1) + 1 := by omega
   have e3 : 4 + (4 * j + 2) = 4 * (j + 1) + 2 := by omega
   have e4 : 4 + (4 * j + 3) = 4 * (j + 1) + 3 := by omega
   rw [e1, e2, e3, e4]
  rw [e, valL, valL_packs k (r.drop 4) (by rw [List.length_drop]; omega)]
  rcases r with _ | ⟨a, _ | ⟨b, _ | ⟨c, _ | ⟨d, r⟩⟩⟩⟩ <;> simp [pk, valB]
  all_goals omega

theorem getD_take (r : List Nat) (i k : Nat) : (r.take i).getD k 0 = if k < i then r.getD k 0 else 0 := by
 simp only [List.getD_eq_getElem?_getD, List.getElem?_take]
 split <;> simp

theorem pk_take_lt {r : List Nat} (h : Byt r) (i : Nat) : pk (r.take i) (i / 4) < 256 ^ (i % 4) := by
 have h4 : i = 4 * (i / 4) + i % 4 := by omega
 have hm : i % 4 < 4 := by omega
 generalize i / 4 = j at *
 generalize i % 4 = m at *
 subst h4
 have b0 := byt_getD h (4 * j)
 have b1 := byt_getD h (4 * j + 1)
 have b2 := byt_getD h (4 * j + 2)
 simp only [pk, getD_take]
 obtain rfl | rfl | rfl | rfl : m = 0 ∨ m = 1 ∨ m = 2 ∨ m = 3 := by omega
 all_goals
  simp only [Nat.reducePow]
  repeat' split
  all_goals omega

theorem pk_take_succ (r : List Nat) (i j : Nat) : pk (r.take (i + 1)) j = if j = i / 4 then pk (r.take i) j + r.getD i 0 * 256 ^ (i % 4) else pk (r.take i) j := by
 have h4 : i = 4 * (i / 4) + i % 4 := by omega
 have hm : i % 4 < 4 := by omega
 generalize i / 4 = q at *
 generalize i % 4 = m at *
 subst h4
 simp only [pk, getD_take]
 by_cases hj : j = q
 ·
  subst hj
  rw [if_pos rfl]
  obtain rfl | rfl | rfl | rfl : m = 0 ∨ m = 1 ∨ m = 2 ∨ m = 3 := by omega
  all_goals
   simp only [Nat.reducePow, Nat.add_zero]
   repeat' split
   all_goals omega
 ·
  rw [if_neg hj]
  have e0 : (4 * j < 4 * q + m + 1) = (4 * j < 4 * q + m) := by simp only [eq_iff_iff]; omega
  have e1 : (4 * j + 1 < 4 * q + m + 1) = (4 * j + 1 < 4 * q + m) := by simp only [eq_iff_iff]; omega
  have e2 : (4 * j + 2 < 4 * q + m + 1) = (4 * j + 2 < 4 * q + m) := by simp only [eq_iff_iff]; omega
  have e3 : (4 * j + 3 < 4 * q + m + 1) = (4 * j + 3 < 4 * q + m) := by simp only [eq_iff_iff]; omega
  simp only [e0, e1, e2, e3]

theorem packs_take_succ (k : Nat) (r : List Nat) (i : Nat) : packs k (r.take (i + 1)) = (packs k (r.take i)).set (i / 4) (pk (r.take i) (i / 4) + r.getD i 0 * 256 ^ (i % 4)) := by
 apply List.ext_getElem?
 intro j
 rw [List.getElem?_set, packs_len]
 by_cases hj : j < k
 ·
  simp only [packs, List.getElem?_map, List.getElem?_range hj, Option.map_some, pk_take_succ]
  by_cases e : i / 4 = j
  ·
   subst e; simp [hj]
  ·
   rw [if_neg e, if_neg (fun h => e h.symm)]
 ·
  have h1 : (packs k (r.take (i+1)))[j]? = none := List.getElem?_eq_none (by rw [packs_len]; omega)
  have h2 : (packs k (r.take i))[j]? = none := List.getElem?_eq_none (by rw [packs_len]; omega)
  rw [h1, h2]
  split <;> simp
  omega

end Go.Proofs.YtjlicnhkemfmiaaGreatDoor

/- Sums, differences, products, quotients in base 2^32, digit by digit; Knuth's division: plain laws. Nothing of the program. -/
namespace Go.Proofs.YtjlicnhkemfmiaaGreatDoor

theorem valL_take_succ' (l : List Nat) (k : Nat) : valL (l.take (k + 1)) = valL (l.take k) + 4294967296 ^ k * l.getD k 0 := by
  by_cases h : k < l.length
  · exact valL_take_succ l k h
  · have h2 : l.getD k 0 = 0 := by rw [List.getD_eq_getElem?_getD, List.getElem?_eq_none (by omega)]; rfl
    rw [List.take_of_length_le (by omega), List.take_of_length_le (by omega), h2]; simp

/-- a sum's next digit -/
theorem add_step {o x y : List Nat} {i c d c' : Nat} (hl : o.length = i) (h : valL o + 4294967296 ^ i * c = valL (x.take i) + valL (y.take i)) (e : d + 4294967296 * c' = x.getD i 0 + y.getD i 0 + c) :
    valL (o ++ [d]) + 4294967296 ^ (i + 1) * c' = valL (x.take (i + 1)) + valL (y.take (i + 1)) := by
  rw [valL_snoc, valL_take_succ', valL_take_succ', Nat.pow_succ, hl]
  generalize 4294967296 ^ i = P at *
  grind

/-- a difference's next digit -/
theorem sub_step {o x y : List Nat} {i b d b' : Nat} (hl : o.length = i) (h : valL o + valL (y.take i) = valL (x.take i) + 4294967296 ^ i * b) (e : d + y.getD i 0 + b = x.getD i 0 + 4294967296 * b') :
    valL (o ++ [d]) + valL (y.take (i + 1)) = valL (x.take (i + 1)) + 4294967296 ^ (i + 1) * b' := by
  rw [valL_snoc, valL_take_succ', valL_take_succ', Nat.pow_succ, hl]
  generalize 4294967296 ^ i = P at *
  grind

theorem sub_end {o x y : List Nat} {b : Nat} (ho : Dig o) (hl : o.length = x.length) (hy : y.length ≤ x.length) (hb : b ≤ 1) (hle : valL y ≤ valL x) (h : valL o + valL (y.take x.length) = valL (x.take x.length) + 4294967296 ^ x.length * b) : valL o = valL x - valL y ∧ b = 0 := by
  rw [List.take_of_length_le hy, List.take_length] at h
  have h1 := valL_lt o ho
  rw [hl] at h1
  obtain rfl | rfl : b = 0 ∨ b = 1 := by omega
  · simp at h; omega
  · simp at h; omega

theorem valL_set (l : List Nat) (j d : Nat) (hj : j < l.length) : valL (l.set j d) + 4294967296 ^ j * l.getD j 0 = valL l + 4294967296 ^ j * d := by
  have h1 := valL_split (l.set j d) j (by simp; omega)
  have h2 := valL_split l j (by omega)
  rw [valL_drop (l.set j d) j (by simpa using hj)] at h1
  rw [valL_drop l j hj] at h2
  have e1 : (l.set j d).take j = l.take j := by rw [List.take_set]; exact List.set_eq_of_length_le (by simp; omega)
  have e2 : (l.set j d).drop (j + 1) = l.drop (j + 1) := by rw [List.drop_set]; simp
  have e3 : (l.set j d).getD j 0 = d := by rw [List.getD_eq_getElem?_getD, List.getElem?_set_self hj]; rfl
  rw [e1, e2, e3] at h1
  rw [h1, h2]
  generalize 4294967296 ^ j = P at *
  grind

/-- a product's next digit: the inner loop -/
theorem mul_step {o o0 y : List Nat} {i k c d c' u : Nat} (h : valL o + 4294967296 ^ (i + k) * c = valL o0 + 4294967296 ^ i * (u * valL (y.take k))) (hk : i + k < o.length)
    (e : d + 4294967296 * c' = u * y.getD k 0 + o.getD (i + k) 0 + c) :
    valL (o.set (i + k) d) + 4294967296 ^ (i + (k + 1)) * c' = valL o0 + 4294967296 ^ i * (u * valL (y.take (k + 1))) := by
  have hs := valL_set o (i + k) d hk
  rw [valL_take_succ']
  rw [Nat.pow_add] at hs h
  rw [← Nat.add_assoc, Nat.pow_succ, Nat.pow_add]
  generalize 4294967296 ^ i = P at *
  generalize 4294967296 ^ k = Q at *
  grind

theorem mul_last {o o0 y : List Nat} {i c u : Nat} (h : valL o + 4294967296 ^ (i + y.length) * c = valL o0 + 4294967296 ^ i * (u * valL (y.take y.length))) (hk : i + y.length < o.length) (hz : o.getD (i + y.length) 0 = 0) :
    valL (o.set (i + y.length) c) = valL o0 + 4294967296 ^ i * (u * valL y) := by
  have hs := valL_set o (i + y.length) c hk
  rw [hz] at hs
  rw [List.take_length] at h
  omega

theorem mul_bd {u v o c : Nat} (hu : u < 4294967296) (hv : v < 4294967296) (ho : o < 4294967296) (hc : c < 4294967296) : u * v + o + c < 18446744073709551616 ∧ u * v ≤ 18446744065119617025 := by
  have h1 : u * v ≤ 4294967295 * 4294967295 := Nat.mul_le_mul (by omega) (by omega)
  omega

/-- a quotient's next digit, by one digit -/
theorem div_step {a : List Nat} {o : List Nat} {i d r q r' : Nat} (hi : i < a.length) (h : valL (a.drop (i + 1)) = valL o * d + r) (e : r * 4294967296 + a.getD i 0 = q * d + r') :
    valL (a.drop i) = valL (q :: o) * d + r' := by
  rw [valL_drop a i hi, h, valL]
  grind

theorem div_digit {r x d : Nat} (hr : r < d) (hx : x < 4294967296) : (r * 4294967296 + x) / d < 4294967296 := by
  apply Nat.div_lt_of_lt_mul
  have : (r + 1) * 4294967296 ≤ d * 4294967296 := Nat.mul_le_mul_right _ hr
  omega

/-! ### shifts -/
theorem shl_step {o a : List Nat} {i hi x P lo hi' : Nat} (hl : o.length = i) (h : valL o + 4294967296 ^ i * hi = valL (a.take i) * P) (e : lo + 4294967296 * hi' = a.getD i 0 * P) :
    valL (o ++ [hi + lo]) + 4294967296 ^ (i + 1) * hi' = valL (a.take (i + 1)) * P := by
  rw [valL_snoc, valL_take_succ', Nat.pow_succ, hl]
  generalize 4294967296 ^ i = Q at *
  grind

/-- a number shifted right, digit by digit -/
def shrL (P : Nat) : List Nat → List Nat
  | [] => []
  | x :: l => (x + 4294967296 * l.getD 0 0) / P % 4294967296 :: shrL P l

theorem shrL_len (P : Nat) : ∀ l, (shrL P l).length = l.length
  | [] => rfl
  | x :: l => by simp [shrL, shrL_len P l]

theorem shrL_dig (P : Nat) : ∀ l, Dig (shrL P l)
  | [] => Dig.nil
  | x :: l => Dig.cons (by omega) (shrL_dig P l)

theorem shrL_getD (P : Nat) : ∀ (l : List Nat) (i : Nat), i < l.length → (shrL P l).getD i 0 = (l.getD i 0 + 4294967296 * l.getD (i + 1) 0) / P % 4294967296
  | [], i, h => by simp at h
  | x :: l, 0, _ => by simp [shrL]
  | x :: l, i + 1, h => by
    have := shrL_getD P l i (by simpa using h)
    simpa [shrL] using this

theorem valL_shrL {P M : Nat} (hP : 0 < P) (hM : P * M = 4294967296) : ∀ (l : List Nat), Dig l → valL (shrL P l) = valL l / P
  | [], _ => by simp [shrL, valL]
  | x :: l, h => by
    have hx := h.head
    rw [shrL, valL, valL_shrL hP hM l h.tail, valL]
    have e0 : ∀ V : Nat, (x + 4294967296 * V) / P = x / P + M * V := by
      intro V
      rw [← hM, Nat.mul_assoc, Nat.add_mul_div_left _ _ hP]
    rw [e0, e0]
    have hxM : x / P < M := Nat.div_lt_of_lt_mul (by omega)
    rcases l with _ | ⟨y, l⟩
    · have hM' : M ≤ 4294967296 := by
        rw [← hM]; exact Nat.le_mul_of_pos_left M hP
      simp [valL, Nat.mod_eq_of_lt (show x / P < 4294967296 by omega)]
    · have hd : (y :: l).getD 0 0 = y := rfl
      rw [hd, valL]
      have e1 : (y + 4294967296 * valL l) / P = y / P + M * valL l := by
        rw [← hM, Nat.mul_assoc, Nat.add_mul_div_left _ _ hP]
      rw [e1]
      have hy := Nat.div_add_mod y P
      have hyP := Nat.mod_lt y hP
      generalize hq : y / P = q at *
      generalize hr : y % P = r at *
      have e2 : x / P + M * y = (x / P + M * r) + 4294967296 * q := by
        rw [← hy, ← hM]; grind
      have hb : x / P + M * r < 4294967296 := by
        have : M * (r + 1) ≤ M * P := Nat.mul_le_mul_left _ hyP
        rw [Nat.mul_comm M P, hM, Nat.mul_add] at this
        omega
      rw [e2, Nat.add_mul_mod_self_left, Nat.mod_eq_of_lt hb]
      have e3 : M * (y + 4294967296 * valL l) = M * r + 4294967296 * q + M * (4294967296 * valL l) := by
        rw [← hy]
        have : M * (P * q + r) = (P * M) * q + M * r := by grind
        rw [Nat.mul_add, this, hM]; omega
      rw [e3]
      have e4 : 4294967296 * (q + M * valL l) = 4294967296 * q + M * (4294967296 * valL l) := by grind
      rw [e4]
      omega

/-! ### Knuth's division: the digit of the quotient -/
/-- the guess is not too small -/
theorem guess_le {q u v u3 v2 W lowv lowu : Nat} (hv : v = v2 * W + lowv) (hu : u = u3 * W + lowu) (hlu : lowu < W) {g : Nat} (hg : u3 < g * v2) (hq : q * v ≤ u) : q < g := by
  rcases Nat.lt_or_ge q g with h | h
  · exact h
  · exfalso
    have h1 : g * v2 * W ≤ q * v := by
      rw [hv, Nat.mul_assoc]
      calc g * (v2 * W) ≤ q * (v2 * W) := Nat.mul_le_mul_right _ h
        _ ≤ q * (v2 * W + lowv) := Nat.mul_le_mul_left _ (by omega)
    have h2 : (u3 + 1) * W ≤ g * v2 * W := Nat.mul_le_mul_right _ hg
    rw [Nat.add_mul, Nat.one_mul] at h2
    omega

/-- and too great by one at most -/
theorem guess_near {q u v u3 v2 W lowv lowu g : Nat} (hv : v = v2 * W + lowv) (hu : u = u3 * W + lowu) (hlv : lowv < W) (hg : g * v2 ≤ u3) (hgw : g * W ≤ v) (hq : u < (q + 1) * v) : g ≤ q + 1 := by
  rcases Nat.lt_or_ge (q + 1) g with h | h
  · exfalso
    have h1 : (q + 1) * v + v ≤ g * v := by
      have := Nat.mul_le_mul_right v (show q + 1 + 1 ≤ g from h)
      rwa [Nat.add_mul (q + 1) 1 v, Nat.one_mul] at this
    have h2 : g * v ≤ g * v2 * W + g * W := by
      rw [hv, Nat.mul_add, Nat.mul_assoc]
      have := Nat.mul_le_mul_left g (Nat.le_of_lt hlv)
      omega
    have h3 : g * v2 * W ≤ u3 * W := Nat.mul_le_mul_right _ hg
    omega
  · exact h

/-- u has a digit more than d; both as lists, the least digit first -/
structure Kn (n : Nat) (u d : List Nat) : Prop where
  n2 : 2 ≤ n
  lu : u.length = n + 1
  ld : d.length = n
  du : Dig u
  dd : Dig d
  top : 2147483648 ≤ d.getD (n - 1) 0
  lt : valL u < 4294967296 * valL d

section
variable {n : Nat} {u d : List Nat}

theorem valL_top2 {l : List Nat} {n : Nat} (hn : 2 ≤ n) (hl : l.length = n) : valL l = (l.getD (n - 1) 0 * 4294967296 + l.getD (n - 2) 0) * 4294967296 ^ (n - 2) + valL (l.take (n - 2)) := by
  obtain ⟨m, rfl⟩ : ∃ m, n = m + 2 := ⟨n - 2, by omega⟩
  have h := valL_split l m (by omega)
  rw [valL_drop l m (by omega), valL_drop l (m + 1) (by omega), List.drop_of_length_le (by omega)] at h
  simp only [valL, show m + 2 - 1 = m + 1 from rfl, show m + 2 - 2 = m from rfl]
  rw [h]
  simp only [valL]
  grind

theorem Kn.v (h : Kn n u d) : valL d = (d.getD (n - 1) 0 * 4294967296 + d.getD (n - 2) 0) * 4294967296 ^ (n - 2) + valL (d.take (n - 2)) := valL_top2 h.n2 h.ld
theorem Kn.uu (h : Kn n u d) : valL u = ((u.getD n 0 * 4294967296 + u.getD (n - 1) 0) * 4294967296 + u.getD (n - 2) 0) * 4294967296 ^ (n - 2) + valL (u.take (n - 2)) := by
  obtain ⟨m, rfl⟩ : ∃ m, n = m + 2 := ⟨n - 2, by have := h.n2; omega⟩
  have hl := h.lu
  have e := valL_split u m (by omega)
  rw [valL_drop u m (by omega), valL_drop u (m + 1) (by omega), valL_drop u (m + 2) (by omega), List.drop_of_length_le (by omega)] at e
  simp only [valL, show m + 2 - 1 = m + 1 from rfl, show m + 2 - 2 = m from rfl]
  rw [e]
  simp only [valL]
  grind
theorem Kn.lowv (h : Kn n u d) : valL (d.take (n - 2)) < 4294967296 ^ (n - 2) := by
  have := valL_lt _ (h.dd.take (n - 2))
  rwa [List.length_take_of_le (by rw [h.ld]; omega)] at this
theorem Kn.lowu (h : Kn n u d) : valL (u.take (n - 2)) < 4294967296 ^ (n - 2) := by
  have := valL_lt _ (h.du.take (n - 2))
  rwa [List.length_take_of_le (by rw [h.lu]; omega)] at this
theorem Kn.wpos (h : Kn n u d) : 0 < 4294967296 ^ (n - 2) := Nat.pow_pos (by omega)

/-- the leading digit of u is not greater than that of d -/
theorem Kn.u1 (h : Kn n u d) : u.getD n 0 ≤ d.getD (n - 1) 0 := by
  have hu := h.uu
  have hv := h.v
  have hlv := h.lowv
  have hlt := h.lt
  have hw := h.wpos
  have hd2 := h.dd.getD (n - 2)
  generalize 4294967296 ^ (n - 2) = W at *
  generalize valL u = U at *
  generalize valL d = V at *
  generalize u.getD n 0 = a at *
  generalize u.getD (n - 1) 0 = b at *
  generalize u.getD (n - 2) 0 = c at *
  generalize d.getD (n - 1) 0 = d1 at *
  generalize d.getD (n - 2) 0 = d2 at *
  rcases Nat.lt_or_ge d1 a with hh | hh
  · exfalso
    have h1 : ((d1 + 1) * 18446744073709551616) * W ≤ ((a * 4294967296 + b) * 4294967296 + c) * W := Nat.mul_le_mul_right _ (by omega)
    have h2 : (d1 * 4294967296 + d2 + 1) * W ≤ ((d1 + 1) * 4294967296) * W := Nat.mul_le_mul_right _ (by omega)
    have h3 : (d1 * 4294967296 + d2 + 1) * W = (d1 * 4294967296 + d2) * W + W := by rw [Nat.add_mul, Nat.one_mul]
    have h4 : ((d1 + 1) * 18446744073709551616) * W = 4294967296 * (((d1 + 1) * 4294967296) * W) := by grind
    omega
  · exact hh

/-- the guess g with its rest r, before the test -/
structure Gs (n : Nat) (u d : List Nat) (g r : Nat) : Prop where
  eq : g * d.getD (n - 1) 0 + r = u.getD n 0 * 4294967296 + u.getD (n - 1) 0
  ge : valL u / valL d ≤ g

theorem Kn.vpos (h : Kn n u d) : 0 < valL d := by
  have hv := h.v
  have ht := h.top
  have hw := h.wpos
  have : 1 * 4294967296 ^ (n - 2) ≤ (d.getD (n - 1) 0 * 4294967296 + d.getD (n - 2) 0) * 4294967296 ^ (n - 2) := Nat.mul_le_mul_right _ (by omega)
  omega

theorem Kn.qlt (h : Kn n u d) : valL u / valL d < 4294967296 := Nat.div_lt_of_lt_mul (by rw [Nat.mul_comm]; exact h.lt)

/-- where the test says that the guess is too great, it is -/
theorem Kn.high (h : Kn n u d) {g r : Nat} (hg : g * d.getD (n - 1) 0 + r = u.getD n 0 * 4294967296 + u.getD (n - 1) 0) (ht : r * 4294967296 + u.getD (n - 2) 0 < g * d.getD (n - 2) 0) : valL u / valL d < g := by
  refine guess_le h.v h.uu h.lowu ?_ (Nat.div_mul_le_self _ _)
  rw [← hg]
  grind

theorem Gs.start (h : Kn n u d) : Gs n u d ((u.getD n 0 * 4294967296 + u.getD (n - 1) 0) / d.getD (n - 1) 0) ((u.getD n 0 * 4294967296 + u.getD (n - 1) 0) % d.getD (n - 1) 0) := by
  have ht := h.top
  have e : (u.getD n 0 * 4294967296 + u.getD (n - 1) 0) / d.getD (n - 1) 0 * d.getD (n - 1) 0 + (u.getD n 0 * 4294967296 + u.getD (n - 1) 0) % d.getD (n - 1) 0 = u.getD n 0 * 4294967296 + u.getD (n - 1) 0 := by
    rw [Nat.mul_comm]; exact Nat.div_add_mod _ _
  refine ⟨e, ?_⟩
  have hm := Nat.mod_lt (u.getD n 0 * 4294967296 + u.getD (n - 1) 0) (show 0 < d.getD (n - 1) 0 by omega)
  refine Nat.le_of_lt_succ (guess_le h.v h.uu h.lowu ?_ (Nat.div_mul_le_self _ _))
  have hu2 := h.du.getD (n - 2)
  generalize (u.getD n 0 * 4294967296 + u.getD (n - 1) 0) / d.getD (n - 1) 0 = g at *
  generalize (u.getD n 0 * 4294967296 + u.getD (n - 1) 0) % d.getD (n - 1) 0 = r at *
  rw [← e]
  generalize d.getD (n - 1) 0 = d1 at *
  generalize d.getD (n - 2) 0 = d2 at *
  generalize u.getD (n - 2) 0 = u0 at *
  have h1 : (g + 1) * (d1 * 4294967296 + d2) = (g * d1 + d1) * 4294967296 + (g + 1) * d2 := by grind
  rw [h1]
  omega

/-- the guess's bound -/
theorem Gs.bd (h : Kn n u d) {g r : Nat} (hg : Gs n u d g r) : g ≤ 4294967297 ∧ (4294967296 ≤ g → r < 4294967296) := by
  have hu1 := h.u1
  have hb := h.du.getD (n - 1)
  have ht := h.top
  have e := hg.eq
  generalize d.getD (n - 1) 0 = d1 at *
  generalize u.getD n 0 = a at *
  generalize u.getD (n - 1) 0 = b at *
  constructor
  · rcases Nat.lt_or_ge 4294967297 g with hh | hh
    · exfalso
      have : 4294967298 * d1 ≤ g * d1 := Nat.mul_le_mul_right _ hh
      omega
    · exact hh
  · intro hh
    have : 4294967296 * d1 ≤ g * d1 := Nat.mul_le_mul_right _ hh
    omega

/-- the guess goes down by one -/
theorem Gs.down (h : Kn n u d) {g r : Nat} (hg : Gs n u d g r) (ht : 4294967296 ≤ g ∨ r * 4294967296 + u.getD (n - 2) 0 < g * d.getD (n - 2) 0) : 1 ≤ g ∧ Gs n u d (g - 1) (r + d.getD (n - 1) 0) := by
  have hq : valL u / valL d < g := by
    rcases ht with ht | ht
    · have := h.qlt; omega
    · exact h.high hg.eq ht
  have hg1 : 1 ≤ g := Nat.lt_of_le_of_lt (Nat.zero_le _) hq
  obtain ⟨g', rfl⟩ : ∃ g', g = g' + 1 := ⟨g - 1, (Nat.sub_add_cancel hg1).symm⟩
  refine ⟨hg1, ?_, ?_⟩
  · have e := hg.eq
    simp only [Nat.add_sub_cancel]
    rw [Nat.add_mul] at e
    omega
  · simp only [Nat.add_sub_cancel]
    exact Nat.le_of_lt_succ hq

/-- the guess behind the loop: it is right, or too great by one -/
theorem Gs.last (h : Kn n u d) {g r : Nat} (hg : Gs n u d g r) (ht : 4294967296 ≤ r ∨ (g < 4294967296 ∧ g * d.getD (n - 2) 0 ≤ r * 4294967296 + u.getD (n - 2) 0)) : g < 4294967296 ∧ g ≤ valL u / valL d + 1 := by
  have hlt : g < 4294967296 := by
    rcases ht with ht | ht
    · have := (hg.bd h).2; omega
    · exact ht.1
  refine ⟨hlt, ?_⟩
  have hd2 := h.dd.getD (n - 2)
  have hle : g * d.getD (n - 2) 0 ≤ r * 4294967296 + u.getD (n - 2) 0 := by
    rcases ht with ht | ht
    · have h1 : g * d.getD (n - 2) 0 ≤ 4294967296 * 4294967296 := Nat.mul_le_mul (by omega) (by omega)
      have h2 : 4294967296 * 4294967296 ≤ r * 4294967296 := Nat.mul_le_mul_right _ ht
      omega
    · exact ht.2
  have e := hg.eq
  refine guess_near h.v h.uu h.lowv (by rw [← e]; grind) ?_ ?_
  · rw [h.v]
    have htop := h.top
    have : g * 4294967296 ^ (n - 2) ≤ (d.getD (n - 1) 0 * 4294967296 + d.getD (n - 2) 0) * 4294967296 ^ (n - 2) := Nat.mul_le_mul_right _ (by omega)
    omega
  · have := Nat.div_add_mod (valL u) (valL d)
    have hm := Nat.mod_lt (valL u) h.vpos
    rw [Nat.add_mul, Nat.one_mul, Nat.mul_comm]
    omega

/-- multiply and subtract: the next digit. o: the digits that were written; c the carry, b the borrow -/
theorem ms_step {o : List Nat} {k c b t x c' b' g : Nat} (hl : o.length = k) (h : valL o + g * valL (d.take k) = valL (u.take k) + 4294967296 ^ k * (c + b)) (ht : t + 4294967296 * c' = g * d.getD k 0 + c) (hx : x + t + b = u.getD k 0 + 4294967296 * b') :
    valL (o ++ [x]) + g * valL (d.take (k + 1)) = valL (u.take (k + 1)) + 4294967296 ^ (k + 1) * (c' + b') := by
  rw [valL_snoc, valL_take_succ', valL_take_succ', Nat.pow_succ, hl]
  generalize 4294967296 ^ k = P at *
  grind

/-- the last one: no borrow is left: the guess was right -/
theorem ms_right (h : Kn n u d) {o : List Nat} {c b x g : Nat} (hl : o.length = n) (hd : Dig o) (hg : valL u / valL d ≤ g) (e : valL o + g * valL (d.take n) = valL (u.take n) + 4294967296 ^ n * (c + b)) (hx : x + c + b = u.getD n 0) :
    g = valL u / valL d ∧ valL (o ++ [x]) = valL u % valL d := by
  have hu : valL u = valL (u.take n) + 4294967296 ^ n * u.getD n 0 := by
    rw [← valL_take_succ', List.take_of_length_le (by rw [h.lu]; omega)]
  rw [List.take_of_length_le (by rw [h.ld]; omega)] at e
  have e2 : valL (o ++ [x]) + g * valL d = valL u := by
    rw [valL_snoc, hl, hu, ← hx]
    grind
  have hvp := h.vpos
  have hge : g = valL u / valL d := by
    apply Nat.le_antisymm _ hg
    rw [Nat.le_div_iff_mul_le hvp]
    omega
  refine ⟨hge, ?_⟩
  have := Nat.div_add_mod (valL u) (valL d)
  rw [← hge, Nat.mul_comm] at this
  omega

/-- a borrow is left: the guess was too great by one -/
theorem ms_wrong (h : Kn n u d) {o : List Nat} {c b x g : Nat} (hl : o.length = n) (hd : Dig o) (hx0 : x < 4294967296) (hg : g ≤ valL u / valL d + 1) (e : valL o + g * valL (d.take n) = valL (u.take n) + 4294967296 ^ n * (c + b)) (hx : x + c + b = u.getD n 0 + 4294967296) :
    1 ≤ g ∧ g - 1 = valL u / valL d ∧ valL (o ++ [x]) + valL d = valL u % valL d + 4294967296 ^ (n + 1) := by
  have hu : valL u = valL (u.take n) + 4294967296 ^ n * u.getD n 0 := by
    rw [← valL_take_succ', List.take_of_length_le (by rw [h.lu]; omega)]
  rw [List.take_of_length_le (by rw [h.ld]; omega)] at e
  have e2 : valL (o ++ [x]) + g * valL d = valL u + 4294967296 ^ (n + 1) := by
    rw [valL_snoc, hl, hu, Nat.pow_succ]
    have : u.getD n 0 = x + c + b - 4294967296 := by omega
    have h3 : 4294967296 ^ n * (x + c + b) = 4294967296 ^ n * u.getD n 0 + 4294967296 ^ n * 4294967296 := by rw [hx]; grind
    grind
  have ho : valL (o ++ [x]) < 4294967296 ^ (n + 1) := by
    have := valL_lt _ (hd.append (Dig.one hx0))
    rwa [List.length_append, hl] at this
  have hvp := h.vpos
  have hdm := Nat.div_add_mod (valL u) (valL d)
  generalize 4294967296 ^ (n + 1) = Q at *
  generalize valL (o ++ [x]) = O at *
  generalize valL u = U at *
  generalize valL d = V at *
  have hgt : U / V < g := by
    rw [Nat.div_lt_iff_lt_mul hvp]
    omega
  obtain rfl : g = U / V + 1 := by omega
  refine ⟨Nat.le_add_left _ _, Nat.add_sub_cancel _ _, ?_⟩
  rw [Nat.add_mul, Nat.one_mul, Nat.mul_comm] at e2
  omega

/-- adding back -/
theorem back_end (h : Kn n u d) {o w1 : List Nat} {x c : Nat} (hl : o.length = n) (hd : Dig o) (hw : w1.length = n) (hx0 : x < 4294967296) (e : valL o + 4294967296 ^ n * c = valL (w1.take n) + valL (d.take n)) (hw1 : valL (w1 ++ [x]) + valL d = valL u % valL d + 4294967296 ^ (n + 1)) :
    (x + c) % 4294967296 = 0 ∧ valL o = valL u % valL d := by
  rw [List.take_of_length_le (by omega), List.take_of_length_le (by rw [h.ld]; omega)] at e
  rw [valL_snoc, hw, Nat.pow_succ] at hw1
  have hm := Nat.mod_lt (valL u) h.vpos
  have hdl := valL_lt d h.dd
  rw [h.ld] at hdl
  have ho := valL_lt o hd
  rw [hl] at ho
  generalize 4294967296 ^ n = P at *
  generalize valL u % valL d = R at *
  generalize valL d = V at *
  generalize valL o = O at *
  generalize valL w1 = W at *
  have e3 : O + P * (c + x) = R + P * 4294967296 := by grind
  have h1 : c + x = 4294967296 := by
    rcases Nat.lt_trichotomy (c + x) 4294967296 with hh | hh | hh
    · have : P * (c + x + 1) ≤ P * 4294967296 := Nat.mul_le_mul_left _ hh
      rw [Nat.mul_add] at this; omega
    · exact hh
    · have : P * (4294967296 + 1) ≤ P * (c + x) := Nat.mul_le_mul_left _ hh
      rw [Nat.mul_add] at this; omega
  rw [h1] at e3
  exact ⟨by omega, by omega⟩
end

end Go.Proofs.YtjlicnhkemfmiaaGreatDoor

/- Long division: plain laws. Nothing of the program. -/
namespace Go.Proofs.YtjlicnhkemfmiaaGreatDoor

/-- the divisor's leading digit, shifted: what the shift asks and gives -/
theorem norm_lt {b s n t : Nat} (hn : (limbs b).length = n) (hn1 : 1 ≤ n) (ht : t = (limbs b).getD (n - 1) 0) (hs : s < 32) (hlt : t * 2 ^ s < 4294967296) : b * 2 ^ s < 4294967296 ^ n := by
  obtain ⟨m, rfl⟩ : ∃ m, n = m + 1 := ⟨n - 1, by omega⟩
  have hv := valL_split (limbs b) m (by omega)
  rw [valL_drop (limbs b) m (by omega), List.drop_of_length_le (by omega), valL_limbs] at hv
  simp only [Nat.add_sub_cancel] at ht
  rw [← ht] at hv
  simp only [valL, Nat.mul_zero, Nat.add_zero] at hv
  have hlow := valL_lt _ ((limbs_dig b).take m)
  rw [List.length_take_of_le (by omega)] at hlow
  have hM : 2 ^ s * 2 ^ (32 - s) = 4294967296 := by
    rw [← Nat.pow_add]
    have : s + (32 - s) = 32 := by omega
    rw [this]
  have hp : 0 < 2 ^ s := Nat.pow_pos (by omega)
  generalize 2 ^ s = P at *
  generalize 2 ^ (32 - s) = M at *
  rw [Nat.pow_succ]
  generalize 4294967296 ^ m = W at *
  generalize valL ((limbs b).take m) = L at *
  have htM : t < M := by
    rw [← hM] at hlt
    rw [Nat.mul_comm P M] at hlt
    exact Nat.lt_of_mul_lt_mul_right hlt
  have h1 : (t + 1) * P ≤ M * P := Nat.mul_le_mul_right _ htM
  have h2 : b < W * (t + 1) := by rw [Nat.mul_add]; omega
  have h3 : b * P < W * (t + 1) * P := Nat.mul_lt_mul_of_pos_right h2 hp
  have h4 : W * ((t + 1) * P) ≤ W * (M * P) := Nat.mul_le_mul_left _ h1
  rw [Nat.mul_comm M P, hM] at h4
  rw [← Nat.mul_assoc] at h4
  omega

theorem norm_ge {b s n t : Nat} (hn : (limbs b).length = n) (hn1 : 1 ≤ n) (ht : t = (limbs b).getD (n - 1) 0) (hge : 2147483648 ≤ t * 2 ^ s) : 2147483648 * 4294967296 ^ (n - 1) ≤ b * 2 ^ s := by
  obtain ⟨m, rfl⟩ : ∃ m, n = m + 1 := ⟨n - 1, by omega⟩
  have hv := valL_split (limbs b) m (by omega)
  rw [valL_drop (limbs b) m (by omega), List.drop_of_length_le (by omega), valL_limbs] at hv
  simp only [Nat.add_sub_cancel] at ht ⊢
  rw [← ht] at hv
  simp only [valL, Nat.mul_zero, Nat.add_zero] at hv
  generalize 2 ^ s = P at *
  generalize 4294967296 ^ m = W at *
  have h1 : W * t ≤ b := by omega
  calc 2147483648 * W ≤ (t * P) * W := Nat.mul_le_mul_right _ hge
    _ = (W * t) * P := by grind
    _ ≤ b * P := Nat.mul_le_mul_right _ h1

/-- the leading digit of a list from its value -/
theorem top_ge {D : List Nat} {n : Nat} (hn : D.length = n) (hn1 : 1 ≤ n) (hd : Dig D) (h : 2147483648 * 4294967296 ^ (n - 1) ≤ valL D) : 2147483648 ≤ D.getD (n - 1) 0 := by
  obtain ⟨m, rfl⟩ : ∃ m, n = m + 1 := ⟨n - 1, by omega⟩
  have hv := valL_split D m (by omega)
  rw [valL_drop D m (by omega), List.drop_of_length_le (by omega)] at hv
  simp only [Nat.add_sub_cancel, valL, Nat.mul_zero, Nat.add_zero] at *
  have hlow := valL_lt _ (hd.take m)
  rw [List.length_take_of_le (by omega)] at hlow
  generalize 4294967296 ^ m = W at *
  rcases Nat.lt_or_ge (D.getD m 0) 2147483648 with hh | hh
  · exfalso
    have := Nat.mul_le_mul_left W (show D.getD m 0 + 1 ≤ 2147483648 from hh)
    rw [Nat.mul_add] at this
    omega
  · exact hh

theorem pow_le31 {s : Nat} (hs : s < 32) : 2 ^ s ≤ 2147483648 := by
  calc 2 ^ s ≤ 2 ^ 31 := Nat.pow_le_pow_right (by omega) (by omega)
    _ = 2147483648 := by decide

theorem dividend_lt {a s la : Nat} (hla : (limbs a).length = la) (hs : s < 32) : a * 2 ^ s < 4294967296 ^ (la + 1) := by
  have h1 := lt_pow_limbs a
  rw [hla] at h1
  have h2 := pow_le31 hs
  have hp : 0 < 2 ^ s := Nat.pow_pos (by omega)
  rw [Nat.pow_succ]
  calc a * 2 ^ s < 4294967296 ^ la * 2 ^ s := Nat.mul_lt_mul_of_pos_right h1 hp
    _ ≤ 4294967296 ^ la * 4294967296 := Nat.mul_le_mul_left _ (by omega)

/-- the leading digits of the dividend are less than the divisor -/
theorem start_lt {u0 D : List Nat} {a s la n m : Nat} (hla : (limbs a).length = la) (hs : s < 32) (hm : m = la + 1) (hn1 : 1 ≤ n) (hn : n ≤ la) (hu : u0.length = m) (hv : valL u0 = a * 2 ^ s) (hD : 2147483648 * 4294967296 ^ (n - 1) ≤ valL D) : valL (u0.drop (m - n)) < valL D := by
  have h1 := lt_pow_limbs a
  rw [hla] at h1
  have h2 := pow_le31 hs
  have hp : 0 < 2 ^ s := Nat.pow_pos (by omega)
  have hsp := valL_split u0 (m - n) (by omega)
  have h3 : a * 2 ^ s < 4294967296 ^ la * 2147483648 := by
    calc a * 2 ^ s < 4294967296 ^ la * 2 ^ s := Nat.mul_lt_mul_of_pos_right h1 hp
      _ ≤ 4294967296 ^ la * 2147483648 := Nat.mul_le_mul_left _ h2
  have h4 : 4294967296 ^ la = 4294967296 ^ (m - n) * 4294967296 ^ (n - 1) := by
    rw [← Nat.pow_add]; congr 1; omega
  rw [← hv, hsp, h4] at h3
  generalize 4294967296 ^ (m - n) = W at *
  generalize 4294967296 ^ (n - 1) = X at *
  generalize valL (u0.drop (m - n)) = Y at *
  have h5 : W * Y < W * (X * 2147483648) := by rw [← Nat.mul_assoc]; omega
  have h6 : Y < X * 2147483648 := Nat.lt_of_mul_lt_mul_left h5
  omega

theorem divmod_of' {a q d r : Nat} (h : a = q * d + r) (hr : r < d) : q = a / d ∧ r = a % d := by
  subst h
  have hd : 0 < d := by omega
  constructor
  · rw [Nat.mul_comm, Nat.mul_add_div hd, Nat.div_eq_of_lt hr]; omega
  · rw [Nat.mul_comm, Nat.mul_add_mod, Nat.mod_eq_of_lt hr]

/-- a round of the division -/
theorem round_div {u0 qs o : List Nat} {j V qd : Nat} (hj : j < u0.length) (hV : 0 < V) (hq : valL qs = valL (u0.drop (j + 1)) / V) (ho : valL o = valL (u0.drop (j + 1)) % V) (hqd : qd = valL (u0.getD j 0 :: o) / V) :
    valL (qd :: qs) = valL (u0.drop j) / V ∧ valL (u0.getD j 0 :: o) % V = valL (u0.drop j) % V := by
  rw [valL_drop u0 j hj]
  have hdm := Nat.div_add_mod (valL (u0.drop (j + 1))) V
  rw [← hq, ← ho] at hdm
  simp only [valL] at *
  have hdm2 := Nat.div_add_mod (u0.getD j 0 + 4294967296 * valL o) V
  have hlt := Nat.mod_lt (u0.getD j 0 + 4294967296 * valL o) hV
  rw [← hqd] at hdm2
  generalize valL (u0.drop (j + 1)) = N at *
  generalize u0.getD j 0 = x at *
  generalize valL o = r at *
  generalize valL qs = q at *
  have := divmod_of' (a := x + 4294967296 * N) (q := qd + 4294967296 * q) (d := V) (r := (x + 4294967296 * r) % V) (by rw [← hdm]; grind) hlt
  exact ⟨this.1, this.2⟩

theorem us_lt {x V : Nat} {o : List Nat} (hx : x < 4294967296) (ho : valL o < V) : valL (x :: o) < 4294967296 * V := by
  simp only [valL]; omega

theorem shr_quot {a b P : Nat} (hP : 0 < P) : a * P / (b * P) = a / b ∧ a * P % (b * P) = a % b * P := ⟨Nat.mul_div_mul_right _ _ hP, Nat.mul_mod_mul_right _ _ _⟩

end Go.Proofs.YtjlicnhkemfmiaaGreatDoor

/- Decimal digits: plain laws. Nothing of the program. -/
namespace Go.Proofs.YtjlicnhkemfmiaaGreatDoor

end Go.Proofs.YtjlicnhkemfmiaaGreatDoor

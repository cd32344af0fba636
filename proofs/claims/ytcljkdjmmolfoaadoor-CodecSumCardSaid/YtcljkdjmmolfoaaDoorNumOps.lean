/- Sums, differences, products, quotients in base 2^32, digit by digit; Knuth's division: plain laws. Nothing of the program. -/
import Derived.Test.YtcljkdjmmolfoaaDoorNum
set_option linter.unusedVariables false
set_option linter.unusedSimpArgs false
namespace Go.Proofs.YtcljkdjmmolfoaaDoor

theorem valL_take_succ' (l : List Nat) (k : Nat) : valL (l.take (k + 1)) = valL (l.take k) + 4294967296 ^ k * l.getD k 0 := by
  by_cases h : k < l.length
  · exact valL_take_succ l k h
  · have h2 : l.getD k 0 = 0 := by rw [List.getD_eq_getElem?_getD, List.getElem?_eq_none (by omega)]; rfl
    rw [List.take_of_length_le (by omega), List.take_of_length_le (by omega), h2]; simp

/-- a sum's next digit -/
theorem add_step {o x y : List Nat} {i c d c' : Nat} (hl : o.length = i) (h : valL o + 4294967296 ^ i * c = valL (x.take i) + valL (y.take i)) (e : d + 4294967296 * c' = x.getD i 0 + y.getD i 0 + c) :
    valL (o ++ [d]) + 4294967296 ^ (i + 1) * c' = valL (x.take (i + 1)) + valL (y.take (i + 1)) := by
  rw [valL_snoc, valL_take_succ', valL_take_succ', Nat.pow_succ, hl]
  generalize 4294967296 ^ i = P at *
  grind

/-- a difference's next digit -/
theorem sub_step {o x y : List Nat} {i b d b' : Nat} (hl : o.length = i) (h : valL o + valL (y.take i) = valL (x.take i) + 4294967296 ^ i * b) (e : d + y.getD i 0 + b = x.getD i 0 + 4294967296 * b') :
    valL (o ++ [d]) + valL (y.take (i + 1)) = valL (x.take (i + 1)) + 4294967296 ^ (i + 1) * b' := by
  rw [valL_snoc, valL_take_succ', valL_take_succ', Nat.pow_succ, hl]
  generalize 4294967296 ^ i = P at *
  grind

theorem sub_end {o x y : List Nat} {b : Nat} (ho : Dig o) (hl : o.length = x.length) (hy : y.length ≤ x.length) (hb : b ≤ 1) (hle : valL y ≤ valL x) (h : valL o + valL (y.take x.length) = valL (x.take x.length) + 4294967296 ^ x.length * b) : valL o = valL x - valL y ∧ b = 0 := by
  rw [List.take_of_length_le hy, List.take_length] at h
  have h1 := valL_lt o ho
  rw [hl] at h1
  obtain rfl | rfl : b = 0 ∨ b = 1 := by omega
  · simp at h; omega
  · simp at h; omega

theorem valL_set (l : List Nat) (j d : Nat) (hj : j < l.length) : valL (l.set j d) + 4294967296 ^ j * l.getD j 0 = valL l + 4294967296 ^ j * d := by
  have h1 := valL_split (l.set j d) j (by simp; omega)
  have h2 := valL_split l j (by omega)
  rw [valL_drop (l.set j d) j (by simpa using hj)] at h1
  rw [valL_drop l j hj] at h2
  have e1 : (l.set j d).take j = l.take j := by rw [List.take_set]; exact List.set_eq_of_length_le (by simp; omega)
  have e2 : (l.set j d).drop (j + 1) = l.drop (j + 1) := by rw [List.drop_set]; simp
  have e3 : (l.set j d).getD j 0 = d := by rw [List.getD_eq_getElem?_getD, List.getElem?_set_self hj]; rfl
  rw [e1, e2, e3] at h1
  rw [h1, h2]
  generalize 4294967296 ^ j = P at *
  grind

/-- a product's next digit: the inner loop -/
theorem mul_step {o o0 y : List Nat} {i k c d c' u : Nat} (h : valL o + 4294967296 ^ (i + k) * c = valL o0 + 4294967296 ^ i * (u * valL (y.take k))) (hk : i + k < o.length)
    (e : d + 4294967296 * c' = u * y.getD k 0 + o.getD (i + k) 0 + c) :
    valL (o.set (i + k) d) + 4294967296 ^ (i + (k + 1)) * c' = valL o0 + 4294967296 ^ i * (u * valL (y.take (k + 1))) := by
  have hs := valL_set o (i + k) d hk
  rw [valL_take_succ']
  rw [Nat.pow_add] at hs h
  rw [← Nat.add_assoc, Nat.pow_succ, Nat.pow_add]
  generalize 4294967296 ^ i = P at *
  generalize 4294967296 ^ k = Q at *
  grind

theorem mul_last {o o0 y : List Nat} {i c u : Nat} (h : valL o + 4294967296 ^ (i + y.length) * c = valL o0 + 4294967296 ^ i * (u * valL (y.take y.length))) (hk : i + y.length < o.length) (hz : o.getD (i + y.length) 0 = 0) :
    valL (o.set (i + y.length) c) = valL o0 + 4294967296 ^ i * (u * valL y) := by
  have hs := valL_set o (i + y.length) c hk
  rw [hz] at hs
  rw [List.take_length] at h
  omega

theorem mul_outer {o o0 x y : List Nat} {i : Nat} (h0 : valL o0 = valL (x.take i) * valL y) (h : valL o = valL o0 + 4294967296 ^ i * (x.getD i 0 * valL y)) : valL o = valL (x.take (i + 1)) * valL y := by
  rw [valL_take_succ', h, h0]
  grind

theorem mul_bd {u v o c : Nat} (hu : u < 4294967296) (hv : v < 4294967296) (ho : o < 4294967296) (hc : c < 4294967296) : u * v + o + c < 18446744073709551616 ∧ u * v ≤ 18446744065119617025 := by
  have h1 : u * v ≤ 4294967295 * 4294967295 := Nat.mul_le_mul (by omega) (by omega)
  omega

/-- a quotient's next digit, by one digit -/
theorem div_step {a : List Nat} {o : List Nat} {i d r q r' : Nat} (hi : i < a.length) (h : valL (a.drop (i + 1)) = valL o * d + r) (e : r * 4294967296 + a.getD i 0 = q * d + r') :
    valL (a.drop i) = valL (q :: o) * d + r' := by
  rw [valL_drop a i hi, h, valL]
  grind

theorem div_digit {r x d : Nat} (hr : r < d) (hx : x < 4294967296) : (r * 4294967296 + x) / d < 4294967296 := by
  apply Nat.div_lt_of_lt_mul
  have : (r + 1) * 4294967296 ≤ d * 4294967296 := Nat.mul_le_mul_right _ hr
  omega

/-! ### shifts -/
theorem shl_step {o a : List Nat} {i hi x P lo hi' : Nat} (hl : o.length = i) (h : valL o + 4294967296 ^ i * hi = valL (a.take i) * P) (e : lo + 4294967296 * hi' = a.getD i 0 * P) :
    valL (o ++ [hi + lo]) + 4294967296 ^ (i + 1) * hi' = valL (a.take (i + 1)) * P := by
  rw [valL_snoc, valL_take_succ', Nat.pow_succ, hl]
  generalize 4294967296 ^ i = Q at *
  grind

/-- a number shifted right, digit by digit -/
def shrL (P : Nat) : List Nat → List Nat
  | [] => []
  | x :: l => (x + 4294967296 * l.getD 0 0) / P % 4294967296 :: shrL P l

theorem shrL_len (P : Nat) : ∀ l, (shrL P l).length = l.length
  | [] => rfl
  | x :: l => by simp [shrL, shrL_len P l]

theorem shrL_dig (P : Nat) : ∀ l, Dig (shrL P l)
  | [] => Dig.nil
  | x :: l => Dig.cons (by omega) (shrL_dig P l)

theorem shrL_getD (P : Nat) : ∀ (l : List Nat) (i : Nat), i < l.length → (shrL P l).getD i 0 = (l.getD i 0 + 4294967296 * l.getD (i + 1) 0) / P % 4294967296
  | [], i, h => by simp at h
  | x :: l, 0, _ => by simp [shrL]
  | x :: l, i + 1, h => by
    have := shrL_getD P l i (by simpa using h)
    simpa [shrL] using this

theorem valL_shrL {P M : Nat} (hP : 0 < P) (hM : P * M = 4294967296) : ∀ (l : List Nat), Dig l → valL (shrL P l) = valL l / P
  | [], _ => by simp [shrL, valL]
  | x :: l, h => by
    have hx := h.head
    rw [shrL, valL, valL_shrL hP hM l h.tail, valL]
    have e0 : ∀ V : Nat, (x + 4294967296 * V) / P = x / P + M * V := by
      intro V
      rw [← hM, Nat.mul_assoc, Nat.add_mul_div_left _ _ hP]
    rw [e0, e0]
    have hxM : x / P < M := Nat.div_lt_of_lt_mul (by omega)
    rcases l with _ | ⟨y, l⟩
    · have hM' : M ≤ 4294967296 := by
        rw [← hM]; exact Nat.le_mul_of_pos_left M hP
      simp [valL, Nat.mod_eq_of_lt (show x / P < 4294967296 by omega)]
    · have hd : (y :: l).getD 0 0 = y := rfl
      rw [hd, valL]
      have e1 : (y + 4294967296 * valL l) / P = y / P + M * valL l := by
        rw [← hM, Nat.mul_assoc, Nat.add_mul_div_left _ _ hP]
      rw [e1]
      have hy := Nat.div_add_mod y P
      have hyP := Nat.mod_lt y hP
      generalize hq : y / P = q at *
      generalize hr : y % P = r at *
      have e2 : x / P + M * y = (x / P + M * r) + 4294967296 * q := by
        rw [← hy, ← hM]; grind
      have hb : x / P + M * r < 4294967296 := by
        have : M * (r + 1) ≤ M * P := Nat.mul_le_mul_left _ hyP
        rw [Nat.mul_comm M P, hM, Nat.mul_add] at this
        omega
      rw [e2, Nat.add_mul_mod_self_left, Nat.mod_eq_of_lt hb]
      have e3 : M * (y + 4294967296 * valL l) = M * r + 4294967296 * q + M * (4294967296 * valL l) := by
        rw [← hy]
        have : M * (P * q + r) = (P * M) * q + M * r := by grind
        rw [Nat.mul_add, this, hM]; omega
      rw [e3]
      have e4 : 4294967296 * (q + M * valL l) = 4294967296 * q + M * (4294967296 * valL l) := by grind
      rw [e4]
      omega

/-! ### Knuth's division: the digit of the quotient -/
/-- the guess is not too small -/
theorem guess_le {q u v u3 v2 W lowv lowu : Nat} (hv : v = v2 * W + lowv) (hu : u = u3 * W + lowu) (hlu : lowu < W) {g : Nat} (hg : u3 < g * v2) (hq : q * v ≤ u) : q < g := by
  rcases Nat.lt_or_ge q g with h | h
  · exact h
  · exfalso
    have h1 : g * v2 * W ≤ q * v := by
      rw [hv, Nat.mul_assoc]
      calc g * (v2 * W) ≤ q * (v2 * W) := Nat.mul_le_mul_right _ h
        _ ≤ q * (v2 * W + lowv) := Nat.mul_le_mul_left _ (by omega)
    have h2 : (u3 + 1) * W ≤ g * v2 * W := Nat.mul_le_mul_right _ hg
    rw [Nat.add_mul, Nat.one_mul] at h2
    omega

/-- and too great by one at most -/
theorem guess_near {q u v u3 v2 W lowv lowu g : Nat} (hv : v = v2 * W + lowv) (hu : u = u3 * W + lowu) (hlv : lowv < W) (hg : g * v2 ≤ u3) (hgw : g * W ≤ v) (hq : u < (q + 1) * v) : g ≤ q + 1 := by
  rcases Nat.lt_or_ge (q + 1) g with h | h
  · exfalso
    have h1 : (q + 1) * v + v ≤ g * v := by
      have := Nat.mul_le_mul_right v (show q + 1 + 1 ≤ g from h)
      rwa [Nat.add_mul (q + 1) 1 v, Nat.one_mul] at this
    have h2 : g * v ≤ g * v2 * W + g * W := by
      rw [hv, Nat.mul_add, Nat.mul_assoc]
      have := Nat.mul_le_mul_left g (Nat.le_of_lt hlv)
      omega
    have h3 : g * v2 * W ≤ u3 * W := Nat.mul_le_mul_right _ hg
    omega
  · exact h

/-- u has a digit more than d; both as lists, the least digit first -/
structure Kn (n : Nat) (u d : List Nat) : Prop where
  n2 : 2 ≤ n
  lu : u.length = n + 1
  ld : d.length = n
  du : Dig u
  dd : Dig d
  top : 2147483648 ≤ d.getD (n - 1) 0
  lt : valL u < 4294967296 * valL d

section
variable {n : Nat} {u d : List Nat}

theorem valL_top2 {l : List Nat} {n : Nat} (hn : 2 ≤ n) (hl : l.length = n) : valL l = (l.getD (n - 1) 0 * 4294967296 + l.getD (n - 2) 0) * 4294967296 ^ (n - 2) + valL (l.take (n - 2)) := by
  obtain ⟨m, rfl⟩ : ∃ m, n = m + 2 := ⟨n - 2, by omega⟩
  have h := valL_split l m (by omega)
  rw [valL_drop l m (by omega), valL_drop l (m + 1) (by omega), List.drop_of_length_le (by omega)] at h
  simp only [valL, show m + 2 - 1 = m + 1 from rfl, show m + 2 - 2 = m from rfl]
  rw [h]
  simp only [valL]
  grind

theorem Kn.v (h : Kn n u d) : valL d = (d.getD (n - 1) 0 * 4294967296 + d.getD (n - 2) 0) * 4294967296 ^ (n - 2) + valL (d.take (n - 2)) := valL_top2 h.n2 h.ld
theorem Kn.uu (h : Kn n u d) : valL u = ((u.getD n 0 * 4294967296 + u.getD (n - 1) 0) * 4294967296 + u.getD (n - 2) 0) * 4294967296 ^ (n - 2) + valL (u.take (n - 2)) := by
  obtain ⟨m, rfl⟩ : ∃ m, n = m + 2 := ⟨n - 2, by have := h.n2; omega⟩
  have hl := h.lu
  have e := valL_split u m (by omega)
  rw [valL_drop u m (by omega), valL_drop u (m + 1) (by omega), valL_drop u (m + 2) (by omega), List.drop_of_length_le (by omega)] at e
  simp only [valL, show m + 2 - 1 = m + 1 from rfl, show m + 2 - 2 = m from rfl]
  rw [e]
  simp only [valL]
  grind
theorem Kn.lowv (h : Kn n u d) : valL (d.take (n - 2)) < 4294967296 ^ (n - 2) := by
  have := valL_lt _ (h.dd.take (n - 2))
  rwa [List.length_take_of_le (by rw [h.ld]; omega)] at this
theorem Kn.lowu (h : Kn n u d) : valL (u.take (n - 2)) < 4294967296 ^ (n - 2) := by
  have := valL_lt _ (h.du.take (n - 2))
  rwa [List.length_take_of_le (by rw [h.lu]; omega)] at this
theorem Kn.wpos (h : Kn n u d) : 0 < 4294967296 ^ (n - 2) := Nat.pow_pos (by omega)

/-- the leading digit of u is not greater than that of d -/
theorem Kn.u1 (h : Kn n u d) : u.getD n 0 ≤ d.getD (n - 1) 0 := by
  have hu := h.uu
  have hv := h.v
  have hlv := h.lowv
  have hlt := h.lt
  have hw := h.wpos
  have hd2 := h.dd.getD (n - 2)
  generalize 4294967296 ^ (n - 2) = W at *
  generalize valL u = U at *
  generalize valL d = V at *
  generalize u.getD n 0 = a at *
  generalize u.getD (n - 1) 0 = b at *
  generalize u.getD (n - 2) 0 = c at *
  generalize d.getD (n - 1) 0 = d1 at *
  generalize d.getD (n - 2) 0 = d2 at *
  rcases Nat.lt_or_ge d1 a with hh | hh
  · exfalso
    have h1 : ((d1 + 1) * 18446744073709551616) * W ≤ ((a * 4294967296 + b) * 4294967296 + c) * W := Nat.mul_le_mul_right _ (by omega)
    have h2 : (d1 * 4294967296 + d2 + 1) * W ≤ ((d1 + 1) * 4294967296) * W := Nat.mul_le_mul_right _ (by omega)
    have h3 : (d1 * 4294967296 + d2 + 1) * W = (d1 * 4294967296 + d2) * W + W := by rw [Nat.add_mul, Nat.one_mul]
    have h4 : ((d1 + 1) * 18446744073709551616) * W = 4294967296 * (((d1 + 1) * 4294967296) * W) := by grind
    omega
  · exact hh

/-- the guess g with its rest r, before the test -/
structure Gs (n : Nat) (u d : List Nat) (g r : Nat) : Prop where
  eq : g * d.getD (n - 1) 0 + r = u.getD n 0 * 4294967296 + u.getD (n - 1) 0
  ge : valL u / valL d ≤ g

theorem Kn.vpos (h : Kn n u d) : 0 < valL d := by
  have hv := h.v
  have ht := h.top
  have hw := h.wpos
  have : 1 * 4294967296 ^ (n - 2) ≤ (d.getD (n - 1) 0 * 4294967296 + d.getD (n - 2) 0) * 4294967296 ^ (n - 2) := Nat.mul_le_mul_right _ (by omega)
  omega

theorem Kn.qlt (h : Kn n u d) : valL u / valL d < 4294967296 := Nat.div_lt_of_lt_mul (by rw [Nat.mul_comm]; exact h.lt)

/-- where the test says that the guess is too great, it is -/
theorem Kn.high (h : Kn n u d) {g r : Nat} (hg : g * d.getD (n - 1) 0 + r = u.getD n 0 * 4294967296 + u.getD (n - 1) 0) (ht : r * 4294967296 + u.getD (n - 2) 0 < g * d.getD (n - 2) 0) : valL u / valL d < g := by
  refine guess_le h.v h.uu h.lowu ?_ (Nat.div_mul_le_self _ _)
  rw [← hg]
  grind

theorem Gs.start (h : Kn n u d) : Gs n u d ((u.getD n 0 * 4294967296 + u.getD (n - 1) 0) / d.getD (n - 1) 0) ((u.getD n 0 * 4294967296 + u.getD (n - 1) 0) % d.getD (n - 1) 0) := by
  have ht := h.top
  have e : (u.getD n 0 * 4294967296 + u.getD (n - 1) 0) / d.getD (n - 1) 0 * d.getD (n - 1) 0 + (u.getD n 0 * 4294967296 + u.getD (n - 1) 0) % d.getD (n - 1) 0 = u.getD n 0 * 4294967296 + u.getD (n - 1) 0 := by
    rw [Nat.mul_comm]; exact Nat.div_add_mod _ _
  refine ⟨e, ?_⟩
  have hm := Nat.mod_lt (u.getD n 0 * 4294967296 + u.getD (n - 1) 0) (show 0 < d.getD (n - 1) 0 by omega)
  refine Nat.le_of_lt_succ (guess_le h.v h.uu h.lowu ?_ (Nat.div_mul_le_self _ _))
  have hu2 := h.du.getD (n - 2)
  generalize (u.getD n 0 * 4294967296 + u.getD (n - 1) 0) / d.getD (n - 1) 0 = g at *
  generalize (u.getD n 0 * 4294967296 + u.getD (n - 1) 0) % d.getD (n - 1) 0 = r at *
  rw [← e]
  generalize d.getD (n - 1) 0 = d1 at *
  generalize d.getD (n - 2) 0 = d2 at *
  generalize u.getD (n - 2) 0 = u0 at *
  have h1 : (g + 1) * (d1 * 4294967296 + d2) = (g * d1 + d1) * 4294967296 + (g + 1) * d2 := by grind
  rw [h1]
  omega

/-- the guess's bound -/
theorem Gs.bd (h : Kn n u d) {g r : Nat} (hg : Gs n u d g r) : g ≤ 4294967297 ∧ (4294967296 ≤ g → r < 4294967296) := by
  have hu1 := h.u1
  have hb := h.du.getD (n - 1)
  have ht := h.top
  have e := hg.eq
  generalize d.getD (n - 1) 0 = d1 at *
  generalize u.getD n 0 = a at *
  generalize u.getD (n - 1) 0 = b at *
  constructor
  · rcases Nat.lt_or_ge 4294967297 g with hh | hh
    · exfalso
      have : 4294967298 * d1 ≤ g * d1 := Nat.mul_le_mul_right _ hh
      omega
    · exact hh
  · intro hh
    have : 4294967296 * d1 ≤ g * d1 := Nat.mul_le_mul_right _ hh
    omega

/-- the guess goes down by one -/
theorem Gs.down (h : Kn n u d) {g r : Nat} (hg : Gs n u d g r) (ht : 4294967296 ≤ g ∨ r * 4294967296 + u.getD (n - 2) 0 < g * d.getD (n - 2) 0) : 1 ≤ g ∧ Gs n u d (g - 1) (r + d.getD (n - 1) 0) := by
  have hq : valL u / valL d < g := by
    rcases ht with ht | ht
    · have := h.qlt; omega
    · exact h.high hg.eq ht
  have hg1 : 1 ≤ g := Nat.lt_of_le_of_lt (Nat.zero_le _) hq
  obtain ⟨g', rfl⟩ : ∃ g', g = g' + 1 := ⟨g - 1, (Nat.sub_add_cancel hg1).symm⟩
  refine ⟨hg1, ?_, ?_⟩
  · have e := hg.eq
    simp only [Nat.add_sub_cancel]
    rw [Nat.add_mul] at e
    omega
  · simp only [Nat.add_sub_cancel]
    exact Nat.le_of_lt_succ hq

/-- the guess behind the loop: it is right, or too great by one -/
theorem Gs.last (h : Kn n u d) {g r : Nat} (hg : Gs n u d g r) (ht : 4294967296 ≤ r ∨ (g < 4294967296 ∧ g * d.getD (n - 2) 0 ≤ r * 4294967296 + u.getD (n - 2) 0)) : g < 4294967296 ∧ g ≤ valL u / valL d + 1 := by
  have hlt : g < 4294967296 := by
    rcases ht with ht | ht
    · have := (hg.bd h).2; omega
    · exact ht.1
  refine ⟨hlt, ?_⟩
  have hd2 := h.dd.getD (n - 2)
  have hle : g * d.getD (n - 2) 0 ≤ r * 4294967296 + u.getD (n - 2) 0 := by
    rcases ht with ht | ht
    · have h1 : g * d.getD (n - 2) 0 ≤ 4294967296 * 4294967296 := Nat.mul_le_mul (by omega) (by omega)
      have h2 : 4294967296 * 4294967296 ≤ r * 4294967296 := Nat.mul_le_mul_right _ ht
      omega
    · exact ht.2
  have e := hg.eq
  refine guess_near h.v h.uu h.lowv (by rw [← e]; grind) ?_ ?_
  · rw [h.v]
    have htop := h.top
    have : g * 4294967296 ^ (n - 2) ≤ (d.getD (n - 1) 0 * 4294967296 + d.getD (n - 2) 0) * 4294967296 ^ (n - 2) := Nat.mul_le_mul_right _ (by omega)
    omega
  · have := Nat.div_add_mod (valL u) (valL d)
    have hm := Nat.mod_lt (valL u) h.vpos
    rw [Nat.add_mul, Nat.one_mul, Nat.mul_comm]
    omega

/-- multiply and subtract: the next digit. o: the digits that were written; c the carry, b the borrow -/
theorem ms_step {o : List Nat} {k c b t x c' b' g : Nat} (hl : o.length = k) (h : valL o + g * valL (d.take k) = valL (u.take k) + 4294967296 ^ k * (c + b)) (ht : t + 4294967296 * c' = g * d.getD k 0 + c) (hx : x + t + b = u.getD k 0 + 4294967296 * b') :
    valL (o ++ [x]) + g * valL (d.take (k + 1)) = valL (u.take (k + 1)) + 4294967296 ^ (k + 1) * (c' + b') := by
  rw [valL_snoc, valL_take_succ', valL_take_succ', Nat.pow_succ, hl]
  generalize 4294967296 ^ k = P at *
  grind

/-- the last one: no borrow is left: the guess was right -/
theorem ms_right (h : Kn n u d) {o : List Nat} {c b x g : Nat} (hl : o.length = n) (hd : Dig o) (hg : valL u / valL d ≤ g) (e : valL o + g * valL (d.take n) = valL (u.take n) + 4294967296 ^ n * (c + b)) (hx : x + c + b = u.getD n 0) :
    g = valL u / valL d ∧ valL (o ++ [x]) = valL u % valL d := by
  have hu : valL u = valL (u.take n) + 4294967296 ^ n * u.getD n 0 := by
    rw [← valL_take_succ', List.take_of_length_le (by rw [h.lu]; omega)]
  rw [List.take_of_length_le (by rw [h.ld]; omega)] at e
  have e2 : valL (o ++ [x]) + g * valL d = valL u := by
    rw [valL_snoc, hl, hu, ← hx]
    grind
  have hvp := h.vpos
  have hge : g = valL u / valL d := by
    apply Nat.le_antisymm _ hg
    rw [Nat.le_div_iff_mul_le hvp]
    omega
  refine ⟨hge, ?_⟩
  have := Nat.div_add_mod (valL u) (valL d)
  rw [← hge, Nat.mul_comm] at this
  omega

/-- a borrow is left: the guess was too great by one -/
theorem ms_wrong (h : Kn n u d) {o : List Nat} {c b x g : Nat} (hl : o.length = n) (hd : Dig o) (hx0 : x < 4294967296) (hg : g ≤ valL u / valL d + 1) (e : valL o + g * valL (d.take n) = valL (u.take n) + 4294967296 ^ n * (c + b)) (hx : x + c + b = u.getD n 0 + 4294967296) :
    1 ≤ g ∧ g - 1 = valL u / valL d ∧ valL (o ++ [x]) + valL d = valL u % valL d + 4294967296 ^ (n + 1) := by
  have hu : valL u = valL (u.take n) + 4294967296 ^ n * u.getD n 0 := by
    rw [← valL_take_succ', List.take_of_length_le (by rw [h.lu]; omega)]
  rw [List.take_of_length_le (by rw [h.ld]; omega)] at e
  have e2 : valL (o ++ [x]) + g * valL d = valL u + 4294967296 ^ (n + 1) := by
    rw [valL_snoc, hl, hu, Nat.pow_succ]
    have : u.getD n 0 = x + c + b - 4294967296 := by omega
    have h3 : 4294967296 ^ n * (x + c + b) = 4294967296 ^ n * u.getD n 0 + 4294967296 ^ n * 4294967296 := by rw [hx]; grind
    grind
  have ho : valL (o ++ [x]) < 4294967296 ^ (n + 1) := by
    have := valL_lt _ (hd.append (Dig.one hx0))
    rwa [List.length_append, hl] at this
  have hvp := h.vpos
  have hdm := Nat.div_add_mod (valL u) (valL d)
  generalize 4294967296 ^ (n + 1) = Q at *
  generalize valL (o ++ [x]) = O at *
  generalize valL u = U at *
  generalize valL d = V at *
  have hgt : U / V < g := by
    rw [Nat.div_lt_iff_lt_mul hvp]
    omega
  obtain rfl : g = U / V + 1 := by omega
  refine ⟨Nat.le_add_left _ _, Nat.add_sub_cancel _ _, ?_⟩
  rw [Nat.add_mul, Nat.one_mul, Nat.mul_comm] at e2
  omega

/-- adding back -/
theorem back_end (h : Kn n u d) {o w1 : List Nat} {x c : Nat} (hl : o.length = n) (hd : Dig o) (hw : w1.length = n) (hx0 : x < 4294967296) (e : valL o + 4294967296 ^ n * c = valL (w1.take n) + valL (d.take n)) (hw1 : valL (w1 ++ [x]) + valL d = valL u % valL d + 4294967296 ^ (n + 1)) :
    (x + c) % 4294967296 = 0 ∧ valL o = valL u % valL d := by
  rw [List.take_of_length_le (by omega), List.take_of_length_le (by rw [h.ld]; omega)] at e
  rw [valL_snoc, hw, Nat.pow_succ] at hw1
  have hm := Nat.mod_lt (valL u) h.vpos
  have hdl := valL_lt d h.dd
  rw [h.ld] at hdl
  have ho := valL_lt o hd
  rw [hl] at ho
  generalize 4294967296 ^ n = P at *
  generalize valL u % valL d = R at *
  generalize valL d = V at *
  generalize valL o = O at *
  generalize valL w1 = W at *
  have e3 : O + P * (c + x) = R + P * 4294967296 := by grind
  have h1 : c + x = 4294967296 := by
    rcases Nat.lt_trichotomy (c + x) 4294967296 with hh | hh | hh
    · have : P * (c + x + 1) ≤ P * 4294967296 := Nat.mul_le_mul_left _ hh
      rw [Nat.mul_add] at this; omega
    · exact hh
    · have : P * (4294967296 + 1) ≤ P * (c + x) := Nat.mul_le_mul_left _ hh
      rw [Nat.mul_add] at this; omega
  rw [h1] at e3
  exact ⟨by omega, by omega⟩
end

/-- the quotient's next digit, by a number -/
theorem ldiv_step {N V q r x qd : Nat} (hN : N = q * V + r) (hx : x + 4294967296 * r = qd * V + (x + 4294967296 * r) % V) : x + 4294967296 * N = (qd + 4294967296 * q) * V + (x + 4294967296 * r) % V := by
  generalize (x + 4294967296 * r) % V = R at *
  grind

end Go.Proofs.YtcljkdjmmolfoaaDoor

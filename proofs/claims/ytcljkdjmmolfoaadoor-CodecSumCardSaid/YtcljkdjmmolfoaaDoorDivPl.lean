/- Long division: plain laws. Nothing of the program. -/
import Derived.Test.YtcljkdjmmolfoaaDoorNumOps
set_option linter.unusedVariables false
set_option linter.unusedSimpArgs false
namespace Go.Proofs.YtcljkdjmmolfoaaDoor

/-- the divisor's leading digit, shifted: what the shift asks and gives -/
theorem norm_lt {b s n t : Nat} (hn : (limbs b).length = n) (hn1 : 1 ≤ n) (ht : t = (limbs b).getD (n - 1) 0) (hs : s < 32) (hlt : t * 2 ^ s < 4294967296) : b * 2 ^ s < 4294967296 ^ n := by
  obtain ⟨m, rfl⟩ : ∃ m, n = m + 1 := ⟨n - 1, by omega⟩
  have hv := valL_split (limbs b) m (by omega)
  rw [valL_drop (limbs b) m (by omega), List.drop_of_length_le (by omega), valL_limbs] at hv
  simp only [Nat.add_sub_cancel] at ht
  rw [← ht] at hv
  simp only [valL, Nat.mul_zero, Nat.add_zero] at hv
  have hlow := valL_lt _ ((limbs_dig b).take m)
  rw [List.length_take_of_le (by omega)] at hlow
  have hM : 2 ^ s * 2 ^ (32 - s) = 4294967296 := by
    rw [← Nat.pow_add]
    have : s + (32 - s) = 32 := by omega
    rw [this]
  have hp : 0 < 2 ^ s := Nat.pow_pos (by omega)
  generalize 2 ^ s = P at *
  generalize 2 ^ (32 - s) = M at *
  rw [Nat.pow_succ]
  generalize 4294967296 ^ m = W at *
  generalize valL ((limbs b).take m) = L at *
  have htM : t < M := by
    rw [← hM] at hlt
    rw [Nat.mul_comm P M] at hlt
    exact Nat.lt_of_mul_lt_mul_right hlt
  have h1 : (t + 1) * P ≤ M * P := Nat.mul_le_mul_right _ htM
  have h2 : b < W * (t + 1) := by rw [Nat.mul_add]; omega
  have h3 : b * P < W * (t + 1) * P := Nat.mul_lt_mul_of_pos_right h2 hp
  have h4 : W * ((t + 1) * P) ≤ W * (M * P) := Nat.mul_le_mul_left _ h1
  rw [Nat.mul_comm M P, hM] at h4
  rw [← Nat.mul_assoc] at h4
  omega

theorem norm_ge {b s n t : Nat} (hn : (limbs b).length = n) (hn1 : 1 ≤ n) (ht : t = (limbs b).getD (n - 1) 0) (hge : 2147483648 ≤ t * 2 ^ s) : 2147483648 * 4294967296 ^ (n - 1) ≤ b * 2 ^ s := by
  obtain ⟨m, rfl⟩ : ∃ m, n = m + 1 := ⟨n - 1, by omega⟩
  have hv := valL_split (limbs b) m (by omega)
  rw [valL_drop (limbs b) m (by omega), List.drop_of_length_le (by omega), valL_limbs] at hv
  simp only [Nat.add_sub_cancel] at ht ⊢
  rw [← ht] at hv
  simp only [valL, Nat.mul_zero, Nat.add_zero] at hv
  generalize 2 ^ s = P at *
  generalize 4294967296 ^ m = W at *
  have h1 : W * t ≤ b := by omega
  calc 2147483648 * W ≤ (t * P) * W := Nat.mul_le_mul_right _ hge
    _ = (W * t) * P := by grind
    _ ≤ b * P := Nat.mul_le_mul_right _ h1

/-- the leading digit of a list from its value -/
theorem top_ge {D : List Nat} {n : Nat} (hn : D.length = n) (hn1 : 1 ≤ n) (hd : Dig D) (h : 2147483648 * 4294967296 ^ (n - 1) ≤ valL D) : 2147483648 ≤ D.getD (n - 1) 0 := by
  obtain ⟨m, rfl⟩ : ∃ m, n = m + 1 := ⟨n - 1, by omega⟩
  have hv := valL_split D m (by omega)
  rw [valL_drop D m (by omega), List.drop_of_length_le (by omega)] at hv
  simp only [Nat.add_sub_cancel, valL, Nat.mul_zero, Nat.add_zero] at *
  have hlow := valL_lt _ (hd.take m)
  rw [List.length_take_of_le (by omega)] at hlow
  generalize 4294967296 ^ m = W at *
  rcases Nat.lt_or_ge (D.getD m 0) 2147483648 with hh | hh
  · exfalso
    have := Nat.mul_le_mul_left W (show D.getD m 0 + 1 ≤ 2147483648 from hh)
    rw [Nat.mul_add] at this
    omega
  · exact hh

theorem pow_le31 {s : Nat} (hs : s < 32) : 2 ^ s ≤ 2147483648 := by
  calc 2 ^ s ≤ 2 ^ 31 := Nat.pow_le_pow_right (by omega) (by omega)
    _ = 2147483648 := by decide

theorem dividend_lt {a s la : Nat} (hla : (limbs a).length = la) (hs : s < 32) : a * 2 ^ s < 4294967296 ^ (la + 1) := by
  have h1 := lt_pow_limbs a
  rw [hla] at h1
  have h2 := pow_le31 hs
  have hp : 0 < 2 ^ s := Nat.pow_pos (by omega)
  rw [Nat.pow_succ]
  calc a * 2 ^ s < 4294967296 ^ la * 2 ^ s := Nat.mul_lt_mul_of_pos_right h1 hp
    _ ≤ 4294967296 ^ la * 4294967296 := Nat.mul_le_mul_left _ (by omega)

/-- the leading digits of the dividend are less than the divisor -/
theorem start_lt {u0 D : List Nat} {a s la n m : Nat} (hla : (limbs a).length = la) (hs : s < 32) (hm : m = la + 1) (hn1 : 1 ≤ n) (hn : n ≤ la) (hu : u0.length = m) (hv : valL u0 = a * 2 ^ s) (hD : 2147483648 * 4294967296 ^ (n - 1) ≤ valL D) : valL (u0.drop (m - n)) < valL D := by
  have h1 := lt_pow_limbs a
  rw [hla] at h1
  have h2 := pow_le31 hs
  have hp : 0 < 2 ^ s := Nat.pow_pos (by omega)
  have hsp := valL_split u0 (m - n) (by omega)
  have h3 : a * 2 ^ s < 4294967296 ^ la * 2147483648 := by
    calc a * 2 ^ s < 4294967296 ^ la * 2 ^ s := Nat.mul_lt_mul_of_pos_right h1 hp
      _ ≤ 4294967296 ^ la * 2147483648 := Nat.mul_le_mul_left _ h2
  have h4 : 4294967296 ^ la = 4294967296 ^ (m - n) * 4294967296 ^ (n - 1) := by
    rw [← Nat.pow_add]; congr 1; omega
  rw [← hv, hsp, h4] at h3
  generalize 4294967296 ^ (m - n) = W at *
  generalize 4294967296 ^ (n - 1) = X at *
  generalize valL (u0.drop (m - n)) = Y at *
  have h5 : W * Y < W * (X * 2147483648) := by rw [← Nat.mul_assoc]; omega
  have h6 : Y < X * 2147483648 := Nat.lt_of_mul_lt_mul_left h5
  omega

theorem divmod_of' {a q d r : Nat} (h : a = q * d + r) (hr : r < d) : q = a / d ∧ r = a % d := by
  subst h
  have hd : 0 < d := by omega
  constructor
  · rw [Nat.mul_comm, Nat.mul_add_div hd, Nat.div_eq_of_lt hr]; omega
  · rw [Nat.mul_comm, Nat.mul_add_mod, Nat.mod_eq_of_lt hr]

/-- a round of the division -/
theorem round_div {u0 qs o : List Nat} {j V qd : Nat} (hj : j < u0.length) (hV : 0 < V) (hq : valL qs = valL (u0.drop (j + 1)) / V) (ho : valL o = valL (u0.drop (j + 1)) % V) (hqd : qd = valL (u0.getD j 0 :: o) / V) :
    valL (qd :: qs) = valL (u0.drop j) / V ∧ valL (u0.getD j 0 :: o) % V = valL (u0.drop j) % V := by
  rw [valL_drop u0 j hj]
  have hdm := Nat.div_add_mod (valL (u0.drop (j + 1))) V
  rw [← hq, ← ho] at hdm
  simp only [valL] at *
  have hdm2 := Nat.div_add_mod (u0.getD j 0 + 4294967296 * valL o) V
  have hlt := Nat.mod_lt (u0.getD j 0 + 4294967296 * valL o) hV
  rw [← hqd] at hdm2
  generalize valL (u0.drop (j + 1)) = N at *
  generalize u0.getD j 0 = x at *
  generalize valL o = r at *
  generalize valL qs = q at *
  have := divmod_of' (a := x + 4294967296 * N) (q := qd + 4294967296 * q) (d := V) (r := (x + 4294967296 * r) % V) (by rw [← hdm]; grind) hlt
  exact ⟨this.1, this.2⟩

theorem us_lt {x V : Nat} {o : List Nat} (hx : x < 4294967296) (ho : valL o < V) : valL (x :: o) < 4294967296 * V := by
  simp only [valL]; omega

theorem shr_quot {a b P : Nat} (hP : 0 < P) : a * P / (b * P) = a / b ∧ a * P % (b * P) = a % b * P := ⟨Nat.mul_div_mul_right _ _ hP, Nat.mul_mod_mul_right _ _ _⟩

end Go.Proofs.YtcljkdjmmolfoaaDoor

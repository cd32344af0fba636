/- the definition's plus, minus. -/
import Derived.Test.YtlljmiddgadcpaaAdd
set_option linter.unusedVariables false
set_option linter.unusedSimpArgs false
namespace Go.Proofs.Ytlljmiddgadcpaa
open Go.RowKit

/-- what plus answers: digits of a sum, perhaps with a nought at the head -/
structure Su (os : List Nat) (k c x y : Nat) : Prop where
  len : os.length = k
  dig : Dig os
  val : valL os + 4294967296 ^ k * c = valL ((limbs x).take k) + valL ((limbs y).take k)
  top : k = 0 ∨ 4294967296 ^ (k - 1) ≤ x + y

theorem su_top {os : List Nat} {k c x y : Nat} (h : Su os k c x y) (hend : k < (limbs x).length ∨ k < (limbs y).length ∨ 0 < c) : 4294967296 ^ k ≤ x + y := by
  by_cases h1 : k < (limbs x).length
  · have hx : x ≠ 0 := by rintro rfl; rw [limbs_zero] at h1; simp at h1
    have := pow_le_limbs hx
    have := Nat.pow_le_pow_right (show 0 < 4294967296 by decide) (show k ≤ (limbs x).length - 1 by omega)
    omega
  · by_cases h2 : k < (limbs y).length
    · have hy : y ≠ 0 := by rintro rfl; rw [limbs_zero] at h2; simp at h2
      have := pow_le_limbs hy
      have := Nat.pow_le_pow_right (show 0 < 4294967296 by decide) (show k ≤ (limbs y).length - 1 by omega)
      omega
    · have hc : 1 ≤ c := by omega
      have hv := h.val
      rw [List.take_of_length_le (by omega), List.take_of_length_le (by omega), valL_limbs, valL_limbs] at hv
      have := Nat.mul_le_mul_left (4294967296 ^ k) hc
      omega

theorem su_limbs {os : List Nat} {k n : Nat} (hd : Dig os) (hv : valL os = n) (hl : os.length = k) (ht : k = 0 ∨ 4294967296 ^ (k - 1) ≤ n) : os = limbs n := by
  have h1 := (take_limbs hd).1
  have h2 := (take_limbs hd).2
  rw [hv] at h1 h2
  have h3 : (limbs n).length = os.length := by
    rcases ht with h | h
    · omega
    · rcases Nat.lt_or_ge (limbs n).length os.length with h4 | h4
      · have h5 := lt_pow_limbs n
        have := Nat.pow_le_pow_right (show 0 < 4294967296 by decide) (show (limbs n).length ≤ k - 1 by omega)
        omega
      · omega
  rw [h3, List.take_of_length_le (Nat.le_refl _)] at h1
  exact h1

set_option maxHeartbeats 8000000 in
set_option maxRecDepth 100000 in
theorem plus_core (X Y : Option Addr) (cx cy x y : Nat) (w : World) (hr1 : KRd .u32 w w.heap.size X (limbs x)) (hr2 : KRd .u32 w w.heap.size Y (limbs y)) (hla : (limbs x).length ≤ 100000000) (hlb : (limbs y).length ≤ 100000000) :
    Calls Try.prog 38 #[.slice X (limbs x).length cx, .slice Y (limbs y).length cy] w fun e w' => ∃ A' c' os, e = .returned (.slice A' os.length c') ∧ os.length ≤ c' ∧ os.length ≤ 200000001 ∧ Dig os ∧ valL os = x + y ∧ os = limbs (x + y) ∧ KRd .u32 w' w'.heap.size A' os ∧ Below w.heap.size w w' := by
  obtain ⟨i0, hi, hz0, hz1, hz2⟩ := info_parts Try.info_u32
  have HI0 : Hid (Try.prog.info? 60 = some i0 ∧ i0.zero = some (.int .u32 0) ∧ i0.size = 1 ∧ i0.bytes = 4) := ⟨hi, hz0, hz1, hz2⟩
  obtain ⟨lx, hlx⟩ : ∃ lx, lx = (limbs x).length := ⟨_, rfl⟩
  obtain ⟨ly, hly⟩ : ∃ ly, ly = (limbs y).length := ⟨_, rfl⟩
  rw [← hlx] at hla ⊢
  rw [← hly] at hlb ⊢
  have HLL := Lib.hid (And.intro hlx hly)
  have HRX := Lib.hid hr1
  have HRY := Lib.hid hr2
  clear hlx hly hr1 hr2 hi hz0 hz1 hz2
  go_enter Try.func38, Try.ntmps38
  go_wp2_with fail
  go_loopg [5, 6, 7] (lx + ly + 2) (fun gk vv cc ii wr => ∃ (k c : Nat) (os : List Nat), k ≤ lx + ly + 1 ∧ (0 < c → k ≤ lx + ly) ∧ lx + ly + 2 ≤ gk + k ∧ ii = .int .i64 (k : Int) ∧ cc = .int .u64 (c : Int) ∧ c ≤ 1 ∧ wr.ownsRow w.heap.size 60 1 vv k (os.map (fun (x : Nat) => Value.int .u32 (x : Int))) ∧ Hid (Su os k c x y) ∧ Below w.heap.size w wr)
  case atStart => exact ⟨0, 0, [], by omega, by omega, by omega, rfl, rfl, by omega, World.ownsRow_nil _ _ _ _, ⟨rfl, Dig.nil, by simp [valL], .inl rfl⟩, Below.refl _ _⟩
  case round =>
    obtain ⟨k, c, os, hk, hkc, hgk, rfl, rfl, hc, hown, HI, hbel⟩ := hrel
    obtain ⟨A', c0, hvv, hrd, hle⟩ := own_shape hown
    subst hvv
    have hsz := hbel.size
    by_cases hend : k < lx ∨ k < ly ∨ 0 < c
    · obtain ⟨u, hu⟩ : ∃ u, u = (limbs x).getD k 0 := ⟨_, rfl⟩
      obtain ⟨v, hv⟩ : ∃ v, v = (limbs y).getD k 0 := ⟨_, rfl⟩
      have hul : u < 4294967296 := by rw [hu]; exact (limbs_dig x).getD k
      have hvl : v < 4294967296 := by rw [hv]; exact (limbs_dig y).getD k
      have HU0 : Hid (¬ k < lx → u = 0) := fun h => by rw [hu, List.getD_eq_getElem?_getD, List.getElem?_eq_none (by rw [← HLL.out.1]; omega)]; rfl
      have HV0 : Hid (¬ k < ly → v = 0) := fun h => by rw [hv, List.getD_eq_getElem?_getD, List.getElem?_eq_none (by rw [← HLL.out.2]; omega)]; rfl
      obtain ⟨t, ht⟩ : ∃ t, t = c + u + v := ⟨_, rfl⟩
      obtain ⟨d, hd⟩ : ∃ d, d = t % 4294967296 := ⟨_, rfl⟩
      obtain ⟨c', hc'⟩ : ∃ c', c' = t / 4294967296 := ⟨_, rfl⟩
      have hc'l : c' ≤ 1 := by omega
      have hdl : d < 4294967296 := by omega
      have hc'0 : 0 < c' → k + 1 ≤ lx + ly := by
        intro h
        by_cases hA : k < lx
        · omega
        · by_cases hB : k < ly
          · omega
          · have := HU0.out hA; have := HV0.out hB; omega
      have HI2 : Hid (Su (os ++ [d]) (k + 1) c' x y) :=
        ⟨by simp [HI.out.len], HI.out.dig.append (Dig.one hdl), add_step HI.out.len HI.out.val (by rw [← hu, ← hv]; omega), .inr (su_top HI.out (by rw [← HLL.out.1, ← HLL.out.2]; exact hend))⟩
      have u2 : (t : Int) % 4294967296 = (d : Int) := by omega
      have u3 : (t : Int) / 4294967296 = (c' : Int) := by omega
      have HU := Lib.hid hu
      have HV := Lib.hid hv
      have HT := Lib.hid ht
      have hkk : k ≤ lx + ly := by omega
      clear hu hv ht hd hc' HI hrd
      by_cases hA : k < lx
      · by_cases hB : k < ly
        · clear hend
          obtain ⟨bx, offx, hXe, hbx, hcx⟩ := (HRX.out.below hbel).at_ (getElem?_getD (show k < (limbs x).length by rw [← HLL.out.1]; exact hA))
          subst hXe
          rw [← HU.out] at hcx
          obtain ⟨by_, offy, hYe, hby, hcy⟩ := (HRY.out.below hbel).at_ (getElem?_getD (show k < (limbs y).length by rw [← HLL.out.2]; exact hB))
          subst hYe
          rw [← HV.out] at hcy
          have u1 : (c : Int) + (u : Int) + (v : Int) = (t : Int) := by have := HT.out; omega
          go_wp2_with (at_builtin; refine wpList_append_own _ rfl (.tmp 46) (.tmp 49) 48 rfl w.heap.size 60 i0 (.int .u32 0) 1 4 Try.underlying48 HI0.out.1 HI0.out.2.1 HI0.out.2.2.1 HI0.out.2.2.2 rfl (by decide) _ _ _ rfl (by exact hown.alloc _) _ 1 1 _ rfl rfl (rd_new_cells _ _ _ _ (by simp)) (by simp [Value.oneCell']) (by simp only [maxLen]; omega) (by omega) (by simp <;> omega) ?_)
          intro v' w2 hown' hg _
          have hb1 : Below w.heap.size w w2 := Below.grown (hbel.alloc hsz _) hg (by simp <;> omega) (fun q hq => (hown.lt q hq).1)
          have h2 : w2.ownsRow w.heap.size 60 1 v' (k + 1) ((os ++ [d]).map (fun (x : Nat) => Value.int .u32 (x : Int))) := by
            simpa using hown'
          have H2 := Lib.hid h2
          clear hown' hg hown h2 hbel
          go_wp2_with fail
          go_roundg (gk - 1)
          case measure => omega
          case rel => exact ⟨k + 1, c', os ++ [d], by omega, by omega, by omega, by go_num, rfl, hc'l, H2.out, HI2, hb1⟩
        · clear hend
          obtain ⟨bx, offx, hXe, hbx, hcx⟩ := (HRX.out.below hbel).at_ (getElem?_getD (show k < (limbs x).length by rw [← HLL.out.1]; exact hA))
          subst hXe
          rw [← HU.out] at hcx
          have u1 : (c : Int) + (u : Int) = (t : Int) := by have := HT.out; have := HV0.out hB; omega
          have hB' : decide ((k : Int) < (ly : Int)) = false := by simp; omega
          go_wp2_with (at_builtin; refine wpList_append_own _ rfl (.tmp 46) (.tmp 49) 48 rfl w.heap.size 60 i0 (.int .u32 0) 1 4 Try.underlying48 HI0.out.1 HI0.out.2.1 HI0.out.2.2.1 HI0.out.2.2.2 rfl (by decide) _ _ _ rfl (by exact hown.alloc _) _ 1 1 _ rfl rfl (rd_new_cells _ _ _ _ (by simp)) (by simp [Value.oneCell']) (by simp only [maxLen]; omega) (by omega) (by simp <;> omega) ?_)
          intro v' w2 hown' hg _
          have hb1 : Below w.heap.size w w2 := Below.grown (hbel.alloc hsz _) hg (by simp <;> omega) (fun q hq => (hown.lt q hq).1)
          have h2 : w2.ownsRow w.heap.size 60 1 v' (k + 1) ((os ++ [d]).map (fun (x : Nat) => Value.int .u32 (x : Int))) := by
            simpa using hown'
          have H2 := Lib.hid h2
          clear hown' hg hown h2 hbel
          go_wp2_with fail
          go_roundg (gk - 1)
          case measure => omega
          case rel => exact ⟨k + 1, c', os ++ [d], by omega, by omega, by omega, by go_num, rfl, hc'l, H2.out, HI2, hb1⟩
      · by_cases hB : k < ly
        · clear hend
          obtain ⟨by_, offy, hYe, hby, hcy⟩ := (HRY.out.below hbel).at_ (getElem?_getD (show k < (limbs y).length by rw [← HLL.out.2]; exact hB))
          subst hYe
          rw [← HV.out] at hcy
          have u1 : (c : Int) + (v : Int) = (t : Int) := by have := HT.out; have := HU0.out hA; omega
          have hA' : decide ((k : Int) < (lx : Int)) = false := by simp; omega
          go_wp2_with (at_builtin; refine wpList_append_own _ rfl (.tmp 46) (.tmp 49) 48 rfl w.heap.size 60 i0 (.int .u32 0) 1 4 Try.underlying48 HI0.out.1 HI0.out.2.1 HI0.out.2.2.1 HI0.out.2.2.2 rfl (by decide) _ _ _ rfl (by exact hown.alloc _) _ 1 1 _ rfl rfl (rd_new_cells _ _ _ _ (by simp)) (by simp [Value.oneCell']) (by simp only [maxLen]; omega) (by omega) (by simp <;> omega) ?_)
          intro v' w2 hown' hg _
          have hb1 : Below w.heap.size w w2 := Below.grown (hbel.alloc hsz _) hg (by simp <;> omega) (fun q hq => (hown.lt q hq).1)
          have h2 : w2.ownsRow w.heap.size 60 1 v' (k + 1) ((os ++ [d]).map (fun (x : Nat) => Value.int .u32 (x : Int))) := by
            simpa using hown'
          have H2 := Lib.hid h2
          clear hown' hg hown h2 hbel
          go_wp2_with fail
          go_roundg (gk - 1)
          case measure => omega
          case rel => exact ⟨k + 1, c', os ++ [d], by omega, by omega, by omega, by go_num, rfl, hc'l, H2.out, HI2, hb1⟩
        · have hc1 : (0 : Int) < (c : Int) := by omega
          clear hend
          have u1 : (c : Int) = (t : Int) := by have := HT.out; have := HU0.out hA; have := HV0.out hB; omega
          have u0 : c = t := by omega
          subst u0
          clear u1
          have ud : d = c := by omega
          subst ud
          clear u2
          have hA' : decide ((k : Int) < (lx : Int)) = false := by simp; omega
          have hB' : decide ((k : Int) < (ly : Int)) = false := by simp; omega
          go_wp2_with (at_builtin; refine wpList_append_own _ rfl (.tmp 46) (.tmp 49) 48 rfl w.heap.size 60 i0 (.int .u32 0) 1 4 Try.underlying48 HI0.out.1 HI0.out.2.1 HI0.out.2.2.1 HI0.out.2.2.2 rfl (by decide) _ _ _ rfl (by exact hown.alloc _) _ 1 1 _ rfl rfl (rd_new_cells _ _ _ _ (by simp)) (by simp [Value.oneCell']) (by simp only [maxLen]; omega) (by omega) (by simp <;> omega) ?_)
          intro v' w2 hown' hg _
          have hb1 : Below w.heap.size w w2 := Below.grown (hbel.alloc hsz _) hg (by simp <;> omega) (fun q hq => (hown.lt q hq).1)
          have h2 : w2.ownsRow w.heap.size 60 1 v' (k + 1) ((os ++ [d]).map (fun (x : Nat) => Value.int .u32 (x : Int))) := by
            simpa using hown'
          have H2 := Lib.hid h2
          clear hown' hg hown h2 hbel
          go_wp2_with fail
          go_roundg (gk - 1)
          case measure => omega
          case rel => exact ⟨k + 1, c', os ++ [d], by omega, by omega, by omega, by go_num, rfl, hc'l, H2.out, HI2, hb1⟩
    · have hA : ¬ k < lx := by omega
      have hB : ¬ k < ly := by omega
      have hC : c = 0 := by omega
      subst hC
      have HE : Hid (Dig os ∧ valL os = x + y ∧ os.length = k ∧ os = limbs (x + y)) := by
        have h := HI.out.val
        rw [List.take_of_length_le (by rw [← HLL.out.1]; omega), List.take_of_length_le (by rw [← HLL.out.2]; omega), valL_limbs, valL_limbs] at h
        have hv : valL os = x + y := by simpa using h
        exact ⟨HI.out.dig, hv, HI.out.len, su_limbs HI.out.dig hv HI.out.len HI.out.top⟩
      have HOWN := Lib.hid (KRd.of_own hown)
      have hA' : decide ((k : Int) < (lx : Int)) = false := by simp; omega
      have hB' : decide ((k : Int) < (ly : Int)) = false := by simp; omega
      clear hown hend hrd HI
      go_wp2_with fail
      go_ret
      exact ⟨A', c0, os, by rw [HE.out.2.2.1]; rfl, by rw [HE.out.2.2.1]; exact hle, by rw [HE.out.2.2.1]; omega, HE.out.1, HE.out.2.1, HE.out.2.2.2, HOWN.out, hbel⟩

theorem plus_calls (X Y : Option Addr) (cx cy x y : Nat) (w : World) (hr1 : KRd .u32 w w.heap.size X (limbs x)) (hr2 : KRd .u32 w w.heap.size Y (limbs y)) (hla : (limbs x).length ≤ 100000000) (hlb : (limbs y).length ≤ 100000000) :
    Calls Try.prog 38 #[.slice X (limbs x).length cx, .slice Y (limbs y).length cy] w fun e w' => ∃ A' c' os, e = .returned (.slice A' os.length c') ∧ os.length ≤ c' ∧ os.length ≤ 200000001 ∧ Dig os ∧ valL os = x + y ∧ KRd .u32 w' w'.heap.size A' os ∧ Below w.heap.size w w' :=
  (plus_core X Y cx cy x y w hr1 hr2 hla hlb).mono fun e w' ⟨A', c', os, h1, h2, h3, h4, h5, _, h7, h8⟩ => ⟨A', c', os, h1, h2, h3, h4, h5, h7, h8⟩

theorem plus_limbs (X Y : Option Addr) (cx cy x y : Nat) (w : World) (hr1 : KRd .u32 w w.heap.size X (limbs x)) (hr2 : KRd .u32 w w.heap.size Y (limbs y)) (hla : (limbs x).length ≤ 100000000) (hlb : (limbs y).length ≤ 100000000) :
    Calls Try.prog 38 #[.slice X (limbs x).length cx, .slice Y (limbs y).length cy] w fun e w' => ∃ A' c', e = .returned (.slice A' (limbs (x + y)).length c') ∧ (limbs (x + y)).length ≤ c' ∧ KRd .u32 w' w'.heap.size A' (limbs (x + y)) ∧ Below w.heap.size w w' :=
  (plus_core X Y cx cy x y w hr1 hr2 hla hlb).mono fun e w' ⟨A', c', os, h1, h2, h3, h4, h5, h6, h7, h8⟩ => by
    rw [← h6]; exact ⟨A', c', h1, h2, h7, h8⟩

end Go.Proofs.Ytlljmiddgadcpaa

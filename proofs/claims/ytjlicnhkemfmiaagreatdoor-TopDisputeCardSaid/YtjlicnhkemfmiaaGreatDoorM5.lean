/- Merged of Shift Shifted Len. -/
import Derived.Test.YtjlicnhkemfmiaaGreatDoorM4
import Derived.Test.YtjlicnhkemfmiaaGreatDoorM1
import Derived.Test.YtjlicnhkemfmiaaGreatDoorM2
import Derived.Lib.BitFns
/- natural.shift, unshift. -/
set_option linter.unusedVariables false
set_option linter.unusedSimpArgs false
set_option maxHeartbeats 8000000
set_option maxRecDepth 100000
namespace Go.Proofs.YtjlicnhkemfmiaaGreatDoor
open Go.RowKit

/-- the row while it is shifted: the digits that stand, the carry, noughts -/
def shRow (n : Nat) (o : List Nat) (hi : Nat) : List Nat := (o ++ hi :: List.replicate n 0).take n
theorem shRow_len (n : Nat) (o : List Nat) (hi : Nat) : (shRow n o hi).length = n := by simp [shRow]; omega
theorem shRow_zero (n : Nat) : shRow n [] 0 = List.replicate n 0 := by
  unfold shRow
  rw [List.nil_append, ← List.replicate_succ, List.take_replicate]
  congr 1; omega
theorem shRow_getD {n : Nat} {o : List Nat} {hi : Nat} (h : o.length < n) : (shRow n o hi).getD o.length 0 = hi := by
  unfold shRow
  rw [List.getD_eq_getElem?_getD, List.getElem?_take, if_pos h, List.getElem?_append_right (Nat.le_refl _)]
  simp
theorem shRow_getD2 {n : Nat} {o : List Nat} {hi : Nat} (h : o.length + 1 < n) : (shRow n o hi).getD (o.length + 1) 0 = 0 := by
  unfold shRow
  rw [List.getD_eq_getElem?_getD, List.getElem?_take, if_pos h, List.getElem?_append_right (by omega)]
  simp [show o.length + 1 - o.length = 1 by omega]
  rcases n with _ | n
  · omega
  · rw [List.replicate_succ]; rfl
theorem shRow_set {n : Nat} {o : List Nat} {hi lo : Nat} (h : o.length < n) : (shRow n o hi).set o.length lo = shRow n (o ++ [lo]) 0 := by
  unfold shRow
  rw [← List.take_set, List.set_append_right _ _ (Nat.le_refl _)]
  rw [Nat.sub_self, List.set_cons_zero]
  have e : o ++ [lo] ++ 0 :: List.replicate n 0 = (o ++ lo :: List.replicate n 0) ++ [0] := by
    rw [← List.replicate_succ, List.replicate_succ']; simp
  have hle : n ≤ (o ++ lo :: List.replicate n 0).length := by simp; omega
  rw [e, List.take_append_of_le_length hle]
theorem shRow_set2 {n : Nat} {o : List Nat} {hi : Nat} (h : o.length < n) : (shRow n o 0).set o.length hi = shRow n o hi := by
  unfold shRow
  rw [← List.take_set, List.set_append_right _ _ (Nat.le_refl _), Nat.sub_self, List.set_cons_zero]
theorem shRow_full {n : Nat} {o : List Nat} {hi : Nat} (h : o.length = n) : shRow n o hi = o := by
  unfold shRow
  rw [List.take_append_of_le_length (by omega), List.take_of_length_le (by omega)]
theorem shRow_val (n : Nat) (o : List Nat) (hi : Nat) (h : o.length < n) : valL (shRow n o hi) = valL o + 4294967296 ^ o.length * hi := by
  have e : shRow n o hi = o ++ hi :: List.replicate (n - o.length - 1) 0 := by
    unfold shRow
    rw [List.take_append, List.take_of_length_le (by omega)]
    congr 1
    obtain ⟨m, hm⟩ : ∃ m, n - o.length = m + 1 := ⟨n - o.length - 1, by omega⟩
    rw [hm, List.take_succ_cons, List.take_replicate]
    congr 2; omega
  rw [e, valL_append, valL, valL_zeros]
  simp
theorem shRow_dig {n : Nat} {o : List Nat} {hi : Nat} (ho : Dig o) (h : hi < 4294967296) : Dig (shRow n o hi) := (ho.append (Dig.cons h (Dig.zeros n))).take n

theorem shRow_end {n hi P x m : Nat} {o : List Nat} (hm : (limbs x).length = m) (hol : o.length = m) (hod : Dig o) (hmn : m ≤ n) (hhi : hi < 4294967296) (hv : valL o + 4294967296 ^ m * hi = valL ((limbs x).take m) * P) (hb : x * P < 4294967296 ^ n) :
    (shRow n o hi).length = n ∧ Dig (shRow n o hi) ∧ valL (shRow n o hi) = x * P := by
  rw [List.take_of_length_le (by omega), valL_limbs] at hv
  refine ⟨shRow_len _ _ _, shRow_dig hod hhi, ?_⟩
  rcases Nat.lt_or_ge m n with h | h
  · rw [shRow_val _ _ _ (by omega), hol, hv]
  · obtain rfl : m = n := by omega
    rw [shRow_full hol]
    rcases Nat.eq_zero_or_pos hi with h0 | h0
    · subst h0; simpa using hv
    · exfalso
      have := Nat.mul_le_mul_left (4294967296 ^ m) h0
      omega

theorem shl_lo {u P M : Nat} (hM : P * M = 4294967296) : u * P % 4294967296 = P * (u % M) ∧ u * P / 4294967296 = u / M := by
  have hP : 0 < P := by rcases Nat.eq_zero_or_pos P with h | h; (· rw [h] at hM; simp at hM); exact h
  rw [← hM, Nat.mul_comm u P, Nat.mul_mod_mul_left, Nat.mul_div_mul_left _ _ hP]
  exact ⟨rfl, rfl⟩

theorem pow_split {s : Nat} (h : s < 32) : 2 ^ s * 2 ^ (32 - s) = 4294967296 ∧ 0 < 2 ^ s ∧ 2 ^ s ≤ 2147483648 ∧ 0 < 2 ^ (32 - s) := by
  refine ⟨by rw [← Nat.pow_add]; have : s + (32 - s) = 32 := by omega
             rw [this], Nat.pow_pos (by omega), ?_, Nat.pow_pos (by omega)⟩
  calc 2 ^ s ≤ 2 ^ 31 := Nat.pow_le_pow_right (by omega) (by omega)
    _ = 2147483648 := by decide

theorem shift_calls (X : Option Addr) (cx x s n : Nat) (w : World) (hrx : KRd .u32 w w.heap.size X (limbs x)) (hs : s < 32) (hn : n ≤ 1000000000) (hxl : (limbs x).length ≤ n) (hbd : x * 2 ^ s < 4294967296 ^ n) :
    Calls Tryz.prog 137 #[.slice X (limbs x).length cx, .int .u64 s, .int .i64 n] w fun e w' => ∃ g o, e = .returned (.slice (some ⟨g, 0, none⟩) n n) ∧ w.heap.size ≤ g ∧ o.length = n ∧ Dig o ∧ valL o = x * 2 ^ s ∧ KRow .u32 152 w' g o ∧ Below w.heap.size w w' := by
  obtain ⟨m, hm⟩ : ∃ m, m = (limbs x).length := ⟨_, rfl⟩
  rw [← hm] at hxl ⊢
  have hmk := run_make_row' (P := Tryz.prog) 150 152 (.int .u32 0) 4 Tryz.underlying150 Tryz.info_u32 rfl .i64 .i64 n (by omega) (by omega)
  have HM := Lib.hid hm
  have HRX := Lib.hid hrx
  have HBD := Lib.hid hbd
  obtain ⟨hPM, hP0, hPle, hM0⟩ := pow_split hs
  obtain ⟨P, hP⟩ : ∃ P, P = 2 ^ s := ⟨_, rfl⟩
  obtain ⟨M, hMM⟩ : ∃ M, M = 2 ^ (32 - s) := ⟨_, rfl⟩
  rw [← hP, ← hMM] at hPM
  rw [← hP] at hP0 hPle HBD ⊢
  rw [← hMM] at hM0
  have HPM := Lib.hid hPM
  have HPP := Lib.hid hP
  clear hm hrx hbd hPM hP hMM
  go_enter Tryz.func137, Tryz.ntmps137
  go_wp2_with fail
  go_loopw [15] (fun i wr => ∃ (k hi : Nat) (o : List Nat), k ≤ m ∧ i = .int .i64 (k : Int) ∧ hi < P ∧ KRow .u32 152 wr w.heap.size (shRow n o hi) ∧ Hid (o.length = k ∧ Dig o ∧ valL o + 4294967296 ^ k * hi = valL ((limbs x).take k) * P) ∧ Below w.heap.size w wr) (fun i _ => m - (intOf i).toNat)
  case atStart => exact ⟨0, 0, [], by omega, rfl, hP0, (KRow.made _ _ _ rfl).cast (shRow_zero n).symm, ⟨rfl, Dig.nil, by simp [valL]⟩, (Below.refl _ _).alloc (Nat.le_refl _) _⟩
  case round =>
    obtain ⟨k, hi, o, hk, rfl, hhi, hrow, HI, hbel⟩ := hrel
    have hsz := hrow.lt
    by_cases hlt : k < m
    · obtain ⟨hol, hod, hov⟩ := HI.out
      have hkx : k < (limbs x).length := by rw [← HM.out]; exact hlt
      obtain ⟨b, off, hXe, hb, hcx⟩ := (HRX.out.below hbel).at_ (getElem?_getD hkx)
      subst hXe
      obtain ⟨u, hu⟩ : ∃ u, u = (limbs x).getD k 0 := ⟨_, rfl⟩
      have hul : u < 4294967296 := by rw [hu]; exact (limbs_dig x).getD k
      rw [← hu] at hcx
      obtain ⟨t, ht⟩ : ∃ t, t = u * P := ⟨_, rfl⟩
      obtain ⟨lo, hlo⟩ : ∃ lo, lo = t % 4294967296 := ⟨_, rfl⟩
      obtain ⟨h2, hh2⟩ : ∃ h2, h2 = t / 4294967296 := ⟨_, rfl⟩
      have htb : t < 18446744073709551616 := by
        have : u * P ≤ 4294967295 * 2147483648 := Nat.mul_le_mul (by omega) hPle
        omega
      have h2l : h2 < P := by
        rw [hh2, ht]
        apply Nat.div_lt_of_lt_mul
        exact Nat.mul_lt_mul_of_pos_right hul hP0
      have hlo4 : lo < 4294967296 := by omega
      have hlm : lo = P * (u % M) := by rw [hlo, ht]; exact (shl_lo HPM.out).1
      have hor1 : bits .or .u32 (hi : Int) (lo : Int) = ((hi + lo : Nat) : Int) := by
        have hsum : hi + lo < 4294967296 := by
          have h3 : u % M < M := Nat.mod_lt _ hM0
          have h4 : P * (u % M + 1) ≤ P * M := Nat.mul_le_mul_left _ h3
          rw [HPM.out, Nat.mul_add, ← hlm] at h4
          omega
        exact or_u32 hi lo s (u % M) (by rw [← HPP.out]; exact hhi) (by rw [← HPP.out]; exact hlm) hsum
      have w1 : IntKind.u64.wrap ((u : Int) * 2 ^ s) = (t : Int) := by
        have e : ((u : Int) * 2 ^ s) = ((u * P : Nat) : Int) := by rw [HPP.out, Int.natCast_mul]; simp
        rw [e, ← ht]; exact IntWalk.u64_in _ (by omega)
      have w2 : (t : Int) % 4294967296 = (lo : Int) := by omega
      have w3 : (t : Int) / 4294967296 = (h2 : Int) := by omega
      have hkn : k < n := by omega
      have hho := hrow.getD (j := k) (by rw [shRow_len]; exact hkn)
      have e1 : (shRow n o hi).getD k 0 = hi := by
        conv => lhs; arg 2; rw [← hol]
        exact shRow_getD (by omega)
      rw [e1] at hho
      have hhf := hrow.frozen k
      have HS1 : Hid ((shRow n o hi).set k (hi + lo) = shRow n (o ++ [hi + lo]) 0) := by
        show _ = _
        conv => lhs; arg 2; rw [← hol]
        exact shRow_set (by omega)
      have hsum : hi + lo < 4294967296 := by
        have h3 : u % M < M := Nat.mod_lt _ hM0
        have h4 : P * (u % M + 1) ≤ P * M := Nat.mul_le_mul_left _ h3
        rw [HPM.out, Nat.mul_add, ← hlm] at h4
        omega
      have HI2 : Hid ((o ++ [hi + lo]).length = k + 1 ∧ Dig (o ++ [hi + lo]) ∧ valL (o ++ [hi + lo]) + 4294967296 ^ (k + 1) * h2 = valL ((limbs x).take (k + 1)) * P) := by
        refine ⟨by simp [hol], hod.append (Dig.one hsum), shl_step (x := 0) hol hov ?_⟩
        rw [← hu, ← ht, hlo, hh2]; omega
      have HROW := Lib.hid hrow
      have hor2 : bits .or .u32 (0 : Int) (h2 : Int) = (h2 : Int) := by
        have := or_u32 0 h2 0 h2 (by decide) (by simp) (by omega)
        simpa using this
      have HOL := Lib.hid hol
      clear hu ht hlo hh2 hlm hol hod hov e1 hrow hmk HI
      by_cases hk1 : k + 1 < n
      · have hho2 := HROW.out.getD (j := k + 1) (by rw [shRow_len]; exact hk1)
        have e2 : (shRow n o hi).getD (k + 1) 0 = 0 := by
          conv => lhs; arg 2; rw [← HOL.out]
          exact shRow_getD2 (by rw [HOL.out]; exact hk1)
        rw [e2] at hho2
        have hhf2 := HROW.out.frozen (k + 1)
        have HS2 : Hid ((shRow n (o ++ [hi + lo]) 0).set (k + 1) h2 = shRow n (o ++ [hi + lo]) h2) := by
          show _ = _
          have e3 : (o ++ [hi + lo]).length = k + 1 := HI2.out.1
          conv => lhs; arg 2; rw [← e3]
          exact shRow_set2 (by rw [e3]; exact hk1)
        clear e2
        go_wp2_with fail
        go_roundw
        case measure => simp [intOf] <;> omega
        case rel => exact ⟨k + 1, h2, o ++ [hi + lo], by omega, by go_num, h2l, (HROW.out.setI k (hi + lo) (by simp) HS1.out).setI (k + 1) h2 rfl HS2.out, HI2, (hbel.setCell (p := ⟨w.heap.size, k, none⟩) (by simp) _).setCell (p := ⟨w.heap.size, k + 1, none⟩) (by simp) _⟩
      · have hkn1 : k + 1 = n := by omega
        have hz : h2 = 0 := by
          have hmn : m = n := by omega
          obtain ⟨r1, r2, r3⟩ := HI2.out
          rw [List.take_of_length_le (by rw [← HM.out]; omega), valL_limbs, hkn1] at r3
          rcases Nat.eq_zero_or_pos h2 with h0 | h0
          · exact h0
          · exfalso
            have h5 := Nat.mul_le_mul_left (4294967296 ^ n) h0
            have h6 := HBD.out
            omega
        have HZ := Lib.hid hz
        have hk1' : ¬ (k : Int) + 1 < (n : Int) := by omega
        clear hz hkn1
        go_wp2_with fail
        go_roundw
        case measure => simp [intOf] <;> omega
        case rel => exact ⟨k + 1, h2, o ++ [hi + lo], by omega, by go_num, h2l, by rw [HZ.out]; exact HROW.out.setI k (hi + lo) (by simp) HS1.out, HI2, hbel.setCell (p := ⟨w.heap.size, k, none⟩) (by simp) _⟩
    · obtain rfl : k = m := by omega
      obtain ⟨hol, hod, hov⟩ := HI.out
      have HE := Lib.hid (shRow_end HM.out.symm hol hod hxl (by omega) hov HBD.out)
      have HROW := Lib.hid hrow
      clear hol hod hov hrow hmk HI
      go_wp2_with fail
      go_ret
      exact ⟨w.heap.size, shRow n o hi, rfl, Nat.le_refl _, HE.out.1, HE.out.2.1, HE.out.2.2, HROW.out, hbel⟩

theorem unshift_calls (X : Option Addr) (cx s : Nat) (l : List Nat) (w : World) (hrx : KRd .u32 w w.heap.size X l) (hd : Dig l) (hs : s < 32) (hn : l.length ≤ 1000000000) :
    Calls Tryz.prog 139 #[.slice X l.length cx, .int .u64 s] w fun e w' => ∃ A' c', e = .returned (.slice A' (limbs (valL l / 2 ^ s)).length c') ∧ (limbs (valL l / 2 ^ s)).length ≤ c' ∧ KRd .u32 w' w'.heap.size A' (limbs (valL l / 2 ^ s)) ∧ Below w.heap.size w w' := by
  obtain ⟨n, hnn⟩ : ∃ n, n = l.length := ⟨_, rfl⟩
  rw [← hnn] at hn ⊢
  have hmk := run_make_row' (P := Tryz.prog) 150 152 (.int .u32 0) 4 Tryz.underlying150 Tryz.info_u32 rfl .i64 .i64 n (by omega) (by omega)
  have HN := Lib.hid hnn
  have HRX := Lib.hid hrx
  have HD := Lib.hid hd
  obtain ⟨hPM, hP0, hPle, hM0⟩ := pow_split hs
  obtain ⟨P, hP⟩ : ∃ P, P = 2 ^ s := ⟨_, rfl⟩
  rw [← hP] at hPM hP0 hPle ⊢
  have HPM := Lib.hid hPM
  have HPP := Lib.hid hP
  clear hnn hrx hd hPM hP hM0
  go_enter Tryz.func139, Tryz.ntmps139
  go_wp2_with fail
  go_loopw [13] (fun i wr => ∃ (k : Nat), k ≤ n ∧ i = .int .i64 (k : Int) ∧ KRow .u32 152 wr w.heap.size ((shrL P l).take k ++ List.replicate (n - k) 0) ∧ Below w.heap.size w wr) (fun i _ => n - (intOf i).toNat)
  case atStart => exact ⟨0, by omega, rfl, (KRow.made _ _ _ rfl).cast (by simp), (Below.refl _ _).alloc (Nat.le_refl _) _⟩
  case round =>
    obtain ⟨k, hk, rfl, hrow, hbel⟩ := hrel
    have hsz := hrow.lt
    by_cases hlt : k < n
    · have hkx : k < l.length := by rw [← HN.out]; exact hlt
      obtain ⟨b, off, hXe, hb, hcs⟩ := (HRX.out.below hbel).open_ (by omega)
      subst hXe
      have hcx := hcs k _ (getElem?_getD hkx)
      obtain ⟨u, hu⟩ : ∃ u, u = l.getD k 0 := ⟨_, rfl⟩
      have hul : u < 4294967296 := by rw [hu]; exact HD.out.getD k
      rw [← hu] at hcx
      obtain ⟨v, hv⟩ : ∃ v, v = l.getD (k + 1) 0 := ⟨_, rfl⟩
      have hvl : v < 4294967296 := by rw [hv]; exact HD.out.getD (k + 1)
      obtain ⟨t, ht⟩ : ∃ t, t = u + v * 4294967296 := ⟨_, rfl⟩
      obtain ⟨z, hz⟩ : ∃ z, z = t / P % 4294967296 := ⟨_, rfl⟩
      have hzs : z = (shrL P l).getD k 0 := by rw [hz, ht, hu, hv, shrL_getD P l k hkx, Nat.mul_comm]
      have w1 : bits .or .u64 (u : Int) ((v : Int) * 4294967296) = (t : Int) := by
        have := or_u64 u (v * 4294967296) 32 v hul (by omega) (by omega)
        rw [ht, ← this]; simp
      have w2 : (t : Int) / 2 ^ s % 4294967296 = (z : Int) := by
        have e : ((2 : Int) ^ s) = (P : Int) := by rw [HPP.out]; simp
        rw [e, hz]; simp
      have htb : t < 18446744073709551616 := by omega
      have hlk : ((shrL P l).take k).length = k := List.length_take_of_le (by rw [shrL_len]; omega)
      have hho := hrow.getD (j := k) (by rw [List.length_append, List.length_replicate, hlk]; omega)
      obtain ⟨old, hold⟩ : ∃ old, old = ((shrL P l).take k ++ List.replicate (n - k) 0).getD k 0 := ⟨_, rfl⟩
      rw [← hold] at hho
      have hhf := hrow.frozen k
      have HSET : Hid (((shrL P l).take k ++ List.replicate (n - k) 0).set k z = (shrL P l).take (k + 1) ++ List.replicate (n - (k + 1)) 0) := by
        show _ = _
        have e1 : n - k = (n - (k + 1)) + 1 := by omega
        rw [e1, take_snoc_getD _ _ (by rw [shrL_len]; omega), ← hzs]
        conv => lhs; arg 2; rw [← hlk]
        exact hi_set _ _ _
      have HROW := Lib.hid hrow
      have HV := Lib.hid hv
      have HT := Lib.hid ht
      clear hu hv ht hz hzs hlk hold hrow hmk
      by_cases hk1 : k + 1 < n
      · have hcy := hcs (k + 1) _ (getElem?_getD (show k + 1 < l.length by rw [← HN.out]; exact hk1))
        rw [← HV.out] at hcy
        clear hcs
        go_wp2_with fail
        go_roundw
        case measure => simp [intOf] <;> omega
        case rel => exact ⟨k + 1, by omega, by go_num, HROW.out.setI k z rfl HSET.out, hbel.setCell (by simp) _⟩
      · have hv0 : v = 0 := by
          rw [HV.out, List.getD_eq_getElem?_getD, List.getElem?_eq_none (by rw [← HN.out]; omega)]; rfl
        have htu : t = u := by rw [HT.out, hv0]; omega
        have hk1' : ¬ (k : Int) + 1 < (n : Int) := by omega
        subst hv0 htu
        clear hcs w1
        go_wp2_with fail
        go_roundw
        case measure => simp [intOf] <;> omega
        case rel => exact ⟨k + 1, by omega, by go_num, HROW.out.setI k z rfl HSET.out, hbel.setCell (by simp) _⟩
    · obtain rfl : k = n := by omega
      have hval : valL (shrL P l) = valL l / P := valL_shrL hP0 HPM.out l HD.out
      have hln : (shrL P l).length = k := by rw [shrL_len, ← HN.out]
      have hrow' : KRow .u32 152 wr w.heap.size (shrL P l) := hrow.cast (by rw [Nat.sub_self, List.take_of_length_le (by omega)]; simp)
      have hod := shrL_dig P l
      have HT := trim_calls (some ⟨w.heap.size, 0, none⟩) k (shrL P l) wr hrow'.rd hod (Nat.le_of_eq hln) (by rw [hln]; omega)
      rw [hval, hln] at HT
      have HRD : Hid (KRd .u32 wr wr.heap.size (some ⟨w.heap.size, 0, none⟩) (limbs (valL l / P))) := hrow'.rd.limbs hod hval
      have HLE : Hid ((limbs (valL l / P)).length ≤ k) := by
        have := (take_limbs hod).2
        show _ ≤ _
        rw [← hval]; omega
      have HTT := Lib.hid HT
      clear hod HT hrow hrow' hval hmk hln
      go_wp2_with fail
      refine HTT.out.mono ?_
      rintro e w1 ⟨rfl, rfl⟩
      go_wp2_with fail
      go_ret
      exact ⟨_, k, rfl, HLE.out, HRD.out, hbel⟩

end Go.Proofs.YtjlicnhkemfmiaaGreatDoor

/- insolvencyref1.shifted. -/
namespace Go.Proofs.YtjlicnhkemfmiaaGreatDoor
open Go.RowKit

theorem shifted_calls (X : Option Addr) (cx x s : Nat) (w : World) (hrx : KRd .u32 w w.heap.size X (limbs x)) (hs : s < 32) (hn : (limbs x).length ≤ 1000000000) :
 Calls Tryz.prog 177 #[.slice X (limbs x).length cx, .int .u64 s] w fun e w' => ∃ g o, e = .returned (.slice (some ⟨g, 0, none⟩) ((limbs x).length + 1) ((limbs x).length + 1)) ∧ w.heap.size ≤ g ∧ o.length = (limbs x).length + 1 ∧ Dig o ∧ valL o = x * 2 ^ s ∧ KRow .u32 152 w' g o ∧ Below w.heap.size w w' := by
 have hbd := dividend_lt (a := x) (s := s) (la := (limbs x).length) rfl hs
 obtain ⟨m, hm⟩ : ∃ m, m = (limbs x).length := ⟨_, rfl⟩
 rw [← hm] at hn hbd ⊢
 obtain ⟨n, hnm⟩ : ∃ n, n = m + 1 := ⟨_, rfl⟩
 have hmI : (m : Int) + 1 = (n : Int) := by omega
 rw [← hnm] at hbd ⊢
 have hmk := run_make_row' (P := Tryz.prog) 149 152 (.int .u32 0) 4 Tryz.underlying149 Tryz.info_u32 rfl .i64 .i64 n (by omega) (by omega)
 have HM := Lib.hid hm
 have HRX := Lib.hid hrx
 have HBD := Lib.hid hbd
 obtain ⟨hPM, hP0, hPle, hM0⟩ := pow_split hs
 obtain ⟨P, hP⟩ : ∃ P, P = 2 ^ s := ⟨_, rfl⟩
 obtain ⟨M, hMM⟩ : ∃ M, M = 2 ^ (32 - s) := ⟨_, rfl⟩
 rw [← hP, ← hMM] at hPM
 rw [← hP] at hP0 hPle HBD ⊢
 rw [← hMM] at hM0
 have HPM := Lib.hid hPM
 have HPP := Lib.hid hP
 clear hm hrx hbd hPM hP hMM hnm
 go_enter Tryz.func177, Tryz.ntmps177
 go_wp2_with fail
 go_loopw [6] (fun i wr => ∃ (k hi : Nat) (o : List Nat), k ≤ m ∧ i = .int .i64 (k : Int) ∧ hi < P ∧ KRow .u32 152 wr w.heap.size (shRow n o hi) ∧ Hid (o.length = k ∧ Dig o ∧ valL o + 4294967296 ^ k * hi = valL ((limbs x).take k) * P) ∧ Below w.heap.size w wr) (fun i _ => m - (intOf i).toNat)
 case atStart => exact ⟨0, 0, [], by omega, rfl, hP0, (KRow.made _ _ _ rfl).cast (shRow_zero n).symm, ⟨rfl, Dig.nil, by simp [valL]⟩, (Below.refl _ _).alloc (Nat.le_refl _) _⟩
 case round =>
  obtain ⟨k, hi, o, hk, rfl, hhi, hrow, HI, hbel⟩ := hrel
  have hsz := hrow.lt
  by_cases hlt : k < m
  ·
   obtain ⟨hol, hod, hov⟩ := HI.out
   have hkx : k < (limbs x).length := by rw [← HM.out]; exact hlt
   obtain ⟨b, off, hXe, hb, hcx⟩ := (HRX.out.below hbel).at_ (getElem?_getD hkx)
   subst hXe
   obtain ⟨u, hu⟩ : ∃ u, u = (limbs x).getD k 0 := ⟨_, rfl⟩
   have hul : u < 4294967296 := by rw [hu]; exact (limbs_dig x).getD k
   rw [← hu] at hcx
   obtain ⟨t, ht⟩ : ∃ t, t = u * P := ⟨_, rfl⟩
   obtain ⟨lo, hlo⟩ : ∃ lo, lo = t % 4294967296 := ⟨_, rfl⟩
   obtain ⟨h2, hh2⟩ : ∃ h2, h2 = t / 4294967296 := ⟨_, rfl⟩
   have htb : t < 18446744073709551616 := by
    have : u * P ≤ 4294967295 * 2147483648 := Nat.mul_le_mul (by omega) hPle
    omega
   have h2l : h2 < P := by
    rw [hh2, ht]
    apply Nat.div_lt_of_lt_mul
    exact Nat.mul_lt_mul_of_pos_right hul hP0
   have hlo4 : lo < 4294967296 := by omega
   have hlm : lo = P * (u % M) := by rw [hlo, ht]; exact (shl_lo HPM.out).1
   have hsum : hi + lo < 4294967296 := by
    have h3 : u % M < M := Nat.mod_lt _ hM0
    have h4 : P * (u % M + 1) ≤ P * M := Nat.mul_le_mul_left _ h3
    rw [HPM.out, Nat.mul_add, ← hlm] at h4
    omega
   have hor1 : bits .or .u32 (hi : Int) (lo : Int) = ((hi + lo : Nat) : Int) :=
    or_u32 hi lo s (u % M) (by rw [← HPP.out]; exact hhi) (by rw [← HPP.out]; exact hlm) hsum
   have w1 : IntKind.u64.wrap ((u : Int) * 2 ^ s) = (t : Int) := by
    have e : ((u : Int) * 2 ^ s) = ((u * P : Nat) : Int) := by rw [HPP.out, Int.natCast_mul]; simp
    rw [e, ← ht]; exact IntWalk.u64_in _ (by omega)
   have w2 : (t : Int) % 4294967296 = (lo : Int) := by omega
   have w3 : (t : Int) / 4294967296 = (h2 : Int) := by omega
   have hkn : k < n := by omega
   have hho := hrow.getD (j := k) (by rw [shRow_len]; exact hkn)
   have e1 : (shRow n o hi).getD k 0 = hi := by
    conv => lhs; arg 2; rw [← hol]
    exact shRow_getD (by omega)
   rw [e1] at hho
   have hhf := hrow.frozen k
   have HS1 : Hid ((shRow n o hi).set k (hi + lo) = shRow n (o ++ [hi + lo]) 0) := by
    show _ = _
    conv => lhs; arg 2; rw [← hol]
    exact shRow_set (by omega)
   have HI2 : Hid ((o ++ [hi + lo]).length = k + 1 ∧ Dig (o ++ [hi + lo]) ∧ valL (o ++ [hi + lo]) + 4294967296 ^ (k + 1) * h2 = valL ((limbs x).take (k + 1)) * P) := by
    refine ⟨by simp [hol], hod.append (Dig.one hsum), shl_step (x := 0) hol hov ?_⟩
    rw [← hu, ← ht, hlo, hh2]; omega
   have HROW := Lib.hid hrow
   have HOL := Lib.hid hol
   have hk1 : k + 1 < n := by omega
   clear hu ht hlo hh2 hlm hol hod hov e1 hrow hmk HI
   have hho2 := HROW.out.getD (j := k + 1) (by rw [shRow_len]; exact hk1)
   have hhf2 := HROW.out.frozen (k + 1)
   have HS2 : Hid ((shRow n (o ++ [hi + lo]) 0).set (k + 1) h2 = shRow n (o ++ [hi + lo]) h2) := by
    show _ = _
    have e3 : (o ++ [hi + lo]).length = k + 1 := HI2.out.1
    conv => lhs; arg 2; rw [← e3]
    exact shRow_set2 (by rw [e3]; exact hk1)
   go_wp2_with fail
   go_roundw
   case measure => simp [intOf] <;> omega
   case rel => exact ⟨k + 1, h2, o ++ [hi + lo], by omega, by go_num, h2l, (HROW.out.setI k (hi + lo) (by simp) HS1.out).setI (k + 1) h2 rfl HS2.out, HI2, (hbel.setCell (p := ⟨w.heap.size, k, none⟩) (by simp) _).setCell (p := ⟨w.heap.size, k + 1, none⟩) (by simp) _⟩
  ·
   obtain rfl : k = m := by omega
   obtain ⟨hol, hod, hov⟩ := HI.out
   have HE := Lib.hid (shRow_end HM.out.symm hol hod (show k ≤ n by omega) (by omega) hov HBD.out)
   have HROW := Lib.hid hrow
   clear hol hod hov hrow hmk HI
   go_wp2_with fail
   go_ret
   exact ⟨w.heap.size, shRow n o hi, rfl, Nat.le_refl _, HE.out.1, HE.out.2.1, HE.out.2.2, HROW.out, hbel⟩

end Go.Proofs.YtjlicnhkemfmiaaGreatDoor

/- math/bits: Len32, LeadingZeros32. -/
namespace Go.Proofs.YtjlicnhkemfmiaaGreatDoor
open Go.RowKit

theorem bitLenAux_spec : ∀ (f x : Nat), x < 2 ^ f → x < 2 ^ Lib.bitLenAux f x ∧ (x ≠ 0 → 1 ≤ Lib.bitLenAux f x ∧ 2 ^ (Lib.bitLenAux f x - 1) ≤ x) ∧ Lib.bitLenAux f x ≤ f
  | 0, x, h => by
    simp at h; subst h; simp [Lib.bitLenAux]
  | f + 1, x, h => by
    by_cases h0 : x = 0
    · subst h0; simp [Lib.bitLenAux]
    · have e : Lib.bitLenAux (f + 1) x = 1 + Lib.bitLenAux f (x / 2) := by simp [Lib.bitLenAux, h0]
      obtain ⟨i1, i2, i3⟩ := bitLenAux_spec f (x / 2) (by rw [Nat.pow_succ] at h; omega)
      rw [e]
      have e1 : 2 ^ (1 + Lib.bitLenAux f (x / 2)) = 2 * 2 ^ Lib.bitLenAux f (x / 2) := by rw [Nat.pow_add]
      refine ⟨by rw [e1]; omega, fun _ => ⟨by omega, ?_⟩, by omega⟩
      rw [Nat.add_sub_cancel_left]
      by_cases h2 : x / 2 = 0
      · rw [h2]
        have : Lib.bitLenAux f 0 = 0 := by cases f <;> simp [Lib.bitLenAux]
        rw [this]; omega
      · obtain ⟨j1, j2⟩ := i2 h2
        obtain ⟨k, hk⟩ : ∃ k, Lib.bitLenAux f (x / 2) = k + 1 := ⟨_, (Nat.sub_add_cancel j1).symm⟩
        rw [hk] at j2 ⊢
        rw [Nat.pow_succ]
        simp at j2
        omega

theorem bitLen_shift {x : Nat} (h0 : 0 < x) (h : x < 4294967296) : Lib.bitLen x ≤ 32 ∧ 32 - Lib.bitLen x < 32 ∧ 2147483648 ≤ x * 2 ^ (32 - Lib.bitLen x) ∧ x * 2 ^ (32 - Lib.bitLen x) < 4294967296 := by
  obtain ⟨h1, h2, _⟩ := bitLenAux_spec 64 x (by omega)
  obtain ⟨h3, h4⟩ := h2 (by omega)
  change x < 2 ^ Lib.bitLen x at h1
  change 1 ≤ Lib.bitLen x at h3
  change 2 ^ (Lib.bitLen x - 1) ≤ x at h4
  have h5 : Lib.bitLen x ≤ 32 := by
    rcases Nat.lt_or_ge 32 (Lib.bitLen x) with hh | hh
    · exfalso
      have : 2 ^ 32 ≤ 2 ^ (Lib.bitLen x - 1) := Nat.pow_le_pow_right (by omega) (by omega)
      omega
    · exact hh
  generalize Lib.bitLen x = L at *
  have hp : 0 < 2 ^ (32 - L) := Nat.pow_pos (by omega)
  refine ⟨h5, by omega, ?_, ?_⟩
  · calc 2147483648 = 2 ^ (L - 1) * 2 ^ (32 - L) := by
          rw [← Nat.pow_add]
          have : L - 1 + (32 - L) = 31 := by omega
          rw [this]
      _ ≤ x * 2 ^ (32 - L) := Nat.mul_le_mul_right _ h4
  · calc x * 2 ^ (32 - L) < 2 ^ L * 2 ^ (32 - L) := Nat.mul_lt_mul_of_pos_right h1 hp
      _ = 4294967296 := by
          rw [← Nat.pow_add]
          have : L + (32 - L) = 32 := by omega
          rw [this]

theorem len8_size : Lib.len8tab.size = 256 := by decide +kernel
theorem len8_tab : ∀ n : Fin 256, ∀ h, (Lib.len8tab[n.val]'h).toNat = Lib.bitLen n.val := by decide +kernel

set_option maxRecDepth 1000000 in
theorem len32_calls (x : Nat) (w : World) (h1 : x < 4294967296) :
    Calls Tryz.prog 153 #[.int .u32 x] w fun e w' => e = .returned (.int .i64 (Lib.bitLen x : Nat)) ∧ w' = w := by
  obtain ⟨q, m, y, hq, hm, hy, hL, hyb, hc⟩ : ∃ q m y : Nat, q = (if 65536 ≤ x then x / 65536 else x) ∧ m = (if 65536 ≤ x then 16 else 0) ∧ y = (if 256 ≤ q then q / 256 else q) ∧ Lib.bitLen x = m + (if 256 ≤ q then 8 else 0) + Lib.bitLen y ∧ y < 256 ∧ q < 65536 := by
    refine ⟨_, _, _, rfl, rfl, rfl, ?_, ?_, ?_⟩
    · by_cases h2 : 65536 ≤ x
      · rw [if_pos h2, if_pos h2]
        by_cases h3 : 256 ≤ x / 65536
        · rw [if_pos h3, if_pos h3, Nat.div_div_eq_div_mul]
          have := Lib.bitLen_shift24 x (by omega) (by omega)
          simpa using this
        · rw [if_neg h3, if_neg h3]
          have := Lib.bitLen_shift16 x (by omega) (by omega)
          omega
      · rw [if_neg h2, if_neg h2]
        by_cases h3 : 256 ≤ x
        · rw [if_pos h3, if_pos h3]
          have := Lib.bitLen_shift8 x (by omega) (by omega)
          omega
        · rw [if_neg h3, if_neg h3]; omega
    · split <;> split <;> omega
    · split <;> omega
  have hsz : (y : Int) < (Lib.len8tab.size : Int) := by rw [len8_size]; omega
  have hsz2 : y < Lib.len8tab.size := by rw [len8_size]; omega
  obtain ⟨z, hz⟩ : ∃ z, z = Lib.bitLen y := ⟨_, rfl⟩
  have hzb : z ≤ 8 := by rw [hz]; exact Lib.bitLen_le8 ⟨y, hyb⟩
  have htab : ∀ h, ((Lib.len8tab[y]'h).toNat) = z := fun h => by rw [hz]; exact len8_tab ⟨y, hyb⟩ h
  rw [← hz] at hL
  have HLN := Lib.hid hL
  clear hz hL
  by_cases h2 : 65536 ≤ x
  · rw [if_pos h2] at hq hm
    have hq' : (x : Int) / 65536 = (q : Int) := by omega
    have t1 : decide ((65536 : Int) ≤ (x : Int)) = true := by simp; omega
    by_cases h3 : 256 ≤ q
    · rw [if_pos h3] at hy HLN
      have hy' : (q : Int) / 256 = (y : Int) := by omega
      have t2 : decide ((256 : Int) ≤ (q : Int)) = true := by simp; omega
      have HE : Hid (Lib.bitLen x = 24 + z) := by have := HLN.out; show _ = _; omega
      clear HLN hq hm hy h2 h3
      go_enter Tryz.func153, Tryz.ntmps153
      go_wp2_with fail
      go_ret
      exact ⟨ret_int (by rw [HE.out]; simp), rfl⟩
    · rw [if_neg h3] at hy HLN
      subst hy
      have t2 : decide ((256 : Int) ≤ (y : Int)) = false := by simp; omega
      have HE : Hid (Lib.bitLen x = 16 + z) := by have := HLN.out; show _ = _; omega
      clear HLN hq hm h2 h3
      go_enter Tryz.func153, Tryz.ntmps153
      go_wp2_with fail
      go_ret
      exact ⟨ret_int (by rw [HE.out]; simp), rfl⟩
  · rw [if_neg h2] at hq hm
    subst hq
    have t1 : decide ((65536 : Int) ≤ (q : Int)) = false := by simp; omega
    by_cases h3 : 256 ≤ q
    · rw [if_pos h3] at hy HLN
      have hy' : (q : Int) / 256 = (y : Int) := by omega
      have t2 : decide ((256 : Int) ≤ (q : Int)) = true := by simp; omega
      have HE : Hid (Lib.bitLen q = 8 + z) := by have := HLN.out; show _ = _; omega
      clear HLN hm hy h2 h3
      go_enter Tryz.func153, Tryz.ntmps153
      go_wp2_with fail
      go_ret
      exact ⟨ret_int (by rw [HE.out]; simp), rfl⟩
    · rw [if_neg h3] at hy HLN
      subst hy
      have t2 : decide ((256 : Int) ≤ (y : Int)) = false := by simp; omega
      have HE : Hid (Lib.bitLen y = z) := by have := HLN.out; show _ = _; omega
      clear HLN hm h2 h3
      go_enter Tryz.func153, Tryz.ntmps153
      go_wp2_with fail
      go_ret
      exact ⟨ret_int (by rw [HE.out]), rfl⟩

theorem lz32_calls (x : Nat) (w : World) (h0 : 0 < x) (h1 : x < 4294967296) :
    Calls Tryz.prog 136 #[.int .u32 x] w fun e w' => e = .returned (.int .i64 ((32 - Lib.bitLen x : Nat) : Int)) ∧ w' = w := by
  have hb := (bitLen_shift h0 h1).1
  have HE : Hid ((32 - (Lib.bitLen x : Int)) = ((32 - Lib.bitLen x : Nat) : Int)) := by show _ = _; omega
  have HL := len32_calls x w (by omega)
  have HLL := Lib.hid HL
  clear HL
  go_enter Tryz.func136, Tryz.ntmps136
  go_wp2_with fail
  refine HLL.out.mono ?_
  rintro e w' ⟨rfl, rfl⟩
  go_wp2_with fail
  go_ret
  exact ⟨ret_int HE.out, rfl⟩

end Go.Proofs.YtjlicnhkemfmiaaGreatDoor

/- insolvencyref1.shifted. -/
import Derived.Test.YtlljmiddgadcpaaShift
import Derived.Test.YtlljmiddgadcpaaDivPl
set_option linter.unusedVariables false
set_option linter.unusedSimpArgs false
namespace Go.Proofs.Ytlljmiddgadcpaa
open Go.RowKit

set_option maxHeartbeats 4000000 in
set_option maxRecDepth 100000 in
theorem shifted_calls (X : Option Addr) (cx x s : Nat) (w : World) (hrx : KRd .u32 w w.heap.size X (limbs x)) (hs : s < 32) (hn : (limbs x).length ≤ 1000000000) :
    Calls Try.prog 40 #[.slice X (limbs x).length cx, .int .u64 s] w fun e w' => ∃ g o, e = .returned (.slice (some ⟨g, 0, none⟩) ((limbs x).length + 1) ((limbs x).length + 1)) ∧ w.heap.size ≤ g ∧ o.length = (limbs x).length + 1 ∧ Dig o ∧ valL o = x * 2 ^ s ∧ KRow .u32 60 w' g o ∧ Below w.heap.size w w' := by
  have hbd := dividend_lt (a := x) (s := s) (la := (limbs x).length) rfl hs
  obtain ⟨m, hm⟩ : ∃ m, m = (limbs x).length := ⟨_, rfl⟩
  rw [← hm] at hn hbd ⊢
  obtain ⟨n, hnm⟩ : ∃ n, n = m + 1 := ⟨_, rfl⟩
  have hmI : (m : Int) + 1 = (n : Int) := by omega
  rw [← hnm] at hbd ⊢
  have hmk := run_make_row' (P := Try.prog) 48 60 (.int .u32 0) 4 Try.underlying48 Try.info_u32 rfl .i64 .i64 n (by omega) (by omega)
  have HM := Lib.hid hm
  have HRX := Lib.hid hrx
  have HBD := Lib.hid hbd
  obtain ⟨hPM, hP0, hPle, hM0⟩ := pow_split hs
  obtain ⟨P, hP⟩ : ∃ P, P = 2 ^ s := ⟨_, rfl⟩
  obtain ⟨M, hMM⟩ : ∃ M, M = 2 ^ (32 - s) := ⟨_, rfl⟩
  rw [← hP, ← hMM] at hPM
  rw [← hP] at hP0 hPle HBD ⊢
  rw [← hMM] at hM0
  have HPM := Lib.hid hPM
  have HPP := Lib.hid hP
  clear hm hrx hbd hPM hP hMM hnm
  go_enter Try.func40, Try.ntmps40
  go_wp2_with fail
  go_loopw [6] (fun i wr => ∃ (k hi : Nat) (o : List Nat), k ≤ m ∧ i = .int .i64 (k : Int) ∧ hi < P ∧ KRow .u32 60 wr w.heap.size (shRow n o hi) ∧ Hid (o.length = k ∧ Dig o ∧ valL o + 4294967296 ^ k * hi = valL ((limbs x).take k) * P) ∧ Below w.heap.size w wr) (fun i _ => m - (intOf i).toNat)
  case atStart => exact ⟨0, 0, [], by omega, rfl, hP0, (KRow.made _ _ _ rfl).cast (shRow_zero n).symm, ⟨rfl, Dig.nil, by simp [valL]⟩, (Below.refl _ _).alloc (Nat.le_refl _) _⟩
  case round =>
    obtain ⟨k, hi, o, hk, rfl, hhi, hrow, HI, hbel⟩ := hrel
    have hsz := hrow.lt
    by_cases hlt : k < m
    · obtain ⟨hol, hod, hov⟩ := HI.out
      have hkx : k < (limbs x).length := by rw [← HM.out]; exact hlt
      obtain ⟨b, off, hXe, hb, hcx⟩ := (HRX.out.below hbel).at_ (getElem?_getD hkx)
      subst hXe
      obtain ⟨u, hu⟩ : ∃ u, u = (limbs x).getD k 0 := ⟨_, rfl⟩
      have hul : u < 4294967296 := by rw [hu]; exact (limbs_dig x).getD k
      rw [← hu] at hcx
      obtain ⟨t, ht⟩ : ∃ t, t = u * P := ⟨_, rfl⟩
      obtain ⟨lo, hlo⟩ : ∃ lo, lo = t % 4294967296 := ⟨_, rfl⟩
      obtain ⟨h2, hh2⟩ : ∃ h2, h2 = t / 4294967296 := ⟨_, rfl⟩
      have htb : t < 18446744073709551616 := by
        have : u * P ≤ 4294967295 * 2147483648 := Nat.mul_le_mul (by omega) hPle
        omega
      have h2l : h2 < P := by
        rw [hh2, ht]
        apply Nat.div_lt_of_lt_mul
        exact Nat.mul_lt_mul_of_pos_right hul hP0
      have hlo4 : lo < 4294967296 := by omega
      have hlm : lo = P * (u % M) := by rw [hlo, ht]; exact (shl_lo HPM.out).1
      have hsum : hi + lo < 4294967296 := by
        have h3 : u % M < M := Nat.mod_lt _ hM0
        have h4 : P * (u % M + 1) ≤ P * M := Nat.mul_le_mul_left _ h3
        rw [HPM.out, Nat.mul_add, ← hlm] at h4
        omega
      have hor1 : bits .or .u32 (hi : Int) (lo : Int) = ((hi + lo : Nat) : Int) :=
        or_u32 hi lo s (u % M) (by rw [← HPP.out]; exact hhi) (by rw [← HPP.out]; exact hlm) hsum
      have w1 : IntKind.u64.wrap ((u : Int) * 2 ^ s) = (t : Int) := by
        have e : ((u : Int) * 2 ^ s) = ((u * P : Nat) : Int) := by rw [HPP.out, Int.natCast_mul]; simp
        rw [e, ← ht]; exact IntWalk.u64_in _ (by omega)
      have w2 : (t : Int) % 4294967296 = (lo : Int) := by omega
      have w3 : (t : Int) / 4294967296 = (h2 : Int) := by omega
      have hkn : k < n := by omega
      have hho := hrow.getD (j := k) (by rw [shRow_len]; exact hkn)
      have e1 : (shRow n o hi).getD k 0 = hi := by
        conv => lhs; arg 2; rw [← hol]
        exact shRow_getD (by omega)
      rw [e1] at hho
      have hhf := hrow.frozen k
      have HS1 : Hid ((shRow n o hi).set k (hi + lo) = shRow n (o ++ [hi + lo]) 0) := by
        show _ = _
        conv => lhs; arg 2; rw [← hol]
        exact shRow_set (by omega)
      have HI2 : Hid ((o ++ [hi + lo]).length = k + 1 ∧ Dig (o ++ [hi + lo]) ∧ valL (o ++ [hi + lo]) + 4294967296 ^ (k + 1) * h2 = valL ((limbs x).take (k + 1)) * P) := by
        refine ⟨by simp [hol], hod.append (Dig.one hsum), shl_step (x := 0) hol hov ?_⟩
        rw [← hu, ← ht, hlo, hh2]; omega
      have HROW := Lib.hid hrow
      have HOL := Lib.hid hol
      have hk1 : k + 1 < n := by omega
      clear hu ht hlo hh2 hlm hol hod hov e1 hrow hmk HI
      have hho2 := HROW.out.getD (j := k + 1) (by rw [shRow_len]; exact hk1)
      have hhf2 := HROW.out.frozen (k + 1)
      have HS2 : Hid ((shRow n (o ++ [hi + lo]) 0).set (k + 1) h2 = shRow n (o ++ [hi + lo]) h2) := by
        show _ = _
        have e3 : (o ++ [hi + lo]).length = k + 1 := HI2.out.1
        conv => lhs; arg 2; rw [← e3]
        exact shRow_set2 (by rw [e3]; exact hk1)
      go_wp2_with fail
      go_roundw
      case measure => simp [intOf] <;> omega
      case rel => exact ⟨k + 1, h2, o ++ [hi + lo], by omega, by go_num, h2l, (HROW.out.setI k (hi + lo) (by simp) HS1.out).setI (k + 1) h2 rfl HS2.out, HI2, (hbel.setCell (p := ⟨w.heap.size, k, none⟩) (by simp) _).setCell (p := ⟨w.heap.size, k + 1, none⟩) (by simp) _⟩
    · obtain rfl : k = m := by omega
      obtain ⟨hol, hod, hov⟩ := HI.out
      have HE := Lib.hid (shRow_end HM.out.symm hol hod (show k ≤ n by omega) (by omega) hov HBD.out)
      have HROW := Lib.hid hrow
      clear hol hod hov hrow hmk HI
      go_wp2_with fail
      go_ret
      exact ⟨w.heap.size, shRow n o hi, rfl, Nat.le_refl _, HE.out.1, HE.out.2.1, HE.out.2.2, HROW.out, hbel⟩

end Go.Proofs.Ytlljmiddgadcpaa

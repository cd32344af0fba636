/- the definition's minus. -/
import Derived.Test.YtlljmiddgadcpaaAdd
set_option linter.unusedVariables false
set_option linter.unusedSimpArgs false
namespace Go.Proofs.Ytlljmiddgadcpaa
open Go.RowKit

set_option maxHeartbeats 8000000 in
set_option maxRecDepth 100000 in
theorem minus_calls (X Y : Option Addr) (cx cy x y : Nat) (w : World) (hrx : KRd .u32 w w.heap.size X (limbs x)) (hry : KRd .u32 w w.heap.size Y (limbs y)) (hxl : (limbs x).length ≤ 1000000000) (hxy : y ≤ x) :
    Calls Try.prog 39 #[.slice X (limbs x).length cx, .slice Y (limbs y).length cy] w fun e w' => ∃ A' c', e = .returned (.slice A' (limbs (x - y)).length c') ∧ (limbs (x - y)).length ≤ c' ∧ KRd .u32 w' w'.heap.size A' (limbs (x - y)) ∧ Below w.heap.size w w' := by
  have hyx : (limbs y).length ≤ (limbs x).length := by
    rcases Nat.lt_or_ge (limbs x).length (limbs y).length with h | h
    · have := lt_of_len h; omega
    · exact h
  obtain ⟨n, hn⟩ : ∃ n, n = (limbs x).length := ⟨_, rfl⟩
  obtain ⟨m, hm⟩ : ∃ m, m = (limbs y).length := ⟨_, rfl⟩
  rw [← hn] at hxl hyx ⊢
  rw [← hm] at hyx ⊢
  have hmk := run_make_row' (P := Try.prog) 48 60 (.int .u32 0) 4 Try.underlying48 Try.info_u32 rfl .i64 .i64 n (by omega) (by omega)
  have HN := Lib.hid hn
  have HM := Lib.hid hm
  have HRX := Lib.hid hrx
  have HRY := Lib.hid hry
  have HXY := Lib.hid hxy
  clear hn hm hrx hry hxy
  go_enter Try.func39, Try.ntmps39
  go_wp2_with fail
  go_loopw [6, 7] (fun cc i wr => ∃ (k c : Nat) (o : List Nat), k ≤ n ∧ i = .int .i64 (k : Int) ∧ cc = .int .u64 (c : Int) ∧ c ≤ 1 ∧ KRow .u32 60 wr w.heap.size (o ++ List.replicate (n - k) 0) ∧ Hid (o.length = k ∧ Dig o ∧ valL o + valL ((limbs y).take k) = valL ((limbs x).take k) + 4294967296 ^ k * c) ∧ Below w.heap.size w wr) (fun _ i _ => n - (intOf i).toNat)
  case atStart => exact ⟨0, 0, [], by omega, rfl, rfl, by omega, KRow.made _ _ _ rfl, ⟨rfl, Dig.nil, by simp [valL]⟩, (Below.refl _ _).alloc (Nat.le_refl _) _⟩
  case round =>
    obtain ⟨k, c, o, hk, rfl, rfl, hc, hrow, HI, hbel⟩ := hrel
    have hsz := hrow.lt
    by_cases hlt : k < n
    · have hkx : k < (limbs x).length := by rw [← HN.out]; exact hlt
      obtain ⟨b, off, hXe, hb, hcx⟩ := (HRX.out.below hbel).at_ (getElem?_getD hkx)
      subst hXe
      obtain ⟨u, hu⟩ : ∃ u, u = (limbs x).getD k 0 := ⟨_, rfl⟩
      have hul : u < 4294967296 := by rw [hu]; exact (limbs_dig x).getD k
      rw [← hu] at hcx
      obtain ⟨v, hv⟩ : ∃ v, v = (limbs y).getD k 0 := ⟨_, rfl⟩
      have hvl : v < 4294967296 := by rw [hv]; exact (limbs_dig y).getD k
      obtain ⟨hol, hod, hov⟩ := HI.out
      have e1 : n - k = (n - (k + 1)) + 1 := by omega
      have hho := hrow.getD (j := k) (by rw [List.length_append, List.length_replicate]; omega)
      obtain ⟨old, hold⟩ : ∃ old, old = (o ++ List.replicate (n - k) 0).getD k 0 := ⟨_, rfl⟩
      rw [← hold] at hho
      have hhf := hrow.frozen k
      obtain ⟨yy, hyy⟩ : ∃ yy, yy = c + v := ⟨_, rfl⟩
      obtain ⟨c', hc'⟩ : ∃ c', c' = if u < yy then 1 else 0 := ⟨_, rfl⟩
      obtain ⟨z, hz⟩ : ∃ z, z = (u + 4294967296 * c') - yy := ⟨_, rfl⟩
      have hcl : c' ≤ 1 := by rw [hc']; split <;> omega
      have hzz : z + yy = u + 4294967296 * c' := by rw [hz]; rw [hc']; split <;> omega
      have hzl : z < 4294967296 := by
        rw [hc'] at hz; split at hz <;> omega
      have HI2 : Hid ((o ++ [z]).length = k + 1 ∧ Dig (o ++ [z]) ∧ valL (o ++ [z]) + valL ((limbs y).take (k + 1)) = valL ((limbs x).take (k + 1)) + 4294967296 ^ (k + 1) * c') := by
        refine ⟨by simp [hol], hod.append (Dig.one hzl), sub_step hol hov ?_⟩
        rw [← hu, ← hv]; omega
      have HSET : Hid ((o ++ List.replicate (n - k) 0).set k z = (o ++ [z]) ++ List.replicate (n - (k + 1)) 0) := by
        show _ = _
        rw [e1]
        conv => lhs; arg 2; rw [← hol]
        exact hi_set _ _ _
      have HROW := Lib.hid hrow
      have HV := Lib.hid hv
      have HYY := Lib.hid hyy
      have hyl : yy ≤ 4294967296 := by omega
      have hv0 : ¬ k < m → v = 0 := fun h => by
        rw [hv, List.getD_eq_getElem?_getD, List.getElem?_eq_none (by rw [← HM.out]; omega)]; rfl
      have HV0 := Lib.hid hv0
      have HC' := Lib.hid hc'
      clear hu hv hv0 hold hrow hmk HI hol hod hov e1 hyy hc' hz
      by_cases hky : k < m
      · obtain ⟨b2, off2, hYe, hb2, hcy⟩ := (HRY.out.below hbel).at_ (getElem?_getD (show k < (limbs y).length by rw [← HM.out]; exact hky))
        subst hYe
        rw [← HV.out] at hcy
        have u1 : (c : Int) + (v : Int) = (yy : Int) := by have := HYY.out; omega
        by_cases hlo : u < yy
        · have hc1 : c' = 1 := by rw [HC'.out, if_pos hlo]
          subst hc1
          have t1 : decide ((u : Int) < (yy : Int)) = true := by simp; omega
          have u2 : (u : Int) + 4294967296 - (yy : Int) = (z : Int) := by omega
          have HLO := Lib.hid hlo
          have HZZ := Lib.hid hzz
          clear hlo hzz
          go_wp2_with fail
          go_roundw
          case measure => simp [intOf] <;> omega
          case rel => exact ⟨k + 1, 1, o ++ [z], by omega, by go_num, rfl, hcl, HROW.out.setI k z rfl HSET.out, HI2, hbel.setCell (by simp) _⟩
        · have hc1 : c' = 0 := by rw [HC'.out, if_neg hlo]
          subst hc1
          have t1 : decide ((u : Int) < (yy : Int)) = false := by simp; omega
          have u2 : (u : Int) - (yy : Int) = (z : Int) := by omega
          have hge : yy ≤ u := by omega
          have HZZ := Lib.hid hzz
          clear hlo hzz
          go_wp2_with fail
          go_roundw
          case measure => simp [intOf] <;> omega
          case rel => exact ⟨k + 1, 0, o ++ [z], by omega, by go_num, rfl, hcl, HROW.out.setI k z rfl HSET.out, HI2, hbel.setCell (by simp) _⟩
      · have u1 : (c : Int) = (yy : Int) := by have := HYY.out; have := HV0.out hky; omega
        have u0 : c = yy := by omega
        subst u0
        clear u1
        by_cases hlo : u < c
        · have hc1 : c' = 1 := by rw [HC'.out, if_pos hlo]
          subst hc1
          have t1 : decide ((u : Int) < (c : Int)) = true := by simp; omega
          have u2 : (u : Int) + 4294967296 - (c : Int) = (z : Int) := by omega
          have HLO := Lib.hid hlo
          have HZZ := Lib.hid hzz
          clear hlo hzz
          go_wp2_with fail
          go_roundw
          case measure => simp [intOf] <;> omega
          case rel => exact ⟨k + 1, 1, o ++ [z], by omega, by go_num, rfl, hcl, HROW.out.setI k z rfl HSET.out, HI2, hbel.setCell (by simp) _⟩
        · have hc1 : c' = 0 := by rw [HC'.out, if_neg hlo]
          subst hc1
          have t1 : decide ((u : Int) < (c : Int)) = false := by simp; omega
          have u2 : (u : Int) - (c : Int) = (z : Int) := by omega
          have hge : c ≤ u := by omega
          have HZZ := Lib.hid hzz
          clear hlo hzz
          go_wp2_with fail
          go_roundw
          case measure => simp [intOf] <;> omega
          case rel => exact ⟨k + 1, 0, o ++ [z], by omega, by go_num, rfl, hcl, HROW.out.setI k z rfl HSET.out, HI2, hbel.setCell (by simp) _⟩
    · obtain rfl : k = n := by omega
      obtain ⟨hol, hod, hov⟩ := HI.out
      have hval : valL o = x - y := by
        have := sub_end (x := limbs x) (y := limbs y) hod (by rw [hol, HN.out]) (by rw [← HN.out, ← HM.out]; exact hyx) hc (by rw [valL_limbs, valL_limbs]; exact HXY.out) (by rw [← HN.out]; exact hov)
        rw [this.1, valL_limbs, valL_limbs]
      have hrow' : KRow .u32 60 wr w.heap.size o := hrow.cast (by rw [Nat.sub_self]; simp)
      have HT := strip_calls (some ⟨w.heap.size, 0, none⟩) k o wr hrow'.rd hod (Nat.le_of_eq hol) (by rw [hol]; omega)
      rw [hval, hol] at HT
      have HRD : Hid (KRd .u32 wr wr.heap.size (some ⟨w.heap.size, 0, none⟩) (limbs (x - y))) := hrow'.rd.limbs hod hval
      have HLE : Hid ((limbs (x - y)).length ≤ k) := by
        have := (take_limbs hod).2
        show _ ≤ _
        rw [← hval]; omega
      have HTT := Lib.hid HT
      clear hol hod hov HT hrow hrow' hval hmk HI
      go_wp2_with fail
      refine HTT.out.mono ?_
      rintro e w1 ⟨rfl, rfl⟩
      go_wp2_with fail
      go_ret
      exact ⟨_, k, rfl, HLE.out, HRD.out, hbel⟩

end Go.Proofs.Ytlljmiddgadcpaa

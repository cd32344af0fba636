/- natural.Add, subtract, Subtract. -/
import Derived.Test.YtmlbolfopakgmaaDoorDivS
import Derived.Deep.DeepCutAuto
set_option linter.unusedVariables false
set_option linter.unusedSimpArgs false
namespace Go.Proofs.YtmlbolfopakgmaaDoor
open Go.RowKit

theorem hi_set (o : List Nat) (m d : Nat) : (o ++ List.replicate (m + 1) 0).set o.length d = (o ++ [d]) ++ List.replicate m 0 := by
  rw [List.set_append_right _ _ (Nat.le_refl _)]
  simp [List.replicate_succ]

theorem hi_getD (o : List Nat) (m : Nat) : (o ++ List.replicate (m + 1) 0).getD o.length 0 = 0 := by
  rw [List.getD_eq_getElem?_getD, List.getElem?_append_right (Nat.le_refl _)]
  simp

theorem add_carry {x y c : Nat} (hx : x < 4294967296) (hy : y < 4294967296) (hc : c ≤ 1) : (x + y + c) / 4294967296 ≤ 1 := by omega

/-- the loop of Add and what stands behind it: x is not shorter than y -/
theorem add_end {o : List Nat} {n c a b : Nat} (hol : o.length = n) (hn : (limbs a).length = n) (hb : (limbs b).length ≤ n) (h : valL o + 4294967296 ^ n * c = valL ((limbs a).take n) + valL ((limbs b).take n)) : valL (o ++ [c]) = a + b := by
  rw [valL_snoc, hol, h, List.take_of_length_le (by omega), List.take_of_length_le (by omega), valL_limbs, valL_limbs]

set_option maxHeartbeats 4000000 in
set_option maxRecDepth 100000 in
theorem natAdd_calls (s t : ByteArray) (w : World) (hs : s.size ≤ 100000000) (ht : t.size ≤ 100000000) :
    Calls Tryd.prog 37 #[.string s, .string t] w fun e w' => e = .returned (.string (ncan (snum s + snum t))) ∧ Below w.heap.size w w' := by
  have HP1 := Lib.hid (fun w => parse_calls s w (by omega))
  have HP2 := Lib.hid (fun w => parse_calls t w (by omega))
  have hla : (limbs (snum s)).length ≤ 100000000 := by
    rw [limbs_len_canon]; have := canon_num_len s.data.toList; rw [← Lib.size_eq] at this; show ((canon (num s.data.toList)).length + 3) / 4 ≤ _; omega
  have hlb : (limbs (snum t)).length ≤ 100000000 := by
    rw [limbs_len_canon]; have := canon_num_len t.data.toList; rw [← Lib.size_eq] at this; show ((canon (num t.data.toList)).length + 3) / 4 ≤ _; omega
  obtain ⟨a0, ha0⟩ : ∃ a0, a0 = snum s := ⟨_, rfl⟩
  obtain ⟨b0, hb0⟩ : ∃ b0, b0 = snum t := ⟨_, rfl⟩
  rw [← ha0] at HP1 hla ⊢
  rw [← hb0] at HP2 hlb ⊢
  clear ha0 hb0 hs ht
  go_enter Tryd.func37, Tryd.ntmps37
  go_wp2_with fail
  refine (HP1.out _).mono ?_
  rintro e w1 ⟨A1, c1, rfl, hc1, hr1, hb1⟩
  go_wp2_with fail
  refine (HP2.out _).mono ?_
  rintro e w2 ⟨A2, c2, rfl, hc2, hr2, hb2⟩
  have hbel := hb1.trans (hb2.mono hb1.size)
  have hr1' := hr1.next hb2
  have HR1 := Lib.hid hr1'
  have HR2 := Lib.hid hr2
  have HBEL := Lib.hid hbel
  clear hr1 hr1' hr2 hb1 hb2 hbel
  go_upto_if 19 with fail
  go_cut [5, 6] (fun s5 s6 wx => ∃ (x y : Nat) (X Y : Option Addr) (cx cy : Nat), s5 = .slice X (limbs x).length cx ∧ s6 = .slice Y (limbs y).length cy ∧ Hid (x + y = a0 + b0) ∧ (limbs y).length ≤ (limbs x).length ∧ (limbs x).length ≤ 100000000 ∧ Hid (KRd .u32 w2 w2.heap.size X (limbs x)) ∧ Hid (KRd .u32 w2 w2.heap.size Y (limbs y)) ∧ w2 = wx)
  case first =>
    rcases Nat.lt_or_ge (limbs a0).length (limbs b0).length with h | h
    · have h2 : decide ((limbs a0).length < (limbs b0).length) = true := by simpa using h
      go_wp2_with fail
      go_meet
      exact ⟨b0, a0, A2, A1, c2, c1, rfl, rfl, Nat.add_comm _ _, by omega, hlb, HR2, HR1, rfl⟩
    · have h2 : decide ((limbs a0).length < (limbs b0).length) = false := by simpa using h
      have h3 : ¬ (limbs a0).length < (limbs b0).length := by omega
      go_wp2_with fail
      go_meet
      exact ⟨a0, b0, A1, A2, c1, c2, rfl, rfl, rfl, by omega, hla, HR1, HR2, rfl⟩
  case rest =>
    clear hla hlb HR1 HR2 hc1 hc2
    obtain ⟨x, y, X, Y, cx, cy, rfl, rfl, HXY, hyx, hxl, HRX, HRY, rfl⟩ := hcut
    obtain ⟨n, hn⟩ : ∃ n, n = (limbs x).length := ⟨_, rfl⟩
    obtain ⟨m, hm⟩ : ∃ m, m = (limbs y).length := ⟨_, rfl⟩
    rw [← hn] at hxl hyx ⊢
    rw [← hm] at hyx ⊢
    have hmk := run_make_row' (P := Tryd.prog) 50 60 (.int .u32 0) 4 Tryd.underlying50 Tryd.info_u32 rfl .i64 .i64 (n + 1) (by omega) (by omega)
    have hcast : (((n + 1 : Nat)) : Int) = (n : Int) + 1 := by omega
    rw [hcast] at hmk
    have HN := Lib.hid hn
    have HM := Lib.hid hm
    clear hn hm hcast
    go_wp2_with fail
    go_loopw [8, 28] (fun cc i wr => ∃ (k c : Nat) (o : List Nat), k ≤ n ∧ i = .int .i64 (k : Int) ∧ cc = .int .u32 (c : Int) ∧ c ≤ 1 ∧ KRow .u32 60 wr w2.heap.size (o ++ List.replicate (n + 1 - k) 0) ∧ Hid (o.length = k ∧ Dig o ∧ valL o + 4294967296 ^ k * c = valL ((limbs x).take k) + valL ((limbs y).take k)) ∧ Below w2.heap.size w2 wr) (fun _ i _ => n - (intOf i).toNat)
    case atStart => exact ⟨0, 0, [], by omega, rfl, rfl, by omega, KRow.made _ _ _ rfl, ⟨rfl, Dig.nil, by simp [valL]⟩, (Below.refl _ _).alloc (Nat.le_refl _) _⟩
    case round =>
      obtain ⟨k, c, o, hk, rfl, rfl, hc, hrow, HI, hbel⟩ := hrel
      have hsz := hrow.lt
      by_cases hlt : k < n
      · have hkx : k < (limbs x).length := by rw [← HN.out]; exact hlt
        obtain ⟨b, off, hXe, hb, hcx⟩ := (HRX.out.below hbel).at_ (getElem?_getD hkx)
        subst hXe
        obtain ⟨u, hu⟩ : ∃ u, u = (limbs x).getD k 0 := ⟨_, rfl⟩
        have hul : u < 4294967296 := by rw [hu]; exact (limbs_dig x).getD k
        rw [← hu] at hcx
        obtain ⟨v, hv⟩ : ∃ v, v = (limbs y).getD k 0 := ⟨_, rfl⟩
        have hvl : v < 4294967296 := by rw [hv]; exact (limbs_dig y).getD k
        obtain ⟨hol, hod, hov⟩ := HI.out
        have e1 : n + 1 - k = (n - k) + 1 := by omega
        have hho := hrow.getD (j := k) (by rw [List.length_append, List.length_replicate]; omega)
        obtain ⟨old, hold⟩ : ∃ old, old = (o ++ List.replicate (n + 1 - k) 0).getD k 0 := ⟨_, rfl⟩
        rw [← hold] at hho
        have hhf := hrow.frozen k
        have HI2 : Hid ((o ++ [(u + v + c) % 4294967296]).length = k + 1 ∧ Dig (o ++ [(u + v + c) % 4294967296]) ∧ valL (o ++ [(u + v + c) % 4294967296]) + 4294967296 ^ (k + 1) * ((u + v + c) / 4294967296) = valL ((limbs x).take (k + 1)) + valL ((limbs y).take (k + 1))) := by
          refine ⟨by simp [hol], hod.append (Dig.one (by omega)), add_step hol hov ?_⟩
          rw [← hu, ← hv]; omega
        have HSET : Hid ((o ++ List.replicate (n + 1 - k) 0).set k ((u + v + c) % 4294967296) = (o ++ [(u + v + c) % 4294967296]) ++ List.replicate (n + 1 - (k + 1)) 0) := by
          show _ = _
          rw [e1]
          have e2 : n + 1 - (k + 1) = n - k := by omega
          rw [e2]
          conv => lhs; arg 2; rw [← hol]
          exact hi_set _ _ _
        have HROW := Lib.hid hrow
        have hcl : (u + v + c) / 4294967296 ≤ 1 := add_carry hul hvl hc
        have HA := Lib.hid (fun w => add32_calls u v c w hul hvl (by omega))
        have HV := Lib.hid hv
        obtain ⟨z, hz⟩ : ∃ z, z = (u + v + c) % 4294967296 := ⟨_, rfl⟩
        obtain ⟨c', hc'⟩ : ∃ c', c' = (u + v + c) / 4294967296 := ⟨_, rfl⟩
        rw [← hz, ← hc'] at HI2 HA
        rw [← hz] at HSET
        rw [← hc'] at hcl
        clear hu hv hold hrow hmk HI hol hod hov e1 hz hc'
        by_cases hky : k < m
        · obtain ⟨b2, off2, hYe, hb2, hcy⟩ := (HRY.out.below hbel).at_ (getElem?_getD (show k < (limbs y).length by rw [← HM.out]; exact hky))
          subst hYe
          rw [← HV.out] at hcy
          go_wp2_with fail
          refine (HA.out _).mono ?_
          rintro e w3 ⟨rfl, rfl⟩
          go_wp2_with fail
          go_roundw
          case measure => simp [intOf] <;> omega
          case rel => exact ⟨k + 1, c', o ++ [z], by omega, by go_num, rfl, hcl, HROW.out.setI k z rfl HSET.out, HI2, hbel.setCell (by simp) _⟩
        · have hv0 : v = 0 := by
            rw [HV.out, List.getD_eq_getElem?_getD, List.getElem?_eq_none (by rw [← HM.out]; omega)]; rfl
          subst hv0
          go_wp2_with fail
          refine (HA.out _).mono ?_
          rintro e w3 ⟨rfl, rfl⟩
          go_wp2_with fail
          go_roundw
          case measure => simp [intOf] <;> omega
          case rel => exact ⟨k + 1, c', o ++ [z], by omega, by go_num, rfl, hcl, HROW.out.setI k z rfl HSET.out, HI2, hbel.setCell (by simp) _⟩
      · obtain rfl : k = n := by omega
        obtain ⟨hol, hod, hov⟩ := HI.out
        have hho := hrow.getD (j := k) (by rw [List.length_append, List.length_replicate]; omega)
        obtain ⟨old, hold⟩ : ∃ old, old = (o ++ List.replicate (k + 1 - k) 0).getD k 0 := ⟨_, rfl⟩
        rw [← hold] at hho
        have hhf := hrow.frozen k
        have hset : (o ++ List.replicate (k + 1 - k) 0).set k c = o ++ [c] := by
          have e1 : k + 1 - k = 0 + 1 := by omega
          rw [e1]
          conv => lhs; arg 2; rw [← hol]
          rw [hi_set]; simp
        have hrow2 := hrow.setI k c rfl hset
        have hd2 : Dig (o ++ [c]) := hod.append (Dig.one (by omega))
        have hl2 : (o ++ [c]).length = k + 1 := by simp [hol]
        have hval : valL (o ++ [c]) = a0 + b0 := by
          rw [← HXY.out]
          exact add_end hol HN.out.symm (by rw [← HM.out]; exact hyx) hov
        have HT := text_calls (some ⟨w2.heap.size, 0, none⟩) (k + 1) (o ++ [c]) _ hrow2.rd hd2 (Nat.le_of_eq hl2) (by rw [hl2]; omega)
        rw [hval, hl2] at HT
        have HTT := Lib.hid HT
        clear HT hrow hrow2 hset hold hol hod hov hd2 hl2 hval hmk HI
        go_wp2_with fail
        refine HTT.out.mono ?_
        rintro e w3 ⟨rfl, hb3⟩
        have hb4 : Below w2.heap.size w2 w3 := by
          have h1 : Below w2.heap.size w2 (wr.setCell ⟨w2.heap.size, k, none⟩ (.int .u32 (c : Int))) := hbel.setCell (by simp) _
          exact h1.trans (hb3.mono h1.size)
        clear hb3
        go_wp2_with fail
        go_ret
        exact ⟨rfl, HBEL.out.trans (hb4.mono HBEL.out.size)⟩

theorem snum_len {s : ByteArray} (hs : s.size ≤ 1000000000) : (limbs (snum s)).length ≤ 1000000000 := by
  rw [limbs_len_canon]; have := canon_num_len s.data.toList; rw [← Lib.size_eq] at this; show ((canon (num s.data.toList)).length + 3) / 4 ≤ _; omega

set_option maxHeartbeats 4000000 in
set_option maxRecDepth 100000 in
theorem subtract_calls (X Y : Option Addr) (cx cy x y : Nat) (w : World) (hrx : KRd .u32 w w.heap.size X (limbs x)) (hry : KRd .u32 w w.heap.size Y (limbs y)) (hxl : (limbs x).length ≤ 1000000000) (hxy : y ≤ x) :
    Calls Tryd.prog 63 #[.slice X (limbs x).length cx, .slice Y (limbs y).length cy] w fun e w' => ∃ A' c', e = .returned (.slice A' (limbs (x - y)).length c') ∧ (limbs (x - y)).length ≤ c' ∧ KRd .u32 w' w'.heap.size A' (limbs (x - y)) ∧ Below w.heap.size w w' := by
  have hyx : (limbs y).length ≤ (limbs x).length := by
    rcases Nat.lt_or_ge (limbs x).length (limbs y).length with h | h
    · have := lt_of_len h; omega
    · exact h
  obtain ⟨n, hn⟩ : ∃ n, n = (limbs x).length := ⟨_, rfl⟩
  obtain ⟨m, hm⟩ : ∃ m, m = (limbs y).length := ⟨_, rfl⟩
  rw [← hn] at hxl hyx ⊢
  rw [← hm] at hyx ⊢
  have hmk := run_make_row' (P := Tryd.prog) 50 60 (.int .u32 0) 4 Tryd.underlying50 Tryd.info_u32 rfl .i64 .i64 n (by omega) (by omega)
  have HN := Lib.hid hn
  have HM := Lib.hid hm
  have HRX := Lib.hid hrx
  have HRY := Lib.hid hry
  have HXY := Lib.hid hxy
  clear hn hm hrx hry hxy
  go_enter Tryd.func63, Tryd.ntmps63
  go_wp2_with fail
  go_loopw [6, 14] (fun cc i wr => ∃ (k c : Nat) (o : List Nat), k ≤ n ∧ i = .int .i64 (k : Int) ∧ cc = .int .u32 (c : Int) ∧ c ≤ 1 ∧ KRow .u32 60 wr w.heap.size (o ++ List.replicate (n - k) 0) ∧ Hid (o.length = k ∧ Dig o ∧ valL o + valL ((limbs y).take k) = valL ((limbs x).take k) + 4294967296 ^ k * c) ∧ Below w.heap.size w wr) (fun _ i _ => n - (intOf i).toNat)
  case atStart => exact ⟨0, 0, [], by omega, rfl, rfl, by omega, KRow.made _ _ _ rfl, ⟨rfl, Dig.nil, by simp [valL]⟩, (Below.refl _ _).alloc (Nat.le_refl _) _⟩
  case round =>
    obtain ⟨k, c, o, hk, rfl, rfl, hc, hrow, HI, hbel⟩ := hrel
    have hsz := hrow.lt
    by_cases hlt : k < n
    · have hkx : k < (limbs x).length := by rw [← HN.out]; exact hlt
      obtain ⟨b, off, hXe, hb, hcx⟩ := (HRX.out.below hbel).at_ (getElem?_getD hkx)
      subst hXe
      obtain ⟨u, hu⟩ : ∃ u, u = (limbs x).getD k 0 := ⟨_, rfl⟩
      have hul : u < 4294967296 := by rw [hu]; exact (limbs_dig x).getD k
      rw [← hu] at hcx
      obtain ⟨v, hv⟩ : ∃ v, v = (limbs y).getD k 0 := ⟨_, rfl⟩
      have hvl : v < 4294967296 := by rw [hv]; exact (limbs_dig y).getD k
      obtain ⟨hol, hod, hov⟩ := HI.out
      have e1 : n - k = (n - (k + 1)) + 1 := by omega
      have hho := hrow.getD (j := k) (by rw [List.length_append, List.length_replicate]; omega)
      obtain ⟨old, hold⟩ : ∃ old, old = (o ++ List.replicate (n - k) 0).getD k 0 := ⟨_, rfl⟩
      rw [← hold] at hho
      have hhf := hrow.frozen k
      have hbw : (u + 4294967296 - v - c) % 4294967296 + v + c = u + 4294967296 * brw u v c := by unfold brw; split <;> omega
      have HI2 : Hid ((o ++ [(u + 4294967296 - v - c) % 4294967296]).length = k + 1 ∧ Dig (o ++ [(u + 4294967296 - v - c) % 4294967296]) ∧ valL (o ++ [(u + 4294967296 - v - c) % 4294967296]) + valL ((limbs y).take (k + 1)) = valL ((limbs x).take (k + 1)) + 4294967296 ^ (k + 1) * brw u v c) := by
        refine ⟨by simp [hol], hod.append (Dig.one (by omega)), sub_step hol hov ?_⟩
        rw [← hu, ← hv]; exact hbw
      have HSET : Hid ((o ++ List.replicate (n - k) 0).set k ((u + 4294967296 - v - c) % 4294967296) = (o ++ [(u + 4294967296 - v - c) % 4294967296]) ++ List.replicate (n - (k + 1)) 0) := by
        show _ = _
        rw [e1]
        conv => lhs; arg 2; rw [← hol]
        exact hi_set _ _ _
      have HROW := Lib.hid hrow
      have hcl : brw u v c ≤ 1 := by unfold brw; split <;> omega
      have HA := Lib.hid (fun w => sub32_calls u v c w hul hvl hc)
      have HV := Lib.hid hv
      obtain ⟨z, hz⟩ : ∃ z, z = (u + 4294967296 - v - c) % 4294967296 := ⟨_, rfl⟩
      obtain ⟨c', hc'⟩ : ∃ c', c' = brw u v c := ⟨_, rfl⟩
      rw [← hz, ← hc'] at HI2 HA
      rw [← hz] at HSET
      rw [← hc'] at hcl
      clear hu hv hold hrow hmk HI hol hod hov e1 hz hc' hbw
      by_cases hky : k < m
      · obtain ⟨b2, off2, hYe, hb2, hcy⟩ := (HRY.out.below hbel).at_ (getElem?_getD (show k < (limbs y).length by rw [← HM.out]; exact hky))
        subst hYe
        rw [← HV.out] at hcy
        go_wp2_with fail
        refine (HA.out _).mono ?_
        rintro e w3 ⟨rfl, rfl⟩
        go_wp2_with fail
        go_roundw
        case measure => simp [intOf] <;> omega
        case rel => exact ⟨k + 1, c', o ++ [z], by omega, by go_num, rfl, hcl, HROW.out.setI k z rfl HSET.out, HI2, hbel.setCell (by simp) _⟩
      · have hv0 : v = 0 := by
          rw [HV.out, List.getD_eq_getElem?_getD, List.getElem?_eq_none (by rw [← HM.out]; omega)]; rfl
        subst hv0
        go_wp2_with fail
        refine (HA.out _).mono ?_
        rintro e w3 ⟨rfl, rfl⟩
        go_wp2_with fail
        go_roundw
        case measure => simp [intOf] <;> omega
        case rel => exact ⟨k + 1, c', o ++ [z], by omega, by go_num, rfl, hcl, HROW.out.setI k z rfl HSET.out, HI2, hbel.setCell (by simp) _⟩
    · obtain rfl : k = n := by omega
      obtain ⟨hol, hod, hov⟩ := HI.out
      have hval : valL o = x - y := by
        have := sub_end (x := limbs x) (y := limbs y) hod (by rw [hol, HN.out]) (by rw [← HN.out, ← HM.out]; exact hyx) hc (by rw [valL_limbs, valL_limbs]; exact HXY.out) (by rw [← HN.out]; exact hov)
        rw [this.1, valL_limbs, valL_limbs]
      have hrow' : KRow .u32 60 wr w.heap.size o := hrow.cast (by rw [Nat.sub_self]; simp)
      have HT := trim_calls (some ⟨w.heap.size, 0, none⟩) k o wr hrow'.rd hod (Nat.le_of_eq hol) (by rw [hol]; omega)
      rw [hval, hol] at HT
      have HRD : Hid (KRd .u32 wr wr.heap.size (some ⟨w.heap.size, 0, none⟩) (limbs (x - y))) := hrow'.rd.limbs hod hval
      have HLE : Hid ((limbs (x - y)).length ≤ k) := by
        have := (take_limbs hod).2
        show _ ≤ _
        rw [← hval]; omega
      have HTT := Lib.hid HT
      clear hol hod hov HT hrow hrow' hval hmk HI
      go_wp2_with fail
      refine HTT.out.mono ?_
      rintro e w1 ⟨rfl, rfl⟩
      go_wp2_with fail
      go_ret
      exact ⟨_, k, rfl, HLE.out, HRD.out, hbel⟩

end Go.Proofs.YtmlbolfopakgmaaDoor

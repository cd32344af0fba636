/- divideSmall, short: a number divided by one digit. -/
import Derived.Test.YtcljkdjmmolfoaaDoorCmp
import Derived.Test.YtcljkdjmmolfoaaDoorBits
set_option linter.unusedVariables false
set_option linter.unusedSimpArgs false
namespace Go.Proofs.YtcljkdjmmolfoaaDoor
open Go.RowKit

theorem low_set (j q : Nat) (o : List Nat) : (List.replicate (j + 1) 0 ++ o).set j q = List.replicate j 0 ++ q :: o := by
  have e2 : j = (List.replicate j 0).length := by simp
  rw [List.replicate_succ', List.append_assoc]
  conv => lhs; arg 2; rw [e2]
  rw [List.set_append_right _ _ (Nat.le_refl _)]
  simp

theorem low_getD (j : Nat) (o : List Nat) : (List.replicate (j + 1) 0 ++ o).getD j 0 = 0 := by
  rw [List.getD_eq_getElem?_getD, List.getElem?_append_left (by simp)]
  simp

theorem divmod_of {a q d r : Nat} (h : a = q * d + r) (hr : r < d) : q = a / d ∧ r = a % d := by
  subst h
  have hd : 0 < d := by omega
  constructor
  · rw [Nat.mul_comm, Nat.mul_add_div hd, Nat.div_eq_of_lt hr]; omega
  · rw [Nat.mul_comm, Nat.mul_add_mod, Nat.mod_eq_of_lt hr]

theorem ret_sl_int {A : Option Addr} {n m c : Nat} {k : IntKind} {a b : Int} (h : n = m) (h2 : a = b) : Ending.returned (.tuple #[.slice A n c, .int k a]) = .returned (.tuple #[.slice A m c, .int k b]) := by rw [h, h2]
theorem ret_sl {A : Option Addr} {n m c : Nat} (h : n = m) : Ending.returned (.slice A n c) = .returned (.slice A m c) := by rw [h]

set_option maxHeartbeats 2000000 in
set_option maxRecDepth 100000 in
theorem divideSmall_row (A : Option Addr) (c a d : Nat) (w : World) (hr : KRd .u32 w w.heap.size A (limbs a)) (hl : (limbs a).length ≤ 1000000000) (hd0 : 0 < d) (hd1 : d < 4294967296) :
    Calls Tryd.prog 85 #[.slice A (limbs a).length c, .int .u32 d] w fun e w' => ∃ g c', e = .returned (.tuple #[.slice (some ⟨g, 0, none⟩) (limbs (a / d)).length c', .int .u32 ((a % d : Nat) : Int)]) ∧ (limbs (a / d)).length ≤ c' ∧ KRow .u32 25 w' g (limbs (a / d)) ∧ Below w.heap.size w w' := by
  obtain ⟨n, hn⟩ : ∃ n, n = (limbs a).length := ⟨_, rfl⟩
  rw [← hn]
  have hmk := run_make_row' (P := Tryd.prog) 128 25 (.int .u32 0) 4 Tryd.underlying128 Tryd.info_u32 rfl .i64 .i64 n (by omega) (by omega)
  have HR := Lib.hid hr
  have HN := Lib.hid hn
  have hnb : n ≤ 1000000000 := by omega
  clear hr hn hl
  go_enter Tryd.func85, Tryd.ntmps85
  go_wp2_with fail
  go_loopw [7, 8] (fun rr i wr => ∃ (k r : Nat) (o : List Nat), k ≤ n ∧ i = .int .i64 ((k : Int) - 1) ∧ rr = .int .u64 (r : Int) ∧ r < d ∧ KRow .u32 25 wr w.heap.size (List.replicate k 0 ++ o) ∧ Hid (o.length = n - k ∧ Dig o ∧ valL ((limbs a).drop k) = valL o * d + r) ∧ Below w.heap.size w wr) (fun _ i _ => (intOf i + 1).toNat)
  case atStart => exact ⟨n, 0, [], Nat.le_refl _, rfl, rfl, hd0, (KRow.made _ _ _ rfl).cast (by simp), ⟨by simp, Dig.nil, by rw [HN.out, List.drop_length]; simp [valL]⟩, (Below.refl _ _).alloc (Nat.le_refl _) _⟩
  case round =>
    obtain ⟨k, r, o, hk, rfl, rfl, hrd, hrow, HI, hbel⟩ := hrel
    have hsz := hrow.lt
    by_cases h0 : k = 0
    · subst h0
      obtain ⟨hol, hod, hov⟩ := HI.out
      rw [List.drop_zero, valL_limbs] at hov
      obtain ⟨hq, hm⟩ := divmod_of hov hrd
      have hrow' : KRow .u32 25 wr w.heap.size o := hrow
      have hol' : o.length = n := by omega
      have HT := trim_calls (some ⟨w.heap.size, 0, none⟩) n o wr hrow'.rd hod (by omega) (by omega)
      rw [hq, hol'] at HT
      have HRD : Hid (KRow .u32 25 wr w.heap.size (limbs (a / d))) := by
        have h := hrow'.take (limbs (valL o)).length
        rw [(take_limbs hod).1, hq] at h
        exact h
      have HLE : Hid ((limbs (a / d)).length ≤ n) := by
        have := (take_limbs hod).2
        show _ ≤ _
        rw [← hq]; omega
      have HM : Hid (r = a % d) := hm
      have HTT := Lib.hid HT
      clear hov hq hm hol' hol hod HT hrow hrow'
      go_wp2_with fail
      refine HTT.out.mono ?_
      rintro e w1 ⟨rfl, rfl⟩
      go_wp2_with fail
      go_ret2
      exact ⟨_, n, ret_sl_int rfl (by rw [HM.out]), HLE.out, HRD.out, hbel⟩
    · obtain ⟨j, rfl⟩ : ∃ j, k = j + 1 := ⟨k - 1, by omega⟩
      have hjl : j < (limbs a).length := by rw [← HN.out]; omega
      obtain ⟨b, off, rfl, hb, hcell⟩ := (HR.out.below hbel).at_ (getElem?_getD hjl)
      obtain ⟨x, hx⟩ : ∃ x, x = (limbs a).getD j 0 := ⟨_, rfl⟩
      have hxl : x < 4294967296 := by rw [hx]; exact (limbs_dig a).getD j
      rw [← hx] at hcell
      have hho := hrow.getD (j := j) (by rw [List.length_append, List.length_replicate]; omega)
      rw [low_getD] at hho
      have hhf := hrow.frozen j
      obtain ⟨t, ht⟩ : ∃ t, t = r * 4294967296 + x := ⟨_, rfl⟩
      have htb : t < 18446744073709551616 := by omega
      have hor : bits .or .u64 ((r : Int) * 4294967296) (x : Int) = (t : Int) := by
        have := or_u64' x (r * 4294967296) 32 r hxl (by omega) (by omega)
        rw [ht, ← this]; simp
      obtain ⟨q, hq⟩ : ∃ q, q = t / d := ⟨_, rfl⟩
      obtain ⟨r', hr'⟩ : ∃ r', r' = t % d := ⟨_, rfl⟩
      have hql : q < 4294967296 := by rw [hq, ht]; exact div_digit hrd hxl
      have hrl : r' < d := by rw [hr']; exact Nat.mod_lt _ hd0
      have htq : (t : Int) / (d : Int) = (q : Int) := by rw [hq]; omega
      have htr : (t : Int) % (d : Int) = (r' : Int) := by rw [hr']; omega
      have HI2 : Hid ((q :: o).length = n - j ∧ Dig (q :: o) ∧ valL ((limbs a).drop j) = valL (q :: o) * d + r') := by
        obtain ⟨hol, hod, hov⟩ := HI.out
        refine ⟨by rw [List.length_cons]; omega, Dig.cons hql hod, div_step hjl hov ?_⟩
        rw [← hx, ← ht, hq, hr', Nat.mul_comm]
        exact (Nat.div_add_mod t d).symm
      have HROW := Lib.hid hrow
      have hji : ((j + 1 : Nat) : Int) - 1 = (j : Int) := by omega
      clear h0 hx ht hq hr' hrow hmk HI
      go_wp2_with fail
      go_roundw
      case measure => simp [intOf] <;> omega
      case rel => exact ⟨j, r', q :: o, by omega, by go_num, by go_num, hrl, HROW.out.setI j q rfl (low_set j q o), HI2, hbel.setCell (by simp) _⟩

theorem divideSmall_calls (A : Option Addr) (c a d : Nat) (w : World) (hr : KRd .u32 w w.heap.size A (limbs a)) (hl : (limbs a).length ≤ 1000000000) (hd0 : 0 < d) (hd1 : d < 4294967296) :
    Calls Tryd.prog 85 #[.slice A (limbs a).length c, .int .u32 d] w fun e w' => ∃ A' c', e = .returned (.tuple #[.slice A' (limbs (a / d)).length c', .int .u32 ((a % d : Nat) : Int)]) ∧ (limbs (a / d)).length ≤ c' ∧ KRd .u32 w' w'.heap.size A' (limbs (a / d)) ∧ Below w.heap.size w w' := by
  refine (divideSmall_row A c a d w hr hl hd0 hd1).mono ?_
  rintro e w1 ⟨g, c', rfl, h1, h2, h3⟩
  exact ⟨_, c', rfl, h1, h2.rd, h3⟩

set_option maxHeartbeats 2000000 in
set_option maxRecDepth 100000 in
theorem short_row (A : Option Addr) (c a d : Nat) (w : World) (hr : KRd .u32 w w.heap.size A (limbs a)) (hl : (limbs a).length ≤ 1000000000) (hd0 : 0 < d) (hd1 : d < 4294967296) :
    Calls Tryd.prog 76 #[.slice A (limbs a).length c, .int .u32 d] w fun e w' => ∃ g c', e = .returned (.tuple #[.slice (some ⟨g, 0, none⟩) (limbs (a / d)).length c', .int .u32 ((a % d : Nat) : Int)]) ∧ (limbs (a / d)).length ≤ c' ∧ KRow .u32 25 w' g (limbs (a / d)) ∧ Below w.heap.size w w' := by
  obtain ⟨n, hn⟩ : ∃ n, n = (limbs a).length := ⟨_, rfl⟩
  rw [← hn]
  have hmk := run_make_row' (P := Tryd.prog) 116 25 (.int .u32 0) 4 Tryd.underlying116 Tryd.info_u32 rfl .i64 .i64 n (by omega) (by omega)
  have HR := Lib.hid hr
  have HN := Lib.hid hn
  have hnb : n ≤ 1000000000 := by omega
  clear hr hn hl
  go_enter Tryd.func76, Tryd.ntmps76
  go_wp2_with fail
  go_loopw [7, 8] (fun rr i wr => ∃ (k r : Nat) (o : List Nat), k ≤ n ∧ i = .int .i64 ((k : Int) - 1) ∧ rr = .int .u64 (r : Int) ∧ r < d ∧ KRow .u32 25 wr w.heap.size (List.replicate k 0 ++ o) ∧ Hid (o.length = n - k ∧ Dig o ∧ valL ((limbs a).drop k) = valL o * d + r) ∧ Below w.heap.size w wr) (fun _ i _ => (intOf i + 1).toNat)
  case atStart => exact ⟨n, 0, [], Nat.le_refl _, rfl, rfl, hd0, (KRow.made _ _ _ rfl).cast (by simp), ⟨by simp, Dig.nil, by rw [HN.out, List.drop_length]; simp [valL]⟩, (Below.refl _ _).alloc (Nat.le_refl _) _⟩
  case round =>
    obtain ⟨k, r, o, hk, rfl, rfl, hrd, hrow, HI, hbel⟩ := hrel
    have hsz := hrow.lt
    by_cases h0 : k = 0
    · subst h0
      obtain ⟨hol, hod, hov⟩ := HI.out
      rw [List.drop_zero, valL_limbs] at hov
      obtain ⟨hq, hm⟩ := divmod_of hov hrd
      have hrow' : KRow .u32 25 wr w.heap.size o := hrow
      have hol' : o.length = n := by omega
      have HT := strip_calls (some ⟨w.heap.size, 0, none⟩) n o wr hrow'.rd hod (by omega) (by omega)
      rw [hq, hol'] at HT
      have HRD : Hid (KRow .u32 25 wr w.heap.size (limbs (a / d))) := by
        have h := hrow'.take (limbs (valL o)).length
        rw [(take_limbs hod).1, hq] at h
        exact h
      have HLE : Hid ((limbs (a / d)).length ≤ n) := by
        have := (take_limbs hod).2
        show _ ≤ _
        rw [← hq]; omega
      have HM : Hid (r = a % d) := hm
      have HTT := Lib.hid HT
      clear hov hq hm hol' hol hod HT hrow hrow'
      go_wp2_with fail
      refine HTT.out.mono ?_
      rintro e w1 ⟨rfl, rfl⟩
      go_wp2_with fail
      go_ret2
      exact ⟨_, n, ret_sl_int rfl (by rw [HM.out]), HLE.out, HRD.out, hbel⟩
    · obtain ⟨j, rfl⟩ : ∃ j, k = j + 1 := ⟨k - 1, by omega⟩
      have hjl : j < (limbs a).length := by rw [← HN.out]; omega
      obtain ⟨b, off, rfl, hb, hcell⟩ := (HR.out.below hbel).at_ (getElem?_getD hjl)
      obtain ⟨x, hx⟩ : ∃ x, x = (limbs a).getD j 0 := ⟨_, rfl⟩
      have hxl : x < 4294967296 := by rw [hx]; exact (limbs_dig a).getD j
      rw [← hx] at hcell
      have hho := hrow.getD (j := j) (by rw [List.length_append, List.length_replicate]; omega)
      rw [low_getD] at hho
      have hhf := hrow.frozen j
      obtain ⟨t, ht⟩ : ∃ t, t = r * 4294967296 + x := ⟨_, rfl⟩
      have htb : t < 18446744073709551616 := by omega
      have hor : bits .or .u64 ((r : Int) * 4294967296) (x : Int) = (t : Int) := by
        have := or_u64' x (r * 4294967296) 32 r hxl (by omega) (by omega)
        rw [ht, ← this]; simp
      obtain ⟨q, hq⟩ : ∃ q, q = t / d := ⟨_, rfl⟩
      obtain ⟨r', hr'⟩ : ∃ r', r' = t % d := ⟨_, rfl⟩
      have hql : q < 4294967296 := by rw [hq, ht]; exact div_digit hrd hxl
      have hrl : r' < d := by rw [hr']; exact Nat.mod_lt _ hd0
      have htq : (t : Int) / (d : Int) = (q : Int) := by rw [hq]; omega
      have htr : (t : Int) % (d : Int) = (r' : Int) := by rw [hr']; omega
      have HI2 : Hid ((q :: o).length = n - j ∧ Dig (q :: o) ∧ valL ((limbs a).drop j) = valL (q :: o) * d + r') := by
        obtain ⟨hol, hod, hov⟩ := HI.out
        refine ⟨by rw [List.length_cons]; omega, Dig.cons hql hod, div_step hjl hov ?_⟩
        rw [← hx, ← ht, hq, hr', Nat.mul_comm]
        exact (Nat.div_add_mod t d).symm
      have HROW := Lib.hid hrow
      have hji : ((j + 1 : Nat) : Int) - 1 = (j : Int) := by omega
      clear h0 hx ht hq hr' hrow hmk HI
      go_wp2_with fail
      go_roundw
      case measure => simp [intOf] <;> omega
      case rel => exact ⟨j, r', q :: o, by omega, by go_num, by go_num, hrl, HROW.out.setI j q rfl (low_set j q o), HI2, hbel.setCell (by simp) _⟩

theorem short_calls (A : Option Addr) (c a d : Nat) (w : World) (hr : KRd .u32 w w.heap.size A (limbs a)) (hl : (limbs a).length ≤ 1000000000) (hd0 : 0 < d) (hd1 : d < 4294967296) :
    Calls Tryd.prog 76 #[.slice A (limbs a).length c, .int .u32 d] w fun e w' => ∃ A' c', e = .returned (.tuple #[.slice A' (limbs (a / d)).length c', .int .u32 ((a % d : Nat) : Int)]) ∧ (limbs (a / d)).length ≤ c' ∧ KRd .u32 w' w'.heap.size A' (limbs (a / d)) ∧ Below w.heap.size w w' := by
  refine (short_row A c a d w hr hl hd0 hd1).mono ?_
  rintro e w1 ⟨g, c', rfl, h1, h2, h3⟩
  exact ⟨_, c', rfl, h1, h2.rd, h3⟩

end Go.Proofs.YtcljkdjmmolfoaaDoor

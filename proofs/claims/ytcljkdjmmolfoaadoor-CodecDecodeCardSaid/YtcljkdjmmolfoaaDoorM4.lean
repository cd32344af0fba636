/- Merged of Bits DivS Add Mul Uint Times Plus Minus CmpS. -/
import Derived.Test.YtcljkdjmmolfoaaDoorM2
import Derived.Test.YtcljkdjmmolfoaaDoorM3
import Derived.Deep.DeepCutAuto
import Derived.BigQuiet
import Derived.Deep.QuietTactic
import Derived.Lib.Bytealg
import Derived.Shelf.Strings.Search1
/- math/bits: Add32, Sub32. -/
set_option linter.unusedVariables false
set_option linter.unusedSimpArgs false
namespace Go.Proofs.YtcljkdjmmolfoaaDoor
open Go.RowKit

theorem bv_self (X : BitVec 32) : BitVec.ofInt IntKind.u32.bits (X.toNat : Int) = X := by
  apply BitVec.eq_of_toNat_eq
  rw [BitVec.toNat_ofInt]
  have := X.isLt
  show ((X.toNat : Int) % 4294967296).toNat = X.toNat
  omega

theorem bop_and (X Y : BitVec 32) : bits .and .u32 (X.toNat : Int) (Y.toNat : Int) = ((X &&& Y).toNat : Int) := by
  have h := (X &&& Y).isLt
  simp only [bits]
  rw [bv_self, bv_self]
  exact IntWalk.u32_in ((X &&& Y).toNat : Int) ⟨Int.natCast_nonneg _, by omega⟩
theorem bop_or (X Y : BitVec 32) : bits .or .u32 (X.toNat : Int) (Y.toNat : Int) = ((X ||| Y).toNat : Int) := by
  have h := (X ||| Y).isLt
  simp only [bits]
  rw [bv_self, bv_self]
  exact IntWalk.u32_in ((X ||| Y).toNat : Int) ⟨Int.natCast_nonneg _, by omega⟩
theorem bop_xor (X Y : BitVec 32) : bits .xor .u32 (X.toNat : Int) (Y.toNat : Int) = ((X ^^^ Y).toNat : Int) := by
  have h := (X ^^^ Y).isLt
  simp only [bits]
  rw [bv_self, bv_self]
  exact IntWalk.u32_in ((X ^^^ Y).toNat : Int) ⟨Int.natCast_nonneg _, by omega⟩

theorem ret_two {k1 k2 : IntKind} {a b c d : Int} (h1 : a = c) (h2 : b = d) : Ending.returned (.tuple #[.int k1 a, .int k2 b]) = .returned (.tuple #[.int k1 c, .int k2 d]) := by rw [h1, h2]

theorem bv_nat (x : Nat) (h : x < 4294967296) : (x : Int) = ((BitVec.ofNat 32 x).toNat : Int) := by
  rw [BitVec.toNat_ofNat, Nat.mod_eq_of_lt (by omega)]

theorem msb_div (X : BitVec 32) : X.toNat / 2147483648 = if X.msb then 1 else 0 := by
  have h := X.isLt
  rw [BitVec.msb_eq_decide]
  by_cases hh : 2147483648 ≤ X.toNat
  · rw [if_pos (by simpa using hh)]; omega
  · rw [if_neg (by simpa using hh)]; omega

def brw (x y b : Nat) : Nat := if x < y + b then 1 else 0

theorem sub_bits (x y b : Nat) (hx : x < 4294967296) (hy : y < 4294967296) (hb : b ≤ 1) :
    bits BinOp.or IntKind.u32 (bits BinOp.and IntKind.u32 (bits BinOp.xor IntKind.u32 IntKind.u32.max (x : Int)) (y : Int)) (bits BinOp.and IntKind.u32 (bits BinOp.xor IntKind.u32 IntKind.u32.max (bits BinOp.xor IntKind.u32 (x : Int) (y : Int))) (((x : Int) - (y : Int) - (b : Int)) % 4294967296)) / 2147483648 = ((brw x y b : Nat) : Int) := by
  have em : IntKind.u32.max = ((BitVec.allOnes 32).toNat : Int) := by decide
  obtain ⟨d, hd⟩ : ∃ d, d = (x + 8589934592 - y - b) % 4294967296 := ⟨_, rfl⟩
  have hd1 : ((x : Int) - (y : Int) - (b : Int)) % 4294967296 = (d : Int) := by omega
  have hdl : d < 4294967296 := by omega
  rw [hd1, em, bv_nat x hx, bv_nat y hy, bv_nat d hdl]
  rw [bop_xor, bop_and, bop_xor, bop_xor, bop_and, bop_or]
  have hX : (BitVec.ofNat 32 x).toNat = x := by rw [BitVec.toNat_ofNat, Nat.mod_eq_of_lt (by omega)]
  have hY : (BitVec.ofNat 32 y).toNat = y := by rw [BitVec.toNat_ofNat, Nat.mod_eq_of_lt (by omega)]
  have hD : (BitVec.ofNat 32 d).toNat = d := by rw [BitVec.toNat_ofNat, Nat.mod_eq_of_lt (by omega)]
  generalize BitVec.ofNat 32 x = X at *
  generalize BitVec.ofNat 32 y = Y at *
  generalize BitVec.ofNat 32 d = D at *
  have hh := msb_div ((BitVec.allOnes 32 ^^^ X) &&& Y ||| (BitVec.allOnes 32 ^^^ (X ^^^ Y)) &&& D)
  have e : ∀ n : Nat, ((n : Int) / 2147483648) = ((n / 2147483648 : Nat) : Int) := fun n => by omega
  rw [e, hh]
  have mx : X.msb = decide (2147483648 ≤ x) := by rw [BitVec.msb_eq_decide, hX]
  have my : Y.msb = decide (2147483648 ≤ y) := by rw [BitVec.msb_eq_decide, hY]
  have md : D.msb = decide (2147483648 ≤ d) := by rw [BitVec.msb_eq_decide, hD]
  simp only [BitVec.msb_or, BitVec.msb_and, BitVec.msb_xor, mx, my, md]
  have ma : (BitVec.allOnes 32).msb = true := by decide
  rw [ma]
  unfold brw
  by_cases h1 : 2147483648 ≤ x <;> by_cases h2 : 2147483648 ≤ y <;> by_cases h3 : 2147483648 ≤ d <;> by_cases h4 : x < y + b <;> simp [h1, h2, h3, h4] <;> omega

theorem add32_calls (x y c : Nat) (w : World) (hx : x < 4294967296) (hy : y < 4294967296) (hc : c < 4294967296) :
    Calls Tryd.prog 97 #[.int .u32 x, .int .u32 y, .int .u32 c] w fun e w' => e = .returned (.tuple #[.int .u32 (((x + y + c) % 4294967296 : Nat) : Int), .int .u32 (((x + y + c) / 4294967296 : Nat) : Int)]) ∧ w' = w := by
  have h1 : (x : Int) + (y : Int) + (c : Int) ≤ 18446744073709551615 := by omega
  have HV : Hid (Ending.returned (.tuple #[.int .u32 (((x : Int) + (y : Int) + (c : Int)) % 4294967296), .int .u32 (((x : Int) + (y : Int) + (c : Int)) / 4294967296)]) = Ending.returned (.tuple #[.int .u32 (((x + y + c) % 4294967296 : Nat) : Int), .int .u32 (((x + y + c) / 4294967296 : Nat) : Int)])) := rfl
  obtain ⟨E, hE⟩ : ∃ E, E = Ending.returned (.tuple #[.int .u32 (((x + y + c) % 4294967296 : Nat) : Int), .int .u32 (((x + y + c) / 4294967296 : Nat) : Int)]) := ⟨_, rfl⟩
  rw [← hE] at HV ⊢
  clear hE
  go_enter Tryd.func97, Tryd.ntmps97
  go_wp2_with fail
  go_ret2
  exact ⟨HV.out, rfl⟩

theorem sub32_calls (x y b : Nat) (w : World) (hx : x < 4294967296) (hy : y < 4294967296) (hb : b ≤ 1) :
    Calls Tryd.prog 96 #[.int .u32 x, .int .u32 y, .int .u32 b] w fun e w' => e = .returned (.tuple #[.int .u32 (((x + 4294967296 - y - b) % 4294967296 : Nat) : Int), .int .u32 ((brw x y b : Nat) : Int)]) ∧ w' = w := by
  obtain ⟨E, hE⟩ : ∃ E, E = Ending.returned (.tuple #[.int .u32 (((x + 4294967296 - y - b) % 4294967296 : Nat) : Int), .int .u32 ((brw x y b : Nat) : Int)]) := ⟨_, rfl⟩
  rw [← hE]
  have HE := Lib.hid hE
  have HB := Lib.hid (sub_bits x y b hx hy hb)
  have hsg : IntKind.u32.signed = false := rfl
  clear hE
  go_enter Tryd.func96, Tryd.ntmps96
  go_wp2_with fail
  go_ret2
  refine ⟨?_, rfl⟩
  rw [HE.out]
  exact ret_two (by omega) HB.out

end Go.Proofs.YtcljkdjmmolfoaaDoor

/- divideSmall, short: a number divided by one digit. -/
set_option linter.unusedVariables false
set_option linter.unusedSimpArgs false
namespace Go.Proofs.YtcljkdjmmolfoaaDoor
open Go.RowKit

theorem low_set (j q : Nat) (o : List Nat) : (List.replicate (j + 1) 0 ++ o).set j q = List.replicate j 0 ++ q :: o := by
  have e2 : j = (List.replicate j 0).length := by simp
  rw [List.replicate_succ', List.append_assoc]
  conv => lhs; arg 2; rw [e2]
  rw [List.set_append_right _ _ (Nat.le_refl _)]
  simp

theorem low_getD (j : Nat) (o : List Nat) : (List.replicate (j + 1) 0 ++ o).getD j 0 = 0 := by
  rw [List.getD_eq_getElem?_getD, List.getElem?_append_left (by simp)]
  simp

theorem divmod_of {a q d r : Nat} (h : a = q * d + r) (hr : r < d) : q = a / d ∧ r = a % d := by
  subst h
  have hd : 0 < d := by omega
  constructor
  · rw [Nat.mul_comm, Nat.mul_add_div hd, Nat.div_eq_of_lt hr]; omega
  · rw [Nat.mul_comm, Nat.mul_add_mod, Nat.mod_eq_of_lt hr]

theorem ret_sl_int {A : Option Addr} {n m c : Nat} {k : IntKind} {a b : Int} (h : n = m) (h2 : a = b) : Ending.returned (.tuple #[.slice A n c, .int k a]) = .returned (.tuple #[.slice A m c, .int k b]) := by rw [h, h2]
theorem ret_sl {A : Option Addr} {n m c : Nat} (h : n = m) : Ending.returned (.slice A n c) = .returned (.slice A m c) := by rw [h]

set_option maxHeartbeats 2000000 in
set_option maxRecDepth 100000 in
theorem divideSmall_row (A : Option Addr) (c a d : Nat) (w : World) (hr : KRd .u32 w w.heap.size A (limbs a)) (hl : (limbs a).length ≤ 1000000000) (hd0 : 0 < d) (hd1 : d < 4294967296) :
    Calls Tryd.prog 85 #[.slice A (limbs a).length c, .int .u32 d] w fun e w' => ∃ g c', e = .returned (.tuple #[.slice (some ⟨g, 0, none⟩) (limbs (a / d)).length c', .int .u32 ((a % d : Nat) : Int)]) ∧ (limbs (a / d)).length ≤ c' ∧ KRow .u32 25 w' g (limbs (a / d)) ∧ Below w.heap.size w w' := by
  obtain ⟨n, hn⟩ : ∃ n, n = (limbs a).length := ⟨_, rfl⟩
  rw [← hn]
  have hmk := run_make_row' (P := Tryd.prog) 128 25 (.int .u32 0) 4 Tryd.underlying128 Tryd.info_u32 rfl .i64 .i64 n (by omega) (by omega)
  have HR := Lib.hid hr
  have HN := Lib.hid hn
  have hnb : n ≤ 1000000000 := by omega
  clear hr hn hl
  go_enter Tryd.func85, Tryd.ntmps85
  go_wp2_with fail
  go_loopw [7, 8] (fun rr i wr => ∃ (k r : Nat) (o : List Nat), k ≤ n ∧ i = .int .i64 ((k : Int) - 1) ∧ rr = .int .u64 (r : Int) ∧ r < d ∧ KRow .u32 25 wr w.heap.size (List.replicate k 0 ++ o) ∧ Hid (o.length = n - k ∧ Dig o ∧ valL ((limbs a).drop k) = valL o * d + r) ∧ Below w.heap.size w wr) (fun _ i _ => (intOf i + 1).toNat)
  case atStart => exact ⟨n, 0, [], Nat.le_refl _, rfl, rfl, hd0, (KRow.made _ _ _ rfl).cast (by simp), ⟨by simp, Dig.nil, by rw [HN.out, List.drop_length]; simp [valL]⟩, (Below.refl _ _).alloc (Nat.le_refl _) _⟩
  case round =>
    obtain ⟨k, r, o, hk, rfl, rfl, hrd, hrow, HI, hbel⟩ := hrel
    have hsz := hrow.lt
    by_cases h0 : k = 0
    · subst h0
      obtain ⟨hol, hod, hov⟩ := HI.out
      rw [List.drop_zero, valL_limbs] at hov
      obtain ⟨hq, hm⟩ := divmod_of hov hrd
      have hrow' : KRow .u32 25 wr w.heap.size o := hrow
      have hol' : o.length = n := by omega
      have HT := trim_calls (some ⟨w.heap.size, 0, none⟩) n o wr hrow'.rd hod (by omega) (by omega)
      rw [hq, hol'] at HT
      have HRD : Hid (KRow .u32 25 wr w.heap.size (limbs (a / d))) := by
        have h := hrow'.take (limbs (valL o)).length
        rw [(take_limbs hod).1, hq] at h
        exact h
      have HLE : Hid ((limbs (a / d)).length ≤ n) := by
        have := (take_limbs hod).2
        show _ ≤ _
        rw [← hq]; omega
      have HM : Hid (r = a % d) := hm
      have HTT := Lib.hid HT
      clear hov hq hm hol' hol hod HT hrow hrow'
      go_wp2_with fail
      refine HTT.out.mono ?_
      rintro e w1 ⟨rfl, rfl⟩
      go_wp2_with fail
      go_ret2
      exact ⟨_, n, ret_sl_int rfl (by rw [HM.out]), HLE.out, HRD.out, hbel⟩
    · obtain ⟨j, rfl⟩ : ∃ j, k = j + 1 := ⟨k - 1, by omega⟩
      have hjl : j < (limbs a).length := by rw [← HN.out]; omega
      obtain ⟨b, off, rfl, hb, hcell⟩ := (HR.out.below hbel).at_ (getElem?_getD hjl)
      obtain ⟨x, hx⟩ : ∃ x, x = (limbs a).getD j 0 := ⟨_, rfl⟩
      have hxl : x < 4294967296 := by rw [hx]; exact (limbs_dig a).getD j
      rw [← hx] at hcell
      have hho := hrow.getD (j := j) (by rw [List.length_append, List.length_replicate]; omega)
      rw [low_getD] at hho
      have hhf := hrow.frozen j
      obtain ⟨t, ht⟩ : ∃ t, t = r * 4294967296 + x := ⟨_, rfl⟩
      have htb : t < 18446744073709551616 := by omega
      have hor : bits .or .u64 ((r : Int) * 4294967296) (x : Int) = (t : Int) := by
        have := or_u64' x (r * 4294967296) 32 r hxl (by omega) (by omega)
        rw [ht, ← this]; simp
      obtain ⟨q, hq⟩ : ∃ q, q = t / d := ⟨_, rfl⟩
      obtain ⟨r', hr'⟩ : ∃ r', r' = t % d := ⟨_, rfl⟩
      have hql : q < 4294967296 := by rw [hq, ht]; exact div_digit hrd hxl
      have hrl : r' < d := by rw [hr']; exact Nat.mod_lt _ hd0
      have htq : (t : Int) / (d : Int) = (q : Int) := by rw [hq]; omega
      have htr : (t : Int) % (d : Int) = (r' : Int) := by rw [hr']; omega
      have HI2 : Hid ((q :: o).length = n - j ∧ Dig (q :: o) ∧ valL ((limbs a).drop j) = valL (q :: o) * d + r') := by
        obtain ⟨hol, hod, hov⟩ := HI.out
        refine ⟨by rw [List.length_cons]; omega, Dig.cons hql hod, div_step hjl hov ?_⟩
        rw [← hx, ← ht, hq, hr', Nat.mul_comm]
        exact (Nat.div_add_mod t d).symm
      have HROW := Lib.hid hrow
      have hji : ((j + 1 : Nat) : Int) - 1 = (j : Int) := by omega
      clear h0 hx ht hq hr' hrow hmk HI
      go_wp2_with fail
      go_roundw
      case measure => simp [intOf] <;> omega
      case rel => exact ⟨j, r', q :: o, by omega, by go_num, by go_num, hrl, HROW.out.setI j q rfl (low_set j q o), HI2, hbel.setCell (by simp) _⟩

theorem divideSmall_calls (A : Option Addr) (c a d : Nat) (w : World) (hr : KRd .u32 w w.heap.size A (limbs a)) (hl : (limbs a).length ≤ 1000000000) (hd0 : 0 < d) (hd1 : d < 4294967296) :
    Calls Tryd.prog 85 #[.slice A (limbs a).length c, .int .u32 d] w fun e w' => ∃ A' c', e = .returned (.tuple #[.slice A' (limbs (a / d)).length c', .int .u32 ((a % d : Nat) : Int)]) ∧ (limbs (a / d)).length ≤ c' ∧ KRd .u32 w' w'.heap.size A' (limbs (a / d)) ∧ Below w.heap.size w w' := by
  refine (divideSmall_row A c a d w hr hl hd0 hd1).mono ?_
  rintro e w1 ⟨g, c', rfl, h1, h2, h3⟩
  exact ⟨_, c', rfl, h1, h2.rd, h3⟩

set_option maxHeartbeats 2000000 in
set_option maxRecDepth 100000 in
theorem short_row (A : Option Addr) (c a d : Nat) (w : World) (hr : KRd .u32 w w.heap.size A (limbs a)) (hl : (limbs a).length ≤ 1000000000) (hd0 : 0 < d) (hd1 : d < 4294967296) :
    Calls Tryd.prog 76 #[.slice A (limbs a).length c, .int .u32 d] w fun e w' => ∃ g c', e = .returned (.tuple #[.slice (some ⟨g, 0, none⟩) (limbs (a / d)).length c', .int .u32 ((a % d : Nat) : Int)]) ∧ (limbs (a / d)).length ≤ c' ∧ KRow .u32 25 w' g (limbs (a / d)) ∧ Below w.heap.size w w' := by
  obtain ⟨n, hn⟩ : ∃ n, n = (limbs a).length := ⟨_, rfl⟩
  rw [← hn]
  have hmk := run_make_row' (P := Tryd.prog) 116 25 (.int .u32 0) 4 Tryd.underlying116 Tryd.info_u32 rfl .i64 .i64 n (by omega) (by omega)
  have HR := Lib.hid hr
  have HN := Lib.hid hn
  have hnb : n ≤ 1000000000 := by omega
  clear hr hn hl
  go_enter Tryd.func76, Tryd.ntmps76
  go_wp2_with fail
  go_loopw [7, 8] (fun rr i wr => ∃ (k r : Nat) (o : List Nat), k ≤ n ∧ i = .int .i64 ((k : Int) - 1) ∧ rr = .int .u64 (r : Int) ∧ r < d ∧ KRow .u32 25 wr w.heap.size (List.replicate k 0 ++ o) ∧ Hid (o.length = n - k ∧ Dig o ∧ valL ((limbs a).drop k) = valL o * d + r) ∧ Below w.heap.size w wr) (fun _ i _ => (intOf i + 1).toNat)
  case atStart => exact ⟨n, 0, [], Nat.le_refl _, rfl, rfl, hd0, (KRow.made _ _ _ rfl).cast (by simp), ⟨by simp, Dig.nil, by rw [HN.out, List.drop_length]; simp [valL]⟩, (Below.refl _ _).alloc (Nat.le_refl _) _⟩
  case round =>
    obtain ⟨k, r, o, hk, rfl, rfl, hrd, hrow, HI, hbel⟩ := hrel
    have hsz := hrow.lt
    by_cases h0 : k = 0
    · subst h0
      obtain ⟨hol, hod, hov⟩ := HI.out
      rw [List.drop_zero, valL_limbs] at hov
      obtain ⟨hq, hm⟩ := divmod_of hov hrd
      have hrow' : KRow .u32 25 wr w.heap.size o := hrow
      have hol' : o.length = n := by omega
      have HT := strip_calls (some ⟨w.heap.size, 0, none⟩) n o wr hrow'.rd hod (by omega) (by omega)
      rw [hq, hol'] at HT
      have HRD : Hid (KRow .u32 25 wr w.heap.size (limbs (a / d))) := by
        have h := hrow'.take (limbs (valL o)).length
        rw [(take_limbs hod).1, hq] at h
        exact h
      have HLE : Hid ((limbs (a / d)).length ≤ n) := by
        have := (take_limbs hod).2
        show _ ≤ _
        rw [← hq]; omega
      have HM : Hid (r = a % d) := hm
      have HTT := Lib.hid HT
      clear hov hq hm hol' hol hod HT hrow hrow'
      go_wp2_with fail
      refine HTT.out.mono ?_
      rintro e w1 ⟨rfl, rfl⟩
      go_wp2_with fail
      go_ret2
      exact ⟨_, n, ret_sl_int rfl (by rw [HM.out]), HLE.out, HRD.out, hbel⟩
    · obtain ⟨j, rfl⟩ : ∃ j, k = j + 1 := ⟨k - 1, by omega⟩
      have hjl : j < (limbs a).length := by rw [← HN.out]; omega
      obtain ⟨b, off, rfl, hb, hcell⟩ := (HR.out.below hbel).at_ (getElem?_getD hjl)
      obtain ⟨x, hx⟩ : ∃ x, x = (limbs a).getD j 0 := ⟨_, rfl⟩
      have hxl : x < 4294967296 := by rw [hx]; exact (limbs_dig a).getD j
      rw [← hx] at hcell
      have hho := hrow.getD (j := j) (by rw [List.length_append, List.length_replicate]; omega)
      rw [low_getD] at hho
      have hhf := hrow.frozen j
      obtain ⟨t, ht⟩ : ∃ t, t = r * 4294967296 + x := ⟨_, rfl⟩
      have htb : t < 18446744073709551616 := by omega
      have hor : bits .or .u64 ((r : Int) * 4294967296) (x : Int) = (t : Int) := by
        have := or_u64' x (r * 4294967296) 32 r hxl (by omega) (by omega)
        rw [ht, ← this]; simp
      obtain ⟨q, hq⟩ : ∃ q, q = t / d := ⟨_, rfl⟩
      obtain ⟨r', hr'⟩ : ∃ r', r' = t % d := ⟨_, rfl⟩
      have hql : q < 4294967296 := by rw [hq, ht]; exact div_digit hrd hxl
      have hrl : r' < d := by rw [hr']; exact Nat.mod_lt _ hd0
      have htq : (t : Int) / (d : Int) = (q : Int) := by rw [hq]; omega
      have htr : (t : Int) % (d : Int) = (r' : Int) := by rw [hr']; omega
      have HI2 : Hid ((q :: o).length = n - j ∧ Dig (q :: o) ∧ valL ((limbs a).drop j) = valL (q :: o) * d + r') := by
        obtain ⟨hol, hod, hov⟩ := HI.out
        refine ⟨by rw [List.length_cons]; omega, Dig.cons hql hod, div_step hjl hov ?_⟩
        rw [← hx, ← ht, hq, hr', Nat.mul_comm]
        exact (Nat.div_add_mod t d).symm
      have HROW := Lib.hid hrow
      have hji : ((j + 1 : Nat) : Int) - 1 = (j : Int) := by omega
      clear h0 hx ht hq hr' hrow hmk HI
      go_wp2_with fail
      go_roundw
      case measure => simp [intOf] <;> omega
      case rel => exact ⟨j, r', q :: o, by omega, by go_num, by go_num, hrl, HROW.out.setI j q rfl (low_set j q o), HI2, hbel.setCell (by simp) _⟩

theorem short_calls (A : Option Addr) (c a d : Nat) (w : World) (hr : KRd .u32 w w.heap.size A (limbs a)) (hl : (limbs a).length ≤ 1000000000) (hd0 : 0 < d) (hd1 : d < 4294967296) :
    Calls Tryd.prog 76 #[.slice A (limbs a).length c, .int .u32 d] w fun e w' => ∃ A' c', e = .returned (.tuple #[.slice A' (limbs (a / d)).length c', .int .u32 ((a % d : Nat) : Int)]) ∧ (limbs (a / d)).length ≤ c' ∧ KRd .u32 w' w'.heap.size A' (limbs (a / d)) ∧ Below w.heap.size w w' := by
  refine (short_row A c a d w hr hl hd0 hd1).mono ?_
  rintro e w1 ⟨g, c', rfl, h1, h2, h3⟩
  exact ⟨_, c', rfl, h1, h2.rd, h3⟩

end Go.Proofs.YtcljkdjmmolfoaaDoor

/- natural.Add, subtract, Subtract. -/
set_option linter.unusedVariables false
set_option linter.unusedSimpArgs false
namespace Go.Proofs.YtcljkdjmmolfoaaDoor
open Go.RowKit

theorem hi_set (o : List Nat) (m d : Nat) : (o ++ List.replicate (m + 1) 0).set o.length d = (o ++ [d]) ++ List.replicate m 0 := by
  rw [List.set_append_right _ _ (Nat.le_refl _)]
  simp [List.replicate_succ]

theorem hi_getD (o : List Nat) (m : Nat) : (o ++ List.replicate (m + 1) 0).getD o.length 0 = 0 := by
  rw [List.getD_eq_getElem?_getD, List.getElem?_append_right (Nat.le_refl _)]
  simp

theorem add_carry {x y c : Nat} (hx : x < 4294967296) (hy : y < 4294967296) (hc : c ≤ 1) : (x + y + c) / 4294967296 ≤ 1 := by omega

/-- the loop of Add and what stands behind it: x is not shorter than y -/
theorem add_end {o : List Nat} {n c a b : Nat} (hol : o.length = n) (hn : (limbs a).length = n) (hb : (limbs b).length ≤ n) (h : valL o + 4294967296 ^ n * c = valL ((limbs a).take n) + valL ((limbs b).take n)) : valL (o ++ [c]) = a + b := by
  rw [valL_snoc, hol, h, List.take_of_length_le (by omega), List.take_of_length_le (by omega), valL_limbs, valL_limbs]

theorem snum_len {s : ByteArray} (hs : s.size ≤ 1000000000) : (limbs (snum s)).length ≤ 1000000000 := by
  rw [limbs_len_canon]; have := canon_num_len s.data.toList; rw [← Lib.size_eq] at this; show ((canon (num s.data.toList)).length + 3) / 4 ≤ _; omega

end Go.Proofs.YtcljkdjmmolfoaaDoor

/- natural.Multiply; the definition's times. -/
set_option linter.unusedVariables false
set_option linter.unusedSimpArgs false
namespace Go.Proofs.YtcljkdjmmolfoaaDoor
open Go.RowKit

/-- a product while it is made: what has been added stands, the rest is nought -/
structure Pr (os : List Nat) (n i ly x y : Nat) : Prop where
  len : os.length = n
  dig : Dig os
  val : valL os = valL ((limbs x).take i) * y
  zero : ∀ j, i + ly ≤ j → os.getD j 0 = 0

/-- in the inner loop -/
structure Pi (qs os : List Nat) (n i ly k c u y : Nat) : Prop where
  len : qs.length = n
  dig : Dig qs
  val : valL qs + 4294967296 ^ (i + k) * c = valL os + 4294967296 ^ i * (u * valL ((limbs y).take k))
  zero : ∀ j, i + ly ≤ j → qs.getD j 0 = 0

theorem getD_set_ne (l : List Nat) (i j v : Nat) (h : i ≠ j) : (l.set i v).getD j 0 = l.getD j 0 := by
  rw [List.getD_eq_getElem?_getD, List.getElem?_set_ne h, ← List.getD_eq_getElem?_getD]

theorem Pi.start {os : List Nat} {n i ly x y u : Nat} (h : Pr os n i ly x y) : Pi os os n i ly 0 0 u y := ⟨h.len, h.dig, by simp [valL], h.zero⟩

theorem Pi.step {qs os : List Nat} {n i ly k c u y lo c' : Nat} (h : Pi qs os n i ly k c u y) (hk : k < ly) (hn : i + ly < n) (hlo : lo < 4294967296) (e : lo + 4294967296 * c' = u * (limbs y).getD k 0 + qs.getD (i + k) 0 + c) : Pi (qs.set (i + k) lo) os n i ly (k + 1) c' u y :=
  ⟨by simp [h.len], h.dig.set _ hlo, mul_step h.val (by rw [h.len]; omega) e, fun j hj => by rw [getD_set_ne _ _ _ _ (by omega)]; exact h.zero j hj⟩

theorem Pi.last {qs os : List Nat} {n i ly c x y : Nat} (hly : (limbs y).length = ly) (hlx : i < (limbs x).length) (h0 : Pr os n i ly x y) (h : Pi qs os n i ly ly c ((limbs x).getD i 0) y) (hn : i + ly < n) (hc : c < 4294967296) : Pr (qs.set (i + ly) c) n (i + 1) ly x y := by
  refine ⟨by simp [h.len], h.dig.set _ hc, ?_, fun j hj => ?_⟩
  · have hv := h.val
    rw [← hly] at hv
    have := mul_last hv (by rw [h.len, hly]; exact hn) (h.zero _ (by omega))
    rw [valL_limbs] at this
    rw [← hly, this, h0.val, valL_take_succ']
    grind
  · rw [getD_set_ne _ _ _ _ (by omega)]; exact h.zero j (by omega)

theorem Pr.end_ {os : List Nat} {n i ly x y : Nat} (h : Pr os n i ly x y) (hi : i = (limbs x).length) : valL os = x * y := by
  rw [h.val, List.take_of_length_le (by omega), valL_limbs]

end Go.Proofs.YtcljkdjmmolfoaaDoor

/- FromUint, Uint of both; Compare, Subtract; the definition's NatCompare. -/
set_option linter.unusedVariables false
set_option linter.unusedSimpArgs false
namespace Go.Proofs.YtcljkdjmmolfoaaDoor
open Go.RowKit

theorem two_val {u : Nat} (h : u < 18446744073709551616) : valL [u % 4294967296, u / 4294967296] = u ∧ Dig [u % 4294967296, u / 4294967296] := by
  refine ⟨by simp only [valL]; omega, Dig.cons (by omega) (Dig.one (by omega))⟩

theorem krd_new2 (w : World) (a b : Nat) (T : TypeId) : KRd .u32 (w.alloc (.cells #[.int .u32 (a : Int), .int .u32 (b : Int)] T)) (w.alloc (.cells #[.int .u32 (a : Int), .int .u32 (b : Int)] T)).heap.size (some ⟨w.heap.size, 0, none⟩) [a, b] := by
  refine KRd.mk_ (by simp) fun j x hj => ?_
  have h := rd_new_cells w [.int .u32 (a : Int), .int .u32 (b : Int)] T w.heap.size rfl j (.int .u32 (x : Int)) (by
    rcases j with _ | _ | j
    · simp at hj; simp [hj]
    · simp at hj; simp [hj]
    · simp at hj)
  rw [Addr.add_lit] at h
  exact h

set_option maxHeartbeats 1000000 in
set_option maxRecDepth 100000 in
theorem refFromUint_calls (u : Nat) (w : World) (hu : u < 18446744073709551616) :
    Calls Tryd.prog 69 #[.int .u64 u] w fun e w' => e = .returned (.string (ncan u)) ∧ Below w.heap.size w w' := by
  obtain ⟨a, ha⟩ : ∃ a, a = u % 4294967296 := ⟨_, rfl⟩
  obtain ⟨b, hb⟩ : ∃ b, b = u / 4294967296 := ⟨_, rfl⟩
  obtain ⟨h1, h2⟩ := two_val hu
  rw [← ha, ← hb] at h1 h2
  have HT := Lib.hid (textRef_calls (some ⟨w.heap.size, 0, none⟩) 2 [a, b] _ (krd_new2 w a b 25) h2 (by simp) (by simp))
  rw [h1] at HT
  have u1 : IntKind.u32.wrap (u : Int) = (a : Int) := by rw [IntKind.wrap_u32]; omega
  have u2 : (u : Int) % 4294967296 = (a : Int) := by omega
  have u3 : (u : Int) / 4294967296 = (b : Int) := by omega
  have hbl : b < 4294967296 := by omega
  clear ha hb h1 h2 hu
  go_enter Tryd.func69, Tryd.ntmps69
  go_wp2_with fail
  refine HT.out.mono ?_
  rintro e w1 ⟨rfl, hb1⟩
  have hba := ((Below.refl _ _).alloc (Nat.le_refl _) (.cells #[.int .u32 (a : Int), .int .u32 (b : Int)] 25)).trans (hb1.mono (by simp))
  clear hb1
  go_wp2_with fail
  go_ret
  exact ⟨rfl, hba⟩

/-- what Uint answers -/
def uintV (n : Nat) : Nat := if n < 18446744073709551616 then n else 0
def uintOk (n : Nat) : Bool := decide (n < 18446744073709551616)

theorem len8 {n : Nat} : (canon n).length ≤ 8 ↔ n < 18446744073709551616 := by
  constructor
  · intro h
    have h1 := num_lt (canon n)
    rw [num_canon] at h1
    have h2 : 256 ^ (canon n).length ≤ 256 ^ 8 := Nat.pow_le_pow_right (by omega) h
    omega
  · intro h
    exact canon_len_le (k := 8) (by omega)

theorem num_take_succ (l : List UInt8) (k : Nat) (h : k < l.length) : num (l.take (k + 1)) = num (l.take k) * 256 + (l[k]).toNat := by
  rw [List.take_succ_eq_append_getElem h, num_snoc]

theorem ret_u_b {a b : Int} {p q : Bool} (h : a = b) (h2 : p = q) : Ending.returned (.tuple #[.int .u64 a, .bool p]) = .returned (.tuple #[.int .u64 b, .bool q]) := by rw [h, h2]

theorem num_take_bd (l : List UInt8) (k : Nat) (h : l.length ≤ 8) (hk : k < l.length) : num (l.take k) < 72057594037927936 := by
  have h1 := num_lt (l.take k)
  rw [List.length_take_of_le (by omega)] at h1
  have h2 : 256 ^ k ≤ 256 ^ 7 := Nat.pow_le_pow_right (by omega) (by omega)
  omega

end Go.Proofs.YtcljkdjmmolfoaaDoor

/- the definition's times. -/
set_option linter.unusedVariables false
set_option linter.unusedSimpArgs false
namespace Go.Proofs.YtcljkdjmmolfoaaDoor
open Go.RowKit

end Go.Proofs.YtcljkdjmmolfoaaDoor

/- the definition's plus, minus. -/
set_option linter.unusedVariables false
set_option linter.unusedSimpArgs false
namespace Go.Proofs.YtcljkdjmmolfoaaDoor
open Go.RowKit

/-- what plus answers: digits of a sum, perhaps with a nought at the head -/
structure Su (os : List Nat) (k c x y : Nat) : Prop where
  len : os.length = k
  dig : Dig os
  val : valL os + 4294967296 ^ k * c = valL ((limbs x).take k) + valL ((limbs y).take k)
  top : k = 0 ∨ 4294967296 ^ (k - 1) ≤ x + y

theorem su_top {os : List Nat} {k c x y : Nat} (h : Su os k c x y) (hend : k < (limbs x).length ∨ k < (limbs y).length ∨ 0 < c) : 4294967296 ^ k ≤ x + y := by
  by_cases h1 : k < (limbs x).length
  · have hx : x ≠ 0 := by rintro rfl; rw [limbs_zero] at h1; simp at h1
    have := pow_le_limbs hx
    have := Nat.pow_le_pow_right (show 0 < 4294967296 by decide) (show k ≤ (limbs x).length - 1 by omega)
    omega
  · by_cases h2 : k < (limbs y).length
    · have hy : y ≠ 0 := by rintro rfl; rw [limbs_zero] at h2; simp at h2
      have := pow_le_limbs hy
      have := Nat.pow_le_pow_right (show 0 < 4294967296 by decide) (show k ≤ (limbs y).length - 1 by omega)
      omega
    · have hc : 1 ≤ c := by omega
      have hv := h.val
      rw [List.take_of_length_le (by omega), List.take_of_length_le (by omega), valL_limbs, valL_limbs] at hv
      have := Nat.mul_le_mul_left (4294967296 ^ k) hc
      omega

theorem su_limbs {os : List Nat} {k n : Nat} (hd : Dig os) (hv : valL os = n) (hl : os.length = k) (ht : k = 0 ∨ 4294967296 ^ (k - 1) ≤ n) : os = limbs n := by
  have h1 := (take_limbs hd).1
  have h2 := (take_limbs hd).2
  rw [hv] at h1 h2
  have h3 : (limbs n).length = os.length := by
    rcases ht with h | h
    · omega
    · rcases Nat.lt_or_ge (limbs n).length os.length with h4 | h4
      · have h5 := lt_pow_limbs n
        have := Nat.pow_le_pow_right (show 0 < 4294967296 by decide) (show (limbs n).length ≤ k - 1 by omega)
        omega
      · omega
  rw [h3, List.take_of_length_le (Nat.le_refl _)] at h1
  exact h1

end Go.Proofs.YtcljkdjmmolfoaaDoor

/- the definition's minus. -/
set_option linter.unusedVariables false
set_option linter.unusedSimpArgs false
namespace Go.Proofs.YtcljkdjmmolfoaaDoor
open Go.RowKit

end Go.Proofs.YtcljkdjmmolfoaaDoor

/- natural.Compare (strings.Compare), Subtract. -/
set_option linter.unusedVariables false
set_option linter.unusedSimpArgs false
namespace Go.Proofs.YtcljkdjmmolfoaaDoor
open Go.RowKit

/-- strings of the same length compare as their numbers -/
theorem cmp_num : ∀ (a b : List UInt8), a.length = b.length → Lib.compareBytes a b = cmpN (num a) (num b)
  | [], [], _ => rfl
  | [], _ :: _, h => by simp at h
  | _ :: _, [], h => by simp at h
  | x :: a, y :: b, h => by
    have hl : a.length = b.length := by simpa using h
    have ih := cmp_num a b hl
    have ha := num_lt a
    have hb := num_lt b
    rw [Lib.compareBytes, num_cons, num_cons, ← hl]
    rw [hl.symm] at hb
    generalize 256 ^ a.length = P at *
    have hx : ∀ u v : UInt8, u < v ↔ u.toNat < v.toNat := fun u v => UInt8.lt_iff_toNat_lt
    by_cases h1 : x < y
    · rw [if_pos h1]
      have h2 := (hx x y).1 h1
      have h3 : P * (x.toNat + 1) ≤ P * y.toNat := Nat.mul_le_mul_left _ h2
      rw [Nat.mul_add] at h3
      unfold cmpN; rw [if_pos (by omega)]
    · rw [if_neg h1]
      by_cases h2 : y < x
      · rw [if_pos h2]
        have h3 := (hx y x).1 h2
        have h4 : P * (y.toNat + 1) ≤ P * x.toNat := Nat.mul_le_mul_left _ h3
        rw [Nat.mul_add] at h4
        unfold cmpN; rw [if_neg (by omega), if_pos (by omega)]
      · rw [if_neg h2, ih]
        have h3 : x.toNat = y.toNat := by
          have := mt (hx x y).2 h1
          have := mt (hx y x).2 h2
          omega
        rw [h3]
        simp only [cmpN, Nat.add_lt_add_iff_right]

theorem cmp_canon_len {a b : Nat} (h : (canon a).length < (canon b).length) : a < b := by
  have hb : b ≠ 0 := by rintro rfl; rw [canon_zero] at h; simp at h
  have h1 := num_lt (canon a)
  rw [num_canon] at h1
  have h2 := pow_le_canon hb
  have h3 : 256 ^ (canon a).length ≤ 256 ^ ((canon b).length - 1) := Nat.pow_le_pow_right (by omega) (by omega)
  omega

/-- what Subtract answers -/
def SubAns (a b : Nat) (w : World) (e : Ending) (w' : World) : Prop :=
  e = .returned (if a < b then .tuple #[.string ⟨#[]⟩, .bool false] else .tuple #[.string (ncan (a - b)), .bool true]) ∧ Below w.heap.size w w'

theorem snum_len8' {s : ByteArray} (hs : s.size ≤ 100000000) : (limbs (snum s)).length ≤ 100000000 := by
  rw [limbs_len_canon]; have := canon_num_len s.data.toList; rw [← Lib.size_eq] at this; show ((canon (num s.data.toList)).length + 3) / 4 ≤ _; omega
theorem limbs_mono' {a b : Nat} (h : a ≤ b) : (limbs a).length ≤ (limbs b).length := by
  rcases Nat.lt_or_ge (limbs b).length (limbs a).length with h2 | h2
  · have := lt_of_len h2; omega
  · exact h2

end Go.Proofs.YtcljkdjmmolfoaaDoor

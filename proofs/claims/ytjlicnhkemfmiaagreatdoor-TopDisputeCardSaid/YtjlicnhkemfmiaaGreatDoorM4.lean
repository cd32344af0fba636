/- Merged of Bits DivS Add Mul Uint Times Plus Minus CmpS. -/
import Derived.Test.YtjlicnhkemfmiaaGreatDoorM2
import Derived.Test.YtjlicnhkemfmiaaGreatDoorM3
import Derived.Deep.DeepCutAuto
import Derived.BigQuiet
import Derived.Deep.QuietTactic
import Derived.Lib.Bytealg
import Derived.Test.YtjlicnhkemfmiaaGreatDoorSq
import Derived.Shelf.Strings.Search1
/- math/bits: Add32, Sub32. -/
set_option linter.unusedVariables false
set_option linter.unusedSimpArgs false
namespace Go.Proofs.YtjlicnhkemfmiaaGreatDoor
open Go.RowKit

theorem bv_self (X : BitVec 32) : BitVec.ofInt IntKind.u32.bits (X.toNat : Int) = X := by
 apply BitVec.eq_of_toNat_eq
 rw [BitVec.toNat_ofInt]
 have := X.isLt
 show ((X.toNat : Int) % 4294967296).toNat = X.toNat
 omega

theorem bop_and (X Y : BitVec 32) : bits .and .u32 (X.toNat : Int) (Y.toNat : Int) = ((X &&& Y).toNat : Int) := by
 have h := (X &&& Y).isLt
 simp only [bits]
 rw [bv_self, bv_self]
 exact IntWalk.u32_in ((X &&& Y).toNat : Int) ⟨Int.natCast_nonneg _, by omega⟩
theorem bop_or (X Y : BitVec 32) : bits .or .u32 (X.toNat : Int) (Y.toNat : Int) = ((X ||| Y).toNat : Int) := by
 have h := (X ||| Y).isLt
 simp only [bits]
 rw [bv_self, bv_self]
 exact IntWalk.u32_in ((X ||| Y).toNat : Int) ⟨Int.natCast_nonneg _, by omega⟩
theorem bop_xor (X Y : BitVec 32) : bits .xor .u32 (X.toNat : Int) (Y.toNat : Int) = ((X ^^^ Y).toNat : Int) := by
 have h := (X ^^^ Y).isLt
 simp only [bits]
 rw [bv_self, bv_self]
 exact IntWalk.u32_in ((X ^^^ Y).toNat : Int) ⟨Int.natCast_nonneg _, by omega⟩

theorem ret_two {k1 k2 : IntKind} {a b c d : Int} (h1 : a = c) (h2 : b = d) : Ending.returned (.tuple #[.int k1 a, .int k2 b]) = .returned (.tuple #[.int k1 c, .int k2 d]) := by rw [h1, h2]

theorem bv_nat (x : Nat) (h : x < 4294967296) : (x : Int) = ((BitVec.ofNat 32 x).toNat : Int) := by
 rw [BitVec.toNat_ofNat, Nat.mod_eq_of_lt (by omega)]

theorem msb_div (X : BitVec 32) : X.toNat / 2147483648 = if X.msb then 1 else 0 := by
 have h := X.isLt
 rw [BitVec.msb_eq_decide]
 by_cases hh : 2147483648 ≤ X.toNat
 ·
  rw [if_pos (by simpa using hh)]; omega
 ·
  rw [if_neg (by simpa using hh)]; omega

def brw (x y b : Nat) : Nat := if x < y + b then 1 else 0

theorem sub_bits (x y b : Nat) (hx : x < 4294967296) (hy : y < 4294967296) (hb : b ≤ 1) :
 bits BinOp.or IntKind.u32 (bits BinOp.and IntKind.u32 (bits BinOp.xor IntKind.u32 IntKind.u32.max (x : Int)) (y : Int)) (bits BinOp.and IntKind.u32 (bits BinOp.xor IntKind.u32 IntKind.u32.max (bits BinOp.xor IntKind.u32 (x : Int) (y : Int))) (((x : Int) - (y : Int) - (b : Int)) % 4294967296)) / 2147483648 = ((brw x y b : Nat) : Int) := by
 have em : IntKind.u32.max = ((BitVec.allOnes 32).toNat : Int) := by decide
 obtain ⟨d, hd⟩ : ∃ d, d = (x + 8589934592 - y - b) % 4294967296 := ⟨_, rfl⟩
 have hd1 : ((x : Int) - (y : Int) - (b : Int)) % 4294967296 = (d : Int) := by omega
 have hdl : d < 4294967296 := by omega
 rw [hd1, em, bv_nat x hx, bv_nat y hy, bv_nat d hdl]
 rw [bop_xor, bop_and, bop_xor, bop_xor, bop_and, bop_or]
 have hX : (BitVec.ofNat 32 x).toNat = x := by rw [BitVec.toNat_ofNat, Nat.mod_eq_of_lt (by omega)]
 have hY : (BitVec.ofNat 32 y).toNat = y := by rw [BitVec.toNat_ofNat, Nat.mod_eq_of_lt (by omega)]
 have hD : (BitVec.ofNat 32 d).toNat = d := by rw [BitVec.toNat_ofNat, Nat.mod_eq_of_lt (by omega)]
 generalize BitVec.ofNat 32 x = X at *
 generalize BitVec.ofNat 32 y = Y at *
 generalize BitVec.ofNat 32 d = D at *
 have hh := msb_div ((BitVec.allOnes 32 ^^^ X) &&& Y ||| (BitVec.allOnes 32 ^^^ (X ^^^ Y)) &&& D)
 have e : ∀ n : Nat, ((n : Int) / 2147483648) = ((n / 2147483648 : Nat) : Int) := fun n => by omega
 rw [e, hh]
 have mx : X.msb = decide (2147483648 ≤ x) := by rw [BitVec.msb_eq_decide, hX]
 have my : Y.msb = decide (2147483648 ≤ y) := by rw [BitVec.msb_eq_decide, hY]
 have md : D.msb = decide (2147483648 ≤ d) := by rw [BitVec.msb_eq_decide, hD]
 simp only [BitVec.msb_or, BitVec.msb_and, BitVec.msb_xor, mx, my, md]
 have ma : (BitVec.allOnes 32).msb = true := by decide
 rw [ma]
 unfold brw
 by_cases h1 : 2147483648 ≤ x <;> by_cases h2 : 2147483648 ≤ y <;> by_cases h3 : 2147483648 ≤ d <;> by_cases h4 : x < y + b <;> simp [h1, h2, h3, h4] <;> omega

theorem add32_calls (x y c : Nat) (w : World) (hx : x < 4294967296) (hy : y < 4294967296) (hc : c < 4294967296) :
 Calls Tryz.prog 93 #[.int .u32 x, .int .u32 y, .int .u32 c] w fun e w' => e = .returned (.tuple #[.int .u32 (((x + y + c) % 4294967296 : Nat) : Int), .int .u32 (((x + y + c) / 4294967296 : Nat) : Int)]) ∧ w' = w := by
 have h1 : (x : Int) + (y : Int) + (c : Int) ≤ 18446744073709551615 := by omega
 have HV : Hid (Ending.returned (.tuple #[.int .u32 (((x : Int) + (y : Int) + (c : Int)) % 4294967296), .int .u32 (((x : Int) + (y : Int) + (c : Int)) / 4294967296)]) = Ending.returned (.tuple #[.int .u32 (((x + y + c) % 4294967296 : Nat) : Int), .int .u32 (((x + y + c) / 4294967296 : Nat) : Int)])) := rfl
 obtain ⟨E, hE⟩ : ∃ E, E = Ending.returned (.tuple #[.int .u32 (((x + y + c) % 4294967296 : Nat) : Int), .int .u32 (((x + y + c) / 4294967296 : Nat) : Int)]) := ⟨_, rfl⟩
 rw [← hE] at HV ⊢
 clear hE
 go_enter Tryz.func93, Tryz.ntmps93
 go_wp2_with fail
 go_ret2
 exact ⟨HV.out, rfl⟩

theorem sub32_calls (x y b : Nat) (w : World) (hx : x < 4294967296) (hy : y < 4294967296) (hb : b ≤ 1) :
 Calls Tryz.prog 118 #[.int .u32 x, .int .u32 y, .int .u32 b] w fun e w' => e = .returned (.tuple #[.int .u32 (((x + 4294967296 - y - b) % 4294967296 : Nat) : Int), .int .u32 ((brw x y b : Nat) : Int)]) ∧ w' = w := by
 obtain ⟨E, hE⟩ : ∃ E, E = Ending.returned (.tuple #[.int .u32 (((x + 4294967296 - y - b) % 4294967296 : Nat) : Int), .int .u32 ((brw x y b : Nat) : Int)]) := ⟨_, rfl⟩
 rw [← hE]
 have HE := Lib.hid hE
 have HB := Lib.hid (sub_bits x y b hx hy hb)
 have hsg : IntKind.u32.signed = false := rfl
 clear hE
 go_enter Tryz.func118, Tryz.ntmps118
 go_wp2_with fail
 go_ret2
 refine ⟨?_, rfl⟩
 rw [HE.out]
 exact ret_two (by omega) HB.out

end Go.Proofs.YtjlicnhkemfmiaaGreatDoor

/- divideSmall, short: a number divided by one digit. -/
set_option maxHeartbeats 8000000
set_option maxRecDepth 100000
namespace Go.Proofs.YtjlicnhkemfmiaaGreatDoor
open Go.RowKit

theorem low_set (j q : Nat) (o : List Nat) : (List.replicate (j + 1) 0 ++ o).set j q = List.replicate j 0 ++ q :: o := by
 have e2 : j = (List.replicate j 0).length := by simp
 rw [List.replicate_succ', List.append_assoc]
 conv => lhs; arg 2; rw [e2]
 rw [List.set_append_right _ _ (Nat.le_refl _)]
 simp

theorem low_getD (j : Nat) (o : List Nat) : (List.replicate (j + 1) 0 ++ o).getD j 0 = 0 := by
 rw [List.getD_eq_getElem?_getD, List.getElem?_append_left (by simp)]
 simp

theorem divmod_of {a q d r : Nat} (h : a = q * d + r) (hr : r < d) : q = a / d ∧ r = a % d := by
 subst h
 have hd : 0 < d := by omega
 constructor
 ·
  rw [Nat.mul_comm, Nat.mul_add_div hd, Nat.div_eq_of_lt hr]; omega
 ·
  rw [Nat.mul_comm, Nat.mul_add_mod, Nat.mod_eq_of_lt hr]

theorem ret_sl_int {A : Option Addr} {n m c : Nat} {k : IntKind} {a b : Int} (h : n = m) (h2 : a = b) : Ending.returned (.tuple #[.slice A n c, .int k a]) = .returned (.tuple #[.slice A m c, .int k b]) := by rw [h, h2]
theorem divideSmall_row (A : Option Addr) (c a d : Nat) (w : World) (hr : KRd .u32 w w.heap.size A (limbs a)) (hl : (limbs a).length ≤ 1000000000) (hd0 : 0 < d) (hd1 : d < 4294967296) :
 Calls Tryz.prog 135 #[.slice A (limbs a).length c, .int .u32 d] w fun e w' => ∃ g c', e = .returned (.tuple #[.slice (some ⟨g, 0, none⟩) (limbs (a / d)).length c', .int .u32 ((a % d : Nat) : Int)]) ∧ (limbs (a / d)).length ≤ c' ∧ KRow .u32 152 w' g (limbs (a / d)) ∧ Below w.heap.size w w' := by
 obtain ⟨n, hn⟩ : ∃ n, n = (limbs a).length := ⟨_, rfl⟩
 rw [← hn]
 have hmk := run_make_row' (P := Tryz.prog) 150 152 (.int .u32 0) 4 Tryz.underlying150 Tryz.info_u32 rfl .i64 .i64 n (by omega) (by omega)
 have HR := Lib.hid hr
 have HN := Lib.hid hn
 have hnb : n ≤ 1000000000 := by omega
 clear hr hn hl
 go_enter Tryz.func135, Tryz.ntmps135
 go_wp2_with fail
 go_loopw [7, 8] (fun rr i wr => ∃ (k r : Nat) (o : List Nat), k ≤ n ∧ i = .int .i64 ((k : Int) - 1) ∧ rr = .int .u64 (r : Int) ∧ r < d ∧ KRow .u32 152 wr w.heap.size (List.replicate k 0 ++ o) ∧ Hid (o.length = n - k ∧ Dig o ∧ valL ((limbs a).drop k) = valL o * d + r) ∧ Below w.heap.size w wr) (fun _ i _ => (intOf i + 1).toNat)
 case atStart => exact ⟨n, 0, [], Nat.le_refl _, rfl, rfl, hd0, (KRow.made _ _ _ rfl).cast (by simp), ⟨by simp, Dig.nil, by rw [HN.out, List.drop_length]; simp [valL]⟩, (Below.refl _ _).alloc (Nat.le_refl _) _⟩
 case round =>
  obtain ⟨k, r, o, hk, rfl, rfl, hrd, hrow, HI, hbel⟩ := hrel
  have hsz := hrow.lt
  by_cases h0 : k = 0
  ·
   subst h0
   obtain ⟨hol, hod, hov⟩ := HI.out
   rw [List.drop_zero, valL_limbs] at hov
   obtain ⟨hq, hm⟩ := divmod_of hov hrd
   have hrow' : KRow .u32 152 wr w.heap.size o := hrow
   have hol' : o.length = n := by omega
   have HT := trim_calls (some ⟨w.heap.size, 0, none⟩) n o wr hrow'.rd hod (by omega) (by omega)
   rw [hq, hol'] at HT
   have HRD : Hid (KRow .u32 152 wr w.heap.size (limbs (a / d))) := by
    have h := hrow'.take (limbs (valL o)).length
    rw [(take_limbs hod).1, hq] at h
    exact h
   have HLE : Hid ((limbs (a / d)).length ≤ n) := by
    have := (take_limbs hod).2
    show _ ≤ _
    rw [← hq]; omega
   have HM : Hid (r = a % d) := hm
   have HTT := Lib.hid HT
   clear hov hq hm hol' hol hod HT hrow hrow'
   go_wp2_with fail
   refine HTT.out.mono ?_
   rintro e w1 ⟨rfl, rfl⟩
   go_wp2_with fail
   go_ret2
   exact ⟨_, n, ret_sl_int rfl (by rw [HM.out]), HLE.out, HRD.out, hbel⟩
  ·
   obtain ⟨j, rfl⟩ : ∃ j, k = j + 1 := ⟨k - 1, by omega⟩
   have hjl : j < (limbs a).length := by rw [← HN.out]; omega
   obtain ⟨b, off, rfl, hb, hcell⟩ := (HR.out.below hbel).at_ (getElem?_getD hjl)
   obtain ⟨x, hx⟩ : ∃ x, x = (limbs a).getD j 0 := ⟨_, rfl⟩
   have hxl : x < 4294967296 := by rw [hx]; exact (limbs_dig a).getD j
   rw [← hx] at hcell
   have hho := hrow.getD (j := j) (by rw [List.length_append, List.length_replicate]; omega)
   rw [low_getD] at hho
   have hhf := hrow.frozen j
   obtain ⟨t, ht⟩ : ∃ t, t = r * 4294967296 + x := ⟨_, rfl⟩
   have htb : t < 18446744073709551616 := by omega
   have hor : bits .or .u64 ((r : Int) * 4294967296) (x : Int) = (t : Int) := by
    have := or_u64' x (r * 4294967296) 32 r hxl (by omega) (by omega)
    rw [ht, ← this]; simp
   obtain ⟨q, hq⟩ : ∃ q, q = t / d := ⟨_, rfl⟩
   obtain ⟨r', hr'⟩ : ∃ r', r' = t % d := ⟨_, rfl⟩
   have hql : q < 4294967296 := by rw [hq, ht]; exact div_digit hrd hxl
   have hrl : r' < d := by rw [hr']; exact Nat.mod_lt _ hd0
   have htq : (t : Int) / (d : Int) = (q : Int) := by rw [hq]; omega
   have htr : (t : Int) % (d : Int) = (r' : Int) := by rw [hr']; omega
   have HI2 : Hid ((q :: o).length = n - j ∧ Dig (q :: o) ∧ valL ((limbs a).drop j) = valL (q :: o) * d + r') := by
    obtain ⟨hol, hod, hov⟩ := HI.out
    refine ⟨by rw [List.length_cons]; omega, Dig.cons hql hod, div_step hjl hov ?_⟩
    rw [← hx, ← ht, hq, hr', Nat.mul_comm]
    exact (Nat.div_add_mod t d).symm
   have HROW := Lib.hid hrow
   have hji : ((j + 1 : Nat) : Int) - 1 = (j : Int) := by omega
   clear h0 hx ht hq hr' hrow hmk HI
   go_wp2_with fail
   go_roundw
   case measure => simp [intOf] <;> omega
   case rel => exact ⟨j, r', q :: o, by omega, by go_num, by go_num, hrl, HROW.out.setI j q rfl (low_set j q o), HI2, hbel.setCell (by simp) _⟩

theorem divideSmall_calls (A : Option Addr) (c a d : Nat) (w : World) (hr : KRd .u32 w w.heap.size A (limbs a)) (hl : (limbs a).length ≤ 1000000000) (hd0 : 0 < d) (hd1 : d < 4294967296) :
 Calls Tryz.prog 135 #[.slice A (limbs a).length c, .int .u32 d] w fun e w' => ∃ A' c', e = .returned (.tuple #[.slice A' (limbs (a / d)).length c', .int .u32 ((a % d : Nat) : Int)]) ∧ (limbs (a / d)).length ≤ c' ∧ KRd .u32 w' w'.heap.size A' (limbs (a / d)) ∧ Below w.heap.size w w' := by
 refine (divideSmall_row A c a d w hr hl hd0 hd1).mono ?_
 rintro e w1 ⟨g, c', rfl, h1, h2, h3⟩
 exact ⟨_, c', rfl, h1, h2.rd, h3⟩

theorem short_row (A : Option Addr) (c a d : Nat) (w : World) (hr : KRd .u32 w w.heap.size A (limbs a)) (hl : (limbs a).length ≤ 1000000000) (hd0 : 0 < d) (hd1 : d < 4294967296) :
 Calls Tryz.prog 166 #[.slice A (limbs a).length c, .int .u32 d] w fun e w' => ∃ g c', e = .returned (.tuple #[.slice (some ⟨g, 0, none⟩) (limbs (a / d)).length c', .int .u32 ((a % d : Nat) : Int)]) ∧ (limbs (a / d)).length ≤ c' ∧ KRow .u32 152 w' g (limbs (a / d)) ∧ Below w.heap.size w w' := by
 obtain ⟨n, hn⟩ : ∃ n, n = (limbs a).length := ⟨_, rfl⟩
 rw [← hn]
 have hmk := run_make_row' (P := Tryz.prog) 149 152 (.int .u32 0) 4 Tryz.underlying149 Tryz.info_u32 rfl .i64 .i64 n (by omega) (by omega)
 have HR := Lib.hid hr
 have HN := Lib.hid hn
 have hnb : n ≤ 1000000000 := by omega
 clear hr hn hl
 go_enter Tryz.func166, Tryz.ntmps166
 go_wp2_with fail
 go_loopw [7, 8] (fun rr i wr => ∃ (k r : Nat) (o : List Nat), k ≤ n ∧ i = .int .i64 ((k : Int) - 1) ∧ rr = .int .u64 (r : Int) ∧ r < d ∧ KRow .u32 152 wr w.heap.size (List.replicate k 0 ++ o) ∧ Hid (o.length = n - k ∧ Dig o ∧ valL ((limbs a).drop k) = valL o * d + r) ∧ Below w.heap.size w wr) (fun _ i _ => (intOf i + 1).toNat)
 case atStart => exact ⟨n, 0, [], Nat.le_refl _, rfl, rfl, hd0, (KRow.made _ _ _ rfl).cast (by simp), ⟨by simp, Dig.nil, by rw [HN.out, List.drop_length]; simp [valL]⟩, (Below.refl _ _).alloc (Nat.le_refl _) _⟩
 case round =>
  obtain ⟨k, r, o, hk, rfl, rfl, hrd, hrow, HI, hbel⟩ := hrel
  have hsz := hrow.lt
  by_cases h0 : k = 0
  ·
   subst h0
   obtain ⟨hol, hod, hov⟩ := HI.out
   rw [List.drop_zero, valL_limbs] at hov
   obtain ⟨hq, hm⟩ := divmod_of hov hrd
   have hrow' : KRow .u32 152 wr w.heap.size o := hrow
   have hol' : o.length = n := by omega
   have HT := strip_calls (some ⟨w.heap.size, 0, none⟩) n o wr hrow'.rd hod (by omega) (by omega)
   rw [hq, hol'] at HT
   have HRD : Hid (KRow .u32 152 wr w.heap.size (limbs (a / d))) := by
    have h := hrow'.take (limbs (valL o)).length
    rw [(take_limbs hod).1, hq] at h
    exact h
   have HLE : Hid ((limbs (a / d)).length ≤ n) := by
    have := (take_limbs hod).2
    show _ ≤ _
    rw [← hq]; omega
   have HM : Hid (r = a % d) := hm
   have HTT := Lib.hid HT
   clear hov hq hm hol' hol hod HT hrow hrow'
   go_wp2_with fail
   refine HTT.out.mono ?_
   rintro e w1 ⟨rfl, rfl⟩
   go_wp2_with fail
   go_ret2
   exact ⟨_, n, ret_sl_int rfl (by rw [HM.out]), HLE.out, HRD.out, hbel⟩
  ·
   obtain ⟨j, rfl⟩ : ∃ j, k = j + 1 := ⟨k - 1, by omega⟩
   have hjl : j < (limbs a).length := by rw [← HN.out]; omega
   obtain ⟨b, off, rfl, hb, hcell⟩ := (HR.out.below hbel).at_ (getElem?_getD hjl)
   obtain ⟨x, hx⟩ : ∃ x, x = (limbs a).getD j 0 := ⟨_, rfl⟩
   have hxl : x < 4294967296 := by rw [hx]; exact (limbs_dig a).getD j
   rw [← hx] at hcell
   have hho := hrow.getD (j := j) (by rw [List.length_append, List.length_replicate]; omega)
   rw [low_getD] at hho
   have hhf := hrow.frozen j
   obtain ⟨t, ht⟩ : ∃ t, t = r * 4294967296 + x := ⟨_, rfl⟩
   have htb : t < 18446744073709551616 := by omega
   have hor : bits .or .u64 ((r : Int) * 4294967296) (x : Int) = (t : Int) := by
    have := or_u64' x (r * 4294967296) 32 r hxl (by omega) (by omega)
    rw [ht, ← this]; simp
   obtain ⟨q, hq⟩ : ∃ q, q = t / d := ⟨_, rfl⟩
   obtain ⟨r', hr'⟩ : ∃ r', r' = t % d := ⟨_, rfl⟩
   have hql : q < 4294967296 := by rw [hq, ht]; exact div_digit hrd hxl
   have hrl : r' < d := by rw [hr']; exact Nat.mod_lt _ hd0
   have htq : (t : Int) / (d : Int) = (q : Int) := by rw [hq]; omega
   have htr : (t : Int) % (d : Int) = (r' : Int) := by rw [hr']; omega
   have HI2 : Hid ((q :: o).length = n - j ∧ Dig (q :: o) ∧ valL ((limbs a).drop j) = valL (q :: o) * d + r') := by
    obtain ⟨hol, hod, hov⟩ := HI.out
    refine ⟨by rw [List.length_cons]; omega, Dig.cons hql hod, div_step hjl hov ?_⟩
    rw [← hx, ← ht, hq, hr', Nat.mul_comm]
    exact (Nat.div_add_mod t d).symm
   have HROW := Lib.hid hrow
   have hji : ((j + 1 : Nat) : Int) - 1 = (j : Int) := by omega
   clear h0 hx ht hq hr' hrow hmk HI
   go_wp2_with fail
   go_roundw
   case measure => simp [intOf] <;> omega
   case rel => exact ⟨j, r', q :: o, by omega, by go_num, by go_num, hrl, HROW.out.setI j q rfl (low_set j q o), HI2, hbel.setCell (by simp) _⟩

theorem short_calls (A : Option Addr) (c a d : Nat) (w : World) (hr : KRd .u32 w w.heap.size A (limbs a)) (hl : (limbs a).length ≤ 1000000000) (hd0 : 0 < d) (hd1 : d < 4294967296) :
 Calls Tryz.prog 166 #[.slice A (limbs a).length c, .int .u32 d] w fun e w' => ∃ A' c', e = .returned (.tuple #[.slice A' (limbs (a / d)).length c', .int .u32 ((a % d : Nat) : Int)]) ∧ (limbs (a / d)).length ≤ c' ∧ KRd .u32 w' w'.heap.size A' (limbs (a / d)) ∧ Below w.heap.size w w' := by
 refine (short_row A c a d w hr hl hd0 hd1).mono ?_
 rintro e w1 ⟨g, c', rfl, h1, h2, h3⟩
 exact ⟨_, c', rfl, h1, h2.rd, h3⟩

end Go.Proofs.YtjlicnhkemfmiaaGreatDoor

/- natural.Add, subtract, Subtract. -/
namespace Go.Proofs.YtjlicnhkemfmiaaGreatDoor
open Go.RowKit

theorem hi_set (o : List Nat) (m d : Nat) : (o ++ List.replicate (m + 1) 0).set o.length d = (o ++ [d]) ++ List.replicate m 0 := by
 rw [List.set_append_right _ _ (Nat.le_refl _)]
 simp [List.replicate_succ]

theorem add_carry {x y c : Nat} (hx : x < 4294967296) (hy : y < 4294967296) (hc : c ≤ 1) : (x + y + c) / 4294967296 ≤ 1 := by omega

/-- the loop of Add and what stands behind it: x is not shorter than y -/
theorem add_end {o : List Nat} {n c a b : Nat} (hol : o.length = n) (hn : (limbs a).length = n) (hb : (limbs b).length ≤ n) (h : valL o + 4294967296 ^ n * c = valL ((limbs a).take n) + valL ((limbs b).take n)) : valL (o ++ [c]) = a + b := by
 rw [valL_snoc, hol, h, List.take_of_length_le (by omega), List.take_of_length_le (by omega), valL_limbs, valL_limbs]

theorem natAdd_calls (s t : ByteArray) (w : World) (hs : s.size ≤ 100000000) (ht : t.size ≤ 100000000) :
 Calls Tryz.prog 61 #[.string s, .string t] w fun e w' => e = .returned (.string (ncan (snum s + snum t))) ∧ Below w.heap.size w w' := by
 have HP1 := Lib.hid (fun w => parse_calls s w (by omega))
 have HP2 := Lib.hid (fun w => parse_calls t w (by omega))
 have hla : (limbs (snum s)).length ≤ 100000000 := by
  rw [limbs_len_canon]; have := canon_num_len s.data.toList; rw [← Lib.size_eq] at this; show ((canon (num s.data.toList)).length + 3) / 4 ≤ _; omega
 have hlb : (limbs (snum t)).length ≤ 100000000 := by
  rw [limbs_len_canon]; have := canon_num_len t.data.toList; rw [← Lib.size_eq] at this; show ((canon (num t.data.toList)).length + 3) / 4 ≤ _; omega
 obtain ⟨a0, ha0⟩ : ∃ a0, a0 = snum s := ⟨_, rfl⟩
 obtain ⟨b0, hb0⟩ : ∃ b0, b0 = snum t := ⟨_, rfl⟩
 rw [← ha0] at HP1 hla ⊢
 rw [← hb0] at HP2 hlb ⊢
 clear ha0 hb0 hs ht
 go_enter Tryz.func61, Tryz.ntmps61
 go_wp2_with fail
 refine (HP1.out _).mono ?_
 rintro e w1 ⟨A1, c1, rfl, hc1, hr1, hb1⟩
 go_wp2_with fail
 refine (HP2.out _).mono ?_
 rintro e w2 ⟨A2, c2, rfl, hc2, hr2, hb2⟩
 have hbel := hb1.trans (hb2.mono hb1.size)
 have hr1' := hr1.next hb2
 have HR1 := Lib.hid hr1'
 have HR2 := Lib.hid hr2
 have HBEL := Lib.hid hbel
 clear hr1 hr1' hr2 hb1 hb2 hbel
 go_upto_if 19 with fail
 go_cut [5, 6] (fun s5 s6 wx => ∃ (x y : Nat) (X Y : Option Addr) (cx cy : Nat), s5 = .slice X (limbs x).length cx ∧ s6 = .slice Y (limbs y).length cy ∧ Hid (x + y = a0 + b0) ∧ (limbs y).length ≤ (limbs x).length ∧ (limbs x).length ≤ 100000000 ∧ Hid (KRd .u32 w2 w2.heap.size X (limbs x)) ∧ Hid (KRd .u32 w2 w2.heap.size Y (limbs y)) ∧ w2 = wx)
 case first =>
  rcases Nat.lt_or_ge (limbs a0).length (limbs b0).length with h | h
  ·
   have h2 : decide ((limbs a0).length < (limbs b0).length) = true := by simpa using h
   go_wp2_with fail
   go_meet
   exact ⟨b0, a0, A2, A1, c2, c1, rfl, rfl, Nat.add_comm _ _, by omega, hlb, HR2, HR1, rfl⟩
  ·
   have h2 : decide ((limbs a0).length < (limbs b0).length) = false := by simpa using h
   have h3 : ¬ (limbs a0).length < (limbs b0).length := by omega
   go_wp2_with fail
   go_meet
   exact ⟨a0, b0, A1, A2, c1, c2, rfl, rfl, rfl, by omega, hla, HR1, HR2, rfl⟩
 case rest =>
  clear hla hlb HR1 HR2 hc1 hc2
  obtain ⟨x, y, X, Y, cx, cy, rfl, rfl, HXY, hyx, hxl, HRX, HRY, rfl⟩ := hcut
  obtain ⟨n, hn⟩ : ∃ n, n = (limbs x).length := ⟨_, rfl⟩
  obtain ⟨m, hm⟩ : ∃ m, m = (limbs y).length := ⟨_, rfl⟩
  rw [← hn] at hxl hyx ⊢
  rw [← hm] at hyx ⊢
  have hmk := run_make_row' (P := Tryz.prog) 150 152 (.int .u32 0) 4 Tryz.underlying150 Tryz.info_u32 rfl .i64 .i64 (n + 1) (by omega) (by omega)
  have hcast : (((n + 1 : Nat)) : Int) = (n : Int) + 1 := by omega
  rw [hcast] at hmk
  have HN := Lib.hid hn
  have HM := Lib.hid hm
  clear hn hm hcast
  go_wp2_with fail
  go_loopw [8, 28] (fun cc i wr => ∃ (k c : Nat) (o : List Nat), k ≤ n ∧ i = .int .i64 (k : Int) ∧ cc = .int .u32 (c : Int) ∧ c ≤ 1 ∧ KRow .u32 152 wr w2.heap.size (o ++ List.replicate (n + 1 - k) 0) ∧ Hid (o.length = k ∧ Dig o ∧ valL o + 4294967296 ^ k * c = valL ((limbs x).take k) + valL ((limbs y).take k)) ∧ Below w2.heap.size w2 wr) (fun _ i _ => n - (intOf i).toNat)
  case atStart => exact ⟨0, 0, [], by omega, rfl, rfl, by omega, KRow.made _ _ _ rfl, ⟨rfl, Dig.nil, by simp [valL]⟩, (Below.refl _ _).alloc (Nat.le_refl _) _⟩
  case round =>
   obtain ⟨k, c, o, hk, rfl, rfl, hc, hrow, HI, hbel⟩ := hrel
   have hsz := hrow.lt
   by_cases hlt : k < n
   ·
    have hkx : k < (limbs x).length := by rw [← HN.out]; exact hlt
    obtain ⟨b, off, hXe, hb, hcx⟩ := (HRX.out.below hbel).at_ (getElem?_getD hkx)
    subst hXe
    obtain ⟨u, hu⟩ : ∃ u, u = (limbs x).getD k 0 := ⟨_, rfl⟩
    have hul : u < 4294967296 := by rw [hu]; exact (limbs_dig x).getD k
    rw [← hu] at hcx
    obtain ⟨v, hv⟩ : ∃ v, v = (limbs y).getD k 0 := ⟨_, rfl⟩
    have hvl : v < 4294967296 := by rw [hv]; exact (limbs_dig y).getD k
    obtain ⟨hol, hod, hov⟩ := HI.out
    have e1 : n + 1 - k = (n - k) + 1 := by omega
    have hho := hrow.getD (j := k) (by rw [List.length_append, List.length_replicate]; omega)
    obtain ⟨old, hold⟩ : ∃ old, old = (o ++ List.replicate (n + 1 - k) 0).getD k 0 := ⟨_, rfl⟩
    rw [← hold] at hho
    have hhf := hrow.frozen k
    have HI2 : Hid ((o ++ [(u + v + c) % 4294967296]).length = k + 1 ∧ Dig (o ++ [(u + v + c) % 4294967296]) ∧ valL (o ++ [(u + v + c) % 4294967296]) + 4294967296 ^ (k + 1) * ((u + v + c) / 4294967296) = valL ((limbs x).take (k + 1)) + valL ((limbs y).take (k + 1))) := by
     refine ⟨by simp [hol], hod.append (Dig.one (by omega)), add_step hol hov ?_⟩
     rw [← hu, ← hv]; omega
    have HSET : Hid ((o ++ List.replicate (n + 1 - k) 0).set k ((u + v + c) % 4294967296) = (o ++ [(u + v + c) % 4294967296]) ++ List.replicate (n + 1 - (k + 1)) 0) := by
     show _ = _
     rw [e1]
     have e2 : n + 1 - (k + 1) = n - k := by omega
     rw [e2]
     conv => lhs; arg 2; rw [← hol]
     exact hi_set _ _ _
    have HROW := Lib.hid hrow
    have hcl : (u + v + c) / 4294967296 ≤ 1 := add_carry hul hvl hc
    have HA := Lib.hid (fun w => add32_calls u v c w hul hvl (by omega))
    have HV := Lib.hid hv
    obtain ⟨z, hz⟩ : ∃ z, z = (u + v + c) % 4294967296 := ⟨_, rfl⟩
    obtain ⟨c', hc'⟩ : ∃ c', c' = (u + v + c) / 4294967296 := ⟨_, rfl⟩
    rw [← hz, ← hc'] at HI2 HA
    rw [← hz] at HSET
    rw [← hc'] at hcl
    clear hu hv hold hrow hmk HI hol hod hov e1 hz hc'
    by_cases hky : k < m
    ·
     obtain ⟨b2, off2, hYe, hb2, hcy⟩ := (HRY.out.below hbel).at_ (getElem?_getD (show k < (limbs y).length by rw [← HM.out]; exact hky))
     subst hYe
     rw [← HV.out] at hcy
     go_wp2_with fail
     refine (HA.out _).mono ?_
     rintro e w3 ⟨rfl, rfl⟩
     go_wp2_with fail
     go_roundw
     case measure => simp [intOf] <;> omega
     case rel => exact ⟨k + 1, c', o ++ [z], by omega, by go_num, rfl, hcl, HROW.out.setI k z rfl HSET.out, HI2, hbel.setCell (by simp) _⟩
    ·
     have hv0 : v = 0 := by
      rw [HV.out, List.getD_eq_getElem?_getD, List.getElem?_eq_none (by rw [← HM.out]; omega)]; rfl
     subst hv0
     go_wp2_with fail
     refine (HA.out _).mono ?_
     rintro e w3 ⟨rfl, rfl⟩
     go_wp2_with fail
     go_roundw
     case measure => simp [intOf] <;> omega
     case rel => exact ⟨k + 1, c', o ++ [z], by omega, by go_num, rfl, hcl, HROW.out.setI k z rfl HSET.out, HI2, hbel.setCell (by simp) _⟩
   ·
    obtain rfl : k = n := by omega
    obtain ⟨hol, hod, hov⟩ := HI.out
    have hho := hrow.getD (j := k) (by rw [List.length_append, List.length_replicate]; omega)
    obtain ⟨old, hold⟩ : ∃ old, old = (o ++ List.replicate (k + 1 - k) 0).getD k 0 := ⟨_, rfl⟩
    rw [← hold] at hho
    have hhf := hrow.frozen k
    have hset : (o ++ List.replicate (k + 1 - k) 0).set k c = o ++ [c] := by
     have e1 : k + 1 - k = 0 + 1 := by omega
     rw [e1]
     conv => lhs; arg 2; rw [← hol]
     rw [hi_set]; simp
    have hrow2 := hrow.setI k c rfl hset
    have hd2 : Dig (o ++ [c]) := hod.append (Dig.one (by omega))
    have hl2 : (o ++ [c]).length = k + 1 := by simp [hol]
    have hval : valL (o ++ [c]) = a0 + b0 := by
     rw [← HXY.out]
     exact add_end hol HN.out.symm (by rw [← HM.out]; exact hyx) hov
    have HT := text_calls (some ⟨w2.heap.size, 0, none⟩) (k + 1) (o ++ [c]) _ hrow2.rd hd2 (Nat.le_of_eq hl2) (by rw [hl2]; omega)
    rw [hval, hl2] at HT
    have HTT := Lib.hid HT
    clear HT hrow hrow2 hset hold hol hod hov hd2 hl2 hval hmk HI
    go_wp2_with fail
    refine HTT.out.mono ?_
    rintro e w3 ⟨rfl, hb3⟩
    have hb4 : Below w2.heap.size w2 w3 := by
     have h1 : Below w2.heap.size w2 (wr.setCell ⟨w2.heap.size, k, none⟩ (.int .u32 (c : Int))) := hbel.setCell (by simp) _
     exact h1.trans (hb3.mono h1.size)
    clear hb3
    go_wp2_with fail
    go_ret
    exact ⟨rfl, HBEL.out.trans (hb4.mono HBEL.out.size)⟩

theorem subtract_calls (X Y : Option Addr) (cx cy x y : Nat) (w : World) (hrx : KRd .u32 w w.heap.size X (limbs x)) (hry : KRd .u32 w w.heap.size Y (limbs y)) (hxl : (limbs x).length ≤ 1000000000) (hxy : y ≤ x) :
 Calls Tryz.prog 95 #[.slice X (limbs x).length cx, .slice Y (limbs y).length cy] w fun e w' => ∃ A' c', e = .returned (.slice A' (limbs (x - y)).length c') ∧ (limbs (x - y)).length ≤ c' ∧ KRd .u32 w' w'.heap.size A' (limbs (x - y)) ∧ Below w.heap.size w w' := by
 have hyx : (limbs y).length ≤ (limbs x).length := by
  rcases Nat.lt_or_ge (limbs x).length (limbs y).length with h | h
  ·
   have := lt_of_len h; omega
  ·
   exact h
 obtain ⟨n, hn⟩ : ∃ n, n = (limbs x).length := ⟨_, rfl⟩
 obtain ⟨m, hm⟩ : ∃ m, m = (limbs y).length := ⟨_, rfl⟩
 rw [← hn] at hxl hyx ⊢
 rw [← hm] at hyx ⊢
 have hmk := run_make_row' (P := Tryz.prog) 150 152 (.int .u32 0) 4 Tryz.underlying150 Tryz.info_u32 rfl .i64 .i64 n (by omega) (by omega)
 have HN := Lib.hid hn
 have HM := Lib.hid hm
 have HRX := Lib.hid hrx
 have HRY := Lib.hid hry
 have HXY := Lib.hid hxy
 clear hn hm hrx hry hxy
 go_enter Tryz.func95, Tryz.ntmps95
 go_wp2_with fail
 go_loopw [6, 14] (fun cc i wr => ∃ (k c : Nat) (o : List Nat), k ≤ n ∧ i = .int .i64 (k : Int) ∧ cc = .int .u32 (c : Int) ∧ c ≤ 1 ∧ KRow .u32 152 wr w.heap.size (o ++ List.replicate (n - k) 0) ∧ Hid (o.length = k ∧ Dig o ∧ valL o + valL ((limbs y).take k) = valL ((limbs x).take k) + 4294967296 ^ k * c) ∧ Below w.heap.size w wr) (fun _ i _ => n - (intOf i).toNat)
 case atStart => exact ⟨0, 0, [], by omega, rfl, rfl, by omega, KRow.made _ _ _ rfl, ⟨rfl, Dig.nil, by simp [valL]⟩, (Below.refl _ _).alloc (Nat.le_refl _) _⟩
 case round =>
  obtain ⟨k, c, o, hk, rfl, rfl, hc, hrow, HI, hbel⟩ := hrel
  have hsz := hrow.lt
  by_cases hlt : k < n
  ·
   have hkx : k < (limbs x).length := by rw [← HN.out]; exact hlt
   obtain ⟨b, off, hXe, hb, hcx⟩ := (HRX.out.below hbel).at_ (getElem?_getD hkx)
   subst hXe
   obtain ⟨u, hu⟩ : ∃ u, u = (limbs x).getD k 0 := ⟨_, rfl⟩
   have hul : u < 4294967296 := by rw [hu]; exact (limbs_dig x).getD k
   rw [← hu] at hcx
   obtain ⟨v, hv⟩ : ∃ v, v = (limbs y).getD k 0 := ⟨_, rfl⟩
   have hvl : v < 4294967296 := by rw [hv]; exact (limbs_dig y).getD k
   obtain ⟨hol, hod, hov⟩ := HI.out
   have e1 : n - k = (n - (k + 1)) + 1 := by omega
   have hho := hrow.getD (j := k) (by rw [List.length_append, List.length_replicate]; omega)
   obtain ⟨old, hold⟩ : ∃ old, old = (o ++ List.replicate (n - k) 0).getD k 0 := ⟨_, rfl⟩
   rw [← hold] at hho
   have hhf := hrow.frozen k
   have hbw : (u + 4294967296 - v - c) % 4294967296 + v + c = u + 4294967296 * brw u v c := by unfold brw; split <;> omega
   have HI2 : Hid ((o ++ [(u + 4294967296 - v - c) % 4294967296]).length = k + 1 ∧ Dig (o ++ [(u + 4294967296 - v - c) % 4294967296]) ∧ valL (o ++ [(u + 4294967296 - v - c) % 4294967296]) + valL ((limbs y).take (k + 1)) = valL ((limbs x).take (k + 1)) + 4294967296 ^ (k + 1) * brw u v c) := by
    refine ⟨by simp [hol], hod.append (Dig.one (by omega)), sub_step hol hov ?_⟩
    rw [← hu, ← hv]; exact hbw
   have HSET : Hid ((o ++ List.replicate (n - k) 0).set k ((u + 4294967296 - v - c) % 4294967296) = (o ++ [(u + 4294967296 - v - c) % 4294967296]) ++ List.replicate (n - (k + 1)) 0) := by
    show _ = _
    rw [e1]
    conv => lhs; arg 2; rw [← hol]
    exact hi_set _ _ _
   have HROW := Lib.hid hrow
   have hcl : brw u v c ≤ 1 := by unfold brw; split <;> omega
   have HA := Lib.hid (fun w => sub32_calls u v c w hul hvl hc)
   have HV := Lib.hid hv
   obtain ⟨z, hz⟩ : ∃ z, z = (u + 4294967296 - v - c) % 4294967296 := ⟨_, rfl⟩
   obtain ⟨c', hc'⟩ : ∃ c', c' = brw u v c := ⟨_, rfl⟩
   rw [← hz, ← hc'] at HI2 HA
   rw [← hz] at HSET
   rw [← hc'] at hcl
   clear hu hv hold hrow hmk HI hol hod hov e1 hz hc' hbw
   by_cases hky : k < m
   ·
    obtain ⟨b2, off2, hYe, hb2, hcy⟩ := (HRY.out.below hbel).at_ (getElem?_getD (show k < (limbs y).length by rw [← HM.out]; exact hky))
    subst hYe
    rw [← HV.out] at hcy
    go_wp2_with fail
    refine (HA.out _).mono ?_
    rintro e w3 ⟨rfl, rfl⟩
    go_wp2_with fail
    go_roundw
    case measure => simp [intOf] <;> omega
    case rel => exact ⟨k + 1, c', o ++ [z], by omega, by go_num, rfl, hcl, HROW.out.setI k z rfl HSET.out, HI2, hbel.setCell (by simp) _⟩
   ·
    have hv0 : v = 0 := by
     rw [HV.out, List.getD_eq_getElem?_getD, List.getElem?_eq_none (by rw [← HM.out]; omega)]; rfl
    subst hv0
    go_wp2_with fail
    refine (HA.out _).mono ?_
    rintro e w3 ⟨rfl, rfl⟩
    go_wp2_with fail
    go_roundw
    case measure => simp [intOf] <;> omega
    case rel => exact ⟨k + 1, c', o ++ [z], by omega, by go_num, rfl, hcl, HROW.out.setI k z rfl HSET.out, HI2, hbel.setCell (by simp) _⟩
  ·
   obtain rfl : k = n := by omega
   obtain ⟨hol, hod, hov⟩ := HI.out
   have hval : valL o = x - y := by
    have := sub_end (x := limbs x) (y := limbs y) hod (by rw [hol, HN.out]) (by rw [← HN.out, ← HM.out]; exact hyx) hc (by rw [valL_limbs, valL_limbs]; exact HXY.out) (by rw [← HN.out]; exact hov)
    rw [this.1, valL_limbs, valL_limbs]
   have hrow' : KRow .u32 152 wr w.heap.size o := hrow.cast (by rw [Nat.sub_self]; simp)
   have HT := trim_calls (some ⟨w.heap.size, 0, none⟩) k o wr hrow'.rd hod (Nat.le_of_eq hol) (by rw [hol]; omega)
   rw [hval, hol] at HT
   have HRD : Hid (KRd .u32 wr wr.heap.size (some ⟨w.heap.size, 0, none⟩) (limbs (x - y))) := hrow'.rd.limbs hod hval
   have HLE : Hid ((limbs (x - y)).length ≤ k) := by
    have := (take_limbs hod).2
    show _ ≤ _
    rw [← hval]; omega
   have HTT := Lib.hid HT
   clear hol hod hov HT hrow hrow' hval hmk HI
   go_wp2_with fail
   refine HTT.out.mono ?_
   rintro e w1 ⟨rfl, rfl⟩
   go_wp2_with fail
   go_ret
   exact ⟨_, k, rfl, HLE.out, HRD.out, hbel⟩

end Go.Proofs.YtjlicnhkemfmiaaGreatDoor

/- natural.Multiply; the definition's times. -/
namespace Go.Proofs.YtjlicnhkemfmiaaGreatDoor
open Go.RowKit

/-- a product while it is made: what has been added stands, the rest is nought -/
structure Pr (os : List Nat) (n i ly x y : Nat) : Prop where
 len : os.length = n
 dig : Dig os
 val : valL os = valL ((limbs x).take i) * y
 zero : ∀ j, i + ly ≤ j → os.getD j 0 = 0

/-- in the inner loop -/
structure Pi (qs os : List Nat) (n i ly k c u y : Nat) : Prop where
 len : qs.length = n
 dig : Dig qs
 val : valL qs + 4294967296 ^ (i + k) * c = valL os + 4294967296 ^ i * (u * valL ((limbs y).take k))
 zero : ∀ j, i + ly ≤ j → qs.getD j 0 = 0

theorem getD_set_ne (l : List Nat) (i j v : Nat) (h : i ≠ j) : (l.set i v).getD j 0 = l.getD j 0 := by
 rw [List.getD_eq_getElem?_getD, List.getElem?_set_ne h, ← List.getD_eq_getElem?_getD]

theorem Pi.start {os : List Nat} {n i ly x y u : Nat} (h : Pr os n i ly x y) : Pi os os n i ly 0 0 u y := ⟨h.len, h.dig, by simp [valL], h.zero⟩

theorem Pi.step {qs os : List Nat} {n i ly k c u y lo c' : Nat} (h : Pi qs os n i ly k c u y) (hk : k < ly) (hn : i + ly < n) (hlo : lo < 4294967296) (e : lo + 4294967296 * c' = u * (limbs y).getD k 0 + qs.getD (i + k) 0 + c) : Pi (qs.set (i + k) lo) os n i ly (k + 1) c' u y :=
 ⟨by simp [h.len], h.dig.set _ hlo, mul_step h.val (by rw [h.len]; omega) e, fun j hj => by rw [getD_set_ne _ _ _ _ (by omega)]; exact h.zero j hj⟩

theorem Pi.last {qs os : List Nat} {n i ly c x y : Nat} (hly : (limbs y).length = ly) (hlx : i < (limbs x).length) (h0 : Pr os n i ly x y) (h : Pi qs os n i ly ly c ((limbs x).getD i 0) y) (hn : i + ly < n) (hc : c < 4294967296) : Pr (qs.set (i + ly) c) n (i + 1) ly x y := by
 refine ⟨by simp [h.len], h.dig.set _ hc, ?_, fun j hj => ?_⟩
 ·
  have hv := h.val
  rw [← hly] at hv
  have := mul_last hv (by rw [h.len, hly]; exact hn) (h.zero _ (by omega))
  rw [valL_limbs] at this
  rw [← hly, this, h0.val, valL_take_succ']
  grind
 ·
  rw [getD_set_ne _ _ _ _ (by omega)]; exact h.zero j (by omega)

theorem Pr.end_ {os : List Nat} {n i ly x y : Nat} (h : Pr os n i ly x y) (hi : i = (limbs x).length) : valL os = x * y := by
 rw [h.val, List.take_of_length_le (by omega), valL_limbs]

theorem natMultiply_calls (s t : ByteArray) (w : World) (hs : s.size ≤ 100000000) (ht : t.size ≤ 100000000) :
 Calls Tryz.prog 40 #[.string s, .string t] w fun e w' => e = .returned (.string (ncan (snum s * snum t))) ∧ Below w.heap.size w w' := by
 have HP1 := Lib.hid (fun w => parse_calls s w (by omega))
 have HP2 := Lib.hid (fun w => parse_calls t w (by omega))
 have hla : (limbs (snum s)).length ≤ 100000000 := by
  rw [limbs_len_canon]; have := canon_num_len s.data.toList; rw [← Lib.size_eq] at this; show ((canon (num s.data.toList)).length + 3) / 4 ≤ _; omega
 have hlb : (limbs (snum t)).length ≤ 100000000 := by
  rw [limbs_len_canon]; have := canon_num_len t.data.toList; rw [← Lib.size_eq] at this; show ((canon (num t.data.toList)).length + 3) / 4 ≤ _; omega
 obtain ⟨x, hx0⟩ : ∃ x, x = snum s := ⟨_, rfl⟩
 obtain ⟨y, hy0⟩ : ∃ y, y = snum t := ⟨_, rfl⟩
 rw [← hx0] at HP1 hla ⊢
 rw [← hy0] at HP2 hlb ⊢
 obtain ⟨lx, hlx⟩ : ∃ lx, lx = (limbs x).length := ⟨_, rfl⟩
 obtain ⟨ly, hly⟩ : ∃ ly, ly = (limbs y).length := ⟨_, rfl⟩
 rw [← hlx] at HP1 hla
 rw [← hly] at HP2 hlb
 have HLL := Lib.hid (And.intro hlx hly)
 have hmk := run_make_row' (P := Tryz.prog) 150 152 (.int .u32 0) 4 Tryz.underlying150 Tryz.info_u32 rfl .i64 .i64 (lx + ly) (by omega) (by omega)
 have hcast : ((lx + ly : Nat) : Int) = (lx : Int) + (ly : Int) := by omega
 rw [hcast] at hmk
 clear hx0 hy0 hs ht hlx hly hcast
 go_enter Tryz.func40, Tryz.ntmps40
 go_wp2_with fail
 refine (HP1.out _).mono ?_
 rintro e w1 ⟨X, cx, rfl, hc1, hr1, hb1⟩
 go_wp2_with fail
 refine (HP2.out _).mono ?_
 rintro e w2 ⟨Y, cy, rfl, hc2, hr2, hb2⟩
 have HRX := Lib.hid (hr1.next hb2)
 have HRY := Lib.hid hr2
 have HBEL : Hid (Below w.heap.size w w2) := hb1.trans (hb2.mono hb1.size)
 clear hr1 hr2 hb1 hb2 hc1 hc2
 go_wp2_with fail
 go_loopw [26] (fun ii wr => ∃ (i : Nat) (os : List Nat), i ≤ lx ∧ ii = .int .i64 (i : Int) ∧ KRow .u32 152 wr w2.heap.size os ∧ Hid (Pr os (lx + ly) i ly x y) ∧ Below w2.heap.size w2 wr) (fun ii _ => lx - (intOf ii).toNat)
 case atStart => exact ⟨0, _, by omega, rfl, KRow.made _ _ _ rfl, ⟨by simp, Dig.zeros _, by simp [valL, valL_zeros], fun j hj => by simp [List.getD_eq_getElem?_getD, List.getElem?_replicate]; split <;> rfl⟩, (Below.refl _ _).alloc (Nat.le_refl _) _⟩
 case round =>
  obtain ⟨i, os, hi, rfl, hrow, HI, hbel⟩ := hrel
  have hsz := hrow.lt
  by_cases hlt : i < lx
  ·
   have hix : i < (limbs x).length := by rw [← HLL.out.1]; exact hlt
   obtain ⟨bx, offx, hXe, hbx, hcx⟩ := (HRX.out.below hbel).at_ (getElem?_getD hix)
   subst hXe
   obtain ⟨u, hu⟩ : ∃ u, u = (limbs x).getD i 0 := ⟨_, rfl⟩
   have hul : u < 4294967296 := by rw [hu]; exact (limbs_dig x).getD i
   rw [← hu] at hcx
   have HU := Lib.hid hu
   have HROW := Lib.hid hrow
   obtain ⟨wo, hwo⟩ : ∃ wo : World, wo = wr := ⟨_, rfl⟩
   subst hwo
   have HBO := Lib.hid hbel
   clear hu hrow hbel hmk
   go_wp2_with fail
   clear hcx
   go_loopw [10, 33] (fun cc kk wr => ∃ (k c : Nat) (qs : List Nat), k ≤ ly ∧ kk = .int .i64 (k : Int) ∧ cc = .int .u64 (c : Int) ∧ c < 4294967296 ∧ KRow .u32 152 wr w2.heap.size qs ∧ Hid (Pi qs os (lx + ly) i ly k c u y) ∧ Below w2.heap.size w2 wr) (fun _ kk _ => ly - (intOf kk).toNat)
   case atStart => exact ⟨0, 0, os, by omega, rfl, rfl, by omega, HROW.out, Pi.start HI.out, HBO.out⟩
   case round =>
    obtain ⟨k, c, qs, hk, rfl, rfl, hcl, hrow, HJ, hbel⟩ := hrel
    have hsz2 := hrow.lt
    by_cases hkl : k < ly
    ·
     have hky : k < (limbs y).length := by rw [← HLL.out.2]; exact hkl
     obtain ⟨b2, off2, hYe, hb2, hcy⟩ := (HRY.out.below hbel).at_ (getElem?_getD hky)
     subst hYe
     obtain ⟨v, hv⟩ : ∃ v, v = (limbs y).getD k 0 := ⟨_, rfl⟩
     have hvl : v < 4294967296 := by rw [hv]; exact (limbs_dig y).getD k
     rw [← hv] at hcy
     have hoc := hrow.getD (j := i + k) (by rw [HJ.out.len]; omega)
     obtain ⟨o, ho⟩ : ∃ o, o = qs.getD (i + k) 0 := ⟨_, rfl⟩
     have hol : o < 4294967296 := by rw [ho]; exact HJ.out.dig.getD _
     rw [← ho] at hoc
     have hof := hrow.frozen (i + k)
     obtain ⟨p, hp⟩ : ∃ p, p = u * v := ⟨_, rfl⟩
     have hbd := mul_bd hul hvl hol hcl
     rw [← hp] at hbd
     obtain ⟨p1, hp1⟩ : ∃ p1, p1 = p + o := ⟨_, rfl⟩
     obtain ⟨tt, htt⟩ : ∃ tt, tt = p1 + c := ⟨_, rfl⟩
     obtain ⟨c', hc'⟩ : ∃ c', c' = tt / 4294967296 := ⟨_, rfl⟩
     obtain ⟨lo, hlo⟩ : ∃ lo, lo = tt % 4294967296 := ⟨_, rfl⟩
     have hc'l : c' < 4294967296 := by omega
     have hlol : lo < 4294967296 := by omega
     have HJ2 : Hid (Pi (qs.set (i + k) lo) os (lx + ly) i ly (k + 1) c' u y) := HJ.out.step hkl (by omega) hlol (by rw [← hv, ← ho, ← hp]; omega)
     have u1 : IntKind.u64.wrap ((u : Int) * (v : Int)) = (p : Int) := by
      have : (u : Int) * (v : Int) = (p : Int) := by rw [hp]; simp
      rw [this]; exact IntWalk.u64_in _ (by omega)
     have u2 : IntKind.u64.wrap ((p : Int) + (o : Int)) = (p1 : Int) := by rw [IntWalk.u64_in _ (by omega)]; omega
     have u3 : IntKind.u64.wrap ((p1 : Int) + (c : Int)) = (tt : Int) := by rw [IntWalk.u64_in _ (by omega)]; omega
     have u4 : (tt : Int) / 4294967296 = (c' : Int) := by omega
     have u5 : (tt : Int) % 4294967296 = (lo : Int) := by omega
     have HROW2 := Lib.hid hrow
     clear hv ho hp hbd hp1 htt hc' hlo hrow HJ
     go_wp2_with fail
     go_roundw
     case measure => simp [intOf] <;> omega
     case rel => exact ⟨k + 1, c', _, by omega, by go_num, rfl, hc'l, HROW2.out.setI (i + k) lo rfl rfl, HJ2, hbel.setCell (by simp) _⟩
    ·
     obtain rfl : k = ly := by omega
     have hL : Hid (Pr (qs.set (i + k) c) (lx + k) (i + 1) k x y) := Pi.last HLL.out.2.symm hix HI.out (by have := HJ.out; rwa [HU.out] at this) (by omega) hcl
     have hoc := hrow.getD (j := i + k) (by rw [HJ.out.len]; omega)
     obtain ⟨o, ho⟩ : ∃ o, o = qs.getD (i + k) 0 := ⟨_, rfl⟩
     rw [← ho] at hoc
     have hof := hrow.frozen (i + k)
     have HROW2 := Lib.hid hrow
     clear ho hrow HJ
     go_wp2_with fail
     go_roundw
     case measure => simp [intOf] <;> omega
     case rel => exact ⟨i + 1, _, by omega, by go_num, HROW2.out.setI (i + k) c rfl rfl, hL, hbel.setCell (by simp) _⟩
  ·
   obtain rfl : i = lx := by omega
   have hval := HI.out.end_ HLL.out.1
   have hT := text_calls (some ⟨w2.heap.size, 0, none⟩) (i + ly) os wr hrow.rd HI.out.dig (Nat.le_of_eq HI.out.len) (by rw [HI.out.len]; omega)
   rw [hval, HI.out.len] at hT
   have HT := Lib.hid hT
   clear hval hT hrow hmk
   go_wp2_with fail
   refine HT.out.mono ?_
   rintro e w3 ⟨rfl, hb3⟩
   have hb4 := hbel.trans (hb3.mono hbel.size)
   clear hb3
   go_wp2_with fail
   go_ret
   exact ⟨rfl, HBEL.out.trans (hb4.mono HBEL.out.size)⟩

end Go.Proofs.YtjlicnhkemfmiaaGreatDoor

/- FromUint, Uint of both; Compare, Subtract; the definition's NatCompare. -/
namespace Go.Proofs.YtjlicnhkemfmiaaGreatDoor
open Go.RowKit

theorem two_val {u : Nat} (h : u < 18446744073709551616) : valL [u % 4294967296, u / 4294967296] = u ∧ Dig [u % 4294967296, u / 4294967296] := by
 refine ⟨by simp only [valL]; omega, Dig.cons (by omega) (Dig.one (by omega))⟩

theorem krd_new2 (w : World) (a b : Nat) (T : TypeId) : KRd .u32 (w.alloc (.cells #[.int .u32 (a : Int), .int .u32 (b : Int)] T)) (w.alloc (.cells #[.int .u32 (a : Int), .int .u32 (b : Int)] T)).heap.size (some ⟨w.heap.size, 0, none⟩) [a, b] := by
 refine KRd.mk_ (by simp) fun j x hj => ?_
 have h := rd_new_cells w [.int .u32 (a : Int), .int .u32 (b : Int)] T w.heap.size rfl j (.int .u32 (x : Int)) (by
  rcases j with _ | _ | j
  ·
   simp at hj; simp [hj]
  ·
   simp at hj; simp [hj]
  ·
   simp at hj)
 rw [Addr.add_lit] at h
 exact h

theorem natFromUint_calls (u : Nat) (w : World) (hu : u < 18446744073709551616) :
 Calls Tryz.prog 108 #[.int .u64 u] w fun e w' => e = .returned (.string (ncan u)) ∧ Below w.heap.size w w' := by
 obtain ⟨a, ha⟩ : ∃ a, a = u % 4294967296 := ⟨_, rfl⟩
 obtain ⟨b, hb⟩ : ∃ b, b = u / 4294967296 := ⟨_, rfl⟩
 obtain ⟨h1, h2⟩ := two_val hu
 rw [← ha, ← hb] at h1 h2
 have HT := Lib.hid (text_calls (some ⟨w.heap.size, 0, none⟩) 2 [a, b] _ (krd_new2 w a b 152) h2 (by simp) (by simp))
 rw [h1] at HT
 have u1 : IntKind.u32.wrap (u : Int) = (a : Int) := by rw [IntKind.wrap_u32]; omega
 have u2 : (u : Int) % 4294967296 = (a : Int) := by omega
 have u3 : (u : Int) / 4294967296 = (b : Int) := by omega
 have hbl : b < 4294967296 := by omega
 clear ha hb h1 h2 hu
 go_enter Tryz.func108, Tryz.ntmps108
 go_wp2_with fail
 refine HT.out.mono ?_
 rintro e w1 ⟨rfl, hb1⟩
 have hba := ((Below.refl _ _).alloc (Nat.le_refl _) (.cells #[.int .u32 (a : Int), .int .u32 (b : Int)] 152)).trans (hb1.mono (by simp))
 clear hb1
 go_wp2_with fail
 go_ret
 exact ⟨rfl, hba⟩

theorem refFromUint_calls (u : Nat) (w : World) (hu : u < 18446744073709551616) :
 Calls Tryz.prog 88 #[.int .u64 u] w fun e w' => e = .returned (.string (ncan u)) ∧ Below w.heap.size w w' := by
 obtain ⟨a, ha⟩ : ∃ a, a = u % 4294967296 := ⟨_, rfl⟩
 obtain ⟨b, hb⟩ : ∃ b, b = u / 4294967296 := ⟨_, rfl⟩
 obtain ⟨h1, h2⟩ := two_val hu
 rw [← ha, ← hb] at h1 h2
 have HT := Lib.hid (textRef_calls (some ⟨w.heap.size, 0, none⟩) 2 [a, b] _ (krd_new2 w a b 152) h2 (by simp) (by simp))
 rw [h1] at HT
 have u1 : IntKind.u32.wrap (u : Int) = (a : Int) := by rw [IntKind.wrap_u32]; omega
 have u2 : (u : Int) % 4294967296 = (a : Int) := by omega
 have u3 : (u : Int) / 4294967296 = (b : Int) := by omega
 have hbl : b < 4294967296 := by omega
 clear ha hb h1 h2 hu
 go_enter Tryz.func88, Tryz.ntmps88
 go_wp2_with fail
 refine HT.out.mono ?_
 rintro e w1 ⟨rfl, hb1⟩
 have hba := ((Below.refl _ _).alloc (Nat.le_refl _) (.cells #[.int .u32 (a : Int), .int .u32 (b : Int)] 152)).trans (hb1.mono (by simp))
 clear hb1
 go_wp2_with fail
 go_ret
 exact ⟨rfl, hba⟩

end Go.Proofs.YtjlicnhkemfmiaaGreatDoor

/- the definition's times. -/
namespace Go.Proofs.YtjlicnhkemfmiaaGreatDoor
open Go.RowKit

end Go.Proofs.YtjlicnhkemfmiaaGreatDoor

/- the definition's plus, minus. -/
namespace Go.Proofs.YtjlicnhkemfmiaaGreatDoor
open Go.RowKit

end Go.Proofs.YtjlicnhkemfmiaaGreatDoor

/- the definition's minus. -/
namespace Go.Proofs.YtjlicnhkemfmiaaGreatDoor
open Go.RowKit

end Go.Proofs.YtjlicnhkemfmiaaGreatDoor

/- natural.Compare (strings.Compare), Subtract. -/
namespace Go.Proofs.YtjlicnhkemfmiaaGreatDoor
open Go.RowKit

theorem compareString_calls (a b : ByteArray) (w : World) :
 Calls Tryz.prog 106 #[.string a, .string b] w fun e w' => e = .returned (.int .i64 (Lib.compareBytes a.data.toList b.data.toList)) ∧ w' = w := by
 go_enter Tryz.func106, Tryz.ntmps106
 go_wp2
 rw [run_callFunc_extern Tryz.func128 (by kernel_rfl) (by kernel_rfl) (by kernel_rfl) (e := Extern.BytealgCompare.compare) (by kernel_rfl), Lib.run_compareString]
 simp only [Result.andThen]
 rw [Oper.upon_value]
 go_wp2
 go_ret
 exact ⟨rfl, rfl⟩

theorem strCompare_calls (a b : ByteArray) (w : World) :
 Calls Tryz.prog 75 #[.string a, .string b] w fun e w' => e = .returned (.int .i64 (Lib.compareBytes a.data.toList b.data.toList)) ∧ w' = w := by
 go_enter Tryz.func75, Tryz.ntmps75
 go_wp2_with (go_at_call 106; refine (compareString_calls _ _ _).mono ?_; rintro e w' ⟨rfl, rfl⟩)
 go_ret
 exact ⟨rfl, rfl⟩

/-- strings of the same length compare as their numbers -/
theorem cmp_num : ∀ (a b : List UInt8), a.length = b.length → Lib.compareBytes a b = cmpN (num a) (num b)
 | [], [], _ => rfl
 | [], _ :: _, h => by simp at h
 | _ :: _, [], h => by simp at h
 | x :: a, y :: b, h => by
  have hl : a.length = b.length := by simpa using h
  have ih := cmp_num a b hl
  have ha := num_lt a
  have hb := num_lt b
  rw [Lib.compareBytes, num_cons, num_cons, ← hl]
  rw [hl.symm] at hb
  generalize 256 ^ a.length = P at *
  have hx : ∀ u v : UInt8, u < v ↔ u.toNat < v.toNat := fun u v => UInt8.lt_iff_toNat_lt
  by_cases h1 : x < y
  ·
   rw [if_pos h1]
   have h2 := (hx x y).1 h1
   have h3 : P * (x.toNat + 1) ≤ P * y.toNat := Nat.mul_le_mul_left _ h2
   rw [Nat.mul_add] at h3
   unfold cmpN; rw [if_pos (by omega)]
  ·
   rw [if_neg h1]
   by_cases h2 : y < x
   ·
    rw [if_pos h2]
    have h3 := (hx y x).1 h2
    have h4 : P * (y.toNat + 1) ≤ P * x.toNat := Nat.mul_le_mul_left _ h3
    rw [Nat.mul_add] at h4
    unfold cmpN; rw [if_neg (by omega), if_pos (by omega)]
   ·
    rw [if_neg h2, ih]
    have h3 : x.toNat = y.toNat := by
     have := mt (hx x y).2 h1
     have := mt (hx y x).2 h2
     omega
    rw [h3]
    simp only [cmpN, Nat.add_lt_add_iff_right]

theorem cmp_canon_len {a b : Nat} (h : (canon a).length < (canon b).length) : a < b := by
 have hb : b ≠ 0 := by rintro rfl; rw [canon_zero] at h; simp at h
 have h1 := num_lt (canon a)
 rw [num_canon] at h1
 have h2 := pow_le_canon hb
 have h3 : 256 ^ (canon a).length ≤ 256 ^ ((canon b).length - 1) := Nat.pow_le_pow_right (by omega) (by omega)
 omega

theorem natCompare_calls (s t : ByteArray) (w : World) (hs : s.size ≤ 1000000000) (ht : t.size ≤ 1000000000) :
 Calls Tryz.prog 39 #[.string s, .string t] w fun e w' => e = .returned (.int .i64 (cmpN (snum s) (snum t))) ∧ w' = w := by
 have HN1 := Lib.hid (fun w => normalize_calls s w)
 have HN2 := Lib.hid (fun w => normalize_calls t w)
 have hs1 := Nat.le_trans (ncan_snum_size s) hs
 have ht1 := Nat.le_trans (ncan_snum_size t) ht
 obtain ⟨a, ha⟩ : ∃ a, a = snum s := ⟨_, rfl⟩
 obtain ⟨b, hb⟩ : ∃ b, b = snum t := ⟨_, rfl⟩
 rw [← ha] at HN1 hs1 ⊢
 rw [← hb] at HN2 ht1 ⊢
 obtain ⟨x, hx⟩ : ∃ x, x = ncan a := ⟨_, rfl⟩
 obtain ⟨y, hy⟩ : ∃ y, y = ncan b := ⟨_, rfl⟩
 rw [← hx] at HN1 hs1
 rw [← hy] at HN2 ht1
 have hxs : x.size = (canon a).length := by rw [hx, ncan_size]
 have hys : y.size = (canon b).length := by rw [hy, ncan_size]
 have hxd : x.data.toList = canon a := by rw [hx]; rfl
 have hyd : y.data.toList = canon b := by rw [hy]; rfl
 clear ha hb hx hy hs ht
 by_cases hl : x.size = y.size
 ·
  have HE : Hid (Lib.compareBytes x.data.toList y.data.toList = cmpN a b) := by
   show _ = _
   rw [hxd, hyd, cmp_num _ _ (by omega), num_canon, num_canon]
  have hne : ((x.size : Int) != (y.size : Int)) = false := by simp [hl]
  clear hxs hys hxd hyd hl
  go_enter Tryz.func39, Tryz.ntmps39
  go_wp2_with fail
  refine (HN1.out _).mono ?_
  rintro e w1 ⟨rfl, rfl⟩
  go_wp2_with fail
  refine (HN2.out _).mono ?_
  rintro e w1 ⟨rfl, rfl⟩
  go_wp2_with (go_at_call 75; refine (strCompare_calls _ _ _).mono ?_; rintro e w' ⟨rfl, rfl⟩)
  go_ret
  exact ⟨ret_int HE.out, rfl⟩
 ·
  have HE : Hid (sgn ((x.size : Int) - (y.size : Int)) = cmpN a b) := by
   show _ = _
   rcases Nat.lt_or_ge x.size y.size with h | h
   ·
    have := cmp_canon_len (a := a) (b := b) (by omega)
    rw [sgn_neg (by omega)]; unfold cmpN; rw [if_pos this]
   ·
    have := cmp_canon_len (a := b) (b := a) (by omega)
    rw [sgn_pos (by omega)]; unfold cmpN; rw [if_neg (by omega), if_pos this]
  have hne : ((x.size : Int) != (y.size : Int)) = true := by simp; omega
  clear hxs hys hxd hyd hl
  go_enter Tryz.func39, Tryz.ntmps39
  go_wp2_with fail
  refine (HN1.out _).mono ?_
  rintro e w1 ⟨rfl, rfl⟩
  go_wp2_with fail
  refine (HN2.out _).mono ?_
  rintro e w1 ⟨rfl, rfl⟩
  go_wp2_with (go_at_call 74; refine (sign_calls _ _).mono ?_; rintro e w' ⟨rfl, rfl⟩)
  go_ret
  exact ⟨ret_int HE.out, rfl⟩

/-- what Subtract answers -/
def SubAns (a b : Nat) (w : World) (e : Ending) (w' : World) : Prop :=
 e = .returned (if a < b then .tuple #[.string ⟨#[]⟩, .bool false] else .tuple #[.string (ncan (a - b)), .bool true]) ∧ Below w.heap.size w w'

theorem snum_len8' {s : ByteArray} (hs : s.size ≤ 100000000) : (limbs (snum s)).length ≤ 100000000 := by
 rw [limbs_len_canon]; have := canon_num_len s.data.toList; rw [← Lib.size_eq] at this; show ((canon (num s.data.toList)).length + 3) / 4 ≤ _; omega
theorem limbs_mono' {a b : Nat} (h : a ≤ b) : (limbs a).length ≤ (limbs b).length := by
 rcases Nat.lt_or_ge (limbs b).length (limbs a).length with h2 | h2
 ·
  have := lt_of_len h2; omega
 ·
  exact h2

theorem natSubtract_calls (s t : ByteArray) (w : World) (hs : s.size ≤ 100000000) (ht : t.size ≤ 100000000) :
 Calls Tryz.prog 62 #[.string s, .string t] w fun e w' => SubAns (snum s) (snum t) w e w' := by
 have HP1 := Lib.hid (fun w => parse_calls s w (by omega))
 have HP2 := Lib.hid (fun w => parse_calls t w (by omega))
 have HLA := Lib.hid (snum_len8' hs)
 have HLB := Lib.hid (snum_len8' ht)
 obtain ⟨a, ha⟩ : ∃ a, a = snum s := ⟨_, rfl⟩
 obtain ⟨b, hb⟩ : ∃ b, b = snum t := ⟨_, rfl⟩
 rw [← ha] at HP1 HLA ⊢
 rw [← hb] at HP2 HLB ⊢
 clear ha hb hs ht
 go_enter Tryz.func62, Tryz.ntmps62
 go_wp2_with fail
 refine (HP1.out _).mono ?_
 rintro e w1 ⟨A, ca, rfl, hca, hra, hb1⟩
 go_wp2_with fail
 refine (HP2.out _).mono ?_
 rintro e w2 ⟨B, cb, rfl, hcb, hrb, hb2⟩
 have HBEL : Hid (Below w.heap.size w w2) := hb1.trans (hb2.mono hb1.size)
 have HRA := Lib.hid (hra.next hb2)
 have HRB := Lib.hid hrb
 have HC := Lib.hid (compare_calls A B ca cb a b w2 HRA.out HRB.out (by have := HLA.out; omega) (by have := HLB.out; omega))
 clear hra hrb hb1 hb2
 by_cases hlt : a < b
 ·
  have hcm : cmpN a b = -1 := if_pos hlt
  rw [hcm] at HC
  have HLT := Lib.hid hlt
  clear hcm hlt
  go_wp2_with fail
  refine HC.out.mono ?_
  rintro e w3 ⟨rfl, hb3⟩
  have HB3 := ben HBEL hb3
  clear hb3
  go_wp2_with fail
  go_ret2
  refine ⟨?_, HB3.out⟩
  rw [if_pos HLT.out]; rfl
 ·
  have hcm : 0 ≤ cmpN a b := by unfold cmpN; rw [if_neg hlt]; split <;> omega
  obtain ⟨cm, hcm1⟩ : ∃ cm, cm = cmpN a b := ⟨_, rfl⟩
  rw [← hcm1] at HC hcm
  have HLT := Lib.hid hlt
  clear hcm1 hlt
  have hcm2 : ¬ cm < 0 := by omega
  go_wp2_with fail
  refine HC.out.mono ?_
  rintro e w3 ⟨rfl, hb3⟩
  have HB3 := ben HBEL hb3
  have HS := Lib.hid (subtract_calls A B ca cb a b w3 (HRA.out.next hb3) (HRB.out.next hb3) (by have := HLA.out; omega) (by have := HLT.out; omega))
  clear hb3
  go_wp2_with fail
  refine HS.out.mono ?_
  rintro e w4 ⟨D, cd, rfl, hcd, hrd, hb4⟩
  have HT := Lib.hid (text_calls D cd (limbs (a - b)) w4 hrd (limbs_dig _) hcd (by have := limbs_mono' (Nat.sub_le a b); have := HLA.out; omega))
  rw [valL_limbs] at HT
  have HB4 := ben HB3 hb4
  clear hrd hb4
  go_wp2_with fail
  refine HT.out.mono ?_
  rintro e w5 ⟨rfl, hb5⟩
  have HB5 := ben HB4 hb5
  clear hb5
  go_wp2_with fail
  go_ret2
  refine ⟨?_, HB5.out⟩
  rw [if_neg HLT.out]; rfl

end Go.Proofs.YtjlicnhkemfmiaaGreatDoor

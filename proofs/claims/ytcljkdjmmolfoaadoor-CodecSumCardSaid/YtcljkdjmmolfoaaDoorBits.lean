/- math/bits: Add32, Sub32. -/
import Derived.Test.YtcljkdjmmolfoaaDoorMem
set_option linter.unusedVariables false
set_option linter.unusedSimpArgs false
namespace Go.Proofs.YtcljkdjmmolfoaaDoor
open Go.RowKit

theorem bv_self (X : BitVec 32) : BitVec.ofInt IntKind.u32.bits (X.toNat : Int) = X := by
  apply BitVec.eq_of_toNat_eq
  rw [BitVec.toNat_ofInt]
  have := X.isLt
  show ((X.toNat : Int) % 4294967296).toNat = X.toNat
  omega

theorem bop_and (X Y : BitVec 32) : bits .and .u32 (X.toNat : Int) (Y.toNat : Int) = ((X &&& Y).toNat : Int) := by
  have h := (X &&& Y).isLt
  simp only [bits]
  rw [bv_self, bv_self]
  exact IntWalk.u32_in ((X &&& Y).toNat : Int) ⟨Int.natCast_nonneg _, by omega⟩
theorem bop_or (X Y : BitVec 32) : bits .or .u32 (X.toNat : Int) (Y.toNat : Int) = ((X ||| Y).toNat : Int) := by
  have h := (X ||| Y).isLt
  simp only [bits]
  rw [bv_self, bv_self]
  exact IntWalk.u32_in ((X ||| Y).toNat : Int) ⟨Int.natCast_nonneg _, by omega⟩
theorem bop_xor (X Y : BitVec 32) : bits .xor .u32 (X.toNat : Int) (Y.toNat : Int) = ((X ^^^ Y).toNat : Int) := by
  have h := (X ^^^ Y).isLt
  simp only [bits]
  rw [bv_self, bv_self]
  exact IntWalk.u32_in ((X ^^^ Y).toNat : Int) ⟨Int.natCast_nonneg _, by omega⟩

theorem ret_two {k1 k2 : IntKind} {a b c d : Int} (h1 : a = c) (h2 : b = d) : Ending.returned (.tuple #[.int k1 a, .int k2 b]) = .returned (.tuple #[.int k1 c, .int k2 d]) := by rw [h1, h2]

theorem bv_nat (x : Nat) (h : x < 4294967296) : (x : Int) = ((BitVec.ofNat 32 x).toNat : Int) := by
  rw [BitVec.toNat_ofNat, Nat.mod_eq_of_lt (by omega)]

theorem msb_div (X : BitVec 32) : X.toNat / 2147483648 = if X.msb then 1 else 0 := by
  have h := X.isLt
  rw [BitVec.msb_eq_decide]
  by_cases hh : 2147483648 ≤ X.toNat
  · rw [if_pos (by simpa using hh)]; omega
  · rw [if_neg (by simpa using hh)]; omega

def brw (x y b : Nat) : Nat := if x < y + b then 1 else 0

theorem sub_bits (x y b : Nat) (hx : x < 4294967296) (hy : y < 4294967296) (hb : b ≤ 1) :
    bits BinOp.or IntKind.u32 (bits BinOp.and IntKind.u32 (bits BinOp.xor IntKind.u32 IntKind.u32.max (x : Int)) (y : Int)) (bits BinOp.and IntKind.u32 (bits BinOp.xor IntKind.u32 IntKind.u32.max (bits BinOp.xor IntKind.u32 (x : Int) (y : Int))) (((x : Int) - (y : Int) - (b : Int)) % 4294967296)) / 2147483648 = ((brw x y b : Nat) : Int) := by
  have em : IntKind.u32.max = ((BitVec.allOnes 32).toNat : Int) := by decide
  obtain ⟨d, hd⟩ : ∃ d, d = (x + 8589934592 - y - b) % 4294967296 := ⟨_, rfl⟩
  have hd1 : ((x : Int) - (y : Int) - (b : Int)) % 4294967296 = (d : Int) := by omega
  have hdl : d < 4294967296 := by omega
  rw [hd1, em, bv_nat x hx, bv_nat y hy, bv_nat d hdl]
  rw [bop_xor, bop_and, bop_xor, bop_xor, bop_and, bop_or]
  have hX : (BitVec.ofNat 32 x).toNat = x := by rw [BitVec.toNat_ofNat, Nat.mod_eq_of_lt (by omega)]
  have hY : (BitVec.ofNat 32 y).toNat = y := by rw [BitVec.toNat_ofNat, Nat.mod_eq_of_lt (by omega)]
  have hD : (BitVec.ofNat 32 d).toNat = d := by rw [BitVec.toNat_ofNat, Nat.mod_eq_of_lt (by omega)]
  generalize BitVec.ofNat 32 x = X at *
  generalize BitVec.ofNat 32 y = Y at *
  generalize BitVec.ofNat 32 d = D at *
  have hh := msb_div ((BitVec.allOnes 32 ^^^ X) &&& Y ||| (BitVec.allOnes 32 ^^^ (X ^^^ Y)) &&& D)
  have e : ∀ n : Nat, ((n : Int) / 2147483648) = ((n / 2147483648 : Nat) : Int) := fun n => by omega
  rw [e, hh]
  have mx : X.msb = decide (2147483648 ≤ x) := by rw [BitVec.msb_eq_decide, hX]
  have my : Y.msb = decide (2147483648 ≤ y) := by rw [BitVec.msb_eq_decide, hY]
  have md : D.msb = decide (2147483648 ≤ d) := by rw [BitVec.msb_eq_decide, hD]
  simp only [BitVec.msb_or, BitVec.msb_and, BitVec.msb_xor, mx, my, md]
  have ma : (BitVec.allOnes 32).msb = true := by decide
  rw [ma]
  unfold brw
  by_cases h1 : 2147483648 ≤ x <;> by_cases h2 : 2147483648 ≤ y <;> by_cases h3 : 2147483648 ≤ d <;> by_cases h4 : x < y + b <;> simp [h1, h2, h3, h4] <;> omega

theorem add32_calls (x y c : Nat) (w : World) (hx : x < 4294967296) (hy : y < 4294967296) (hc : c < 4294967296) :
    Calls Tryd.prog 97 #[.int .u32 x, .int .u32 y, .int .u32 c] w fun e w' => e = .returned (.tuple #[.int .u32 (((x + y + c) % 4294967296 : Nat) : Int), .int .u32 (((x + y + c) / 4294967296 : Nat) : Int)]) ∧ w' = w := by
  have h1 : (x : Int) + (y : Int) + (c : Int) ≤ 18446744073709551615 := by omega
  have HV : Hid (Ending.returned (.tuple #[.int .u32 (((x : Int) + (y : Int) + (c : Int)) % 4294967296), .int .u32 (((x : Int) + (y : Int) + (c : Int)) / 4294967296)]) = Ending.returned (.tuple #[.int .u32 (((x + y + c) % 4294967296 : Nat) : Int), .int .u32 (((x + y + c) / 4294967296 : Nat) : Int)])) := rfl
  obtain ⟨E, hE⟩ : ∃ E, E = Ending.returned (.tuple #[.int .u32 (((x + y + c) % 4294967296 : Nat) : Int), .int .u32 (((x + y + c) / 4294967296 : Nat) : Int)]) := ⟨_, rfl⟩
  rw [← hE] at HV ⊢
  clear hE
  go_enter Tryd.func97, Tryd.ntmps97
  go_wp2_with fail
  go_ret2
  exact ⟨HV.out, rfl⟩

theorem sub32_calls (x y b : Nat) (w : World) (hx : x < 4294967296) (hy : y < 4294967296) (hb : b ≤ 1) :
    Calls Tryd.prog 96 #[.int .u32 x, .int .u32 y, .int .u32 b] w fun e w' => e = .returned (.tuple #[.int .u32 (((x + 4294967296 - y - b) % 4294967296 : Nat) : Int), .int .u32 ((brw x y b : Nat) : Int)]) ∧ w' = w := by
  obtain ⟨E, hE⟩ : ∃ E, E = Ending.returned (.tuple #[.int .u32 (((x + 4294967296 - y - b) % 4294967296 : Nat) : Int), .int .u32 ((brw x y b : Nat) : Int)]) := ⟨_, rfl⟩
  rw [← hE]
  have HE := Lib.hid hE
  have HB := Lib.hid (sub_bits x y b hx hy hb)
  have hsg : IntKind.u32.signed = false := rfl
  clear hE
  go_enter Tryd.func96, Tryd.ntmps96
  go_wp2_with fail
  go_ret2
  refine ⟨?_, rfl⟩
  rw [HE.out]
  exact ret_two (by omega) HB.out

end Go.Proofs.YtcljkdjmmolfoaaDoor

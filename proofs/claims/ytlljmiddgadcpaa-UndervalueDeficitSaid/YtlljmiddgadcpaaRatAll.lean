/- Merged of Rat RatRef RedA RedB RedC RatRed RatTimes RatSmall PlusA PlusB PlusC RatLess. -/
import Derived.Test.YtlljmiddgadcpaaNum
import Derived.Test.YtlljmiddgadcpaaMem
import Derived.Test.YtlljmiddgadcpaaRefDiv
import Derived.Test.YtlljmiddgadcpaaUint
import Derived.Test.YtlljmiddgadcpaaTimes
import Derived.Deep.RegionHeld3
import Derived.Test.YtlljmiddgadcpaaPlus
import Derived.Test.YtlljmiddgadcpaaMinus
/- Rational numbers in the program's form: sign, numerator, denominator; plain laws. Nothing of the program. -/
set_option linter.unusedVariables false
set_option linter.unusedSimpArgs false
namespace Go.Proofs.Ytlljmiddgadcpaa
open Go.RowKit

def rsg (neg : Bool) (n : Nat) : Int := if neg then -(n : Int) else n
theorem natAbs_rsg (b : Bool) (n : Nat) : (rsg b n).natAbs = n := by unfold rsg; split <;> simp
theorem rsg_zero (b : Bool) : rsg b 0 = 0 := by unfold rsg; split <;> simp
theorem rsg_lt {b : Bool} {n : Nat} (h : n ≠ 0) : decide (rsg b n < 0) = b := by
  cases b <;> simp [rsg] <;> omega
theorem rsg_self (z : Int) : rsg (decide (z < 0)) z.natAbs = z := by
  unfold rsg; by_cases h : z < 0 <;> simp [h] <;> omega

def rneg (q : Rat) : Bool := decide (q.num < 0)
def rv (neg : Bool) (n d : Nat) : Rat := mkRat (rsg neg n) d
theorem rv_zero (b : Bool) (d : Nat) : rv b 0 d = 0 := by rw [rv, rsg_zero, Rat.zero_mkRat]
theorem rv_self (q : Rat) : rv (rneg q) q.num.natAbs q.den = q := by
  rw [rv, rneg, rsg_self, Rat.mkRat_self]
theorem rv_den {b : Bool} {n d : Nat} (h : d ≠ 0) : (rv b n d).den = d / Nat.gcd n d := by
  rw [rv, Rat.den_mkRat, if_neg h, natAbs_rsg, Nat.gcd_comm]
theorem rv_num {b : Bool} {n d : Nat} (h : d ≠ 0) : (rv b n d).num.natAbs = n / Nat.gcd n d := by
  rw [rv, Rat.num_mkRat, if_neg h, natAbs_rsg, Nat.gcd_comm, Int.natAbs_ediv_of_dvd, natAbs_rsg, Int.natAbs_natCast]
  rw [← Int.dvd_natAbs, natAbs_rsg]
  exact Int.ofNat_dvd.2 (Nat.gcd_dvd_left n d)
theorem rv_neg {b : Bool} {n d : Nat} (hn : n ≠ 0) (h : d ≠ 0) : rneg (rv b n d) = b := by
  have h1 : rv b n d ≠ 0 := by rw [rv, Rat.mkRat_ne_zero h]; intro e; have := natAbs_rsg b n; rw [e] at this; simp at this; exact hn this.symm
  rw [rneg, rv, Rat.num_mkRat, if_neg h, natAbs_rsg]
  have hg : 0 < Nat.gcd d n := Nat.gcd_pos_of_pos_left _ (Nat.pos_of_ne_zero h)
  cases b
  · have : 0 ≤ rsg false n / ((d.gcd n : Nat) : Int) := Int.ediv_nonneg (by simp [rsg]) (by simp)
    exact decide_eq_false (by omega)
  · have : rsg true n / ((d.gcd n : Nat) : Int) < 0 := Int.ediv_neg_of_neg_of_pos (by simp [rsg]; omega) (by omega)
    exact decide_eq_true this
theorem rv_add_same {a b : Rat} (h : rneg a = rneg b) : a + b = rv (rneg a) (a.num.natAbs * b.den + b.num.natAbs * a.den) (a.den * b.den) := by
  rw [Rat.add_def', rv]
  congr 1
  have ha := rsg_self a.num
  have hb := rsg_self b.num
  rw [show decide (a.num < 0) = rneg a from rfl] at ha
  rw [show decide (b.num < 0) = rneg b from rfl, ← h] at hb
  rw [← ha, ← hb, natAbs_rsg, natAbs_rsg]
  cases rneg a <;> simp [rsg, Int.neg_mul] <;> omega
theorem rv_add_ge {a b : Rat} (h : rneg a ≠ rneg b) (hge : b.num.natAbs * a.den ≤ a.num.natAbs * b.den) : a + b = rv (rneg a) (a.num.natAbs * b.den - b.num.natAbs * a.den) (a.den * b.den) := by
  rw [Rat.add_def', rv]
  congr 1
  have ha := rsg_self a.num
  have hb := rsg_self b.num
  rw [show decide (a.num < 0) = rneg a from rfl] at ha
  rw [show decide (b.num < 0) = rneg b from rfl] at hb
  rw [← ha, ← hb, natAbs_rsg, natAbs_rsg]
  cases h1 : rneg a <;> cases h2 : rneg b <;> simp [h1, h2] at h <;> simp [rsg, Int.neg_mul] <;> omega
theorem rv_add_lt {a b : Rat} (h : rneg a ≠ rneg b) (hlt : a.num.natAbs * b.den < b.num.natAbs * a.den) : a + b = rv (rneg b) (b.num.natAbs * a.den - a.num.natAbs * b.den) (a.den * b.den) := by
  rw [Rat.add_comm, rv_add_ge (Ne.symm h) (by omega), Nat.mul_comm b.den]
theorem rv_mul (a b : Rat) : a * b = rv (rneg a != rneg b) (a.num.natAbs * b.num.natAbs) (a.den * b.den) := by
  rw [Rat.mul_def', rv]
  congr 1
  have ha := rsg_self a.num
  have hb := rsg_self b.num
  rw [show decide (a.num < 0) = rneg a from rfl] at ha
  rw [show decide (b.num < 0) = rneg b from rfl] at hb
  rw [← ha, ← hb, natAbs_rsg, natAbs_rsg]
  cases rneg a <;> cases rneg b <;> simp [rsg, Int.neg_mul, Int.mul_neg]
theorem rv_common (b : Bool) (n : Nat) {d k : Nat} (hk : k ≠ 0) : rv b (n * k) (d * k) = rv b n d := by
  rw [rv, rv, show rsg b (n * k) = rsg b n * (k : Int) by cases b <;> simp [rsg, Int.neg_mul], Rat.mkRat_mul_right hk]
theorem rv_div (a b : Rat) (hb : b ≠ 0) : a / b = rv (rneg a != rneg b) (a.num.natAbs * b.den) (a.den * b.num.natAbs) := by
  have h0 : b.num ≠ 0 := fun e => hb (Rat.num_eq_zero.1 e)
  have e : rv (rneg a != rneg b) (a.num.natAbs * b.den) (a.den * b.num.natAbs) * b = a := by
    conv => lhs; rhs; rw [← rv_self b]
    conv => rhs; rw [← rv_self a]
    have : rv (rneg a != rneg b) (a.num.natAbs * b.den) (a.den * b.num.natAbs) * rv (rneg b) b.num.natAbs b.den = rv (rneg a) (a.num.natAbs * (b.den * b.num.natAbs)) (a.den * (b.den * b.num.natAbs)) := by
      rw [rv, rv, Rat.mkRat_mul_mkRat, rv]
      have e1 : rsg (rneg a != rneg b) (a.num.natAbs * b.den) * rsg (rneg b) b.num.natAbs = rsg (rneg a) (a.num.natAbs * (b.den * b.num.natAbs)) := by
        cases rneg a <;> cases rneg b <;> simp [rsg, Int.neg_mul, Int.mul_neg, Int.mul_assoc]
      rw [e1, Nat.mul_assoc, Nat.mul_comm b.num.natAbs]
    rw [this, rv_common _ _ (Nat.mul_ne_zero b.den_nz (by omega))]
  conv => lhs; rw [← e]
  rw [Rat.mul_div_cancel hb]
theorem rneg_neg {a : Rat} : rneg (-a) = (!rneg a && decide (a.num.natAbs ≠ 0)) := by
  rw [rneg, rneg, show (-a).num = -a.num from rfl]
  by_cases h : a.num < 0 <;> by_cases h2 : a.num = 0 <;> simp [h, h2] <;> omega
theorem rneg_lt (a : Rat) : rneg a = decide (a < 0) := by
  rw [rneg, decide_eq_decide, Rat.lt_iff]
  simp
theorem lt_sub (a b : Rat) : decide (a < b) = rneg (a - b) := by
  rw [rneg_lt, decide_eq_decide]
  grind

/-! ### the fields -/
def rnum (q : Rat) : ByteArray := ncan q.num.natAbs
def rden (q : Rat) : ByteArray := if q.den = 1 then ⟨#[]⟩ else ncan q.den
def ratV (q : Rat) : Value := .agg #[.bool (rneg q), .string (rnum q), .string (rden q)]
def ratCells (q : Rat) : List Value := [.bool (rneg q), .string (rnum q), .string (rden q)]

theorem ncan_zero' : ncan 0 = ⟨#[]⟩ := by unfold ncan canon; rw [canB_zero]; rfl
theorem ncan_isEmpty' {n : Nat} (h : n ≠ 0) : (ncan n).toList.isEmpty = false := by
  rw [List.isEmpty_eq_false_iff]
  intro e
  refine h ?_
  have e2 : (ncan n).data.toList = [] := by rw [← e]; exact (ByteArray.toList_eq _).symm
  have e3 : ncan n = ncan 0 := by rw [ncan_zero']; exact congrArg ByteArray.mk (Array.toList_eq_nil_iff.1 e2)
  have := congrArg snum e3
  rwa [snum_ncan, snum_ncan] at this
theorem ncan_inj {a b : Nat} (h : ncan a = ncan b) : a = b := by
  have := congrArg snum h
  rwa [snum_ncan, snum_ncan] at this
theorem rden_inj {a b : Rat} (h : rden a = rden b) : a.den = b.den := by
  unfold rden at h
  by_cases h1 : a.den = 1 <;> by_cases h2 : b.den = 1
  · rw [h1, h2]
  · rw [if_pos h1, if_neg h2, ← ncan_zero'] at h
    exact absurd (ncan_inj h).symm b.den_nz
  · rw [if_neg h1, if_pos h2, ← ncan_zero'] at h
    exact absurd (ncan_inj h) a.den_nz
  · rw [if_neg h1, if_neg h2] at h
    exact ncan_inj h
theorem rat_inj {a b : Rat} (h1 : rneg a = rneg b) (h2 : rnum a = rnum b) (h3 : rden a = rden b) : a = b := by
  rw [← rv_self a, ← rv_self b, h1, ncan_inj h2, rden_inj h3]
theorem rneg_zero : rneg 0 = false := by decide
theorem rnum_zero : rnum 0 = ⟨#[]⟩ := by rw [rnum, show (0 : Rat).num.natAbs = 0 from rfl, ncan_zero']
theorem rden_zero : rden 0 = ⟨#[]⟩ := if_pos (show (0 : Rat).den = 1 from rfl)
theorem ratV_zero : ratV 0 = .agg #[.bool false, .string ⟨#[]⟩, .string ⟨#[]⟩] := by rw [ratV, rneg_zero, rnum_zero, rden_zero]

/-- numerator and denominator have at most k digits to base 256 -/
def Sz (k : Nat) (q : Rat) : Prop := q.num.natAbs < 256 ^ k ∧ q.den < 256 ^ k
theorem Sz.mono {k m : Nat} {q : Rat} (h : Sz k q) (hm : k ≤ m) : Sz m q :=
  ⟨Nat.lt_of_lt_of_le h.1 (Nat.pow_le_pow_right (by decide) hm), Nat.lt_of_lt_of_le h.2 (Nat.pow_le_pow_right (by decide) hm)⟩
theorem Sz.rv {k n d : Nat} {b : Bool} (hd : d ≠ 0) (h1 : n < 256 ^ k) (h2 : d < 256 ^ k) : Sz k (rv b n d) := by
  refine ⟨?_, ?_⟩
  · rw [rv_num hd]; exact Nat.lt_of_le_of_lt (Nat.div_le_self _ _) h1
  · rw [rv_den hd]; exact Nat.lt_of_le_of_lt (Nat.div_le_self _ _) h2
theorem pow_mul_lt {k m a b : Nat} (ha : a < 256 ^ k) (hb : b < 256 ^ m) : a * b < 256 ^ (k + m) := by
  rw [Nat.pow_add]; exact Nat.mul_lt_mul'' ha hb
theorem Sz.mul {k m : Nat} {a b : Rat} (ha : Sz k a) (hb : Sz m b) : Sz (k + m) (a * b) := by
  rw [rv_mul]
  exact Sz.rv (Nat.mul_ne_zero a.den_nz b.den_nz) (pow_mul_lt ha.1 hb.1) (pow_mul_lt ha.2 hb.2)
theorem pow_add_lt {k x y : Nat} (ha : x < 256 ^ k) (hb : y < 256 ^ k) : x + y < 256 ^ (k + 1) := by
  have : (256 : Nat) ^ (k + 1) = 256 ^ k * 256 := Nat.pow_succ _ _
  omega
theorem pow_succ_lt {k x : Nat} (ha : x < 256 ^ k) : x < 256 ^ (k + 1) := by
  have : (256 : Nat) ^ (k + 1) = 256 ^ k * 256 := Nat.pow_succ _ _
  omega
theorem Sz.add {k m : Nat} {a b : Rat} (ha : Sz k a) (hb : Sz m b) : Sz (k + m + 1) (a + b) := by
  have h1 := pow_mul_lt ha.1 hb.2
  have h2 : b.num.natAbs * a.den < 256 ^ (k + m) := by rw [Nat.add_comm]; exact pow_mul_lt hb.1 ha.2
  have h3 := pow_succ_lt (pow_mul_lt ha.2 hb.2)
  have hd := Nat.mul_ne_zero a.den_nz b.den_nz
  by_cases h : rneg a = rneg b
  · rw [rv_add_same h]
    exact Sz.rv hd (pow_add_lt h1 h2) h3
  · have e := pow_add_lt h1 h2
    rcases Nat.lt_or_ge (a.num.natAbs * b.den) (b.num.natAbs * a.den) with hl | hl
    · rw [rv_add_lt h hl]
      exact Sz.rv hd (by omega) h3
    · rw [rv_add_ge h hl]
      exact Sz.rv hd (by omega) h3
theorem Sz.neg {k : Nat} {a : Rat} (ha : Sz k a) : Sz k (-a) := ⟨by rw [show (-a).num = -a.num from rfl, Int.natAbs_neg]; exact ha.1, ha.2⟩
theorem Sz.sub {k m : Nat} {a b : Rat} (ha : Sz k a) (hb : Sz m b) : Sz (k + m + 1) (a - b) := by
  rw [Rat.sub_eq_add_neg]; exact ha.add hb.neg

/-- a struct of three cells that the call made, behind a further call -/
theorem three_facts {w w2 : World} {a b c : Value} {T : TypeId} (hb : Below (w.alloc (.cells #[a, b, c] T)).heap.size (w.alloc (.cells #[a, b, c] T)) w2) :
    w2.cell? ⟨w.heap.size, 0, none⟩ = some a ∧ w2.cell? ⟨w.heap.size, 1, none⟩ = some b ∧ w2.cell? ⟨w.heap.size, 2, none⟩ = some c ∧
    w2.frozen? ⟨w.heap.size, 0, none⟩ = false ∧ w2.frozen? ⟨w.heap.size, 1, none⟩ = false ∧ w2.frozen? ⟨w.heap.size, 2, none⟩ = false ∧ w.heap.size < w2.heap.size ∧ Hid (Below w.heap.size w w2) := by
  have hg : w2.heap[w.heap.size]? = some (.cells #[a, b, c] T (0, 0)) := (hb.block w.heap.size (by simp)).trans (heap_alloc_new _ _)
  refine ⟨?_, ?_, ?_, frozen_of_row w2 _ 0 _ _ hg, frozen_of_row w2 _ 1 _ _ hg, frozen_of_row w2 _ 2 _ _ hg, (Array.getElem?_eq_some_iff.1 hg).1, ((Below.refl _ _).alloc (Nat.le_refl _) _).trans (hb.mono (by simp))⟩
  · rw [cell_of_row w2 _ 0 _ _ (0, 0) hg]; rfl
  · rw [cell_of_row w2 _ 1 _ _ (0, 0) hg]; rfl
  · rw [cell_of_row w2 _ 2 _ _ (0, 0) hg]; rfl

theorem three_of {w2 : World} {g : Nat} {a b c : Value} {T : TypeId} (hg : w2.heap[g]? = some (.cells #[a, b, c] T (0, 0))) :
    w2.cell? ⟨g, 0, none⟩ = some a ∧ w2.cell? ⟨g, 1, none⟩ = some b ∧ w2.cell? ⟨g, 2, none⟩ = some c ∧
    w2.frozen? ⟨g, 0, none⟩ = false ∧ w2.frozen? ⟨g, 1, none⟩ = false ∧ w2.frozen? ⟨g, 2, none⟩ = false ∧ g < w2.heap.size := by
  refine ⟨?_, ?_, ?_, frozen_of_row w2 _ 0 _ _ hg, frozen_of_row w2 _ 1 _ _ hg, frozen_of_row w2 _ 2 _ _ hg, (Array.getElem?_eq_some_iff.1 hg).1⟩
  · rw [cell_of_row w2 _ 0 _ _ (0, 0) hg]; rfl
  · rw [cell_of_row w2 _ 1 _ _ (0, 0) hg]; rfl
  · rw [cell_of_row w2 _ 2 _ _ (0, 0) hg]; rfl
theorem blk_new (w : World) (o : Obj) : (w.alloc o).heap[w.heap.size]? = some o := heap_alloc_new _ _
theorem blk_next {w w' : World} {g : Nat} {o : Obj} (h : w.heap[g]? = some o) (hb : Below w.heap.size w w') : w'.heap[g]? = some o :=
  (hb.block g (Array.getElem?_eq_some_iff.1 h).1).trans h
theorem blk_alloc {w : World} {g : Nat} {o o' : Obj} (h : w.heap[g]? = some o) : (w.alloc o').heap[g]? = some o :=
  (Below.heap_alloc w o' g (Array.getElem?_eq_some_iff.1 h).1).trans h
theorem bel_alloc (w : World) (o : Obj) : Below w.heap.size w (w.alloc o) := (Below.refl _ _).alloc (Nat.le_refl _) _

end Go.Proofs.Ytlljmiddgadcpaa

/- insolvencyref1: rational numbers in terms of Rat: size, Int, den, reduced. -/
set_option linter.unusedVariables false
set_option linter.unusedSimpArgs false
namespace Go.Proofs.Ytlljmiddgadcpaa
open Go.RowKit

set_option maxHeartbeats 1000000 in
theorem size_calls (n : Int) (w : World) (h1 : -9223372036854775808 ≤ n) (h2 : n ≤ 9223372036854775807) (m : Nat) (hm : n.natAbs = m) :
    Calls Try.prog 22 #[.int .i64 n] w fun e w' => e = .returned (.int .u64 (m : Int)) ∧ w' = w := by
  by_cases h0 : n < 0
  · have u1 : IntKind.u64.wrap (-(n + 1)) = -(n + 1) := by rw [IntKind.wrap_u64]; omega
    have HM : Hid (-(n + 1) + 1 = (m : Int)) := by show _ = _; omega
    clear hm
    go_enter Try.func22, Try.ntmps22
    go_wp2_with fail
    go_ret
    exact ⟨ret_int (by have := HM.out; first | exact this | omega), rfl⟩
  · have HM : Hid (n = (m : Int)) := by show _ = _; omega
    have u1 : IntKind.u64.wrap n = n := by rw [IntKind.wrap_u64]; omega
    clear hm
    go_enter Try.func22, Try.ntmps22
    go_wp2_with fail
    go_ret
    exact ⟨ret_int (by rw [HM.out]), rfl⟩

theorem int_fields (n : Int) : rneg (n : Rat) = decide (n < 0) ∧ rnum (n : Rat) = ncan n.natAbs ∧ rden (n : Rat) = ⟨#[]⟩ := ⟨rfl, rfl, rfl⟩

set_option maxHeartbeats 1000000 in
theorem refInt_calls (n : Int) (w : World) (h1 : -9223372036854775808 ≤ n) (h2 : n ≤ 9223372036854775807) :
    Calls Try.prog 10 #[.int .i64 n] w fun e w' => e = .returned (ratV (n : Rat)) ∧ Below w.heap.size w w' := by
  obtain ⟨m, hm⟩ : ∃ m, n.natAbs = m := ⟨_, rfl⟩
  have HS := Lib.hid (fun w => size_calls n w h1 h2 m hm)
  have HU := Lib.hid (fun w => refFromUint_calls m w (by omega))
  obtain ⟨b, hb⟩ : ∃ b, b = decide (n < 0) := ⟨_, rfl⟩
  have HV : Hid (ratV (n : Rat) = .agg #[.bool b, .string (ncan m), .string ⟨#[]⟩]) := by
    show _ = _
    rw [ratV, (int_fields n).1, (int_fields n).2.1, (int_fields n).2.2, hm, hb]
  have hb2 : decide (n < 0) = b := hb.symm
  clear hm hb
  go_enter Try.func10, Try.ntmps10
  go_wp2_with fail
  refine (HS.out _).mono ?_
  rintro e w1 ⟨rfl, rfl⟩
  go_wp2_with fail
  refine (HU.out _).mono ?_
  rintro e w2 ⟨rfl, hb2⟩
  obtain ⟨c0, c1, c2, f0, f1, f2, hz, HBA⟩ := three_facts hb2
  clear hb2
  go_wp2_with fail
  exact bodyPost_ret (v := .agg #[.bool b, .string (ncan m), .string ⟨#[]⟩]) (by simp [results, Try.results10, go_sem, c0, c1, c2]) rfl ⟨by rw [HV.out], ((HBA.out.setCell (by simp) _).setCell (by simp) _).setCell (by simp) _⟩

theorem limbs_one1 : limbs 1 = [1] := by rw [limbs_pos (by decide)]; simp [limbs_zero]

/-- the fields of a limb slice's first element -/
theorem limbs_head {n : Nat} (h : n ≠ 0) : (limbs n)[0]? = some (n % 4294967296) := by rw [limbs_pos h]; rfl
theorem limbs_len1 {n : Nat} (h0 : n ≠ 0) (h : (limbs n).length = 1) : n < 4294967296 := by
  have := lt_pow_limbs n; rw [h] at this; simpa using this

set_option maxHeartbeats 1000000 in
theorem refDen_calls (q : Rat) (w : World) (hq : Sz 100000 q) :
    Calls Try.prog 20 #[ratV q] w fun e w' => ∃ A c, e = .returned (.slice A (limbs q.den).length c) ∧ (limbs q.den).length ≤ c ∧ KRd .u32 w' w'.heap.size A (limbs q.den) ∧ Below w.heap.size w w' := by
  unfold ratV
  obtain ⟨b, hb⟩ : ∃ b, b = rneg q := ⟨_, rfl⟩
  obtain ⟨s, hs⟩ : ∃ s, s = rnum q := ⟨_, rfl⟩
  obtain ⟨t, ht⟩ : ∃ t, t = rden q := ⟨_, rfl⟩
  rw [← hb, ← hs, ← ht]
  have HT := Lib.hid ht
  clear hb hs ht
  by_cases h1 : q.den = 1
  · have hte : t = ⟨#[]⟩ := by rw [HT.out, rden, if_pos h1]
    subst hte
    rw [h1, limbs_one1]
    clear HT h1 hq
    go_enter Try.func20, Try.ntmps20
    go_wp2_with fail
    go_ret
    refine ⟨_, _, rfl, by simp, ?_, ((Below.refl _ _).alloc (Nat.le_refl _) _).alloc (by simp) _⟩
    refine KRd.mk_ (by simp) fun j x hj => ?_
    have h := rd_new_cells (w.alloc (.cells #[.bool b, .string s, .string ⟨#[]⟩] 36)) [.int .u32 (1 : Int)] 60 (w.heap.size + 1) (by simp) j (.int .u32 (x : Int)) (by
      rcases j with _ | j
      · simp at hj; simp [← hj]
      · simp at hj)
    rw [Addr.add_lit] at h
    exact h
  · have hte : t = ncan q.den := by rw [HT.out, rden, if_neg h1]
    have hne : t.toList.isEmpty = false := by rw [hte]; exact ncan_isEmpty' q.den_nz
    have HL := fun w => limbsRef_calls t w (by rw [hte]; exact Nat.le_trans (Sm.can hq.2 (Nat.le_refl _)).2 (by decide))
    rw [hte, snum_ncan, ← hte] at HL
    have HL := Lib.hid HL
    clear HT hte h1 hq
    go_enter Try.func20, Try.ntmps20
    go_wp2_with fail
    refine (HL.out _).mono ?_
    rintro e w1 ⟨A, c, rfl, hc, hr, hb1⟩
    go_wp2_with fail
    go_ret
    exact ⟨A, c, rfl, hc, hr, ((Below.refl _ _).alloc (Nat.le_refl _) _).trans (hb1.mono (by simp))⟩

end Go.Proofs.Ytlljmiddgadcpaa

/- insolvencyref1.reduced. -/
set_option linter.unusedVariables false
set_option linter.unusedSimpArgs false
namespace Go.Proofs.Ytlljmiddgadcpaa
open Go.RowKit

theorem ratV_rv {neg : Bool} {x y : Nat} (hx : x ≠ 0) (hy : y ≠ 0) {x1 y1 : Nat} (h1 : x / Nat.gcd x y = x1) (h2 : y / Nat.gcd x y = y1) : ratV (rv neg x y) = .agg #[.bool neg, .string (ncan x1), .string (if y1 = 1 then ⟨#[]⟩ else ncan y1)] := by
  rw [ratV, rv_neg hx hy, rnum, rden, rv_num hy, rv_den hy, h1, h2]

/-- a number that is not 0: it is 1, or it has several digits, or a single one above 1 -/
theorem limbs_cases {n : Nat} (h : n ≠ 0) : n = 1 ∨ 1 < (limbs n).length ∨ ((limbs n).length = 1 ∧ 1 < n ∧ n < 4294967296) := by
  have hp := limbs_len_pos h
  rcases Nat.lt_or_ge 1 (limbs n).length with h1 | h1
  · exact .inr (.inl h1)
  · have h2 : (limbs n).length = 1 := by omega
    have := limbs_len1 h h2
    omega
theorem krd_head {w : World} {B n : Nat} {A : Option Addr} (h : KRd .u32 w B A (limbs n)) (h0 : n ≠ 0) (hl : n < 4294967296) : ∃ b off, A = some ⟨b, off, none⟩ ∧ b < B ∧ w.cell? ⟨b, off, none⟩ = some (.int .u32 (n : Int)) := by
  obtain ⟨b, off, e, hb, hc⟩ := h.at_ (limbs_head h0)
  rw [Nat.mod_eq_of_lt hl, Nat.add_zero] at hc
  exact ⟨b, off, e, hb, hc⟩

set_option maxHeartbeats 1000000 in
theorem reduced_zero (neg : Bool) (X Y : Option Addr) (cx cy y : Nat) (w : World) :
    Calls Try.prog 17 #[.bool neg, .slice X 0 cx, .slice Y (limbs y).length cy] w fun e w' => e = .returned (ratV 0) ∧ Below w.heap.size w w' := by
  rw [ratV_zero]
  go_enter Try.func17, Try.ntmps17
  go_wp2_with fail
  exact bodyPost_ret (v := .agg #[.bool false, .string ⟨#[]⟩, .string ⟨#[]⟩]) (by simp [results, Try.results17, go_sem]) rfl ⟨rfl, by first | exact bel_alloc _ _ | skip⟩

set_option maxHeartbeats 8000000 in
set_option maxRecDepth 100000 in
theorem reduced_one (neg : Bool) (X Y : Option Addr) (cx cy x y g x1 y1 : Nat) (w : World) (hrx : KRd .u32 w w.heap.size X (limbs x)) (hry : KRd .u32 w w.heap.size Y (limbs y)) (hlx : (limbs x).length ≤ 100000000) (hly : (limbs y).length ≤ 100000000) (hcx : (limbs x).length ≤ cx) (hcy : (limbs y).length ≤ cy)
    (hx0 : x ≠ 0) (hy0 : y ≠ 0) (hg : Nat.gcd x y = g) (hx1 : x / g = x1) (hy1 : y / g = y1) (hgc : g = 1) :
    Calls Try.prog 17 #[.bool neg, .slice X (limbs x).length cx, .slice Y (limbs y).length cy] w fun e w' => e = .returned (.agg #[.bool neg, .string (ncan x1), .string (if y1 = 1 then ⟨#[]⟩ else ncan y1)]) ∧ Below w.heap.size w w' := by
  have HC := fun W (hW : Below w.heap.size w W) => common_calls X Y cx cy x y W (hrx.next hW) (hry.next hW) hlx hly hcx hcy
  rw [hg] at HC
  have HC := Lib.hid HC
  have hg0 : g ≠ 0 := by rw [← hg]; exact Nat.gcd_ne_zero_left hx0
  have hx10 : x1 ≠ 0 := by
    rw [← hx1, ← hg]
    exact Nat.ne_of_gt (Nat.div_pos (Nat.le_of_dvd (Nat.pos_of_ne_zero hx0) (Nat.gcd_dvd_left x y)) (Nat.pos_of_ne_zero (by rw [hg]; exact hg0)))
  have hy10 : y1 ≠ 0 := by
    rw [← hy1, ← hg]
    exact Nat.ne_of_gt (Nat.div_pos (Nat.le_of_dvd (Nat.pos_of_ne_zero hy0) (Nat.gcd_dvd_right x y)) (Nat.pos_of_ne_zero (by rw [hg]; exact hg0)))
  have hlx1 : (limbs x1).length ≤ 100000000 := by rw [← hx1]; have := limbs_mono (Nat.div_le_self x g); omega
  have hly1 : (limbs y1).length ≤ 100000000 := by rw [← hy1]; have := limbs_mono (Nat.div_le_self y g); omega
  have hxp := limbs_len_pos hx0
  have hne0 : (((limbs x).length : Int) == 0) = false := by rw [beq_eq_false_iff_ne]; omega
  have HX := Lib.hid hrx
  have HY := Lib.hid hry
  have HLX := Lib.hid (And.intro hlx (And.intro hcx (And.intro hlx1 hx10)))
  have HLY := Lib.hid (And.intro hly (And.intro hcy (And.intro hly1 hy10)))
  have HG := Lib.hid (And.intro hg0 (And.intro hx1 hy1))
  clear hrx hry hlx hly hcx hcy hlx1 hly1 hx10 hy10 hx0 hg hx1 hy1 hxp hg0 hy0
  subst hgc
  go_enter Try.func17, Try.ntmps17
  go_wp2_with fail
  refine (HC.out _ (bel_alloc _ _)).mono ?_
  rintro e wc ⟨G, cg, rfl, hcg, hlg, hkg, hbc⟩
  have HRES := Lib.hid (blk_next (blk_new _ _) hbc)
  have HBC : Hid (Below w.heap.size w wc) := (bel_alloc _ _).trans (hbc.mono (by simp))
  have HX2 := Lib.hid (HX.out.next HBC.out)
  have HY2 := Lib.hid (HY.out.next HBC.out)

  have h1g : (limbs 1).length = 1 := by rw [limbs_one1]; rfl
  rw [h1g] at hcg ⊢
  obtain ⟨bg, og, rfl, hbg, hcg1⟩ := krd_head hkg (by decide) (by decide)
  have hx1x : x1 = x := by have := HG.out.2.1; rw [Nat.div_one] at this; exact this.symm
  have hy1y : y1 = y := by have := HG.out.2.2; rw [Nat.div_one] at this; exact this.symm
  subst hx1x hy1y
  clear hkg hbc h1g hlg HX HY HC

  have HT1 := textRef_calls X cx (limbs x1) wc HX2.out (limbs_dig _) HLX.out.2.1 (by have := HLX.out.2.2.1; omega)
  rw [valL_limbs] at HT1
  have HT1 := Lib.hid HT1
  rcases limbs_cases HLY.out.2.2.2 with hd | hd | ⟨hd1, hd2, hd3⟩
  · subst hd
    obtain ⟨bd, od, rfl, hbd, hcd⟩ := krd_head HY2.out (by decide) (by decide)
    have hl1 : (limbs 1).length = 1 := by rw [limbs_one1]; rfl
    rw [hl1]
    have HHC := Lib.hid hcd
    clear hcd hl1
    go_wp2_with fail
    refine HT1.out.mono ?_
    rintro e wt ⟨rfl, hbt⟩
    have hcd := (hbt.cell (p := ⟨bd, od, none⟩) hbd).trans HHC.out
    have hbd2 : bd < wt.heap.size := by have := hbt.size; omega
    have HBT : Hid (Below w.heap.size w wt) := HBC.out.trans (hbt.mono HBC.out.size)
    obtain ⟨c0, c1, c2, f0, f1, f2, hz⟩ := three_of (blk_next HRES.out hbt)
    clear hbt
    go_wp2_with fail
    exact bodyPost_ret (v := .agg #[.bool neg, .string (ncan x1), .string ⟨#[]⟩]) (by simp [results, Try.results17, go_sem, c0, c1, c2, hz, Nat.ne_of_lt hz, Nat.ne_of_gt hz]) rfl ⟨rfl, (((HBT.out.setCell (by simp) _).setCell (by simp) _).setCell (by simp) _).alloc (by simp <;> omega) _⟩
  · have t1 : decide ((1 : Int) < ((limbs y1).length : Int)) = true := decide_eq_true (by omega)
    have hy11 : y1 ≠ 1 := by rintro rfl; rw [limbs_one1] at hd; simp at hd
    have HN1 := Lib.hid hy11
    clear hd hy11
    go_wp2_with fail
    refine HT1.out.mono ?_
    rintro e wt ⟨rfl, hbt⟩
    have HBT : Hid (Below w.heap.size w wt) := HBC.out.trans (hbt.mono HBC.out.size)
    have HT2 := fun W (hW : Below wt.heap.size wt W) => textRef_calls Y cy (limbs y1) W ((HY2.out.next hbt).next hW) (limbs_dig _) HLY.out.2.1 (by have := HLY.out.2.2.1; omega)
    rw [valL_limbs] at HT2
    have HT2 := Lib.hid HT2
    have HRT := Lib.hid (blk_next HRES.out hbt)
    have hzt := HBT.out.size
    clear hbt
    go_wp2_with fail
    refine (HT2.out _ ?_).mono ?_
    · exact (Below.refl _ _).alloc (Nat.le_refl _) _
    rintro e wu ⟨rfl, hbu⟩
    have HBU : Hid (Below w.heap.size w wu) := HBT.out.trans ((((Below.refl _ _).alloc (Nat.le_refl _) _).trans (hbu.mono (by simp))).mono HBT.out.size)
    obtain ⟨c0, c1, c2, f0, f1, f2, hz⟩ := three_of (blk_next (blk_alloc HRT.out) hbu)
    obtain ⟨r0, r1, r2, s0, s1, s2, rz⟩ := three_of (blk_next (blk_new _ _) hbu)
    have hnt : w.heap.size ≠ wt.heap.size := by have := (three_of HRT.out).2.2.2.2.2.2; omega
    clear hbu
    go_wp2_with fail
    exact bodyPost_ret (v := .agg #[.bool neg, .string (ncan x1), .string (ncan y1)]) (by simp [results, Try.results17, go_sem, c0, c1, c2, r0, r1, r2, hz, rz, hnt, Ne.symm hnt]) rfl ⟨by first | rfl | rw [if_neg HN1.out], (((HBU.out.setCell (by simp <;> omega) _).setCell (by simp) _).setCell (by simp) _).setCell (by simp) _⟩
  · have hy11 : y1 ≠ 1 := by omega
    obtain ⟨bd, od, rfl, hbd, hcd⟩ := krd_head HY2.out (by omega) hd3
    have t1 : decide ((1 : Int) < (y1 : Int)) = true := decide_eq_true (by omega)
    have HHD := Lib.hid (And.intro hd1 (And.intro hd2 hd3))
    have HL1 := Lib.hid hd1
    obtain ⟨ly, hly⟩ : ∃ ly, ly = (limbs y1).length := ⟨_, rfl⟩
    rw [← hly] at hd1
    rw [← hly]
    subst hd1
    have HLY1 := Lib.hid hly
    have HHC := Lib.hid hcd
    have HN1 := Lib.hid hy11
    clear hcd hd2 hy11 hly
    go_wp2_with fail
    refine HT1.out.mono ?_
    rintro e wt ⟨rfl, hbt⟩
    have hcd := (hbt.cell (p := ⟨bd, od, none⟩) hbd).trans HHC.out
    have hbd2 : bd < wt.heap.size := by have := hbt.size; omega
    have HBT : Hid (Below w.heap.size w wt) := HBC.out.trans (hbt.mono HBC.out.size)
    have HT2 := fun W (hW : Below wt.heap.size wt W) => textRef_calls (some ⟨bd, od, none⟩) cy (limbs y1) W ((HY2.out.next hbt).next hW) (limbs_dig _) HLY.out.2.1 (by have := HLY.out.2.2.1; omega)
    rw [valL_limbs, ← HLY1.out] at HT2
    have HT2 := Lib.hid HT2
    have HRT := Lib.hid (blk_next HRES.out hbt)
    have hzt := HBT.out.size
    clear hbt
    go_wp2_with fail
    refine (HT2.out _ ?_).mono ?_
    · exact (Below.refl _ _).alloc (Nat.le_refl _) _
    rintro e wu ⟨rfl, hbu⟩
    have HBU : Hid (Below w.heap.size w wu) := HBT.out.trans ((((Below.refl _ _).alloc (Nat.le_refl _) _).trans (hbu.mono (by simp))).mono HBT.out.size)
    obtain ⟨c0, c1, c2, f0, f1, f2, hz⟩ := three_of (blk_next (blk_alloc HRT.out) hbu)
    obtain ⟨r0, r1, r2, s0, s1, s2, rz⟩ := three_of (blk_next (blk_new _ _) hbu)
    have hnt : w.heap.size ≠ wt.heap.size := by have := (three_of HRT.out).2.2.2.2.2.2; omega
    clear hbu
    go_wp2_with fail
    exact bodyPost_ret (v := .agg #[.bool neg, .string (ncan x1), .string (ncan y1)]) (by simp [results, Try.results17, go_sem, c0, c1, c2, r0, r1, r2, hz, rz, hnt, Ne.symm hnt]) rfl ⟨by first | rfl | rw [if_neg HN1.out], (((HBU.out.setCell (by simp <;> omega) _).setCell (by simp) _).setCell (by simp) _).setCell (by simp) _⟩


end Go.Proofs.Ytlljmiddgadcpaa

/- insolvencyref1.reduced: a common divisor of several digits. -/
set_option linter.unusedVariables false
set_option linter.unusedSimpArgs false
namespace Go.Proofs.Ytlljmiddgadcpaa
open Go.RowKit
set_option maxHeartbeats 8000000 in
set_option maxRecDepth 100000 in
theorem reduced_many (neg : Bool) (X Y : Option Addr) (cx cy x y g x1 y1 : Nat) (w : World) (hrx : KRd .u32 w w.heap.size X (limbs x)) (hry : KRd .u32 w w.heap.size Y (limbs y)) (hlx : (limbs x).length ≤ 100000000) (hly : (limbs y).length ≤ 100000000) (hcx : (limbs x).length ≤ cx) (hcy : (limbs y).length ≤ cy)
    (hx0 : x ≠ 0) (hy0 : y ≠ 0) (hg : Nat.gcd x y = g) (hx1 : x / g = x1) (hy1 : y / g = y1) (hgc : 1 < (limbs g).length) :
    Calls Try.prog 17 #[.bool neg, .slice X (limbs x).length cx, .slice Y (limbs y).length cy] w fun e w' => e = .returned (.agg #[.bool neg, .string (ncan x1), .string (if y1 = 1 then ⟨#[]⟩ else ncan y1)]) ∧ Below w.heap.size w w' := by
  have HC := fun W (hW : Below w.heap.size w W) => common_calls X Y cx cy x y W (hrx.next hW) (hry.next hW) hlx hly hcx hcy
  rw [hg] at HC
  have HC := Lib.hid HC
  have hg0 : g ≠ 0 := by rw [← hg]; exact Nat.gcd_ne_zero_left hx0
  have hx10 : x1 ≠ 0 := by
    rw [← hx1, ← hg]
    exact Nat.ne_of_gt (Nat.div_pos (Nat.le_of_dvd (Nat.pos_of_ne_zero hx0) (Nat.gcd_dvd_left x y)) (Nat.pos_of_ne_zero (by rw [hg]; exact hg0)))
  have hy10 : y1 ≠ 0 := by
    rw [← hy1, ← hg]
    exact Nat.ne_of_gt (Nat.div_pos (Nat.le_of_dvd (Nat.pos_of_ne_zero hy0) (Nat.gcd_dvd_right x y)) (Nat.pos_of_ne_zero (by rw [hg]; exact hg0)))
  have hlx1 : (limbs x1).length ≤ 100000000 := by rw [← hx1]; have := limbs_mono (Nat.div_le_self x g); omega
  have hly1 : (limbs y1).length ≤ 100000000 := by rw [← hy1]; have := limbs_mono (Nat.div_le_self y g); omega
  have hxp := limbs_len_pos hx0
  have hne0 : (((limbs x).length : Int) == 0) = false := by rw [beq_eq_false_iff_ne]; omega
  have HX := Lib.hid hrx
  have HY := Lib.hid hry
  have HLX := Lib.hid (And.intro hlx (And.intro hcx (And.intro hlx1 hx10)))
  have HLY := Lib.hid (And.intro hly (And.intro hcy (And.intro hly1 hy10)))
  have HG := Lib.hid (And.intro hg0 (And.intro hx1 hy1))
  clear hrx hry hlx hly hcx hcy hlx1 hly1 hx10 hy10 hx0 hg hx1 hy1 hxp hg0 hy0
  go_enter Try.func17, Try.ntmps17
  go_wp2_with fail
  refine (HC.out _ (bel_alloc _ _)).mono ?_
  rintro e wc ⟨G, cg, rfl, hcg, hlg, hkg, hbc⟩
  have HRES := Lib.hid (blk_next (blk_new _ _) hbc)
  have HBC : Hid (Below w.heap.size w wc) := (bel_alloc _ _).trans (hbc.mono (by simp))
  have HX2 := Lib.hid (HX.out.next HBC.out)
  have HY2 := Lib.hid (HY.out.next HBC.out)

  have HKG := Lib.hid hkg
  have HD1 := rdivide_calls X G cx cg x g wc HX2.out hkg HLX.out.1 hlg HLX.out.2.1 HG.out.1
  rw [HG.out.2.1] at HD1
  have HD1 := Lib.hid HD1
  clear hkg hbc HX HY HC
  have HLG := Lib.hid hlg
  have tg : decide ((1 : Int) < ((limbs g).length : Int)) = true := decide_eq_true (by omega)
  clear hgc hlg
  go_wp2_with fail
  refine HD1.out.mono ?_
  rintro e w1 ⟨Q1, cq1, R1, cr1, rfl, hcq1, hcr1, hrq1, hrr1, hb1⟩
  have HD2 := rdivide_calls Y G cy cg y g w1 (HY2.out.next hb1) (HKG.out.next hb1) HLY.out.1 HLG.out HLY.out.2.1 HG.out.1
  rw [HG.out.2.2] at HD2
  have HD2 := Lib.hid HD2
  have HQ1 := Lib.hid hrq1
  have HRES1 := Lib.hid (blk_next HRES.out hb1)
  have HB1 : Hid (Below w.heap.size w w1) := HBC.out.trans (hb1.mono HBC.out.size)
  clear hcr1 hrq1 hrr1 hb1
  go_wp2_with fail
  refine HD2.out.mono ?_
  rintro e w2 ⟨Q2, cq2, R2, cr2, rfl, hcq2, hcr2, hrq2, hrr2, hb2⟩
  have HQ1b := Lib.hid (HQ1.out.next hb2)
  have HQ2 := Lib.hid hrq2
  have HRES2 := Lib.hid (blk_next HRES1.out hb2)
  have HB2 : Hid (Below w.heap.size w w2) := HB1.out.trans (hb2.mono HB1.out.size)
  have HCQ1 := Lib.hid hcq1
  have HCQ2 := Lib.hid hcq2
  clear hcr2 hrq2 hrr2 hb2 hcq1 hcq2

  have HT1 := textRef_calls Q1 cq1 (limbs x1) w2 HQ1b.out (limbs_dig _) HCQ1.out (by have := HLX.out.2.2.1; omega)
  rw [valL_limbs] at HT1
  have HT1 := Lib.hid HT1
  rcases limbs_cases HLY.out.2.2.2 with hd | hd | ⟨hd1, hd2, hd3⟩
  · subst hd
    obtain ⟨bd, od, rfl, hbd, hcd⟩ := krd_head HQ2.out (by decide) (by decide)
    have hl1 : (limbs 1).length = 1 := by rw [limbs_one1]; rfl
    rw [hl1]
    have HHC := Lib.hid hcd
    clear hcd hl1
    go_wp2_with fail
    refine HT1.out.mono ?_
    rintro e wt ⟨rfl, hbt⟩
    have hcd := (hbt.cell (p := ⟨bd, od, none⟩) hbd).trans HHC.out
    have hbd2 : bd < wt.heap.size := by have := hbt.size; omega
    have HBT : Hid (Below w.heap.size w wt) := HB2.out.trans (hbt.mono HB2.out.size)
    obtain ⟨c0, c1, c2, f0, f1, f2, hz⟩ := three_of (blk_next HRES2.out hbt)
    clear hbt
    go_wp2_with fail
    exact bodyPost_ret (v := .agg #[.bool neg, .string (ncan x1), .string ⟨#[]⟩]) (by simp [results, Try.results17, go_sem, c0, c1, c2, hz, Nat.ne_of_lt hz, Nat.ne_of_gt hz]) rfl ⟨rfl, (((HBT.out.setCell (by simp) _).setCell (by simp) _).setCell (by simp) _).alloc (by simp <;> omega) _⟩
  · have t1 : decide ((1 : Int) < ((limbs y1).length : Int)) = true := decide_eq_true (by omega)
    have hy11 : y1 ≠ 1 := by rintro rfl; rw [limbs_one1] at hd; simp at hd
    have HN1 := Lib.hid hy11
    clear hd hy11
    go_wp2_with fail
    refine HT1.out.mono ?_
    rintro e wt ⟨rfl, hbt⟩
    have HBT : Hid (Below w.heap.size w wt) := HB2.out.trans (hbt.mono HB2.out.size)
    have HT2 := fun W (hW : Below wt.heap.size wt W) => textRef_calls Q2 cq2 (limbs y1) W ((HQ2.out.next hbt).next hW) (limbs_dig _) HCQ2.out (by have := HLY.out.2.2.1; omega)
    rw [valL_limbs] at HT2
    have HT2 := Lib.hid HT2
    have HRT := Lib.hid (blk_next HRES2.out hbt)
    have hzt := HBT.out.size
    clear hbt
    go_wp2_with fail
    refine (HT2.out _ ?_).mono ?_
    · exact (Below.refl _ _).alloc (Nat.le_refl _) _
    rintro e wu ⟨rfl, hbu⟩
    have HBU : Hid (Below w.heap.size w wu) := HBT.out.trans ((((Below.refl _ _).alloc (Nat.le_refl _) _).trans (hbu.mono (by simp))).mono HBT.out.size)
    obtain ⟨c0, c1, c2, f0, f1, f2, hz⟩ := three_of (blk_next (blk_alloc HRT.out) hbu)
    obtain ⟨r0, r1, r2, s0, s1, s2, rz⟩ := three_of (blk_next (blk_new _ _) hbu)
    have hnt : w.heap.size ≠ wt.heap.size := by have := (three_of HRT.out).2.2.2.2.2.2; omega
    clear hbu
    go_wp2_with fail
    exact bodyPost_ret (v := .agg #[.bool neg, .string (ncan x1), .string (ncan y1)]) (by simp [results, Try.results17, go_sem, c0, c1, c2, r0, r1, r2, hz, rz, hnt, Ne.symm hnt]) rfl ⟨by first | rfl | rw [if_neg HN1.out], (((HBU.out.setCell (by simp <;> omega) _).setCell (by simp) _).setCell (by simp) _).setCell (by simp) _⟩
  · have hy11 : y1 ≠ 1 := by omega
    obtain ⟨bd, od, rfl, hbd, hcd⟩ := krd_head HQ2.out (by omega) hd3
    have t1 : decide ((1 : Int) < (y1 : Int)) = true := decide_eq_true (by omega)
    have HHD := Lib.hid (And.intro hd1 (And.intro hd2 hd3))
    have HL1 := Lib.hid hd1
    obtain ⟨ly, hly⟩ : ∃ ly, ly = (limbs y1).length := ⟨_, rfl⟩
    rw [← hly] at hd1
    rw [← hly]
    subst hd1
    have HLY1 := Lib.hid hly
    have HHC := Lib.hid hcd
    have HN1 := Lib.hid hy11
    clear hcd hd2 hy11 hly
    go_wp2_with fail
    refine HT1.out.mono ?_
    rintro e wt ⟨rfl, hbt⟩
    have hcd := (hbt.cell (p := ⟨bd, od, none⟩) hbd).trans HHC.out
    have hbd2 : bd < wt.heap.size := by have := hbt.size; omega
    have HBT : Hid (Below w.heap.size w wt) := HB2.out.trans (hbt.mono HB2.out.size)
    have HT2 := fun W (hW : Below wt.heap.size wt W) => textRef_calls (some ⟨bd, od, none⟩) cq2 (limbs y1) W ((HQ2.out.next hbt).next hW) (limbs_dig _) HCQ2.out (by have := HLY.out.2.2.1; omega)
    rw [valL_limbs, ← HLY1.out] at HT2
    have HT2 := Lib.hid HT2
    have HRT := Lib.hid (blk_next HRES2.out hbt)
    have hzt := HBT.out.size
    clear hbt
    go_wp2_with fail
    refine (HT2.out _ ?_).mono ?_
    · exact (Below.refl _ _).alloc (Nat.le_refl _) _
    rintro e wu ⟨rfl, hbu⟩
    have HBU : Hid (Below w.heap.size w wu) := HBT.out.trans ((((Below.refl _ _).alloc (Nat.le_refl _) _).trans (hbu.mono (by simp))).mono HBT.out.size)
    obtain ⟨c0, c1, c2, f0, f1, f2, hz⟩ := three_of (blk_next (blk_alloc HRT.out) hbu)
    obtain ⟨r0, r1, r2, s0, s1, s2, rz⟩ := three_of (blk_next (blk_new _ _) hbu)
    have hnt : w.heap.size ≠ wt.heap.size := by have := (three_of HRT.out).2.2.2.2.2.2; omega
    clear hbu
    go_wp2_with fail
    exact bodyPost_ret (v := .agg #[.bool neg, .string (ncan x1), .string (ncan y1)]) (by simp [results, Try.results17, go_sem, c0, c1, c2, r0, r1, r2, hz, rz, hnt, Ne.symm hnt]) rfl ⟨by first | rfl | rw [if_neg HN1.out], (((HBU.out.setCell (by simp <;> omega) _).setCell (by simp) _).setCell (by simp) _).setCell (by simp) _⟩


end Go.Proofs.Ytlljmiddgadcpaa

/- insolvencyref1.reduced: a common divisor of one digit. -/
set_option linter.unusedVariables false
set_option linter.unusedSimpArgs false
namespace Go.Proofs.Ytlljmiddgadcpaa
open Go.RowKit
set_option maxHeartbeats 8000000 in
set_option maxRecDepth 100000 in
theorem reduced_few (neg : Bool) (X Y : Option Addr) (cx cy x y g x1 y1 : Nat) (w : World) (hrx : KRd .u32 w w.heap.size X (limbs x)) (hry : KRd .u32 w w.heap.size Y (limbs y)) (hlx : (limbs x).length ≤ 100000000) (hly : (limbs y).length ≤ 100000000) (hcx : (limbs x).length ≤ cx) (hcy : (limbs y).length ≤ cy)
    (hx0 : x ≠ 0) (hy0 : y ≠ 0) (hg : Nat.gcd x y = g) (hx1 : x / g = x1) (hy1 : y / g = y1) (hgc1 : (limbs g).length = 1) (hgc2 : 1 < g) (hgc3 : g < 4294967296) :
    Calls Try.prog 17 #[.bool neg, .slice X (limbs x).length cx, .slice Y (limbs y).length cy] w fun e w' => e = .returned (.agg #[.bool neg, .string (ncan x1), .string (if y1 = 1 then ⟨#[]⟩ else ncan y1)]) ∧ Below w.heap.size w w' := by
  have HC := fun W (hW : Below w.heap.size w W) => common_calls X Y cx cy x y W (hrx.next hW) (hry.next hW) hlx hly hcx hcy
  rw [hg] at HC
  have HC := Lib.hid HC
  have hg0 : g ≠ 0 := by rw [← hg]; exact Nat.gcd_ne_zero_left hx0
  have hx10 : x1 ≠ 0 := by
    rw [← hx1, ← hg]
    exact Nat.ne_of_gt (Nat.div_pos (Nat.le_of_dvd (Nat.pos_of_ne_zero hx0) (Nat.gcd_dvd_left x y)) (Nat.pos_of_ne_zero (by rw [hg]; exact hg0)))
  have hy10 : y1 ≠ 0 := by
    rw [← hy1, ← hg]
    exact Nat.ne_of_gt (Nat.div_pos (Nat.le_of_dvd (Nat.pos_of_ne_zero hy0) (Nat.gcd_dvd_right x y)) (Nat.pos_of_ne_zero (by rw [hg]; exact hg0)))
  have hlx1 : (limbs x1).length ≤ 100000000 := by rw [← hx1]; have := limbs_mono (Nat.div_le_self x g); omega
  have hly1 : (limbs y1).length ≤ 100000000 := by rw [← hy1]; have := limbs_mono (Nat.div_le_self y g); omega
  have hxp := limbs_len_pos hx0
  have hne0 : (((limbs x).length : Int) == 0) = false := by rw [beq_eq_false_iff_ne]; omega
  have HX := Lib.hid hrx
  have HY := Lib.hid hry
  have HLX := Lib.hid (And.intro hlx (And.intro hcx (And.intro hlx1 hx10)))
  have HLY := Lib.hid (And.intro hly (And.intro hcy (And.intro hly1 hy10)))
  have HG := Lib.hid (And.intro hg0 (And.intro hx1 hy1))
  clear hrx hry hlx hly hcx hcy hlx1 hly1 hx10 hy10 hx0 hg hx1 hy1 hxp hg0 hy0
  go_enter Try.func17, Try.ntmps17
  go_wp2_with fail
  refine (HC.out _ (bel_alloc _ _)).mono ?_
  rintro e wc ⟨G, cg, rfl, hcg, hlg, hkg, hbc⟩
  have HRES := Lib.hid (blk_next (blk_new _ _) hbc)
  have HBC : Hid (Below w.heap.size w wc) := (bel_alloc _ _).trans (hbc.mono (by simp))
  have HX2 := Lib.hid (HX.out.next HBC.out)
  have HY2 := Lib.hid (HY.out.next HBC.out)

  have HKG := Lib.hid hkg
  have HD1 := rdivide_calls X G cx cg x g wc HX2.out hkg HLX.out.1 hlg HLX.out.2.1 HG.out.1
  rw [HG.out.2.1] at HD1
  have HD1 := Lib.hid HD1
  clear hkg hbc HX HY HC
  have HLG := Lib.hid hlg
  obtain ⟨bg, og, rfl, hbg, hcg1⟩ := krd_head HKG.out HG.out.1 hgc3
  have tg : decide ((1 : Int) < (g : Int)) = true := decide_eq_true (by omega)
  rw [hgc1] at HD1 hcg ⊢
  have HGC1 := Lib.hid hgc1
  have hbg2 := hbg
  clear hgc2 hlg hgc1 hgc3
  go_wp2_with fail
  refine HD1.out.mono ?_
  rintro e w1 ⟨Q1, cq1, R1, cr1, rfl, hcq1, hcr1, hrq1, hrr1, hb1⟩
  have HD2 := rdivide_calls Y (some ⟨bg, og, none⟩) cy cg y g w1 (HY2.out.next hb1) (HKG.out.next hb1) HLY.out.1 HLG.out HLY.out.2.1 HG.out.1
  rw [HG.out.2.2, HGC1.out] at HD2
  have HD2 := Lib.hid HD2
  have HQ1 := Lib.hid hrq1
  have HRES1 := Lib.hid (blk_next HRES.out hb1)
  have HB1 : Hid (Below w.heap.size w w1) := HBC.out.trans (hb1.mono HBC.out.size)
  clear hcr1 hrq1 hrr1 hb1
  go_wp2_with fail
  refine HD2.out.mono ?_
  rintro e w2 ⟨Q2, cq2, R2, cr2, rfl, hcq2, hcr2, hrq2, hrr2, hb2⟩
  have HQ1b := Lib.hid (HQ1.out.next hb2)
  have HQ2 := Lib.hid hrq2
  have HRES2 := Lib.hid (blk_next HRES1.out hb2)
  have HB2 : Hid (Below w.heap.size w w2) := HB1.out.trans (hb2.mono HB1.out.size)
  have HCQ1 := Lib.hid hcq1
  have HCQ2 := Lib.hid hcq2
  clear hcr2 hrq2 hrr2 hb2 hcq1 hcq2

  have HT1 := textRef_calls Q1 cq1 (limbs x1) w2 HQ1b.out (limbs_dig _) HCQ1.out (by have := HLX.out.2.2.1; omega)
  rw [valL_limbs] at HT1
  have HT1 := Lib.hid HT1
  rcases limbs_cases HLY.out.2.2.2 with hd | hd | ⟨hd1, hd2, hd3⟩
  · subst hd
    obtain ⟨bd, od, rfl, hbd, hcd⟩ := krd_head HQ2.out (by decide) (by decide)
    have hl1 : (limbs 1).length = 1 := by rw [limbs_one1]; rfl
    rw [hl1]
    have HHC := Lib.hid hcd
    clear hcd hl1
    go_wp2_with fail
    refine HT1.out.mono ?_
    rintro e wt ⟨rfl, hbt⟩
    have hcd := (hbt.cell (p := ⟨bd, od, none⟩) hbd).trans HHC.out
    have hbd2 : bd < wt.heap.size := by have := hbt.size; omega
    have HBT : Hid (Below w.heap.size w wt) := HB2.out.trans (hbt.mono HB2.out.size)
    obtain ⟨c0, c1, c2, f0, f1, f2, hz⟩ := three_of (blk_next HRES2.out hbt)
    clear hbt
    go_wp2_with fail
    exact bodyPost_ret (v := .agg #[.bool neg, .string (ncan x1), .string ⟨#[]⟩]) (by simp [results, Try.results17, go_sem, c0, c1, c2, hz, Nat.ne_of_lt hz, Nat.ne_of_gt hz]) rfl ⟨rfl, (((HBT.out.setCell (by simp) _).setCell (by simp) _).setCell (by simp) _).alloc (by simp <;> omega) _⟩
  · have t1 : decide ((1 : Int) < ((limbs y1).length : Int)) = true := decide_eq_true (by omega)
    have hy11 : y1 ≠ 1 := by rintro rfl; rw [limbs_one1] at hd; simp at hd
    have HN1 := Lib.hid hy11
    clear hd hy11
    go_wp2_with fail
    refine HT1.out.mono ?_
    rintro e wt ⟨rfl, hbt⟩
    have HBT : Hid (Below w.heap.size w wt) := HB2.out.trans (hbt.mono HB2.out.size)
    have HT2 := fun W (hW : Below wt.heap.size wt W) => textRef_calls Q2 cq2 (limbs y1) W ((HQ2.out.next hbt).next hW) (limbs_dig _) HCQ2.out (by have := HLY.out.2.2.1; omega)
    rw [valL_limbs] at HT2
    have HT2 := Lib.hid HT2
    have HRT := Lib.hid (blk_next HRES2.out hbt)
    have hzt := HBT.out.size
    clear hbt
    go_wp2_with fail
    refine (HT2.out _ ?_).mono ?_
    · exact (Below.refl _ _).alloc (Nat.le_refl _) _
    rintro e wu ⟨rfl, hbu⟩
    have HBU : Hid (Below w.heap.size w wu) := HBT.out.trans ((((Below.refl _ _).alloc (Nat.le_refl _) _).trans (hbu.mono (by simp))).mono HBT.out.size)
    obtain ⟨c0, c1, c2, f0, f1, f2, hz⟩ := three_of (blk_next (blk_alloc HRT.out) hbu)
    obtain ⟨r0, r1, r2, s0, s1, s2, rz⟩ := three_of (blk_next (blk_new _ _) hbu)
    have hnt : w.heap.size ≠ wt.heap.size := by have := (three_of HRT.out).2.2.2.2.2.2; omega
    clear hbu
    go_wp2_with fail
    exact bodyPost_ret (v := .agg #[.bool neg, .string (ncan x1), .string (ncan y1)]) (by simp [results, Try.results17, go_sem, c0, c1, c2, r0, r1, r2, hz, rz, hnt, Ne.symm hnt]) rfl ⟨by first | rfl | rw [if_neg HN1.out], (((HBU.out.setCell (by simp <;> omega) _).setCell (by simp) _).setCell (by simp) _).setCell (by simp) _⟩
  · have hy11 : y1 ≠ 1 := by omega
    obtain ⟨bd, od, rfl, hbd, hcd⟩ := krd_head HQ2.out (by omega) hd3
    have t1 : decide ((1 : Int) < (y1 : Int)) = true := decide_eq_true (by omega)
    have HHD := Lib.hid (And.intro hd1 (And.intro hd2 hd3))
    have HL1 := Lib.hid hd1
    obtain ⟨ly, hly⟩ : ∃ ly, ly = (limbs y1).length := ⟨_, rfl⟩
    rw [← hly] at hd1
    rw [← hly]
    subst hd1
    have HLY1 := Lib.hid hly
    have HHC := Lib.hid hcd
    have HN1 := Lib.hid hy11
    clear hcd hd2 hy11 hly
    go_wp2_with fail
    refine HT1.out.mono ?_
    rintro e wt ⟨rfl, hbt⟩
    have hcd := (hbt.cell (p := ⟨bd, od, none⟩) hbd).trans HHC.out
    have hbd2 : bd < wt.heap.size := by have := hbt.size; omega
    have HBT : Hid (Below w.heap.size w wt) := HB2.out.trans (hbt.mono HB2.out.size)
    have HT2 := fun W (hW : Below wt.heap.size wt W) => textRef_calls (some ⟨bd, od, none⟩) cq2 (limbs y1) W ((HQ2.out.next hbt).next hW) (limbs_dig _) HCQ2.out (by have := HLY.out.2.2.1; omega)
    rw [valL_limbs, ← HLY1.out] at HT2
    have HT2 := Lib.hid HT2
    have HRT := Lib.hid (blk_next HRES2.out hbt)
    have hzt := HBT.out.size
    clear hbt
    go_wp2_with fail
    refine (HT2.out _ ?_).mono ?_
    · exact (Below.refl _ _).alloc (Nat.le_refl _) _
    rintro e wu ⟨rfl, hbu⟩
    have HBU : Hid (Below w.heap.size w wu) := HBT.out.trans ((((Below.refl _ _).alloc (Nat.le_refl _) _).trans (hbu.mono (by simp))).mono HBT.out.size)
    obtain ⟨c0, c1, c2, f0, f1, f2, hz⟩ := three_of (blk_next (blk_alloc HRT.out) hbu)
    obtain ⟨r0, r1, r2, s0, s1, s2, rz⟩ := three_of (blk_next (blk_new _ _) hbu)
    have hnt : w.heap.size ≠ wt.heap.size := by have := (three_of HRT.out).2.2.2.2.2.2; omega
    clear hbu
    go_wp2_with fail
    exact bodyPost_ret (v := .agg #[.bool neg, .string (ncan x1), .string (ncan y1)]) (by simp [results, Try.results17, go_sem, c0, c1, c2, r0, r1, r2, hz, rz, hnt, Ne.symm hnt]) rfl ⟨by first | rfl | rw [if_neg HN1.out], (((HBU.out.setCell (by simp <;> omega) _).setCell (by simp) _).setCell (by simp) _).setCell (by simp) _⟩


end Go.Proofs.Ytlljmiddgadcpaa

/- insolvencyref1.reduced. -/
set_option linter.unusedVariables false
set_option linter.unusedSimpArgs false
namespace Go.Proofs.Ytlljmiddgadcpaa
open Go.RowKit
theorem reduced_calls (neg : Bool) (X Y : Option Addr) (cx cy x y : Nat) (w : World) (hrx : KRd .u32 w w.heap.size X (limbs x)) (hry : KRd .u32 w w.heap.size Y (limbs y)) (hlx : (limbs x).length ≤ 100000000) (hly : (limbs y).length ≤ 100000000) (hcx : (limbs x).length ≤ cx) (hcy : (limbs y).length ≤ cy)
    (hy0 : y ≠ 0) (q : Rat) (hq : rv neg x y = q) :
    Calls Try.prog 17 #[.bool neg, .slice X (limbs x).length cx, .slice Y (limbs y).length cy] w fun e w' => e = .returned (ratV q) ∧ Below w.heap.size w w' := by
  subst hq
  by_cases hx0 : x = 0
  · subst hx0
    have h0 : (limbs 0).length = 0 := by rw [limbs_zero]; rfl
    rw [rv_zero, h0]
    exact reduced_zero neg X Y cx cy y w
  · rw [ratV_rv hx0 hy0 rfl rfl]
    have hg0 : Nat.gcd x y ≠ 0 := Nat.gcd_ne_zero_left hx0
    rcases limbs_cases hg0 with h | h | ⟨h1, h2, h3⟩
    · exact reduced_one neg X Y cx cy x y _ _ _ w hrx hry hlx hly hcx hcy hx0 hy0 rfl rfl rfl h
    · exact reduced_many neg X Y cx cy x y _ _ _ w hrx hry hlx hly hcx hcy hx0 hy0 rfl rfl rfl h
    · exact reduced_few neg X Y cx cy x y _ _ _ w hrx hry hlx hly hcx hcy hx0 hy0 rfl rfl rfl h1 h2 h3

end Go.Proofs.Ytlljmiddgadcpaa

/- insolvencyref1: Times in terms of Rat. -/
set_option linter.unusedVariables false
set_option linter.unusedSimpArgs false
namespace Go.Proofs.Ytlljmiddgadcpaa
open Go.RowKit

def ratObj (sa : Bool) (na da : ByteArray) : Obj := .cells #[.bool sa, .string na, .string da] 36 (0, 0)
/-- two numbers in blocks of their own -/
def TwoR (ga gb : Nat) (sa : Bool) (na da : ByteArray) (sb : Bool) (nb db : ByteArray) (W : World) : Prop :=
  W.heap[ga]? = some (ratObj sa na da) ∧ W.heap[gb]? = some (ratObj sb nb db)
theorem TwoR.next {ga gb : Nat} {sa sb : Bool} {na da nb db : ByteArray} {W W' : World} (h : TwoR ga gb sa na da sb nb db W) (hb : Below W.heap.size W W') : TwoR ga gb sa na da sb nb db W' :=
  ⟨blk_next h.1 hb, blk_next h.2 hb⟩
theorem TwoR.setCell {ga gb g j : Nat} {sa sb : Bool} {na da nb db : ByteArray} {W : World} {u : Value} (h : TwoR ga gb sa na da sb nb db W) (h1 : ga ≠ g) (h2 : gb ≠ g) : TwoR ga gb sa na da sb nb db (W.setCell ⟨g, j, none⟩ u) :=
  ⟨(heap_setCell_other W ⟨g, j, none⟩ ga u h1).trans h.1, (heap_setCell_other W ⟨g, j, none⟩ gb u h2).trans h.2⟩
theorem TwoR.three {ga gb : Nat} {sa sb : Bool} {na da nb db : ByteArray} {W : World} (h : TwoR ga gb sa na da sb nb db W) :
    W.cell? ⟨ga, 0, none⟩ = some (.bool sa) ∧ W.cell? ⟨ga, 1, none⟩ = some (.string na) ∧ W.cell? ⟨ga, 2, none⟩ = some (.string da) ∧ W.cell? ⟨gb, 0, none⟩ = some (.bool sb) ∧ W.cell? ⟨gb, 1, none⟩ = some (.string nb) ∧ W.cell? ⟨gb, 2, none⟩ = some (.string db) := by
  obtain ⟨a0, a1, a2, _⟩ := three_of h.1
  obtain ⟨b0, b1, b2, _⟩ := three_of h.2
  exact ⟨a0, a1, a2, b0, b1, b2⟩

theorem rnum_empty {q : Rat} (h : q = 0) : rnum q = ⟨#[]⟩ := by rw [h, rnum_zero]
theorem natAbs_ne {q : Rat} (h : q ≠ 0) : q.num.natAbs ≠ 0 := fun e => h (Rat.num_eq_zero.1 (by omega))
theorem rnum_isEmpty {q : Rat} (h : q ≠ 0) : (rnum q).toList.isEmpty = false := ncan_isEmpty' (natAbs_ne h)
theorem Sz.num {k : Nat} {q : Rat} (h : Sz k q) (hk : k ≤ 100000) : (rnum q).size ≤ 100000 := (Sm.can h.1 hk).2
theorem limbs_le_of_lt {n k : Nat} (h : n < 256 ^ k) : (limbs n).length ≤ k := by
  have h1 := limbs_len_canon n
  have h2 := canon_len_le h
  omega

set_option maxHeartbeats 1000000 in
theorem refTimes_zeroA (sa : Bool) (da : ByteArray) (sb : Bool) (nb db : ByteArray) (w : World) :
    Calls Try.prog 9 #[.agg #[.bool sa, .string ⟨#[]⟩, .string da], .agg #[.bool sb, .string nb, .string db]] w fun e w' => e = .returned (ratV 0) ∧ Below w.heap.size w w' := by
  rw [ratV_zero]
  go_enter Try.func9, Try.ntmps9
  go_wp2_with fail
  exact bodyPost_ret (v := .agg #[.bool false, .string ⟨#[]⟩, .string ⟨#[]⟩]) (by simp [results, Try.results9, go_sem]) rfl ⟨rfl, (((Below.refl _ _).alloc (Nat.le_refl _) _).alloc (by simp) _).alloc (by simp <;> omega) _⟩

set_option maxHeartbeats 1000000 in
theorem refTimes_zeroB (sa : Bool) (na da : ByteArray) (sb : Bool) (db : ByteArray) (w : World) (hne : na.toList.isEmpty = false) :
    Calls Try.prog 9 #[.agg #[.bool sa, .string na, .string da], .agg #[.bool sb, .string ⟨#[]⟩, .string db]] w fun e w' => e = .returned (ratV 0) ∧ Below w.heap.size w w' := by
  rw [ratV_zero]
  go_enter Try.func9, Try.ntmps9
  go_wp2_with fail
  exact bodyPost_ret (v := .agg #[.bool false, .string ⟨#[]⟩, .string ⟨#[]⟩]) (by simp [results, Try.results9, go_sem]) rfl ⟨rfl, (((Below.refl _ _).alloc (Nat.le_refl _) _).alloc (by simp) _).alloc (by simp <;> omega) _⟩

set_option maxHeartbeats 8000000 in
set_option maxRecDepth 100000 in
theorem refTimes_main (a b : Rat) (k m : Nat) (w : World) (ha : Sz k a) (hb : Sz m b) (hkm : k + m ≤ 100000) (ha0 : a ≠ 0) (hb0 : b ≠ 0) :
    Calls Try.prog 9 #[ratV a, ratV b] w fun e w' => e = .returned (ratV (a * b)) ∧ Below w.heap.size w w' := by
  have hna := rnum_isEmpty ha0
  have hnb := rnum_isEmpty hb0
  have HLA := fun W => limbsRef_calls (rnum a) W (Nat.le_trans (ha.num (by omega)) (by decide))
  have HLB := fun W => limbsRef_calls (rnum b) W (Nat.le_trans (hb.num (by omega)) (by decide))
  have HDA := fun W => refDen_calls a W (ha.mono (by omega))
  have HDB := fun W => refDen_calls b W (hb.mono (by omega))
  have la := limbs_le_of_lt ha.1
  have lb := limbs_le_of_lt hb.1
  have ka := limbs_le_of_lt ha.2
  have kb := limbs_le_of_lt hb.2
  have lab := limbs_le_of_lt (pow_mul_lt ha.1 hb.1)
  have kab := limbs_le_of_lt (pow_mul_lt ha.2 hb.2)
  have hd0 : a.den * b.den ≠ 0 := Nat.mul_ne_zero a.den_nz b.den_nz
  have hq := (rv_mul a b).symm
  unfold rnum at HLA HLB
  simp only [snum_ncan] at HLA HLB
  obtain ⟨sa, hsa⟩ : ∃ x, x = rneg a := ⟨_, rfl⟩
  obtain ⟨na, hna'⟩ : ∃ x, x = rnum a := ⟨_, rfl⟩
  obtain ⟨da, hda⟩ : ∃ x, x = rden a := ⟨_, rfl⟩
  obtain ⟨sb, hsb⟩ : ∃ x, x = rneg b := ⟨_, rfl⟩
  obtain ⟨nb, hnb'⟩ : ∃ x, x = rnum b := ⟨_, rfl⟩
  obtain ⟨db, hdb⟩ : ∃ x, x = rden b := ⟨_, rfl⟩
  have hra : ratV a = .agg #[.bool sa, .string na, .string da] := by rw [ratV, hsa, hna', hda]
  have hrb : ratV b = .agg #[.bool sb, .string nb, .string db] := by rw [ratV, hsb, hnb', hdb]
  rw [hra] at HDA ⊢
  rw [hrb] at HDB ⊢
  rw [← hna'] at hna
  rw [← hnb'] at hnb
  rw [← hsa, ← hsb] at hq
  unfold rnum at hna' hnb'
  rw [← hna'] at HLA
  rw [← hnb'] at HLB
  obtain ⟨an, han⟩ : ∃ x, x = a.num.natAbs := ⟨_, rfl⟩
  obtain ⟨bn, hbn⟩ : ∃ x, x = b.num.natAbs := ⟨_, rfl⟩
  obtain ⟨ad, had⟩ : ∃ x, x = a.den := ⟨_, rfl⟩
  obtain ⟨bd, hbd⟩ : ∃ x, x = b.den := ⟨_, rfl⟩
  obtain ⟨q, hqq⟩ : ∃ x, x = a * b := ⟨_, rfl⟩
  rw [← han] at HLA la lab hq
  rw [← hbn] at HLB lb lab hq
  rw [← had] at HDA ka kab hd0 hq
  rw [← hbd] at HDB kb kab hd0 hq
  rw [← hqq] at hq ⊢
  obtain ⟨v1, v2, v3, hv⟩ : ∃ v1 v2 v3, ratV q = .agg #[.bool v1, .string v2, .string v3] := ⟨_, _, _, rfl⟩
  have HLAH := Lib.hid HLA
  have HLBH := Lib.hid HLB
  have HDAH := Lib.hid HDA
  have HDBH := Lib.hid HDB
  have HN := Lib.hid (And.intro la (And.intro lb (And.intro ka (And.intro kb (And.intro lab (And.intro kab hkm))))))
  have HQ := Lib.hid (And.intro hd0 hq)
  have HV := Lib.hid hv
  clear HLA HLB HDA HDB hqq hbd had hbn han hna' hnb' hdb hda hsa hsb hra hrb la lb ka kb lab kab hd0 hq ha hb ha0 hb0 hv hkm
  go_enter Try.func9, Try.ntmps9
  go_wp2_with fail
  obtain ⟨W0, hW0⟩ : ∃ W0, W0 = ((w.alloc (.cells #[.bool sa, .string na, .string da] 36)).alloc (.cells #[.bool sb, .string nb, .string db] 36)).alloc (.cells #[.bool false, .string ⟨#[]⟩, .string ⟨#[]⟩] 36) := ⟨_, rfl⟩
  have hS : TwoR w.heap.size (w.heap.size + 1) sa na da sb nb db W0 := by
    rw [hW0]
    refine ⟨blk_alloc (blk_alloc (blk_new _ _)), blk_alloc ?_⟩
    have := blk_new (w.alloc (.cells #[.bool sa, .string na, .string da] 36)) (.cells #[.bool sb, .string nb, .string db] 36)
    rwa [World.size_alloc] at this
  have hR : W0.heap[w.heap.size + 2]? = some (ratObj false ⟨#[]⟩ ⟨#[]⟩) := by
    rw [hW0]
    have := blk_new ((w.alloc (.cells #[.bool sa, .string na, .string da] 36)).alloc (.cells #[.bool sb, .string nb, .string db] 36)) (.cells #[.bool false, .string ⟨#[]⟩, .string ⟨#[]⟩] 36)
    rwa [World.size_alloc, World.size_alloc] at this
  have hB : Below w.heap.size w W0 := by
    rw [hW0]
    exact (((Below.refl _ _).alloc (Nat.le_refl _) _).alloc (by simp) _).alloc (by simp <;> omega) _
  rw [← hW0]
  have HR := Lib.hid hR
  have HB := Lib.hid hB
  clear hW0 hR hB
  refine wp_region_held_drew (S := TwoR w.heap.size (w.heap.size + 1) sa na da sb nb db) (by kernel_rfl) hS ?_
  intro hS0
  refine wpAnyH_take (i := 0) rfl (by kernel_rfl) (by kernel_rfl) (by kernel_rfl) (fun _ _ _ h => h) (Or.inl ⟨by kernel_rfl, (by intro w' _; go_simp; with_reducible rfl)⟩) hS0 ?_
  go_simp
  refine wpAnyH_take (i := 1) (v := .bool sa) rfl (by kernel_rfl) (by kernel_rfl) (by kernel_rfl) (fun _ _ _ h => h) (Or.inl ⟨by kernel_rfl, (by intro w' hw'; have tw := hw'.three; obtain ⟨a0, a1, a2, b0, b1, b2⟩ := tw; go_simp)⟩) hS0 ?_
  go_simp
  refine wpAnyH_take (i := 2) rfl (by kernel_rfl) (by kernel_rfl) (by kernel_rfl) (fun _ _ _ h => h) (Or.inl ⟨by kernel_rfl, (by intro w' _; go_simp; with_reducible rfl)⟩) hS0 ?_
  go_simp
  refine wpAnyH_take (i := 3) (v := .bool sb) rfl (by kernel_rfl) (by kernel_rfl) (by kernel_rfl) (fun _ _ _ h => h) (Or.inl ⟨by kernel_rfl, (by intro w' hw'; have tw := hw'.three; obtain ⟨a0, a1, a2, b0, b1, b2⟩ := tw; go_simp)⟩) hS0 ?_
  go_simp
  refine wpAnyH_take (i := 4) (v := .bool (sa != sb)) rfl (by kernel_rfl) (by kernel_rfl) (by kernel_rfl) (fun _ _ _ h => h) (Or.inl ⟨by kernel_rfl, (by intro w' _; go_simp; cases sa <;> cases sb <;> rfl)⟩) hS0 ?_
  go_simp
  refine wpAnyH_take (i := 5) rfl (by kernel_rfl) (by kernel_rfl) (by kernel_rfl) (fun _ _ _ h => h) (Or.inl ⟨by kernel_rfl, (by intro w' _; go_simp; with_reducible rfl)⟩) hS0 ?_
  go_simp
  refine wpAnyH_take (i := 6) (v := .string na) rfl (by kernel_rfl) (by kernel_rfl) (by kernel_rfl) (fun _ _ _ h => h) (Or.inl ⟨by kernel_rfl, (by intro w' hw'; have tw := hw'.three; obtain ⟨a0, a1, a2, b0, b1, b2⟩ := tw; go_simp)⟩) hS0 ?_
  go_simp
  refine wpAnyH_take (i := 8) rfl (by kernel_rfl) (by kernel_rfl) (by kernel_rfl) (fun _ _ _ h => h) (Or.inl ⟨by kernel_rfl, (by intro w' _; go_simp; with_reducible rfl)⟩) hS0 ?_
  go_simp
  refine wpAnyH_take (i := 9) (v := .string nb) rfl (by kernel_rfl) (by kernel_rfl) (by kernel_rfl) (fun _ _ _ h => h) (Or.inl ⟨by kernel_rfl, (by intro w' hw'; have tw := hw'.three; obtain ⟨a0, a1, a2, b0, b1, b2⟩ := tw; go_simp)⟩) hS0 ?_
  go_simp
  refine wpAnyH_take (i := 12) (v := .agg #[.bool sa, .string na, .string da]) rfl (by kernel_rfl) (by kernel_rfl) (by kernel_rfl) (fun _ _ _ h => h) (Or.inl ⟨by kernel_rfl, (by intro w' hw'; have tw := hw'.three; obtain ⟨a0, a1, a2, b0, b1, b2⟩ := tw; go_simp)⟩) hS0 ?_
  go_simp
  refine wpAnyH_take (i := 14) (v := .agg #[.bool sb, .string nb, .string db]) rfl (by kernel_rfl) (by kernel_rfl) (by kernel_rfl) (fun _ _ _ h => h) (Or.inl ⟨by kernel_rfl, (by intro w' hw'; have tw := hw'.three; obtain ⟨a0, a1, a2, b0, b1, b2⟩ := tw; go_simp)⟩) hS0 ?_
  go_simp
  have HR0 : Hid (W0.drew.heap[w.heap.size + 2]? = some (ratObj false ⟨#[]⟩ ⟨#[]⟩)) := HR.out
  have HB0 : Hid (Below w.heap.size w W0.drew) := HB.out.drew
  clear HR HB hS
  refine wpAnyH_ready (rs := [7]) (by kernel_rfl) (by simp) ?_
  refine AllReadyH.cons rfl (fun K hK => ?_) AllReadyH.nil
  go_simp
  refine (HLAH.out _).mono ?_
  rintro e w1 ⟨XA, ca, rfl, hca, hka, h1⟩
  have HKA := Lib.hid hka
  have HCA := Lib.hid hca
  have hS1 := hS0.next h1
  have HR1 := Lib.hid (blk_next HR0.out h1)
  have HB1 : Hid (Below w.heap.size w w1) := HB0.out.trans (h1.mono HB0.out.size)
  clear hka hca
  clear h1
  refine hK.out _ _ hS1 (fun _ => ?_)
  clear hK K
  refine wpAnyH_ready (rs := [10]) (by kernel_rfl) (by simp) ?_
  refine AllReadyH.cons rfl (fun K hK => ?_) AllReadyH.nil
  go_simp
  refine (HLBH.out _).mono ?_
  rintro e w2 ⟨XB, cb, rfl, hcb, hkb, h2⟩
  have HKB := Lib.hid hkb
  have HKA2 := Lib.hid (HKA.out.next h2)
  have hS2 := hS1.next h2
  have HR2 := Lib.hid (blk_next HR1.out h2)
  have HB2 : Hid (Below w.heap.size w w2) := HB1.out.trans (h2.mono HB1.out.size)
  clear hkb hcb
  clear h2
  refine hK.out _ _ hS2 (fun _ => ?_)
  clear hK K
  refine wpAnyH_ready (rs := [11]) (by kernel_rfl) (by simp) ?_
  refine AllReadyH.cons rfl (fun K hK => ?_) AllReadyH.nil
  go_simp
  refine (times_calls XA XB ca cb an bn _ HKA2.out HKB.out (by have := HN.out.1; have := HN.out.2.2.2.2.2.2; omega) (by have := HN.out.2.1; have := HN.out.2.2.2.2.2.2; omega)).mono ?_
  rintro e w3 ⟨XC, cc, rfl, hcc, hkc, h3⟩
  have HKC := Lib.hid hkc
  have HCC := Lib.hid hcc
  have hS3 := hS2.next h3
  have HR3 := Lib.hid (blk_next HR2.out h3)
  have HB3 : Hid (Below w.heap.size w w3) := HB2.out.trans (h3.mono HB2.out.size)
  clear hkc hcc
  clear h3
  refine hK.out _ _ hS3 (fun _ => ?_)
  clear hK K
  refine wpAnyH_ready (rs := [13]) (by kernel_rfl) (by simp) ?_
  refine AllReadyH.cons rfl (fun K hK => ?_) AllReadyH.nil
  go_simp
  refine (HDAH.out _).mono ?_
  rintro e w4 ⟨YA, da', rfl, hda', hkd, h4⟩
  have HKD := Lib.hid hkd
  have HKC4 := Lib.hid (HKC.out.next h4)
  have hS4 := hS3.next h4
  have HR4 := Lib.hid (blk_next HR3.out h4)
  have HB4 : Hid (Below w.heap.size w w4) := HB3.out.trans (h4.mono HB3.out.size)
  clear hkd hda'
  clear h4
  refine hK.out _ _ hS4 (fun _ => ?_)
  clear hK K
  refine wpAnyH_ready (rs := [15]) (by kernel_rfl) (by simp) ?_
  refine AllReadyH.cons rfl (fun K hK => ?_) AllReadyH.nil
  go_simp
  refine (HDBH.out _).mono ?_
  rintro e w5 ⟨YB, db', rfl, hdb', hke, h5⟩
  have HKE := Lib.hid hke
  have HKD5 := Lib.hid (HKD.out.next h5)
  have HKC5 := Lib.hid (HKC4.out.next h5)
  have hS5 := hS4.next h5
  have HR5 := Lib.hid (blk_next HR4.out h5)
  have HB5 : Hid (Below w.heap.size w w5) := HB4.out.trans (h5.mono HB4.out.size)
  clear hke hdb'
  clear h5
  refine hK.out _ _ hS5 (fun _ => ?_)
  clear hK K
  refine wpAnyH_ready (rs := [16]) (by kernel_rfl) (by simp) ?_
  refine AllReadyH.cons rfl (fun K hK => ?_) AllReadyH.nil
  go_simp
  refine (times_calls YA YB da' db' ad bd _ HKD5.out HKE.out (by have := HN.out.2.2.1; have := HN.out.2.2.2.2.2.2; omega) (by have := HN.out.2.2.2.1; have := HN.out.2.2.2.2.2.2; omega)).mono ?_
  rintro e w6 ⟨YC, dc, rfl, hdc, hkf, h6⟩
  have HKF := Lib.hid hkf
  have HDC := Lib.hid hdc
  have HKC6 := Lib.hid (HKC5.out.next h6)
  have hS6 := hS5.next h6
  have HR6 := Lib.hid (blk_next HR5.out h6)
  have HB6 : Hid (Below w.heap.size w w6) := HB5.out.trans (h6.mono HB5.out.size)
  clear hkf hdc
  clear h6
  refine hK.out _ _ hS6 (fun _ => ?_)
  clear hK K
  refine wpAnyH_ready (rs := [17]) (by kernel_rfl) (by simp) ?_
  refine AllReadyH.cons rfl (fun K hK => ?_) AllReadyH.nil
  go_simp
  refine (reduced_calls (sa != sb) XC YC cc dc (an * bn) (ad * bd) _ HKC6.out HKF.out (by have := HN.out.2.2.2.2.1; have := HN.out.2.2.2.2.2.2; omega) (by have := HN.out.2.2.2.2.2.1; have := HN.out.2.2.2.2.2.2; omega) HCC.out HDC.out HQ.out.1 q HQ.out.2).mono ?_
  rintro e w7 ⟨rfl, h7⟩
  have hS7 := hS6.next h7
  have HR7 := Lib.hid (blk_next HR6.out h7)
  have HB7 : Hid (Below w.heap.size w w7) := HB6.out.trans (h7.mono HB6.out.size)
  clear h7
  refine hK.out _ _ hS7 (fun _ => ?_)
  clear hK K
  rw [HV.out]
  obtain ⟨c0, c1, c2, f0, f1, f2, hz⟩ := three_of HR7.out
  have n1 : w.heap.size ≠ w.heap.size + 2 := by omega
  have n2 : w.heap.size + 1 ≠ w.heap.size + 2 := by omega
  refine wpAnyH_ready (rs := [18]) (by kernel_rfl) (by simp) ?_
  refine AllReadyH.cons rfl (fun K hK => ?_) AllReadyH.nil
  go_simp
  refine hK.out _ _ (((hS7.setCell n1 n2).setCell n1 n2).setCell n1 n2) (fun _ => ?_)
  clear hK K
  refine wpAnyH_done (by kernel_rfl) ?_ _
  go_wp2_with fail
  exact bodyPost_ret (v := .agg #[.bool v1, .string v2, .string v3]) (by simp [results, Try.results9, go_sem, c0, c1, c2]) rfl ⟨by rw [HV.out], ((HB7.out.setCell (by simp <;> omega) _).setCell (by simp <;> omega) _).setCell (by simp <;> omega) _⟩

end Go.Proofs.Ytlljmiddgadcpaa

/- insolvencyref1: Opposite, Signum, Plus, Minus, Less in terms of Rat. -/
set_option linter.unusedVariables false
set_option linter.unusedSimpArgs false
namespace Go.Proofs.Ytlljmiddgadcpaa
open Go.RowKit

theorem neg_fields (a : Rat) : rnum (-a) = rnum a ∧ rden (-a) = rden a := by
  refine ⟨?_, rfl⟩
  rw [rnum, rnum, show (-a).num = -a.num from rfl, Int.natAbs_neg]

set_option maxHeartbeats 1000000 in
theorem refOpposite_calls (a : Rat) (w : World) :
    Calls Try.prog 34 #[ratV a] w fun e w' => e = .returned (ratV (-a)) ∧ Below w.heap.size w w' := by
  have hv : ratV (-a) = .agg #[.bool (rneg (-a)), .string (rnum a), .string (rden a)] := by rw [ratV, (neg_fields a).1, (neg_fields a).2]
  rw [hv, ratV]
  by_cases h0 : a = 0
  · have hn : rneg (-a) = rneg a := by rw [h0]; decide
    rw [hn, rnum_empty h0]
    obtain ⟨sa, hsa⟩ : ∃ x, x = rneg a := ⟨_, rfl⟩
    obtain ⟨da, hda⟩ : ∃ x, x = rden a := ⟨_, rfl⟩
    rw [← hsa, ← hda]
    clear hn hv h0 hsa hda
    go_enter Try.func34, Try.ntmps34
    go_wp2_with fail
    exact bodyPost_ret (v := .agg #[.bool sa, .string ⟨#[]⟩, .string da]) (by simp [results, Try.results34, go_sem]) rfl ⟨rfl, ((Below.refl _ _).alloc (Nat.le_refl _) _).alloc (by simp) _⟩
  · have hne := rnum_isEmpty h0
    have hn : rneg (-a) = !rneg a := by
      rw [rneg_neg]; simp only [decide_eq_true (natAbs_ne h0), Bool.and_true]
    rw [hn]
    obtain ⟨sa, hsa⟩ : ∃ x, x = rneg a := ⟨_, rfl⟩
    obtain ⟨na, hna⟩ : ∃ x, x = rnum a := ⟨_, rfl⟩
    obtain ⟨da, hda⟩ : ∃ x, x = rden a := ⟨_, rfl⟩
    rw [← hna] at hne
    rw [← hsa, ← hda, ← hna]
    clear hn hv h0 hsa hda hna
    go_enter Try.func34, Try.ntmps34
    go_wp2_with fail
    exact bodyPost_ret (v := .agg #[.bool (!sa), .string na, .string da]) (by simp [results, Try.results34, go_sem]) rfl ⟨rfl, ((Below.refl _ _).alloc (Nat.le_refl _) _).alloc (by simp) _⟩

/-- the sign of a number -/
def sgnR (a : Rat) : Int := if a = 0 then 0 else if rneg a = true then -1 else 1

set_option maxHeartbeats 1000000 in
theorem refSignum_calls (a : Rat) (w : World) :
    Calls Try.prog 23 #[ratV a] w fun e w' => e = .returned (.int .i64 (sgnR a)) ∧ Below w.heap.size w w' := by
  rw [ratV]
  by_cases h0 : a = 0
  · have hz : sgnR a = 0 := by rw [sgnR, if_pos h0]
    rw [hz, rnum_empty h0]
    obtain ⟨sa, hsa⟩ : ∃ x, x = rneg a := ⟨_, rfl⟩
    obtain ⟨da, hda⟩ : ∃ x, x = rden a := ⟨_, rfl⟩
    rw [← hsa, ← hda]
    clear hz h0 hsa hda
    go_enter Try.func23, Try.ntmps23
    go_wp2_with fail
    go_ret
    exact ⟨rfl, bel_alloc _ _⟩
  · have hne := rnum_isEmpty h0
    have hz : sgnR a = if rneg a = true then -1 else 1 := by rw [sgnR, if_neg h0]
    rw [hz]
    obtain ⟨sa, hsa⟩ : ∃ x, x = rneg a := ⟨_, rfl⟩
    obtain ⟨na, hna⟩ : ∃ x, x = rnum a := ⟨_, rfl⟩
    obtain ⟨da, hda⟩ : ∃ x, x = rden a := ⟨_, rfl⟩
    rw [← hna] at hne
    rw [← hsa, ← hda, ← hna]
    clear hz h0 hsa hda hna
    cases sa
    · go_enter Try.func23, Try.ntmps23
      go_wp2_with fail
      go_ret
      exact ⟨rfl, bel_alloc _ _⟩
    · go_enter Try.func23, Try.ntmps23
      go_wp2_with fail
      go_ret
      exact ⟨rfl, bel_alloc _ _⟩

theorem rt_le {w : World} {a b c : Obj} : Below w.heap.size w (((w.alloc a).alloc b).alloc c) :=
  (((Below.refl _ _).alloc (Nat.le_refl _) _).alloc (by simp) _).alloc (by simp <;> omega) _

set_option maxHeartbeats 1000000 in
theorem refPlus_zeroA (b : Rat) (sa : Bool) (da : ByteArray) (w : World) :
    Calls Try.prog 33 #[.agg #[.bool sa, .string ⟨#[]⟩, .string da], ratV b] w fun e w' => e = .returned (ratV b) ∧ Below w.heap.size w w' := by
  rw [ratV]
  obtain ⟨sb, hsb⟩ : ∃ x, x = rneg b := ⟨_, rfl⟩
  obtain ⟨nb, hnb⟩ : ∃ x, x = rnum b := ⟨_, rfl⟩
  obtain ⟨db, hdb⟩ : ∃ x, x = rden b := ⟨_, rfl⟩
  rw [← hsb, ← hdb, ← hnb]
  clear hsb hnb hdb
  go_enter Try.func33, Try.ntmps33
  go_wp2_with fail
  exact bodyPost_ret (v := .agg #[.bool sb, .string nb, .string db]) (by simp [results, Try.results33, go_sem]) rfl ⟨rfl, rt_le⟩

set_option maxHeartbeats 1000000 in
theorem refPlus_zeroB (a : Rat) (sb : Bool) (db : ByteArray) (w : World) (h0 : a ≠ 0) :
    Calls Try.prog 33 #[ratV a, .agg #[.bool sb, .string ⟨#[]⟩, .string db]] w fun e w' => e = .returned (ratV a) ∧ Below w.heap.size w w' := by
  have hne := rnum_isEmpty h0
  rw [ratV]
  obtain ⟨sa, hsa⟩ : ∃ x, x = rneg a := ⟨_, rfl⟩
  obtain ⟨na, hna⟩ : ∃ x, x = rnum a := ⟨_, rfl⟩
  obtain ⟨da, hda⟩ : ∃ x, x = rden a := ⟨_, rfl⟩
  rw [← hna] at hne
  rw [← hsa, ← hda, ← hna]
  clear h0 hsa hda hna
  go_enter Try.func33, Try.ntmps33
  go_wp2_with fail
  exact bodyPost_ret (v := .agg #[.bool sa, .string na, .string da]) (by simp [results, Try.results33, go_sem]) rfl ⟨rfl, rt_le⟩

end Go.Proofs.Ytlljmiddgadcpaa

/- insolvencyref1.Plus in terms of Rat. -/
set_option linter.unusedVariables false
set_option linter.unusedSimpArgs false
namespace Go.Proofs.Ytlljmiddgadcpaa
open Go.RowKit

set_option maxHeartbeats 8000000 in
set_option maxRecDepth 100000 in
theorem refPlus_same (a b : Rat) (k m : Nat) (w : World) (ha : Sz k a) (hb : Sz m b) (hkm : k + m ≤ 100000) (ha0 : a ≠ 0) (hb0 : b ≠ 0) (hs : rneg a = rneg b) :
    Calls Try.prog 33 #[ratV a, ratV b] w fun e w' => e = .returned (ratV (a + b)) ∧ Below w.heap.size w w' := by
  have hna := rnum_isEmpty ha0
  have hnb := rnum_isEmpty hb0
  have HLA := fun W => limbsRef_calls (rnum a) W (Nat.le_trans (ha.num (by omega)) (by decide))
  have HLB := fun W => limbsRef_calls (rnum b) W (Nat.le_trans (hb.num (by omega)) (by decide))
  have HDA := fun W => refDen_calls a W (ha.mono (by omega))
  have HDB := fun W => refDen_calls b W (hb.mono (by omega))
  have la := limbs_le_of_lt ha.1
  have lb := limbs_le_of_lt hb.1
  have ka := limbs_le_of_lt ha.2
  have kb := limbs_le_of_lt hb.2
  have lx := limbs_le_of_lt (pow_mul_lt ha.1 hb.2)
  have ly := limbs_le_of_lt (pow_mul_lt hb.1 ha.2)
  have ld := limbs_le_of_lt (pow_mul_lt ha.2 hb.2)
  have lxy := limbs_le_of_lt (pow_add_lt (pow_mul_lt ha.1 hb.2) (show b.num.natAbs * a.den < 256 ^ (k + m) by rw [Nat.add_comm]; exact pow_mul_lt hb.1 ha.2))
  have hd0 : a.den * b.den ≠ 0 := Nat.mul_ne_zero a.den_nz b.den_nz
  have hq : rv (rneg a) (a.num.natAbs * b.den + b.num.natAbs * a.den) (a.den * b.den) = a + b := (rv_add_same hs).symm
  unfold rnum at HLA HLB
  simp only [snum_ncan] at HLA HLB
  obtain ⟨sa, hsa⟩ : ∃ x, x = rneg a := ⟨_, rfl⟩
  obtain ⟨na, hna'⟩ : ∃ x, x = rnum a := ⟨_, rfl⟩
  obtain ⟨da, hda⟩ : ∃ x, x = rden a := ⟨_, rfl⟩
  obtain ⟨sb, hsb⟩ : ∃ x, x = rneg b := ⟨_, rfl⟩
  obtain ⟨nb, hnb'⟩ : ∃ x, x = rnum b := ⟨_, rfl⟩
  obtain ⟨db, hdb⟩ : ∃ x, x = rden b := ⟨_, rfl⟩
  have hra : ratV a = .agg #[.bool sa, .string na, .string da] := by rw [ratV, hsa, hna', hda]
  have hrb : ratV b = .agg #[.bool sb, .string nb, .string db] := by rw [ratV, hsb, hnb', hdb]
  rw [hra] at HDA ⊢
  rw [hrb] at HDB ⊢
  rw [← hna'] at hna
  rw [← hnb'] at hnb
  rw [← hsa] at hq
  rw [← hsa, ← hsb] at hs
  subst hs
  unfold rnum at hna' hnb'
  rw [← hna'] at HLA
  rw [← hnb'] at HLB
  obtain ⟨an, han⟩ : ∃ x, x = a.num.natAbs := ⟨_, rfl⟩
  obtain ⟨bn, hbn⟩ : ∃ x, x = b.num.natAbs := ⟨_, rfl⟩
  obtain ⟨ad, had⟩ : ∃ x, x = a.den := ⟨_, rfl⟩
  obtain ⟨bd, hbd⟩ : ∃ x, x = b.den := ⟨_, rfl⟩
  obtain ⟨q, hqq⟩ : ∃ x, x = a + b := ⟨_, rfl⟩
  rw [← han] at HLA la hq
  rw [← hbn] at HLB lb hq
  rw [← had] at HDA ka hd0 hq
  rw [← hbd] at HDB kb hd0 hq
  simp only [← han, ← hbn, ← had, ← hbd] at lx ly ld lxy
  rw [← hqq] at hq ⊢
  obtain ⟨v1, v2, v3, hv⟩ : ∃ v1 v2 v3, ratV q = .agg #[.bool v1, .string v2, .string v3] := ⟨_, _, _, rfl⟩
  have HLAH := Lib.hid HLA
  have HLBH := Lib.hid HLB
  have HDAH := Lib.hid HDA
  have HDBH := Lib.hid HDB
  have HN := Lib.hid (And.intro la (And.intro lb (And.intro ka (And.intro kb (And.intro lx (And.intro ly (And.intro ld (And.intro lxy hkm))))))))
  have HQ := Lib.hid (And.intro hd0 hq)
  have HV := Lib.hid hv
  clear HLA HLB HDA HDB hqq hbd had hbn han hna' hnb' hdb hda hsa hsb hra hrb la lb ka kb lx ly ld lxy hd0 hq ha hb ha0 hb0 hv hkm 
  go_enter Try.func33, Try.ntmps33
  go_wp2_with fail
  obtain ⟨w0, hW0⟩ : ∃ w0, w0 = ((w.alloc (.cells #[.bool sa, .string na, .string da] 36)).alloc (.cells #[.bool sa, .string nb, .string db] 36)).alloc (.cells #[.bool false, .string ⟨#[]⟩, .string ⟨#[]⟩] 36) := ⟨_, rfl⟩
  have hS0 : TwoR w.heap.size (w.heap.size + 1) sa na da sa nb db w0 := by
    rw [hW0]
    refine ⟨blk_alloc (blk_alloc (blk_new _ _)), blk_alloc ?_⟩
    have := blk_new (w.alloc (.cells #[.bool sa, .string na, .string da] 36)) (.cells #[.bool sa, .string nb, .string db] 36)
    rwa [World.size_alloc] at this
  have hR : w0.heap[w.heap.size + 2]? = some (ratObj false ⟨#[]⟩ ⟨#[]⟩) := by
    rw [hW0]
    have := blk_new ((w.alloc (.cells #[.bool sa, .string na, .string da] 36)).alloc (.cells #[.bool sa, .string nb, .string db] 36)) (.cells #[.bool false, .string ⟨#[]⟩, .string ⟨#[]⟩] 36)
    rwa [World.size_alloc, World.size_alloc] at this
  have hB : Below w.heap.size w w0 := by
    rw [hW0]
    exact rt_le
  try rw [← hW0]
  have HR0 := Lib.hid hR
  have HB0 := Lib.hid hB
  clear hW0 hR hB
  obtain ⟨a0, a1, a2, b0, b1, b2⟩ := hS0.three
  go_wp2_with fail
  refine (HDAH.out _).mono ?_
  rintro e w1 ⟨YA, ca, rfl, hca, hk1, h1⟩
  have KA1 := Lib.hid hk1
  have CA := Lib.hid hca
  clear a0 a1 a2 b0 b1 b2
  clear hk1 hca
  have hS1 := hS0.next h1
  have HR1 := Lib.hid (blk_next HR0.out h1)
  have HB1 : Hid (Below w.heap.size w w1) := HB0.out.trans (h1.mono HB0.out.size)
  clear hS0 
  clear h1
  obtain ⟨a0, a1, a2, b0, b1, b2⟩ := hS1.three
  go_wp2_with fail
  refine (HDBH.out _).mono ?_
  rintro e w2 ⟨YB, cb, rfl, hcb, hk2, h2⟩
  have KB2 := Lib.hid hk2
  have CB := Lib.hid hcb
  have KA2 := Lib.hid (KA1.out.next h2)
  clear a0 a1 a2 b0 b1 b2
  clear hk2 hcb KA1
  have hS2 := hS1.next h2
  have HR2 := Lib.hid (blk_next HR1.out h2)
  have HB2 : Hid (Below w.heap.size w w2) := HB1.out.trans (h2.mono HB1.out.size)
  clear hS1 
  clear h2
  obtain ⟨a0, a1, a2, b0, b1, b2⟩ := hS2.three
  go_wp2_with fail
  refine (HLAH.out _).mono ?_
  rintro e w3 ⟨XA, cxa, rfl, hcx, hk3, h3⟩
  have XA3 := Lib.hid hk3
  have KA3 := Lib.hid (KA2.out.next h3)
  have KB3 := Lib.hid (KB2.out.next h3)
  clear a0 a1 a2 b0 b1 b2
  clear hk3 hcx KA2 KB2
  have hS3 := hS2.next h3
  have HR3 := Lib.hid (blk_next HR2.out h3)
  have HB3 : Hid (Below w.heap.size w w3) := HB2.out.trans (h3.mono HB2.out.size)
  clear hS2 
  clear h3
  go_wp2_with fail
  refine (times_calls XA YB cxa cb an bd _ XA3.out KB3.out (by have := HN.out.1; have := HN.out.2.2.2.2.2.2.2.2; omega) (by have := HN.out.2.2.2.1; have := HN.out.2.2.2.2.2.2.2.2; omega)).mono ?_
  rintro e w4 ⟨X, cx, rfl, hcx, hk4, h4⟩
  have X4 := Lib.hid hk4
  have CX := Lib.hid hcx
  have KA4 := Lib.hid (KA3.out.next h4)
  have KB4 := Lib.hid (KB3.out.next h4)
  clear hk4 hcx KA3 KB3 XA3
  have hS4 := hS3.next h4
  have HR4 := Lib.hid (blk_next HR3.out h4)
  have HB4 : Hid (Below w.heap.size w w4) := HB3.out.trans (h4.mono HB3.out.size)
  clear hS3 
  clear h4
  obtain ⟨a0, a1, a2, b0, b1, b2⟩ := hS4.three
  go_wp2_with fail
  refine (HLBH.out _).mono ?_
  rintro e w5 ⟨XB, cxb, rfl, hcx, hk5, h5⟩
  have XB5 := Lib.hid hk5
  have KA5 := Lib.hid (KA4.out.next h5)
  have KB5 := Lib.hid (KB4.out.next h5)
  have X5 := Lib.hid (X4.out.next h5)
  clear a0 a1 a2 b0 b1 b2
  clear hk5 hcx KA4 KB4 X4
  have hS5 := hS4.next h5
  have HR5 := Lib.hid (blk_next HR4.out h5)
  have HB5 : Hid (Below w.heap.size w w5) := HB4.out.trans (h5.mono HB4.out.size)
  clear hS4 
  clear h5
  go_wp2_with fail
  refine (times_calls XB YA cxb ca bn ad _ XB5.out KA5.out (by have := HN.out.2.1; have := HN.out.2.2.2.2.2.2.2.2; omega) (by have := HN.out.2.2.1; have := HN.out.2.2.2.2.2.2.2.2; omega)).mono ?_
  rintro e w6 ⟨Y, cy, rfl, hcy, hk6, h6⟩
  have Y6 := Lib.hid hk6
  have CY := Lib.hid hcy
  have KA6 := Lib.hid (KA5.out.next h6)
  have KB6 := Lib.hid (KB5.out.next h6)
  have X6 := Lib.hid (X5.out.next h6)
  clear hk6 hcy KA5 KB5 XB5 X5
  have hS6 := hS5.next h6
  have HR6 := Lib.hid (blk_next HR5.out h6)
  have HB6 : Hid (Below w.heap.size w w6) := HB5.out.trans (h6.mono HB5.out.size)
  clear hS5 
  clear h6
  go_wp2_with fail
  refine (times_calls YA YB ca cb ad bd _ KA6.out KB6.out (by have := HN.out.2.2.1; have := HN.out.2.2.2.2.2.2.2.2; omega) (by have := HN.out.2.2.2.1; have := HN.out.2.2.2.2.2.2.2.2; omega)).mono ?_
  rintro e w7 ⟨D, cd, rfl, hcd, hk7, h7⟩
  have D7 := Lib.hid hk7
  have CD := Lib.hid hcd
  have X7 := Lib.hid (X6.out.next h7)
  have Y7 := Lib.hid (Y6.out.next h7)
  clear hk7 hcd KA6 KB6 X6 Y6
  have hS7 := hS6.next h7
  have HR7 := Lib.hid (blk_next HR6.out h7)
  have HB7 : Hid (Below w.heap.size w w7) := HB6.out.trans (h7.mono HB6.out.size)
  clear hS6 
  clear h7
  obtain ⟨a0, a1, a2, b0, b1, b2⟩ := hS7.three
  go_wp2_with fail
  clear a0 a1 a2 b0 b1 b2
  refine wp_region_held_drew (S := TwoR w.heap.size (w.heap.size + 1) sa na da sa nb db) (by kernel_rfl) hS7 ?_
  intro hSd
  have HRd : Hid (w7.drew.heap[w.heap.size + 2]? = some (ratObj false ⟨#[]⟩ ⟨#[]⟩)) := HR7.out
  have HBd : Hid (Below w.heap.size w w7.drew) := HB7.out.drew
  clear hS7
  have Xd : Hid (KRd .u32 w7.drew w7.drew.heap.size X (limbs (an * bd))) := X7.out
  have Yd : Hid (KRd .u32 w7.drew w7.drew.heap.size Y (limbs (bn * ad))) := Y7.out
  have Dd : Hid (KRd .u32 w7.drew w7.drew.heap.size D (limbs (ad * bd))) := D7.out
  refine wpAnyH_take (i := 0) rfl (by kernel_rfl) (by kernel_rfl) (by kernel_rfl) (fun _ _ _ h => h) (Or.inl ⟨by kernel_rfl, (by intro w' _; go_simp; with_reducible rfl)⟩) hSd ?_
  go_simp
  refine wpAnyH_take (i := 1) (v := .bool sa) rfl (by kernel_rfl) (by kernel_rfl) (by kernel_rfl) (fun _ _ _ h => h) (Or.inl ⟨by kernel_rfl, (by intro w' hw'; have tw := hw'.three; obtain ⟨a0, a1, a2, b0, b1, b2⟩ := tw; go_simp)⟩) hSd ?_
  go_simp
  refine wpAnyH_take (i := 2) rfl (by kernel_rfl) (by kernel_rfl) (by kernel_rfl) (fun _ _ _ h => h) (Or.inl ⟨by kernel_rfl, (by intro w' _; go_simp; with_reducible rfl)⟩) hSd ?_
  go_simp
  refine wpAnyH_take (i := 3) rfl (by kernel_rfl) (by kernel_rfl) (by kernel_rfl) (fun _ _ _ h => h) (Or.inl ⟨by kernel_rfl, (by intro w' _; go_simp; with_reducible rfl)⟩) hSd ?_
  go_simp
  refine wpAnyH_take (i := 5) rfl (by kernel_rfl) (by kernel_rfl) (by kernel_rfl) (fun _ _ _ h => h) (Or.inl ⟨by kernel_rfl, (by intro w' _; go_simp; with_reducible rfl)⟩) hSd ?_
  go_simp
  refine wpAnyH_ready (rs := [4]) (by kernel_rfl) (by simp) ?_
  refine AllReadyH.cons rfl (fun K hK => ?_) AllReadyH.nil
  go_simp
  refine (plus_limbs X Y cx cy (an * bd) (bn * ad) _ Xd.out Yd.out (by have := HN.out.2.2.2.2.1; have := HN.out.2.2.2.2.2.2.2.2; omega) (by have := HN.out.2.2.2.2.2.1; have := HN.out.2.2.2.2.2.2.2.2; omega)).mono ?_
  rintro e we ⟨Z, cz, rfl, hcz, hkz, he⟩
  have HKZ := Lib.hid hkz
  have HCZ := Lib.hid hcz
  have De := Lib.hid (Dd.out.next he)
  have hSe := hSd.next he
  have HRe := Lib.hid (blk_next HRd.out he)
  have HBe : Hid (Below w.heap.size w we) := HBd.out.trans (he.mono HBd.out.size)
  clear hkz hcz
  clear he
  refine hK.out _ _ hSe (fun _ => ?_)
  clear hK K
  refine wpAnyH_ready (rs := [6]) (by kernel_rfl) (by simp) ?_
  refine AllReadyH.cons rfl (fun K hK => ?_) AllReadyH.nil
  go_simp
  refine (reduced_calls sa Z D cz cd (an * bd + bn * ad) (ad * bd) _ HKZ.out De.out (by have := HN.out.2.2.2.2.2.2.2.1; have := HN.out.2.2.2.2.2.2.2.2; omega) (by have := HN.out.2.2.2.2.2.2.1; have := HN.out.2.2.2.2.2.2.2.2; omega) HCZ.out CD.out HQ.out.1 q HQ.out.2).mono ?_
  rintro e wf ⟨rfl, hf⟩
  have hSf := hSe.next hf
  have HRf := Lib.hid (blk_next HRe.out hf)
  have HBf : Hid (Below w.heap.size w wf) := HBe.out.trans (hf.mono HBe.out.size)
  clear hf
  refine hK.out _ _ hSf (fun _ => ?_)
  clear hK K
  rw [HV.out]
  obtain ⟨c0, c1, c2, f0, f1, f2, hz⟩ := three_of HRf.out
  have n1 : w.heap.size ≠ w.heap.size + 2 := by omega
  have n2 : w.heap.size + 1 ≠ w.heap.size + 2 := by omega
  refine wpAnyH_ready (rs := [7]) (by kernel_rfl) (by simp) ?_
  refine AllReadyH.cons rfl (fun K hK => ?_) AllReadyH.nil
  go_simp
  refine hK.out _ _ (((hSf.setCell n1 n2).setCell n1 n2).setCell n1 n2) (fun _ => ?_)
  clear hK K
  refine wpAnyH_done (by kernel_rfl) ?_ _
  go_wp2_with fail
  exact bodyPost_ret (v := .agg #[.bool v1, .string v2, .string v3]) (by simp [results, Try.results33, go_sem, c0, c1, c2]) rfl ⟨by rw [HV.out], ((HBf.out.setCell (by simp <;> omega) _).setCell (by simp <;> omega) _).setCell (by simp <;> omega) _⟩

end Go.Proofs.Ytlljmiddgadcpaa

/- insolvencyref1.Plus in terms of Rat. -/
set_option linter.unusedVariables false
set_option linter.unusedSimpArgs false
namespace Go.Proofs.Ytlljmiddgadcpaa
open Go.RowKit

set_option maxHeartbeats 8000000 in
set_option maxRecDepth 100000 in
theorem refPlus_lt (a b : Rat) (k m : Nat) (w : World) (ha : Sz k a) (hb : Sz m b) (hkm : k + m ≤ 100000) (ha0 : a ≠ 0) (hb0 : b ≠ 0) (hs : rneg a ≠ rneg b) (hlt : a.num.natAbs * b.den < b.num.natAbs * a.den) :
    Calls Try.prog 33 #[ratV a, ratV b] w fun e w' => e = .returned (ratV (a + b)) ∧ Below w.heap.size w w' := by
  have hna := rnum_isEmpty ha0
  have hnb := rnum_isEmpty hb0
  have HLA := fun W => limbsRef_calls (rnum a) W (Nat.le_trans (ha.num (by omega)) (by decide))
  have HLB := fun W => limbsRef_calls (rnum b) W (Nat.le_trans (hb.num (by omega)) (by decide))
  have HDA := fun W => refDen_calls a W (ha.mono (by omega))
  have HDB := fun W => refDen_calls b W (hb.mono (by omega))
  have la := limbs_le_of_lt ha.1
  have lb := limbs_le_of_lt hb.1
  have ka := limbs_le_of_lt ha.2
  have kb := limbs_le_of_lt hb.2
  have lx := limbs_le_of_lt (pow_mul_lt ha.1 hb.2)
  have ly := limbs_le_of_lt (pow_mul_lt hb.1 ha.2)
  have ld := limbs_le_of_lt (pow_mul_lt ha.2 hb.2)
  have lxy := limbs_le_of_lt (pow_add_lt (pow_mul_lt ha.1 hb.2) (show b.num.natAbs * a.den < 256 ^ (k + m) by rw [Nat.add_comm]; exact pow_mul_lt hb.1 ha.2))
  have hd0 : a.den * b.den ≠ 0 := Nat.mul_ne_zero a.den_nz b.den_nz
  have hq : rv (rneg b) (b.num.natAbs * a.den - a.num.natAbs * b.den) (a.den * b.den) = a + b := (rv_add_lt hs hlt).symm
  unfold rnum at HLA HLB
  simp only [snum_ncan] at HLA HLB
  obtain ⟨sa, hsa⟩ : ∃ x, x = rneg a := ⟨_, rfl⟩
  obtain ⟨na, hna'⟩ : ∃ x, x = rnum a := ⟨_, rfl⟩
  obtain ⟨da, hda⟩ : ∃ x, x = rden a := ⟨_, rfl⟩
  obtain ⟨sb, hsb⟩ : ∃ x, x = rneg b := ⟨_, rfl⟩
  obtain ⟨nb, hnb'⟩ : ∃ x, x = rnum b := ⟨_, rfl⟩
  obtain ⟨db, hdb⟩ : ∃ x, x = rden b := ⟨_, rfl⟩
  have hra : ratV a = .agg #[.bool sa, .string na, .string da] := by rw [ratV, hsa, hna', hda]
  have hrb : ratV b = .agg #[.bool sb, .string nb, .string db] := by rw [ratV, hsb, hnb', hdb]
  rw [hra] at HDA ⊢
  rw [hrb] at HDB ⊢
  rw [← hna'] at hna
  rw [← hnb'] at hnb
  rw [← hsa, ← hsb] at hs
  have hsq : (sa == sb) = false := by simpa using hs
  rw [← hsb] at hq
  unfold rnum at hna' hnb'
  rw [← hna'] at HLA
  rw [← hnb'] at HLB
  obtain ⟨an, han⟩ : ∃ x, x = a.num.natAbs := ⟨_, rfl⟩
  obtain ⟨bn, hbn⟩ : ∃ x, x = b.num.natAbs := ⟨_, rfl⟩
  obtain ⟨ad, had⟩ : ∃ x, x = a.den := ⟨_, rfl⟩
  obtain ⟨bd, hbd⟩ : ∃ x, x = b.den := ⟨_, rfl⟩
  obtain ⟨q, hqq⟩ : ∃ x, x = a + b := ⟨_, rfl⟩
  rw [← han] at HLA la hq hlt
  rw [← hbn] at HLB lb hq hlt
  rw [← had] at HDA ka hd0 hq hlt
  rw [← hbd] at HDB kb hd0 hq hlt
  simp only [← han, ← hbn, ← had, ← hbd] at lx ly ld lxy
  rw [← hqq] at hq ⊢
  obtain ⟨v1, v2, v3, hv⟩ : ∃ v1 v2 v3, ratV q = .agg #[.bool v1, .string v2, .string v3] := ⟨_, _, _, rfl⟩
  have HLAH := Lib.hid HLA
  have HLBH := Lib.hid HLB
  have HDAH := Lib.hid HDA
  have HDBH := Lib.hid HDB
  have HN := Lib.hid (And.intro la (And.intro lb (And.intro ka (And.intro kb (And.intro lx (And.intro ly (And.intro ld (And.intro lxy hkm))))))))
  have HQ := Lib.hid (And.intro hd0 hq)
  have HV := Lib.hid hv
  clear HLA HLB HDA HDB hqq hbd had hbn han hna' hnb' hdb hda hsa hsb hra hrb la lb ka kb lx ly ld lxy hd0 hq ha hb ha0 hb0 hv hkm hs
  have HCM : Hid (cmpN (an * bd) (bn * ad) = -1) := cmpN_lt hlt
  have HLE : Hid (an * bd ≤ bn * ad) := Nat.le_of_lt hlt
  clear hlt
  go_enter Try.func33, Try.ntmps33
  go_wp2_with fail
  obtain ⟨w0, hW0⟩ : ∃ w0, w0 = ((w.alloc (.cells #[.bool sa, .string na, .string da] 36)).alloc (.cells #[.bool sb, .string nb, .string db] 36)).alloc (.cells #[.bool false, .string ⟨#[]⟩, .string ⟨#[]⟩] 36) := ⟨_, rfl⟩
  have hS0 : TwoR w.heap.size (w.heap.size + 1) sa na da sb nb db w0 := by
    rw [hW0]
    refine ⟨blk_alloc (blk_alloc (blk_new _ _)), blk_alloc ?_⟩
    have := blk_new (w.alloc (.cells #[.bool sa, .string na, .string da] 36)) (.cells #[.bool sb, .string nb, .string db] 36)
    rwa [World.size_alloc] at this
  have hR : w0.heap[w.heap.size + 2]? = some (ratObj false ⟨#[]⟩ ⟨#[]⟩) := by
    rw [hW0]
    have := blk_new ((w.alloc (.cells #[.bool sa, .string na, .string da] 36)).alloc (.cells #[.bool sb, .string nb, .string db] 36)) (.cells #[.bool false, .string ⟨#[]⟩, .string ⟨#[]⟩] 36)
    rwa [World.size_alloc, World.size_alloc] at this
  have hB : Below w.heap.size w w0 := by
    rw [hW0]
    exact rt_le
  try rw [← hW0]
  have HR0 := Lib.hid hR
  have HB0 := Lib.hid hB
  clear hW0 hR hB
  obtain ⟨a0, a1, a2, b0, b1, b2⟩ := hS0.three
  go_wp2_with fail
  refine (HDAH.out _).mono ?_
  rintro e w1 ⟨YA, ca, rfl, hca, hk1, h1⟩
  have KA1 := Lib.hid hk1
  have CA := Lib.hid hca
  clear a0 a1 a2 b0 b1 b2
  clear hk1 hca
  have hS1 := hS0.next h1
  have HR1 := Lib.hid (blk_next HR0.out h1)
  have HB1 : Hid (Below w.heap.size w w1) := HB0.out.trans (h1.mono HB0.out.size)
  clear hS0 
  clear h1
  obtain ⟨a0, a1, a2, b0, b1, b2⟩ := hS1.three
  go_wp2_with fail
  refine (HDBH.out _).mono ?_
  rintro e w2 ⟨YB, cb, rfl, hcb, hk2, h2⟩
  have KB2 := Lib.hid hk2
  have CB := Lib.hid hcb
  have KA2 := Lib.hid (KA1.out.next h2)
  clear a0 a1 a2 b0 b1 b2
  clear hk2 hcb KA1
  have hS2 := hS1.next h2
  have HR2 := Lib.hid (blk_next HR1.out h2)
  have HB2 : Hid (Below w.heap.size w w2) := HB1.out.trans (h2.mono HB1.out.size)
  clear hS1 
  clear h2
  obtain ⟨a0, a1, a2, b0, b1, b2⟩ := hS2.three
  go_wp2_with fail
  refine (HLAH.out _).mono ?_
  rintro e w3 ⟨XA, cxa, rfl, hcx, hk3, h3⟩
  have XA3 := Lib.hid hk3
  have KA3 := Lib.hid (KA2.out.next h3)
  have KB3 := Lib.hid (KB2.out.next h3)
  clear a0 a1 a2 b0 b1 b2
  clear hk3 hcx KA2 KB2
  have hS3 := hS2.next h3
  have HR3 := Lib.hid (blk_next HR2.out h3)
  have HB3 : Hid (Below w.heap.size w w3) := HB2.out.trans (h3.mono HB2.out.size)
  clear hS2 
  clear h3
  go_wp2_with fail
  refine (times_calls XA YB cxa cb an bd _ XA3.out KB3.out (by have := HN.out.1; have := HN.out.2.2.2.2.2.2.2.2; omega) (by have := HN.out.2.2.2.1; have := HN.out.2.2.2.2.2.2.2.2; omega)).mono ?_
  rintro e w4 ⟨X, cx, rfl, hcx, hk4, h4⟩
  have X4 := Lib.hid hk4
  have CX := Lib.hid hcx
  have KA4 := Lib.hid (KA3.out.next h4)
  have KB4 := Lib.hid (KB3.out.next h4)
  clear hk4 hcx KA3 KB3 XA3
  have hS4 := hS3.next h4
  have HR4 := Lib.hid (blk_next HR3.out h4)
  have HB4 : Hid (Below w.heap.size w w4) := HB3.out.trans (h4.mono HB3.out.size)
  clear hS3 
  clear h4
  obtain ⟨a0, a1, a2, b0, b1, b2⟩ := hS4.three
  go_wp2_with fail
  refine (HLBH.out _).mono ?_
  rintro e w5 ⟨XB, cxb, rfl, hcx, hk5, h5⟩
  have XB5 := Lib.hid hk5
  have KA5 := Lib.hid (KA4.out.next h5)
  have KB5 := Lib.hid (KB4.out.next h5)
  have X5 := Lib.hid (X4.out.next h5)
  clear a0 a1 a2 b0 b1 b2
  clear hk5 hcx KA4 KB4 X4
  have hS5 := hS4.next h5
  have HR5 := Lib.hid (blk_next HR4.out h5)
  have HB5 : Hid (Below w.heap.size w w5) := HB4.out.trans (h5.mono HB4.out.size)
  clear hS4 
  clear h5
  go_wp2_with fail
  refine (times_calls XB YA cxb ca bn ad _ XB5.out KA5.out (by have := HN.out.2.1; have := HN.out.2.2.2.2.2.2.2.2; omega) (by have := HN.out.2.2.1; have := HN.out.2.2.2.2.2.2.2.2; omega)).mono ?_
  rintro e w6 ⟨Y, cy, rfl, hcy, hk6, h6⟩
  have Y6 := Lib.hid hk6
  have CY := Lib.hid hcy
  have KA6 := Lib.hid (KA5.out.next h6)
  have KB6 := Lib.hid (KB5.out.next h6)
  have X6 := Lib.hid (X5.out.next h6)
  clear hk6 hcy KA5 KB5 XB5 X5
  have hS6 := hS5.next h6
  have HR6 := Lib.hid (blk_next HR5.out h6)
  have HB6 : Hid (Below w.heap.size w w6) := HB5.out.trans (h6.mono HB5.out.size)
  clear hS5 
  clear h6
  go_wp2_with fail
  refine (times_calls YA YB ca cb ad bd _ KA6.out KB6.out (by have := HN.out.2.2.1; have := HN.out.2.2.2.2.2.2.2.2; omega) (by have := HN.out.2.2.2.1; have := HN.out.2.2.2.2.2.2.2.2; omega)).mono ?_
  rintro e w7 ⟨D, cd, rfl, hcd, hk7, h7⟩
  have D7 := Lib.hid hk7
  have CD := Lib.hid hcd
  have X7 := Lib.hid (X6.out.next h7)
  have Y7 := Lib.hid (Y6.out.next h7)
  clear hk7 hcd KA6 KB6 X6 Y6
  have hS7 := hS6.next h7
  have HR7 := Lib.hid (blk_next HR6.out h7)
  have HB7 : Hid (Below w.heap.size w w7) := HB6.out.trans (h7.mono HB6.out.size)
  clear hS6 
  clear h7
  obtain ⟨a0, a1, a2, b0, b1, b2⟩ := hS7.three
  go_wp2_with fail
  clear a0 a1 a2 b0 b1 b2
  refine (order_calls X Y cx cy (an * bd) (bn * ad) _ X7.out Y7.out (by have := HN.out.2.2.2.2.1; have := HN.out.2.2.2.2.2.2.2.2; omega) (by have := HN.out.2.2.2.2.2.1; have := HN.out.2.2.2.2.2.2.2.2; omega)).mono ?_
  rintro e w8 ⟨rfl, h8⟩
  have X8 := Lib.hid (X7.out.next h8)
  have Y8 := Lib.hid (Y7.out.next h8)
  have D8 := Lib.hid (D7.out.next h8)
  clear X7 Y7 D7
  have hS8 := hS7.next h8
  have HR8 := Lib.hid (blk_next HR7.out h8)
  have HB8 : Hid (Below w.heap.size w w8) := HB7.out.trans (h8.mono HB7.out.size)
  clear hS7 
  clear h8
  rw [HCM.out]
  obtain ⟨a0, a1, a2, b0, b1, b2⟩ := hS8.three
  go_wp2_with fail
  clear a0 a1 a2 b0 b1 b2
  refine wp_region_held_drew (S := TwoR w.heap.size (w.heap.size + 1) sa na da sb nb db) (by kernel_rfl) hS8 ?_
  intro hSd
  have HRd : Hid (w8.drew.heap[w.heap.size + 2]? = some (ratObj false ⟨#[]⟩ ⟨#[]⟩)) := HR8.out
  have HBd : Hid (Below w.heap.size w w8.drew) := HB8.out.drew
  clear hS8
  have Xd : Hid (KRd .u32 w8.drew w8.drew.heap.size X (limbs (an * bd))) := X8.out
  have Yd : Hid (KRd .u32 w8.drew w8.drew.heap.size Y (limbs (bn * ad))) := Y8.out
  have Dd : Hid (KRd .u32 w8.drew w8.drew.heap.size D (limbs (ad * bd))) := D8.out
  refine wpAnyH_take (i := 0) rfl (by kernel_rfl) (by kernel_rfl) (by kernel_rfl) (fun _ _ _ h => h) (Or.inl ⟨by kernel_rfl, (by intro w' _; go_simp; with_reducible rfl)⟩) hSd ?_
  go_simp
  refine wpAnyH_take (i := 1) (v := .bool sb) rfl (by kernel_rfl) (by kernel_rfl) (by kernel_rfl) (fun _ _ _ h => h) (Or.inl ⟨by kernel_rfl, (by intro w' hw'; have tw := hw'.three; obtain ⟨a0, a1, a2, b0, b1, b2⟩ := tw; go_simp)⟩) hSd ?_
  go_simp
  refine wpAnyH_take (i := 2) rfl (by kernel_rfl) (by kernel_rfl) (by kernel_rfl) (fun _ _ _ h => h) (Or.inl ⟨by kernel_rfl, (by intro w' _; go_simp; with_reducible rfl)⟩) hSd ?_
  go_simp
  refine wpAnyH_take (i := 3) rfl (by kernel_rfl) (by kernel_rfl) (by kernel_rfl) (fun _ _ _ h => h) (Or.inl ⟨by kernel_rfl, (by intro w' _; go_simp; with_reducible rfl)⟩) hSd ?_
  go_simp
  refine wpAnyH_take (i := 5) rfl (by kernel_rfl) (by kernel_rfl) (by kernel_rfl) (fun _ _ _ h => h) (Or.inl ⟨by kernel_rfl, (by intro w' _; go_simp; with_reducible rfl)⟩) hSd ?_
  go_simp
  refine wpAnyH_ready (rs := [4]) (by kernel_rfl) (by simp) ?_
  refine AllReadyH.cons rfl (fun K hK => ?_) AllReadyH.nil
  go_simp
  refine (minus_calls Y X cy cx (bn * ad) (an * bd) _ Yd.out Xd.out (by have := HN.out.2.2.2.2.2.1; have := HN.out.2.2.2.2.2.2.2.2; omega) HLE.out).mono ?_
  rintro e we ⟨Z, cz, rfl, hcz, hkz, he⟩
  have HKZ := Lib.hid hkz
  have HCZ := Lib.hid hcz
  have De := Lib.hid (Dd.out.next he)
  have hSe := hSd.next he
  have HRe := Lib.hid (blk_next HRd.out he)
  have HBe : Hid (Below w.heap.size w we) := HBd.out.trans (he.mono HBd.out.size)
  clear hkz hcz
  clear he
  refine hK.out _ _ hSe (fun _ => ?_)
  clear hK K
  refine wpAnyH_ready (rs := [6]) (by kernel_rfl) (by simp) ?_
  refine AllReadyH.cons rfl (fun K hK => ?_) AllReadyH.nil
  go_simp
  refine (reduced_calls sb Z D cz cd (bn * ad - an * bd) (ad * bd) _ HKZ.out De.out (by have := HN.out.2.2.2.2.2.1; have := HN.out.2.2.2.2.2.2.2.2; have h9 := limbs_mono (Nat.sub_le (bn * ad) (an * bd)); omega) (by have := HN.out.2.2.2.2.2.2.1; have := HN.out.2.2.2.2.2.2.2.2; omega) HCZ.out CD.out HQ.out.1 q HQ.out.2).mono ?_
  rintro e wf ⟨rfl, hf⟩
  have hSf := hSe.next hf
  have HRf := Lib.hid (blk_next HRe.out hf)
  have HBf : Hid (Below w.heap.size w wf) := HBe.out.trans (hf.mono HBe.out.size)
  clear hf
  refine hK.out _ _ hSf (fun _ => ?_)
  clear hK K
  rw [HV.out]
  obtain ⟨c0, c1, c2, f0, f1, f2, hz⟩ := three_of HRf.out
  have n1 : w.heap.size ≠ w.heap.size + 2 := by omega
  have n2 : w.heap.size + 1 ≠ w.heap.size + 2 := by omega
  refine wpAnyH_ready (rs := [7]) (by kernel_rfl) (by simp) ?_
  refine AllReadyH.cons rfl (fun K hK => ?_) AllReadyH.nil
  go_simp
  refine hK.out _ _ (((hSf.setCell n1 n2).setCell n1 n2).setCell n1 n2) (fun _ => ?_)
  clear hK K
  refine wpAnyH_done (by kernel_rfl) ?_ _
  go_wp2_with fail
  exact bodyPost_ret (v := .agg #[.bool v1, .string v2, .string v3]) (by simp [results, Try.results33, go_sem, c0, c1, c2]) rfl ⟨by rw [HV.out], ((HBf.out.setCell (by simp <;> omega) _).setCell (by simp <;> omega) _).setCell (by simp <;> omega) _⟩

end Go.Proofs.Ytlljmiddgadcpaa

/- insolvencyref1.Plus in terms of Rat. -/
set_option linter.unusedVariables false
set_option linter.unusedSimpArgs false
namespace Go.Proofs.Ytlljmiddgadcpaa
open Go.RowKit

set_option maxHeartbeats 8000000 in
set_option maxRecDepth 100000 in
theorem refPlus_ge (a b : Rat) (k m : Nat) (w : World) (ha : Sz k a) (hb : Sz m b) (hkm : k + m ≤ 100000) (ha0 : a ≠ 0) (hb0 : b ≠ 0) (hs : rneg a ≠ rneg b) (hge : b.num.natAbs * a.den ≤ a.num.natAbs * b.den) :
    Calls Try.prog 33 #[ratV a, ratV b] w fun e w' => e = .returned (ratV (a + b)) ∧ Below w.heap.size w w' := by
  have hna := rnum_isEmpty ha0
  have hnb := rnum_isEmpty hb0
  have HLA := fun W => limbsRef_calls (rnum a) W (Nat.le_trans (ha.num (by omega)) (by decide))
  have HLB := fun W => limbsRef_calls (rnum b) W (Nat.le_trans (hb.num (by omega)) (by decide))
  have HDA := fun W => refDen_calls a W (ha.mono (by omega))
  have HDB := fun W => refDen_calls b W (hb.mono (by omega))
  have la := limbs_le_of_lt ha.1
  have lb := limbs_le_of_lt hb.1
  have ka := limbs_le_of_lt ha.2
  have kb := limbs_le_of_lt hb.2
  have lx := limbs_le_of_lt (pow_mul_lt ha.1 hb.2)
  have ly := limbs_le_of_lt (pow_mul_lt hb.1 ha.2)
  have ld := limbs_le_of_lt (pow_mul_lt ha.2 hb.2)
  have lxy := limbs_le_of_lt (pow_add_lt (pow_mul_lt ha.1 hb.2) (show b.num.natAbs * a.den < 256 ^ (k + m) by rw [Nat.add_comm]; exact pow_mul_lt hb.1 ha.2))
  have hd0 : a.den * b.den ≠ 0 := Nat.mul_ne_zero a.den_nz b.den_nz
  have hq : rv (rneg a) (a.num.natAbs * b.den - b.num.natAbs * a.den) (a.den * b.den) = a + b := (rv_add_ge hs hge).symm
  unfold rnum at HLA HLB
  simp only [snum_ncan] at HLA HLB
  obtain ⟨sa, hsa⟩ : ∃ x, x = rneg a := ⟨_, rfl⟩
  obtain ⟨na, hna'⟩ : ∃ x, x = rnum a := ⟨_, rfl⟩
  obtain ⟨da, hda⟩ : ∃ x, x = rden a := ⟨_, rfl⟩
  obtain ⟨sb, hsb⟩ : ∃ x, x = rneg b := ⟨_, rfl⟩
  obtain ⟨nb, hnb'⟩ : ∃ x, x = rnum b := ⟨_, rfl⟩
  obtain ⟨db, hdb⟩ : ∃ x, x = rden b := ⟨_, rfl⟩
  have hra : ratV a = .agg #[.bool sa, .string na, .string da] := by rw [ratV, hsa, hna', hda]
  have hrb : ratV b = .agg #[.bool sb, .string nb, .string db] := by rw [ratV, hsb, hnb', hdb]
  rw [hra] at HDA ⊢
  rw [hrb] at HDB ⊢
  rw [← hna'] at hna
  rw [← hnb'] at hnb
  rw [← hsa, ← hsb] at hs
  have hsq : (sa == sb) = false := by simpa using hs
  rw [← hsa] at hq
  unfold rnum at hna' hnb'
  rw [← hna'] at HLA
  rw [← hnb'] at HLB
  obtain ⟨an, han⟩ : ∃ x, x = a.num.natAbs := ⟨_, rfl⟩
  obtain ⟨bn, hbn⟩ : ∃ x, x = b.num.natAbs := ⟨_, rfl⟩
  obtain ⟨ad, had⟩ : ∃ x, x = a.den := ⟨_, rfl⟩
  obtain ⟨bd, hbd⟩ : ∃ x, x = b.den := ⟨_, rfl⟩
  obtain ⟨q, hqq⟩ : ∃ x, x = a + b := ⟨_, rfl⟩
  rw [← han] at HLA la hq hge
  rw [← hbn] at HLB lb hq hge
  rw [← had] at HDA ka hd0 hq hge
  rw [← hbd] at HDB kb hd0 hq hge
  simp only [← han, ← hbn, ← had, ← hbd] at lx ly ld lxy
  rw [← hqq] at hq ⊢
  obtain ⟨v1, v2, v3, hv⟩ : ∃ v1 v2 v3, ratV q = .agg #[.bool v1, .string v2, .string v3] := ⟨_, _, _, rfl⟩
  have HLAH := Lib.hid HLA
  have HLBH := Lib.hid HLB
  have HDAH := Lib.hid HDA
  have HDBH := Lib.hid HDB
  have HN := Lib.hid (And.intro la (And.intro lb (And.intro ka (And.intro kb (And.intro lx (And.intro ly (And.intro ld (And.intro lxy hkm))))))))
  have HQ := Lib.hid (And.intro hd0 hq)
  have HV := Lib.hid hv
  clear HLA HLB HDA HDB hqq hbd had hbn han hna' hnb' hdb hda hsa hsb hra hrb la lb ka kb lx ly ld lxy hd0 hq ha hb ha0 hb0 hv hkm hs
  have HLE := Lib.hid hge
  have hcm2 : ¬ cmpN (an * bd) (bn * ad) < 0 := by have := cmpN_ge hge; omega
  obtain ⟨cm, hcm⟩ : ∃ cm, cm = cmpN (an * bd) (bn * ad) := ⟨_, rfl⟩
  rw [← hcm] at hcm2
  have hcm3 : decide (cm < 0) = false := decide_eq_false hcm2
  have HCM := Lib.hid hcm.symm
  clear hge hcm hcm2
  go_enter Try.func33, Try.ntmps33
  go_wp2_with fail
  obtain ⟨w0, hW0⟩ : ∃ w0, w0 = ((w.alloc (.cells #[.bool sa, .string na, .string da] 36)).alloc (.cells #[.bool sb, .string nb, .string db] 36)).alloc (.cells #[.bool false, .string ⟨#[]⟩, .string ⟨#[]⟩] 36) := ⟨_, rfl⟩
  have hS0 : TwoR w.heap.size (w.heap.size + 1) sa na da sb nb db w0 := by
    rw [hW0]
    refine ⟨blk_alloc (blk_alloc (blk_new _ _)), blk_alloc ?_⟩
    have := blk_new (w.alloc (.cells #[.bool sa, .string na, .string da] 36)) (.cells #[.bool sb, .string nb, .string db] 36)
    rwa [World.size_alloc] at this
  have hR : w0.heap[w.heap.size + 2]? = some (ratObj false ⟨#[]⟩ ⟨#[]⟩) := by
    rw [hW0]
    have := blk_new ((w.alloc (.cells #[.bool sa, .string na, .string da] 36)).alloc (.cells #[.bool sb, .string nb, .string db] 36)) (.cells #[.bool false, .string ⟨#[]⟩, .string ⟨#[]⟩] 36)
    rwa [World.size_alloc, World.size_alloc] at this
  have hB : Below w.heap.size w w0 := by
    rw [hW0]
    exact rt_le
  try rw [← hW0]
  have HR0 := Lib.hid hR
  have HB0 := Lib.hid hB
  clear hW0 hR hB
  obtain ⟨a0, a1, a2, b0, b1, b2⟩ := hS0.three
  go_wp2_with fail
  refine (HDAH.out _).mono ?_
  rintro e w1 ⟨YA, ca, rfl, hca, hk1, h1⟩
  have KA1 := Lib.hid hk1
  have CA := Lib.hid hca
  clear a0 a1 a2 b0 b1 b2
  clear hk1 hca
  have hS1 := hS0.next h1
  have HR1 := Lib.hid (blk_next HR0.out h1)
  have HB1 : Hid (Below w.heap.size w w1) := HB0.out.trans (h1.mono HB0.out.size)
  clear hS0 
  clear h1
  obtain ⟨a0, a1, a2, b0, b1, b2⟩ := hS1.three
  go_wp2_with fail
  refine (HDBH.out _).mono ?_
  rintro e w2 ⟨YB, cb, rfl, hcb, hk2, h2⟩
  have KB2 := Lib.hid hk2
  have CB := Lib.hid hcb
  have KA2 := Lib.hid (KA1.out.next h2)
  clear a0 a1 a2 b0 b1 b2
  clear hk2 hcb KA1
  have hS2 := hS1.next h2
  have HR2 := Lib.hid (blk_next HR1.out h2)
  have HB2 : Hid (Below w.heap.size w w2) := HB1.out.trans (h2.mono HB1.out.size)
  clear hS1 
  clear h2
  obtain ⟨a0, a1, a2, b0, b1, b2⟩ := hS2.three
  go_wp2_with fail
  refine (HLAH.out _).mono ?_
  rintro e w3 ⟨XA, cxa, rfl, hcx, hk3, h3⟩
  have XA3 := Lib.hid hk3
  have KA3 := Lib.hid (KA2.out.next h3)
  have KB3 := Lib.hid (KB2.out.next h3)
  clear a0 a1 a2 b0 b1 b2
  clear hk3 hcx KA2 KB2
  have hS3 := hS2.next h3
  have HR3 := Lib.hid (blk_next HR2.out h3)
  have HB3 : Hid (Below w.heap.size w w3) := HB2.out.trans (h3.mono HB2.out.size)
  clear hS2 
  clear h3
  go_wp2_with fail
  refine (times_calls XA YB cxa cb an bd _ XA3.out KB3.out (by have := HN.out.1; have := HN.out.2.2.2.2.2.2.2.2; omega) (by have := HN.out.2.2.2.1; have := HN.out.2.2.2.2.2.2.2.2; omega)).mono ?_
  rintro e w4 ⟨X, cx, rfl, hcx, hk4, h4⟩
  have X4 := Lib.hid hk4
  have CX := Lib.hid hcx
  have KA4 := Lib.hid (KA3.out.next h4)
  have KB4 := Lib.hid (KB3.out.next h4)
  clear hk4 hcx KA3 KB3 XA3
  have hS4 := hS3.next h4
  have HR4 := Lib.hid (blk_next HR3.out h4)
  have HB4 : Hid (Below w.heap.size w w4) := HB3.out.trans (h4.mono HB3.out.size)
  clear hS3 
  clear h4
  obtain ⟨a0, a1, a2, b0, b1, b2⟩ := hS4.three
  go_wp2_with fail
  refine (HLBH.out _).mono ?_
  rintro e w5 ⟨XB, cxb, rfl, hcx, hk5, h5⟩
  have XB5 := Lib.hid hk5
  have KA5 := Lib.hid (KA4.out.next h5)
  have KB5 := Lib.hid (KB4.out.next h5)
  have X5 := Lib.hid (X4.out.next h5)
  clear a0 a1 a2 b0 b1 b2
  clear hk5 hcx KA4 KB4 X4
  have hS5 := hS4.next h5
  have HR5 := Lib.hid (blk_next HR4.out h5)
  have HB5 : Hid (Below w.heap.size w w5) := HB4.out.trans (h5.mono HB4.out.size)
  clear hS4 
  clear h5
  go_wp2_with fail
  refine (times_calls XB YA cxb ca bn ad _ XB5.out KA5.out (by have := HN.out.2.1; have := HN.out.2.2.2.2.2.2.2.2; omega) (by have := HN.out.2.2.1; have := HN.out.2.2.2.2.2.2.2.2; omega)).mono ?_
  rintro e w6 ⟨Y, cy, rfl, hcy, hk6, h6⟩
  have Y6 := Lib.hid hk6
  have CY := Lib.hid hcy
  have KA6 := Lib.hid (KA5.out.next h6)
  have KB6 := Lib.hid (KB5.out.next h6)
  have X6 := Lib.hid (X5.out.next h6)
  clear hk6 hcy KA5 KB5 XB5 X5
  have hS6 := hS5.next h6
  have HR6 := Lib.hid (blk_next HR5.out h6)
  have HB6 : Hid (Below w.heap.size w w6) := HB5.out.trans (h6.mono HB5.out.size)
  clear hS5 
  clear h6
  go_wp2_with fail
  refine (times_calls YA YB ca cb ad bd _ KA6.out KB6.out (by have := HN.out.2.2.1; have := HN.out.2.2.2.2.2.2.2.2; omega) (by have := HN.out.2.2.2.1; have := HN.out.2.2.2.2.2.2.2.2; omega)).mono ?_
  rintro e w7 ⟨D, cd, rfl, hcd, hk7, h7⟩
  have D7 := Lib.hid hk7
  have CD := Lib.hid hcd
  have X7 := Lib.hid (X6.out.next h7)
  have Y7 := Lib.hid (Y6.out.next h7)
  clear hk7 hcd KA6 KB6 X6 Y6
  have hS7 := hS6.next h7
  have HR7 := Lib.hid (blk_next HR6.out h7)
  have HB7 : Hid (Below w.heap.size w w7) := HB6.out.trans (h7.mono HB6.out.size)
  clear hS6 
  clear h7
  obtain ⟨a0, a1, a2, b0, b1, b2⟩ := hS7.three
  go_wp2_with fail
  clear a0 a1 a2 b0 b1 b2
  refine (order_calls X Y cx cy (an * bd) (bn * ad) _ X7.out Y7.out (by have := HN.out.2.2.2.2.1; have := HN.out.2.2.2.2.2.2.2.2; omega) (by have := HN.out.2.2.2.2.2.1; have := HN.out.2.2.2.2.2.2.2.2; omega)).mono ?_
  rintro e w8 ⟨rfl, h8⟩
  have X8 := Lib.hid (X7.out.next h8)
  have Y8 := Lib.hid (Y7.out.next h8)
  have D8 := Lib.hid (D7.out.next h8)
  clear X7 Y7 D7
  have hS8 := hS7.next h8
  have HR8 := Lib.hid (blk_next HR7.out h8)
  have HB8 : Hid (Below w.heap.size w w8) := HB7.out.trans (h8.mono HB7.out.size)
  clear hS7 
  clear h8
  rw [HCM.out]
  obtain ⟨a0, a1, a2, b0, b1, b2⟩ := hS8.three
  go_wp2_with fail
  clear a0 a1 a2 b0 b1 b2
  refine wp_region_held_drew (S := TwoR w.heap.size (w.heap.size + 1) sa na da sb nb db) (by kernel_rfl) hS8 ?_
  intro hSd
  have HRd : Hid (w8.drew.heap[w.heap.size + 2]? = some (ratObj false ⟨#[]⟩ ⟨#[]⟩)) := HR8.out
  have HBd : Hid (Below w.heap.size w w8.drew) := HB8.out.drew
  clear hS8
  have Xd : Hid (KRd .u32 w8.drew w8.drew.heap.size X (limbs (an * bd))) := X8.out
  have Yd : Hid (KRd .u32 w8.drew w8.drew.heap.size Y (limbs (bn * ad))) := Y8.out
  have Dd : Hid (KRd .u32 w8.drew w8.drew.heap.size D (limbs (ad * bd))) := D8.out
  refine wpAnyH_take (i := 0) rfl (by kernel_rfl) (by kernel_rfl) (by kernel_rfl) (fun _ _ _ h => h) (Or.inl ⟨by kernel_rfl, (by intro w' _; go_simp; with_reducible rfl)⟩) hSd ?_
  go_simp
  refine wpAnyH_take (i := 1) (v := .bool sa) rfl (by kernel_rfl) (by kernel_rfl) (by kernel_rfl) (fun _ _ _ h => h) (Or.inl ⟨by kernel_rfl, (by intro w' hw'; have tw := hw'.three; obtain ⟨a0, a1, a2, b0, b1, b2⟩ := tw; go_simp)⟩) hSd ?_
  go_simp
  refine wpAnyH_take (i := 2) rfl (by kernel_rfl) (by kernel_rfl) (by kernel_rfl) (fun _ _ _ h => h) (Or.inl ⟨by kernel_rfl, (by intro w' _; go_simp; with_reducible rfl)⟩) hSd ?_
  go_simp
  refine wpAnyH_take (i := 3) rfl (by kernel_rfl) (by kernel_rfl) (by kernel_rfl) (fun _ _ _ h => h) (Or.inl ⟨by kernel_rfl, (by intro w' _; go_simp; with_reducible rfl)⟩) hSd ?_
  go_simp
  refine wpAnyH_take (i := 5) rfl (by kernel_rfl) (by kernel_rfl) (by kernel_rfl) (fun _ _ _ h => h) (Or.inl ⟨by kernel_rfl, (by intro w' _; go_simp; with_reducible rfl)⟩) hSd ?_
  go_simp
  refine wpAnyH_ready (rs := [4]) (by kernel_rfl) (by simp) ?_
  refine AllReadyH.cons rfl (fun K hK => ?_) AllReadyH.nil
  go_simp
  refine (minus_calls X Y cx cy (an * bd) (bn * ad) _ Xd.out Yd.out (by have := HN.out.2.2.2.2.1; have := HN.out.2.2.2.2.2.2.2.2; omega) HLE.out).mono ?_
  rintro e we ⟨Z, cz, rfl, hcz, hkz, he⟩
  have HKZ := Lib.hid hkz
  have HCZ := Lib.hid hcz
  have De := Lib.hid (Dd.out.next he)
  have hSe := hSd.next he
  have HRe := Lib.hid (blk_next HRd.out he)
  have HBe : Hid (Below w.heap.size w we) := HBd.out.trans (he.mono HBd.out.size)
  clear hkz hcz
  clear he
  refine hK.out _ _ hSe (fun _ => ?_)
  clear hK K
  refine wpAnyH_ready (rs := [6]) (by kernel_rfl) (by simp) ?_
  refine AllReadyH.cons rfl (fun K hK => ?_) AllReadyH.nil
  go_simp
  refine (reduced_calls sa Z D cz cd (an * bd - bn * ad) (ad * bd) _ HKZ.out De.out (by have := HN.out.2.2.2.2.1; have := HN.out.2.2.2.2.2.2.2.2; have h9 := limbs_mono (Nat.sub_le (an * bd) (bn * ad)); omega) (by have := HN.out.2.2.2.2.2.2.1; have := HN.out.2.2.2.2.2.2.2.2; omega) HCZ.out CD.out HQ.out.1 q HQ.out.2).mono ?_
  rintro e wf ⟨rfl, hf⟩
  have hSf := hSe.next hf
  have HRf := Lib.hid (blk_next HRe.out hf)
  have HBf : Hid (Below w.heap.size w wf) := HBe.out.trans (hf.mono HBe.out.size)
  clear hf
  refine hK.out _ _ hSf (fun _ => ?_)
  clear hK K
  rw [HV.out]
  obtain ⟨c0, c1, c2, f0, f1, f2, hz⟩ := three_of HRf.out
  have n1 : w.heap.size ≠ w.heap.size + 2 := by omega
  have n2 : w.heap.size + 1 ≠ w.heap.size + 2 := by omega
  refine wpAnyH_ready (rs := [7]) (by kernel_rfl) (by simp) ?_
  refine AllReadyH.cons rfl (fun K hK => ?_) AllReadyH.nil
  go_simp
  refine hK.out _ _ (((hSf.setCell n1 n2).setCell n1 n2).setCell n1 n2) (fun _ => ?_)
  clear hK K
  refine wpAnyH_done (by kernel_rfl) ?_ _
  go_wp2_with fail
  exact bodyPost_ret (v := .agg #[.bool v1, .string v2, .string v3]) (by simp [results, Try.results33, go_sem, c0, c1, c2]) rfl ⟨by rw [HV.out], ((HBf.out.setCell (by simp <;> omega) _).setCell (by simp <;> omega) _).setCell (by simp <;> omega) _⟩

end Go.Proofs.Ytlljmiddgadcpaa

/- insolvencyref1: Plus, Minus, Less in terms of Rat. -/
set_option linter.unusedVariables false
set_option linter.unusedSimpArgs false
namespace Go.Proofs.Ytlljmiddgadcpaa
open Go.RowKit

theorem refTimes_calls (a b : Rat) (k m : Nat) (w : World) (ha : Sz k a) (hb : Sz m b) (hkm : k + m ≤ 100000) :
    Calls Try.prog 9 #[ratV a, ratV b] w fun e w' => e = .returned (ratV (a * b)) ∧ Below w.heap.size w w' := by
  by_cases ha0 : a = 0
  · rw [show a * b = 0 by rw [ha0, Rat.zero_mul]]
    rw [ratV, ratV, rnum_empty ha0]
    exact refTimes_zeroA _ _ _ _ _ w
  · by_cases hb0 : b = 0
    · rw [show a * b = 0 by rw [hb0, Rat.mul_zero]]
      rw [ratV, ratV, rnum_empty hb0]
      exact refTimes_zeroB _ _ _ _ _ w (rnum_isEmpty ha0)
    · exact refTimes_main a b k m w ha hb hkm ha0 hb0

theorem refPlus_calls (a b : Rat) (k m : Nat) (w : World) (ha : Sz k a) (hb : Sz m b) (hkm : k + m ≤ 100000) :
    Calls Try.prog 33 #[ratV a, ratV b] w fun e w' => e = .returned (ratV (a + b)) ∧ Below w.heap.size w w' := by
  by_cases ha0 : a = 0
  · rw [show a + b = b by rw [ha0, Rat.zero_add]]
    rw [show ratV a = .agg #[.bool (rneg a), .string ⟨#[]⟩, .string (rden a)] by rw [ratV, rnum_empty ha0]]
    exact refPlus_zeroA b _ _ w
  · by_cases hb0 : b = 0
    · rw [show a + b = a by rw [hb0, Rat.add_zero]]
      rw [show ratV b = .agg #[.bool (rneg b), .string ⟨#[]⟩, .string (rden b)] by rw [ratV, rnum_empty hb0]]
      exact refPlus_zeroB a _ _ w ha0
    · by_cases hs : rneg a = rneg b
      · exact refPlus_same a b k m w ha hb hkm ha0 hb0 hs
      · rcases Nat.lt_or_ge (a.num.natAbs * b.den) (b.num.natAbs * a.den) with h | h
        · exact refPlus_lt a b k m w ha hb hkm ha0 hb0 hs h
        · exact refPlus_ge a b k m w ha hb hkm ha0 hb0 hs h

theorem rneg_of_zero {q : Rat} (h : q = 0) : rneg q = false := by rw [h]; decide
theorem sgnR_neg (q : Rat) : decide (sgnR q < 0) = rneg q := by
  unfold sgnR
  by_cases h : q = 0
  · rw [if_pos h, rneg_of_zero h]; decide
  · rw [if_neg h]
    cases rneg q <;> decide

set_option maxHeartbeats 1000000 in
set_option maxRecDepth 100000 in
theorem refMinus_calls (a b : Rat) (k m : Nat) (w : World) (ha : Sz k a) (hb : Sz m b) (hkm : k + m ≤ 100000) :
    Calls Try.prog 24 #[ratV a, ratV b] w fun e w' => e = .returned (ratV (a - b)) ∧ Below w.heap.size w w' := by
  have HO := fun W => refOpposite_calls b W
  have HP := fun W => refPlus_calls a (-b) k m W ha hb.neg hkm
  rw [← Rat.sub_eq_add_neg] at HP
  obtain ⟨sa, hsa⟩ : ∃ x, x = rneg a := ⟨_, rfl⟩
  obtain ⟨na, hna⟩ : ∃ x, x = rnum a := ⟨_, rfl⟩
  obtain ⟨da, hda⟩ : ∃ x, x = rden a := ⟨_, rfl⟩
  obtain ⟨sb, hsb⟩ : ∃ x, x = rneg b := ⟨_, rfl⟩
  obtain ⟨nb, hnb⟩ : ∃ x, x = rnum b := ⟨_, rfl⟩
  obtain ⟨db, hdb⟩ : ∃ x, x = rden b := ⟨_, rfl⟩
  have hra : ratV a = .agg #[.bool sa, .string na, .string da] := by rw [ratV, hsa, hna, hda]
  have hrb : ratV b = .agg #[.bool sb, .string nb, .string db] := by rw [ratV, hsb, hnb, hdb]
  obtain ⟨u1, u2, u3, hu⟩ : ∃ v1 v2 v3, ratV (-b) = .agg #[.bool v1, .string v2, .string v3] := ⟨_, _, _, rfl⟩
  obtain ⟨v1, v2, v3, hv⟩ : ∃ v1 v2 v3, ratV (a - b) = .agg #[.bool v1, .string v2, .string v3] := ⟨_, _, _, rfl⟩
  rw [hra, hu, hv] at HP
  rw [hrb, hu] at HO
  rw [hra, hrb, hv]
  have HOH := Lib.hid HO
  have HPH := Lib.hid HP
  clear HO HP hra hrb hu hv hsa hna hda hsb hnb hdb ha hb
  go_enter Try.func24, Try.ntmps24
  go_wp2_with fail
  obtain ⟨w0, hW0⟩ : ∃ w0, w0 = ((w.alloc (.cells #[.bool sa, .string na, .string da] 36)).alloc (.cells #[.bool sb, .string nb, .string db] 36)).alloc (.cells #[.bool false, .string ⟨#[]⟩, .string ⟨#[]⟩] 36) := ⟨_, rfl⟩
  have hS0 : TwoR w.heap.size (w.heap.size + 1) sa na da sb nb db w0 := by
    rw [hW0]
    refine ⟨blk_alloc (blk_alloc (blk_new _ _)), blk_alloc ?_⟩
    have := blk_new (w.alloc (.cells #[.bool sa, .string na, .string da] 36)) (.cells #[.bool sb, .string nb, .string db] 36)
    rwa [World.size_alloc] at this
  have hR : w0.heap[w.heap.size + 2]? = some (ratObj false ⟨#[]⟩ ⟨#[]⟩) := by
    rw [hW0]
    have := blk_new ((w.alloc (.cells #[.bool sa, .string na, .string da] 36)).alloc (.cells #[.bool sb, .string nb, .string db] 36)) (.cells #[.bool false, .string ⟨#[]⟩, .string ⟨#[]⟩] 36)
    rwa [World.size_alloc, World.size_alloc] at this
  have hB : Below w.heap.size w w0 := by
    rw [hW0]
    exact rt_le
  try rw [← hW0]
  have HR0 := Lib.hid hR
  have HB0 := Lib.hid hB
  clear hW0 hR hB
  refine wp_region_held_drew (S := TwoR w.heap.size (w.heap.size + 1) sa na da sb nb db) (by kernel_rfl) hS0 ?_
  intro hSd
  have HRd : Hid (w0.drew.heap[w.heap.size + 2]? = some (ratObj false ⟨#[]⟩ ⟨#[]⟩)) := HR0.out
  have HBd : Hid (Below w.heap.size w w0.drew) := HB0.out.drew
  clear hS0
  refine wpAnyH_take (i := 0) (v := .agg #[.bool sa, .string na, .string da]) rfl (by kernel_rfl) (by kernel_rfl) (by kernel_rfl) (fun _ _ _ h => h) (Or.inl ⟨by kernel_rfl, (by intro w' hw'; have tw := hw'.three; obtain ⟨a0, a1, a2, b0, b1, b2⟩ := tw; go_simp)⟩) hSd ?_
  go_simp
  refine wpAnyH_take (i := 1) (v := .agg #[.bool sb, .string nb, .string db]) rfl (by kernel_rfl) (by kernel_rfl) (by kernel_rfl) (fun _ _ _ h => h) (Or.inl ⟨by kernel_rfl, (by intro w' hw'; have tw := hw'.three; obtain ⟨a0, a1, a2, b0, b1, b2⟩ := tw; go_simp)⟩) hSd ?_
  go_simp
  refine wpAnyH_ready (rs := [2]) (by kernel_rfl) (by simp) ?_
  refine AllReadyH.cons rfl (fun K hK => ?_) AllReadyH.nil
  go_simp
  refine (HOH.out _).mono ?_
  rintro e w1 ⟨rfl, h1⟩
  have hS1 := hSd.next h1
  have HR1 := Lib.hid (blk_next HRd.out h1)
  have HB1 : Hid (Below w.heap.size w w1) := HBd.out.trans (h1.mono HBd.out.size)
  clear h1
  refine hK.out _ _ hS1 (fun _ => ?_)
  clear hK K
  refine wpAnyH_ready (rs := [3]) (by kernel_rfl) (by simp) ?_
  refine AllReadyH.cons rfl (fun K hK => ?_) AllReadyH.nil
  go_simp
  refine (HPH.out _).mono ?_
  rintro e w2 ⟨rfl, h2⟩
  have hS2 := hS1.next h2
  have HR2 := Lib.hid (blk_next HR1.out h2)
  have HB2 : Hid (Below w.heap.size w w2) := HB1.out.trans (h2.mono HB1.out.size)
  clear h2
  refine hK.out _ _ hS2 (fun _ => ?_)
  clear hK K
  obtain ⟨c0, c1, c2, f0, f1, f2, hz⟩ := three_of HR2.out
  have n1 : w.heap.size ≠ w.heap.size + 2 := by omega
  have n2 : w.heap.size + 1 ≠ w.heap.size + 2 := by omega
  refine wpAnyH_ready (rs := [4]) (by kernel_rfl) (by simp) ?_
  refine AllReadyH.cons rfl (fun K hK => ?_) AllReadyH.nil
  go_simp
  refine hK.out _ _ (((hS2.setCell n1 n2).setCell n1 n2).setCell n1 n2) (fun _ => ?_)
  clear hK K
  refine wpAnyH_done (by kernel_rfl) ?_ _
  go_wp2_with fail
  exact bodyPost_ret (v := .agg #[.bool v1, .string v2, .string v3]) (by simp [results, Try.results24, go_sem, c0, c1, c2]) rfl ⟨rfl, ((HB2.out.setCell (by simp <;> omega) _).setCell (by simp <;> omega) _).setCell (by simp <;> omega) _⟩

set_option maxHeartbeats 1000000 in
set_option maxRecDepth 100000 in
theorem refLess_calls (a b : Rat) (k m : Nat) (w : World) (ha : Sz k a) (hb : Sz m b) (hkm : k + m ≤ 100000) :
    Calls Try.prog 11 #[ratV a, ratV b] w fun e w' => e = .returned (.bool (decide (a < b))) ∧ Below w.heap.size w w' := by
  have HM := fun W => refMinus_calls a b k m W ha hb hkm
  have HS := fun W => refSignum_calls (a - b) W
  have hd : decide (a < b) = decide (sgnR (a - b) < 0) := by rw [sgnR_neg, lt_sub]
  rw [hd]
  obtain ⟨c, hc⟩ : ∃ c, c = sgnR (a - b) := ⟨_, rfl⟩
  rw [← hc] at HS ⊢
  obtain ⟨sa, hsa⟩ : ∃ x, x = rneg a := ⟨_, rfl⟩
  obtain ⟨na, hna⟩ : ∃ x, x = rnum a := ⟨_, rfl⟩
  obtain ⟨da, hda⟩ : ∃ x, x = rden a := ⟨_, rfl⟩
  obtain ⟨sb, hsb⟩ : ∃ x, x = rneg b := ⟨_, rfl⟩
  obtain ⟨nb, hnb⟩ : ∃ x, x = rnum b := ⟨_, rfl⟩
  obtain ⟨db, hdb⟩ : ∃ x, x = rden b := ⟨_, rfl⟩
  have hra : ratV a = .agg #[.bool sa, .string na, .string da] := by rw [ratV, hsa, hna, hda]
  have hrb : ratV b = .agg #[.bool sb, .string nb, .string db] := by rw [ratV, hsb, hnb, hdb]
  obtain ⟨v1, v2, v3, hv⟩ : ∃ v1 v2 v3, ratV (a - b) = .agg #[.bool v1, .string v2, .string v3] := ⟨_, _, _, rfl⟩
  rw [hra, hrb, hv] at HM
  rw [hv] at HS
  rw [hra, hrb]
  have HMH := Lib.hid HM
  have HSH := Lib.hid HS
  clear HM HS hra hrb hv hsa hna hda hsb hnb hdb hd hc ha hb
  go_enter Try.func11, Try.ntmps11
  go_wp2_with fail
  refine (HMH.out _).mono ?_
  rintro e w1 ⟨rfl, h1⟩
  have HB1 : Hid (Below w.heap.size w w1) := (((Below.refl _ _).alloc (Nat.le_refl _) _).alloc (by simp) _).trans (h1.mono (by simp <;> omega))
  clear h1
  go_wp2_with fail
  refine (HSH.out _).mono ?_
  rintro e w2 ⟨rfl, h2⟩
  have HB2 : Hid (Below w.heap.size w w2) := HB1.out.trans (h2.mono HB1.out.size)
  clear h2
  go_wp2_with fail
  go_ret
  exact ⟨rfl, HB2.out⟩

end Go.Proofs.Ytlljmiddgadcpaa

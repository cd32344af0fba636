/- Rational numbers in the program's form: sign, numerator, denominator; plain laws. Nothing of the program. -/
import Derived.Test.YtcljkdjmmolfoaaDoorNum
import Derived.Test.YtcljkdjmmolfoaaDoorMem
set_option linter.unusedVariables false
set_option linter.unusedSimpArgs false
namespace Go.Proofs.YtcljkdjmmolfoaaDoor
open Go.RowKit

def rsg (neg : Bool) (n : Nat) : Int := if neg then -(n : Int) else n
theorem natAbs_rsg (b : Bool) (n : Nat) : (rsg b n).natAbs = n := by unfold rsg; split <;> simp
theorem rsg_zero (b : Bool) : rsg b 0 = 0 := by unfold rsg; split <;> simp
theorem rsg_lt {b : Bool} {n : Nat} (h : n ≠ 0) : decide (rsg b n < 0) = b := by
  cases b <;> simp [rsg] <;> omega
theorem rsg_self (z : Int) : rsg (decide (z < 0)) z.natAbs = z := by
  unfold rsg; by_cases h : z < 0 <;> simp [h] <;> omega

def rneg (q : Rat) : Bool := decide (q.num < 0)
def rv (neg : Bool) (n d : Nat) : Rat := mkRat (rsg neg n) d
theorem rv_zero (b : Bool) (d : Nat) : rv b 0 d = 0 := by rw [rv, rsg_zero, Rat.zero_mkRat]
theorem rv_self (q : Rat) : rv (rneg q) q.num.natAbs q.den = q := by
  rw [rv, rneg, rsg_self, Rat.mkRat_self]
theorem rv_den {b : Bool} {n d : Nat} (h : d ≠ 0) : (rv b n d).den = d / Nat.gcd n d := by
  rw [rv, Rat.den_mkRat, if_neg h, natAbs_rsg, Nat.gcd_comm]
theorem rv_num {b : Bool} {n d : Nat} (h : d ≠ 0) : (rv b n d).num.natAbs = n / Nat.gcd n d := by
  rw [rv, Rat.num_mkRat, if_neg h, natAbs_rsg, Nat.gcd_comm, Int.natAbs_ediv_of_dvd, natAbs_rsg, Int.natAbs_natCast]
  rw [← Int.dvd_natAbs, natAbs_rsg]
  exact Int.ofNat_dvd.2 (Nat.gcd_dvd_left n d)
theorem rv_neg {b : Bool} {n d : Nat} (hn : n ≠ 0) (h : d ≠ 0) : rneg (rv b n d) = b := by
  have h1 : rv b n d ≠ 0 := by rw [rv, Rat.mkRat_ne_zero h]; intro e; have := natAbs_rsg b n; rw [e] at this; simp at this; exact hn this.symm
  rw [rneg, rv, Rat.num_mkRat, if_neg h, natAbs_rsg]
  have hg : 0 < Nat.gcd d n := Nat.gcd_pos_of_pos_left _ (Nat.pos_of_ne_zero h)
  cases b
  · have : 0 ≤ rsg false n / ((d.gcd n : Nat) : Int) := Int.ediv_nonneg (by simp [rsg]) (by simp)
    exact decide_eq_false (by omega)
  · have : rsg true n / ((d.gcd n : Nat) : Int) < 0 := Int.ediv_neg_of_neg_of_pos (by simp [rsg]; omega) (by omega)
    exact decide_eq_true this
theorem rv_add_same {a b : Rat} (h : rneg a = rneg b) : a + b = rv (rneg a) (a.num.natAbs * b.den + b.num.natAbs * a.den) (a.den * b.den) := by
  rw [Rat.add_def', rv]
  congr 1
  have ha := rsg_self a.num
  have hb := rsg_self b.num
  rw [show decide (a.num < 0) = rneg a from rfl] at ha
  rw [show decide (b.num < 0) = rneg b from rfl, ← h] at hb
  rw [← ha, ← hb, natAbs_rsg, natAbs_rsg]
  cases rneg a <;> simp [rsg, Int.neg_mul] <;> omega
theorem rv_add_ge {a b : Rat} (h : rneg a ≠ rneg b) (hge : b.num.natAbs * a.den ≤ a.num.natAbs * b.den) : a + b = rv (rneg a) (a.num.natAbs * b.den - b.num.natAbs * a.den) (a.den * b.den) := by
  rw [Rat.add_def', rv]
  congr 1
  have ha := rsg_self a.num
  have hb := rsg_self b.num
  rw [show decide (a.num < 0) = rneg a from rfl] at ha
  rw [show decide (b.num < 0) = rneg b from rfl] at hb
  rw [← ha, ← hb, natAbs_rsg, natAbs_rsg]
  cases h1 : rneg a <;> cases h2 : rneg b <;> simp [h1, h2] at h <;> simp [rsg, Int.neg_mul] <;> omega
theorem rv_add_lt {a b : Rat} (h : rneg a ≠ rneg b) (hlt : a.num.natAbs * b.den < b.num.natAbs * a.den) : a + b = rv (rneg b) (b.num.natAbs * a.den - a.num.natAbs * b.den) (a.den * b.den) := by
  rw [Rat.add_comm, rv_add_ge (Ne.symm h) (by omega), Nat.mul_comm b.den]
theorem rv_mul (a b : Rat) : a * b = rv (rneg a != rneg b) (a.num.natAbs * b.num.natAbs) (a.den * b.den) := by
  rw [Rat.mul_def', rv]
  congr 1
  have ha := rsg_self a.num
  have hb := rsg_self b.num
  rw [show decide (a.num < 0) = rneg a from rfl] at ha
  rw [show decide (b.num < 0) = rneg b from rfl] at hb
  rw [← ha, ← hb, natAbs_rsg, natAbs_rsg]
  cases rneg a <;> cases rneg b <;> simp [rsg, Int.neg_mul, Int.mul_neg]
theorem rv_common (b : Bool) (n : Nat) {d k : Nat} (hk : k ≠ 0) : rv b (n * k) (d * k) = rv b n d := by
  rw [rv, rv, show rsg b (n * k) = rsg b n * (k : Int) by cases b <;> simp [rsg, Int.neg_mul], Rat.mkRat_mul_right hk]
theorem rv_div (a b : Rat) (hb : b ≠ 0) : a / b = rv (rneg a != rneg b) (a.num.natAbs * b.den) (a.den * b.num.natAbs) := by
  have h0 : b.num ≠ 0 := fun e => hb (Rat.num_eq_zero.1 e)
  have e : rv (rneg a != rneg b) (a.num.natAbs * b.den) (a.den * b.num.natAbs) * b = a := by
    conv => lhs; rhs; rw [← rv_self b]
    conv => rhs; rw [← rv_self a]
    have : rv (rneg a != rneg b) (a.num.natAbs * b.den) (a.den * b.num.natAbs) * rv (rneg b) b.num.natAbs b.den = rv (rneg a) (a.num.natAbs * (b.den * b.num.natAbs)) (a.den * (b.den * b.num.natAbs)) := by
      rw [rv, rv, Rat.mkRat_mul_mkRat, rv]
      have e1 : rsg (rneg a != rneg b) (a.num.natAbs * b.den) * rsg (rneg b) b.num.natAbs = rsg (rneg a) (a.num.natAbs * (b.den * b.num.natAbs)) := by
        cases rneg a <;> cases rneg b <;> simp [rsg, Int.neg_mul, Int.mul_neg, Int.mul_assoc]
      rw [e1, Nat.mul_assoc, Nat.mul_comm b.num.natAbs]
    rw [this, rv_common _ _ (Nat.mul_ne_zero b.den_nz (by omega))]
  conv => lhs; rw [← e]
  rw [Rat.mul_div_cancel hb]
theorem rneg_neg {a : Rat} : rneg (-a) = (!rneg a && decide (a.num.natAbs ≠ 0)) := by
  rw [rneg, rneg, show (-a).num = -a.num from rfl]
  by_cases h : a.num < 0 <;> by_cases h2 : a.num = 0 <;> simp [h, h2] <;> omega
theorem rneg_lt (a : Rat) : rneg a = decide (a < 0) := by
  rw [rneg, decide_eq_decide, Rat.lt_iff]
  simp
theorem lt_sub (a b : Rat) : decide (a < b) = rneg (a - b) := by
  rw [rneg_lt, decide_eq_decide]
  grind

/-! ### the fields -/
def rnum (q : Rat) : ByteArray := ncan q.num.natAbs
def rden (q : Rat) : ByteArray := if q.den = 1 then ⟨#[]⟩ else ncan q.den
def ratV (q : Rat) : Value := .agg #[.bool (rneg q), .string (rnum q), .string (rden q)]
def ratCells (q : Rat) : List Value := [.bool (rneg q), .string (rnum q), .string (rden q)]

theorem ncan_zero' : ncan 0 = ⟨#[]⟩ := by unfold ncan canon; rw [canB_zero]; rfl
theorem ncan_isEmpty' {n : Nat} (h : n ≠ 0) : (ncan n).toList.isEmpty = false := by
  rw [List.isEmpty_eq_false_iff]
  intro e
  refine h ?_
  have e2 : (ncan n).data.toList = [] := by rw [← e]; exact (ByteArray.toList_eq _).symm
  have e3 : ncan n = ncan 0 := by rw [ncan_zero']; exact congrArg ByteArray.mk (Array.toList_eq_nil_iff.1 e2)
  have := congrArg snum e3
  rwa [snum_ncan, snum_ncan] at this
theorem ncan_inj {a b : Nat} (h : ncan a = ncan b) : a = b := by
  have := congrArg snum h
  rwa [snum_ncan, snum_ncan] at this
theorem rden_inj {a b : Rat} (h : rden a = rden b) : a.den = b.den := by
  unfold rden at h
  by_cases h1 : a.den = 1 <;> by_cases h2 : b.den = 1
  · rw [h1, h2]
  · rw [if_pos h1, if_neg h2, ← ncan_zero'] at h
    exact absurd (ncan_inj h).symm b.den_nz
  · rw [if_neg h1, if_pos h2, ← ncan_zero'] at h
    exact absurd (ncan_inj h) a.den_nz
  · rw [if_neg h1, if_neg h2] at h
    exact ncan_inj h
theorem rat_inj {a b : Rat} (h1 : rneg a = rneg b) (h2 : rnum a = rnum b) (h3 : rden a = rden b) : a = b := by
  rw [← rv_self a, ← rv_self b, h1, ncan_inj h2, rden_inj h3]
theorem rneg_zero : rneg 0 = false := by decide
theorem rnum_zero : rnum 0 = ⟨#[]⟩ := by rw [rnum, show (0 : Rat).num.natAbs = 0 from rfl, ncan_zero']
theorem rden_zero : rden 0 = ⟨#[]⟩ := if_pos (show (0 : Rat).den = 1 from rfl)
theorem ratV_zero : ratV 0 = .agg #[.bool false, .string ⟨#[]⟩, .string ⟨#[]⟩] := by rw [ratV, rneg_zero, rnum_zero, rden_zero]

/-- numerator and denominator have at most k digits to base 256 -/
def Sz (k : Nat) (q : Rat) : Prop := q.num.natAbs < 256 ^ k ∧ q.den < 256 ^ k
theorem Sz.mono {k m : Nat} {q : Rat} (h : Sz k q) (hm : k ≤ m) : Sz m q :=
  ⟨Nat.lt_of_lt_of_le h.1 (Nat.pow_le_pow_right (by decide) hm), Nat.lt_of_lt_of_le h.2 (Nat.pow_le_pow_right (by decide) hm)⟩
theorem Sz.rv {k n d : Nat} {b : Bool} (hd : d ≠ 0) (h1 : n < 256 ^ k) (h2 : d < 256 ^ k) : Sz k (rv b n d) := by
  refine ⟨?_, ?_⟩
  · rw [rv_num hd]; exact Nat.lt_of_le_of_lt (Nat.div_le_self _ _) h1
  · rw [rv_den hd]; exact Nat.lt_of_le_of_lt (Nat.div_le_self _ _) h2
theorem pow_mul_lt {k m a b : Nat} (ha : a < 256 ^ k) (hb : b < 256 ^ m) : a * b < 256 ^ (k + m) := by
  rw [Nat.pow_add]; exact Nat.mul_lt_mul'' ha hb
theorem Sz.mul {k m : Nat} {a b : Rat} (ha : Sz k a) (hb : Sz m b) : Sz (k + m) (a * b) := by
  rw [rv_mul]
  exact Sz.rv (Nat.mul_ne_zero a.den_nz b.den_nz) (pow_mul_lt ha.1 hb.1) (pow_mul_lt ha.2 hb.2)
theorem pow_add_lt {k x y : Nat} (ha : x < 256 ^ k) (hb : y < 256 ^ k) : x + y < 256 ^ (k + 1) := by
  have : (256 : Nat) ^ (k + 1) = 256 ^ k * 256 := Nat.pow_succ _ _
  omega
theorem pow_succ_lt {k x : Nat} (ha : x < 256 ^ k) : x < 256 ^ (k + 1) := by
  have : (256 : Nat) ^ (k + 1) = 256 ^ k * 256 := Nat.pow_succ _ _
  omega
theorem Sz.add {k m : Nat} {a b : Rat} (ha : Sz k a) (hb : Sz m b) : Sz (k + m + 1) (a + b) := by
  have h1 := pow_mul_lt ha.1 hb.2
  have h2 : b.num.natAbs * a.den < 256 ^ (k + m) := by rw [Nat.add_comm]; exact pow_mul_lt hb.1 ha.2
  have h3 := pow_succ_lt (pow_mul_lt ha.2 hb.2)
  have hd := Nat.mul_ne_zero a.den_nz b.den_nz
  by_cases h : rneg a = rneg b
  · rw [rv_add_same h]
    exact Sz.rv hd (pow_add_lt h1 h2) h3
  · have e := pow_add_lt h1 h2
    rcases Nat.lt_or_ge (a.num.natAbs * b.den) (b.num.natAbs * a.den) with hl | hl
    · rw [rv_add_lt h hl]
      exact Sz.rv hd (by omega) h3
    · rw [rv_add_ge h hl]
      exact Sz.rv hd (by omega) h3
theorem Sz.neg {k : Nat} {a : Rat} (ha : Sz k a) : Sz k (-a) := ⟨by rw [show (-a).num = -a.num from rfl, Int.natAbs_neg]; exact ha.1, ha.2⟩
theorem Sz.sub {k m : Nat} {a b : Rat} (ha : Sz k a) (hb : Sz m b) : Sz (k + m + 1) (a - b) := by
  rw [Rat.sub_eq_add_neg]; exact ha.add hb.neg

/-- a struct of three cells that the call made, behind a further call -/
theorem three_facts {w w2 : World} {a b c : Value} {T : TypeId} (hb : Below (w.alloc (.cells #[a, b, c] T)).heap.size (w.alloc (.cells #[a, b, c] T)) w2) :
    w2.cell? ⟨w.heap.size, 0, none⟩ = some a ∧ w2.cell? ⟨w.heap.size, 1, none⟩ = some b ∧ w2.cell? ⟨w.heap.size, 2, none⟩ = some c ∧
    w2.frozen? ⟨w.heap.size, 0, none⟩ = false ∧ w2.frozen? ⟨w.heap.size, 1, none⟩ = false ∧ w2.frozen? ⟨w.heap.size, 2, none⟩ = false ∧ w.heap.size < w2.heap.size ∧ Hid (Below w.heap.size w w2) := by
  have hg : w2.heap[w.heap.size]? = some (.cells #[a, b, c] T (0, 0)) := (hb.block w.heap.size (by simp)).trans (heap_alloc_new _ _)
  refine ⟨?_, ?_, ?_, frozen_of_row w2 _ 0 _ _ hg, frozen_of_row w2 _ 1 _ _ hg, frozen_of_row w2 _ 2 _ _ hg, (Array.getElem?_eq_some_iff.1 hg).1, ((Below.refl _ _).alloc (Nat.le_refl _) _).trans (hb.mono (by simp))⟩
  · rw [cell_of_row w2 _ 0 _ _ (0, 0) hg]; rfl
  · rw [cell_of_row w2 _ 1 _ _ (0, 0) hg]; rfl
  · rw [cell_of_row w2 _ 2 _ _ (0, 0) hg]; rfl

theorem three_of {w2 : World} {g : Nat} {a b c : Value} {T : TypeId} (hg : w2.heap[g]? = some (.cells #[a, b, c] T (0, 0))) :
    w2.cell? ⟨g, 0, none⟩ = some a ∧ w2.cell? ⟨g, 1, none⟩ = some b ∧ w2.cell? ⟨g, 2, none⟩ = some c ∧
    w2.frozen? ⟨g, 0, none⟩ = false ∧ w2.frozen? ⟨g, 1, none⟩ = false ∧ w2.frozen? ⟨g, 2, none⟩ = false ∧ g < w2.heap.size := by
  refine ⟨?_, ?_, ?_, frozen_of_row w2 _ 0 _ _ hg, frozen_of_row w2 _ 1 _ _ hg, frozen_of_row w2 _ 2 _ _ hg, (Array.getElem?_eq_some_iff.1 hg).1⟩
  · rw [cell_of_row w2 _ 0 _ _ (0, 0) hg]; rfl
  · rw [cell_of_row w2 _ 1 _ _ (0, 0) hg]; rfl
  · rw [cell_of_row w2 _ 2 _ _ (0, 0) hg]; rfl
theorem blk_new (w : World) (o : Obj) : (w.alloc o).heap[w.heap.size]? = some o := heap_alloc_new _ _
theorem blk_next {w w' : World} {g : Nat} {o : Obj} (h : w.heap[g]? = some o) (hb : Below w.heap.size w w') : w'.heap[g]? = some o :=
  (hb.block g (Array.getElem?_eq_some_iff.1 h).1).trans h
theorem blk_alloc {w : World} {g : Nat} {o o' : Obj} (h : w.heap[g]? = some o) : (w.alloc o').heap[g]? = some o :=
  (Below.heap_alloc w o' g (Array.getElem?_eq_some_iff.1 h).1).trans h
theorem bel_alloc (w : World) (o : Obj) : Below w.heap.size w (w.alloc o) := (Below.refl _ _).alloc (Nat.le_refl _) _

end Go.Proofs.YtcljkdjmmolfoaaDoor

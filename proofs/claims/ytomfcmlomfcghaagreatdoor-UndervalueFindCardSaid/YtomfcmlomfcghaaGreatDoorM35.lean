/- Merged of QDeficit QRefDef. -/
import Derived.Test.YtomfcmlomfcghaaGreatDoorM21
import Derived.Test.YtomfcmlomfcghaaGreatDoorRows
import Derived.Lib.Mul64
import Derived.Laws.Bits64b
import Derived.Test.YtomfcmlomfcghaaGreatDoorM15
import Derived.Deep.DeepCutAuto
/- undervalue.times, below, Deficit. -/
set_option linter.unusedVariables false
set_option linter.unusedSimpArgs false
namespace Go.Proofs.YtomfcmlomfcghaaGreatDoor
open Go.RowKit

theorem m64_mask (a : Nat) (ha : a < 18446744073709551616) : bits .and .u64 (a : Int) 4294967295 = ((a % 4294967296 : Nat) : Int) := by
  have h := bits_and_u64_nat a 4294967295 ha (by omega)
  have e : a &&& 4294967295 = a % 4294967296 := Nat.and_two_pow_sub_one_eq_mod a 32
  rw [e] at h
  exact h
theorem m64_div (a : Nat) : (a : Int) / 4294967296 = ((a / 4294967296 : Nat) : Int) := by omega
theorem m64_mul (a b : Nat) : (a : Int) * (b : Int) = ((a * b : Nat) : Int) := (Int.natCast_mul a b).symm
theorem m64_add (a b : Nat) : (a : Int) + (b : Int) = ((a + b : Nat) : Int) := (Int.natCast_add a b).symm
theorem m64_wrap (a : Nat) (ha : a < 18446744073709551616) : IntKind.u64.wrap (a : Int) = (a : Int) := by rw [IntKind.wrap_u64]; omega
theorem m64_wrapm (a : Nat) : IntKind.u64.wrap (a : Int) = ((a % 18446744073709551616 : Nat) : Int) := by rw [IntKind.wrap_u64]; omega

set_option maxHeartbeats 1000000 in
theorem mul64_calls (x y : Nat) (hx : x < 18446744073709551616) (hy : y < 18446744073709551616) (w : World) :
    Calls Tryz.prog 124 #[.int .u64 x, .int .u64 y] w fun e w' => e = .returned (.tuple #[.int .u64 ((x * y / 18446744073709551616 : Nat) : Int), .int .u64 ((x * y % 18446744073709551616 : Nat) : Int)]) ∧ w' = w := by
  obtain ⟨bd, bt, bw, hhi⟩ := Lib.mul64_hi x y hx hy
  have ba := Lib.half_mul_le (a := x / 4294967296) (b := y / 4294967296) (by omega) (by omega)
  have bb := Lib.half_mul_le (a := x / 4294967296) (b := y % 4294967296) (by omega) (by omega)
  have bc := Lib.half_mul_le (a := x % 4294967296) (b := y / 4294967296) (by omega) (by omega)
  have ba' : x / 4294967296 * (y / 4294967296) < 18446744073709551616 := by omega
  have bb' : x / 4294967296 * (y % 4294967296) < 18446744073709551616 := by omega
  have bc' : x % 4294967296 * (y / 4294967296) < 18446744073709551616 := by omega
  have bh1 : x / 4294967296 * (y / 4294967296) + (x / 4294967296 * (y % 4294967296) + x % 4294967296 * (y % 4294967296) / 4294967296) / 4294967296 < 18446744073709551616 := by omega
  have bh : x / 4294967296 * (y / 4294967296) + (x / 4294967296 * (y % 4294967296) + x % 4294967296 * (y % 4294967296) / 4294967296) / 4294967296 + ((x / 4294967296 * (y % 4294967296) + x % 4294967296 * (y % 4294967296) / 4294967296) % 4294967296 + x % 4294967296 * (y / 4294967296)) / 4294967296 < 18446744073709551616 := by omega
  go_enter Tryz.func124, Tryz.ntmps124
  go_wp2
  simp only [m64_mask x hx, m64_mask y hy, m64_div, m64_mul, m64_add, m64_wrap _ bd, m64_wrap _ bb', m64_wrap _ bt, m64_mask _ bt, m64_wrap _ bc', m64_wrap _ bw, m64_wrap _ ba', m64_wrap _ bh1, m64_wrap _ bh, m64_wrapm (x * y)]
  rw [hhi]
  go_ret2
  exact ⟨rfl, rfl⟩

set_option maxHeartbeats 1000000 in
theorem uTimes_calls (n : Int) (f : Nat) (w : World) (h1 : -9223372036854775808 ≤ n) (h2 : n ≤ 9223372036854775807) (hf : f < 18446744073709551616) (s : Bool) (hs : s = decide (n < 0)) (hi lo : Nat) (hhi : n.natAbs * f / 18446744073709551616 = hi) (hlo : n.natAbs * f % 18446744073709551616 = lo) :
    Calls Tryz.prog 104 #[.int .i64 n, .int .u64 (f : Int)] w fun e w' => e = .returned (.tuple #[.bool s, .int .u64 (hi : Int), .int .u64 (lo : Int)]) ∧ w' = w := by
  obtain ⟨m, hm⟩ : ∃ m, m = n.natAbs := ⟨_, rfl⟩
  have HM := mul64_calls m f (by omega) hf
  rw [← hm] at hhi hlo
  rw [hhi, hlo] at HM
  have HMM := Lib.hid HM
  have HS := Lib.hid hs
  have HMN := Lib.hid hm
  clear HM hs hhi hlo hm hf
  by_cases h0 : n < 0
  · have hst : s = true := by rw [HS.out]; exact decide_eq_true h0
    subst hst
    have u1 : IntKind.u64.wrap n = n + 18446744073709551616 := by rw [IntKind.wrap_u64]; omega
    have u2 : IntKind.u64.wrap (-(n + 18446744073709551616)) = (m : Int) := by rw [IntKind.wrap_u64]; have := HMN.out; omega
    go_enter Tryz.func104, Tryz.ntmps104
    go_wp2_with fail
    refine (HMM.out _).mono ?_
    rintro e w1 ⟨rfl, rfl⟩
    go_wp2_with fail
    go_ret3
    exact ⟨rfl, rfl⟩
  · have hst : s = false := by rw [HS.out]; exact decide_eq_false h0
    subst hst
    have u1 : IntKind.u64.wrap n = (m : Int) := by rw [IntKind.wrap_u64]; have := HMN.out; omega
    have hmn : n = (m : Int) := by have := HMN.out; omega
    subst hmn
    clear u1
    go_enter Tryz.func104, Tryz.ntmps104
    go_wp2_with fail
    refine (HMM.out _).mono ?_
    rintro e w1 ⟨rfl, rfl⟩
    go_wp2_with fail
    go_ret3
    exact ⟨rfl, rfl⟩

set_option maxHeartbeats 1000000 in
theorem uBelow_calls (a b : Int) (w : World) (h1 : -9223372036854775808 ≤ a) (h2 : a ≤ 9223372036854775807) (h3 : -9223372036854775808 ≤ b) (h4 : b ≤ 9223372036854775807) (r : Bool) (hr : r = decide (10 * a < 9 * b)) :
    Calls Tryz.prog 78 #[.int .i64 a, .int .u64 10, .int .i64 b, .int .u64 9] w fun e w' => e = .returned (.bool r) ∧ w' = w := by
  obtain ⟨s, hs⟩ : ∃ s, s = decide (a < 0) := ⟨_, rfl⟩
  obtain ⟨t, ht⟩ : ∃ t, t = decide (b < 0) := ⟨_, rfl⟩
  obtain ⟨ah, hah⟩ : ∃ x, x = a.natAbs * 10 / 18446744073709551616 := ⟨_, rfl⟩
  obtain ⟨al, hal⟩ : ∃ x, x = a.natAbs * 10 % 18446744073709551616 := ⟨_, rfl⟩
  obtain ⟨bh, hbh⟩ : ∃ x, x = b.natAbs * 9 / 18446744073709551616 := ⟨_, rfl⟩
  obtain ⟨bl, hbl⟩ : ∃ x, x = b.natAbs * 9 % 18446744073709551616 := ⟨_, rfl⟩
  have H1 := uTimes_calls a 10 w h1 h2 (by omega) s hs ah al hah.symm hal.symm
  have H2 := uTimes_calls b 9 w h3 h4 (by omega) t ht bh bl hbh.symm hbl.symm
  change Calls _ _ #[_, .int .u64 10] _ _ at H1
  change Calls _ _ #[_, .int .u64 9] _ _ at H2
  have H1 := Lib.hid H1
  have H2 := Lib.hid H2
  have HE : Hid ((r = true ↔ 10 * a < 9 * b) ∧ (s = true ↔ a < 0) ∧ (t = true ↔ b < 0) ∧ ah = a.natAbs * 10 / 18446744073709551616 ∧ al = a.natAbs * 10 % 18446744073709551616 ∧ bh = b.natAbs * 9 / 18446744073709551616 ∧ bl = b.natAbs * 9 % 18446744073709551616) :=
    ⟨by rw [hr]; simp, by rw [hs]; simp, by rw [ht]; simp, hah, hal, hbh, hbl⟩
  clear hr hs ht hah hal hbh hbl h1 h2 h3 h4
  cases s
  · cases t
    · obtain ⟨e1, e2, e3, e4, e5, e6, e7⟩ := HE.out
      have hx : (10 * a < 9 * b) ↔ (ah < bh ∨ ah = bh ∧ al < bl) := by simp at e2 e3; omega
      rcases Nat.lt_trichotomy ah bh with h | h | h
      · have : r = true := e1.2 (hx.2 (.inl h))
        subst this
        clear hx e1 e2 e3 e4 e5 e6 e7 HE
        have t1 := decide_eq_true h
        clear h
        go_enter Tryz.func78, Tryz.ntmps78
        go_wp2_with fail
        refine H1.out.mono ?_
        rintro e w1 ⟨rfl, rfl⟩
        go_wp2_with fail
        refine H2.out.mono ?_
        rintro e w1 ⟨rfl, rfl⟩
        go_wp2_with fail
        go_ret
        exact ⟨rfl, rfl⟩
      · have : r = decide (al < bl) := by
          rw [Bool.eq_iff_iff, e1, hx]; simp [h]
        subst this
        clear hx e1 e2 e3 e4 e5 e6 e7 HE
        subst h
        have t1 : decide (ah < ah) = false := by simp
        go_enter Tryz.func78, Tryz.ntmps78
        go_wp2_with fail
        refine H1.out.mono ?_
        rintro e w1 ⟨rfl, rfl⟩
        go_wp2_with fail
        refine H2.out.mono ?_
        rintro e w1 ⟨rfl, rfl⟩
        go_wp2_with fail
        go_ret
        exact ⟨by simp, rfl⟩
      · have : r = false := by rw [Bool.eq_false_iff]; intro hh; have := hx.1 (e1.1 hh); omega
        subst this
        clear hx e1 e2 e3 e4 e5 e6 e7 HE
        have t1 : decide (ah < bh) = false := by simp; omega
        have t2 : ((ah : Int) == (bh : Int)) = false := by simp; omega
        have t3 : (ah == bh) = false := by simp; omega
        clear h
        go_enter Tryz.func78, Tryz.ntmps78
        go_wp2_with fail
        refine H1.out.mono ?_
        rintro e w1 ⟨rfl, rfl⟩
        go_wp2_with fail
        refine H2.out.mono ?_
        rintro e w1 ⟨rfl, rfl⟩
        go_wp2_with fail
        go_ret
        exact ⟨rfl, rfl⟩
    · obtain ⟨e1, e2, e3, e4, e5, e6, e7⟩ := HE.out
      have : r = false := by rw [Bool.eq_false_iff]; intro hh; have := e1.1 hh; simp at e2 e3; omega
      subst this
      clear e1 e2 e3 e4 e5 e6 e7 HE
      go_enter Tryz.func78, Tryz.ntmps78
      go_wp2_with fail
      refine H1.out.mono ?_
      rintro e w1 ⟨rfl, rfl⟩
      go_wp2_with fail
      refine H2.out.mono ?_
      rintro e w1 ⟨rfl, rfl⟩
      go_wp2_with fail
      go_ret
      exact ⟨rfl, rfl⟩
  · cases t
    · obtain ⟨e1, e2, e3, e4, e5, e6, e7⟩ := HE.out
      have : r = true := by rw [e1]; simp at e2 e3; omega
      subst this
      clear e1 e2 e3 e4 e5 e6 e7 HE
      go_enter Tryz.func78, Tryz.ntmps78
      go_wp2_with fail
      refine H1.out.mono ?_
      rintro e w1 ⟨rfl, rfl⟩
      go_wp2_with fail
      refine H2.out.mono ?_
      rintro e w1 ⟨rfl, rfl⟩
      go_wp2_with fail
      go_ret
      exact ⟨rfl, rfl⟩
    · obtain ⟨e1, e2, e3, e4, e5, e6, e7⟩ := HE.out
      have hx : (10 * a < 9 * b) ↔ (bh < ah ∨ bh = ah ∧ bl < al) := by simp at e2 e3; omega
      rcases Nat.lt_trichotomy bh ah with h | h | h
      · have : r = true := e1.2 (hx.2 (.inl h))
        subst this
        clear hx e1 e2 e3 e4 e5 e6 e7 HE
        have t1 := decide_eq_true h
        clear h
        go_enter Tryz.func78, Tryz.ntmps78
        go_wp2_with fail
        refine H1.out.mono ?_
        rintro e w1 ⟨rfl, rfl⟩
        go_wp2_with fail
        refine H2.out.mono ?_
        rintro e w1 ⟨rfl, rfl⟩
        go_wp2_with fail
        go_ret
        exact ⟨rfl, rfl⟩
      · have : r = decide (bl < al) := by
          rw [Bool.eq_iff_iff, e1, hx]; simp [h]
        subst this
        clear hx e1 e2 e3 e4 e5 e6 e7 HE
        subst h
        have t1 : decide (bh < bh) = false := by simp
        go_enter Tryz.func78, Tryz.ntmps78
        go_wp2_with fail
        refine H1.out.mono ?_
        rintro e w1 ⟨rfl, rfl⟩
        go_wp2_with fail
        refine H2.out.mono ?_
        rintro e w1 ⟨rfl, rfl⟩
        go_wp2_with fail
        go_ret
        exact ⟨by simp, rfl⟩
      · have : r = false := by rw [Bool.eq_false_iff]; intro hh; have := hx.1 (e1.1 hh); omega
        subst this
        clear hx e1 e2 e3 e4 e5 e6 e7 HE
        have t1 : decide (bh < ah) = false := by simp; omega
        have t2 : ((bh : Int) == (ah : Int)) = false := by simp; omega
        have t3 : (bh == ah) = false := by simp; omega
        clear h
        go_enter Tryz.func78, Tryz.ntmps78
        go_wp2_with fail
        refine H1.out.mono ?_
        rintro e w1 ⟨rfl, rfl⟩
        go_wp2_with fail
        refine H2.out.mono ?_
        rintro e w1 ⟨rfl, rfl⟩
        go_wp2_with fail
        go_ret
        exact ⟨rfl, rfl⟩

/-- what Deficit answers -/
def deficitOf (r : Row) : Int := if r.kind = 3 ∧ 10 * r.amount < 9 * r.worth then wrap64 (r.worth - r.amount) else 0

set_option maxHeartbeats 1000000 in
theorem deficit_calls (r : Row) (w : World) (h1 : -9223372036854775808 ≤ r.amount) (h2 : r.amount ≤ 9223372036854775807) (h3 : -9223372036854775808 ≤ r.worth) (h4 : r.worth ≤ 9223372036854775807) :
    Calls Tryz.prog 57 #[.agg #[.int .i64 r.day, .int .i64 r.kind, .int .i64 r.frm, .int .i64 r.to, .int .i64 r.amount, .int .i64 r.worth]] w fun e w' => e = .returned (.int .i64 (deficitOf r)) ∧ Below w.heap.size w w' := by
  obtain ⟨d, k, f, t, a, b⟩ := r
  dsimp only at h1 h2 h3 h4 ⊢
  obtain ⟨x, hx⟩ : ∃ x, x = deficitOf ⟨d, k, f, t, a, b⟩ := ⟨_, rfl⟩
  rw [← hx]
  have HX := Lib.hid hx
  clear hx
  unfold deficitOf at HX
  dsimp only at HX
  by_cases hk : k = 3
  · have t1 : (k == 3) = true := by simpa using hk
    have t2 : (k != 3) = false := by simp [hk]
    by_cases hd : 10 * a < 9 * b
    · have HB := Lib.hid (fun w => uBelow_calls a b w h1 h2 h3 h4 true (by simpa using hd))
      have HX2 : Hid (x = wrap64 (b - a)) := by have := HX.out; rwa [if_pos ⟨hk, hd⟩] at this
      clear HX hk hd
      go_enter Tryz.func57, Tryz.ntmps57
      go_wp2_with fail
      refine (HB.out _).mono ?_
      rintro e w1 ⟨rfl, rfl⟩
      go_wp2_with fail
      go_ret
      exact ⟨ret_int (by rw [HX2.out]), by first | exact Below.refl _ _ | exact (Below.refl _ _).alloc (Nat.le_refl _) _⟩
    · have HB := Lib.hid (fun w => uBelow_calls a b w h1 h2 h3 h4 false (by simpa using hd))
      have HX2 : Hid (x = 0) := by have := HX.out; rwa [if_neg (fun h => hd h.2)] at this
      clear HX hk hd
      go_enter Tryz.func57, Tryz.ntmps57
      go_wp2_with fail
      refine (HB.out _).mono ?_
      rintro e w1 ⟨rfl, rfl⟩
      go_wp2_with fail
      go_ret
      exact ⟨ret_int (by rw [HX2.out]), by first | exact Below.refl _ _ | exact (Below.refl _ _).alloc (Nat.le_refl _) _⟩
  · have t1 : (k == 3) = false := by simpa using hk
    have t2 : (k != 3) = true := by simp [hk]
    have HX2 : Hid (x = 0) := by have := HX.out; rwa [if_neg (fun h => hk h.1)] at this
    clear HX hk
    go_enter Tryz.func57, Tryz.ntmps57
    go_wp2_with fail
    go_ret
    exact ⟨ret_int (by rw [HX2.out]), by first | exact Below.refl _ _ | exact (Below.refl _ _).alloc (Nat.le_refl _) _⟩

end Go.Proofs.YtomfcmlomfcghaaGreatDoor

/- insolvencyref25.Deficit. -/
set_option linter.unusedVariables false
set_option linter.unusedSimpArgs false
namespace Go.Proofs.YtomfcmlomfcghaaGreatDoor
open Go.RowKit

def rowObj (d k f t a b : Int) : Obj := .cells #[.int .i64 d, .int .i64 k, .int .i64 f, .int .i64 t, .int .i64 a, .int .i64 b] 94 (0, 0)
def RowB (g : Nat) (d k f t a b : Int) (W : World) : Prop := W.heap[g]? = some (rowObj d k f t a b)
theorem RowB.next {g : Nat} {d k f t a b : Int} {W W' : World} (h : RowB g d k f t a b W) (hb : Below W.heap.size W W') : RowB g d k f t a b W' := blk_next h hb
theorem RowB.alloc {g : Nat} {d k f t a b : Int} {W : World} (h : RowB g d k f t a b W) (o : Obj) : RowB g d k f t a b (W.alloc o) := blk_alloc h
theorem RowB.setCell {g q j : Nat} {d k f t a b : Int} {W : World} {u : Value} (h : RowB g d k f t a b W) (hn : g ≠ q) : RowB g d k f t a b (W.setCell ⟨q, j, none⟩ u) := (heap_setCell_other W ⟨q, j, none⟩ g u hn).trans h
theorem RowB.lt {g : Nat} {d k f t a b : Int} {W : World} (h : RowB g d k f t a b W) : g < W.heap.size := (Array.getElem?_eq_some_iff.1 h).1
theorem RowB.at4 {g : Nat} {d k f t a b : Int} {W : World} (h : RowB g d k f t a b W) : W.cell? ⟨g, 4, none⟩ = some (.int .i64 a) ∧ W.cell? ⟨g, 5, none⟩ = some (.int .i64 b) ∧ W.cell? ⟨g, 1, none⟩ = some (.int .i64 k) := by
 refine ⟨?_, ?_, ?_⟩
 ·
  rw [cell_of_row W _ 4 _ _ (0, 0) h]; rfl
 ·
  rw [cell_of_row W _ 5 _ _ (0, 0) h]; rfl
 ·
  rw [cell_of_row W _ 1 _ _ (0, 0) h]; rfl

def RatB (g : Nat) (q : Rat) (W : World) : Prop := W.heap[g]? = some (ratObj (rneg q) (rnum q) (rden q))
theorem RatB.next {g : Nat} {q : Rat} {W W' : World} (h : RatB g q W) (hb : Below W.heap.size W W') : RatB g q W' := blk_next h hb
theorem RatB.alloc {g : Nat} {q : Rat} {W : World} (h : RatB g q W) (o : Obj) : RatB g q (W.alloc o) := blk_alloc h
theorem RatB.setCell {g p j : Nat} {q : Rat} {W : World} {u : Value} (h : RatB g q W) (hn : g ≠ p) : RatB g q (W.setCell ⟨p, j, none⟩ u) := (heap_setCell_other W ⟨p, j, none⟩ g u hn).trans h
theorem RatB.lt {g : Nat} {q : Rat} {W : World} (h : RatB g q W) : g < W.heap.size := (Array.getElem?_eq_some_iff.1 h).1
/-- a whole number stored into a struct of the call's own -/
theorem RatB.store {g : Nat} {s : Bool} {n d : ByteArray} {W : World} (h : W.heap[g]? = some (ratObj s n d)) (q : Rat) {b : Bool} {x y : ByteArray} (hv : ratV q = .agg #[.bool b, .string x, .string y]) :
 RatB g q (((W.setCell ⟨g, 0, none⟩ (.bool b)).setCell ⟨g, 1, none⟩ (.string x)).setCell ⟨g, 2, none⟩ (.string y)) := by
 unfold ratV at hv
 injection hv with hv
 have h0 : rneg q = b ∧ rnum q = x ∧ rden q = y := by simpa using hv
 have h1 := heap_setCell_same W g 0 _ _ (.bool b) h
 have h2 := heap_setCell_same _ g 1 _ _ (.string x) h1
 have h3 := heap_setCell_same _ g 2 _ _ (.string y) h2
 unfold RatB ratObj
 rw [h0.1, h0.2.1, h0.2.2]
 exact h3

theorem RatB.new (W : World) (q : Rat) {b : Bool} {x y : ByteArray} (hv : ratV q = .agg #[.bool b, .string x, .string y]) :
 RatB W.heap.size q (W.alloc (.cells #[.bool b, .string x, .string y] 70)) := by
 unfold ratV at hv
 injection hv with hv
 have h0 : rneg q = b ∧ rnum q = x ∧ rden q = y := by simpa using hv
 unfold RatB ratObj
 rw [h0.1, h0.2.1, h0.2.2]
 exact blk_new _ _

theorem RatB.cells {g : Nat} {q : Rat} {W : World} (h : RatB g q W) {b : Bool} {x y : ByteArray} (hv : ratV q = .agg #[.bool b, .string x, .string y]) :
 W.cell? ⟨g, 0, none⟩ = some (.bool b) ∧ W.cell? ⟨g, 1, none⟩ = some (.string x) ∧ W.cell? ⟨g, 2, none⟩ = some (.string y) := by
 unfold ratV at hv
 injection hv with hv
 have h0 : rneg q = b ∧ rnum q = x ∧ rden q = y := by simpa using hv
 obtain ⟨c0, c1, c2, _⟩ := three_of h
 rw [h0.1] at c0
 rw [h0.2.1] at c1
 rw [h0.2.2] at c2
 exact ⟨c0, c1, c2⟩

theorem sz_int {n : Int} (h1 : -9223372036854775808 ≤ n) (h2 : n ≤ 9223372036854775807) : Sz 8 (n : Rat) := by
 have e : (256 : Nat) ^ 8 = 18446744073709551616 := by decide
 refine ⟨?_, ?_⟩
 ·
  rw [e]; show n.natAbs < _; omega
 ·
  rw [e]; show 1 < _; decide

def DMid (w : World) (d k f t a b : Int) (q : Rat) (s : Value) (wx : World) : Prop :=
 ∃ g, s = .pointer (some ⟨g, 0, none⟩) ∧ RatB g q wx ∧ RowB w.heap.size d k f t a b wx ∧ Below w.heap.size w wx
def DMid2 (w : World) (d k f t a b : Int) (g1 : Nat) (p q : Rat) (s : Value) (wx : World) : Prop :=
 ∃ g, s = .pointer (some ⟨g, 0, none⟩) ∧ RatB g q wx ∧ RatB g1 p wx ∧ RowB w.heap.size d k f t a b wx ∧ Below w.heap.size w wx
def Row2 (g g1 : Nat) (d k f t a b : Int) (p : Rat) (W : World) : Prop := RowB g d k f t a b W ∧ RatB g1 p W
theorem Row2.next {g g1 : Nat} {d k f t a b : Int} {p : Rat} {W W' : World} (h : Row2 g g1 d k f t a b p W) (hb : Below W.heap.size W W') : Row2 g g1 d k f t a b p W' := ⟨h.1.next hb, h.2.next hb⟩
theorem Row2.alloc {g g1 : Nat} {d k f t a b : Int} {p : Rat} {W : World} (h : Row2 g g1 d k f t a b p W) (o : Obj) : Row2 g g1 d k f t a b p (W.alloc o) := ⟨h.1.alloc o, h.2.alloc o⟩
theorem Row2.setCell {g g1 q j : Nat} {d k f t a b : Int} {p : Rat} {W : World} {u : Value} (h : Row2 g g1 d k f t a b p W) (h1 : g ≠ q) (h2 : g1 ≠ q) : Row2 g g1 d k f t a b p (W.setCell ⟨q, j, none⟩ u) := ⟨h.1.setCell h1, h.2.setCell h2⟩
theorem Row2.at4 {g g1 : Nat} {d k f t a b : Int} {p : Rat} {W : World} (h : Row2 g g1 d k f t a b p W) : W.cell? ⟨g, 4, none⟩ = some (.int .i64 a) ∧ W.cell? ⟨g, 5, none⟩ = some (.int .i64 b) ∧ W.cell? ⟨g, 1, none⟩ = some (.int .i64 k) := h.1.at4

set_option maxHeartbeats 8000000 in
set_option maxRecDepth 100000 in
theorem refDeficit_trans (d f t a b : Int) (w : World) (h1 : -9223372036854775808 ≤ a) (h2 : a ≤ 9223372036854775807) (h3 : -9223372036854775808 ≤ b) (h4 : b ≤ 9223372036854775807) (z : Int) (hz : z = if 10 * a < 9 * b then wrap64 (b - a) else 0) :
 Calls Tryz.prog 58 #[.agg #[.int .i64 d, .int .i64 3, .int .i64 f, .int .i64 t, .int .i64 a, .int .i64 b]] w fun e w' => e = .returned (.int .i64 z) ∧ Below w.heap.size w w' := by
 have H10 := Lib.hid (fun W => refInt_calls 10 W (by omega) (by omega))
 have H9 := Lib.hid (fun W => refInt_calls 9 W (by omega) (by omega))
 have HIA := Lib.hid (fun W => refInt_calls a W h1 h2)
 have HIB := Lib.hid (fun W => refInt_calls b W h3 h4)
 have s10 : Sz 8 ((10 : Int) : Rat) := sz_int (by omega) (by omega)
 have s9 : Sz 8 ((9 : Int) : Rat) := sz_int (by omega) (by omega)
 have HT1' := fun W => refTimes_calls ((10 : Int) : Rat) (a : Rat) 8 8 W s10 (sz_int h1 h2) (by omega)
 have HT2' := fun W => refTimes_calls ((9 : Int) : Rat) (b : Rat) 8 8 W s9 (sz_int h3 h4) (by omega)
 have sp := s10.mul (sz_int h1 h2)
 have sq := s9.mul (sz_int h3 h4)
 have hlt : (((10 : Int) : Rat) * (a : Rat) < ((9 : Int) : Rat) * (b : Rat)) ↔ 10 * a < 9 * b := by
  rw [← Rat.intCast_mul, ← Rat.intCast_mul]; exact Rat.intCast_lt_intCast
 obtain ⟨p, hp⟩ : ∃ p, p = ((10 : Int) : Rat) * (a : Rat) := ⟨_, rfl⟩
 obtain ⟨q, hq⟩ : ∃ q, q = ((9 : Int) : Rat) * (b : Rat) := ⟨_, rfl⟩
 rw [← hp] at HT1' sp hlt
 rw [← hq] at HT2' sq hlt
 have HL' := fun W => refLess_calls p q 16 16 W sp sq (by omega)
 obtain ⟨u1, u2, u3, hu⟩ : ∃ v1 v2 v3, ratV p = .agg #[.bool v1, .string v2, .string v3] := ⟨_, _, _, rfl⟩
 obtain ⟨y1, y2, y3, hy⟩ : ∃ v1 v2 v3, ratV q = .agg #[.bool v1, .string v2, .string v3] := ⟨_, _, _, rfl⟩
 obtain ⟨c, hc⟩ : ∃ c, c = decide (p < q) := ⟨_, rfl⟩
 rw [← hc] at HL'
 have hzc : z = if c = true then wrap64 (b - a) else 0 := by
  rw [hz]
  by_cases h : 10 * a < 9 * b
  ·
   rw [if_pos h, if_pos (by rw [hc]; exact decide_eq_true (hlt.2 h))]
  ·
   rw [if_neg h, if_neg (by rw [hc]; simp only [decide_eq_true_eq]; exact fun e => h (hlt.1 e))]
 have HV1 := Lib.hid hu
 have HV2 := Lib.hid hy
 rw [hu] at HT1' HL'
 rw [hy] at HT2' HL'
 simp only [ratV, (int_fields _).1, (int_fields _).2.1, (int_fields _).2.2] at HT1' HT2' H10 H9 HIA HIB
 have HT1 := Lib.hid HT1'
 have HT2 := Lib.hid HT2'
 have HL := Lib.hid HL'
 have HZ := Lib.hid hzc
 clear HT1' HT2' HL' hu hy hp hq hlt hc hz hzc sp sq s10 s9 h1 h2 h3 h4
 obtain ⟨x1, x2, hx⟩ : ∃ x1 x2, x1 = decide ((10 : Int) < 0) ∧ x2 = decide ((9 : Int) < 0) := ⟨_, _, rfl, rfl⟩
 go_enter Tryz.func58, Tryz.ntmps58
 go_wp2_with fail
 go_upto_region 3 with fail
 go_cut [3] (fun s3 wx => DMid w d 3 f t a b p s3 wx)
 case first =>
  obtain ⟨wd, hwd⟩ : ∃ wd, wd = (w.alloc (.cells #[.int .i64 d, .int .i64 3, .int .i64 f, .int .i64 t, .int .i64 a, .int .i64 b] 94)).drew := ⟨_, rfl⟩
  have hS : RowB w.heap.size d 3 f t a b wd := by rw [hwd]; exact blk_new w _
  have hB : Below w.heap.size w wd := by rw [hwd]; exact (bel_alloc _ _).drew
  refine wp_region_held_drew (S := RowB w.heap.size d 3 f t a b) (by kernel_rfl) (by rw [← hwd]; exact hS) ?_
  rw [← hwd]
  intro _
  clear hwd
  refine wpAnyH_take (i := 1) rfl (by kernel_rfl) (by kernel_rfl) (by kernel_rfl) (fun _ _ _ h => h) (Or.inl ⟨by kernel_rfl, (by intro w' _; go_simp; with_reducible rfl)⟩) hS ?_
  go_simp
  refine wpAnyH_take (i := 2) (v := .int .i64 a) rfl (by kernel_rfl) (by kernel_rfl) (by kernel_rfl) (fun _ _ _ h => h) (Or.inl ⟨by kernel_rfl, (by intro w' hw'; obtain ⟨k4, k5, k1⟩ := hw'.at4; go_simp)⟩) hS ?_
  go_simp
  refine wpAnyH_ready (rs := [0, 5]) (by kernel_rfl) (by simp) ?_
  refine AllReadyH.cons rfl (fun K hK => ?_) (AllReadyH.cons rfl (fun K hK => ?_) AllReadyH.nil)
  ·
   go_simp
   refine (H10.out _).mono ?_
   rintro e w0 ⟨rfl, hh⟩
   have hS0 := hS.next hh
   have hB0 := hB.trans (hh.mono hB.size)
   clear hh
   refine hK.out _ _ hS0 (fun _ => ?_)
   clear hK K
   refine wpAnyH_ready (rs := [3, 5]) (by kernel_rfl) (by simp) ?_
   refine AllReadyH.cons rfl (fun K hK => ?_) (AllReadyH.cons rfl (fun K hK => ?_) AllReadyH.nil)
   ·
    go_simp
    refine (HIA.out _).mono ?_
    rintro e w03 ⟨rfl, hh⟩
    have hS03 := hS0.next hh
    have hB03 := hB0.trans (hh.mono hB0.size)
    clear hh
    refine hK.out _ _ hS03 (fun _ => ?_)
    clear hK K
    refine wpAnyH_ready (rs := [4, 5]) (by kernel_rfl) (by simp) ?_
    refine AllReadyH.cons rfl (fun K hK => ?_) (AllReadyH.cons rfl (fun K hK => ?_) AllReadyH.nil)
    ·
     go_simp
     refine (HT1.out _).mono ?_
     rintro e w034 ⟨rfl, hh⟩
     have hS034 := hS03.next hh
     have hB034 := hB03.trans (hh.mono hB03.size)
     clear hh
     refine hK.out _ _ hS034 (fun _ => ?_)
     clear hK K
     refine wpAnyH_ready (rs := [5]) (by kernel_rfl) (by simp) ?_
     refine AllReadyH.cons rfl (fun K hK => ?_) AllReadyH.nil
     go_simp
     have hS034a := hS034.alloc (.cells #[.bool false, .string ⟨#[]⟩, .string ⟨#[]⟩] 70)
     have hA034a := blk_new w034 (.cells #[.bool false, .string ⟨#[]⟩, .string ⟨#[]⟩] 70)
     have hne034 : w.heap.size ≠ w034.heap.size := by have := hB034.size; have := hS034.lt; omega
     have hB034a := hB034.alloc hB034.size (.cells #[.bool false, .string ⟨#[]⟩, .string ⟨#[]⟩] 70)
     refine hK.out _ _ hS034a (fun _ => ?_)
     clear hK K
     obtain ⟨c0, c1, c2, f0, f1, f2, hz⟩ := three_of hA034a
     refine wpAnyH_ready (rs := [6]) (by kernel_rfl) (by simp) ?_
     refine AllReadyH.cons rfl (fun K hK => ?_) AllReadyH.nil
     go_simp
     have hSz := hS034.alloc (.cells #[.bool u1, .string u2, .string u3] 70)
     have hBz := hB034.alloc hB034.size (.cells #[.bool u1, .string u2, .string u3] 70)
     have hQz := RatB.new w034 _ HV1.out
     refine hK.out _ _ hSz (fun _ => ?_)
     clear hK K
     refine wpAnyH_done (by kernel_rfl) ?_ _
     go_wp2_with fail
     go_meet
     exact ⟨_, rfl, hQz, hSz, hBz⟩
    ·
     go_simp
     have hS03a := hS03.alloc (.cells #[.bool false, .string ⟨#[]⟩, .string ⟨#[]⟩] 70)
     have hA03a := blk_new w03 (.cells #[.bool false, .string ⟨#[]⟩, .string ⟨#[]⟩] 70)
     have hne03 : w.heap.size ≠ w03.heap.size := by have := hB03.size; have := hS03.lt; omega
     have hB03a := hB03.alloc hB03.size (.cells #[.bool false, .string ⟨#[]⟩, .string ⟨#[]⟩] 70)
     refine hK.out _ _ hS03a (fun _ => ?_)
     clear hK K
     refine wpAnyH_ready (rs := [4]) (by kernel_rfl) (by simp) ?_
     refine AllReadyH.cons rfl (fun K hK => ?_) AllReadyH.nil
     go_simp
     refine (HT1.out _).mono ?_
     rintro e w03a4 ⟨rfl, hh⟩
     have hS03a4 := hS03a.next hh
     have hB03a4 := hB03a.trans (hh.mono hB03a.size)
     have hA03a4 := blk_next hA03a hh
     clear hh
     refine hK.out _ _ hS03a4 (fun _ => ?_)
     clear hK K
     obtain ⟨c0, c1, c2, f0, f1, f2, hz⟩ := three_of hA03a4
     refine wpAnyH_ready (rs := [6]) (by kernel_rfl) (by simp) ?_
     refine AllReadyH.cons rfl (fun K hK => ?_) AllReadyH.nil
     go_simp
     have hSz := ((hS03a4.setCell (j := 0) (u := .bool u1) hne03).setCell (j := 1) (u := .string u2) hne03).setCell (j := 2) (u := .string u3) hne03
     have hBz := ((hB03a4.setCell (p := ⟨w03.heap.size, 0, none⟩) hB03.size (.bool u1)).setCell (p := ⟨w03.heap.size, 1, none⟩) hB03.size (.string u2)).setCell (p := ⟨w03.heap.size, 2, none⟩) hB03.size (.string u3)
     have hQz := RatB.store hA03a4 _ HV1.out
     refine hK.out _ _ hSz (fun _ => ?_)
     clear hK K
     refine wpAnyH_done (by kernel_rfl) ?_ _
     go_wp2_with fail
     go_meet
     exact ⟨_, rfl, hQz, hSz, hBz⟩
   ·
    go_simp
    have hS0a := hS0.alloc (.cells #[.bool false, .string ⟨#[]⟩, .string ⟨#[]⟩] 70)
    have hA0a := blk_new w0 (.cells #[.bool false, .string ⟨#[]⟩, .string ⟨#[]⟩] 70)
    have hne0 : w.heap.size ≠ w0.heap.size := by have := hB0.size; have := hS0.lt; omega
    have hB0a := hB0.alloc hB0.size (.cells #[.bool false, .string ⟨#[]⟩, .string ⟨#[]⟩] 70)
    refine hK.out _ _ hS0a (fun _ => ?_)
    clear hK K
    refine wpAnyH_ready (rs := [3]) (by kernel_rfl) (by simp) ?_
    refine AllReadyH.cons rfl (fun K hK => ?_) AllReadyH.nil
    go_simp
    refine (HIA.out _).mono ?_
    rintro e w0a3 ⟨rfl, hh⟩
    have hS0a3 := hS0a.next hh
    have hB0a3 := hB0a.trans (hh.mono hB0a.size)
    have hA0a3 := blk_next hA0a hh
    clear hh
    refine hK.out _ _ hS0a3 (fun _ => ?_)
    clear hK K
    refine wpAnyH_ready (rs := [4]) (by kernel_rfl) (by simp) ?_
    refine AllReadyH.cons rfl (fun K hK => ?_) AllReadyH.nil
    go_simp
    refine (HT1.out _).mono ?_
    rintro e w0a34 ⟨rfl, hh⟩
    have hS0a34 := hS0a3.next hh
    have hB0a34 := hB0a3.trans (hh.mono hB0a3.size)
    have hA0a34 := blk_next hA0a3 hh
    clear hh
    refine hK.out _ _ hS0a34 (fun _ => ?_)
    clear hK K
    obtain ⟨c0, c1, c2, f0, f1, f2, hz⟩ := three_of hA0a34
    refine wpAnyH_ready (rs := [6]) (by kernel_rfl) (by simp) ?_
    refine AllReadyH.cons rfl (fun K hK => ?_) AllReadyH.nil
    go_simp
    have hSz := ((hS0a34.setCell (j := 0) (u := .bool u1) hne0).setCell (j := 1) (u := .string u2) hne0).setCell (j := 2) (u := .string u3) hne0
    have hBz := ((hB0a34.setCell (p := ⟨w0.heap.size, 0, none⟩) hB0.size (.bool u1)).setCell (p := ⟨w0.heap.size, 1, none⟩) hB0.size (.string u2)).setCell (p := ⟨w0.heap.size, 2, none⟩) hB0.size (.string u3)
    have hQz := RatB.store hA0a34 _ HV1.out
    refine hK.out _ _ hSz (fun _ => ?_)
    clear hK K
    refine wpAnyH_done (by kernel_rfl) ?_ _
    go_wp2_with fail
    go_meet
    exact ⟨_, rfl, hQz, hSz, hBz⟩
  ·
   go_simp
   have hSa := hS.alloc (.cells #[.bool false, .string ⟨#[]⟩, .string ⟨#[]⟩] 70)
   have hAa := blk_new wd (.cells #[.bool false, .string ⟨#[]⟩, .string ⟨#[]⟩] 70)
   have hne : w.heap.size ≠ wd.heap.size := by have := hB.size; have := hS.lt; omega
   have hBa := hB.alloc hB.size (.cells #[.bool false, .string ⟨#[]⟩, .string ⟨#[]⟩] 70)
   refine hK.out _ _ hSa (fun _ => ?_)
   clear hK K
   refine wpAnyH_ready (rs := [0]) (by kernel_rfl) (by simp) ?_
   refine AllReadyH.cons rfl (fun K hK => ?_) AllReadyH.nil
   go_simp
   refine (H10.out _).mono ?_
   rintro e wa0 ⟨rfl, hh⟩
   have hSa0 := hSa.next hh
   have hBa0 := hBa.trans (hh.mono hBa.size)
   have hAa0 := blk_next hAa hh
   clear hh
   refine hK.out _ _ hSa0 (fun _ => ?_)
   clear hK K
   refine wpAnyH_ready (rs := [3]) (by kernel_rfl) (by simp) ?_
   refine AllReadyH.cons rfl (fun K hK => ?_) AllReadyH.nil
   go_simp
   refine (HIA.out _).mono ?_
   rintro e wa03 ⟨rfl, hh⟩
   have hSa03 := hSa0.next hh
   have hBa03 := hBa0.trans (hh.mono hBa0.size)
   have hAa03 := blk_next hAa0 hh
   clear hh
   refine hK.out _ _ hSa03 (fun _ => ?_)
   clear hK K
   refine wpAnyH_ready (rs := [4]) (by kernel_rfl) (by simp) ?_
   refine AllReadyH.cons rfl (fun K hK => ?_) AllReadyH.nil
   go_simp
   refine (HT1.out _).mono ?_
   rintro e wa034 ⟨rfl, hh⟩
   have hSa034 := hSa03.next hh
   have hBa034 := hBa03.trans (hh.mono hBa03.size)
   have hAa034 := blk_next hAa03 hh
   clear hh
   refine hK.out _ _ hSa034 (fun _ => ?_)
   clear hK K
   obtain ⟨c0, c1, c2, f0, f1, f2, hz⟩ := three_of hAa034
   refine wpAnyH_ready (rs := [6]) (by kernel_rfl) (by simp) ?_
   refine AllReadyH.cons rfl (fun K hK => ?_) AllReadyH.nil
   go_simp
   have hSz := ((hSa034.setCell (j := 0) (u := .bool u1) hne).setCell (j := 1) (u := .string u2) hne).setCell (j := 2) (u := .string u3) hne
   have hBz := ((hBa034.setCell (p := ⟨wd.heap.size, 0, none⟩) hB.size (.bool u1)).setCell (p := ⟨wd.heap.size, 1, none⟩) hB.size (.string u2)).setCell (p := ⟨wd.heap.size, 2, none⟩) hB.size (.string u3)
   have hQz := RatB.store hAa034 _ HV1.out
   refine hK.out _ _ hSz (fun _ => ?_)
   clear hK K
   refine wpAnyH_done (by kernel_rfl) ?_ _
   go_wp2_with fail
   go_meet
   exact ⟨_, rfl, hQz, hSz, hBz⟩
 case rest =>
  obtain ⟨g1, rfl, hp1, hr1, hb1⟩ := hcut
  go_upto_region 4 with fail
  go_cut [4] (fun s4 wx => DMid2 w d 3 f t a b g1 p q s4 wx)
  case first =>
   obtain ⟨wd, hwd⟩ : ∃ wd, wd = wc.drew := ⟨_, rfl⟩
   have hS : Row2 w.heap.size g1 d 3 f t a b p wd := by rw [hwd]; exact ⟨hr1, hp1⟩
   have hB : Below w.heap.size w wd := by rw [hwd]; exact hb1.drew
   refine wp_region_held_drew (S := Row2 w.heap.size g1 d 3 f t a b p) (by kernel_rfl) (by rw [← hwd]; exact hS) ?_
   rw [← hwd]
   intro _
   clear hwd hr1 hp1 hb1
   refine wpAnyH_take (i := 1) rfl (by kernel_rfl) (by kernel_rfl) (by kernel_rfl) (fun _ _ _ h => h) (Or.inl ⟨by kernel_rfl, (by intro w' _; go_simp; with_reducible rfl)⟩) hS ?_
   go_simp
   refine wpAnyH_take (i := 2) (v := .int .i64 b) rfl (by kernel_rfl) (by kernel_rfl) (by kernel_rfl) (fun _ _ _ h => h) (Or.inl ⟨by kernel_rfl, (by intro w' hw'; obtain ⟨k4, k5, k1⟩ := hw'.at4; go_simp)⟩) hS ?_
   go_simp
   refine wpAnyH_ready (rs := [0, 5]) (by kernel_rfl) (by simp) ?_
   refine AllReadyH.cons rfl (fun K hK => ?_) (AllReadyH.cons rfl (fun K hK => ?_) AllReadyH.nil)
   ·
    go_simp
    refine (H9.out _).mono ?_
    rintro e w0 ⟨rfl, hh⟩
    have hS0 := hS.next hh
    have hB0 := hB.trans (hh.mono hB.size)
    clear hh
    refine hK.out _ _ hS0 (fun _ => ?_)
    clear hK K
    refine wpAnyH_ready (rs := [3, 5]) (by kernel_rfl) (by simp) ?_
    refine AllReadyH.cons rfl (fun K hK => ?_) (AllReadyH.cons rfl (fun K hK => ?_) AllReadyH.nil)
    ·
     go_simp
     refine (HIB.out _).mono ?_
     rintro e w03 ⟨rfl, hh⟩
     have hS03 := hS0.next hh
     have hB03 := hB0.trans (hh.mono hB0.size)
     clear hh
     refine hK.out _ _ hS03 (fun _ => ?_)
     clear hK K
     refine wpAnyH_ready (rs := [4, 5]) (by kernel_rfl) (by simp) ?_
     refine AllReadyH.cons rfl (fun K hK => ?_) (AllReadyH.cons rfl (fun K hK => ?_) AllReadyH.nil)
     ·
      go_simp
      refine (HT2.out _).mono ?_
      rintro e w034 ⟨rfl, hh⟩
      have hS034 := hS03.next hh
      have hB034 := hB03.trans (hh.mono hB03.size)
      clear hh
      refine hK.out _ _ hS034 (fun _ => ?_)
      clear hK K
      refine wpAnyH_ready (rs := [5]) (by kernel_rfl) (by simp) ?_
      refine AllReadyH.cons rfl (fun K hK => ?_) AllReadyH.nil
      go_simp
      have hS034a := hS034.alloc (.cells #[.bool false, .string ⟨#[]⟩, .string ⟨#[]⟩] 70)
      have hA034a := blk_new w034 (.cells #[.bool false, .string ⟨#[]⟩, .string ⟨#[]⟩] 70)
      have hne034 : w.heap.size ≠ w034.heap.size := by have := hB034.size; have := hS034.1.lt; omega
      have hnf034 : g1 ≠ w034.heap.size := by have := hS034.2.lt; omega
      have hB034a := hB034.alloc hB034.size (.cells #[.bool false, .string ⟨#[]⟩, .string ⟨#[]⟩] 70)
      refine hK.out _ _ hS034a (fun _ => ?_)
      clear hK K
      obtain ⟨c0, c1, c2, f0, f1, f2, hz⟩ := three_of hA034a
      refine wpAnyH_ready (rs := [6]) (by kernel_rfl) (by simp) ?_
      refine AllReadyH.cons rfl (fun K hK => ?_) AllReadyH.nil
      go_simp
      have hSz := hS034.alloc (.cells #[.bool y1, .string y2, .string y3] 70)
      have hBz := hB034.alloc hB034.size (.cells #[.bool y1, .string y2, .string y3] 70)
      have hQz := RatB.new w034 _ HV2.out
      refine hK.out _ _ hSz (fun _ => ?_)
      clear hK K
      refine wpAnyH_done (by kernel_rfl) ?_ _
      go_wp2_with fail
      go_meet
      exact ⟨_, rfl, hQz, hSz.2, hSz.1, hBz⟩
     ·
      go_simp
      have hS03a := hS03.alloc (.cells #[.bool false, .string ⟨#[]⟩, .string ⟨#[]⟩] 70)
      have hA03a := blk_new w03 (.cells #[.bool false, .string ⟨#[]⟩, .string ⟨#[]⟩] 70)
      have hne03 : w.heap.size ≠ w03.heap.size := by have := hB03.size; have := hS03.1.lt; omega
      have hnf03 : g1 ≠ w03.heap.size := by have := hS03.2.lt; omega
      have hB03a := hB03.alloc hB03.size (.cells #[.bool false, .string ⟨#[]⟩, .string ⟨#[]⟩] 70)
      refine hK.out _ _ hS03a (fun _ => ?_)
      clear hK K
      refine wpAnyH_ready (rs := [4]) (by kernel_rfl) (by simp) ?_
      refine AllReadyH.cons rfl (fun K hK => ?_) AllReadyH.nil
      go_simp
      refine (HT2.out _).mono ?_
      rintro e w03a4 ⟨rfl, hh⟩
      have hS03a4 := hS03a.next hh
      have hB03a4 := hB03a.trans (hh.mono hB03a.size)
      have hA03a4 := blk_next hA03a hh
      clear hh
      refine hK.out _ _ hS03a4 (fun _ => ?_)
      clear hK K
      obtain ⟨c0, c1, c2, f0, f1, f2, hz⟩ := three_of hA03a4
      refine wpAnyH_ready (rs := [6]) (by kernel_rfl) (by simp) ?_
      refine AllReadyH.cons rfl (fun K hK => ?_) AllReadyH.nil
      go_simp
      have hSz := ((hS03a4.setCell (j := 0) (u := .bool y1) hne03 hnf03).setCell (j := 1) (u := .string y2) hne03 hnf03).setCell (j := 2) (u := .string y3) hne03 hnf03
      have hBz := ((hB03a4.setCell (p := ⟨w03.heap.size, 0, none⟩) hB03.size (.bool y1)).setCell (p := ⟨w03.heap.size, 1, none⟩) hB03.size (.string y2)).setCell (p := ⟨w03.heap.size, 2, none⟩) hB03.size (.string y3)
      have hQz := RatB.store hA03a4 _ HV2.out
      refine hK.out _ _ hSz (fun _ => ?_)
      clear hK K
      refine wpAnyH_done (by kernel_rfl) ?_ _
      go_wp2_with fail
      go_meet
      exact ⟨_, rfl, hQz, hSz.2, hSz.1, hBz⟩
    ·
     go_simp
     have hS0a := hS0.alloc (.cells #[.bool false, .string ⟨#[]⟩, .string ⟨#[]⟩] 70)
     have hA0a := blk_new w0 (.cells #[.bool false, .string ⟨#[]⟩, .string ⟨#[]⟩] 70)
     have hne0 : w.heap.size ≠ w0.heap.size := by have := hB0.size; have := hS0.1.lt; omega
     have hnf0 : g1 ≠ w0.heap.size := by have := hS0.2.lt; omega
     have hB0a := hB0.alloc hB0.size (.cells #[.bool false, .string ⟨#[]⟩, .string ⟨#[]⟩] 70)
     refine hK.out _ _ hS0a (fun _ => ?_)
     clear hK K
     refine wpAnyH_ready (rs := [3]) (by kernel_rfl) (by simp) ?_
     refine AllReadyH.cons rfl (fun K hK => ?_) AllReadyH.nil
     go_simp
     refine (HIB.out _).mono ?_
     rintro e w0a3 ⟨rfl, hh⟩
     have hS0a3 := hS0a.next hh
     have hB0a3 := hB0a.trans (hh.mono hB0a.size)
     have hA0a3 := blk_next hA0a hh
     clear hh
     refine hK.out _ _ hS0a3 (fun _ => ?_)
     clear hK K
     refine wpAnyH_ready (rs := [4]) (by kernel_rfl) (by simp) ?_
     refine AllReadyH.cons rfl (fun K hK => ?_) AllReadyH.nil
     go_simp
     refine (HT2.out _).mono ?_
     rintro e w0a34 ⟨rfl, hh⟩
     have hS0a34 := hS0a3.next hh
     have hB0a34 := hB0a3.trans (hh.mono hB0a3.size)
     have hA0a34 := blk_next hA0a3 hh
     clear hh
     refine hK.out _ _ hS0a34 (fun _ => ?_)
     clear hK K
     obtain ⟨c0, c1, c2, f0, f1, f2, hz⟩ := three_of hA0a34
     refine wpAnyH_ready (rs := [6]) (by kernel_rfl) (by simp) ?_
     refine AllReadyH.cons rfl (fun K hK => ?_) AllReadyH.nil
     go_simp
     have hSz := ((hS0a34.setCell (j := 0) (u := .bool y1) hne0 hnf0).setCell (j := 1) (u := .string y2) hne0 hnf0).setCell (j := 2) (u := .string y3) hne0 hnf0
     have hBz := ((hB0a34.setCell (p := ⟨w0.heap.size, 0, none⟩) hB0.size (.bool y1)).setCell (p := ⟨w0.heap.size, 1, none⟩) hB0.size (.string y2)).setCell (p := ⟨w0.heap.size, 2, none⟩) hB0.size (.string y3)
     have hQz := RatB.store hA0a34 _ HV2.out
     refine hK.out _ _ hSz (fun _ => ?_)
     clear hK K
     refine wpAnyH_done (by kernel_rfl) ?_ _
     go_wp2_with fail
     go_meet
     exact ⟨_, rfl, hQz, hSz.2, hSz.1, hBz⟩
   ·
    go_simp
    have hSa := hS.alloc (.cells #[.bool false, .string ⟨#[]⟩, .string ⟨#[]⟩] 70)
    have hAa := blk_new wd (.cells #[.bool false, .string ⟨#[]⟩, .string ⟨#[]⟩] 70)
    have hne : w.heap.size ≠ wd.heap.size := by have := hB.size; have := hS.1.lt; omega
    have hnf : g1 ≠ wd.heap.size := by have := hS.2.lt; omega
    have hBa := hB.alloc hB.size (.cells #[.bool false, .string ⟨#[]⟩, .string ⟨#[]⟩] 70)
    refine hK.out _ _ hSa (fun _ => ?_)
    clear hK K
    refine wpAnyH_ready (rs := [0]) (by kernel_rfl) (by simp) ?_
    refine AllReadyH.cons rfl (fun K hK => ?_) AllReadyH.nil
    go_simp
    refine (H9.out _).mono ?_
    rintro e wa0 ⟨rfl, hh⟩
    have hSa0 := hSa.next hh
    have hBa0 := hBa.trans (hh.mono hBa.size)
    have hAa0 := blk_next hAa hh
    clear hh
    refine hK.out _ _ hSa0 (fun _ => ?_)
    clear hK K
    refine wpAnyH_ready (rs := [3]) (by kernel_rfl) (by simp) ?_
    refine AllReadyH.cons rfl (fun K hK => ?_) AllReadyH.nil
    go_simp
    refine (HIB.out _).mono ?_
    rintro e wa03 ⟨rfl, hh⟩
    have hSa03 := hSa0.next hh
    have hBa03 := hBa0.trans (hh.mono hBa0.size)
    have hAa03 := blk_next hAa0 hh
    clear hh
    refine hK.out _ _ hSa03 (fun _ => ?_)
    clear hK K
    refine wpAnyH_ready (rs := [4]) (by kernel_rfl) (by simp) ?_
    refine AllReadyH.cons rfl (fun K hK => ?_) AllReadyH.nil
    go_simp
    refine (HT2.out _).mono ?_
    rintro e wa034 ⟨rfl, hh⟩
    have hSa034 := hSa03.next hh
    have hBa034 := hBa03.trans (hh.mono hBa03.size)
    have hAa034 := blk_next hAa03 hh
    clear hh
    refine hK.out _ _ hSa034 (fun _ => ?_)
    clear hK K
    obtain ⟨c0, c1, c2, f0, f1, f2, hz⟩ := three_of hAa034
    refine wpAnyH_ready (rs := [6]) (by kernel_rfl) (by simp) ?_
    refine AllReadyH.cons rfl (fun K hK => ?_) AllReadyH.nil
    go_simp
    have hSz := ((hSa034.setCell (j := 0) (u := .bool y1) hne hnf).setCell (j := 1) (u := .string y2) hne hnf).setCell (j := 2) (u := .string y3) hne hnf
    have hBz := ((hBa034.setCell (p := ⟨wd.heap.size, 0, none⟩) hB.size (.bool y1)).setCell (p := ⟨wd.heap.size, 1, none⟩) hB.size (.string y2)).setCell (p := ⟨wd.heap.size, 2, none⟩) hB.size (.string y3)
    have hQz := RatB.store hAa034 _ HV2.out
    refine hK.out _ _ hSz (fun _ => ?_)
    clear hK K
    refine wpAnyH_done (by kernel_rfl) ?_ _
    go_wp2_with fail
    go_meet
    exact ⟨_, rfl, hQz, hSz.2, hSz.1, hBz⟩
  case rest =>
   obtain ⟨g2, rfl, hq2, hp2, hr2, hb2⟩ := hcut
   rename World => wx
   obtain ⟨k4, k5, k1⟩ := hr2.at4
   obtain ⟨p0, p1, p2⟩ := hp2.cells HV1.out
   obtain ⟨q0, q1, q2⟩ := hq2.cells HV2.out
   have HB2 := Lib.hid hb2
   have HR2 := Lib.hid hr2
   clear hb2 hr1 hp1 hb1 hp2 hq2 hr2
   cases c
   ·
    have HZ2 : Hid (z = 0) := HZ.out.trans (if_neg (by decide))
    go_wp2_with fail
    refine (HL.out _).mono ?_
    rintro e w5 ⟨rfl, h5⟩
    have HB5 : Hid (Below w.heap.size w w5) := HB2.out.trans (h5.mono HB2.out.size)
    clear h5 k4 k5 k1 p0 p1 p2 q0 q1 q2
    go_wp2_with fail
    go_ret
    exact ⟨ret_int (by rw [HZ2.out]), HB5.out⟩
   ·
    have HZ2 : Hid (z = wrap64 (b - a)) := HZ.out.trans (if_pos rfl)
    go_wp2_with fail
    refine (HL.out _).mono ?_
    rintro e w5 ⟨rfl, h5⟩
    have HB5 : Hid (Below w.heap.size w w5) := HB2.out.trans (h5.mono HB2.out.size)
    obtain ⟨m4, m5, m1⟩ := (HR2.out.next h5).at4
    clear h5 k4 k5 k1 p0 p1 p2 q0 q1 q2
    go_wp2_with fail
    go_ret
    exact ⟨ret_int (by rw [HZ2.out]), HB5.out⟩

set_option maxHeartbeats 1000000 in
theorem refDeficit_calls (r : Row) (w : World) (h1 : -9223372036854775808 ≤ r.amount) (h2 : r.amount ≤ 9223372036854775807) (h3 : -9223372036854775808 ≤ r.worth) (h4 : r.worth ≤ 9223372036854775807) :
 Calls Tryz.prog 58 #[.agg #[.int .i64 r.day, .int .i64 r.kind, .int .i64 r.frm, .int .i64 r.to, .int .i64 r.amount, .int .i64 r.worth]] w fun e w' => e = .returned (.int .i64 (deficitOf r)) ∧ Below w.heap.size w w' := by
 obtain ⟨d, k, f, t, a, b⟩ := r
 dsimp only at h1 h2 h3 h4 ⊢
 by_cases hk : k = 3
 ·
  subst hk
  exact refDeficit_trans d f t a b w h1 h2 h3 h4 _ (by unfold deficitOf; dsimp only; by_cases h : 10 * a < 9 * b <;> simp [h])
 ·
  have hz : deficitOf ⟨d, k, f, t, a, b⟩ = 0 := by unfold deficitOf; rw [if_neg (fun h => hk h.1)]
  rw [hz]
  have t1 : (k == 3) = false := by simpa using hk
  have t2 : (k != 3) = true := by simp [hk]
  clear hz hk h1 h2 h3 h4
  go_enter Tryz.func58, Tryz.ntmps58
  go_wp2_with fail
  go_ret
  exact ⟨rfl, bel_alloc _ _⟩

end Go.Proofs.YtomfcmlomfcghaaGreatDoor

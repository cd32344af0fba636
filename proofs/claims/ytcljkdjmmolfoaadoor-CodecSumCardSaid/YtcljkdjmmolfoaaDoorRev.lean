/- slices.Reverse on bytes; natural.Divide, GCD. -/
import Derived.Test.YtcljkdjmmolfoaaDoorDivide
import Derived.BigRegion
import Derived.Deep.LoopGhost
set_option linter.unusedVariables false
set_option linter.unusedSimpArgs false
namespace Go.Proofs.YtcljkdjmmolfoaaDoor
open Go.RowKit

theorem rev_step {xs ys : List Nat} {n k : Nat} (hl : ys.length = n) (hk : k < n - 1 - k) (h : ∀ p, p < n → ys.getD p 0 = if p < k ∨ n - 1 - k < p then xs.getD (n - 1 - p) 0 else xs.getD p 0) :
    ∀ p, p < n → ((ys.set k (ys.getD (n - 1 - k) 0)).set (n - 1 - k) (ys.getD k 0)).getD p 0 = if p < k + 1 ∨ n - 1 - (k + 1) < p then xs.getD (n - 1 - p) 0 else xs.getD p 0 := by
  intro p hp
  have hs : ∀ (l : List Nat) (i v : Nat), i < l.length → (l.set i v).getD p 0 = if i = p then v else l.getD p 0 := by
    intro l i v hi
    by_cases e : i = p
    · subst e; rw [if_pos rfl, List.getD_eq_getElem?_getD, List.getElem?_set_self hi]; rfl
    · rw [if_neg e, List.getD_eq_getElem?_getD, List.getElem?_set_ne e, ← List.getD_eq_getElem?_getD]
  rw [hs _ _ _ (by simp; omega), hs _ _ _ (by omega)]
  have h1 := h k (by omega)
  have h2 := h (n - 1 - k) (by omega)
  rw [if_neg (by omega)] at h1 h2
  by_cases e1 : n - 1 - k = p
  · subst e1
    rw [if_pos rfl, h1, if_pos (by omega)]
    congr 1; omega
  · rw [if_neg e1]
    by_cases e2 : k = p
    · subst e2
      rw [if_pos rfl, h2, if_pos (by omega)]
    · rw [if_neg e2, h p hp]
      by_cases e3 : p < k ∨ n - 1 - k < p
      · rw [if_pos e3, if_pos (by omega)]
      · rw [if_neg e3, if_neg (by omega)]

theorem rev_end {xs ys : List Nat} {n k : Nat} (hx : xs.length = n) (hl : ys.length = n) (hk : n ≤ k + (k + 1)) (h : ∀ p, p < n → ys.getD p 0 = if p < k ∨ n - 1 - k < p then xs.getD (n - 1 - p) 0 else xs.getD p 0) : ys = xs.reverse := by
  apply List.ext_getElem?
  intro p
  by_cases hp : p < n
  · have h1 := h p hp
    have e : ys.getD p 0 = xs.getD (n - 1 - p) 0 := by
      rw [h1]
      by_cases e3 : p < k ∨ n - 1 - k < p
      · rw [if_pos e3]
      · rw [if_neg e3]; congr 1; omega
    rw [List.getElem?_reverse (by omega), hx]
    rw [getElem?_getD (show p < ys.length by omega), getElem?_getD (show n - 1 - p < xs.length by omega), e]
  · rw [List.getElem?_eq_none (by omega), List.getElem?_eq_none (by simp; omega)]

/-! ### Divide, GCD -/
theorem snum_len8 {s : ByteArray} (hs : s.size ≤ 100000000) : (limbs (snum s)).length ≤ 100000000 := by
  rw [limbs_len_canon]; have := canon_num_len s.data.toList; rw [← Lib.size_eq] at this; show ((canon (num s.data.toList)).length + 3) / 4 ≤ _; omega

theorem limbs_mono {a b : Nat} (h : a ≤ b) : (limbs a).length ≤ (limbs b).length := by
  rcases Nat.lt_or_ge (limbs b).length (limbs a).length with h2 | h2
  · have := lt_of_len h2; omega
  · exact h2

/-- what Divide answers -/
def DivAns (a b : Nat) (w : World) (e : Ending) (w' : World) : Prop :=
  e = .returned (if b = 0 then .tuple #[.string ⟨#[]⟩, .string ⟨#[]⟩, .bool false] else .tuple #[.string (ncan (a / b)), .string (ncan (a % b)), .bool true]) ∧ Below w.heap.size w w'

set_option maxHeartbeats 4000000 in
set_option maxRecDepth 100000 in
theorem natGCD_calls (s t : ByteArray) (w : World) (hs : s.size ≤ 100000000) (ht : t.size ≤ 100000000) :
    Calls Tryd.prog 65 #[.string s, .string t] w fun e w' => e = .returned (.string (ncan (Nat.gcd (snum s) (snum t)))) ∧ Below w.heap.size w w' := by
  have HP1 := Lib.hid (fun w => parse_calls s w (by omega))
  have HP2 := Lib.hid (fun w => parse_calls t w (by omega))
  have hla := snum_len8 hs
  have hlb := snum_len8 ht
  obtain ⟨a, ha⟩ : ∃ a, a = snum s := ⟨_, rfl⟩
  obtain ⟨b, hb⟩ : ∃ b, b = snum t := ⟨_, rfl⟩
  rw [← ha] at HP1 hla ⊢
  rw [← hb] at HP2 hlb ⊢
  clear ha hb hs ht
  go_enter Tryd.func65, Tryd.ntmps65
  go_wp2_with fail
  refine (HP1.out _).mono ?_
  rintro e w1 ⟨A, ca, rfl, hca, hra, hb1⟩
  go_wp2_with fail
  refine (HP2.out _).mono ?_
  rintro e w2 ⟨B, cb, rfl, hcb, hrb, hb2⟩
  have HBEL : Hid (Below w.heap.size w w2) := hb1.trans (hb2.mono hb1.size)
  have HRA := Lib.hid (hra.next hb2)
  have HRB := Lib.hid hrb
  clear hra hrb hb1 hb2
  go_wp2_with fail
  go_loopg [5, 6] b (fun gk xx yy wr => ∃ (x y : Nat) (X Y : Option Addr) (cx cy : Nat), y ≤ gk ∧ xx = .slice X (limbs x).length cx ∧ yy = .slice Y (limbs y).length cy ∧ (limbs x).length ≤ cx ∧ (limbs y).length ≤ cy ∧ (limbs x).length ≤ 100000000 ∧ (limbs y).length ≤ 100000000 ∧ Hid (KRd .u32 wr wr.heap.size X (limbs x)) ∧ Hid (KRd .u32 wr wr.heap.size Y (limbs y)) ∧ Hid (Nat.gcd x y = Nat.gcd a b) ∧ Below w.heap.size w wr)
  case atStart => exact ⟨a, b, A, B, ca, cb, Nat.le_refl _, rfl, rfl, hca, hcb, hla, hlb, HRA, HRB, rfl, HBEL.out⟩
  case round =>
    clear hca hcb hla hlb HRA HRB HBEL
    obtain ⟨x, y, X, Y, cx, cy, hgk, rfl, rfl, hcx, hcy, hlx, hly, HX, HY, HG, hbel⟩ := hrel
    have HBEL := Lib.hid hbel
    clear hbel
    by_cases hy0 : y = 0
    · subst hy0
      have h0 : (limbs 0).length = 0 := by rw [limbs_zero]; rfl
      have HGX : Hid (x = Nat.gcd a b) := by have := HG.out; rw [Nat.gcd_zero_right] at this; exact this
      have HT := Lib.hid (text_calls X cx (limbs x) wr HX.out (limbs_dig _) hcx (by omega))
      rw [valL_limbs] at HT
      clear HY hcy hly
      rw [h0]
      clear h0
      go_wp2_with fail
      refine HT.out.mono ?_
      rintro e w3 ⟨rfl, hb3⟩
      go_wp2_with fail
      go_ret
      refine ⟨ret_str (by rw [HGX.out]), HBEL.out.trans (hb3.mono HBEL.out.size)⟩
    · have hyp := limbs_len_pos hy0
      have HD := Lib.hid (divide_calls X Y cx cy x y wr HX.out HY.out hlx hly hcx hy0)
      have hlr : (limbs (x % y)).length ≤ 100000000 := by have := limbs_mono (Nat.le_of_lt (Nat.mod_lt x (Nat.pos_of_ne_zero hy0))); omega
      have hmlt : x % y < gk := by have := Nat.mod_lt x (Nat.pos_of_ne_zero hy0); omega
      have HML := Lib.hid hmlt
      have HG2 : Hid (Nat.gcd y (x % y) = Nat.gcd a b) := by
        show _ = _
        rw [← HG.out, Nat.gcd_comm x y, Nat.gcd_rec y x, Nat.gcd_comm]
      clear hmlt hy0
      go_wp2_with fail
      refine HD.out.mono ?_
      rintro e w3 ⟨Q, cq, R, cr, rfl, hcq, hcr, hrq, hrr, hb3⟩
      have HB3 : Hid (Below w.heap.size w w3) := HBEL.out.trans (hb3.mono HBEL.out.size)
      have HY3 := Lib.hid (HY.out.next hb3)
      have HRR := Lib.hid hrr
      clear hrq hrr hb3
      go_wp2_with fail
      go_roundg (x % y)
      case measure => exact HML.out
      case rel => exact ⟨y, x % y, Y, R, cy, cr, Nat.le_refl _, rfl, rfl, hcy, hcr, hly, hlr, HY3, HRR, HG2, HB3.out⟩

end Go.Proofs.YtcljkdjmmolfoaaDoor

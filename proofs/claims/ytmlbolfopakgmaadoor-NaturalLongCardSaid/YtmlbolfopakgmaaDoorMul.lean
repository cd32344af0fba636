/- natural.Multiply; the definition's times. -/
import Derived.Test.YtmlbolfopakgmaaDoorAdd
import Derived.BigQuiet
import Derived.Deep.QuietTactic
set_option linter.unusedVariables false
set_option linter.unusedSimpArgs false
namespace Go.Proofs.YtmlbolfopakgmaaDoor
open Go.RowKit

/-- a product while it is made: what has been added stands, the rest is nought -/
structure Pr (os : List Nat) (n i ly x y : Nat) : Prop where
  len : os.length = n
  dig : Dig os
  val : valL os = valL ((limbs x).take i) * y
  zero : ∀ j, i + ly ≤ j → os.getD j 0 = 0

/-- in the inner loop -/
structure Pi (qs os : List Nat) (n i ly k c u y : Nat) : Prop where
  len : qs.length = n
  dig : Dig qs
  val : valL qs + 4294967296 ^ (i + k) * c = valL os + 4294967296 ^ i * (u * valL ((limbs y).take k))
  zero : ∀ j, i + ly ≤ j → qs.getD j 0 = 0

theorem getD_set_ne (l : List Nat) (i j v : Nat) (h : i ≠ j) : (l.set i v).getD j 0 = l.getD j 0 := by
  rw [List.getD_eq_getElem?_getD, List.getElem?_set_ne h, ← List.getD_eq_getElem?_getD]

theorem Pi.start {os : List Nat} {n i ly x y u : Nat} (h : Pr os n i ly x y) : Pi os os n i ly 0 0 u y := ⟨h.len, h.dig, by simp [valL], h.zero⟩

theorem Pi.step {qs os : List Nat} {n i ly k c u y lo c' : Nat} (h : Pi qs os n i ly k c u y) (hk : k < ly) (hn : i + ly < n) (hlo : lo < 4294967296) (e : lo + 4294967296 * c' = u * (limbs y).getD k 0 + qs.getD (i + k) 0 + c) : Pi (qs.set (i + k) lo) os n i ly (k + 1) c' u y :=
  ⟨by simp [h.len], h.dig.set _ hlo, mul_step h.val (by rw [h.len]; omega) e, fun j hj => by rw [getD_set_ne _ _ _ _ (by omega)]; exact h.zero j hj⟩

theorem Pi.last {qs os : List Nat} {n i ly c x y : Nat} (hly : (limbs y).length = ly) (hlx : i < (limbs x).length) (h0 : Pr os n i ly x y) (h : Pi qs os n i ly ly c ((limbs x).getD i 0) y) (hn : i + ly < n) (hc : c < 4294967296) : Pr (qs.set (i + ly) c) n (i + 1) ly x y := by
  refine ⟨by simp [h.len], h.dig.set _ hc, ?_, fun j hj => ?_⟩
  · have hv := h.val
    rw [← hly] at hv
    have := mul_last hv (by rw [h.len, hly]; exact hn) (h.zero _ (by omega))
    rw [valL_limbs] at this
    rw [← hly, this, h0.val, valL_take_succ']
    grind
  · rw [getD_set_ne _ _ _ _ (by omega)]; exact h.zero j (by omega)

theorem Pr.end_ {os : List Nat} {n i ly x y : Nat} (h : Pr os n i ly x y) (hi : i = (limbs x).length) : valL os = x * y := by
  rw [h.val, List.take_of_length_le (by omega), valL_limbs]

set_option maxHeartbeats 8000000 in
set_option maxRecDepth 100000 in
theorem natMultiply_calls (s t : ByteArray) (w : World) (hs : s.size ≤ 100000000) (ht : t.size ≤ 100000000) :
    Calls Tryd.prog 35 #[.string s, .string t] w fun e w' => e = .returned (.string (ncan (snum s * snum t))) ∧ Below w.heap.size w w' := by
  have HP1 := Lib.hid (fun w => parse_calls s w (by omega))
  have HP2 := Lib.hid (fun w => parse_calls t w (by omega))
  have hla : (limbs (snum s)).length ≤ 100000000 := by
    rw [limbs_len_canon]; have := canon_num_len s.data.toList; rw [← Lib.size_eq] at this; show ((canon (num s.data.toList)).length + 3) / 4 ≤ _; omega
  have hlb : (limbs (snum t)).length ≤ 100000000 := by
    rw [limbs_len_canon]; have := canon_num_len t.data.toList; rw [← Lib.size_eq] at this; show ((canon (num t.data.toList)).length + 3) / 4 ≤ _; omega
  obtain ⟨x, hx0⟩ : ∃ x, x = snum s := ⟨_, rfl⟩
  obtain ⟨y, hy0⟩ : ∃ y, y = snum t := ⟨_, rfl⟩
  rw [← hx0] at HP1 hla ⊢
  rw [← hy0] at HP2 hlb ⊢
  obtain ⟨lx, hlx⟩ : ∃ lx, lx = (limbs x).length := ⟨_, rfl⟩
  obtain ⟨ly, hly⟩ : ∃ ly, ly = (limbs y).length := ⟨_, rfl⟩
  rw [← hlx] at HP1 hla
  rw [← hly] at HP2 hlb
  have HLL := Lib.hid (And.intro hlx hly)
  have hmk := run_make_row' (P := Tryd.prog) 50 60 (.int .u32 0) 4 Tryd.underlying50 Tryd.info_u32 rfl .i64 .i64 (lx + ly) (by omega) (by omega)
  have hcast : ((lx + ly : Nat) : Int) = (lx : Int) + (ly : Int) := by omega
  rw [hcast] at hmk
  clear hx0 hy0 hs ht hlx hly hcast
  go_enter Tryd.func35, Tryd.ntmps35
  go_wp2_with fail
  refine (HP1.out _).mono ?_
  rintro e w1 ⟨X, cx, rfl, hc1, hr1, hb1⟩
  go_wp2_with fail
  refine (HP2.out _).mono ?_
  rintro e w2 ⟨Y, cy, rfl, hc2, hr2, hb2⟩
  have HRX := Lib.hid (hr1.next hb2)
  have HRY := Lib.hid hr2
  have HBEL : Hid (Below w.heap.size w w2) := hb1.trans (hb2.mono hb1.size)
  clear hr1 hr2 hb1 hb2 hc1 hc2
  go_wp2_with fail
  go_loopw [26] (fun ii wr => ∃ (i : Nat) (os : List Nat), i ≤ lx ∧ ii = .int .i64 (i : Int) ∧ KRow .u32 60 wr w2.heap.size os ∧ Hid (Pr os (lx + ly) i ly x y) ∧ Below w2.heap.size w2 wr) (fun ii _ => lx - (intOf ii).toNat)
  case atStart => exact ⟨0, _, by omega, rfl, KRow.made _ _ _ rfl, ⟨by simp, Dig.zeros _, by simp [valL, valL_zeros], fun j hj => by simp [List.getD_eq_getElem?_getD, List.getElem?_replicate]; split <;> rfl⟩, (Below.refl _ _).alloc (Nat.le_refl _) _⟩
  case round =>
    obtain ⟨i, os, hi, rfl, hrow, HI, hbel⟩ := hrel
    have hsz := hrow.lt
    by_cases hlt : i < lx
    · have hix : i < (limbs x).length := by rw [← HLL.out.1]; exact hlt
      obtain ⟨bx, offx, hXe, hbx, hcx⟩ := (HRX.out.below hbel).at_ (getElem?_getD hix)
      subst hXe
      obtain ⟨u, hu⟩ : ∃ u, u = (limbs x).getD i 0 := ⟨_, rfl⟩
      have hul : u < 4294967296 := by rw [hu]; exact (limbs_dig x).getD i
      rw [← hu] at hcx
      have HU := Lib.hid hu
      have HROW := Lib.hid hrow
      obtain ⟨wo, hwo⟩ : ∃ wo : World, wo = wr := ⟨_, rfl⟩
      subst hwo
      have HBO := Lib.hid hbel
      clear hu hrow hbel hmk
      go_wp2_with fail
      clear hcx
      go_loopw [10, 33] (fun cc kk wr => ∃ (k c : Nat) (qs : List Nat), k ≤ ly ∧ kk = .int .i64 (k : Int) ∧ cc = .int .u64 (c : Int) ∧ c < 4294967296 ∧ KRow .u32 60 wr w2.heap.size qs ∧ Hid (Pi qs os (lx + ly) i ly k c u y) ∧ Below w2.heap.size w2 wr) (fun _ kk _ => ly - (intOf kk).toNat)
      case atStart => exact ⟨0, 0, os, by omega, rfl, rfl, by omega, HROW.out, Pi.start HI.out, HBO.out⟩
      case round =>
        obtain ⟨k, c, qs, hk, rfl, rfl, hcl, hrow, HJ, hbel⟩ := hrel
        have hsz2 := hrow.lt
        by_cases hkl : k < ly
        · have hky : k < (limbs y).length := by rw [← HLL.out.2]; exact hkl
          obtain ⟨b2, off2, hYe, hb2, hcy⟩ := (HRY.out.below hbel).at_ (getElem?_getD hky)
          subst hYe
          obtain ⟨v, hv⟩ : ∃ v, v = (limbs y).getD k 0 := ⟨_, rfl⟩
          have hvl : v < 4294967296 := by rw [hv]; exact (limbs_dig y).getD k
          rw [← hv] at hcy
          have hoc := hrow.getD (j := i + k) (by rw [HJ.out.len]; omega)
          obtain ⟨o, ho⟩ : ∃ o, o = qs.getD (i + k) 0 := ⟨_, rfl⟩
          have hol : o < 4294967296 := by rw [ho]; exact HJ.out.dig.getD _
          rw [← ho] at hoc
          have hof := hrow.frozen (i + k)
          obtain ⟨p, hp⟩ : ∃ p, p = u * v := ⟨_, rfl⟩
          have hbd := mul_bd hul hvl hol hcl
          rw [← hp] at hbd
          obtain ⟨p1, hp1⟩ : ∃ p1, p1 = p + o := ⟨_, rfl⟩
          obtain ⟨tt, htt⟩ : ∃ tt, tt = p1 + c := ⟨_, rfl⟩
          obtain ⟨c', hc'⟩ : ∃ c', c' = tt / 4294967296 := ⟨_, rfl⟩
          obtain ⟨lo, hlo⟩ : ∃ lo, lo = tt % 4294967296 := ⟨_, rfl⟩
          have hc'l : c' < 4294967296 := by omega
          have hlol : lo < 4294967296 := by omega
          have HJ2 : Hid (Pi (qs.set (i + k) lo) os (lx + ly) i ly (k + 1) c' u y) := HJ.out.step hkl (by omega) hlol (by rw [← hv, ← ho, ← hp]; omega)
          have u1 : IntKind.u64.wrap ((u : Int) * (v : Int)) = (p : Int) := by
            have : (u : Int) * (v : Int) = (p : Int) := by rw [hp]; simp
            rw [this]; exact IntWalk.u64_in _ (by omega)
          have u2 : IntKind.u64.wrap ((p : Int) + (o : Int)) = (p1 : Int) := by rw [IntWalk.u64_in _ (by omega)]; omega
          have u3 : IntKind.u64.wrap ((p1 : Int) + (c : Int)) = (tt : Int) := by rw [IntWalk.u64_in _ (by omega)]; omega
          have u4 : (tt : Int) / 4294967296 = (c' : Int) := by omega
          have u5 : (tt : Int) % 4294967296 = (lo : Int) := by omega
          have HROW2 := Lib.hid hrow
          clear hv ho hp hbd hp1 htt hc' hlo hrow HJ
          go_wp2_with fail
          go_roundw
          case measure => simp [intOf] <;> omega
          case rel => exact ⟨k + 1, c', _, by omega, by go_num, rfl, hc'l, HROW2.out.setI (i + k) lo rfl rfl, HJ2, hbel.setCell (by simp) _⟩
        · obtain rfl : k = ly := by omega
          have hL : Hid (Pr (qs.set (i + k) c) (lx + k) (i + 1) k x y) := Pi.last HLL.out.2.symm hix HI.out (by have := HJ.out; rwa [HU.out] at this) (by omega) hcl
          have hoc := hrow.getD (j := i + k) (by rw [HJ.out.len]; omega)
          obtain ⟨o, ho⟩ : ∃ o, o = qs.getD (i + k) 0 := ⟨_, rfl⟩
          rw [← ho] at hoc
          have hof := hrow.frozen (i + k)
          have HROW2 := Lib.hid hrow
          clear ho hrow HJ
          go_wp2_with fail
          go_roundw
          case measure => simp [intOf] <;> omega
          case rel => exact ⟨i + 1, _, by omega, by go_num, HROW2.out.setI (i + k) c rfl rfl, hL, hbel.setCell (by simp) _⟩
    · obtain rfl : i = lx := by omega
      have hval := HI.out.end_ HLL.out.1
      have hT := text_calls (some ⟨w2.heap.size, 0, none⟩) (i + ly) os wr hrow.rd HI.out.dig (Nat.le_of_eq HI.out.len) (by rw [HI.out.len]; omega)
      rw [hval, HI.out.len] at hT
      have HT := Lib.hid hT
      clear hval hT hrow hmk
      go_wp2_with fail
      refine HT.out.mono ?_
      rintro e w3 ⟨rfl, hb3⟩
      have hb4 := hbel.trans (hb3.mono hbel.size)
      clear hb3
      go_wp2_with fail
      go_ret
      exact ⟨rfl, HBEL.out.trans (hb4.mono HBEL.out.size)⟩

end Go.Proofs.YtmlbolfopakgmaaDoor

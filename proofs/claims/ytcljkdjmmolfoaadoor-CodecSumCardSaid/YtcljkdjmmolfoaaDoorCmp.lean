/- the definition's text; compare, order, sign. -/
import Derived.Test.YtcljkdjmmolfoaaDoorText
set_option linter.unusedVariables false
set_option linter.unusedSimpArgs false
namespace Go.Proofs.YtcljkdjmmolfoaaDoor
open Go.RowKit

/-- the four bytes of a digit, the greatest first -/
def be4 (x : Nat) : List Nat := [x / 16777216 % 256, x / 65536 % 256, x / 256 % 256, x % 256]
theorem bytesL_drop_rev (l : List Nat) (k : Nat) (h : k < l.length) : (bytesL (l.drop k)).reverse = (bytesL (l.drop (k + 1))).reverse ++ be4 (l.getD k 0) := by
  rw [List.drop_eq_getElem_cons h, bytesL]
  have : l.getD k 0 = l[k] := by simp [List.getD_eq_getElem?_getD, h]
  rw [this]
  simp [be4]

theorem own_map_append {w : World} {base T n m : Nat} {v : Value} {xs ys : List Nat} {k : IntKind} (h : w.ownsRow base T 1 v (n + m) (xs.map (fun (x : Nat) => Value.int k (x : Int)) ++ ys.map (fun (x : Nat) => Value.int k (x : Int)))) (zs : List Nat) (hz : xs ++ ys = zs) (N : Nat) (hN : n + m = N) :
    w.ownsRow base T 1 v N (zs.map (fun (x : Nat) => Value.int k (x : Int))) := by
  subst hz hN; rw [List.map_append]; exact h

theorem rd_new_cells (w : World) (cs : List Value) (t : TypeId) (N : Nat) (hN : N = w.heap.size) : ∀ (j : Nat) (u : Value), cs[j]? = some u → (w.alloc (.cells cs.toArray t)).cell? ((⟨N, 0, none⟩ : Addr).add j) = some u := by
  intro j u hu
  subst hN
  rw [Addr.add_lit, cell_of_row _ _ _ cs.toArray t (0, 0) (heap_alloc_new w _)]
  simpa using hu

set_option maxHeartbeats 2000000 in
set_option maxRecDepth 100000 in
theorem textRef_calls (A : Option Addr) (c : Nat) (l0 : List Nat) (w : World) (hr : KRd .u32 w w.heap.size A l0) (hd : Dig l0) (hc0 : l0.length ≤ c) (hl0 : l0.length ≤ 1000000000) :
    Calls Tryd.prog 59 #[.slice A l0.length c] w fun e w' => e = .returned (.string (ncan (valL l0))) ∧ Below w.heap.size w w' := by
  obtain ⟨i0, hi, hz0, hz1, hz2⟩ := info_parts Tryd.info_u8
  have HST := Lib.hid (strip_calls A c l0 w hr hd hc0 hl0)
  have hr1 := hr.limbs hd rfl
  obtain ⟨l, hl⟩ : ∃ l, l = limbs (valL l0) := ⟨_, rfl⟩
  rw [← hl] at HST hr1
  have hlen : l.length ≤ 1000000000 := by rw [hl]; exact Nat.le_trans (take_limbs hd).2 hl0
  have hdl : Dig l := by rw [hl]; exact limbs_dig _
  have HR := Lib.hid hr1
  have HD := Lib.hid hdl
  have HV : Hid (valL l = valL l0) := by show _ = _; rw [hl, valL_limbs]
  have HI : Hid (Tryd.prog.info? 5 = some i0 ∧ i0.zero = some (.int .u8 0) ∧ i0.size = 1 ∧ i0.bytes = 1) := ⟨hi, hz0, hz1, hz2⟩
  clear hr hr1 hd hdl hl hi hz0 hz1 hz2
  go_enter Tryd.func59, Tryd.ntmps59
  go_wp2_with fail
  refine HST.out.mono ?_
  rintro e w1 ⟨rfl, rfl⟩
  go_wp2_with (at_make; refine wpList_make_own _ rfl _ _ 22 rfl w1.heap.size 5 i0 (.int .u8 0) 1 Tryd.underlying22 HI.out.1 HI.out.2.1 HI.out.2.2.1 .i64 .i64 _ (4 * l.length) rfl rfl (by omega) (by rw [HI.out.2.2.2]; omega) (by unfold maxLen; omega) (Nat.le_refl _) ?_; intro w2 hown hgrow)
  have hb0 : Below w1.heap.size w1 w2 := Below.grown (Below.refl _ _) hgrow (Nat.le_refl _) (by simp)
  clear hgrow
  go_loopw [3, 4] (fun o i wr => ∃ k : Nat, k ≤ l.length ∧ i = .int .i64 ((k : Int) - 1) ∧ wr.ownsRow w1.heap.size 5 1 o (4 * (l.length - k)) ((bytesL (l.drop k)).reverse.map (fun (x : Nat) => Value.int .u8 (x : Int))) ∧ Below w1.heap.size w1 wr) (fun _ i _ => (intOf i + 1).toNat)
  case atStart => exact ⟨l.length, Nat.le_refl _, rfl, by rw [List.drop_length, Nat.sub_self]; exact hown, hb0⟩
  case round =>
    clear hown hb0
    obtain ⟨k, hk, rfl, hown, hbel⟩ := hrel
    obtain ⟨A', c', hv, hrd, hle⟩ := own_shape hown
    subst hv
    by_cases h0 : k = 0
    · subst h0
      have hbyt : Byt (bytesL l).reverse := fun x hx => bytesL_byt l x (by simpa using hx)
      rw [List.drop_zero, Nat.sub_zero] at hown
      have hcv := conv_bytes (P := Tryd.prog) wr wr.heap.size 22 9 5 _ _ c' Tryd.underlying22 Tryd.underlying5 Tryd.underlying9 (KRd.of_own hown) hbyt
      rw [List.length_reverse, bytesL_len] at hcv
      have HS : Hid (snum (nstr (bytesL l).reverse) = valL l0) := by
        show _ = _
        rw [snum_nstr _ hbyt, List.reverse_reverse, valB_bytesL _ HD.out, HV.out]
      have HSZ : (nstr (bytesL l).reverse).size ≤ 9223372036854775807 := by rw [nstr_size, List.length_reverse, bytesL_len]; omega
      have HSS := Lib.hid HSZ
      have HB := Lib.hid hbyt
      clear hown hrd hbyt HSZ
      go_wp2_with fail
      refine (normRef_calls _ _ HSS.out).mono ?_
      rintro e w3 ⟨rfl, rfl⟩
      go_wp2_with fail
      go_ret
      exact ⟨ret_str (by rw [HS.out]), hbel⟩
    · obtain ⟨j, rfl⟩ : ∃ j, k = j + 1 := ⟨k - 1, by omega⟩
      have hjl : j < l.length := by omega
      obtain ⟨b, off, rfl, hb, hcell⟩ := (HR.out.below hbel).at_ (getElem?_getD hjl)
      have HNX := Lib.hid (bytesL_drop_rev l j hjl)
      obtain ⟨x, hx⟩ : ∃ x, x = l.getD j 0 := ⟨_, rfl⟩
      rw [← hx] at hcell HNX
      have hji : ((j + 1 : Nat) : Int) - 1 = (j : Int) := by omega
      have hsz := hbel.size
      clear h0 hx hrd
      go_wp2_with (at_builtin; refine wpList_append_own _ rfl (.tmp 23) (.tmp 35) 22 rfl w1.heap.size 5 i0 (.int .u8 0) 1 1 Tryd.underlying22 HI.out.1 HI.out.2.1 HI.out.2.2.1 HI.out.2.2.2 rfl (by decide) _ _ _ rfl (by exact hown.alloc _) _ 4 4 _ rfl rfl (rd_new_cells _ _ _ _ (by simp)) (by simp [Value.oneCell']) (by simp only [maxLen]; omega) (by omega) (by simp <;> omega) ?_)
      intro v' w2 hown' hg _
      have hb1 : Below w1.heap.size w1 w2 := Below.grown (hbel.alloc hsz _) hg (by simp <;> omega) (fun q hq => (hown.lt q hq).1)
      have h2 : w2.ownsRow w1.heap.size 5 1 v' (4 * (l.length - j)) ((bytesL (l.drop j)).reverse.map (fun (x : Nat) => Value.int .u8 (x : Int))) := by
        have e : 4 * (l.length - j) = 4 * (l.length - (j + 1)) + 4 := by omega
        rw [HNX.out, e]
        simpa [be4, List.map_reverse] using hown'
      have H2 := Lib.hid h2
      clear hown' hg hown h2 hcell hbel hji
      go_wp2_with fail
      go_roundw
      case measure => simp [intOf] <;> omega
      case rel => exact ⟨j, by omega, by go_num, H2.out, hb1⟩

def sgn (n : Int) : Int := if n < 0 then -1 else if 0 < n then 1 else 0

set_option maxHeartbeats 1000000 in
theorem sign_calls (n : Int) (w : World) : Calls Tryd.prog 94 #[.int .i64 n] w fun e w' => e = .returned (.int .i64 (sgn n)) ∧ w' = w := by
  rcases Int.lt_trichotomy n 0 with h | h | h
  · have HE : Hid (sgn n = -1) := if_pos h
    go_enter Tryd.func94, Tryd.ntmps94
    go_wp2_with fail
    go_ret
    exact ⟨ret_int HE.out.symm, rfl⟩
  · have HE : Hid (sgn n = 0) := by show sgn n = 0; unfold sgn; rw [if_neg (by omega), if_neg (by omega)]
    have h1 : ¬ n < 0 := by omega
    have h2 : ¬ 0 < n := by omega
    clear h
    go_enter Tryd.func94, Tryd.ntmps94
    go_wp2_with fail
    go_ret
    exact ⟨ret_int HE.out.symm, rfl⟩
  · have HE : Hid (sgn n = 1) := by show sgn n = 1; unfold sgn; rw [if_neg (by omega), if_pos h]
    have h1 : ¬ n < 0 := by omega
    go_enter Tryd.func94, Tryd.ntmps94
    go_wp2_with fail
    go_ret
    exact ⟨ret_int HE.out.symm, rfl⟩

/-- the order of two numbers -/
def cmpN (a b : Nat) : Int := if a < b then -1 else if b < a then 1 else 0

theorem cmpN_len {a b : Nat} (h : (limbs a).length < (limbs b).length) : cmpN a b = -1 ∧ cmpN b a = 1 := by
  have := lt_of_len h
  unfold cmpN
  exact ⟨by rw [if_pos this], by rw [if_neg (by omega), if_pos this]⟩

theorem cmpN_at {a b k : Nat} (hl : (limbs a).length = (limbs b).length) (hk : k < (limbs a).length) (hd : (limbs a).drop (k + 1) = (limbs b).drop (k + 1)) : ((limbs a).getD k 0 < (limbs b).getD k 0 → cmpN a b = -1) ∧ ((limbs b).getD k 0 < (limbs a).getD k 0 → cmpN a b = 1) := by
  refine ⟨fun h => ?_, fun h => ?_⟩
  · have := valL_lt_of hl (limbs_dig a) hk hd h
    rw [valL_limbs, valL_limbs] at this
    unfold cmpN; rw [if_pos this]
  · have := valL_lt_of hl.symm (limbs_dig b) (by omega) hd.symm h
    rw [valL_limbs, valL_limbs] at this
    unfold cmpN; rw [if_neg (by omega), if_pos this]

theorem drop_step {a b : List Nat} {k : Nat} (hl : a.length = b.length) (hk : k < a.length) (hd : a.drop (k + 1) = b.drop (k + 1)) (h : a.getD k 0 = b.getD k 0) : a.drop k = b.drop k := by
  rw [List.drop_eq_getElem_cons hk, List.drop_eq_getElem_cons (hl ▸ hk : k < b.length), hd]
  simp only [List.getD_eq_getElem?_getD, List.getElem?_eq_getElem hk, List.getElem?_eq_getElem (hl ▸ hk : k < b.length), Option.getD_some] at h
  rw [h]

theorem cmpN_eq {a b : Nat} (h : (limbs a).drop 0 = (limbs b).drop 0) : cmpN a b = 0 := by
  have : a = b := by rw [← valL_limbs a, ← valL_limbs b]; simpa using congrArg valL h
  subst this; unfold cmpN; rw [if_neg (by omega), if_neg (by omega)]

theorem sgn_neg {n : Int} (h : n < 0) : sgn n = -1 := if_pos h
theorem sgn_pos {n : Int} (h : 0 < n) : sgn n = 1 := by unfold sgn; rw [if_neg (by omega), if_pos h]

set_option maxHeartbeats 2000000 in
set_option maxRecDepth 100000 in
theorem compare_calls (A A1 : Option Addr) (c c1 a b : Nat) (w : World) (hra : KRd .u32 w w.heap.size A (limbs a)) (hrb : KRd .u32 w w.heap.size A1 (limbs b)) (hla : (limbs a).length ≤ 1000000000) (hlb : (limbs b).length ≤ 1000000000) :
    Calls Tryd.prog 84 #[.slice A (limbs a).length c, .slice A1 (limbs b).length c1] w fun e w' => e = .returned (.int .i64 (cmpN a b)) ∧ Below w.heap.size w w' := by
  by_cases hlen : (limbs a).length = (limbs b).length
  · obtain ⟨L, hL⟩ : ∃ L, L = (limbs a).length := ⟨_, rfl⟩
    have hLb : (limbs b).length = L := by omega
    rw [hLb, ← hL]
    have hne : ((L : Int) != (L : Int)) = false := by simp
    have HL := Lib.hid hL
    have HLB := Lib.hid hLb
    have hLm : L ≤ 1000000000 := by omega
    have HA := Lib.hid hra
    have HB := Lib.hid hrb
    have HLEN := Lib.hid hlen
    clear hL hLb hra hrb hla hlb hlen
    go_enter Tryd.func84, Tryd.ntmps84
    go_wp2_with fail
    go_loopw [5] (fun i wr => ∃ k : Nat, k ≤ L ∧ i = .int .i64 ((k : Int) - 1) ∧ Hid ((limbs a).drop k = (limbs b).drop k) ∧ Below w.heap.size w wr) (fun i _ => (intOf i + 1).toNat)
    case atStart => exact ⟨L, Nat.le_refl _, rfl, by show _ = _; rw [List.drop_of_length_le (by rw [HL.out]; omega), List.drop_of_length_le (by rw [HLB.out]; omega)], Below.refl _ _⟩
    case round =>
      obtain ⟨k, hk, rfl, HD, hbel⟩ := hrel
      by_cases h0 : k = 0
      · subst h0
        have HE := Lib.hid (cmpN_eq HD.out)
        go_wp2_with fail
        go_ret
        exact ⟨ret_int HE.out.symm, hbel⟩
      · obtain ⟨j, rfl⟩ : ∃ j, k = j + 1 := ⟨k - 1, by omega⟩
        have hjl : j < L := by omega
        obtain ⟨ba, offa, rfl, hba, hca⟩ := (HA.out.below hbel).at_ (getElem?_getD (show j < (limbs a).length by rw [← HL.out]; exact hjl))
        obtain ⟨bb, offb, rfl, hbb, hcb⟩ := (HB.out.below hbel).at_ (getElem?_getD (show j < (limbs b).length by rw [HLB.out]; exact hjl))
        have HC := Lib.hid (cmpN_at HLEN.out (show j < (limbs a).length by rw [← HL.out]; exact hjl) HD.out)
        have HDS := Lib.hid (fun h => drop_step HLEN.out (show j < (limbs a).length by rw [← HL.out]; exact hjl) HD.out h)
        obtain ⟨x, hx⟩ : ∃ x, x = (limbs a).getD j 0 := ⟨_, rfl⟩
        obtain ⟨y, hy⟩ : ∃ y, y = (limbs b).getD j 0 := ⟨_, rfl⟩
        rw [← hx] at hca HC HDS
        rw [← hy] at hcb HC HDS
        have hji : ((j + 1 : Nat) : Int) - 1 = (j : Int) := by omega
        have hji2 : ((j : Int) + 1) - 1 = (j : Int) := by omega
        clear h0 hx hy HD
        by_cases hxy : x = y
        · have HD2 : Hid ((limbs a).drop j = (limbs b).drop j) := HDS.out hxy
          have hne2 : ((x : Int) != (y : Int)) = false := by simp [hxy]
          clear hxy
          go_wp2_with fail
          go_quiet (fail)
          go_wp2_with fail
          go_roundw
          case measure => simp [intOf] <;> omega
          case rel => exact ⟨j, by omega, by go_num, HD2, hbel.drewN _⟩
        · have hne2 : ((x : Int) != (y : Int)) = true := by simp; omega
          rcases Nat.lt_or_ge x y with hlt | hge
          · have HE := Lib.hid (HC.out.1 hlt)
            clear hxy
            go_wp2_with fail
            go_quiet (fail)
            go_wp2_with fail
            go_quiet (fail)
            go_wp2_with fail
            go_ret
            exact ⟨ret_int HE.out.symm, (hbel.drewN _).drewN _⟩
          · have hgt : ¬ (x : Int) < (y : Int) := by omega
            have HE := Lib.hid (HC.out.2 (by omega))
            clear hxy hge
            go_wp2_with fail
            go_quiet (fail)
            go_wp2_with fail
            go_quiet (fail)
            go_wp2_with fail
            go_ret
            exact ⟨ret_int HE.out.symm, (hbel.drewN _).drewN _⟩
  · have hne : (((limbs a).length : Int) != ((limbs b).length : Int)) = true := by simp; omega
    have HE : Hid (sgn (((limbs a).length : Int) - ((limbs b).length : Int)) = cmpN a b) := by
      show _ = _
      rcases Nat.lt_or_ge (limbs a).length (limbs b).length with h | h
      · rw [sgn_neg (by omega), (cmpN_len h).1]
      · rw [sgn_pos (by omega), (cmpN_len (a := b) (b := a) (by omega)).2]
    have HL := Lib.hid hlen
    clear hra hrb hlen
    go_enter Tryd.func84, Tryd.ntmps84
    go_wp2_with (go_at_call 94; refine (sign_calls _ _).mono ?_; rintro e w1 ⟨rfl, rfl⟩)
    go_ret
    exact ⟨ret_int HE.out, Below.refl _ _⟩

set_option maxHeartbeats 2000000 in
set_option maxRecDepth 100000 in
theorem order_calls (A A1 : Option Addr) (c c1 a b : Nat) (w : World) (hra : KRd .u32 w w.heap.size A (limbs a)) (hrb : KRd .u32 w w.heap.size A1 (limbs b)) (hla : (limbs a).length ≤ 1000000000) (hlb : (limbs b).length ≤ 1000000000) :
    Calls Tryd.prog 75 #[.slice A (limbs a).length c, .slice A1 (limbs b).length c1] w fun e w' => e = .returned (.int .i64 (cmpN a b)) ∧ Below w.heap.size w w' := by
  by_cases hlen : (limbs a).length = (limbs b).length
  · obtain ⟨L, hL⟩ : ∃ L, L = (limbs a).length := ⟨_, rfl⟩
    have hLb : (limbs b).length = L := by omega
    rw [hLb, ← hL]
    have hne : ((L : Int) != (L : Int)) = false := by simp
    have HL := Lib.hid hL
    have HLB := Lib.hid hLb
    have hLm : L ≤ 1000000000 := by omega
    have HA := Lib.hid hra
    have HB := Lib.hid hrb
    have HLEN := Lib.hid hlen
    clear hL hLb hra hrb hla hlb hlen
    go_enter Tryd.func75, Tryd.ntmps75
    go_wp2_with fail
    go_loopw [5] (fun i wr => ∃ k : Nat, k ≤ L ∧ i = .int .i64 ((k : Int) - 1) ∧ Hid ((limbs a).drop k = (limbs b).drop k) ∧ Below w.heap.size w wr) (fun i _ => (intOf i + 1).toNat)
    case atStart => exact ⟨L, Nat.le_refl _, rfl, by show _ = _; rw [List.drop_of_length_le (by rw [HL.out]; omega), List.drop_of_length_le (by rw [HLB.out]; omega)], Below.refl _ _⟩
    case round =>
      obtain ⟨k, hk, rfl, HD, hbel⟩ := hrel
      by_cases h0 : k = 0
      · subst h0
        have HE := Lib.hid (cmpN_eq HD.out)
        go_wp2_with fail
        go_ret
        exact ⟨ret_int HE.out.symm, hbel⟩
      · obtain ⟨j, rfl⟩ : ∃ j, k = j + 1 := ⟨k - 1, by omega⟩
        have hjl : j < L := by omega
        obtain ⟨ba, offa, rfl, hba, hca⟩ := (HA.out.below hbel).at_ (getElem?_getD (show j < (limbs a).length by rw [← HL.out]; exact hjl))
        obtain ⟨bb, offb, rfl, hbb, hcb⟩ := (HB.out.below hbel).at_ (getElem?_getD (show j < (limbs b).length by rw [HLB.out]; exact hjl))
        have HC := Lib.hid (cmpN_at HLEN.out (show j < (limbs a).length by rw [← HL.out]; exact hjl) HD.out)
        have HDS := Lib.hid (fun h => drop_step HLEN.out (show j < (limbs a).length by rw [← HL.out]; exact hjl) HD.out h)
        obtain ⟨x, hx⟩ : ∃ x, x = (limbs a).getD j 0 := ⟨_, rfl⟩
        obtain ⟨y, hy⟩ : ∃ y, y = (limbs b).getD j 0 := ⟨_, rfl⟩
        rw [← hx] at hca HC HDS
        rw [← hy] at hcb HC HDS
        have hji : ((j + 1 : Nat) : Int) - 1 = (j : Int) := by omega
        have hji2 : ((j : Int) + 1) - 1 = (j : Int) := by omega
        clear h0 hx hy HD
        by_cases hxy : x = y
        · have HD2 : Hid ((limbs a).drop j = (limbs b).drop j) := HDS.out hxy
          have hne2 : ((x : Int) != (y : Int)) = false := by simp [hxy]
          clear hxy
          go_wp2_with fail
          go_quiet (fail)
          go_wp2_with fail
          go_roundw
          case measure => simp [intOf] <;> omega
          case rel => exact ⟨j, by omega, by go_num, HD2, hbel.drewN _⟩
        · have hne2 : ((x : Int) != (y : Int)) = true := by simp; omega
          rcases Nat.lt_or_ge x y with hlt | hge
          · have HE := Lib.hid (HC.out.1 hlt)
            clear hxy
            go_wp2_with fail
            go_quiet (fail)
            go_wp2_with fail
            go_quiet (fail)
            go_wp2_with fail
            go_ret
            exact ⟨ret_int HE.out.symm, (hbel.drewN _).drewN _⟩
          · have hgt : ¬ (x : Int) < (y : Int) := by omega
            have HE := Lib.hid (HC.out.2 (by omega))
            clear hxy hge
            go_wp2_with fail
            go_quiet (fail)
            go_wp2_with fail
            go_quiet (fail)
            go_wp2_with fail
            go_ret
            exact ⟨ret_int HE.out.symm, (hbel.drewN _).drewN _⟩
  · have hne : (((limbs a).length : Int) != ((limbs b).length : Int)) = true := by simp; omega
    rcases Nat.lt_or_ge (limbs a).length (limbs b).length with h | h
    · have HE := Lib.hid (cmpN_len h).1
      have h2 : decide ((limbs a).length < (limbs b).length) = true := by simpa using h
      have HL := Lib.hid hlen
      clear hra hrb hlen
      go_enter Tryd.func75, Tryd.ntmps75
      go_wp2_with fail
      go_ret
      exact ⟨ret_int HE.out.symm, Below.refl _ _⟩
    · have HE := Lib.hid (cmpN_len (a := b) (b := a) (by omega)).2
      have h2 : decide ((limbs a).length < (limbs b).length) = false := by simpa using h
      have h3 : ¬ (limbs a).length < (limbs b).length := by omega
      have HL := Lib.hid hlen
      clear hra hrb hlen
      go_enter Tryd.func75, Tryd.ntmps75
      go_wp2_with fail
      go_ret
      exact ⟨ret_int HE.out.symm, Below.refl _ _⟩

end Go.Proofs.YtcljkdjmmolfoaaDoor

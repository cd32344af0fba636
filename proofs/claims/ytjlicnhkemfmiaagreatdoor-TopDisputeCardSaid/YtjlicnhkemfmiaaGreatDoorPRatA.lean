/- rational.reduced, den, clean, signOf, Sign. -/
import Derived.Test.YtjlicnhkemfmiaaGreatDoorSq
import Derived.Test.YtjlicnhkemfmiaaGreatDoorM21
import Derived.Test.YtjlicnhkemfmiaaGreatDoorM15
set_option linter.unusedVariables false
set_option linter.unusedSimpArgs false
set_option maxHeartbeats 8000000
namespace Go.Proofs.YtjlicnhkemfmiaaGreatDoor
open Go.RowKit

theorem ncan_ne1 {n : Nat} (h : n ≠ 1) : ¬ (ncan n).toList = [1] := toList_ne1 (fun e => h (by rw [← ncan_one] at e; exact ncan_inj e))
theorem Sm.canN {s : ByteArray} {x y : Nat} (h : Sm s x) (hy : y ≤ x) : Sm (ncan y) y := by
 have h1 := snum_lt_size s
 rw [h.1] at h1
 exact Sm.can (Nat.lt_of_le_of_lt hy h1) h.2

theorem pReduced_zero (neg : Bool) (num den : ByteArray) (x y : Nat) (w : World) (hx : Sm num x) (hy : Sm den y) (hy0 : y ≠ 0) (h0 : x = 0) :
 Calls Tryz.prog 51 #[.bool neg, .string num, .string den] w fun e w' => e = .returned (.agg #[.bool false, .string ⟨#[]⟩, .string ⟨#[]⟩]) ∧ Below w.heap.size w w' := by
 have N1' := fun w => normalize_calls num w
 have N2' := fun w => normalize_calls den w
 rw [hx.1] at N1'
 rw [hy.1] at N2'
 rw [h0, ncan_zero'] at N1'
 obtain ⟨sy, hsy⟩ : ∃ s, s = ncan y := ⟨_, rfl⟩
 rw [← hsy] at N2'
 clear hx hy hy0 h0 hsy
 have N1 := Lib.hid N1'
 have N2 := Lib.hid N2'
 clear N1' N2'
 go_enter Tryz.func51, Tryz.ntmps51
 go_wp2_with fail
 refine (N1.out _).mono ?_
 rintro e w1 ⟨rfl, rfl⟩
 go_wp2_with fail
 refine (N2.out _).mono ?_
 rintro e w2 ⟨rfl, rfl⟩
 go_wp2_with fail
 obtain ⟨c0, c1, c2, _⟩ := three_of (blk_new w (.cells #[.bool false, .string ⟨#[]⟩, .string ⟨#[]⟩] 33))
 exact bodyPost_ret (v := .agg #[.bool false, .string ⟨#[]⟩, .string ⟨#[]⟩]) (by simp [results, Tryz.results51, go_sem, c0, c1, c2]) rfl ⟨rfl, bel_alloc _ _⟩

theorem pReduced_one (neg : Bool) (num den : ByteArray) (x y : Nat) (w : World) (hx : Sm num x) (hy : Sm den y) (hy0 : y ≠ 0) (h0 : x ≠ 0) (h1 : y = 1) :
 Calls Tryz.prog 51 #[.bool neg, .string num, .string den] w fun e w' => e = .returned (.agg #[.bool neg, .string (ncan x), .string ⟨#[]⟩]) ∧ Below w.heap.size w w' := by
 have N1' := fun w => normalize_calls num w
 have N2' := fun w => normalize_calls den w
 rw [hx.1] at N1'
 rw [hy.1] at N2'
 rw [h1, ncan_one] at N2'
 obtain ⟨sx, hsx⟩ : ∃ s, s = ncan x := ⟨_, rfl⟩
 have tx : sx.toList.isEmpty = false := by rw [hsx]; exact ncan_isEmpty' h0
 have Hx : Hid (Sm sx x) := by show Sm sx x; rw [hsx]; exact hx.canN (Nat.le_refl _)
 rw [← hsx] at N1' ⊢
 clear hsx
 clear hx hy hy0 h0 h1
 have N1 := Lib.hid N1'
 have N2 := Lib.hid N2'
 clear N1' N2'
 go_enter Tryz.func51, Tryz.ntmps51
 go_wp2_with fail
 refine (N1.out _).mono ?_
 rintro e w1 ⟨rfl, rfl⟩
 go_wp2_with fail
 refine (N2.out _).mono ?_
 rintro e w2 ⟨rfl, rfl⟩
 go_wp2_with fail
 obtain ⟨c0, c1, c2, _⟩ := three_of (blk_new w (.cells #[.bool neg, .string sx, .string ⟨#[]⟩] 33))
 exact bodyPost_ret (v := .agg #[.bool neg, .string sx, .string ⟨#[]⟩]) (by simp [results, Tryz.results51, go_sem, c0, c1, c2]) rfl ⟨rfl, bel_alloc _ _⟩

theorem pReduced_prime (neg : Bool) (num den : ByteArray) (x y : Nat) (w : World) (hx : Sm num x) (hy : Sm den y) (hy0 : y ≠ 0) (h0 : x ≠ 0) (h1 : y ≠ 1) (hg : Nat.gcd x y = 1) :
 Calls Tryz.prog 51 #[.bool neg, .string num, .string den] w fun e w' => e = .returned (.agg #[.bool neg, .string (ncan x), .string (ncan y)]) ∧ Below w.heap.size w w' := by
 have N1' := fun w => normalize_calls num w
 have N2' := fun w => normalize_calls den w
 rw [hx.1] at N1'
 rw [hy.1] at N2'
 obtain ⟨sx, hsx⟩ : ∃ s, s = ncan x := ⟨_, rfl⟩
 have tx : sx.toList.isEmpty = false := by rw [hsx]; exact ncan_isEmpty' h0
 have Hx : Hid (Sm sx x) := by show Sm sx x; rw [hsx]; exact hx.canN (Nat.le_refl _)
 rw [← hsx] at N1' ⊢
 clear hsx
 obtain ⟨sy, hsy⟩ : ∃ s, s = ncan y := ⟨_, rfl⟩
 have ty : ¬ sy.toList = [1] := by rw [hsy]; exact ncan_ne1 h1
 have ty2 : (sy.toList == [1]) = false := beq_eq_false_iff_ne.2 ty
 have Hy : Hid (Sm sy y) := by show Sm sy y; rw [hsy]; exact hy.canN (Nat.le_refl _)
 rw [← hsy] at N2' ⊢
 clear hsy
 have GG' := fun w => op_gcd Hx.out Hy.out rfl w
 rw [hg, ncan_one] at GG'
 have GG := Lib.hid GG'
 clear GG' hg hx hy hy0 h0 h1 Hx Hy
 have N1 := Lib.hid N1'
 have N2 := Lib.hid N2'
 clear N1' N2'
 go_enter Tryz.func51, Tryz.ntmps51
 go_wp2_with fail
 refine (N1.out _).mono ?_
 rintro e w1 ⟨rfl, rfl⟩
 go_wp2_with fail
 refine (N2.out _).mono ?_
 rintro e w2 ⟨rfl, rfl⟩
 go_wp2_with fail
 refine (GG.out _).mono ?_
 rintro e w3 ⟨rfl, hb⟩
 have HB3 : Hid (Below w.heap.size w w3) := (bel_alloc w _).trans (hb.mono (by simp))
 have HG3 := Lib.hid (blk_next (blk_new w (.cells #[.bool false, .string ⟨#[]⟩, .string ⟨#[]⟩] 33)) hb)
 clear hb
 obtain ⟨c0, c1, c2, f0, f1, f2, hz⟩ := three_of HG3.out
 go_wp2_with fail
 exact bodyPost_ret (v := .agg #[.bool neg, .string sx, .string sy]) (by simp [results, Tryz.results51, go_sem, c0, c1, c2]) rfl ⟨rfl, ((HB3.out.setCell (by simp <;> omega) _).setCell (by simp <;> omega) _).setCell (by simp <;> omega) _⟩

theorem pReduced_divA (neg : Bool) (num den : ByteArray) (x y : Nat) (w : World) (hx : Sm num x) (hy : Sm den y) (hy0 : y ≠ 0) (h0 : x ≠ 0) (h1 : y ≠ 1) (hg : Nat.gcd x y ≠ 1) (hd : y / Nat.gcd x y = 1) :
 Calls Tryz.prog 51 #[.bool neg, .string num, .string den] w fun e w' => e = .returned (.agg #[.bool neg, .string (ncan (x / Nat.gcd x y)), .string ⟨#[]⟩]) ∧ Below w.heap.size w w' := by
 have N1' := fun w => normalize_calls num w
 have N2' := fun w => normalize_calls den w
 rw [hx.1] at N1'
 rw [hy.1] at N2'
 obtain ⟨sx, hsx⟩ : ∃ s, s = ncan x := ⟨_, rfl⟩
 have tx : sx.toList.isEmpty = false := by rw [hsx]; exact ncan_isEmpty' h0
 have Hx : Hid (Sm sx x) := by show Sm sx x; rw [hsx]; exact hx.canN (Nat.le_refl _)
 rw [← hsx] at N1'
 clear hsx
 obtain ⟨sy, hsy⟩ : ∃ s, s = ncan y := ⟨_, rfl⟩
 have ty : ¬ sy.toList = [1] := by rw [hsy]; exact ncan_ne1 h1
 have ty2 : (sy.toList == [1]) = false := beq_eq_false_iff_ne.2 ty
 have Hy : Hid (Sm sy y) := by show Sm sy y; rw [hsy]; exact hy.canN (Nat.le_refl _)
 rw [← hsy] at N2'
 clear hsy
 have GG' := fun w => op_gcd Hx.out Hy.out rfl w
 obtain ⟨g, hgg⟩ : ∃ g, g = Nat.gcd x y := ⟨_, rfl⟩
 have hg0 : g ≠ 0 := by rw [hgg]; exact fun e => hy0 (Nat.eq_zero_of_gcd_eq_zero_right e)
 rw [← hgg] at hg GG'
 obtain ⟨sg, hsg⟩ : ∃ s, s = ncan g := ⟨_, rfl⟩
 have tg : ¬ sg.toList = [1] := by rw [hsg]; exact ncan_ne1 hg
 have tg2 : (sg.toList == [1]) = false := beq_eq_false_iff_ne.2 tg
 have Hg : Hid (Sm sg g) := by show Sm sg g; rw [hsg]; exact hy.canN (by rw [hgg]; exact Nat.gcd_le_right _ (Nat.pos_of_ne_zero hy0))
 rw [← hsg] at GG'
 have DX' := fun w => op_div Hx.out Hg.out hg0 rfl rfl w
 have DY' := fun w => op_div Hy.out Hg.out hg0 rfl rfl w
 obtain ⟨ux, hux⟩ : ∃ s, s = ncan (x / g) := ⟨_, rfl⟩
 obtain ⟨rx, hrx⟩ : ∃ s, s = ncan (x % g) := ⟨_, rfl⟩
 obtain ⟨ry, hry⟩ : ∃ s, s = ncan (y % g) := ⟨_, rfl⟩
 rw [← hux, ← hrx] at DX'
 rw [← hry] at DY'
 rw [← hgg] at hd ⊢
 rw [← hux]
 rw [hd, ncan_one] at DY'
 have GG := Lib.hid GG'
 have DX := Lib.hid DX'
 have DY := Lib.hid DY'
 clear hd GG' DX' DY' hux hrx hry hg hgg hg0 hsg Hg hx hy hy0 h0 h1 Hx Hy
 have N1 := Lib.hid N1'
 have N2 := Lib.hid N2'
 clear N1' N2'
 go_enter Tryz.func51, Tryz.ntmps51
 go_wp2_with fail
 refine (N1.out _).mono ?_
 rintro e w1 ⟨rfl, rfl⟩
 go_wp2_with fail
 refine (N2.out _).mono ?_
 rintro e w2 ⟨rfl, rfl⟩
 go_wp2_with fail
 refine (GG.out _).mono ?_
 rintro e w3 ⟨rfl, hb⟩
 have HB3 : Hid (Below w.heap.size w w3) := (bel_alloc w _).trans (hb.mono (by simp))
 have HG3 := Lib.hid (blk_next (blk_new w (.cells #[.bool false, .string ⟨#[]⟩, .string ⟨#[]⟩] 33)) hb)
 clear hb
 go_wp2_with fail
 refine (DX.out _).mono ?_
 rintro e w4 ⟨rfl, hb⟩
 have HB4 := ben HB3 hb
 have HG4 := Lib.hid (blk_next HG3.out hb)
 clear hb
 go_wp2_with fail
 refine (DY.out _).mono ?_
 rintro e w5 ⟨rfl, hb⟩
 have HB5 := ben HB4 hb
 have HG5 := Lib.hid (blk_next HG4.out hb)
 clear hb
 obtain ⟨c0, c1, c2, f0, f1, f2, hz⟩ := three_of HG5.out
 go_wp2_with fail
 exact bodyPost_ret (v := .agg #[.bool neg, .string ux, .string ⟨#[]⟩]) (by simp [results, Tryz.results51, go_sem, c0, c1, c2]) rfl ⟨rfl, ((HB5.out.setCell (by simp <;> omega) _).setCell (by simp <;> omega) _).setCell (by simp <;> omega) _⟩

theorem pReduced_divB (neg : Bool) (num den : ByteArray) (x y : Nat) (w : World) (hx : Sm num x) (hy : Sm den y) (hy0 : y ≠ 0) (h0 : x ≠ 0) (h1 : y ≠ 1) (hg : Nat.gcd x y ≠ 1) (hd : y / Nat.gcd x y ≠ 1) :
 Calls Tryz.prog 51 #[.bool neg, .string num, .string den] w fun e w' => e = .returned (.agg #[.bool neg, .string (ncan (x / Nat.gcd x y)), .string (ncan (y / Nat.gcd x y))]) ∧ Below w.heap.size w w' := by
 have N1' := fun w => normalize_calls num w
 have N2' := fun w => normalize_calls den w
 rw [hx.1] at N1'
 rw [hy.1] at N2'
 obtain ⟨sx, hsx⟩ : ∃ s, s = ncan x := ⟨_, rfl⟩
 have tx : sx.toList.isEmpty = false := by rw [hsx]; exact ncan_isEmpty' h0
 have Hx : Hid (Sm sx x) := by show Sm sx x; rw [hsx]; exact hx.canN (Nat.le_refl _)
 rw [← hsx] at N1'
 clear hsx
 obtain ⟨sy, hsy⟩ : ∃ s, s = ncan y := ⟨_, rfl⟩
 have ty : ¬ sy.toList = [1] := by rw [hsy]; exact ncan_ne1 h1
 have ty2 : (sy.toList == [1]) = false := beq_eq_false_iff_ne.2 ty
 have Hy : Hid (Sm sy y) := by show Sm sy y; rw [hsy]; exact hy.canN (Nat.le_refl _)
 rw [← hsy] at N2'
 clear hsy
 have GG' := fun w => op_gcd Hx.out Hy.out rfl w
 obtain ⟨g, hgg⟩ : ∃ g, g = Nat.gcd x y := ⟨_, rfl⟩
 have hg0 : g ≠ 0 := by rw [hgg]; exact fun e => hy0 (Nat.eq_zero_of_gcd_eq_zero_right e)
 rw [← hgg] at hg GG'
 obtain ⟨sg, hsg⟩ : ∃ s, s = ncan g := ⟨_, rfl⟩
 have tg : ¬ sg.toList = [1] := by rw [hsg]; exact ncan_ne1 hg
 have tg2 : (sg.toList == [1]) = false := beq_eq_false_iff_ne.2 tg
 have Hg : Hid (Sm sg g) := by show Sm sg g; rw [hsg]; exact hy.canN (by rw [hgg]; exact Nat.gcd_le_right _ (Nat.pos_of_ne_zero hy0))
 rw [← hsg] at GG'
 have DX' := fun w => op_div Hx.out Hg.out hg0 rfl rfl w
 have DY' := fun w => op_div Hy.out Hg.out hg0 rfl rfl w
 obtain ⟨ux, hux⟩ : ∃ s, s = ncan (x / g) := ⟨_, rfl⟩
 obtain ⟨rx, hrx⟩ : ∃ s, s = ncan (x % g) := ⟨_, rfl⟩
 obtain ⟨ry, hry⟩ : ∃ s, s = ncan (y % g) := ⟨_, rfl⟩
 rw [← hux, ← hrx] at DX'
 rw [← hry] at DY'
 rw [← hgg] at hd ⊢
 rw [← hux]
 obtain ⟨uy, huy⟩ : ∃ s, s = ncan (y / g) := ⟨_, rfl⟩
 have tu : ¬ uy.toList = [1] := by rw [huy]; exact ncan_ne1 hd
 have tu2 : (uy.toList == [1]) = false := beq_eq_false_iff_ne.2 tu
 rw [← huy] at DY' ⊢
 have GG := Lib.hid GG'
 have DX := Lib.hid DX'
 have DY := Lib.hid DY'
 clear hd huy GG' DX' DY' hux hrx hry hg hgg hg0 hsg Hg hx hy hy0 h0 h1 Hx Hy
 have N1 := Lib.hid N1'
 have N2 := Lib.hid N2'
 clear N1' N2'
 go_enter Tryz.func51, Tryz.ntmps51
 go_wp2_with fail
 refine (N1.out _).mono ?_
 rintro e w1 ⟨rfl, rfl⟩
 go_wp2_with fail
 refine (N2.out _).mono ?_
 rintro e w2 ⟨rfl, rfl⟩
 go_wp2_with fail
 refine (GG.out _).mono ?_
 rintro e w3 ⟨rfl, hb⟩
 have HB3 : Hid (Below w.heap.size w w3) := (bel_alloc w _).trans (hb.mono (by simp))
 have HG3 := Lib.hid (blk_next (blk_new w (.cells #[.bool false, .string ⟨#[]⟩, .string ⟨#[]⟩] 33)) hb)
 clear hb
 go_wp2_with fail
 refine (DX.out _).mono ?_
 rintro e w4 ⟨rfl, hb⟩
 have HB4 := ben HB3 hb
 have HG4 := Lib.hid (blk_next HG3.out hb)
 clear hb
 go_wp2_with fail
 refine (DY.out _).mono ?_
 rintro e w5 ⟨rfl, hb⟩
 have HB5 := ben HB4 hb
 have HG5 := Lib.hid (blk_next HG4.out hb)
 clear hb
 obtain ⟨c0, c1, c2, f0, f1, f2, hz⟩ := three_of HG5.out
 go_wp2_with fail
 exact bodyPost_ret (v := .agg #[.bool neg, .string ux, .string uy]) (by simp [results, Tryz.results51, go_sem, c0, c1, c2]) rfl ⟨rfl, ((HB5.out.setCell (by simp <;> omega) _).setCell (by simp <;> omega) _).setCell (by simp <;> omega) _⟩

theorem pReduced_calls (neg : Bool) (num den : ByteArray) (x y : Nat) (w : World) (hx : Sm num x) (hy : Sm den y) (hy0 : y ≠ 0) (q : Rat) (hq : rv neg x y = q) :
 Calls Tryz.prog 51 #[.bool neg, .string num, .string den] w fun e w' => e = .returned (ratV q) ∧ Below w.heap.size w w' := by
 subst hq
 by_cases h0 : x = 0
 ·
  have := pReduced_zero neg num den x y w hx hy hy0 h0
  rw [h0, rv_zero, ratV_zero]; exact this
 ·
  have en := rv_neg (b := neg) h0 hy0
  have e1 := rv_num (b := neg) (n := x) hy0
  have e2 := rv_den (b := neg) (n := x) hy0
  by_cases h1 : y = 1
  ·
   have := pReduced_one neg num den x y w hx hy hy0 h0 h1
   rw [h1, Nat.gcd_one_right, Nat.div_one] at e1 e2
   rw [ratV, rnum, rden, h1, rv_neg h0 (by decide), e1, if_pos e2]
   exact this
  ·
   by_cases hg : Nat.gcd x y = 1
   ·
    have := pReduced_prime neg num den x y w hx hy hy0 h0 h1 hg
    rw [hg, Nat.div_one] at e1 e2
    rw [ratV, rnum, rden, en, e1, e2, if_neg h1]
    exact this
   ·
    by_cases hd : y / Nat.gcd x y = 1
    ·
     have := pReduced_divA neg num den x y w hx hy hy0 h0 h1 hg hd
     rw [ratV, rnum, rden, en, e1, e2, if_pos hd]
     exact this
    ·
     have := pReduced_divB neg num den x y w hx hy hy0 h0 h1 hg hd
     rw [ratV, rnum, rden, en, e1, e2, if_neg hd]
     exact this

theorem rden_none {q : Rat} (h : q.den = 1) : rden q = ⟨#[]⟩ := if_pos h
theorem rden_some {q : Rat} (h : q.den ≠ 1) : rden q = ncan q.den := if_neg h
theorem pDen_calls (q : Rat) (w : World) : Calls Tryz.prog 41 #[ratV q] w fun e w' => e = .returned (.string (ncan q.den)) ∧ Below w.heap.size w w' := by
 unfold ratV
 obtain ⟨sg, hsg⟩ : ∃ s, s = rneg q := ⟨_, rfl⟩
 obtain ⟨sn, hsn⟩ : ∃ s, s = rnum q := ⟨_, rfl⟩
 rw [← hsg, ← hsn]
 clear hsg hsn
 by_cases h1 : q.den = 1
 ·
  rw [rden_none h1, h1, ncan_one]
  clear h1
  go_enter Tryz.func41, Tryz.ntmps41
  go_wp2_with fail
  go_ret
  exact ⟨rfl, bel_alloc _ _⟩
 ·
  rw [rden_some h1]
  have hne := ncan_isEmpty' q.den_nz
  obtain ⟨sd, hsd⟩ : ∃ s, s = ncan q.den := ⟨_, rfl⟩
  rw [← hsd] at hne ⊢
  clear hsd h1
  go_enter Tryz.func41, Tryz.ntmps41
  go_wp2_with fail
  go_ret
  exact ⟨rfl, bel_alloc _ _⟩
theorem pClean_calls (a : FQ) (k : Nat) (w : World) (h : a.fits k) (hk : k ≤ 100000000) : Calls Tryz.prog 31 #[a.val] w fun e w' => e = .returned (ratV (fixR a)) ∧ Below w.heap.size w w' := by
 rcases hv : a.vl with _ | _
 ·
  rw [fixR_not hv, ratV_zero]
  obtain ⟨neg, num, den⟩ := a
  have HV' := fun w => validP_calls neg num den w (Nat.le_trans h.1 hk) (Nat.le_trans h.2 hk)
  rw [show vld neg num den = false from hv] at HV'
  have HV := Lib.hid HV'
  clear HV' hv h
  unfold FQ.val
  go_enter Tryz.func31, Tryz.ntmps31
  go_wp2_with fail
  refine (HV.out _).mono ?_
  rintro e w1 ⟨rfl, hb⟩
  have HB1 : Hid (Below w.heap.size w w1) := ((bel_alloc w (.cells #[.bool neg, .string num, .string den] 33)).alloc (by simp) (.cells #[.bool false, .string ⟨#[]⟩, .string ⟨#[]⟩] 33)).trans (hb.mono (by simp <;> omega))
  have HG1 : Hid (w1.heap[w.heap.size + 1]? = some (.cells #[.bool false, .string ⟨#[]⟩, .string ⟨#[]⟩] 33 (0, 0))) := by
   have := blk_new (w.alloc (.cells #[.bool neg, .string num, .string den] 33)) (.cells #[.bool false, .string ⟨#[]⟩, .string ⟨#[]⟩] 33)
   rw [World.size_alloc] at this
   exact blk_next this hb
  clear hb
  obtain ⟨c0, c1, c2, f0, f1, f2, hz⟩ := three_of HG1.out
  go_wp2_with fail
  exact bodyPost_ret (v := .agg #[.bool false, .string ⟨#[]⟩, .string ⟨#[]⟩]) (by simp [results, Tryz.results31, go_sem, c0, c1, c2]) rfl ⟨rfl, ((HB1.out.setCell (by simp <;> omega) _).setCell (by simp <;> omega) _).setCell (by simp <;> omega) _⟩
 ·
  rw [fix_val hv]
  obtain ⟨neg, num, den⟩ := a
  have HV' := fun w => validP_calls neg num den w (Nat.le_trans h.1 hk) (Nat.le_trans h.2 hk)
  rw [show vld neg num den = true from hv] at HV'
  have HV := Lib.hid HV'
  clear HV' hv h
  unfold FQ.val
  go_enter Tryz.func31, Tryz.ntmps31
  go_wp2_with fail
  refine (HV.out _).mono ?_
  rintro e w1 ⟨rfl, hb⟩
  have HB1 : Hid (Below w.heap.size w w1) := ((bel_alloc w (.cells #[.bool neg, .string num, .string den] 33)).alloc (by simp) (.cells #[.bool false, .string ⟨#[]⟩, .string ⟨#[]⟩] 33)).trans (hb.mono (by simp <;> omega))
  have HG1 : Hid (w1.heap[w.heap.size + 1]? = some (.cells #[.bool false, .string ⟨#[]⟩, .string ⟨#[]⟩] 33 (0, 0))) := by
   have := blk_new (w.alloc (.cells #[.bool neg, .string num, .string den] 33)) (.cells #[.bool false, .string ⟨#[]⟩, .string ⟨#[]⟩] 33)
   rw [World.size_alloc] at this
   exact blk_next this hb
  have hS : Q3 w.heap.size neg num den w1 := blk_next (blk_alloc (blk_new _ _)) hb
  clear hb
  obtain ⟨q0, q1, q2⟩ := hS.cells
  obtain ⟨c0, c1, c2, f0, f1, f2, hz⟩ := three_of HG1.out
  go_wp2_with fail
  exact bodyPost_ret (v := .agg #[.bool neg, .string num, .string den]) (by simp [results, Tryz.results31, go_sem, c0, c1, c2]) rfl ⟨rfl, ((HB1.out.setCell (by simp <;> omega) _).setCell (by simp <;> omega) _).setCell (by simp <;> omega) _⟩
theorem pSignOf_calls (q : Rat) (w : World) : Calls Tryz.prog 38 #[ratV q] w fun e w' => e = .returned (.int .i64 (sgnR q)) ∧ Below w.heap.size w w' := by
 unfold sgnR
 by_cases h0 : q = 0
 ·
  rw [if_pos h0, h0, ratV_zero]
  clear h0
  go_enter Tryz.func38, Tryz.ntmps38
  go_wp2_with fail
  go_ret
  exact ⟨rfl, bel_alloc _ _⟩
 ·
  rw [if_neg h0]
  have hne := rnum_isEmpty h0
  unfold ratV
  obtain ⟨sn, hsn⟩ : ∃ s, s = rnum q := ⟨_, rfl⟩
  obtain ⟨sd, hsd⟩ : ∃ s, s = rden q := ⟨_, rfl⟩
  rw [← hsn] at hne ⊢
  rw [← hsd]
  clear hsn hsd h0
  cases rneg q
  ·
   go_enter Tryz.func38, Tryz.ntmps38
   go_wp2_with fail
   go_ret
   exact ⟨rfl, bel_alloc _ _⟩
  ·
   go_enter Tryz.func38, Tryz.ntmps38
   go_wp2_with fail
   go_ret
   exact ⟨rfl, bel_alloc _ _⟩
theorem pSign_calls (a : FQ) (k : Nat) (w : World) (h : a.fits k) (hk : k ≤ 100000000) : Calls Tryz.prog 13 #[a.val] w fun e w' => e = .returned (.int .i64 (sgnR (fixR a))) ∧ Below w.heap.size w w' := by
 have HC := Lib.hid (fun w => pClean_calls a k w h hk)
 clear h
 unfold FQ.val at HC ⊢
 obtain ⟨neg, num, den⟩ := a
 obtain ⟨q, hq⟩ : ∃ q, q = fixR ⟨neg, num, den⟩ := ⟨_, rfl⟩
 rw [← hq] at HC ⊢
 have HS := Lib.hid (fun w => pSignOf_calls q w)
 obtain ⟨v, hv⟩ : ∃ v, v = ratV q := ⟨_, rfl⟩
 rw [← hv] at HC HS
 clear hq hv
 go_enter Tryz.func13, Tryz.ntmps13
 go_wp2_with fail
 refine (HC.out _).mono ?_
 rintro e w1 ⟨rfl, hb⟩
 have HB1 : Hid (Below w.heap.size w w1) := (bel_alloc _ _).trans (hb.mono (by simp))
 clear hb
 go_wp2_with fail
 refine (HS.out _).mono ?_
 rintro e w2 ⟨rfl, hb⟩
 have HB2 := ben HB1 hb
 clear hb
 go_wp2_with fail
 go_ret
 exact ⟨rfl, HB2.out⟩

end Go.Proofs.YtjlicnhkemfmiaaGreatDoor

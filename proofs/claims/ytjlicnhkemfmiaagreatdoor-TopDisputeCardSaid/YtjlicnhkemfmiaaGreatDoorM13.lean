/- Merged of RatRef RedA. -/
import Derived.Test.YtjlicnhkemfmiaaGreatDoorM2
import Derived.Test.YtjlicnhkemfmiaaGreatDoorRefDiv
import Derived.Test.YtjlicnhkemfmiaaGreatDoorM4
import Derived.Test.YtjlicnhkemfmiaaGreatDoorSq
/- insolvencyref1: rational numbers in terms of Rat: size, Int, den, reduced. -/
set_option linter.unusedVariables false
set_option linter.unusedSimpArgs false
set_option maxHeartbeats 8000000
namespace Go.Proofs.YtjlicnhkemfmiaaGreatDoor
open Go.RowKit

theorem size_calls (n : Int) (w : World) (h1 : -9223372036854775808 ≤ n) (h2 : n ≤ 9223372036854775807) (m : Nat) (hm : n.natAbs = m) :
 Calls Tryz.prog 89 #[.int .i64 n] w fun e w' => e = .returned (.int .u64 (m : Int)) ∧ w' = w := by
 by_cases h0 : n < 0
 ·
  have u1 : IntKind.u64.wrap (-(n + 1)) = -(n + 1) := by rw [IntKind.wrap_u64]; omega
  have HM : Hid (-(n + 1) + 1 = (m : Int)) := by show _ = _; omega
  clear hm
  go_enter Tryz.func89, Tryz.ntmps89
  go_wp2_with fail
  go_ret
  exact ⟨ret_int (by have := HM.out; first | exact this | omega), rfl⟩
 ·
  have HM : Hid (n = (m : Int)) := by show _ = _; omega
  have u1 : IntKind.u64.wrap n = n := by rw [IntKind.wrap_u64]; omega
  clear hm
  go_enter Tryz.func89, Tryz.ntmps89
  go_wp2_with fail
  go_ret
  exact ⟨ret_int (by rw [HM.out]), rfl⟩

theorem int_fields (n : Int) : rneg (n : Rat) = decide (n < 0) ∧ rnum (n : Rat) = ncan n.natAbs ∧ rden (n : Rat) = ⟨#[]⟩ := ⟨rfl, rfl, rfl⟩

theorem refInt_calls (n : Int) (w : World) (h1 : -9223372036854775808 ≤ n) (h2 : n ≤ 9223372036854775807) :
 Calls Tryz.prog 55 #[.int .i64 n] w fun e w' => e = .returned (ratV (n : Rat)) ∧ Below w.heap.size w w' := by
 obtain ⟨m, hm⟩ : ∃ m, n.natAbs = m := ⟨_, rfl⟩
 have HS := Lib.hid (fun w => size_calls n w h1 h2 m hm)
 have HU := Lib.hid (fun w => refFromUint_calls m w (by omega))
 obtain ⟨b, hb⟩ : ∃ b, b = decide (n < 0) := ⟨_, rfl⟩
 have HV : Hid (ratV (n : Rat) = .agg #[.bool b, .string (ncan m), .string ⟨#[]⟩]) := by
  show _ = _
  rw [ratV, (int_fields n).1, (int_fields n).2.1, (int_fields n).2.2, hm, hb]
 have hb2 : decide (n < 0) = b := hb.symm
 clear hm hb
 go_enter Tryz.func55, Tryz.ntmps55
 go_wp2_with fail
 refine (HS.out _).mono ?_
 rintro e w1 ⟨rfl, rfl⟩
 go_wp2_with fail
 refine (HU.out _).mono ?_
 rintro e w2 ⟨rfl, hb2⟩
 obtain ⟨c0, c1, c2, f0, f1, f2, hz, HBA⟩ := three_facts hb2
 clear hb2
 go_wp2_with fail
 exact bodyPost_ret (v := .agg #[.bool b, .string (ncan m), .string ⟨#[]⟩]) (by simp [results, Tryz.results55, go_sem, c0, c1, c2]) rfl ⟨by rw [HV.out], ((HBA.out.setCell (by simp) _).setCell (by simp) _).setCell (by simp) _⟩

theorem limbs_one1 : limbs 1 = [1] := by rw [limbs_pos (by decide)]; simp [limbs_zero]

/-- the fields of a limb slice's first element -/
theorem limbs_head {n : Nat} (h : n ≠ 0) : (limbs n)[0]? = some (n % 4294967296) := by rw [limbs_pos h]; rfl
theorem limbs_len1 {n : Nat} (h0 : n ≠ 0) (h : (limbs n).length = 1) : n < 4294967296 := by
 have := lt_pow_limbs n; rw [h] at this; simpa using this

end Go.Proofs.YtjlicnhkemfmiaaGreatDoor

/- insolvencyref1.reduced. -/
set_option maxRecDepth 100000
namespace Go.Proofs.YtjlicnhkemfmiaaGreatDoor
open Go.RowKit

theorem ratV_rv {neg : Bool} {x y : Nat} (hx : x ≠ 0) (hy : y ≠ 0) {x1 y1 : Nat} (h1 : x / Nat.gcd x y = x1) (h2 : y / Nat.gcd x y = y1) : ratV (rv neg x y) = .agg #[.bool neg, .string (ncan x1), .string (if y1 = 1 then ⟨#[]⟩ else ncan y1)] := by
 rw [ratV, rv_neg hx hy, rnum, rden, rv_num hy, rv_den hy, h1, h2]

/-- a number that is not 0: it is 1, or it has several digits, or a single one above 1 -/
theorem limbs_cases {n : Nat} (h : n ≠ 0) : n = 1 ∨ 1 < (limbs n).length ∨ ((limbs n).length = 1 ∧ 1 < n ∧ n < 4294967296) := by
 have hp := limbs_len_pos h
 rcases Nat.lt_or_ge 1 (limbs n).length with h1 | h1
 ·
  exact .inr (.inl h1)
 ·
  have h2 : (limbs n).length = 1 := by omega
  have := limbs_len1 h h2
  omega
theorem krd_head {w : World} {B n : Nat} {A : Option Addr} (h : KRd .u32 w B A (limbs n)) (h0 : n ≠ 0) (hl : n < 4294967296) : ∃ b off, A = some ⟨b, off, none⟩ ∧ b < B ∧ w.cell? ⟨b, off, none⟩ = some (.int .u32 (n : Int)) := by
 obtain ⟨b, off, e, hb, hc⟩ := h.at_ (limbs_head h0)
 rw [Nat.mod_eq_of_lt hl, Nat.add_zero] at hc
 exact ⟨b, off, e, hb, hc⟩

theorem reduced_zero (neg : Bool) (X Y : Option Addr) (cx cy y : Nat) (w : World) :
 Calls Tryz.prog 114 #[.bool neg, .slice X 0 cx, .slice Y (limbs y).length cy] w fun e w' => e = .returned (ratV 0) ∧ Below w.heap.size w w' := by
 rw [ratV_zero]
 go_enter Tryz.func114, Tryz.ntmps114
 go_wp2_with fail
 exact bodyPost_ret (v := .agg #[.bool false, .string ⟨#[]⟩, .string ⟨#[]⟩]) (by simp [results, Tryz.results114, go_sem]) rfl ⟨rfl, by first | exact bel_alloc _ _ | skip⟩

theorem reduced_one (neg : Bool) (X Y : Option Addr) (cx cy x y g x1 y1 : Nat) (w : World) (hrx : KRd .u32 w w.heap.size X (limbs x)) (hry : KRd .u32 w w.heap.size Y (limbs y)) (hlx : (limbs x).length ≤ 100000000) (hly : (limbs y).length ≤ 100000000) (hcx : (limbs x).length ≤ cx) (hcy : (limbs y).length ≤ cy)
 (hx0 : x ≠ 0) (hy0 : y ≠ 0) (hg : Nat.gcd x y = g) (hx1 : x / g = x1) (hy1 : y / g = y1) (hgc : g = 1) :
 Calls Tryz.prog 114 #[.bool neg, .slice X (limbs x).length cx, .slice Y (limbs y).length cy] w fun e w' => e = .returned (.agg #[.bool neg, .string (ncan x1), .string (if y1 = 1 then ⟨#[]⟩ else ncan y1)]) ∧ Below w.heap.size w w' := by
 have HC := fun W (hW : Below w.heap.size w W) => common_calls X Y cx cy x y W (hrx.next hW) (hry.next hW) hlx hly hcx hcy
 rw [hg] at HC
 have HC := Lib.hid HC
 have hg0 : g ≠ 0 := by rw [← hg]; exact Nat.gcd_ne_zero_left hx0
 have hx10 : x1 ≠ 0 := by
  rw [← hx1, ← hg]
  exact Nat.ne_of_gt (Nat.div_pos (Nat.le_of_dvd (Nat.pos_of_ne_zero hx0) (Nat.gcd_dvd_left x y)) (Nat.pos_of_ne_zero (by rw [hg]; exact hg0)))
 have hy10 : y1 ≠ 0 := by
  rw [← hy1, ← hg]
  exact Nat.ne_of_gt (Nat.div_pos (Nat.le_of_dvd (Nat.pos_of_ne_zero hy0) (Nat.gcd_dvd_right x y)) (Nat.pos_of_ne_zero (by rw [hg]; exact hg0)))
 have hlx1 : (limbs x1).length ≤ 100000000 := by rw [← hx1]; have := limbs_mono (Nat.div_le_self x g); omega
 have hly1 : (limbs y1).length ≤ 100000000 := by rw [← hy1]; have := limbs_mono (Nat.div_le_self y g); omega
 have hxp := limbs_len_pos hx0
 have hne0 : (((limbs x).length : Int) == 0) = false := by rw [beq_eq_false_iff_ne]; omega
 have HX := Lib.hid hrx
 have HY := Lib.hid hry
 have HLX := Lib.hid (And.intro hlx (And.intro hcx (And.intro hlx1 hx10)))
 have HLY := Lib.hid (And.intro hly (And.intro hcy (And.intro hly1 hy10)))
 have HG := Lib.hid (And.intro hg0 (And.intro hx1 hy1))
 clear hrx hry hlx hly hcx hcy hlx1 hly1 hx10 hy10 hx0 hg hx1 hy1 hxp hg0 hy0
 subst hgc
 go_enter Tryz.func114, Tryz.ntmps114
 go_wp2_with fail
 refine (HC.out _ (bel_alloc _ _)).mono ?_
 rintro e wc ⟨G, cg, rfl, hcg, hlg, hkg, hbc⟩
 have HRES := Lib.hid (blk_next (blk_new _ _) hbc)
 have HBC : Hid (Below w.heap.size w wc) := (bel_alloc _ _).trans (hbc.mono (by simp))
 have HX2 := Lib.hid (HX.out.next HBC.out)
 have HY2 := Lib.hid (HY.out.next HBC.out)

 have h1g : (limbs 1).length = 1 := by rw [limbs_one1]; rfl
 rw [h1g] at hcg ⊢
 obtain ⟨bg, og, rfl, hbg, hcg1⟩ := krd_head hkg (by decide) (by decide)
 have hx1x : x1 = x := by have := HG.out.2.1; rw [Nat.div_one] at this; exact this.symm
 have hy1y : y1 = y := by have := HG.out.2.2; rw [Nat.div_one] at this; exact this.symm
 subst hx1x hy1y
 clear hkg hbc h1g hlg HX HY HC

 have HT1 := textRef_calls X cx (limbs x1) wc HX2.out (limbs_dig _) HLX.out.2.1 (by have := HLX.out.2.2.1; omega)
 rw [valL_limbs] at HT1
 have HT1 := Lib.hid HT1
 rcases limbs_cases HLY.out.2.2.2 with hd | hd | ⟨hd1, hd2, hd3⟩
 ·
  subst hd
  obtain ⟨bd, od, rfl, hbd, hcd⟩ := krd_head HY2.out (by decide) (by decide)
  have hl1 : (limbs 1).length = 1 := by rw [limbs_one1]; rfl
  rw [hl1]
  have HHC := Lib.hid hcd
  clear hcd hl1
  go_wp2_with fail
  refine HT1.out.mono ?_
  rintro e wt ⟨rfl, hbt⟩
  have hcd := (hbt.cell (p := ⟨bd, od, none⟩) hbd).trans HHC.out
  have hbd2 : bd < wt.heap.size := by have := hbt.size; omega
  have HBT := ben HBC hbt
  obtain ⟨c0, c1, c2, f0, f1, f2, hz⟩ := three_of (blk_next HRES.out hbt)
  clear hbt
  go_wp2_with fail
  exact bodyPost_ret (v := .agg #[.bool neg, .string (ncan x1), .string ⟨#[]⟩]) (by simp [results, Tryz.results114, go_sem, c0, c1, c2, hz, Nat.ne_of_lt hz, Nat.ne_of_gt hz]) rfl ⟨rfl, (((HBT.out.setCell (by simp) _).setCell (by simp) _).setCell (by simp) _).alloc (by simp <;> omega) _⟩
 ·
  have t1 : decide ((1 : Int) < ((limbs y1).length : Int)) = true := decide_eq_true (by omega)
  have hy11 : y1 ≠ 1 := by rintro rfl; rw [limbs_one1] at hd; simp at hd
  have HN1 := Lib.hid hy11
  clear hd hy11
  go_wp2_with fail
  refine HT1.out.mono ?_
  rintro e wt ⟨rfl, hbt⟩
  have HBT := ben HBC hbt
  have HT2 := fun W (hW : Below wt.heap.size wt W) => textRef_calls Y cy (limbs y1) W ((HY2.out.next hbt).next hW) (limbs_dig _) HLY.out.2.1 (by have := HLY.out.2.2.1; omega)
  rw [valL_limbs] at HT2
  have HT2 := Lib.hid HT2
  have HRT := Lib.hid (blk_next HRES.out hbt)
  have hzt := HBT.out.size
  clear hbt
  go_wp2_with fail
  refine (HT2.out _ ?_).mono ?_
  ·
   exact (Below.refl _ _).alloc (Nat.le_refl _) _
  rintro e wu ⟨rfl, hbu⟩
  have HBU : Hid (Below w.heap.size w wu) := HBT.out.trans ((((Below.refl _ _).alloc (Nat.le_refl _) _).trans (hbu.mono (by simp))).mono HBT.out.size)
  obtain ⟨c0, c1, c2, f0, f1, f2, hz⟩ := three_of (blk_next (blk_alloc HRT.out) hbu)
  obtain ⟨r0, r1, r2, s0, s1, s2, rz⟩ := three_of (blk_next (blk_new _ _) hbu)
  have hnt : w.heap.size ≠ wt.heap.size := by have := (three_of HRT.out).2.2.2.2.2.2; omega
  clear hbu
  go_wp2_with fail
  exact bodyPost_ret (v := .agg #[.bool neg, .string (ncan x1), .string (ncan y1)]) (by simp [results, Tryz.results114, go_sem, c0, c1, c2, r0, r1, r2, hz, rz, hnt, Ne.symm hnt]) rfl ⟨by first | rfl | rw [if_neg HN1.out], (((HBU.out.setCell (by simp <;> omega) _).setCell (by simp) _).setCell (by simp) _).setCell (by simp) _⟩
 ·
  have hy11 : y1 ≠ 1 := by omega
  obtain ⟨bd, od, rfl, hbd, hcd⟩ := krd_head HY2.out (by omega) hd3
  have t1 : decide ((1 : Int) < (y1 : Int)) = true := decide_eq_true (by omega)
  have HHD := Lib.hid (And.intro hd1 (And.intro hd2 hd3))
  have HL1 := Lib.hid hd1
  obtain ⟨ly, hly⟩ : ∃ ly, ly = (limbs y1).length := ⟨_, rfl⟩
  rw [← hly] at hd1
  rw [← hly]
  subst hd1
  have HLY1 := Lib.hid hly
  have HHC := Lib.hid hcd
  have HN1 := Lib.hid hy11
  clear hcd hd2 hy11 hly
  go_wp2_with fail
  refine HT1.out.mono ?_
  rintro e wt ⟨rfl, hbt⟩
  have hcd := (hbt.cell (p := ⟨bd, od, none⟩) hbd).trans HHC.out
  have hbd2 : bd < wt.heap.size := by have := hbt.size; omega
  have HBT := ben HBC hbt
  have HT2 := fun W (hW : Below wt.heap.size wt W) => textRef_calls (some ⟨bd, od, none⟩) cy (limbs y1) W ((HY2.out.next hbt).next hW) (limbs_dig _) HLY.out.2.1 (by have := HLY.out.2.2.1; omega)
  rw [valL_limbs, ← HLY1.out] at HT2
  have HT2 := Lib.hid HT2
  have HRT := Lib.hid (blk_next HRES.out hbt)
  have hzt := HBT.out.size
  clear hbt
  go_wp2_with fail
  refine (HT2.out _ ?_).mono ?_
  ·
   exact (Below.refl _ _).alloc (Nat.le_refl _) _
  rintro e wu ⟨rfl, hbu⟩
  have HBU : Hid (Below w.heap.size w wu) := HBT.out.trans ((((Below.refl _ _).alloc (Nat.le_refl _) _).trans (hbu.mono (by simp))).mono HBT.out.size)
  obtain ⟨c0, c1, c2, f0, f1, f2, hz⟩ := three_of (blk_next (blk_alloc HRT.out) hbu)
  obtain ⟨r0, r1, r2, s0, s1, s2, rz⟩ := three_of (blk_next (blk_new _ _) hbu)
  have hnt : w.heap.size ≠ wt.heap.size := by have := (three_of HRT.out).2.2.2.2.2.2; omega
  clear hbu
  go_wp2_with fail
  exact bodyPost_ret (v := .agg #[.bool neg, .string (ncan x1), .string (ncan y1)]) (by simp [results, Tryz.results114, go_sem, c0, c1, c2, r0, r1, r2, hz, rz, hnt, Ne.symm hnt]) rfl ⟨by first | rfl | rw [if_neg HN1.out], (((HBU.out.setCell (by simp <;> omega) _).setCell (by simp) _).setCell (by simp) _).setCell (by simp) _⟩


end Go.Proofs.YtjlicnhkemfmiaaGreatDoor

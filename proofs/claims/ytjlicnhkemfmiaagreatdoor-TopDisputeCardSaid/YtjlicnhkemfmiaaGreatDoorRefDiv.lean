/- insolvencyref1.divide, common, NatDivide, GCD. -/
import Derived.Test.YtjlicnhkemfmiaaGreatDoorSq
import Derived.Test.YtjlicnhkemfmiaaGreatDoorLong
import Derived.Test.YtjlicnhkemfmiaaGreatDoorM6
set_option linter.unusedVariables false
set_option linter.unusedSimpArgs false
set_option maxHeartbeats 8000000
set_option maxRecDepth 100000
namespace Go.Proofs.YtjlicnhkemfmiaaGreatDoor
open Go.RowKit

theorem rdivide_calls (A B : Option Addr) (ca cb a b : Nat) (w : World) (hra : KRd .u32 w w.heap.size A (limbs a)) (hrb : KRd .u32 w w.heap.size B (limbs b)) (hla : (limbs a).length ≤ 100000000) (hlb : (limbs b).length ≤ 100000000) (hca : (limbs a).length ≤ ca) (hb0 : b ≠ 0) :
 Calls Tryz.prog 142 #[.slice A (limbs a).length ca, .slice B (limbs b).length cb] w fun e w' => Two w (a / b) (a % b) e w' := by
 have HC := Lib.hid (order_calls A B ca cb a b w hra hrb (by omega) (by omega))
 rcases Nat.lt_or_ge a b with hlt | hge
 ·
  rw [cmpN_lt hlt] at HC
  have HRA := Lib.hid hra
  have HE : Hid (a / b = 0 ∧ a % b = a) := ⟨Nat.div_eq_of_lt hlt, Nat.mod_eq_of_lt hlt⟩
  clear hra hrb hb0 hlt
  go_enter Tryz.func142, Tryz.ntmps142
  go_wp2_with fail
  refine HC.out.mono ?_
  rintro e w1 ⟨rfl, hb1⟩
  go_wp2_with fail
  go_ret2
  have h0 : (limbs 0).length = 0 := by rw [limbs_zero]; rfl
  refine ⟨none, 0, A, ca, ?_, ?_, ?_, ?_, ?_, hb1⟩
  ·
   rw [HE.out.1, HE.out.2, h0]; rfl
  ·
   rw [HE.out.1, h0]; exact Nat.le_refl _
  ·
   rw [HE.out.2]; exact hca
  ·
   rw [HE.out.1, limbs_zero]; exact KRd.nil
  ·
   rw [HE.out.2]; exact HRA.out.next hb1
 ·
  have hcm := cmpN_ge hge
  obtain ⟨cm, hcm1⟩ : ∃ cm, cm = cmpN a b := ⟨_, rfl⟩
  rw [← hcm1] at HC hcm
  have hcm2 : ¬ cm < 0 := by omega
  by_cases h1 : (limbs b).length = 1
  ·
   have hbe : limbs b = [b] := by
    have h2 : b < 4294967296 := by have := lt_pow_limbs b; rw [h1] at this; simpa using this
    rw [limbs_pos hb0, Nat.div_eq_of_lt h2, Nat.mod_eq_of_lt h2, limbs_zero]
   have hb4 : b < 4294967296 := by have := lt_pow_limbs b; rw [h1] at this; simpa using this
   rw [h1] at HC ⊢
   obtain ⟨bb, ob, rfl, hbb, hbc⟩ := hrb.at_ (j := 0) (x := b) (by rw [hbe]; rfl)
   have HRA := Lib.hid hra
   have HBC := Lib.hid hbc
   have HB0 := Lib.hid hb0
   clear hra hrb hbe hb0 hcm1 hge hcm hbc h1
   go_enter Tryz.func142, Tryz.ntmps142
   go_wp2_with fail
   refine HC.out.mono ?_
   rintro e w1 ⟨rfl, hb1⟩
   have hbc1 := (hb1.cell (p := ⟨bb, ob + 0, none⟩) hbb).trans HBC.out
   rw [Nat.add_zero] at hbc1
   go_wp2_with fail
   refine (short_calls A ca a b w1 (HRA.out.next hb1) (by omega) (by have := HB0.out; omega) hb4).mono ?_
   rintro e w2 ⟨Q, cq, rfl, hcq, hrq, hb2⟩
   have hrl : a % b < 4294967296 := by have := Nat.mod_lt a (show 0 < b by have := HB0.out; omega); omega
   have hbel := hb1.trans (hb2.mono hb1.size)
   obtain ⟨r, hr⟩ : ∃ r, r = a % b := ⟨_, rfl⟩
   rw [← hr] at hrl ⊢
   have HR := Lib.hid hr
   have HRQ := Lib.hid hrq
   have HCQ := Lib.hid hcq
   have HBEL := Lib.hid hbel
   have hkr : KRd .u32 (w2.alloc (.cells #[.int .u32 (r : Int)] 152)) (w2.alloc (.cells #[.int .u32 (r : Int)] 152)).heap.size (some ⟨w2.heap.size, 0, none⟩) [r] := by
    refine KRd.mk_ (by simp) fun j x hj => ?_
    have h := rd_new_cells w2 [.int .u32 (r : Int)] 152 w2.heap.size rfl j (.int .u32 (x : Int)) (by
     rcases j with _ | j
     ·
      simp at hj; simp [hj]
     ·
      simp at hj)
    rw [Addr.add_lit] at h
    exact h
   have HT := strip_calls (some ⟨w2.heap.size, 0, none⟩) 1 [r] _ hkr (Dig.one hrl) (by simp) (by simp)
   rw [limbs_one hrl] at HT
   have HTT := Lib.hid HT
   have HKR : Hid (KRd .u32 (w2.alloc (.cells #[.int .u32 (r : Int)] 152)) (w2.alloc (.cells #[.int .u32 (r : Int)] 152)).heap.size (some ⟨w2.heap.size, 0, none⟩) (limbs r)) := hkr.limbs (Dig.one hrl) (limbs_one hrl)
   have HLE : Hid ((limbs r).length ≤ 1) := by
    have := (take_limbs (Dig.one hrl)).2
    rw [limbs_one hrl] at this
    exact this
   clear hr hrq hcq hbel hkr HT hb2 hbc1
   go_wp2_with fail
   refine HTT.out.mono ?_
   rintro e w3 ⟨rfl, rfl⟩
   go_wp2_with fail
   go_ret2
   have hba : Below w2.heap.size w2 (w2.alloc (.cells #[.int .u32 (r : Int)] 152)) := (Below.refl _ _).alloc (Nat.le_refl _) _
   exact ⟨Q, cq, _, 1, by rw [← HR.out]; rfl, HCQ.out, by rw [← HR.out]; exact HLE.out, HRQ.out.next hba, by rw [← HR.out]; exact HKR.out, HBEL.out.trans (hba.mono HBEL.out.size)⟩
  ·
   obtain ⟨n, hn⟩ : ∃ n, n = (limbs b).length := ⟨_, rfl⟩
   obtain ⟨la, hlaa⟩ : ∃ la, la = (limbs a).length := ⟨_, rfl⟩
   have hnp := limbs_len_pos hb0
   have hn2 : 2 ≤ n := by omega
   have hnla : n ≤ la := by
    rcases Nat.lt_or_ge (limbs a).length (limbs b).length with h | h
    ·
     have := lt_of_len h; omega
    ·
     omega
   have HL := Lib.hid (fun w' (h : Below w.heap.size w w') => long_calls A B ca cb a b n la w' (hra.next h) (hrb.next h) hlaa.symm hn.symm (by omega) hn2 hnla)
   rw [← hn, ← hlaa] at HC
   rw [← hn, ← hlaa]
   have hn1 : ((n : Int) == 1) = false := by simp; omega
   clear hra hrb hn hlaa hcm hcm1 hb0 hge hla hlb hca h1 hnp
   go_enter Tryz.func142, Tryz.ntmps142
   go_wp2_with fail
   refine HC.out.mono ?_
   rintro e w1 ⟨rfl, hw1⟩
   have HW1 := Lib.hid hw1
   have HL1 := Lib.hid (HL.out w1 hw1)
   clear hw1 HL
   go_wp2_with fail
   refine HL1.out.mono ?_
   rintro e w2 ⟨Q, cq, R, cr, rfl, hcq, hcr, hrq, hrr, hb2⟩
   have HE : Hid (Two w (a / b) (a % b) (.returned (.tuple #[.slice Q (limbs (a / b)).length cq, .slice R (limbs (a % b)).length cr])) w2) := ⟨Q, cq, R, cr, rfl, hcq, hcr, hrq, hrr, HW1.out.trans (hb2.mono HW1.out.size)⟩
   clear hcq hcr hrq hrr hb2
   go_wp2_with fail
   go_ret2
   exact HE.out

theorem common_calls (A B : Option Addr) (ca cb a b : Nat) (w : World) (hra : KRd .u32 w w.heap.size A (limbs a)) (hrb : KRd .u32 w w.heap.size B (limbs b)) (hla : (limbs a).length ≤ 100000000) (hlb : (limbs b).length ≤ 100000000) (hca : (limbs a).length ≤ ca) (hcb : (limbs b).length ≤ cb) :
 Calls Tryz.prog 141 #[.slice A (limbs a).length ca, .slice B (limbs b).length cb] w fun e w' => ∃ G cg, e = .returned (.slice G (limbs (Nat.gcd a b)).length cg) ∧ (limbs (Nat.gcd a b)).length ≤ cg ∧ (limbs (Nat.gcd a b)).length ≤ 100000000 ∧ KRd .u32 w' w'.heap.size G (limbs (Nat.gcd a b)) ∧ Below w.heap.size w w' := by
 have HRA := Lib.hid hra
 have HRB := Lib.hid hrb
 clear hra hrb
 go_enter Tryz.func141, Tryz.ntmps141
 go_wp2_with fail
 go_loopg [0, 1] b (fun gk xx yy wr => ∃ (x y : Nat) (X Y : Option Addr) (cx cy : Nat), y ≤ gk ∧ xx = .slice X (limbs x).length cx ∧ yy = .slice Y (limbs y).length cy ∧ (limbs x).length ≤ cx ∧ (limbs y).length ≤ cy ∧ (limbs x).length ≤ 100000000 ∧ (limbs y).length ≤ 100000000 ∧ Hid (KRd .u32 wr wr.heap.size X (limbs x)) ∧ Hid (KRd .u32 wr wr.heap.size Y (limbs y)) ∧ Hid (Nat.gcd x y = Nat.gcd a b) ∧ Below w.heap.size w wr)
 case atStart => exact ⟨a, b, A, B, ca, cb, Nat.le_refl _, rfl, rfl, hca, hcb, hla, hlb, HRA, HRB, rfl, Below.refl _ _⟩
 case round =>
  clear hca hcb hla hlb HRA HRB
  obtain ⟨x, y, X, Y, cx, cy, hgk, rfl, rfl, hcx, hcy, hlx, hly, HX, HY, HG, hbel⟩ := hrel
  have HBEL := Lib.hid hbel
  clear hbel
  by_cases hy0 : y = 0
  ·
   subst hy0
   have h0 : (limbs 0).length = 0 := by rw [limbs_zero]; rfl
   have HGX : Hid (x = Nat.gcd a b) := by have := HG.out; rw [Nat.gcd_zero_right] at this; exact this
   have HL1 := Lib.hid hlx
   have HL2 := Lib.hid hcx
   clear HY hcy hly
   rw [h0]
   clear h0
   go_wp2_with fail
   go_ret
   rw [← HGX.out]
   exact ⟨X, cx, rfl, HL2.out, HL1.out, HX.out, HBEL.out⟩
  ·
   have hyp := limbs_len_pos hy0
   have HD := Lib.hid (rdivide_calls X Y cx cy x y wr HX.out HY.out hlx hly hcx hy0)
   have hlr : (limbs (x % y)).length ≤ 100000000 := by have := limbs_mono (Nat.le_of_lt (Nat.mod_lt x (Nat.pos_of_ne_zero hy0))); omega
   have hmlt : x % y < gk := by have := Nat.mod_lt x (Nat.pos_of_ne_zero hy0); omega
   have HML := Lib.hid hmlt
   have HG2 : Hid (Nat.gcd y (x % y) = Nat.gcd a b) := by
    show _ = _
    rw [← HG.out, Nat.gcd_comm x y, Nat.gcd_rec y x, Nat.gcd_comm]
   clear hmlt hy0
   go_wp2_with fail
   refine HD.out.mono ?_
   rintro e w3 ⟨Q, cq, R, cr, rfl, hcq, hcr, hrq, hrr, hb3⟩
   have HB3 := ben HBEL hb3
   have HY3 := Lib.hid (HY.out.next hb3)
   have HRR := Lib.hid hrr
   clear hrq hrr hb3
   go_wp2_with fail
   go_roundg (x % y)
   case measure => exact HML.out
   case rel => exact ⟨y, x % y, Y, R, cy, cr, Nat.le_refl _, rfl, rfl, hcy, hcr, hly, hlr, HY3, HRR, HG2, HB3.out⟩

section
variable {s t : ByteArray} {x y z : Nat}
end

end Go.Proofs.YtjlicnhkemfmiaaGreatDoor

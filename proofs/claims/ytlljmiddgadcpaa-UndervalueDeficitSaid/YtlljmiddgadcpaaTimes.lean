/- the definition's times. -/
import Derived.Test.YtlljmiddgadcpaaMul
set_option linter.unusedVariables false
set_option linter.unusedSimpArgs false
namespace Go.Proofs.Ytlljmiddgadcpaa
open Go.RowKit

set_option maxHeartbeats 8000000 in
set_option maxRecDepth 100000 in
theorem times_calls (X Y : Option Addr) (cx cy x y : Nat) (w : World) (hr1 : KRd .u32 w w.heap.size X (limbs x)) (hr2 : KRd .u32 w w.heap.size Y (limbs y)) (hla : (limbs x).length ≤ 100000000) (hlb : (limbs y).length ≤ 100000000) :
    Calls Try.prog 18 #[.slice X (limbs x).length cx, .slice Y (limbs y).length cy] w fun e w' => ∃ A' c', e = .returned (.slice A' (limbs (x * y)).length c') ∧ (limbs (x * y)).length ≤ c' ∧ KRd .u32 w' w'.heap.size A' (limbs (x * y)) ∧ Below w.heap.size w w' := by
  obtain ⟨lx, hlx⟩ : ∃ lx, lx = (limbs x).length := ⟨_, rfl⟩
  obtain ⟨ly, hly⟩ : ∃ ly, ly = (limbs y).length := ⟨_, rfl⟩
  rw [← hlx] at hla ⊢
  rw [← hly] at hlb ⊢
  have HLL := Lib.hid (And.intro hlx hly)
  have hmk := run_make_row' (P := Try.prog) 48 60 (.int .u32 0) 4 Try.underlying48 Try.info_u32 rfl .i64 .i64 (lx + ly) (by omega) (by omega)
  have hcast : ((lx + ly : Nat) : Int) = (lx : Int) + (ly : Int) := by omega
  rw [hcast] at hmk
  have HRX := Lib.hid hr1
  have HRY := Lib.hid hr2
  clear hlx hly hcast hr1 hr2
  go_enter Try.func18, Try.ntmps18
  go_wp2_with fail
  go_loopw [6] (fun ii wr => ∃ (i : Nat) (os : List Nat), i ≤ lx ∧ ii = .int .i64 (i : Int) ∧ KRow .u32 60 wr w.heap.size os ∧ Hid (Pr os (lx + ly) i ly x y) ∧ Below w.heap.size w wr) (fun ii _ => lx - (intOf ii).toNat)
  case atStart => exact ⟨0, _, by omega, rfl, KRow.made _ _ _ rfl, ⟨by simp, Dig.zeros _, by simp [valL, valL_zeros], fun j hj => by simp [List.getD_eq_getElem?_getD, List.getElem?_replicate]; split <;> rfl⟩, (Below.refl _ _).alloc (Nat.le_refl _) _⟩
  case round =>
    obtain ⟨i, os, hi, rfl, hrow, HI, hbel⟩ := hrel
    have hsz := hrow.lt
    by_cases hlt : i < lx
    · have hix : i < (limbs x).length := by rw [← HLL.out.1]; exact hlt
      obtain ⟨u, hu⟩ : ∃ u, u = (limbs x).getD i 0 := ⟨_, rfl⟩
      have hul : u < 4294967296 := by rw [hu]; exact (limbs_dig x).getD i
      have HU := Lib.hid hu
      have HROW := Lib.hid hrow
      obtain ⟨wo, hwo⟩ : ∃ wo : World, wo = wr := ⟨_, rfl⟩
      subst hwo
      have HBO := Lib.hid hbel
      obtain ⟨bx, offx, hXe, hbx, hcx0⟩ := HRX.out.at_ (getElem?_getD hix)
      rw [← hu] at hcx0
      have HCX := Lib.hid hcx0
      subst hXe
      have HIX := Lib.hid hix
      clear hu hrow hbel hmk hcx0 hix
      go_wp2_with fail
      go_loopw [7, 8] (fun cc kk wr => ∃ (k c : Nat) (qs : List Nat), k ≤ ly ∧ kk = .int .i64 (k : Int) ∧ cc = .int .u64 (c : Int) ∧ c < 4294967296 ∧ KRow .u32 60 wr w.heap.size qs ∧ Hid (Pi qs os (lx + ly) i ly k c u y) ∧ Below w.heap.size w wr) (fun _ kk _ => ly - (intOf kk).toNat)
      case atStart => exact ⟨0, 0, os, by omega, rfl, rfl, by omega, HROW.out, Pi.start HI.out, HBO.out⟩
      case round =>
        obtain ⟨k, c, qs, hk, rfl, rfl, hcl, hrow, HJ, hbel⟩ := hrel
        have hsz2 := hrow.lt
        by_cases hkl : k < ly
        · have hky : k < (limbs y).length := by rw [← HLL.out.2]; exact hkl
          obtain ⟨b2, off2, hYe, hb2, hcy⟩ := (HRY.out.below hbel).at_ (getElem?_getD hky)
          subst hYe
          have hcx := (hbel.cell (p := ⟨bx, offx + i, none⟩) hbx).trans HCX.out
          obtain ⟨v, hv⟩ : ∃ v, v = (limbs y).getD k 0 := ⟨_, rfl⟩
          have hvl : v < 4294967296 := by rw [hv]; exact (limbs_dig y).getD k
          rw [← hv] at hcy
          have hoc := hrow.getD (j := i + k) (by rw [HJ.out.len]; omega)
          obtain ⟨o, ho⟩ : ∃ o, o = qs.getD (i + k) 0 := ⟨_, rfl⟩
          have hol : o < 4294967296 := by rw [ho]; exact HJ.out.dig.getD _
          rw [← ho] at hoc
          have hof := hrow.frozen (i + k)
          obtain ⟨p, hp⟩ : ∃ p, p = u * v := ⟨_, rfl⟩
          have hbd := mul_bd hul hvl hol hcl
          rw [← hp] at hbd
          obtain ⟨p1, hp1⟩ : ∃ p1, p1 = c + p := ⟨_, rfl⟩
          obtain ⟨tt, htt⟩ : ∃ tt, tt = p1 + o := ⟨_, rfl⟩
          obtain ⟨c', hc'⟩ : ∃ c', c' = tt / 4294967296 := ⟨_, rfl⟩
          obtain ⟨lo, hlo⟩ : ∃ lo, lo = tt % 4294967296 := ⟨_, rfl⟩
          have hc'l : c' < 4294967296 := by omega
          have hlol : lo < 4294967296 := by omega
          have HJ2 : Hid (Pi (qs.set (i + k) lo) os (lx + ly) i ly (k + 1) c' u y) := HJ.out.step hkl (by omega) hlol (by rw [← hv, ← ho, ← hp]; omega)
          have u1 : IntKind.u64.wrap ((u : Int) * (v : Int)) = (p : Int) := by
            have : (u : Int) * (v : Int) = (p : Int) := by rw [hp]; simp
            rw [this]; exact IntWalk.u64_in _ (by omega)
          have u2 : IntKind.u64.wrap ((c : Int) + (p : Int)) = (p1 : Int) := by rw [IntWalk.u64_in _ (by omega)]; omega
          have u3 : IntKind.u64.wrap ((p1 : Int) + (o : Int)) = (tt : Int) := by rw [IntWalk.u64_in _ (by omega)]; omega
          have u4 : (tt : Int) / 4294967296 = (c' : Int) := by omega
          have u5 : (tt : Int) % 4294967296 = (lo : Int) := by omega
          have u6 : IntKind.u64.wrap (u : Int) = (u : Int) := IntWalk.u64_in _ (by omega)
          have u7 : IntKind.u64.wrap (v : Int) = (v : Int) := IntWalk.u64_in _ (by omega)
          have u8 : IntKind.u64.wrap (o : Int) = (o : Int) := IntWalk.u64_in _ (by omega)
          have u9 : IntKind.i64.wrap ((i : Int) + (k : Int)) = (i : Int) + (k : Int) := IntWalk.i64_in _ (by omega)
          have v1 : (i : Int) < (lx : Int) := by omega
          have v2 : (k : Int) < (ly : Int) := by omega
          have v3 : (i : Int) + (k : Int) < (lx : Int) + (ly : Int) := by omega
          have v4 : (0 : Int) ≤ (i : Int) + (k : Int) := by omega
          have v5 : ((i : Int) + (k : Int)).toNat = i + k := by omega
          have HROW2 := Lib.hid hrow
          clear hv ho hp hbd hp1 htt hc' hlo hrow HJ
          go_wp2_with fail
          go_quiet (fail)
          clear u1 u2 u3 u6 u7 u8 u9
          go_wp2_with fail
          go_roundw
          case measure => simp [intOf] <;> omega
          case rel => exact ⟨k + 1, c', _, by omega, by go_num, rfl, hc'l, (HROW2.out.drewN _).setI (i + k) lo rfl rfl, HJ2, (hbel.drewN _).setCell (by simp) _⟩
        · obtain rfl : k = ly := by omega
          have hL : Hid (Pr (qs.set (i + k) c) (lx + k) (i + 1) k x y) := Pi.last HLL.out.2.symm HIX.out HI.out (by have := HJ.out; rwa [HU.out] at this) (by omega) hcl
          have hoc := hrow.getD (j := i + k) (by rw [HJ.out.len]; omega)
          obtain ⟨o, ho⟩ : ∃ o, o = qs.getD (i + k) 0 := ⟨_, rfl⟩
          rw [← ho] at hoc
          have hof := hrow.frozen (i + k)
          have HROW2 := Lib.hid hrow
          clear ho hrow HJ
          go_wp2_with fail
          go_roundw
          case measure => simp [intOf] <;> omega
          case rel => exact ⟨i + 1, _, by omega, by go_num, HROW2.out.setI (i + k) c rfl rfl, hL, hbel.setCell (by simp) _⟩
    · obtain rfl : i = lx := by omega
      have hval := HI.out.end_ HLL.out.1
      have hod := HI.out.dig
      have hT := strip_calls (some ⟨w.heap.size, 0, none⟩) (i + ly) os wr hrow.rd hod (Nat.le_of_eq HI.out.len) (by rw [HI.out.len]; omega)
      rw [hval, HI.out.len] at hT
      have HT := Lib.hid hT
      have HRD : Hid (KRd .u32 wr wr.heap.size (some ⟨w.heap.size, 0, none⟩) (limbs (x * y))) := hrow.rd.limbs hod hval
      have HLE : Hid ((limbs (x * y)).length ≤ i + ly) := by
        have := (take_limbs hod).2
        rw [hval, HI.out.len] at this
        exact this
      clear hval hT hrow hmk hod
      go_wp2_with fail
      refine HT.out.mono ?_
      rintro e w3 ⟨rfl, rfl⟩
      go_wp2_with fail
      go_ret
      exact ⟨_, i + ly, rfl, HLE.out, HRD.out, hbel⟩

end Go.Proofs.Ytlljmiddgadcpaa

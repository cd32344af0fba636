/- Merged of Und RUnd. -/
import Derived.Test.YtomfcmlomfcghaaGreatDoorM22
import Derived.Test.YtomfcmlomfcghaaGreatDoorM35
import Derived.Test.YtomfcmlomfcghaaGreatDoorPtsI
import Derived.Test.YtomfcmlomfcghaaGreatDoorM33
/- undervalue.Find. -/
set_option linter.unusedVariables false
set_option linter.unusedSimpArgs false
namespace Go.Proofs.YtomfcmlomfcghaaGreatDoor
open Go.RowKit

noncomputable def undList (P : Prt) (rows : List Row) (deb : Int) (v : Win) : List Dem := if findErr P rows deb v = 0 then demands (undOf P rows deb.toNat v) deb 2 P.kinds.length else []
theorem undStep_def (deb k f t x : Int) (r : Row) : undStep deb k f t x r = if r.frm = deb ∧ r.to = k ∧ f ≤ r.day ∧ r.day ≤ t then wrap64 (x + deficitOf r) else x := rfl
theorem undList_len (P : Prt) (rows : List Row) (deb : Int) (v : Win) : (undList P rows deb v).length ≤ P.kinds.length := by
 unfold undList
 split
 ·
  exact demands_len _ _ _ _
 ·
  exact Nat.zero_le _
theorem perErr_self (P : Prt) (deb : Int) (v : Win) : perErr P deb deb v = if chk P ≠ 0 then chk P else winChk P.kinds.length deb v := by
 rw [perErr_chk]
 unfold winChk
 by_cases h : chk P ≠ 0
 ·
  rw [if_pos h, if_pos h]
 ·
  rw [if_neg h, if_neg h]
  rcases f : inN P.kinds.length deb with _ | _ <;> simp

set_option maxHeartbeats 8000000 in
set_option maxRecDepth 100000 in
theorem uFind_calls (Ak : Option Addr) (nk ck : Nat) (As : Option Addr) (ns cs : Nat) (At : Option Addr) (nt ct : Nat) (P : Prt) (m : Nat) (Ar : Option Addr) (cr : Nat) (rows : List Row) (deb : Int) (v : Win) (w : World) (hp : PRd Ak nk As ns At nt P w) (hb : PB m P) (hr : RowsRd w w.heap.size Ar rows) (hro : ∀ r ∈ rows, i64b r.amount ∧ i64b r.worth) (hn : rows.length ≤ maxLen) :
 Calls Tryz.prog 33 #[ptyVal Ak nk ck As ns cs At nt ct, .slice Ar rows.length cr, .int .i64 deb, winV v] w (DemPost (undList P rows deb v) (findErr P rows deb v) w) := by
 have HN := Lib.hid hn
 have HRO := Lib.hid hro
 unfold maxLen at hn
 have HP := Lib.hid hp
 have HPB := Lib.hid hb
 have HR := Lib.hid hr
 have HNK := Lib.hid hp.nk
 have gk : nk ≤ maxLen := by rw [hp.nk]; exact hb.kl
 have GK := Lib.hid gk
 unfold maxLen at gk
 clear hp hb hr hro
 obtain ⟨i1, hi, hz0, hz1, hz2⟩ := info_parts Tryz.info_dem
 have HII := Lib.hid (And.intro hi (And.intro hz0 (And.intro hz1 hz2)))
 clear hi hz0 hz1 hz2
 obtain ⟨E, hE⟩ : ∃ E, E = chk P := ⟨_, rfl⟩
 have HCK' := fun (W : World) (hW : Below w.heap.size w W) => check_calls Ak nk ck As ns cs At nt ct P m W (HP.out.next hW) HPB.out
 rw [← hE] at HCK'
 obtain ⟨F, hF⟩ : ∃ F, F = hcheck (nk : Int) rows := ⟨_, rfl⟩
 have HHK' := fun (W : World) (hW : Below w.heap.size w W) => hcheck_calls Ar cr rows (nk : Int) W (HR.out.next hW)
 rw [← hF] at HHK'
 obtain ⟨G, hG⟩ : ∃ G, G = winChk nk deb v := ⟨_, rfl⟩
 have HFE : Hid (findErr P rows deb v = if E ≠ 0 then E else if F ≠ 0 then F else G) := by show _ = _; rw [findErr_chk, ← hE, ← HNK.out, ← hF, ← hG]
 have HPG : Hid (E = 0 → perErr P deb deb v = G) := fun h => by rw [perErr_self, ← hE, if_neg (by rw [h]; decide), ← HNK.out, hG]
 obtain ⟨x0, hx0⟩ : ∃ x, x = perF P deb deb v := ⟨_, rfl⟩
 obtain ⟨x1, hx1⟩ : ∃ x, x = perT P deb deb v := ⟨_, rfl⟩
 obtain ⟨x2, hx2⟩ : ∃ x, x = perErr P deb deb v := ⟨_, rfl⟩
 have HWN' := fun (W : World) (hW : Below w.heap.size w W) => pPeriod_calls Ak nk ck As ns cs At nt ct P m deb deb v W (HP.out.next hW) HPB.out
 rw [← hx0, ← hx1, ← hx2] at HWN'
 rw [← hx2] at HPG
 have HWN := Lib.hid HWN'
 have HE := Lib.hid hE
 have HCK := Lib.hid HCK'
 have HHK := Lib.hid HHK'
 clear hE HCK' hF HHK' hG hx0 hx1 hx2 HWN'
 obtain ⟨q, hq⟩ : ∃ q, q = w.heap.size := ⟨_, rfl⟩
 obtain ⟨q2, hq2⟩ : ∃ q, q = w.heap.size + 1 := ⟨_, rfl⟩
 obtain ⟨w0, hw0⟩ : ∃ W, W = (w.alloc (.cells #[.slice Ak nk ck, .slice As ns cs, .slice At nt ct] 26)).alloc (.cells #[.int .i64 v.cut, .int .i64 v.days, .int .i64 v.con] 49) := ⟨_, rfl⟩
 have HB0 : Hid (Below w.heap.size w w0) := by rw [hw0]; exact (bel_alloc _ _).alloc (by simp) _
 have HX0 : Hid (PBox q Ak nk ck As ns cs At nt ct w0) := by rw [hw0, hq]; exact (show PBox w.heap.size Ak nk ck As ns cs At nt ct (w.alloc (.cells #[.slice Ak nk ck, .slice As ns cs, .slice At nt ct] 26)) from blk_new _ _).next (bel_alloc _ _)
 have HV0 : Hid (WBox q2 v w0) := by
  have := blk_new (w.alloc (.cells #[.slice Ak nk ck, .slice As ns cs, .slice At nt ct] 26)) (.cells #[.int .i64 v.cut, .int .i64 v.days, .int .i64 v.con] 49)
  rw [World.size_alloc, ← hq2, ← hw0] at this
  exact this
 by_cases h0 : E = 0
 ·
  subst h0
  obtain rfl : x2 = G := HPG.out rfl
  by_cases h1 : F = 0
  ·
   subst h1
   by_cases h2 : x2 = 0
   ·
    subst h2
    have hz : findErr P rows deb v = 0 := by rw [HFE.out]; rfl
    have hfp := findErr_parts hz
    have hdb := inN_true hfp.2.2.1
    rw [← HNK.out] at hdb
    obtain ⟨dn, hdn⟩ : ∃ i : Nat, deb = (i : Int) := ⟨deb.toNat, by omega⟩
    subst hdn
    have hdl : dn < nk := by omega
    have hn32 : nk ≤ 32 := by have := (Good.of_chk hfp.1).kl; rw [← HNK.out] at this; exact this
    have HR256 : Hid (rows.length ≤ 256) := by have := hfp.2.1; unfold hcheck at this; split at this; omega; show _ ≤ _; omega
    have HC0 := Lib.hid hfp.1
    have HWB := Lib.hid hfp.2.2.2
    have HZ := Lib.hid hz
    clear hfp hdb hz
    obtain ⟨f, hf⟩ : ∃ f, f = undOf P rows dn v := ⟨_, rfl⟩
    have HE2 : Hid (undList P rows (dn : Int) v = demands f (dn : Int) 2 nk) := by show _ = _; unfold undList; rw [HZ.out, if_pos rfl, Int.toNat_natCast, ← HNK.out, hf]
    have HFF : Hid (∀ k, f k = undOf P rows dn v k) := fun k => by rw [hf]
    clear hf
    have HPE : Hid (∀ k : Nat, k < nk → perErr P (dn : Int) (k : Int) v = 0 ∧ perF P (dn : Int) (k : Int) v = perFrom P dn k v ∧ perT P (dn : Int) (k : Int) v = v.cut) := fun k hk => by
     have e := perErr_of (cre := (k : Int)) (deb := (dn : Int)) HC0.out (inN_iff.2 ⟨by omega, by rw [← HNK.out]; omega⟩) (inN_iff.2 ⟨by omega, by rw [← HNK.out]; omega⟩) HWB.out
     exact ⟨e, by unfold perF; rw [e, if_pos rfl, Int.toNat_natCast, Int.toNat_natCast], by unfold perT; rw [e, if_pos rfl]⟩
    go_enter Tryz.func33, Tryz.ntmps33
    go_upto_region 1 with fail
    rw [← hw0, ← hq2, ← hq]
    have HQ := Lib.hid (And.intro hq hq2)
    clear hw0 hq hq2
    obtain ⟨k0, k1, k2⟩ := HX0.out.cells
    obtain ⟨v0, v1, v2⟩ := HV0.out.cells
    go_wp2_with fail
    clear k0 k1 k2 v0 v1 v2
    refine (HCK.out _ HB0.out).mono ?_
    rintro e w1 ⟨rfl, hb⟩
    have HXw1 := Lib.hid (HX0.out.next hb)
    have HVw1 := Lib.hid (HV0.out.next hb)
    have HBw1 : Hid (Below w.heap.size w w1) := HB0.out.trans (hb.mono HB0.out.size)
    clear hb HX0 HB0 HV0
    obtain ⟨k0, k1, k2⟩ := HXw1.out.cells
    obtain ⟨v0, v1, v2⟩ := HVw1.out.cells
    go_wp2_with fail
    clear k0 k1 k2 v0 v1 v2
    refine (HHK.out _ HBw1.out).mono ?_
    rintro e w2 ⟨rfl, hb⟩
    have HXw2 := Lib.hid (HXw1.out.next hb)
    have HVw2 := Lib.hid (HVw1.out.next hb)
    have HBw2 : Hid (Below w.heap.size w w2) := HBw1.out.trans (hb.mono HBw1.out.size)
    clear hb HXw1 HBw1 HVw1
    obtain ⟨k0, k1, k2⟩ := HXw2.out.cells
    obtain ⟨v0, v1, v2⟩ := HVw2.out.cells
    go_wp2_with fail
    clear k0 k1 k2 v0 v1 v2
    refine (HWN.out _ HBw2.out).mono ?_
    rintro e w3 ⟨rfl, hb⟩
    have HXw3 := Lib.hid (HXw2.out.next hb)
    have HVw3 := Lib.hid (HVw2.out.next hb)
    have HBw3 : Hid (Below w.heap.size w w3) := HBw2.out.trans (hb.mono HBw2.out.size)
    clear hb HXw2 HBw2 HVw2
    obtain ⟨k0, k1, k2⟩ := HXw3.out.cells
    obtain ⟨v0, v1, v2⟩ := HVw3.out.cells
    go_wp2_with fail
    clear k0 k1 k2 v0 v1 v2
    have HX3 : Hid (q < w3.heap.size ∧ q2 < w3.heap.size) := ⟨(Array.getElem?_eq_some_iff.1 HXw3.out).1, (Array.getElem?_eq_some_iff.1 HVw3.out).1⟩
    go_loopw [15, 51] (fun o i wr => ∃ (k mo co : Nat) (Ao : Option Addr), k ≤ nk ∧ i = .int .i64 (k : Int) ∧ o = .slice Ao mo co ∧ Hid (mo = (demands f (dn : Int) 2 k).length ∧ wr.ownsRow w3.heap.size 101 4 (.slice Ao mo co) mo ((demands f (dn : Int) 2 k).flatMap demV)) ∧ Hid (PBox q Ak nk ck As ns cs At nt ct wr) ∧ Hid (WBox q2 v wr) ∧ Hid (Below w3.heap.size w3 wr)) (fun _ i _ => nk - (intOf i).toNat)
    case atStart => exact ⟨0, 0, 0, none, Nat.zero_le _, rfl, rfl, ⟨rfl, World.ownsRow_nil _ _ _ _⟩, HXw3, HVw3, Below.refl _ _⟩
    case round =>
     clear HXw3 HVw3
     obtain ⟨k, mo, co, Ao, hk, rfl, rfl, HO, HXwo, HVwo, HYwo⟩ := hrel
     rename World => wo
     have HBwo : Hid (Below w.heap.size w wo) := HBw3.out.trans (HYwo.out.mono HBw3.out.size)
     by_cases hkl : k < nk
     ·
      by_cases hkd : k = dn
      ·
       have hkb : ((k : Int) == (dn : Int)) = true := beq_iff_eq.2 (by omega)
       have HNX : Hid (demands f (dn : Int) 2 (k + 1) = demands f (dn : Int) 2 k) := by show _ = _; rw [demands_succ, if_neg (by rw [HFF.out, hkd, undOf_self]; decide)]
       clear hkd
       go_wp2_with fail
       go_roundw
       case measure => simp [intOf] <;> omega
       case rel => exact ⟨k + 1, _, _, _, by omega, by go_num, rfl, by rw [HNX.out]; exact HO, HXwo, HVwo, HYwo⟩
      ·
       have hkb : ((k : Int) == (dn : Int)) = false := beq_eq_false_iff_ne.2 (by omega)
       have HKD := Lib.hid hkd
       clear hkd
       have hkl2 : (k : Int) < (nk : Int) := by omega
       obtain ⟨pe, pf, pt⟩ := HPE.out k hkl
       have HPR' := fun (W : World) (hW : Below w.heap.size w W) => pPeriod_calls Ak nk ck As ns cs At nt ct P m (dn : Int) (k : Int) v W (HP.out.next hW) HPB.out
       rw [pe, pf, pt] at HPR'
       obtain ⟨fr, hfr⟩ : ∃ y, y = perFrom P dn k v := ⟨_, rfl⟩
       obtain ⟨cut, hcut⟩ : ∃ y, y = v.cut := ⟨_, rfl⟩
       rw [← hfr, ← hcut] at HPR'
       have HPR := Lib.hid HPR'
       have HFC := Lib.hid (And.intro hfr hcut)
       clear HPR' pe pf pt hfr hcut
       obtain ⟨k0, k1, k2⟩ := HXwo.out.cells
       obtain ⟨v0, v1, v2⟩ := HVwo.out.cells
       go_wp2_with fail
       clear k0 k1 k2 v0 v1 v2
       refine (HPR.out _ HBwo.out).mono ?_
       rintro e w4 ⟨rfl, hb⟩
       have HX4 := Lib.hid (HXwo.out.next hb)
       have HV4 := Lib.hid (HVwo.out.next hb)
       have HY4 : Hid (Below w3.heap.size w3 w4) := HYwo.out.trans (hb.mono HYwo.out.size)
       have HB4 : Hid (Below w.heap.size w w4) := HBwo.out.trans (hb.mono HBwo.out.size)
       have HO4 : Hid (mo = (demands f (dn : Int) 2 k).length ∧ w4.ownsRow w3.heap.size 101 4 (.slice Ao mo co) mo ((demands f (dn : Int) 2 k).flatMap demV)) := ⟨HO.out.1, own_below HO.out.2 hb⟩
       clear hb HXwo HVwo HYwo HBwo HO HPR
       go_wp2_with fail
       go_loopw [20, 68] (fun s i wr => ∃ (j : Nat) (x : Int), j ≤ rows.length ∧ i = .int .i64 (j : Int) ∧ s = .int .i64 x ∧ Hid (x = (rows.take j).foldl (undStep (dn : Int) (k : Int) fr cut) 0) ∧ Hid (Below w4.heap.size w4 wr)) (fun _ i _ => rows.length - (intOf i).toNat)
       case atStart => exact ⟨0, 0, Nat.zero_le _, rfl, rfl, rfl, Below.refl _ _⟩
       case round =>
        obtain ⟨j, x, hj, rfl, rfl, HS, HZi⟩ := hrel
        rename World => wi
        have HBi : Hid (Below w.heap.size w wi) := HB4.out.trans (HZi.out.mono HB4.out.size)
        by_cases hjl : j < rows.length
        ·
         have hjl2 : (j : Int) < (rows.length : Int) := by omega
         obtain ⟨r, hrj⟩ := getElem?_of_lt hjl
         have hdf := HRO.out r (List.mem_of_getElem? hrj)
         obtain ⟨b, off, hA, _, c0, c1, c2, c3, c4, c5⟩ := (HR.out.next HBi.out).at_ hrj
         subst hA
         have HNS : Hid ((rows.take (j + 1)).foldl (undStep (dn : Int) (k : Int) fr cut) 0 = (undStep (dn : Int) (k : Int) fr cut) x r) := by show _ = _; rw [HS.out]; exact take_foldl _ _ _ _ _ hrj
         clear hrj HS
         obtain ⟨wa, hwa⟩ : ∃ W, W = wi.alloc (.cells #[.int .i64 r.day, .int .i64 r.kind, .int .i64 r.frm, .int .i64 r.to, .int .i64 r.amount, .int .i64 r.worth] 94) := ⟨_, rfl⟩
         have hsa : (wi.alloc (.cells #[.int .i64 r.day, .int .i64 r.kind, .int .i64 r.frm, .int .i64 r.to, .int .i64 r.amount, .int .i64 r.worth] 94)).heap[wi.heap.size]? = some (.cells #[.int .i64 r.day, .int .i64 r.kind, .int .i64 r.frm, .int .i64 r.to, .int .i64 r.amount, .int .i64 r.worth] 94 (0, 0)) := blk_new _ _
         have s0 : (wi.alloc (.cells #[.int .i64 r.day, .int .i64 r.kind, .int .i64 r.frm, .int .i64 r.to, .int .i64 r.amount, .int .i64 r.worth] 94)).cell? ⟨wi.heap.size, 0, none⟩ = some (.int .i64 r.day) := by rw [cell_of_row _ wi.heap.size 0 _ _ (0, 0) hsa]; rfl
         have s1 : (wi.alloc (.cells #[.int .i64 r.day, .int .i64 r.kind, .int .i64 r.frm, .int .i64 r.to, .int .i64 r.amount, .int .i64 r.worth] 94)).cell? ⟨wi.heap.size, 1, none⟩ = some (.int .i64 r.kind) := by rw [cell_of_row _ wi.heap.size 1 _ _ (0, 0) hsa]; rfl
         have s2 : (wi.alloc (.cells #[.int .i64 r.day, .int .i64 r.kind, .int .i64 r.frm, .int .i64 r.to, .int .i64 r.amount, .int .i64 r.worth] 94)).cell? ⟨wi.heap.size, 2, none⟩ = some (.int .i64 r.frm) := by rw [cell_of_row _ wi.heap.size 2 _ _ (0, 0) hsa]; rfl
         have s3 : (wi.alloc (.cells #[.int .i64 r.day, .int .i64 r.kind, .int .i64 r.frm, .int .i64 r.to, .int .i64 r.amount, .int .i64 r.worth] 94)).cell? ⟨wi.heap.size, 3, none⟩ = some (.int .i64 r.to) := by rw [cell_of_row _ wi.heap.size 3 _ _ (0, 0) hsa]; rfl
         have s4 : (wi.alloc (.cells #[.int .i64 r.day, .int .i64 r.kind, .int .i64 r.frm, .int .i64 r.to, .int .i64 r.amount, .int .i64 r.worth] 94)).cell? ⟨wi.heap.size, 4, none⟩ = some (.int .i64 r.amount) := by rw [cell_of_row _ wi.heap.size 4 _ _ (0, 0) hsa]; rfl
         have s5 : (wi.alloc (.cells #[.int .i64 r.day, .int .i64 r.kind, .int .i64 r.frm, .int .i64 r.to, .int .i64 r.amount, .int .i64 r.worth] 94)).cell? ⟨wi.heap.size, 5, none⟩ = some (.int .i64 r.worth) := by rw [cell_of_row _ wi.heap.size 5 _ _ (0, 0) hsa]; rfl
         clear hsa
         have HZa : Hid (Below w4.heap.size w4 wa) := by rw [hwa]; exact HZi.out.alloc HZi.out.size _
         have HDC := Lib.hid (fun W => deficit_calls r W hdf.1.1 hdf.1.2 hdf.2.1 hdf.2.2)
         have HWA := Lib.hid hwa
         clear hwa hdf HZi HBi
         by_cases g0 : r.frm = (dn : Int)
         ·
          have d0 : (r.frm == (dn : Int)) = true := beq_iff_eq.2 g0
          by_cases g1 : r.to = (k : Int)
          ·
           have d1 : (r.to == (k : Int)) = true := beq_iff_eq.2 g1
           by_cases g2 : fr ≤ r.day
           ·
            have d2 : decide (fr ≤ r.day) = true := decide_eq_true g2
            by_cases g3 : r.day ≤ cut
            ·
             have d3 : decide (r.day ≤ cut) = true := decide_eq_true g3
             have HCY := Lib.hid (And.intro g0 (And.intro g1 (And.intro g2 g3)))
             clear g0 g1 g2 g3
             go_wp2_with fail
             rw [← HWA.out]
             clear s0 s1 s2 s3 s4 s5 HWA
             clear c0 c1 c2 c3 c4 c5
             refine (HDC.out _).mono ?_
             rintro e w5 ⟨rfl, hb⟩
             have HZ5 : Hid (Below w4.heap.size w4 w5) := HZa.out.trans (hb.mono HZa.out.size)
             clear hb HZa
             have HNT : Hid ((rows.take (j + 1)).foldl (undStep (dn : Int) (k : Int) fr cut) 0 = wrap64 (x + deficitOf r)) := by show _ = _; rw [HNS.out]; rw [undStep_def, if_pos HCY.out]
             obtain ⟨df, hdf⟩ : ∃ y, y = deficitOf r := ⟨_, rfl⟩
             rw [← hdf] at HNT ⊢
             clear hdf HNS
             go_wp2_with fail
             go_roundw
             case measure => simp [intOf] <;> omega
             case rel => exact ⟨j + 1, _, by omega, by go_num, rfl, HNT.out.symm, HZ5⟩
            ·
             have d3 : decide (r.day ≤ cut) = false := decide_eq_false g3
             have HCN : Hid (¬ (r.frm = (dn : Int) ∧ r.to = (k : Int) ∧ fr ≤ r.day ∧ r.day ≤ cut)) := fun h => g3 h.2.2.2
             clear g0 g1 g2 g3
             go_wp2_with fail
             rw [← HWA.out]
             go_roundw
             case measure => simp [intOf] <;> omega
             case rel => exact ⟨j + 1, x, by omega, by go_num, rfl, by show _ = _; rw [HNS.out]; rw [undStep_def, if_neg (by have := HCN.out; omega)], HZa⟩
           ·
            have d2 : decide (fr ≤ r.day) = false := decide_eq_false g2
            have HCN : Hid (¬ (r.frm = (dn : Int) ∧ r.to = (k : Int) ∧ fr ≤ r.day ∧ r.day ≤ cut)) := fun h => g2 h.2.2.1
            clear g0 g1 g2
            go_wp2_with fail
            rw [← HWA.out]
            go_roundw
            case measure => simp [intOf] <;> omega
            case rel => exact ⟨j + 1, x, by omega, by go_num, rfl, by show _ = _; rw [HNS.out]; rw [undStep_def, if_neg (by have := HCN.out; omega)], HZa⟩
          ·
           have d1 : (r.to == (k : Int)) = false := beq_eq_false_iff_ne.2 g1
           have HCN : Hid (¬ (r.frm = (dn : Int) ∧ r.to = (k : Int) ∧ fr ≤ r.day ∧ r.day ≤ cut)) := fun h => g1 h.2.1
           clear g0 g1
           go_wp2_with fail
           rw [← HWA.out]
           go_roundw
           case measure => simp [intOf] <;> omega
           case rel => exact ⟨j + 1, x, by omega, by go_num, rfl, by show _ = _; rw [HNS.out]; rw [undStep_def, if_neg (by have := HCN.out; omega)], HZa⟩
         ·
          have d0 : (r.frm == (dn : Int)) = false := beq_eq_false_iff_ne.2 g0
          have HCN : Hid (¬ (r.frm = (dn : Int) ∧ r.to = (k : Int) ∧ fr ≤ r.day ∧ r.day ≤ cut)) := fun h => g0 h.1
          clear g0
          go_wp2_with fail
          rw [← HWA.out]
          go_roundw
          case measure => simp [intOf] <;> omega
          case rel => exact ⟨j + 1, x, by omega, by go_num, rfl, by show _ = _; rw [HNS.out]; rw [undStep_def, if_neg (by have := HCN.out; omega)], HZa⟩
        ·
         have hjn : ¬ (j : Int) < (rows.length : Int) := by omega
         have HXK : Hid (x = f k) := by
          show _ = _
          have h1 := HS.out
          rw [List.take_of_length_le (by omega)] at h1
          rw [h1, HFF.out, undOf, ← HFC.out.1, ← HFC.out.2]
          rw [if_neg HKD.out]
         clear HS
         have HX5 := Lib.hid (HX4.out.next HZi.out)
         have HV5 := Lib.hid (HV4.out.next HZi.out)
         have HY5 : Hid (Below w3.heap.size w3 wi) := HY4.out.trans (HZi.out.mono HY4.out.size)
         have HO5 : Hid (mo = (demands f (dn : Int) 2 k).length ∧ wi.ownsRow w3.heap.size 101 4 (.slice Ao mo co) mo ((demands f (dn : Int) 2 k).flatMap demV)) := ⟨HO4.out.1, own_below HO4.out.2 HZi.out⟩
         clear HX4 HV4 HY4 HO4 HZi HB4 HBi
         by_cases hx0 : 0 < x
         ·
          have t0 : decide (0 < x) = true := decide_eq_true hx0
          have HNX : Hid (demands f (dn : Int) 2 (k + 1) = demands f (dn : Int) 2 k ++ [⟨(dn : Int), (k : Int), 2, x⟩]) := by show _ = _; rw [demands_succ, ← HXK.out, if_pos hx0]
          have hml : mo ≤ 32 := by rw [HO5.out.1]; have := demands_len f (dn : Int) 2 k; omega
          clear hx0
          have HOa := Lib.hid (own_below HO5.out.2 (bel_alloc wi (.cells #[.int .i64 (dn : Int), .int .i64 (k : Int), .int .i64 2, .int .i64 x] 101)))
          have HYa := Lib.hid (HY5.out.alloc HY5.out.size (.cells #[.int .i64 (dn : Int), .int .i64 (k : Int), .int .i64 2, .int .i64 x] 101))
          have hsz := HYa.out.size
          have HXa := Lib.hid (HX5.out.next (bel_alloc wi (.cells #[.int .i64 (dn : Int), .int .i64 (k : Int), .int .i64 2, .int .i64 x] 101)))
          have HVa := Lib.hid (HV5.out.next (bel_alloc wi (.cells #[.int .i64 (dn : Int), .int .i64 (k : Int), .int .i64 2, .int .i64 x] 101)))
          go_wp2_with (at_builtin; refine wpList_append_own _ rfl (.tmp 101) (.tmp 106) 60 rfl w3.heap.size 101 i1 _ 4 32 Tryz.underlying60 HII.out.1 HII.out.2.1 HII.out.2.2.1 HII.out.2.2.2 rfl (by decide) _ mo ((demands f (dn : Int) 2 k).flatMap demV) rfl HOa.out _ 1 1 [.int .i64 (dn : Int), .int .i64 (k : Int), .int .i64 2, .int .i64 x] rfl rfl (rd_new_cells _ _ _ _ (by simp)) (by simp [Value.oneCell']) (by simp only [maxLen]; omega) (by omega) hsz ?_)
          intro v' w' hown hgr hnil
          obtain ⟨g', cap, rfl, _, _⟩ := hown.form (by omega)
          obtain ⟨wt, hwt⟩ : ∃ W, W = wi.alloc (.cells #[.int .i64 (dn : Int), .int .i64 (k : Int), .int .i64 2, .int .i64 x] 101) := ⟨_, rfl⟩
          rw [← hwt] at HOa HYa HXa HVa hgr
          clear hwt
          have HXYZ : Hid (PBox q Ak nk ck As ns cs At nt ct w' ∧ WBox q2 v w' ∧ Below w3.heap.size w3 w') := ⟨blk_grownB HOa.out HXa.out HX3.out.1 hgr, blk_grownB HOa.out HVa.out HX3.out.2 hgr, Below.grown HYa.out hgr HYa.out.size (fun q hq => (HOa.out.lt q hq).1)⟩
          have HO' : Hid (mo + 1 = (demands f (dn : Int) 2 (k + 1)).length ∧ w'.ownsRow w3.heap.size 101 4 (.slice (some ⟨g', 0, none⟩) (mo + 1) cap) (mo + 1) ((demands f (dn : Int) 2 (k + 1)).flatMap demV)) := by
           show _ ∧ _
           rw [HNX.out, List.length_append, ← HO5.out.1, List.flatMap_append]
           exact ⟨rfl, hown⟩
          clear hown hgr hnil HOa HYa HXa HVa HO5 HX5 HV5 HY5
          go_wp2_with fail
          go_roundw
          case measure => simp [intOf] <;> omega
          case rel => exact ⟨k + 1, _, _, _, by omega, by go_num, rfl, HO', HXYZ.out.1, HXYZ.out.2.1, HXYZ.out.2.2⟩
         ·
          have t0 : decide (0 < x) = false := decide_eq_false hx0
          have HNX : Hid (demands f (dn : Int) 2 (k + 1) = demands f (dn : Int) 2 k) := by show _ = _; rw [demands_succ, ← HXK.out, if_neg hx0]
          clear hx0
          go_wp2_with fail
          go_roundw
          case measure => simp [intOf] <;> omega
          case rel => exact ⟨k + 1, _, _, _, by omega, by go_num, rfl, by rw [HNX.out]; exact HO5, HX5, HV5, HY5⟩
     ·
      have hkl2 : ¬ (k : Int) < (nk : Int) := by omega
      obtain rfl : k = nk := by omega
      go_wp2_with fail
      go_ret2
      rw [HZ.out, HE2.out]
      refine ⟨Ao, co, by rw [← HO.out.1]; rfl, ?_, HBwo.out⟩
      have := Rd.of_own HO.out.2
      rw [HO.out.1] at this
      exact this
   ·
    have hG0 : (x2 != 0) = true := bne_iff_ne.2 h2
    have N0 := Lib.hid h2
    clear h2
    go_enter Tryz.func33, Tryz.ntmps33
    go_upto_region 1 with fail
    rw [← hw0, ← hq2, ← hq]
    have HQ := Lib.hid (And.intro hq hq2)
    clear hw0 hq hq2
    obtain ⟨k0, k1, k2⟩ := HX0.out.cells
    obtain ⟨v0, v1, v2⟩ := HV0.out.cells
    go_wp2_with fail
    clear k0 k1 k2 v0 v1 v2
    refine (HCK.out _ HB0.out).mono ?_
    rintro e w1 ⟨rfl, hb⟩
    have HXw1 := Lib.hid (HX0.out.next hb)
    have HVw1 := Lib.hid (HV0.out.next hb)
    have HBw1 : Hid (Below w.heap.size w w1) := HB0.out.trans (hb.mono HB0.out.size)
    clear hb HX0 HB0 HV0
    obtain ⟨k0, k1, k2⟩ := HXw1.out.cells
    obtain ⟨v0, v1, v2⟩ := HVw1.out.cells
    go_wp2_with fail
    clear k0 k1 k2 v0 v1 v2
    refine (HHK.out _ HBw1.out).mono ?_
    rintro e w2 ⟨rfl, hb⟩
    have HXw2 := Lib.hid (HXw1.out.next hb)
    have HVw2 := Lib.hid (HVw1.out.next hb)
    have HBw2 : Hid (Below w.heap.size w w2) := HBw1.out.trans (hb.mono HBw1.out.size)
    clear hb HXw1 HBw1 HVw1
    obtain ⟨k0, k1, k2⟩ := HXw2.out.cells
    obtain ⟨v0, v1, v2⟩ := HVw2.out.cells
    go_wp2_with fail
    clear k0 k1 k2 v0 v1 v2
    refine (HWN.out _ HBw2.out).mono ?_
    rintro e w3 ⟨rfl, hb⟩
    have HXw3 := Lib.hid (HXw2.out.next hb)
    have HVw3 := Lib.hid (HVw2.out.next hb)
    have HBw3 : Hid (Below w.heap.size w w3) := HBw2.out.trans (hb.mono HBw2.out.size)
    clear hb HXw2 HBw2 HVw2
    go_wp2_with fail
    go_ret2
    have e1 : findErr P rows deb v = x2 := by rw [HFE.out, if_neg (by decide), if_neg (by decide)]
    have e2 : undList P rows deb v = [] := by unfold undList; rw [e1]; exact if_neg N0.out
    rw [e1, e2]
    exact ⟨none, 0, rfl, Rd.nil, HBw3.out⟩
  ·
   have hF0 : (F != 0) = true := bne_iff_ne.2 h1
   have N0 := Lib.hid h1
   clear h1
   go_enter Tryz.func33, Tryz.ntmps33
   go_upto_region 1 with fail
   rw [← hw0, ← hq2, ← hq]
   have HQ := Lib.hid (And.intro hq hq2)
   clear hw0 hq hq2
   obtain ⟨k0, k1, k2⟩ := HX0.out.cells
   obtain ⟨v0, v1, v2⟩ := HV0.out.cells
   go_wp2_with fail
   clear k0 k1 k2 v0 v1 v2
   refine (HCK.out _ HB0.out).mono ?_
   rintro e w1 ⟨rfl, hb⟩
   have HXw1 := Lib.hid (HX0.out.next hb)
   have HVw1 := Lib.hid (HV0.out.next hb)
   have HBw1 : Hid (Below w.heap.size w w1) := HB0.out.trans (hb.mono HB0.out.size)
   clear hb HX0 HB0 HV0
   obtain ⟨k0, k1, k2⟩ := HXw1.out.cells
   obtain ⟨v0, v1, v2⟩ := HVw1.out.cells
   go_wp2_with fail
   clear k0 k1 k2 v0 v1 v2
   refine (HHK.out _ HBw1.out).mono ?_
   rintro e w2 ⟨rfl, hb⟩
   have HXw2 := Lib.hid (HXw1.out.next hb)
   have HVw2 := Lib.hid (HVw1.out.next hb)
   have HBw2 : Hid (Below w.heap.size w w2) := HBw1.out.trans (hb.mono HBw1.out.size)
   clear hb HXw1 HBw1 HVw1
   go_wp2_with fail
   go_ret2
   have e1 : findErr P rows deb v = F := by rw [HFE.out, if_neg (by decide), if_pos N0.out]
   have e2 : undList P rows deb v = [] := by unfold undList; rw [e1]; exact if_neg N0.out
   rw [e1, e2]
   exact ⟨none, 0, rfl, Rd.nil, HBw2.out⟩
 ·
  have hE0 : (E != 0) = true := bne_iff_ne.2 h0
  have N0 := Lib.hid h0
  clear h0
  go_enter Tryz.func33, Tryz.ntmps33
  go_upto_region 1 with fail
  rw [← hw0, ← hq2, ← hq]
  have HQ := Lib.hid (And.intro hq hq2)
  clear hw0 hq hq2
  obtain ⟨k0, k1, k2⟩ := HX0.out.cells
  obtain ⟨v0, v1, v2⟩ := HV0.out.cells
  go_wp2_with fail
  clear k0 k1 k2 v0 v1 v2
  refine (HCK.out _ HB0.out).mono ?_
  rintro e w1 ⟨rfl, hb⟩
  have HXw1 := Lib.hid (HX0.out.next hb)
  have HVw1 := Lib.hid (HV0.out.next hb)
  have HBw1 : Hid (Below w.heap.size w w1) := HB0.out.trans (hb.mono HB0.out.size)
  clear hb HX0 HB0 HV0
  go_wp2_with fail
  go_ret2
  have e1 : findErr P rows deb v = E := by rw [HFE.out, if_pos N0.out]
  have e2 : undList P rows deb v = [] := by unfold undList; rw [e1]; exact if_neg N0.out
  rw [e1, e2]
  exact ⟨none, 0, rfl, Rd.nil, HBw1.out⟩

end Go.Proofs.YtomfcmlomfcghaaGreatDoor

/- insolvencyref25.Undervalues. -/
set_option linter.unusedVariables false
set_option linter.unusedSimpArgs false
namespace Go.Proofs.YtomfcmlomfcghaaGreatDoor
open Go.RowKit

set_option maxHeartbeats 8000000 in
set_option maxRecDepth 100000 in
theorem rUnd_calls (Ak : Option Addr) (nk ck : Nat) (As : Option Addr) (ns cs : Nat) (At : Option Addr) (nt ct : Nat) (P : Prt) (m : Nat) (Ar : Option Addr) (cr : Nat) (rows : List Row) (deb : Int) (v : Win) (w : World) (hp : PRd Ak nk As ns At nt P w) (hb : PB m P) (hr : RowsRd w w.heap.size Ar rows) (hro : ∀ r ∈ rows, i64b r.amount ∧ i64b r.worth) (hn : rows.length ≤ maxLen) :
    Calls Tryz.prog 34 #[ptyVal Ak nk ck As ns cs At nt ct, .slice Ar rows.length cr, .int .i64 deb, winV v] w (DemPost (undList P rows deb v) (findErr P rows deb v) w) := by
  have HN := Lib.hid hn
  have HRO := Lib.hid hro
  unfold maxLen at hn
  have HP := Lib.hid hp
  have HPB := Lib.hid hb
  have HR := Lib.hid hr
  have HNK := Lib.hid hp.nk
  have gk : nk ≤ maxLen := by rw [hp.nk]; exact hb.kl
  have GK := Lib.hid gk
  unfold maxLen at gk
  clear hp hb hr hro
  obtain ⟨i1, hi, hz0, hz1, hz2⟩ := info_parts Tryz.info_dem
  have HII := Lib.hid (And.intro hi (And.intro hz0 (And.intro hz1 hz2)))
  clear hi hz0 hz1 hz2
  obtain ⟨E, hE⟩ : ∃ E, E = findErr P rows deb v := ⟨_, rfl⟩
  have HCK' := fun (W : World) (hW : Below w.heap.size w W) => rCheckFind_calls Ak nk ck As ns cs At nt ct P m Ar cr rows deb v W (HP.out.next hW) HPB.out (HR.out.next hW) HN.out
  rw [← hE] at HCK'
  have HCK := Lib.hid HCK'
  have HE := Lib.hid hE
  clear hE HCK'
  obtain ⟨q, hq⟩ : ∃ q, q = w.heap.size := ⟨_, rfl⟩
  obtain ⟨q2, hq2⟩ : ∃ q, q = w.heap.size + 1 := ⟨_, rfl⟩
  obtain ⟨w0, hw0⟩ : ∃ W, W = (w.alloc (.cells #[.slice Ak nk ck, .slice As ns cs, .slice At nt ct] 26)).alloc (.cells #[.int .i64 v.cut, .int .i64 v.days, .int .i64 v.con] 49) := ⟨_, rfl⟩
  have HB0 : Hid (Below w.heap.size w w0) := by rw [hw0]; exact (bel_alloc _ _).alloc (by simp) _
  have HX0 : Hid (PBox q Ak nk ck As ns cs At nt ct w0) := by rw [hw0, hq]; exact (show PBox w.heap.size Ak nk ck As ns cs At nt ct (w.alloc (.cells #[.slice Ak nk ck, .slice As ns cs, .slice At nt ct] 26)) from blk_new _ _).next (bel_alloc _ _)
  have HV0 : Hid (WBox q2 v w0) := by
    have := blk_new (w.alloc (.cells #[.slice Ak nk ck, .slice As ns cs, .slice At nt ct] 26)) (.cells #[.int .i64 v.cut, .int .i64 v.days, .int .i64 v.con] 49)
    rw [World.size_alloc, ← hq2, ← hw0] at this
    exact this
  by_cases h0 : E = 0
  · subst h0
    have hz := HE.out.symm
    have hfp := findErr_parts hz
    have hdb := inN_true hfp.2.2.1
    rw [← HNK.out] at hdb
    obtain ⟨dn, hdn⟩ : ∃ i : Nat, deb = (i : Int) := ⟨deb.toNat, by omega⟩
    subst hdn
    have hdl : dn < nk := by omega
    have hn32 : nk ≤ 32 := by have := (Good.of_chk hfp.1).kl; rw [← HNK.out] at this; exact this
    have HR256 : Hid (rows.length ≤ 256) := by have := hfp.2.1; unfold hcheck at this; split at this; omega; show _ ≤ _; omega
    have HC0 := Lib.hid hfp.1
    have HWB := Lib.hid hfp.2.2.2
    have HZ := Lib.hid hz
    clear hfp hdb hz
    obtain ⟨f, hf⟩ : ∃ f, f = undOf P rows dn v := ⟨_, rfl⟩
    have HE2 : Hid (undList P rows (dn : Int) v = demands f (dn : Int) 2 nk) := by show _ = _; unfold undList; rw [HZ.out, if_pos rfl, Int.toNat_natCast, ← HNK.out, hf]
    have HFF : Hid (∀ k, f k = undOf P rows dn v k) := fun k => by rw [hf]
    clear hf
    have HPE : Hid (∀ k : Nat, k < nk → perErr P (dn : Int) (k : Int) v = 0 ∧ perF P (dn : Int) (k : Int) v = perFrom P dn k v ∧ perT P (dn : Int) (k : Int) v = v.cut) := fun k hk => by
      have e := perErr_of (cre := (k : Int)) (deb := (dn : Int)) HC0.out (inN_iff.2 ⟨by omega, by rw [← HNK.out]; omega⟩) (inN_iff.2 ⟨by omega, by rw [← HNK.out]; omega⟩) HWB.out
      exact ⟨e, by unfold perF; rw [e, if_pos rfl, Int.toNat_natCast, Int.toNat_natCast], by unfold perT; rw [e, if_pos rfl]⟩
    go_enter Tryz.func34, Tryz.ntmps34
    go_upto_region 1 with fail
    rw [← hw0, ← hq2, ← hq]
    have HQ := Lib.hid (And.intro hq hq2)
    clear hw0 hq hq2
    obtain ⟨k0, k1, k2⟩ := HX0.out.cells
    obtain ⟨v0, v1, v2⟩ := HV0.out.cells
    go_wp2_with fail
    clear k0 k1 k2 v0 v1 v2
    refine (HCK.out _ HB0.out).mono ?_
    rintro e w1 ⟨rfl, hb⟩
    have HXw1 := Lib.hid (HX0.out.next hb)
    have HVw1 := Lib.hid (HV0.out.next hb)
    have HBw1 : Hid (Below w.heap.size w w1) := HB0.out.trans (hb.mono HB0.out.size)
    clear hb HX0 HB0 HV0
    obtain ⟨k0, k1, k2⟩ := HXw1.out.cells
    obtain ⟨v0, v1, v2⟩ := HVw1.out.cells
    go_wp2_with fail
    clear k0 k1 k2 v0 v1 v2
    have HX3 : Hid (q < w1.heap.size ∧ q2 < w1.heap.size) := ⟨(Array.getElem?_eq_some_iff.1 HXw1.out).1, (Array.getElem?_eq_some_iff.1 HVw1.out).1⟩
    go_loopw [11, 12] (fun o i wr => ∃ (k mo co : Nat) (Ao : Option Addr), k ≤ nk ∧ i = .int .i64 (k : Int) ∧ o = .slice Ao mo co ∧ Hid (mo = (demands f (dn : Int) 2 k).length ∧ wr.ownsRow w1.heap.size 101 4 (.slice Ao mo co) mo ((demands f (dn : Int) 2 k).flatMap demV)) ∧ Hid (PBox q Ak nk ck As ns cs At nt ct wr) ∧ Hid (WBox q2 v wr) ∧ Hid (Below w1.heap.size w1 wr)) (fun _ i _ => nk - (intOf i).toNat)
    case atStart => exact ⟨0, 0, 0, none, Nat.zero_le _, rfl, rfl, ⟨rfl, World.ownsRow_nil _ _ _ _⟩, HXw1, HVw1, Below.refl _ _⟩
    case round =>
      clear HXw1 HVw1
      obtain ⟨k, mo, co, Ao, hk, rfl, rfl, HO, HXwo, HVwo, HYwo⟩ := hrel
      rename World => wo
      have HBwo : Hid (Below w.heap.size w wo) := HBw1.out.trans (HYwo.out.mono HBw1.out.size)
      by_cases hkl : k < nk
      · have hkl2 : (k : Int) < (nk : Int) := by omega
        obtain ⟨pe, pf, pt⟩ := HPE.out k hkl
        have HPR' := fun (W : World) (hW : Below w.heap.size w W) => rPeriod_calls Ak nk ck As ns cs At nt ct P m (dn : Int) (k : Int) v W (HP.out.next hW) HPB.out
        rw [pe, pf, pt] at HPR'
        obtain ⟨fr, hfr⟩ : ∃ y, y = perFrom P dn k v := ⟨_, rfl⟩
        obtain ⟨cut, hcut⟩ : ∃ y, y = v.cut := ⟨_, rfl⟩
        rw [← hfr, ← hcut] at HPR'
        have HPR := Lib.hid HPR'
        have HFC := Lib.hid (And.intro hfr hcut)
        clear HPR' pe pf pt hfr hcut
        obtain ⟨k0, k1, k2⟩ := HXwo.out.cells
        obtain ⟨v0, v1, v2⟩ := HVwo.out.cells
        go_wp2_with fail
        clear k0 k1 k2 v0 v1 v2
        refine (HPR.out _ HBwo.out).mono ?_
        rintro e w4 ⟨rfl, hb⟩
        have HX4 := Lib.hid (HXwo.out.next hb)
        have HV4 := Lib.hid (HVwo.out.next hb)
        have HY4 : Hid (Below w1.heap.size w1 w4) := HYwo.out.trans (hb.mono HYwo.out.size)
        have HB4 : Hid (Below w.heap.size w w4) := HBwo.out.trans (hb.mono HBwo.out.size)
        have HO4 : Hid (mo = (demands f (dn : Int) 2 k).length ∧ w4.ownsRow w1.heap.size 101 4 (.slice Ao mo co) mo ((demands f (dn : Int) 2 k).flatMap demV)) := ⟨HO.out.1, own_below HO.out.2 hb⟩
        clear hb HXwo HVwo HYwo HBwo HO HPR
        go_wp2_with fail
        go_loopw [16, 17] (fun s i wr => ∃ (j : Nat) (x : Int), j ≤ rows.length ∧ i = .int .i64 (j : Int) ∧ s = .int .i64 x ∧ Hid (x = (rows.take j).foldl (fun x r => if k = dn then x else undStep (dn : Int) (k : Int) fr cut x r) 0) ∧ Hid (Below w4.heap.size w4 wr)) (fun _ i _ => rows.length - (intOf i).toNat)
        case atStart => exact ⟨0, 0, Nat.zero_le _, rfl, rfl, rfl, Below.refl _ _⟩
        case round =>
          obtain ⟨j, x, hj, rfl, rfl, HS, HZi⟩ := hrel
          rename World => wi
          have HBi : Hid (Below w.heap.size w wi) := HB4.out.trans (HZi.out.mono HB4.out.size)
          by_cases hjl : j < rows.length
          · have hjl2 : (j : Int) < (rows.length : Int) := by omega
            obtain ⟨r, hrj⟩ := getElem?_of_lt hjl
            have hdf := HRO.out r (List.mem_of_getElem? hrj)
            obtain ⟨b, off, hA, _, c0, c1, c2, c3, c4, c5⟩ := (HR.out.next HBi.out).at_ hrj
            subst hA
            have HNS : Hid ((rows.take (j + 1)).foldl (fun x r => if k = dn then x else undStep (dn : Int) (k : Int) fr cut x r) 0 = (fun x r => if k = dn then x else undStep (dn : Int) (k : Int) fr cut x r) x r) := by show _ = _; rw [HS.out]; exact take_foldl _ _ _ _ _ hrj
            clear hrj HS
            have HDC := Lib.hid (fun W => refDeficit_calls r W hdf.1.1 hdf.1.2 hdf.2.1 hdf.2.2)
            clear hdf HBi
            by_cases hkd : k = dn
            · have hkb : ((k : Int) != (dn : Int)) = false := by rw [hkd]; simp
              have HKD := Lib.hid hkd
              clear hkd
              go_wp2_with fail
              go_roundw
              case measure => simp [intOf] <;> omega
              case rel => exact ⟨j + 1, x, by omega, by go_num, rfl, by show _ = _; rw [HNS.out]; exact (if_pos HKD.out).symm, HZi⟩
            · have hkb : ((k : Int) != (dn : Int)) = true := bne_iff_ne.2 (by omega)
              have HKD := Lib.hid hkd
              clear hkd
              by_cases g0 : r.frm = (dn : Int)
              · have d0 : (r.frm == (dn : Int)) = true := beq_iff_eq.2 g0
                by_cases g1 : r.to = (k : Int)
                · have d1 : (r.to == (k : Int)) = true := beq_iff_eq.2 g1
                  by_cases g2 : fr ≤ r.day
                  · have d2 : decide (fr ≤ r.day) = true := decide_eq_true g2
                    by_cases g3 : r.day ≤ cut
                    · have d3 : decide (r.day ≤ cut) = true := decide_eq_true g3
                      have HCY := Lib.hid (And.intro g0 (And.intro g1 (And.intro g2 g3)))
                      clear g0 g1 g2 g3
                      go_wp2_with fail
                      clear c0 c1 c2 c3 c4 c5
                      refine (HDC.out _).mono ?_
                      rintro e w5 ⟨rfl, hb⟩
                      have HZ5 : Hid (Below w4.heap.size w4 w5) := HZi.out.trans (hb.mono HZi.out.size)
                      clear hb HZi
                      have HNT : Hid ((rows.take (j + 1)).foldl (fun x r => if k = dn then x else undStep (dn : Int) (k : Int) fr cut x r) 0 = wrap64 (x + deficitOf r)) := by show _ = _; rw [HNS.out]; (try dsimp only); rw [if_neg HKD.out, undStep_def, if_pos HCY.out]
                      obtain ⟨df, hdf⟩ : ∃ y, y = deficitOf r := ⟨_, rfl⟩
                      rw [← hdf] at HNT ⊢
                      clear hdf HNS
                      go_wp2_with fail
                      go_roundw
                      case measure => simp [intOf] <;> omega
                      case rel => exact ⟨j + 1, _, by omega, by go_num, rfl, HNT.out.symm, HZ5⟩
                    · have d3 : decide (r.day ≤ cut) = false := decide_eq_false g3
                      have HCN : Hid (¬ (r.frm = (dn : Int) ∧ r.to = (k : Int) ∧ fr ≤ r.day ∧ r.day ≤ cut)) := fun h => g3 h.2.2.2
                      clear g0 g1 g2 g3
                      go_wp2_with fail
                      go_roundw
                      case measure => simp [intOf] <;> omega
                      case rel => exact ⟨j + 1, x, by omega, by go_num, rfl, by show _ = _; rw [HNS.out]; (try dsimp only); rw [if_neg HKD.out, undStep_def, if_neg (by have := HCN.out; omega)], HZi⟩
                  · have d2 : decide (fr ≤ r.day) = false := decide_eq_false g2
                    have HCN : Hid (¬ (r.frm = (dn : Int) ∧ r.to = (k : Int) ∧ fr ≤ r.day ∧ r.day ≤ cut)) := fun h => g2 h.2.2.1
                    clear g0 g1 g2
                    go_wp2_with fail
                    go_roundw
                    case measure => simp [intOf] <;> omega
                    case rel => exact ⟨j + 1, x, by omega, by go_num, rfl, by show _ = _; rw [HNS.out]; (try dsimp only); rw [if_neg HKD.out, undStep_def, if_neg (by have := HCN.out; omega)], HZi⟩
                · have d1 : (r.to == (k : Int)) = false := beq_eq_false_iff_ne.2 g1
                  have HCN : Hid (¬ (r.frm = (dn : Int) ∧ r.to = (k : Int) ∧ fr ≤ r.day ∧ r.day ≤ cut)) := fun h => g1 h.2.1
                  clear g0 g1
                  go_wp2_with fail
                  go_roundw
                  case measure => simp [intOf] <;> omega
                  case rel => exact ⟨j + 1, x, by omega, by go_num, rfl, by show _ = _; rw [HNS.out]; (try dsimp only); rw [if_neg HKD.out, undStep_def, if_neg (by have := HCN.out; omega)], HZi⟩
              · have d0 : (r.frm == (dn : Int)) = false := beq_eq_false_iff_ne.2 g0
                have HCN : Hid (¬ (r.frm = (dn : Int) ∧ r.to = (k : Int) ∧ fr ≤ r.day ∧ r.day ≤ cut)) := fun h => g0 h.1
                clear g0
                go_wp2_with fail
                go_roundw
                case measure => simp [intOf] <;> omega
                case rel => exact ⟨j + 1, x, by omega, by go_num, rfl, by show _ = _; rw [HNS.out]; (try dsimp only); rw [if_neg HKD.out, undStep_def, if_neg (by have := HCN.out; omega)], HZi⟩
          · have hjn : ¬ (j : Int) < (rows.length : Int) := by omega
            have HXK : Hid (x = f k) := by
              show _ = _
              have h1 := HS.out
              rw [List.take_of_length_le (by omega)] at h1
              rw [h1, HFF.out, undOf, ← HFC.out.1, ← HFC.out.2]
              by_cases hkd : k = dn
              · rw [if_pos hkd]
                clear h1
                have : ∀ (l : List Row) (a : Int), l.foldl (fun x r => if k = dn then x else undStep (dn : Int) (k : Int) fr cut x r) a = a := by
                  intro l
                  induction l with
                  | nil => intro a; rfl
                  | cons r l ih => intro a; rw [List.foldl_cons, if_pos hkd]; exact ih a
                exact this _ _
              · simp only [if_neg hkd]
            clear HS
            have HX5 := Lib.hid (HX4.out.next HZi.out)
            have HV5 := Lib.hid (HV4.out.next HZi.out)
            have HY5 : Hid (Below w1.heap.size w1 wi) := HY4.out.trans (HZi.out.mono HY4.out.size)
            have HO5 : Hid (mo = (demands f (dn : Int) 2 k).length ∧ wi.ownsRow w1.heap.size 101 4 (.slice Ao mo co) mo ((demands f (dn : Int) 2 k).flatMap demV)) := ⟨HO4.out.1, own_below HO4.out.2 HZi.out⟩
            clear HX4 HV4 HY4 HO4 HZi HB4 HBi
            by_cases hx0 : 0 < x
            · have t0 : decide (0 < x) = true := decide_eq_true hx0
              have HNX : Hid (demands f (dn : Int) 2 (k + 1) = demands f (dn : Int) 2 k ++ [⟨(dn : Int), (k : Int), 2, x⟩]) := by show _ = _; rw [demands_succ, ← HXK.out, if_pos hx0]
              have hml : mo ≤ 32 := by rw [HO5.out.1]; have := demands_len f (dn : Int) 2 k; omega
              clear hx0
              have HOa := Lib.hid (own_below HO5.out.2 (bel_alloc wi (.cells #[.int .i64 (dn : Int), .int .i64 (k : Int), .int .i64 2, .int .i64 x] 101)))
              have HYa := Lib.hid (HY5.out.alloc HY5.out.size (.cells #[.int .i64 (dn : Int), .int .i64 (k : Int), .int .i64 2, .int .i64 x] 101))
              have hsz := HYa.out.size
              have HXa := Lib.hid (HX5.out.next (bel_alloc wi (.cells #[.int .i64 (dn : Int), .int .i64 (k : Int), .int .i64 2, .int .i64 x] 101)))
              have HVa := Lib.hid (HV5.out.next (bel_alloc wi (.cells #[.int .i64 (dn : Int), .int .i64 (k : Int), .int .i64 2, .int .i64 x] 101)))
              go_wp2_with (at_builtin; refine wpList_append_own _ rfl (.tmp 96) (.tmp 101) 60 rfl w1.heap.size 101 i1 _ 4 32 Tryz.underlying60 HII.out.1 HII.out.2.1 HII.out.2.2.1 HII.out.2.2.2 rfl (by decide) _ mo ((demands f (dn : Int) 2 k).flatMap demV) rfl HOa.out _ 1 1 [.int .i64 (dn : Int), .int .i64 (k : Int), .int .i64 2, .int .i64 x] rfl rfl (rd_new_cells _ _ _ _ (by simp)) (by simp [Value.oneCell']) (by simp only [maxLen]; omega) (by omega) hsz ?_)
              intro v' w' hown hgr hnil
              obtain ⟨g', cap, rfl, _, _⟩ := hown.form (by omega)
              obtain ⟨wt, hwt⟩ : ∃ W, W = wi.alloc (.cells #[.int .i64 (dn : Int), .int .i64 (k : Int), .int .i64 2, .int .i64 x] 101) := ⟨_, rfl⟩
              rw [← hwt] at HOa HYa HXa HVa hgr
              clear hwt
              have HXYZ : Hid (PBox q Ak nk ck As ns cs At nt ct w' ∧ WBox q2 v w' ∧ Below w1.heap.size w1 w') := ⟨blk_grownB HOa.out HXa.out HX3.out.1 hgr, blk_grownB HOa.out HVa.out HX3.out.2 hgr, Below.grown HYa.out hgr HYa.out.size (fun q hq => (HOa.out.lt q hq).1)⟩
              have HO' : Hid (mo + 1 = (demands f (dn : Int) 2 (k + 1)).length ∧ w'.ownsRow w1.heap.size 101 4 (.slice (some ⟨g', 0, none⟩) (mo + 1) cap) (mo + 1) ((demands f (dn : Int) 2 (k + 1)).flatMap demV)) := by
                show _ ∧ _
                rw [HNX.out, List.length_append, ← HO5.out.1, List.flatMap_append]
                exact ⟨rfl, hown⟩
              clear hown hgr hnil HOa HYa HXa HVa HO5 HX5 HV5 HY5
              go_wp2_with fail
              go_roundw
              case measure => simp [intOf] <;> omega
              case rel => exact ⟨k + 1, _, _, _, by omega, by go_num, rfl, HO', HXYZ.out.1, HXYZ.out.2.1, HXYZ.out.2.2⟩
            · have t0 : decide (0 < x) = false := decide_eq_false hx0
              have HNX : Hid (demands f (dn : Int) 2 (k + 1) = demands f (dn : Int) 2 k) := by show _ = _; rw [demands_succ, ← HXK.out, if_neg hx0]
              clear hx0
              go_wp2_with fail
              go_roundw
              case measure => simp [intOf] <;> omega
              case rel => exact ⟨k + 1, _, _, _, by omega, by go_num, rfl, by rw [HNX.out]; exact HO5, HX5, HV5, HY5⟩
      · have hkl2 : ¬ (k : Int) < (nk : Int) := by omega
        obtain rfl : k = nk := by omega
        obtain ⟨k0, k1, k2⟩ := HXwo.out.cells
        obtain ⟨v0, v1, v2⟩ := HVwo.out.cells
        go_wp2_with fail
        go_ret2
        rw [HZ.out, HE2.out]
        refine ⟨Ao, co, by rw [← HO.out.1]; rfl, ?_, HBwo.out⟩
        have := Rd.of_own HO.out.2
        rw [HO.out.1] at this
        exact this
  · have hE0 : (E != 0) = true := bne_iff_ne.2 h0
    have N0 := Lib.hid h0
    clear h0
    go_enter Tryz.func34, Tryz.ntmps34
    go_upto_region 1 with fail
    rw [← hw0, ← hq2, ← hq]
    have HQ := Lib.hid (And.intro hq hq2)
    clear hw0 hq hq2
    obtain ⟨k0, k1, k2⟩ := HX0.out.cells
    obtain ⟨v0, v1, v2⟩ := HV0.out.cells
    go_wp2_with fail
    clear k0 k1 k2 v0 v1 v2
    refine (HCK.out _ HB0.out).mono ?_
    rintro e w1 ⟨rfl, hb⟩
    have HXw1 := Lib.hid (HX0.out.next hb)
    have HVw1 := Lib.hid (HV0.out.next hb)
    have HBw1 : Hid (Below w.heap.size w w1) := HB0.out.trans (hb.mono HB0.out.size)
    clear hb HX0 HB0 HV0
    go_wp2_with fail
    go_ret2
    have e1 : findErr P rows deb v = E := by exact HE.out.symm
    have e2 : undList P rows deb v = [] := by unfold undList; rw [e1]; exact if_neg N0.out
    rw [e1, e2]
    exact ⟨none, 0, rfl, Rd.nil, HBw1.out⟩

end Go.Proofs.YtomfcmlomfcghaaGreatDoor

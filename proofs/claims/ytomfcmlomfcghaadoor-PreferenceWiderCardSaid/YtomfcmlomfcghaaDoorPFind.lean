/- preference.Find. -/
import Derived.Test.YtomfcmlomfcghaaDoorPPer
import Derived.Test.YtomfcmlomfcghaaDoorPHist
import Derived.Test.YtomfcmlomfcghaaDoorExpo
import Derived.Test.YtomfcmlomfcghaaDoorPtsI
set_option linter.unusedVariables false
set_option linter.unusedSimpArgs false
namespace Go.Proofs.YtomfcmlomfcghaaDoor
open Go.RowKit

/-- demands and an error that a function returns -/
def DemPost (l : List Dem) (er : Int) (w : World) (e : Ending) (w' : World) : Prop := ∃ A c, e = .returned (.tuple #[.slice A l.length c, .int .i64 er]) ∧ Rd w' w'.heap.size 4 A l.length (l.flatMap demV) ∧ Below w.heap.size w w'
noncomputable def prefList (P : Prt) (rows : List Row) (deb : Int) (v : Win) : List Dem := if findErr P rows deb v = 0 then demands (prefOf P rows deb.toNat v) deb 1 P.kinds.length else []
theorem findErr_chk (P : Prt) (rows : List Row) (deb : Int) (v : Win) : findErr P rows deb v = if chk P ≠ 0 then chk P else if hcheck P.kinds.length rows ≠ 0 then hcheck P.kinds.length rows else winChk P.kinds.length deb v := rfl
theorem Tryd.info_dem : (Tryd.prog.info? 65).map (fun i => (i.zero, i.size, i.bytes)) = some (some (.agg #[.int .i64 0, .int .i64 0, .int .i64 0, .int .i64 0]), 4, 32) := by kernel_rfl
theorem flat_snocD {α : Type} (f : α → List Value) (l : List α) (x : α) : l.flatMap f ++ f x = (l ++ [x]).flatMap f := by simp

set_option maxHeartbeats 8000000 in
set_option maxRecDepth 100000 in
theorem pFind_calls (Ak : Option Addr) (nk ck : Nat) (As : Option Addr) (ns cs : Nat) (At : Option Addr) (nt ct : Nat) (P : Prt) (m : Nat) (Ar : Option Addr) (cr : Nat) (rows : List Row) (deb : Int) (v : Win) (w : World) (hp : PRd Ak nk As ns At nt P w) (hb : PB m P) (hr : RowsRd w w.heap.size Ar rows) (hn : rows.length ≤ maxLen) :
    Calls Tryd.prog 24 #[ptyVal Ak nk ck As ns cs At nt ct, .slice Ar rows.length cr, .int .i64 deb, winV v] w (DemPost (prefList P rows deb v) (findErr P rows deb v) w) := by
  unfold maxLen at hn
  have HP := Lib.hid hp
  have HPB := Lib.hid hb
  have HR := Lib.hid hr
  have HN := Lib.hid hn
  have HNK := Lib.hid hp.nk
  have gk : nk ≤ maxLen := by rw [hp.nk]; exact hb.kl
  have GK := Lib.hid gk
  unfold maxLen at gk
  clear hp hb hr hn
  obtain ⟨i1, hi, hz0, hz1, hz2⟩ := info_parts Tryd.info_dem
  have HII := Lib.hid (And.intro hi (And.intro hz0 (And.intro hz1 hz2)))
  clear hi hz0 hz1 hz2
  obtain ⟨E, hE⟩ : ∃ E, E = chk P := ⟨_, rfl⟩
  have HCK' := fun (W : World) (hW : Below w.heap.size w W) => check_calls Ak nk ck As ns cs At nt ct P m W (HP.out.next hW) HPB.out
  rw [← hE] at HCK'
  obtain ⟨F, hF⟩ : ∃ F, F = hcheck (nk : Int) rows := ⟨_, rfl⟩
  have HHK' := fun (W : World) (hW : Below w.heap.size w W) => hcheck_calls Ar cr rows (nk : Int) W (HR.out.next hW)
  rw [← hF] at HHK'
  obtain ⟨G, hG⟩ : ∃ G, G = winChk nk deb v := ⟨_, rfl⟩
  have HWN := Lib.hid (fun (W : World) => pWin_calls Ak nk ck As ns cs At nt ct deb v W GK.out G hG)
  have HFE : Hid (findErr P rows deb v = if E ≠ 0 then E else if F ≠ 0 then F else G) := by show _ = _; rw [findErr_chk, ← hE, ← HNK.out, ← hF, ← hG]
  have HG := Lib.hid hG
  have HE := Lib.hid hE
  have HF := Lib.hid hF
  have HCK := Lib.hid HCK'
  have HHK := Lib.hid HHK'
  clear hE HCK' hF HHK' hG
  obtain ⟨q, hq⟩ : ∃ q, q = w.heap.size := ⟨_, rfl⟩
  obtain ⟨q2, hq2⟩ : ∃ q, q = w.heap.size + 1 := ⟨_, rfl⟩
  obtain ⟨w0, hw0⟩ : ∃ W, W = (w.alloc (.cells #[.slice Ak nk ck, .slice As ns cs, .slice At nt ct] 26)).alloc (.cells #[.int .i64 v.cut, .int .i64 v.days, .int .i64 v.con] 59) := ⟨_, rfl⟩
  have HB0 : Hid (Below w.heap.size w w0) := by rw [hw0]; exact (bel_alloc _ _).alloc (by simp) _
  have HX0 : Hid (PBox q Ak nk ck As ns cs At nt ct w0) := by rw [hw0, hq]; exact (show PBox w.heap.size Ak nk ck As ns cs At nt ct (w.alloc (.cells #[.slice Ak nk ck, .slice As ns cs, .slice At nt ct] 26)) from blk_new _ _).next (bel_alloc _ _)
  have HV0 : Hid (WBox q2 v w0) := by
    have := blk_new (w.alloc (.cells #[.slice Ak nk ck, .slice As ns cs, .slice At nt ct] 26)) (.cells #[.int .i64 v.cut, .int .i64 v.days, .int .i64 v.con] 59)
    rw [World.size_alloc, ← hq2, ← hw0] at this
    exact this
  by_cases h0 : E = 0
  · subst h0
    by_cases h1 : F = 0
    · subst h1
      by_cases h2 : G = 0
      · subst h2
        have hpt := winChk_parts HG.out.symm
        have hdb := inN_true hpt.1
        obtain ⟨dn, hdn⟩ : ∃ i : Nat, deb = (i : Int) := ⟨deb.toNat, by omega⟩
        subst hdn
        have hdl : dn < nk := by omega
        have hn32 : nk ≤ 32 := by have := (Good.of_chk HE.out.symm).kl; rw [← HNK.out] at this; exact this
        have HWB := Lib.hid hpt.2
        clear hpt hdb
        obtain ⟨f, hf⟩ : ∃ f, f = prefOf P rows dn v := ⟨_, rfl⟩
        have e1 : findErr P rows (dn : Int) v = 0 := by rw [HFE.out]; rfl
        have HE1 := Lib.hid e1
        have HE2 : Hid (prefList P rows (dn : Int) v = demands f (dn : Int) 1 nk) := by show _ = _; unfold prefList; rw [e1, if_pos rfl, Int.toNat_natCast, ← HNK.out, hf]
        have HFF : Hid (∀ k, f k = prefOf P rows dn v k) := fun k => by rw [hf]
        clear e1 hf
        have HPE : Hid (∀ k : Nat, k < nk → perErr P (dn : Int) (k : Int) v = 0 ∧ perF P (dn : Int) (k : Int) v = perFrom P dn k v ∧ perT P (dn : Int) (k : Int) v = v.cut) := fun k hk => by
          have e := perErr_of (cre := (k : Int)) (deb := (dn : Int)) HE.out.symm (inN_iff.2 ⟨by omega, by rw [← HNK.out]; omega⟩) (inN_iff.2 ⟨by omega, by rw [← HNK.out]; omega⟩) HWB.out
          exact ⟨e, by unfold perF; rw [e, if_pos rfl, Int.toNat_natCast, Int.toNat_natCast], by unfold perT; rw [e, if_pos rfl]⟩
        go_enter Tryd.func24, Tryd.ntmps24
        go_upto_region 1 with fail
        rw [← hw0, ← hq2, ← hq]
        have HQ := Lib.hid (And.intro hq hq2)
        clear hw0 hq hq2
        obtain ⟨k0, k1, k2⟩ := HX0.out.cells
        obtain ⟨v0, v1, v2⟩ := HV0.out.cells
        go_wp2_with fail
        clear k0 k1 k2 v0 v1 v2
        refine (HCK.out _ HB0.out).mono ?_
        rintro e w1 ⟨rfl, hb⟩
        have HXw1 := Lib.hid (HX0.out.next hb)
        have HVw1 := Lib.hid (HV0.out.next hb)
        have HBw1 : Hid (Below w.heap.size w w1) := HB0.out.trans (hb.mono HB0.out.size)
        clear hb HX0 HB0 HV0
        obtain ⟨k0, k1, k2⟩ := HXw1.out.cells
        obtain ⟨v0, v1, v2⟩ := HVw1.out.cells
        go_wp2_with fail
        clear k0 k1 k2 v0 v1 v2
        refine (HHK.out _ HBw1.out).mono ?_
        rintro e w2 ⟨rfl, hb⟩
        have HXw2 := Lib.hid (HXw1.out.next hb)
        have HVw2 := Lib.hid (HVw1.out.next hb)
        have HBw2 : Hid (Below w.heap.size w w2) := HBw1.out.trans (hb.mono HBw1.out.size)
        clear hb HXw1 HBw1 HVw1
        obtain ⟨k0, k1, k2⟩ := HXw2.out.cells
        obtain ⟨v0, v1, v2⟩ := HVw2.out.cells
        go_wp2_with fail
        clear k0 k1 k2 v0 v1 v2
        refine (HWN.out _).mono ?_
        rintro e w3 ⟨rfl, hb⟩
        have HXw3 := Lib.hid (HXw2.out.next hb)
        have HVw3 := Lib.hid (HVw2.out.next hb)
        have HBw3 : Hid (Below w.heap.size w w3) := HBw2.out.trans (hb.mono HBw2.out.size)
        clear hb HXw2 HBw2 HVw2
        obtain ⟨k0, k1, k2⟩ := HXw3.out.cells
        obtain ⟨v0, v1, v2⟩ := HVw3.out.cells
        go_wp2_with fail
        clear k0 k1 k2 v0 v1 v2
        have HX3 : Hid (q < w3.heap.size ∧ q2 < w3.heap.size) := ⟨(Array.getElem?_eq_some_iff.1 HXw3.out).1, (Array.getElem?_eq_some_iff.1 HVw3.out).1⟩
        go_loopw [13, 42] (fun o i wr => ∃ (k mo co : Nat) (Ao : Option Addr), k ≤ nk ∧ i = .int .i64 (k : Int) ∧ o = .slice Ao mo co ∧ Hid (mo = (demands f (dn : Int) 1 k).length ∧ wr.ownsRow w3.heap.size 65 4 (.slice Ao mo co) mo ((demands f (dn : Int) 1 k).flatMap demV)) ∧ Hid (PBox q Ak nk ck As ns cs At nt ct wr) ∧ Hid (WBox q2 v wr) ∧ Hid (Below w3.heap.size w3 wr)) (fun _ i _ => nk - (intOf i).toNat)
        case atStart => exact ⟨0, 0, 0, none, Nat.zero_le _, rfl, rfl, ⟨rfl, World.ownsRow_nil _ _ _ _⟩, HXw3, HVw3, Below.refl _ _⟩
        case round =>
          clear HXw3 HVw3
          obtain ⟨k, mo, co, Ao, hk, rfl, rfl, HO, HXwo, HVwo, HYwo⟩ := hrel
          rename World => wo
          have HBwo : Hid (Below w.heap.size w wo) := HBw3.out.trans (HYwo.out.mono HBw3.out.size)
          by_cases hkl : k < nk
          · by_cases hkd : k = dn
            · have hkb : ((k : Int) == (dn : Int)) = true := beq_iff_eq.2 (by omega)
              have HNX : Hid (demands f (dn : Int) 1 (k + 1) = demands f (dn : Int) 1 k) := by show _ = _; rw [demands_succ, if_neg (by rw [HFF.out, hkd, prefOf_self]; decide)]
              clear hkd
              go_wp2_with fail
              go_roundw
              case measure => simp [intOf] <;> omega
              case rel => exact ⟨k + 1, _, _, _, by omega, by go_num, rfl, by rw [HNX.out]; exact HO, HXwo, HVwo, HYwo⟩
            · have hkb : ((k : Int) == (dn : Int)) = false := beq_eq_false_iff_ne.2 (by omega)
              clear hkd
              obtain ⟨x, hx⟩ : ∃ x, x = f k := ⟨_, rfl⟩
              obtain ⟨pe, pf, pt⟩ := HPE.out k hkl
              have HPR' := fun (W : World) (hW : Below w.heap.size w W) => pPeriod_calls Ak nk ck As ns cs At nt ct P m (dn : Int) (k : Int) v W (HP.out.next hW) HPB.out
              rw [pe, pf, pt] at HPR'
              have HXP' := fun (W : World) (hW : Below w.heap.size w W) => expo_calls Ar cr rows (dn : Int) (k : Int) (perFrom P dn k v) v.cut W (by have := HN.out; omega) (HR.out.next hW)
              rw [show expo (dn : Int) (k : Int) (perFrom P dn k v) v.cut rows = x by rw [hx, HFF.out]; rfl] at HXP'
              obtain ⟨fr, hfr⟩ : ∃ y, y = perFrom P dn k v := ⟨_, rfl⟩
              rw [← hfr] at HPR' HXP'
              have HPR := Lib.hid HPR'
              have HXP := Lib.hid HXP'
              have HXK := Lib.hid hx
              clear HPR' HXP' hfr hx pe pf pt
              obtain ⟨k0, k1, k2⟩ := HXwo.out.cells
              obtain ⟨v0, v1, v2⟩ := HVwo.out.cells
              go_wp2_with fail
              clear k0 k1 k2 v0 v1 v2
              refine (HPR.out _ HBwo.out).mono ?_
              rintro e w4 ⟨rfl, hb⟩
              have HX4 := Lib.hid (HXwo.out.next hb)
              have HV4 := Lib.hid (HVwo.out.next hb)
              have HY4 : Hid (Below w3.heap.size w3 w4) := HYwo.out.trans (hb.mono HYwo.out.size)
              have HB4 : Hid (Below w.heap.size w w4) := HBwo.out.trans (hb.mono HBwo.out.size)
              have HO4 : Hid (mo = (demands f (dn : Int) 1 k).length ∧ w4.ownsRow w3.heap.size 65 4 (.slice Ao mo co) mo ((demands f (dn : Int) 1 k).flatMap demV)) := ⟨HO.out.1, own_below HO.out.2 hb⟩
              clear hb HXwo HVwo HYwo HBwo HO HPR
              go_wp2_with fail
              refine (HXP.out _ HB4.out).mono ?_
              rintro e w5 ⟨rfl, hb⟩
              have HX5 := Lib.hid (HX4.out.next hb)
              have HV5 := Lib.hid (HV4.out.next hb)
              have HY5 : Hid (Below w3.heap.size w3 w5) := HY4.out.trans (hb.mono HY4.out.size)
              have HO5 : Hid (mo = (demands f (dn : Int) 1 k).length ∧ w5.ownsRow w3.heap.size 65 4 (.slice Ao mo co) mo ((demands f (dn : Int) 1 k).flatMap demV)) := ⟨HO4.out.1, own_below HO4.out.2 hb⟩
              have HB5 : Hid (Below w.heap.size w w5) := HB4.out.trans (hb.mono HB4.out.size)
              clear hb HX4 HV4 HY4 HB4 HO4 HXP
              by_cases hx0 : 0 < x
              · have t0 : decide (0 < x) = true := decide_eq_true hx0
                have HNX : Hid (demands f (dn : Int) 1 (k + 1) = demands f (dn : Int) 1 k ++ [⟨(dn : Int), (k : Int), 1, x⟩]) := by show _ = _; rw [demands_succ, ← HXK.out, if_pos hx0]
                have hml : mo ≤ 32 := by rw [HO5.out.1]; have := demands_len f (dn : Int) 1 k; omega
                clear hx0
                have HOa := Lib.hid (own_below HO5.out.2 (bel_alloc w5 (.cells #[.int .i64 (dn : Int), .int .i64 (k : Int), .int .i64 1, .int .i64 x] 65)))
                have HYa := Lib.hid (HY5.out.alloc HY5.out.size (.cells #[.int .i64 (dn : Int), .int .i64 (k : Int), .int .i64 1, .int .i64 x] 65))
                have HBa := Lib.hid (HB5.out.alloc HB5.out.size (.cells #[.int .i64 (dn : Int), .int .i64 (k : Int), .int .i64 1, .int .i64 x] 65))
                have hsz := HYa.out.size
                have HXa := Lib.hid (HX5.out.next (bel_alloc w5 (.cells #[.int .i64 (dn : Int), .int .i64 (k : Int), .int .i64 1, .int .i64 x] 65)))
                have HVa := Lib.hid (HV5.out.next (bel_alloc w5 (.cells #[.int .i64 (dn : Int), .int .i64 (k : Int), .int .i64 1, .int .i64 x] 65)))
                go_wp2_with (at_builtin; refine wpList_append_own _ rfl (.tmp 65) (.tmp 70) 61 rfl w3.heap.size 65 i1 _ 4 32 Tryd.underlying61 HII.out.1 HII.out.2.1 HII.out.2.2.1 HII.out.2.2.2 rfl (by decide) _ mo ((demands f (dn : Int) 1 k).flatMap demV) rfl HOa.out _ 1 1 [.int .i64 (dn : Int), .int .i64 (k : Int), .int .i64 1, .int .i64 x] rfl rfl (rd_new_cells _ _ _ _ (by simp)) (by simp [Value.oneCell']) (by simp only [maxLen]; omega) (by omega) hsz ?_)
                intro v' w' hown hgr hnil
                obtain ⟨g', cap, rfl, _, _⟩ := hown.form (by omega)
                obtain ⟨wt, hwt⟩ : ∃ W, W = w5.alloc (.cells #[.int .i64 (dn : Int), .int .i64 (k : Int), .int .i64 1, .int .i64 x] 65) := ⟨_, rfl⟩
                rw [← hwt] at HOa HYa HBa HXa HVa hgr
                clear hwt
                have hs3 := HBw3.out.size
                have HXYZ : Hid (PBox q Ak nk ck As ns cs At nt ct w' ∧ WBox q2 v w' ∧ Below w3.heap.size w3 w') := ⟨blk_grownB HOa.out HXa.out HX3.out.1 hgr, blk_grownB HOa.out HVa.out HX3.out.2 hgr, Below.grown HYa.out hgr HYa.out.size (fun q hq => (HOa.out.lt q hq).1)⟩
                have HO' : Hid (mo + 1 = (demands f (dn : Int) 1 (k + 1)).length ∧ w'.ownsRow w3.heap.size 65 4 (.slice (some ⟨g', 0, none⟩) (mo + 1) cap) (mo + 1) ((demands f (dn : Int) 1 (k + 1)).flatMap demV)) := by
                  show _ ∧ _
                  rw [HNX.out, List.length_append, ← HO5.out.1, List.flatMap_append]
                  exact ⟨rfl, hown⟩
                clear hown hgr hnil HOa HYa HBa HXa HVa HO5 HX5 HV5 HY5 HB5
                go_wp2_with fail
                go_roundw
                case measure => simp [intOf] <;> omega
                case rel => exact ⟨k + 1, _, _, _, by omega, by go_num, rfl, HO', HXYZ.out.1, HXYZ.out.2.1, HXYZ.out.2.2⟩
              · have t0 : decide (0 < x) = false := decide_eq_false hx0
                have HNX : Hid (demands f (dn : Int) 1 (k + 1) = demands f (dn : Int) 1 k) := by show _ = _; rw [demands_succ, ← HXK.out, if_neg hx0]
                clear hx0
                go_wp2_with fail
                go_roundw
                case measure => simp [intOf] <;> omega
                case rel => exact ⟨k + 1, _, _, _, by omega, by go_num, rfl, by rw [HNX.out]; exact HO5, HX5, HV5, HY5⟩
          · obtain rfl : k = nk := by omega
            go_wp2_with fail
            go_ret2
            rw [HE1.out, HE2.out]
            refine ⟨Ao, co, by rw [← HO.out.1]; rfl, ?_, HBwo.out⟩
            have := Rd.of_own HO.out.2
            rw [HO.out.1] at this
            exact this
      · have hG0 : (G != 0) = true := bne_iff_ne.2 h2
        have N0 := Lib.hid h2
        clear h2
        go_enter Tryd.func24, Tryd.ntmps24
        go_upto_region 1 with fail
        rw [← hw0, ← hq2, ← hq]
        have HQ := Lib.hid (And.intro hq hq2)
        clear hw0 hq hq2
        obtain ⟨k0, k1, k2⟩ := HX0.out.cells
        obtain ⟨v0, v1, v2⟩ := HV0.out.cells
        go_wp2_with fail
        clear k0 k1 k2 v0 v1 v2
        refine (HCK.out _ HB0.out).mono ?_
        rintro e w1 ⟨rfl, hb⟩
        have HXw1 := Lib.hid (HX0.out.next hb)
        have HVw1 := Lib.hid (HV0.out.next hb)
        have HBw1 : Hid (Below w.heap.size w w1) := HB0.out.trans (hb.mono HB0.out.size)
        clear hb HX0 HB0 HV0
        obtain ⟨k0, k1, k2⟩ := HXw1.out.cells
        obtain ⟨v0, v1, v2⟩ := HVw1.out.cells
        go_wp2_with fail
        clear k0 k1 k2 v0 v1 v2
        refine (HHK.out _ HBw1.out).mono ?_
        rintro e w2 ⟨rfl, hb⟩
        have HXw2 := Lib.hid (HXw1.out.next hb)
        have HVw2 := Lib.hid (HVw1.out.next hb)
        have HBw2 : Hid (Below w.heap.size w w2) := HBw1.out.trans (hb.mono HBw1.out.size)
        clear hb HXw1 HBw1 HVw1
        obtain ⟨k0, k1, k2⟩ := HXw2.out.cells
        obtain ⟨v0, v1, v2⟩ := HVw2.out.cells
        go_wp2_with fail
        clear k0 k1 k2 v0 v1 v2
        refine (HWN.out _).mono ?_
        rintro e w3 ⟨rfl, hb⟩
        have HXw3 := Lib.hid (HXw2.out.next hb)
        have HVw3 := Lib.hid (HVw2.out.next hb)
        have HBw3 : Hid (Below w.heap.size w w3) := HBw2.out.trans (hb.mono HBw2.out.size)
        clear hb HXw2 HBw2 HVw2
        go_wp2_with fail
        go_ret2
        have e1 : findErr P rows deb v = G := by rw [HFE.out, if_neg (by decide), if_neg (by decide)]
        have e2 : prefList P rows deb v = [] := by unfold prefList; rw [e1]; exact if_neg N0.out
        rw [e1, e2]
        exact ⟨none, 0, rfl, Rd.nil, HBw3.out⟩
    · have hF0 : (F != 0) = true := bne_iff_ne.2 h1
      have N0 := Lib.hid h1
      clear h1
      go_enter Tryd.func24, Tryd.ntmps24
      go_upto_region 1 with fail
      rw [← hw0, ← hq2, ← hq]
      have HQ := Lib.hid (And.intro hq hq2)
      clear hw0 hq hq2
      obtain ⟨k0, k1, k2⟩ := HX0.out.cells
      obtain ⟨v0, v1, v2⟩ := HV0.out.cells
      go_wp2_with fail
      clear k0 k1 k2 v0 v1 v2
      refine (HCK.out _ HB0.out).mono ?_
      rintro e w1 ⟨rfl, hb⟩
      have HXw1 := Lib.hid (HX0.out.next hb)
      have HVw1 := Lib.hid (HV0.out.next hb)
      have HBw1 : Hid (Below w.heap.size w w1) := HB0.out.trans (hb.mono HB0.out.size)
      clear hb HX0 HB0 HV0
      obtain ⟨k0, k1, k2⟩ := HXw1.out.cells
      obtain ⟨v0, v1, v2⟩ := HVw1.out.cells
      go_wp2_with fail
      clear k0 k1 k2 v0 v1 v2
      refine (HHK.out _ HBw1.out).mono ?_
      rintro e w2 ⟨rfl, hb⟩
      have HXw2 := Lib.hid (HXw1.out.next hb)
      have HVw2 := Lib.hid (HVw1.out.next hb)
      have HBw2 : Hid (Below w.heap.size w w2) := HBw1.out.trans (hb.mono HBw1.out.size)
      clear hb HXw1 HBw1 HVw1
      go_wp2_with fail
      go_ret2
      have e1 : findErr P rows deb v = F := by rw [HFE.out, if_neg (by decide), if_pos N0.out]
      have e2 : prefList P rows deb v = [] := by unfold prefList; rw [e1]; exact if_neg N0.out
      rw [e1, e2]
      exact ⟨none, 0, rfl, Rd.nil, HBw2.out⟩
  · have hE0 : (E != 0) = true := bne_iff_ne.2 h0
    have N0 := Lib.hid h0
    clear h0
    go_enter Tryd.func24, Tryd.ntmps24
    go_upto_region 1 with fail
    rw [← hw0, ← hq2, ← hq]
    have HQ := Lib.hid (And.intro hq hq2)
    clear hw0 hq hq2
    obtain ⟨k0, k1, k2⟩ := HX0.out.cells
    obtain ⟨v0, v1, v2⟩ := HV0.out.cells
    go_wp2_with fail
    clear k0 k1 k2 v0 v1 v2
    refine (HCK.out _ HB0.out).mono ?_
    rintro e w1 ⟨rfl, hb⟩
    have HXw1 := Lib.hid (HX0.out.next hb)
    have HVw1 := Lib.hid (HV0.out.next hb)
    have HBw1 : Hid (Below w.heap.size w w1) := HB0.out.trans (hb.mono HB0.out.size)
    clear hb HX0 HB0 HV0
    go_wp2_with fail
    go_ret2
    have e1 : findErr P rows deb v = E := by rw [HFE.out, if_pos N0.out]
    have e2 : prefList P rows deb v = [] := by unfold prefList; rw [e1]; exact if_neg N0.out
    rw [e1, e2]
    exact ⟨none, 0, rfl, Rd.nil, HBw1.out⟩

end Go.Proofs.YtomfcmlomfcghaaDoor

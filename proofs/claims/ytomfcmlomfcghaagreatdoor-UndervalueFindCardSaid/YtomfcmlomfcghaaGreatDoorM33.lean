/- Merged of PHistRef RFind SameD. -/
import Derived.Test.YtomfcmlomfcghaaGreatDoorM21
import Derived.Test.YtomfcmlomfcghaaGreatDoorRows
import Derived.BigQuiet
import Derived.Deep.QuietTactic
import Derived.Test.YtomfcmlomfcghaaGreatDoorM22
import Derived.Test.YtomfcmlomfcghaaGreatDoorM25
import Derived.Test.YtomfcmlomfcghaaGreatDoorPtsI
import Derived.StillTailTactics
/- The definition's Money, Check, CheckTrace. -/
set_option linter.unusedVariables false
set_option linter.unusedSimpArgs false
namespace Go.Proofs.YtomfcmlomfcghaaGreatDoor
open Go.RowKit

set_option maxHeartbeats 4000000 in
set_option maxRecDepth 100000 in
theorem hcheckRef_calls (A : Option Addr) (c : Nat) (rows : List Row) (n : Int) (w : World) (hr : RowsRd w w.heap.size A rows) :
    Calls Tryz.prog 77 #[.int .i64 n, .slice A rows.length c] w fun e w' => e = .returned (.int .i64 (hcheck n rows)) ∧ Below w.heap.size w w' := by
  by_cases hb : 256 < rows.length
  · have hE : hcheck n rows = 2 := by simp [hcheck, hb]
    have HE := Lib.hid hE
    clear hE hr
    go_enter Tryz.func77, Tryz.ntmps77
    go_wp2
    go_ret
    exact ⟨ret_int HE.out.symm, Below.refl _ _⟩
  · have hE : hcheck n rows = hchk n 0 rows := by simp [hcheck, hb]
    have HE := Lib.hid hE
    have hb' : rows.length ≤ 256 := by omega
    clear hE hb
    go_enter Tryz.func77, Tryz.ntmps77
    go_wp2_with fail
    go_loopw [5] (fun i wr => ∃ (k : Nat) (b : Int), k ≤ rows.length ∧ i = .int .i64 k ∧ Hid ((k = 0 ∧ b = 0) ∨ (∃ m r, k = m + 1 ∧ rows[m]? = some r ∧ b = r.day)) ∧ Hid (hchk n 0 rows = hchk n b (rows.drop k)) ∧ Below w.heap.size w wr) (fun i _ => rows.length - (intOf i).toNat)
    case atStart => exact ⟨0, 0, by omega, rfl, .inl ⟨rfl, rfl⟩, by simp [Hid], Below.refl _ _⟩
    case round =>
      obtain ⟨k, b, hk, rfl, HK, HX, hbel⟩ := hrel
      by_cases hlt : k < rows.length
      · obtain ⟨r, hrk⟩ := getElem?_of_lt hlt
        obtain ⟨bb, off, rfl, hbb, c0, c1, c2, c3, c4, c5⟩ := (hr.below hbel).at_ hrk
        have hbs : bb < wr.heap.size := by have := hbel.size; omega
        have HN : Hid (hchk n 0 rows = if rowErr n b r ≠ 0 then rowErr n b r else hchk n r.day (rows.drop (k+1))) := by
          rw [HX.out, List.drop_eq_getElem_cons hlt, hchk]
          rw [(List.getElem?_eq_some_iff.1 hrk).2]; rfl
        have HRK := Lib.hid hrk
        clear hrk HX
        have hb1 : Below w.heap.size w (wr.alloc (.cells #[.int .i64 r.day, .int .i64 r.kind, .int .i64 r.frm, .int .i64 r.to, .int .i64 r.amount, .int .i64 r.worth] 94)) := hbel.alloc hbel.size _
        by_cases hgood : rowRange r = true ∧ rowParty n r = true
        · obtain ⟨g1, g2⟩ := hgood
          have HG : Hid (rowErr n b r = if r.day < b then 15 else 0) := by simp [Hid, rowErr, g1, g2]
          unfold rowRange at g1
          unfold rowParty at g2
          simp only [decide_eq_true_eq] at g1 g2
          obtain ⟨q1, q2, q3, q4, q5, q6, q7, q8, q9⟩ := g1
          obtain ⟨s1, s2, s3, s4, s5⟩ := g2
          have u1 : ¬ r.kind < 1 := by omega
          have u2 : ¬ 3 < r.kind := by omega
          have u3 : ¬ r.frm < 0 := by omega
          have u4 : ¬ n ≤ r.frm := by omega
          have u5 : ¬ r.to < 0 := by omega
          have u6 : ¬ n ≤ r.to := by omega
          have u7 : (r.frm == r.to) = false := by simpa using s5
          have q9 : (r.worth != 0) = false ∨ (r.worth != 0) = true ∧ (r.kind != 3) = false := by
            by_cases hw : r.worth = 0
            · exact .inl (by simp [hw])
            · exact .inr ⟨by simp [hw], by simp; omega⟩
          clear s5
          by_cases hpos : 0 < k
          · have hd : decide ((0 : Int) < (k : Int)) = true := by simp; omega
            obtain ⟨r', hr'⟩ : ∃ r', rows[k-1]? = some r' ∧ b = r'.day := by
              rcases HK.out with h | ⟨m, r', hm, h1, h2⟩
              · omega
              · exact ⟨r', by rw [hm]; exact h1, h2⟩
            obtain ⟨b2, off2, hA2, hbb2, p0, _⟩ := (hr.below hbel).at_ hr'.1
            simp only [Option.some.injEq, Addr.mk.injEq, and_true] at hA2
            obtain ⟨rfl, rfl⟩ := hA2
            have HB := Lib.hid hr'.2
            have hk1 : 1 ≤ k := hpos
            clear hr HK hr'
            rcases q9 with q9 | ⟨q9, q10⟩
            all_goals
              go_wp2_with go_in
              go_quiet (fail)
              by_cases hday : r.day < r'.day
              · go_wp2
                go_ret
                refine ⟨ret_int ?_, hb1.drewN _⟩
                rw [HE.out, HN.out, HG.out, HB.out, if_pos hday]; rfl
              · go_wp2
                go_roundw
                case measure => simp [intOf] <;> omega
                case rel =>
                  refine ⟨k + 1, r.day, by omega, by go_num, .inr ⟨k, r, rfl, HRK.out, rfl⟩, ?_, hb1.drewN _⟩
                  have := HN.out
                  rw [HG.out, HB.out, if_neg hday] at this
                  exact this
          · have hb0 : b = 0 := by
              rcases HK.out with h | ⟨m, r', hm, _⟩
              · exact h.2
              · omega
            have HB := Lib.hid hb0
            obtain rfl : k = 0 := by omega
            simp only [Nat.zero_mul, Nat.add_zero] at c0 c1 c2 c3 c4 c5
            have hlt0 : 0 < rows.length := hlt
            clear hr HK hb0 hpos
            rcases q9 with q9 | ⟨q9, q10⟩
            all_goals
              go_wp2_with go_in
              go_quiet (fail)
              go_wp2
              go_roundw
              case measure => simp [intOf] <;> omega
              case rel =>
                refine ⟨1, r.day, by omega, by go_num, .inr ⟨0, r, rfl, HRK.out, rfl⟩, ?_, hb1.drewN _⟩
                have := HN.out
                rw [HG.out, HB.out, if_neg (by omega)] at this
                exact this
        · clear HRK HK hr
          have key : ∀ V : Int, V ≠ 0 → V = rowErr n b r → V = hcheck n rows := fun V h1 h2 => by rw [HE.out, HN.out, ← h2, if_pos h1]
          have HK2 := Lib.hid key
          clear key
          have HBad : Hid (¬ (rowRange r = true ∧ rowParty n r = true)) := hgood
          clear hgood
          go_wp2
          all_goals first
            | (go_ret
               refine ⟨ret_int (HK2.out _ (by decide) ?_), hbel.alloc hbel.size _⟩
               clear c0 c1 c2 c3 c4 c5 HN HE HK2
               unfold rowErr rowRange rowParty
               simp only [beq_iff_eq, beq_eq_false_iff_ne, bne_iff_ne, bne_eq_false_iff_eq, decide_eq_false_iff_not, ne_eq] at *
               repeat' split
               all_goals first | rfl | (exfalso; omega))
            | (exfalso
               have hx := HBad.out
               clear HBad
               apply hx
               clear hx
               unfold rowRange rowParty
               simp only [beq_iff_eq, beq_eq_false_iff_ne, bne_iff_ne, bne_eq_false_iff_eq, decide_eq_false_iff_not, decide_eq_true_eq, ne_eq] at *
               omega)
      · have hkk : k = rows.length := by omega
        go_wp2_with fail
        go_ret
        refine ⟨ret_int ?_, hbel⟩
        rw [HE.out, HX.out, hkk, List.drop_length, hchk]

end Go.Proofs.YtomfcmlomfcghaaGreatDoor

/- insolvencyref25.CheckFind, Preferences, SameDemands. -/
set_option linter.unusedVariables false
set_option linter.unusedSimpArgs false
namespace Go.Proofs.YtomfcmlomfcghaaGreatDoor
open Go.RowKit


set_option maxHeartbeats 4000000 in
set_option maxRecDepth 100000 in
theorem rCheckFind_calls (Ak : Option Addr) (nk ck : Nat) (As : Option Addr) (ns cs : Nat) (At : Option Addr) (nt ct : Nat) (P : Prt) (m : Nat) (Ar : Option Addr) (cr : Nat) (rows : List Row) (deb : Int) (v : Win) (w : World) (hp : PRd Ak nk As ns At nt P w) (hb : PB m P) (hr : RowsRd w w.heap.size Ar rows) (hn : rows.length ≤ maxLen) :
    Calls Tryz.prog 55 #[ptyVal Ak nk ck As ns cs At nt ct, .slice Ar rows.length cr, .int .i64 deb, winV v] w fun e w' => e = .returned (.int .i64 (findErr P rows deb v)) ∧ Below w.heap.size w w' := by
  have HN := Lib.hid hn
  unfold maxLen at hn
  have HP := Lib.hid hp
  have HPB := Lib.hid hb
  have HR := Lib.hid hr
  have HNK := Lib.hid hp.nk
  have gk : nk ≤ maxLen := by rw [hp.nk]; exact hb.kl
  have GK := Lib.hid gk
  unfold maxLen at gk
  clear hp hb hr
  obtain ⟨E, hE⟩ : ∃ E, E = chk P := ⟨_, rfl⟩
  have HCK' := fun (W : World) (hW : Below w.heap.size w W) => rchk_calls Ak nk ck As ns cs At nt ct P m W (HP.out.next hW) HPB.out
  rw [← hE] at HCK'
  obtain ⟨F, hF⟩ : ∃ F, F = hcheck (nk : Int) rows := ⟨_, rfl⟩
  have HHK' := fun (W : World) (hW : Below w.heap.size w W) => hcheckRef_calls Ar cr rows (nk : Int) W (HR.out.next hW)
  rw [← hF] at HHK'
  obtain ⟨G, hG⟩ : ∃ G, G = winErr v := ⟨_, rfl⟩
  have HWN := Lib.hid (fun (W : World) => rWindow_calls v W G hG)
  have HFE : Hid (findErr P rows deb v = if E ≠ 0 then E else if F ≠ 0 then F else if inN nk deb = false then 14 else G) := by show _ = _; rw [hE, hF, hG, HNK.out]; rfl
  have HCK := Lib.hid HCK'
  have HHK := Lib.hid HHK'
  clear hE HCK' hF HHK' hG
  obtain ⟨X, hX⟩ : ∃ X, X = findErr P rows deb v := ⟨_, rfl⟩
  rw [← hX] at HFE ⊢
  clear hX
  obtain ⟨q, hq⟩ : ∃ q, q = w.heap.size := ⟨_, rfl⟩
  obtain ⟨q2, hq2⟩ : ∃ q, q = w.heap.size + 1 := ⟨_, rfl⟩
  obtain ⟨w0, hw0⟩ : ∃ W, W = (w.alloc (.cells #[.slice Ak nk ck, .slice As ns cs, .slice At nt ct] 26)).alloc (.cells #[.int .i64 v.cut, .int .i64 v.days, .int .i64 v.con] 49) := ⟨_, rfl⟩
  have HB0 : Hid (Below w.heap.size w w0) := by rw [hw0]; exact (bel_alloc _ _).alloc (by simp) _
  have HX0 : Hid (PBox q Ak nk ck As ns cs At nt ct w0) := by rw [hw0, hq]; exact (show PBox w.heap.size Ak nk ck As ns cs At nt ct (w.alloc (.cells #[.slice Ak nk ck, .slice As ns cs, .slice At nt ct] 26)) from blk_new _ _).next (bel_alloc _ _)
  have HV0 : Hid (WBox q2 v w0) := by
    have := blk_new (w.alloc (.cells #[.slice Ak nk ck, .slice As ns cs, .slice At nt ct] 26)) (.cells #[.int .i64 v.cut, .int .i64 v.days, .int .i64 v.con] 49)
    rw [World.size_alloc, ← hq2, ← hw0] at this
    exact this
  by_cases h0 : E = 0
  · by_cases h1 : F = 0
    · subst h0
      subst h1
      rcases f1 : inN nk deb with _ | _
      · have F1 := Lib.hid f1
        clear f1
        by_cases g1 : deb < 0
        · have d1 : decide (deb < 0) = true := decide_eq_true g1
          go_enter Tryz.func55, Tryz.ntmps55
          go_upto_region 1 with fail
          rw [← hw0, ← hq2, ← hq]
          have HQ := Lib.hid (And.intro hq hq2)
          clear hw0 hq hq2
          obtain ⟨k0, k1, k2⟩ := HX0.out.cells
          obtain ⟨v0, v1, v2⟩ := HV0.out.cells
          go_wp2_with fail
          clear k0 k1 k2 v0 v1 v2
          refine (HCK.out _ HB0.out).mono ?_
          rintro e w1 ⟨rfl, hb⟩
          have HXw1 := Lib.hid (HX0.out.next hb)
          have HVw1 := Lib.hid (HV0.out.next hb)
          have HBw1 : Hid (Below w.heap.size w w1) := HB0.out.trans (hb.mono HB0.out.size)
          clear hb HX0 HB0 HV0
          obtain ⟨k0, k1, k2⟩ := HXw1.out.cells
          obtain ⟨v0, v1, v2⟩ := HVw1.out.cells
          go_wp2_with fail
          clear k0 k1 k2 v0 v1 v2
          refine (HHK.out _ HBw1.out).mono ?_
          rintro e w2 ⟨rfl, hb⟩
          have HXw2 := Lib.hid (HXw1.out.next hb)
          have HVw2 := Lib.hid (HVw1.out.next hb)
          have HBw2 : Hid (Below w.heap.size w w2) := HBw1.out.trans (hb.mono HBw1.out.size)
          clear hb HXw1 HBw1 HVw1
          obtain ⟨k0, k1, k2⟩ := HXw2.out.cells
          obtain ⟨v0, v1, v2⟩ := HVw2.out.cells
          obtain rfl : X = 14 := by rw [HFE.out, if_neg (by decide), if_neg (by decide), F1.out]; exact if_pos rfl
          go_wp2_with fail
          go_ret
          exact ⟨rfl, HBw2.out⟩
        · have d1 : decide (deb < 0) = false := decide_eq_false g1
          have d2 : decide ((nk : Int) ≤ deb) = true := decide_eq_true (by have := mt inN_iff.2 (by rw [F1.out]; decide); omega)
          clear g1
          go_enter Tryz.func55, Tryz.ntmps55
          go_upto_region 1 with fail
          rw [← hw0, ← hq2, ← hq]
          have HQ := Lib.hid (And.intro hq hq2)
          clear hw0 hq hq2
          obtain ⟨k0, k1, k2⟩ := HX0.out.cells
          obtain ⟨v0, v1, v2⟩ := HV0.out.cells
          go_wp2_with fail
          clear k0 k1 k2 v0 v1 v2
          refine (HCK.out _ HB0.out).mono ?_
          rintro e w1 ⟨rfl, hb⟩
          have HXw1 := Lib.hid (HX0.out.next hb)
          have HVw1 := Lib.hid (HV0.out.next hb)
          have HBw1 : Hid (Below w.heap.size w w1) := HB0.out.trans (hb.mono HB0.out.size)
          clear hb HX0 HB0 HV0
          obtain ⟨k0, k1, k2⟩ := HXw1.out.cells
          obtain ⟨v0, v1, v2⟩ := HVw1.out.cells
          go_wp2_with fail
          clear k0 k1 k2 v0 v1 v2
          refine (HHK.out _ HBw1.out).mono ?_
          rintro e w2 ⟨rfl, hb⟩
          have HXw2 := Lib.hid (HXw1.out.next hb)
          have HVw2 := Lib.hid (HVw1.out.next hb)
          have HBw2 : Hid (Below w.heap.size w w2) := HBw1.out.trans (hb.mono HBw1.out.size)
          clear hb HXw1 HBw1 HVw1
          obtain ⟨k0, k1, k2⟩ := HXw2.out.cells
          obtain ⟨v0, v1, v2⟩ := HVw2.out.cells
          obtain rfl : X = 14 := by rw [HFE.out, if_neg (by decide), if_neg (by decide), F1.out]; exact if_pos rfl
          go_wp2_with fail
          go_ret
          exact ⟨rfl, HBw2.out⟩
      · have ho := inN_true f1
        have d1 : decide (deb < 0) = false := decide_eq_false (by omega)
        have d2 : decide ((nk : Int) ≤ deb) = false := decide_eq_false (by omega)
        have F1 := Lib.hid f1
        clear f1 ho
        go_enter Tryz.func55, Tryz.ntmps55
        go_upto_region 1 with fail
        rw [← hw0, ← hq2, ← hq]
        have HQ := Lib.hid (And.intro hq hq2)
        clear hw0 hq hq2
        obtain ⟨k0, k1, k2⟩ := HX0.out.cells
        obtain ⟨v0, v1, v2⟩ := HV0.out.cells
        go_wp2_with fail
        clear k0 k1 k2 v0 v1 v2
        refine (HCK.out _ HB0.out).mono ?_
        rintro e w1 ⟨rfl, hb⟩
        have HXw1 := Lib.hid (HX0.out.next hb)
        have HVw1 := Lib.hid (HV0.out.next hb)
        have HBw1 : Hid (Below w.heap.size w w1) := HB0.out.trans (hb.mono HB0.out.size)
        clear hb HX0 HB0 HV0
        obtain ⟨k0, k1, k2⟩ := HXw1.out.cells
        obtain ⟨v0, v1, v2⟩ := HVw1.out.cells
        go_wp2_with fail
        clear k0 k1 k2 v0 v1 v2
        refine (HHK.out _ HBw1.out).mono ?_
        rintro e w2 ⟨rfl, hb⟩
        have HXw2 := Lib.hid (HXw1.out.next hb)
        have HVw2 := Lib.hid (HVw1.out.next hb)
        have HBw2 : Hid (Below w.heap.size w w2) := HBw1.out.trans (hb.mono HBw1.out.size)
        clear hb HXw1 HBw1 HVw1
        obtain ⟨k0, k1, k2⟩ := HXw2.out.cells
        obtain ⟨v0, v1, v2⟩ := HVw2.out.cells
        go_wp2_with fail
        clear k0 k1 k2 v0 v1 v2
        refine (HWN.out _).mono ?_
        rintro e w3 ⟨rfl, hb⟩
        have HXw3 := Lib.hid (HXw2.out.next hb)
        have HVw3 := Lib.hid (HVw2.out.next hb)
        have HBw3 : Hid (Below w.heap.size w w3) := HBw2.out.trans (hb.mono HBw2.out.size)
        clear hb HXw2 HBw2 HVw2
        obtain rfl : X = G := by rw [HFE.out, if_neg (by decide), if_neg (by decide), F1.out]; exact if_neg (by decide)
        go_wp2_with fail
        go_ret
        exact ⟨rfl, HBw3.out⟩
    · subst h0
      have hF0 : (F != 0) = true := bne_iff_ne.2 h1
      have N0 := Lib.hid h1
      clear h1
      go_enter Tryz.func55, Tryz.ntmps55
      go_upto_region 1 with fail
      rw [← hw0, ← hq2, ← hq]
      have HQ := Lib.hid (And.intro hq hq2)
      clear hw0 hq hq2
      obtain ⟨k0, k1, k2⟩ := HX0.out.cells
      obtain ⟨v0, v1, v2⟩ := HV0.out.cells
      go_wp2_with fail
      clear k0 k1 k2 v0 v1 v2
      refine (HCK.out _ HB0.out).mono ?_
      rintro e w1 ⟨rfl, hb⟩
      have HXw1 := Lib.hid (HX0.out.next hb)
      have HVw1 := Lib.hid (HV0.out.next hb)
      have HBw1 : Hid (Below w.heap.size w w1) := HB0.out.trans (hb.mono HB0.out.size)
      clear hb HX0 HB0 HV0
      obtain ⟨k0, k1, k2⟩ := HXw1.out.cells
      obtain ⟨v0, v1, v2⟩ := HVw1.out.cells
      go_wp2_with fail
      clear k0 k1 k2 v0 v1 v2
      refine (HHK.out _ HBw1.out).mono ?_
      rintro e w2 ⟨rfl, hb⟩
      have HXw2 := Lib.hid (HXw1.out.next hb)
      have HVw2 := Lib.hid (HVw1.out.next hb)
      have HBw2 : Hid (Below w.heap.size w w2) := HBw1.out.trans (hb.mono HBw1.out.size)
      clear hb HXw1 HBw1 HVw1
      obtain rfl : X = F := by rw [HFE.out, if_neg (by decide), if_pos N0.out]
      go_wp2_with fail
      go_ret
      exact ⟨rfl, HBw2.out⟩
  · have hE0 : (E != 0) = true := bne_iff_ne.2 h0
    have N0 := Lib.hid h0
    clear h0
    go_enter Tryz.func55, Tryz.ntmps55
    go_upto_region 1 with fail
    rw [← hw0, ← hq2, ← hq]
    have HQ := Lib.hid (And.intro hq hq2)
    clear hw0 hq hq2
    obtain ⟨k0, k1, k2⟩ := HX0.out.cells
    obtain ⟨v0, v1, v2⟩ := HV0.out.cells
    go_wp2_with fail
    clear k0 k1 k2 v0 v1 v2
    refine (HCK.out _ HB0.out).mono ?_
    rintro e w1 ⟨rfl, hb⟩
    have HXw1 := Lib.hid (HX0.out.next hb)
    have HVw1 := Lib.hid (HV0.out.next hb)
    have HBw1 : Hid (Below w.heap.size w w1) := HB0.out.trans (hb.mono HB0.out.size)
    clear hb HX0 HB0 HV0
    obtain rfl : X = E := by rw [HFE.out, if_pos N0.out]
    go_wp2_with fail
    go_ret
    exact ⟨rfl, HBw1.out⟩

end Go.Proofs.YtomfcmlomfcghaaGreatDoor

/- insolvencyref25.SameDemands. -/
set_option linter.unusedVariables false
set_option linter.unusedSimpArgs false
namespace Go.Proofs.YtomfcmlomfcghaaGreatDoor
open Go.RowKit

set_option maxHeartbeats 2000000 in
theorem sameDem_calls (A B : Option Addr) (n ca cb : Nat) (l : List Dem) (w : World) (hn : n = l.length) (ra : Rd w w.heap.size 4 A l.length (l.flatMap demV)) (rb : Rd w w.heap.size 4 B l.length (l.flatMap demV)) (gn : n ≤ maxLen) :
    Calls Tryz.prog 32 #[.slice A n ca, .slice B n cb] w fun e w' => e = .returned (.bool true) ∧ Below w.heap.size w w' := by
  unfold maxLen at gn
  have HN := Lib.hid hn
  have HA := Lib.hid ra
  have HB := Lib.hid rb
  clear hn ra rb
  go_enter Tryz.func32, Tryz.ntmps32
  go_wp2_with fail
  go_loopw [5] (fun i wr => ∃ k : Nat, k ≤ n ∧ i = .int .i64 (k : Int) ∧ ∃ q, wr = w.drewN q) (fun i _ => n - (intOf i).toNat)
  case atStart => exact ⟨0, Nat.zero_le _, rfl, 0, rfl⟩
  case round =>
    obtain ⟨k, hk, rfl, q, rfl⟩ := hrel
    by_cases hlt : k < n
    · obtain ⟨x, hx⟩ := getElem?_of_lt (l := l) (k := k) (by rw [← HN.out]; exact hlt)
      obtain ⟨b, off, hA, _, hc⟩ := Rd.at_ (enc := demV) (fun _ => rfl) HA.out hx
      subst hA
      obtain ⟨b', off', hA, _, hd⟩ := Rd.at_ (enc := demV) (fun _ => rfl) HB.out hx
      subst hA
      have p0 := hc 0 _ rfl
      have p1 := hc 1 _ rfl
      have p2 := hc 2 _ rfl
      have p3 := hc 3 _ rfl
      have r0 := hd 0 _ rfl
      have r1 := hd 1 _ rfl
      have r2 := hd 2 _ rfl
      have r3 := hd 3 _ rfl
      rw [Nat.add_zero] at p0 r0
      rw [← Nat.add_assoc] at p1 p2 p3 r1 r2 r3
      clear hc hd hx
      obtain ⟨x0, x1, x2, x3⟩ := x
      dsimp only at p0 p1 p2 p3 r0 r1 r2 r3
      go_wp2_with fail
      go_quiet (fail)
      go_wp2_with fail
      go_roundw
      case measure => simp [intOf] <;> omega
      case rel => exact ⟨k + 1, by omega, by go_num, _, rfl⟩
    · go_wp2_with fail
      go_ret
      exact ⟨rfl, (Below.refl _ _).drewN _⟩

end Go.Proofs.YtomfcmlomfcghaaGreatDoor

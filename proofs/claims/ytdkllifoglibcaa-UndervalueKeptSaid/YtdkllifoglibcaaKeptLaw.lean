/- UndervalueKept: for every input the law returns true and its arguments read as before. No condition. -/
import Derived.Test.YtdkllifoglibcaaKeptPlain
import Derived.Test.YtdkllifoglibcaaGen2
import Derived.Test.YtdkllifoglibcaaSumLaw
import Derived.Lib.MinMax
import Derived.Deep.RegionWith
set_option linter.unusedVariables false
set_option linter.unusedSimpArgs false
namespace Go.Proofs.Ytdkllifoglibcaa
open Go.ChangeShapes Go.WideShapes Go.ChangeAt Go.RowKit

theorem balance_calls2 (A : Option Addr) (n c : Nat) (rows : List Row) (p o day : Int) (w : World) (hr : RowsRd w w.heap.size A rows) (hn : rows.length ≤ 1000000) (hl : n = rows.length) :
    Calls Try.prog 17 #[.slice A n c, .int .i64 p, .int .i64 o, .int .i64 day] w fun e w' => e = .returned (.int .i64 (balF rows p day o)) ∧ Below w.heap.size w w' := by
  subst hl; exact balance_calls A c rows p o day w hr hn

theorem RowsRd.take {w : World} {B : Nat} {A : Option Addr} {rows : List Row} (h : RowsRd w B A rows) (k : Nat) : RowsRd w B A (rows.take k) := by
  refine ⟨flat_len _ 6 Row.cells_len _, fun hn => ?_⟩
  obtain ⟨b, off, e, hb, hc⟩ := h.2 (by rw [List.length_take] at hn; omega)
  refine ⟨b, off, e, hb, fun j u hu => hc j u ?_⟩
  have hjl : j < (rows.take k).length * 6 := by
    have := (List.getElem?_eq_some_iff.1 hu).1
    rwa [flat_len _ 6 Row.cells_len] at this
  obtain ⟨r, hr⟩ := getElem?_of_lt (show j / 6 < (rows.take k).length by omega)
  have h1 := flat_get _ 6 Row.cells_len (rows.take k) (j / 6) (j % 6) r hr (by omega)
  have hr2 : rows[j / 6]? = some r := by
    rw [List.getElem?_take] at hr
    split at hr
    · exact hr
    · cases hr
  have h2 := flat_get _ 6 Row.cells_len rows (j / 6) (j % 6) r hr2 (by omega)
  have hj : j / 6 * 6 + j % 6 = j := by omega
  rw [hj] at h1 h2
  rw [h2, ← h1, hu]

set_option maxHeartbeats 4000000 in
set_option maxRecDepth 100000 in
theorem keptLaw (A0 : Option Addr) (c0 : Nat) (l0 : List W5) (x0 x1 x2 x3 a2 : Int) (w : World)
    (r0 : W5Rd w w.heap.size A0 l0) (o0 : ∀ r ∈ l0, r.ok) (n0 : l0.length ≤ maxLen) (b10 : u8ok x0) (b11 : u8ok x1) (b12 : u8ok x2) (b13 : u8ok x3) (b2 : 0 ≤ a2 ∧ a2 ≤ 255) :
    Calls Try.prog 7 #[.slice A0 l0.length c0, .agg #[.int .u8 x0, .int .u8 x1, .int .u8 x2, .int .u8 x3], .int .u8 a2] w fun e w' => e = .returned (.bool true) ∧ Below w.heap.size w w' := by
  unfold maxLen at n0
  have HO := Lib.hid o0
  clear o0
  have HBX : Hid (u8ok x0 ∧ u8ok x1 ∧ u8ok x2 ∧ u8ok x3) := ⟨b10, b11, b12, b13⟩
  clear b10 b11 b12 b13
  have HX0 : Hid (∀ W : World, Below w.heap.size w W → W5Rd W W.heap.size A0 l0) := fun W hb => Rd.next r0 hb
  clear r0
  go_enter Try.func7, Try.ntmps7
  go_wp2_with fail
  refine (rows_calls2 _ _ l0 _ _ _ (by omega) (by omega) (by omega) (by omega) (by omega) (HX0.out _ ((Below.refl _ _).alloc (Nat.le_refl _) _)) HO.out).mono ?_
  rintro e w1 ⟨A', c', rows, rfl, rx, hcap, hlen, hgood, hb⟩
  have hrl : rows.length ≤ 16 := by omega
  have HB : Below w.heap.size w w1 := ((Below.refl _ _).alloc (Nat.le_refl _) _).trans (hb.mono (by simp))
  have hbx : w1.heap[w.heap.size]? = some (.cells #[.int .u8 x0, .int .u8 x1, .int .u8 x2, .int .u8 x3] 32 (0, 0)) := by
    rw [hb.block _ (by simp)]; exact heap_alloc_new _ _
  obtain ⟨os, hos⟩ : ∃ os, os = openF x0 x1 x2 x3 := ⟨_, rfl⟩
  have hol : os.length = 4 := by rw [hos, openF_len]
  have hoo : os.any outOf = false := by rw [hos]; exact openF_in HBX.out.1 HBX.out.2.1 HBX.out.2.2.1 HBX.out.2.2.2
  have HG := Lib.hid (fun k => good_trace (k := k) (by omega : 5 * (16 : Int) ≤ 1048576) hgood (by omega) hoo hol)
  have HGd := Lib.hid hgood
  have HOL := Lib.hid hol
  have HOS := Lib.hid hos
  obtain ⟨hbx, d0, d1, d2, d3⟩ := box4 (Below.refl _ _) hbx
  have HX := Lib.hid hbx
  have HR1 := Lib.hid rx
  clear hbx hb HX0 HO hos hoo hol hgood hlen
  go_wp2_with fail
  refine (payment_calls A' c' rows a2 _ rx (by omega) b2).mono ?_
  rintro e w2 ⟨kk, hk1, hk2, rfl, rfl⟩
  clear rx
  by_cases hemp : rows = []
  · have hle : ((rows.length : Int) == 0) = true := by rw [hemp]; rfl
    clear hk1 hk2 hemp
    go_wp2_with fail
    refine (awake27_calls _).mono ?_
    rintro e w5 ⟨rfl, hb5⟩
    go_wp2_with fail
    go_ret
    exact ⟨rfl, HB.trans (hb5.mono HB.size)⟩
  · have hkl := hk1 hemp
    obtain ⟨rq, hrq⟩ := getElem?_of_lt hkl
    have hle : ((rows.length : Int) == 0) = false := by simp; omega
    obtain ⟨bq, oq, rfl, hbq, e0, e1, e2, e3, e4, e5⟩ := HR1.out.at_ hrq
    clear hk1 hk2 hemp
    by_cases hkind : rq.kind = 1
    · have hV : traceErr rows os kk = 0 := (HG.out kk).2.2 rq hrq hkind
      have hrq' : rows[((kk : Nat) : Int).toNat]? = some rq := by simpa using hrq
      have hinv := trace_inv hV hrq'
      obtain ⟨f1, f2, _, hinvs, hoks, _⟩ := trace_same hV
      rw [HOL.out] at hinv hoks
      have hbalF : ∀ k : Nat, k ≤ rows.length → ∀ p : Nat, p < 4 → balF (rows.take k) p 1048576 (os.getD p 0) = (runR rows kk (initW os) k).bal.getD p 0 := fun k hk p hp =>
        run_bal hinvs (by rw [HOL.out]; exact hoks) (by omega) (by rw [HOL.out]; exact hp) k hk
      have hrqok := hoks rq (List.mem_of_getElem? hrq)
      have hpar := hrqok.2
      simp only [rowParty, decide_eq_true_eq] at hpar
      obtain ⟨y, hy⟩ := Int.eq_ofNat_of_zero_le hpar.2.2.1
      have hy4 : y < 4 := by omega
      obtain ⟨L, hL⟩ : ∃ L, L = (runR rows kk (initW os) (kk + 1)).bal.getD y 0 := ⟨_, rfl⟩
      obtain ⟨T, hT⟩ : ∃ T, T = min rq.amount (max L 0) := ⟨_, rfl⟩
      have hK0 : Keeps 4 y T L (runR rows kk (initW os) (kk + 1)) := by
        have h1 := hinv kk (by omega)
        rw [if_pos (by omega)] at h1
        have := keeps_start (at_ := kk) h1 hrqok (by omega) rfl hkind
        rw [runR_succ hrq] at hL ⊢
        rw [hT, hL]
        rw [show rq.to.toNat = y by omega] at this
        exact this
      have HKS : Hid (∀ k r, rows[k]? = some r → kk < k → Keeps 4 y T L (runR rows kk (initW os) k) → 0 ≤ moneyRef r y → Keeps 4 y T L (runR rows kk (initW os) (k + 1))) := fun k r hr hlt hK hm => by
        rw [runR_succ hr]
        have hkl' := (List.getElem?_eq_some_iff.1 hr).1
        exact keeps_step (hinv k (by omega)) (hoks r (List.mem_of_getElem? hr)) (by omega) (by omega) hK hy4 hm
      have HSB : Hid (∀ k r, rows[k]? = some r → (runR rows kk (initW os) (k + 1)).bal.getD y 0 = wrap64 ((runR rows kk (initW os) k).bal.getD y 0 + moneyRef r y)) := fun k r hr => by
        rw [runR_succ hr]
        have hkl' := (List.getElem?_eq_some_iff.1 hr).1
        exact step_bal (hinv k (by omega)) (hoks r (List.mem_of_getElem? hr)) (by omega) hy4
      obtain ⟨ov, hov⟩ : ∃ ov, os[y]? = some ov := getElem?_of_lt (by rw [HOL.out]; exact hy4)
      have hovd : os.getD y 0 = ov := by simp [List.getD, hov]
      have HBL : Hid (balF (rows.take (kk + 1)) y 1048576 ov = L) := by
        have := hbalF (kk + 1) (by omega) y hy4
        rw [hovd, ← hL] at this
        exact this
      have hk1 : (rq.kind != 1) = false := by simp [hkind]
      rw [hy] at e3
      have hol4 : (y : Int) < (os.length : Int) := by rw [HOL.out]; omega
      have HV := Lib.hid hV
      have HRQ := Lib.hid hrq
      have HL := Lib.hid hL
      have HT := Lib.hid hT
      have HK0 := Lib.hid hK0
      have HOV := Lib.hid hov
      have HF : Hid (runW rows kk (initW os) rows.length = runR rows kk (initW os) rows.length ∧ (runR rows kk (initW os) rows.length).tr.length = 4) := ⟨f1, by rw [f2, HOL.out]⟩
      clear hV hrq hrq' hinv f1 f2 hinvs hoks hbalF hrqok hpar hL hT hK0 hovd hkind hov HG HGd
      have hw : IntKind.i64.wrap ((kk : Int) + 1) = ((kk + 1 : Nat) : Int) := by
        rw [IntWalk.i64_in _ (by omega)]; omega
      have hsl : 0 ≤ IntKind.i64.wrap ((kk : Int) + 1) ∧ IntKind.i64.wrap ((kk : Int) + 1) ≤ (c' : Int) := by rw [hw]; omega
      have HW : Hid ((IntKind.i64.wrap ((kk : Int) + 1)).toNat = kk + 1) := by
        show _ = _
        rw [hw]; omega
      clear hw
      have hbxl : w.heap.size < w2.heap.size := (Array.getElem?_eq_some_iff.1 HX.out).1
      go_wp2_with fail
      go_region_law (first
        | (go_simp; go_at_call 14; refine (openings_calls x0 x1 x2 x3 _ HBX.out.1 HBX.out.2.1 HBX.out.2.2.1 HBX.out.2.2.2).mono ?_; rintro e w3 ⟨A6, c6, rfl, ro, hb3⟩; rw [← HOS.out] at ro ⊢; obtain ⟨b6, off6, hA6, hb6, k6⟩ := ro.at_ HOV.out; subst hA6; clear ro)
        | (go_simp; go_at_call 17; refine (balance_calls2 _ _ _ (rows.take (kk + 1)) y ov 1048576 _ (((HR1.out.next ((Below.refl _ _).drew)).next hb3).take (kk + 1)) (by rw [List.length_take]; omega) (by rw [List.length_take, HW.out]; omega)).mono ?_; rintro e w4 ⟨rfl, hb4⟩; rw [HBL.out]; have hb34 := ((Below.refl w2.heap.size w2).drew).trans (hb3.trans (hb4.mono hb3.size))))
      have HB4 := HB.trans (hb34.mono HB.size)
      have HR4 := Lib.hid (HR1.out.next hb34)
      obtain ⟨hbx4, -, -, -, -⟩ := box4 hb34 HX.out
      have HX4 := Lib.hid hbx4
      have hi0 : IntKind.i64.wrap ((kk : Int) + 1) = ((kk + 1 : Nat) : Int) := by rw [IntWalk.i64_in _ (by omega)]; omega
      have HI0 := Lib.hid hi0
      clear hi0 hbx4 hb34 hb4 hb3 hb6 k6 d0 d1 d2 d3 e0 e1 e2 e3 e4 e5 hbq hbx HX HW hsl HR1 HB hbxl hol4 hle HBL HOV
      go_wp2_with fail
      go_loopw [10, 11, 12, 13] (fun ls sm pv i wr => ∃ (j : Nat) (lv sv : Int) (pb : Bool), kk + 1 ≤ j ∧ j ≤ rows.length ∧ i = .int .i64 j ∧ ls = .int .i64 lv ∧ sm = .int .i64 sv ∧ pv = .bool pb ∧
        Hid (sv = (runR rows kk (initW os) j).bal.getD y 0) ∧ Hid (pb = false → lv = L ∧ Keeps 4 y T L (runR rows kk (initW os) j)) ∧ Below w4.heap.size w4 wr) (fun _ _ _ i _ => rows.length - (intOf i).toNat)
      case atStart => exact ⟨kk + 1, L, L, false, by omega, by omega, by go_num, rfl, rfl, rfl, HL.out, fun _ => ⟨rfl, HK0.out⟩, Below.refl _ _⟩
      case round =>
        obtain ⟨j, lv, sv, pb, hj1, hj2, rfl, rfl, rfl, rfl, HS, HP, hbw⟩ := hrel
        by_cases hjl : j < rows.length
        · obtain ⟨r, hr⟩ := getElem?_of_lt hjl
          obtain ⟨br, or_, hA, hbr, e0, e1, e2, e3, e4, e5⟩ := (HR4.out.next hbw).at_ hr
          injection hA with hA
          injection hA with hA1 hA2
          subst hA1 hA2
          have HRr := Lib.hid hr
          clear hr
          go_wp2_with fail
          refine (moneyRef_calls r y _).mono ?_
          rintro e w5 ⟨rfl, hb5⟩
          have hbw5 := hbw.trans (hb5.mono hbw.size)
          obtain ⟨m, hm⟩ : ∃ m, m = moneyRef r y := ⟨_, rfl⟩
          rw [← hm]
          have HM := Lib.hid hm
          clear hm e0 e1 e2 e3 e4 e5 hb5 hbw
          have HSS : Hid (wrap64 (sv + m) = (runR rows kk (initW os) (j + 1)).bal.getD y 0) := by
            show _ = _
            rw [HSB.out j r HRr.out, ← HS.out, ← HM.out]
          cases pb
          · by_cases hmn : m < 0
            · go_wp2_with fail
              go_roundw
              case measure => simp [intOf] <;> omega
              case rel =>
                refine ⟨j + 1, _, _, _, by omega, by omega, by go_num, rfl, rfl, rfl, ?_, ?_, hbw5⟩
                · rw [← HSS.out]; first | rfl | exact IntWalk.i64_left _
                · intro hpf; simp [hmn] at hpf
            · go_wp2_with fail
              go_roundw
              case measure => simp [intOf] <;> omega
              case rel =>
                obtain ⟨hlv, hK⟩ := HP.out (by simp)
                have hK' := HKS.out j r HRr.out (by omega) hK (by rw [← HM.out]; omega)
                have hlow := hK'.low
                rw [← HSS.out, ← IntWalk.i64_left] at hlow
                refine ⟨j + 1, _, _, _, by omega, by omega, by go_num, rfl, rfl, rfl, ?_, ?_, hbw5⟩
                · rw [← HSS.out]; first | rfl | exact IntWalk.i64_left _
                · intro hpf
                  refine ⟨?_, hK'⟩
                  rw [hlv]
                  first | omega | (rw [IntWalk.i64_left] at hlow; omega)
          · go_wp2_with fail
            go_roundw
            case measure => simp [intOf] <;> omega
            case rel =>
              refine ⟨j + 1, _, _, _, by omega, by omega, by go_num, rfl, rfl, rfl, ?_, ?_, hbw5⟩
              · rw [← HSS.out]; first | rfl | exact IntWalk.i64_left _
              · intro hpf; simp at hpf
        · have hjj : j = rows.length := by omega
          subst hjj
          obtain ⟨hbx, d0, d1, d2, d3⟩ := box4 hbw HX4.out
          have HXr := Lib.hid hbx
          have hbl : w.heap.size < wr.heap.size := (Array.getElem?_eq_some_iff.1 hbx).1
          clear hbx
          go_wp2_with fail
          refine (openings_calls x0 x1 x2 x3 _ HBX.out.1 HBX.out.2.1 HBX.out.2.2.1 HBX.out.2.2.2).mono ?_
          rintro e w5 ⟨A6, c6, rfl, ro, hb5⟩
          rw [← HOS.out] at ro ⊢
          have hbw5 := hbw.trans (hb5.mono hbw.size)
          clear d0 d1 d2 d3 hbw hb5
          go_wp2_with fail
          refine (trace_calls _ c' rows A6 c6 os kk _ (HR4.out.next hbw5) ro (by rw [HOL.out]; omega)).mono ?_
          rintro e w6 ⟨hb6, hne, heq⟩
          obtain ⟨g, hg, rfl, hrow⟩ := heq HV.out
          rw [HF.out.1] at hrow ⊢
          have hbw6 := hbw5.trans (hb6.mono hbw5.size)
          have HRW := Lib.hid hrow
          obtain ⟨S, hS⟩ : ∃ S, S = runR rows kk (initW os) rows.length := ⟨_, rfl⟩
          rw [← hS] at HRW HS HP ⊢
          have hl4 : S.tr.length = 4 := by rw [hS]; exact HF.out.2
          have hl4b : ((os.length : Int) != 4) = false := by rw [HOL.out]; rfl
          have HL4 := Lib.hid hl4
          clear hS hrow hne heq ro hbw5 hb6
          cases pb
          · obtain ⟨hlv, hK⟩ := HP.out (by simp)
            subst hlv
            have hcy := fun W hb => (HRW.out.below (B := w6.heap.size) (w' := W) hb HRW.out.lt).getD (k := y) (by rw [hl4]; exact hy4)
            rw [hK.here] at hcy
            have HCY := Lib.hid hcy
            have hol4 : (y : Int) < (os.length : Int) := by rw [HOL.out]; omega
            have hTT : (T == min rq.amount (max lv 0)) = true := by rw [← HT.out]; simp
            have hkI : (kk : Int) < (rows.length : Int) := by omega
            clear hK HP hl4 hjl hj1 hj2
            clear hcy
            go_wp2_with fail
            refine wp_region_any (by kernel_rfl) ?_
            try (change wpAny _ _ _ _ _ _ _ (World.drew _))
            refine wpAny_ready (rs := [0]) (by kernel_rfl) (by simp) ?_
            refine AllReady.cons rfl (fun K hK => ?_) AllReady.nil
            go_simp
            go_wp2_with (go_at_call 12; refine (awake27_calls _).mono ?_; rintro e w7 ⟨rfl, hb7⟩; have hb67 := ((Below.refl w6.heap.size w6).drew).trans hb7; have kz := HCY.out _ hb67; obtain ⟨br, or_, hA, hbr, e0, e1, e2, e3, e4, e5⟩ := (HR4.out.next (hbw6.trans (hb67.mono hbw6.size))).at_ HRQ.out; injection hA with hA; injection hA with hA1 hA2; subst hA1 hA2)
            refine wpAny_take (i := 1) rfl (by kernel_rfl) (by kernel_rfl) (by kernel_rfl) (fun _ _ _ h => h) (Or.inl ⟨by kernel_rfl, (by intro w; go_simp; with_reducible rfl)⟩) ?_
            refine wpAny_take (i := 2) rfl (by kernel_rfl) (by kernel_rfl) (by kernel_rfl) (fun _ _ _ h => h) (Or.inl ⟨by kernel_rfl, (by intro w; go_simp; with_reducible rfl)⟩) ?_
            refine wpAny_take (i := 3) rfl (by kernel_rfl) (by kernel_rfl) (by kernel_rfl) (fun _ _ _ h => h) (Or.inl ⟨by kernel_rfl, (by intro w; go_simp; with_reducible rfl)⟩) ?_
            refine wpAny_take (i := 4) rfl (by kernel_rfl) (by kernel_rfl) (by kernel_rfl) (fun _ _ _ h => h) (Or.inl ⟨by kernel_rfl, (by intro w; go_simp; with_reducible rfl)⟩) ?_
            refine wpAny_take (i := 6) rfl (by kernel_rfl) (by kernel_rfl) (by kernel_rfl) (fun _ _ _ h => h) (Or.inl ⟨by kernel_rfl, (by intro w; go_simp; with_reducible rfl)⟩) ?_
            refine wpAny_take (i := 7) rfl (by kernel_rfl) (by kernel_rfl) (by kernel_rfl) (fun _ _ _ h => h) (Or.inl ⟨by kernel_rfl, (by intro w; go_simp; with_reducible rfl)⟩) ?_
            go_simp
            refine wpAny_take (i := 8) (v := .pointer (some ⟨bq, oq + kk * 6, none⟩)) rfl (by kernel_rfl) (by kernel_rfl) (by kernel_rfl) (fun _ _ _ h => h) (Or.inl ⟨by kernel_rfl, (by intro w; go_simp)⟩) ?_
            go_simp
            refine wpAny_take (i := 9) (v := .pointer (some ⟨bq, oq + kk * 6 + 4, none⟩)) rfl (by kernel_rfl) (by kernel_rfl) (by kernel_rfl) (fun _ _ _ h => h) (Or.inl ⟨by kernel_rfl, (by intro w; go_simp)⟩) ?_
            go_simp
            refine wpAny_take (i := 11) (v := .int .i64 lv) rfl (by kernel_rfl) (by kernel_rfl) (by kernel_rfl) (fun _ _ _ h => h) (Or.inl ⟨by kernel_rfl, (by intro w; go_simp)⟩) ?_
            go_simp
            refine wpAny_take (i := 12) (v := .int .i64 (max lv 0)) rfl (by kernel_rfl) (by kernel_rfl) (by kernel_rfl) (fun _ _ _ h => h) (Or.inl ⟨by kernel_rfl, (by intro w; go_simp)⟩) ?_
            go_simp
            refine wpAny_ready (rs := [5, 10]) (by kernel_rfl) (by simp) ?_
            refine AllReady.cons rfl (fun K hK => ?_) (AllReady.cons rfl (fun K hK => ?_) AllReady.nil)
            · go_simp
              refine hK _ _ ?_
              clear hK K
              refine wpAny_ready (rs := [10]) (by kernel_rfl) (by simp) ?_
              refine AllReady.cons rfl (fun K hK => ?_) AllReady.nil
              go_simp
              refine hK _ _ ?_
              clear hK K
              refine wpAny_take (i := 13) (v := .int .i64 (min rq.amount (max lv 0))) rfl (by kernel_rfl) (by kernel_rfl) (by kernel_rfl) (fun _ _ _ h => h) (Or.inl ⟨by kernel_rfl, (by intro w; go_simp)⟩) ?_
              go_simp
              refine wpAny_take (i := 14) (v := .bool true) rfl (by kernel_rfl) (by kernel_rfl) (by kernel_rfl) (fun _ _ _ h => h) (Or.inl ⟨by kernel_rfl, (by intro w; go_simp)⟩) ?_
              go_simp
              refine wpAny_take (i := 15) (v := .bool true) rfl (by kernel_rfl) (by kernel_rfl) (by kernel_rfl) (fun _ _ _ h => h) (Or.inl ⟨by kernel_rfl, (by intro w; go_simp)⟩) ?_
              go_simp
              refine wpAny_take (i := 16) (v := .bool true) rfl (by kernel_rfl) (by kernel_rfl) (by kernel_rfl) (fun _ _ _ h => h) (Or.inl ⟨by kernel_rfl, (by intro w; go_simp)⟩) ?_
              refine wpAny_done (by kernel_rfl) ?_ _
              go_wp2
              go_ret
              exact ⟨rfl, HB4.trans ((hbw6.trans (hb67.mono hbw6.size)).mono HB4.size)⟩
            · go_simp
              refine hK _ _ ?_
              clear hK K
              refine wpAny_take (i := 13) (v := .int .i64 (min rq.amount (max lv 0))) rfl (by kernel_rfl) (by kernel_rfl) (by kernel_rfl) (fun _ _ _ h => h) (Or.inl ⟨by kernel_rfl, (by intro w; go_simp)⟩) ?_
              go_simp
              refine wpAny_ready (rs := [5]) (by kernel_rfl) (by simp) ?_
              refine AllReady.cons rfl (fun K hK => ?_) AllReady.nil
              go_simp
              refine hK _ _ ?_
              clear hK K
              refine wpAny_take (i := 14) (v := .bool true) rfl (by kernel_rfl) (by kernel_rfl) (by kernel_rfl) (fun _ _ _ h => h) (Or.inl ⟨by kernel_rfl, (by intro w; go_simp)⟩) ?_
              go_simp
              refine wpAny_take (i := 15) (v := .bool true) rfl (by kernel_rfl) (by kernel_rfl) (by kernel_rfl) (fun _ _ _ h => h) (Or.inl ⟨by kernel_rfl, (by intro w; go_simp)⟩) ?_
              go_simp
              refine wpAny_take (i := 16) (v := .bool true) rfl (by kernel_rfl) (by kernel_rfl) (by kernel_rfl) (fun _ _ _ h => h) (Or.inl ⟨by kernel_rfl, (by intro w; go_simp)⟩) ?_
              refine wpAny_done (by kernel_rfl) ?_ _
              go_wp2
              go_ret
              exact ⟨rfl, HB4.trans ((hbw6.trans (hb67.mono hbw6.size)).mono HB4.size)⟩
          · clear HP
            go_wp2_with fail
            refine (awake27_calls _).mono ?_
            rintro e w7 ⟨rfl, hb7⟩
            go_wp2_with fail
            go_ret
            exact ⟨rfl, HB4.trans ((hbw6.trans (hb7.mono hbw6.size)).mono HB4.size)⟩
    · have hk1 : (rq.kind != 1) = true := by simpa using hkind
      clear hkind hrq
      go_wp2_with fail
      refine (awake27_calls _).mono ?_
      rintro e w5 ⟨rfl, hb5⟩
      go_wp2_with fail
      go_ret
      exact ⟨rfl, HB.trans (hb5.mono HB.size)⟩

namespace undervalueKept
theorem own : ownKnob Try.prog.godebug = none := by kernel_rfl
theorem laidOut : laidOutB Try.prog = true := by kernel_rfl

set_option maxRecDepth 100000 in
theorem lifted (os : Os) (started : os.Started) (H : Type) (enc : TypeId × Value → H) :
    ReturnsInHanded {} Try.checked os 7 .any (Rows.undervalueKeptSpec.pre6 enc Try.prog Try.f7 Rows.undervalueKeptRow.domain false) (Rows.undervalueKeptSpec.post enc Try.prog Try.f7 false true false false) := by
  refine returnsInHanded_of_change (C := Try.checked) own started (by kernel_rfl) Try.func7
    (ChangeSpec.witness6 (enc := enc) (C := Try.checked) false ⟨#[], #[.slice none 0 0, .agg #[.int .u8 0, .int .u8 0, .int .u8 0, .int .u8 0], .int .u8 0], []⟩ 8 (by kernel_rfl) (by kernel_rfl) (by kernel_rfl) (by kernel_rfl)) ?_
  intro W base args ds gs before hval0 hW hcnd _
  have hval : ∀ (j : Nat) t v, Try.f7.params[j]? = some t → args[j]? = some v → Value.okWide Try.prog W .any base t v := hval0
  have hW' := hW
  obtain ⟨p, q, hA0, hV, rfl, hfz, hnd⟩ := hW
  have hA : DataW.TrodAll enc Try.prog W 0 (fun _ => true) true Try.f7.params.toList args.toList ds p := hA0
  rw [Try.params7] at hA hval
  obtain ⟨v0, vs0, d0, ds0, p0, q0, hargs, rfl, rfl, h0, rr0⟩ := trodAll_cons hA
  obtain ⟨v1, vs1, d1, ds1, p1, q1, rfl, rfl, rfl, h1, rr1⟩ := trodAll_cons rr0
  obtain ⟨v2, vs2, d2, ds2, p2, q2, rfl, rfl, rfl, h2, rr2⟩ := trodAll_cons rr1
  obtain ⟨rfl, rfl, rfl⟩ := trodAll_nil rr2
  obtain rfl : args = #[v0, v1, v2] := by cases args; simp_all
  obtain ⟨rfl, rfl⟩ := trodVars_none hV
  have k0 := h0
  have lt0 : ∀ x ∈ p0, x.block < W.heap.size := by obtain ⟨m, hm⟩ := k0; exact DataW.trod_lt m _ _ _ hm
  have k1 := h1
  have lt1 : ∀ x ∈ p1, x.block < W.heap.size := by obtain ⟨m, hm⟩ := k1; exact DataW.trod_lt m _ _ _ hm
  have k2 := h2
  have lt2 : ∀ x ∈ p2, x.block < W.heap.size := by obtain ⟨m, hm⟩ := k2; exact DataW.trod_lt m _ _ _ hm
  obtain ⟨A0, c0, l0, rfl, r0, o0, n0⟩ := open_w5 (hval 0 23 v0 rfl rfl) h0
  obtain ⟨x1_0, x1_1, x1_2, x1_3, rfl, b1_0, b1_1, b1_2, b1_3⟩ := open_u8x4 (hval 1 32 v1 rfl rfl) h1
  obtain ⟨a2, rfl, rfl, rfl, w2⟩ := open_int Try.underlying5 (hval 2 5 v2 rfl rfl) h2
  have b2 := bounds_u8 w2
  clear hA0 hval0
  refine (keptLaw A0 c0 l0 x1_0 x1_1 x1_2 x1_3 a2 W r0 o0 n0 b1_0 b1_1 b1_2 b1_3 b2).mono fun e W' ⟨he, bel⟩ => ?_
  subst he
  exact ⟨_, rfl, _, _, _, [], _, [], hW', trodAll_mk1 (shut_bool Try.underlying4 _), (trodAll_cons_mk (Below.trod laidOut (by kernel_rfl) (of_decide_eq_true (by kernel_rfl)) k0 bel lt0) (trodAll_cons_mk (Below.trod laidOut (by kernel_rfl) (of_decide_eq_true (by kernel_rfl)) k1 bel lt1) (trodAll_cons_mk (Below.trod laidOut (by kernel_rfl) (of_decide_eq_true (by kernel_rfl)) k2 bel lt2) trodAll_mk0))), rfl, bel.frame _, fun h => by cases h⟩

theorem over : Rows.undervalueKeptRow.holds Try.pinned (OpenSpec.ofChange Rows.undervalueKeptSpec) :=
  OpenClaim.holds_of_wide 7 Try.f7 rfl rfl rfl rfl rfl rfl rfl ⟨rfl, rfl, rfl, rfl, rfl⟩ rfl rfl rfl rfl rfl (by kernel_rfl) Try.func7 (by kernel_rfl)
    (of_decide_eq_true (by kernel_rfl)) (by unfold Func.isWrapper; first | (rw [if_pos (by decide +kernel)]; kernel_rfl) | (rw [if_neg (by decide +kernel)]; exact ⟨rfl, rfl⟩))
    (fun os started H enc _ => lifted os started H enc)

theorem proved : Rows.UndervalueKeptSaid := over
#print axioms proved
end undervalueKept

end Go.Proofs.Ytdkllifoglibcaa

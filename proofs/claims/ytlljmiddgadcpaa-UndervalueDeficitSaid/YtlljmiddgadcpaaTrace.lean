/- undervalue.Trace -/
import Derived.Test.YtlljmiddgadcpaaTraceW
import Derived.Test.YtlljmiddgadcpaaTrMove
import Derived.Test.YtlljmiddgadcpaaTrSpend
import Derived.Deep.RegionLawGrows
import Derived.Deep.OwnRows
import Derived.Deep.DeepCutAuto
import Derived.BigQuiet
import Derived.Deep.QuietTactic
set_option linter.unusedVariables false
set_option linter.unusedSimpArgs false
namespace Go.Proofs.Ytlljmiddgadcpaa
open Go.RowKit

theorem Try.info2 : (Try.prog.info? 2).map (fun i => (i.zero, i.size, i.bytes)) = some (some (.int .i64 0), 1, 8) := by kernel_rfl

theorem IRow.of_own {w : World} {base g n cap : Nat} {xs : List Int} (h : w.ownsRow base 2 1 (.slice (some ⟨g, 0, none⟩) n cap) n (xs.map (Value.int .i64))) : IRow w g xs := by
  have hl : xs.length = n := by simpa using h.1
  rcases h.2 with ⟨h', _⟩ | ⟨g', cap', cur, h', _, hg, hnc, _, hcs, htake⟩
  · simp at h'
  · simp only [Value.slice.injEq, Option.some.injEq, Addr.mk.injEq, and_true, true_and] at h'
    obtain ⟨rfl, rfl⟩ := h'
    exact ⟨cur, hg, by rw [hl]; simpa using htake, by omega⟩
theorem heap_alloc_at (w : World) (o : Obj) (N : Nat) (hN : N = w.heap.size) : (w.alloc o).heap[N]? = some o := by subst hN; exact heap_alloc_new w o
theorem World.heap_drew' (w : World) : w.drew.heap.size = w.heap.size := rfl
theorem World.size_alloc' (w : World) (o : Obj) : (w.alloc o).heap.size = w.heap.size + 1 := by simp
theorem IRow.made (w : World) (n N : Nat) (hN : N = w.heap.size) : IRow (w.alloc (.cells (madeCells #[.int .i64 0] n) 2)) N (List.replicate n 0) := by
  subst hN
  refine ⟨_, heap_alloc_new _ _, ?_, by simp [size_madeCells]⟩
  rw [toList_madeCells_one, List.map_replicate, List.length_replicate, List.take_of_length_le (by simp)]

set_option maxHeartbeats 4000000 in
set_option maxRecDepth 100000 in
theorem trace_calls (A : Option Addr) (c : Nat) (rows : List Row) (A1 : Option Addr) (c1 : Nat) (os : List Int) (at_ : Int) (w : World) (hr : RowsRd w w.heap.size A rows) (ho : IntsRd w w.heap.size A1 os) (hn : os.length ≤ 1000000) :
    Calls Try.prog 7 #[.slice A rows.length c, .slice A1 os.length c1, .int .i64 at_] w (TracePost w rows os at_) := by
  obtain ⟨i0, hi, hz0, hz1, hz2⟩ := info_parts Try.info2
  have hmk := run_make_row' (P := Try.prog) 29 2 (.int .i64 0) 8 Try.underlying29 Try.info2 rfl .i64 .i64 os.length (by omega) (by omega)
  obtain ⟨E, hE⟩ : ∃ E, E = check os.length rows := ⟨_, rfl⟩
  have HE := Lib.hid hE
  clear hE
  go_enter Try.func7, Try.ntmps7
  go_wp2_with fail
  refine (check_calls A c rows os.length w hr).mono ?_
  rintro e w1 ⟨rfl, hb1⟩
  rw [← HE.out]
  have HR0 := Lib.hid hr
  have HR := Lib.hid (hr.next hb1)
  have HO := Lib.hid (ho.next hb1)
  clear hr ho
  by_cases he : E = 0
  · subst he
    go_wp2_with fail
    go_loopw [24] (fun i wr => ∃ k : Nat, k ≤ os.length ∧ i = .int .i64 k ∧ Hid (∀ x ∈ os.take k, outOf x = false) ∧ wr = w1) (fun i _ => os.length - (intOf i).toNat)
    case atStart => exact ⟨0, by omega, rfl, by simp [Hid], rfl⟩
    case round =>
      obtain ⟨k, hk, rfl, HK, rfl⟩ := hrel
      by_cases hlt : k < os.length
      · obtain ⟨x, hxk⟩ := getElem?_of_lt hlt
        obtain ⟨b, off, rfl, hbl, cx⟩ := HO.out.at_ hxk
        by_cases hx : outOf x = true
        · have HF : Hid (traceErr rows os at_ = 1) := by
            show _ = _
            unfold traceErr
            rw [← HE.out, if_neg (by simp), if_pos (List.any_eq_true.2 ⟨x, List.mem_of_getElem? hxk, hx⟩)]
          have hx2 : x < -1125899906842624 ∨ 1125899906842624 < x := by simpa [outOf] using hx
          clear hx hxk
          rcases hx2 with hx2 | hx2
          · go_wp2_with fail
            go_ret3
            exact ⟨hb1, fun _ => by rw [HF.out]; rfl, fun h => by rw [HF.out] at h; omega⟩
          · have hx3 : ¬ x < -1125899906842624 := by omega
            go_wp2_with fail
            go_ret3
            exact ⟨hb1, fun _ => by rw [HF.out]; rfl, fun h => by rw [HF.out] at h; omega⟩
        · have hx2 : ¬ x < -1125899906842624 ∧ ¬ 1125899906842624 < x := by simpa [outOf] using hx
          obtain ⟨hx3, hx4⟩ := hx2
          have HN : Hid (∀ y ∈ os.take (k+1), outOf y = false) := by
            intro y hy
            rw [List.take_add_one, hxk] at hy
            rcases List.mem_append.1 hy with hy | hy
            · exact HK.out y hy
            · simp at hy; subst hy; simpa using hx
          clear hx hxk
          go_wp2_with fail
          go_roundw
          case measure => simp [intOf] <;> omega
          case rel => first | exact ⟨k + 1, by omega, by go_num, HN, trivial⟩ | exact ⟨k + 1, by omega, by go_num, HN, rfl⟩
      · have HOut : Hid (os.any outOf = false) := by
          show _ = _
          have hkk : k = os.length := by omega
          have := HK.out
          rw [hkk, List.take_length] at this
          rw [List.any_eq_false]
          intro x hx
          simp [this x hx]
        clear HK
        by_cases hat : 0 ≤ at_ ∧ at_ < (rows.length : Int)
        · obtain ⟨hat0, hat1⟩ := hat
          obtain ⟨q, rfl⟩ := Int.eq_ofNat_of_zero_le hat0
          have hql : q < rows.length := by omega
          obtain ⟨rq, hrq⟩ := getElem?_of_lt hql
          obtain ⟨br, offr, rfl, hbr, e0, e1, e2, e3, e4, e5⟩ := HR.out.at_ hrq
          by_cases hk1 : rq.kind = 1
          · have hE0 := HE.out
            have hall : ∀ r ∈ rows, rowRange r = true ∧ rowParty os.length r = true := by
              have : chk os.length 0 rows = 0 := by
                unfold check at hE0
                split at hE0
                · omega
                · exact hE0.symm
              exact chk_ok _ _ _ this
            have hn1 : 0 < os.length := by
              have := (hall rq (List.mem_of_getElem? hrq)).2
              simp [rowParty] at this
              omega
            obtain ⟨x0, hx0⟩ := getElem?_of_lt hn1
            obtain ⟨bo, oo, hA1, hbo, _⟩ := HO.out.at_ hx0
            subst hA1
            have hcs : ∀ j u, (os.map (Value.int .i64))[j]? = some u → ∀ W : World, Below wr.heap.size wr W → W.cell? ((⟨bo, oo, none⟩ : Addr).add j) = some u := by
              intro j u hu W hW
              obtain ⟨b', o', hA', _, hc'⟩ := HO.out.2 hn1
              simp only [Option.some.injEq, Addr.mk.injEq, and_true] at hA'
              obtain ⟨rfl, rfl⟩ := hA'
              rw [Addr.add_lit, hW.cell (p := ⟨bo, oo + j, none⟩) hbo]
              exact hc' j u hu
            have HC := Lib.hid hcs
            have HALL := Lib.hid hall
            have HRQ := Lib.hid hrq
            have hkk1 : (rq.kind != 1) = false := by simp [hk1]
            clear hE0 hall hcs hx0 hrq hk1
            go_upto_region 14 with fail
            go_cut [12] (fun s12 wx => ∃ p g gt cap : Nat, s12 = .pointer (some ⟨p, 0, none⟩) ∧ Trc wx p g gt os.length cap os.length os (List.replicate os.length 0) 0 ∧ Hid (w.heap.size ≤ p ∧ w.heap.size ≤ g ∧ w.heap.size ≤ gt) ∧ Below w.heap.size w wx)
            case first =>
              go_region_law (refine step_append_grows rfl (.tmp 49) (.tmp 50) 29 rfl 2 i0 (.int .i64 0) 1 8 Try.underlying29 hi hz0 hz1 hz2 rfl (by decide) _ 0 0 [] (by simp [Act.eval, Act.put]; rfl) (by simp) rfl (by simp) ⟨bo, oo, none⟩ os.length c1 (os.map (Value.int .i64)) (by simp [Act.eval, Act.put]) (by simp) (fun j u hu => HC.out j u hu _ (by repeat (first | exact Below.refl _ _ | apply Below.drew | refine Below.alloc ?_ (by simp <;> omega) _))) (ints_oneCell _ _) (by omega) (by simp only [maxLen]; omega) (by omega) ?_; intro v' w' hown hgr; obtain ⟨g, cap, hv, hge, hlt2⟩ := hown.form (by omega); subst hv)
              all_goals
                go_wp2_with fail
                go_meet
                have HO1 := IRow.of_own hown
                have hsz := hb1.size
                have hgs := hgr.size
                have hbw : Below w.heap.size w w' := by
                  refine Below.grown ?_ hgr (by simp <;> omega) (by simp)
                  first
                    | exact (hb1.alloc hsz _).drew
                    | exact ((hb1.alloc hsz _).alloc (by simp <;> omega) _).drew
                simp only [World.heap_drew', World.size_alloc'] at hge hgs
                refine ⟨_, g, _, cap, rfl, ⟨heap_alloc_at _ _ _ (by simp), ?_, ?_, rfl, by simp, by omega⟩, ⟨by omega, by omega, by omega⟩, ?_⟩
                · first | exact HO1.alloc _ | exact (HO1.alloc _).alloc _
                · first
                    | exact (IRow.made _ _ _ (by simp)).alloc _
                    | exact (((IRow.made _ _ _ (by simp)).drew).same (hgr.block _ (by simp <;> omega) (by simp))).alloc _
                    | exact ((((IRow.made _ _ _ (by simp)).alloc _).drew).same (hgr.block _ (by simp <;> omega) (by simp))).alloc _
                · have hbs := hbw.size
                  first
                    | exact hbw.alloc hbs _
                    | exact (hbw.alloc hbs _).alloc (by simp <;> omega) _
            case rest =>
              obtain ⟨p, g, gt, cap, rfl, hTr, HL, hbw⟩ := hcut
              have HNe : Hid (traceErr rows os q = 0) := by
                show _ = _
                unfold traceErr
                rw [← HE.out, if_neg (by simp), HOut.out, if_neg (by simp), if_neg (by omega), if_neg (by unfold kindAt; simp only [Int.toNat_natCast, HRQ.out]; simpa using hkk1)]
              have hrl : rows.length ≤ 9223372036854775807 := by
                have := HE.out
                unfold check at this
                split at this <;> omega
              clear HR HO HC HE HOut HRQ hkk1 e0 e1 e2 e3 e4 e5 hb1
              have HT0 := Lib.hid hTr
              clear hTr
              go_wp2_with fail
              go_loopw [59] (fun i wz => ∃ (k : Nat) (s : WSt), k ≤ rows.length ∧ i = .int .i64 k ∧ Trc wz p g gt os.length cap os.length s.bal s.tr s.lost ∧ Hid (s = runW rows q (initW os) k) ∧ Below w.heap.size w wz) (fun i _ => rows.length - (intOf i).toNat)
              case atStart => exact ⟨0, initW os, by omega, rfl, HT0.out, rfl, hbw⟩
              case round =>
                clear HT0 hbw
                obtain ⟨k, s, hk, rfl, hT, HS, hbz⟩ := hrel
                by_cases hlt : k < rows.length
                · obtain ⟨r, hrk⟩ := getElem?_of_lt hlt
                  obtain ⟨_, hval⟩ := HALL.out r (List.mem_of_getElem? hrk)
                  have hrng := (HALL.out r (List.mem_of_getElem? hrk)).1
                  obtain ⟨b', o', hA', hbr', e0, e1, e2, e3, e4, e5⟩ := (HR0.out.below hbz).at_ hrk
                  simp only [Option.some.injEq, Addr.mk.injEq, and_true] at hA'
                  obtain ⟨rfl, rfl⟩ := hA'
                  have hbs : br < wr.heap.size := by have := hbz.size; omega
                  have HN : Hid (runW rows q (initW os) (k+1) = stepW q k s r) := by
                    rw [HS.out]; exact runW_succ hrk
                  clear HS hrk
                  obtain ⟨d, kd, f, t, am, wo⟩ := r
                  simp only [rowParty, rowRange, decide_eq_true_eq] at hval hrng
                  obtain ⟨x, rfl⟩ := Int.eq_ofNat_of_zero_le hval.1
                  obtain ⟨y, rfl⟩ := Int.eq_ofNat_of_zero_le hval.2.2.1
                  have hxn : x < os.length := by omega
                  have hyn : y < os.length := by omega
                  have hxy : x ≠ y := by omega
                  have hkd : 1 ≤ kd ∧ kd ≤ 3 := by omega
                  clear hval hrng
                  dsimp only at e0 e1 e2 e3 e4 e5
                  have k1 := hT.c1
                  have hp := hT.plt
                  have hgt := hT.t.lt
                  have ky := hT.t.getD (k := y) (by rw [hT.lt]; exact hyn)
                  have fy := hT.t.frozen y
                  have hbz1 := hbz.alloc hbz.size (.cells #[.int .i64 d, .int .i64 kd, .int .i64 (x : Int), .int .i64 (y : Int), .int .i64 am, .int .i64 wo] 23)
                  have hbsz := hbz.size
                  rcases Nat.lt_trichotomy k q with hkq | hkq | hkq
                  · have hne : ((k : Int) == (q : Int)) = false := by simp; omega
                    have HS1 : Hid (stepW q k s ⟨d, kd, x, y, am, wo⟩ = { s with bal := moveBal s.bal ⟨d, kd, x, y, am, wo⟩ }) := by
                      show _ = _
                      unfold stepW
                      rw [if_neg (by omega), if_neg (by omega), if_neg (by omega)]
                    go_wp2_with fail
                    refine (move_calls p g gt os.length cap os.length s.bal s.tr s.lost ⟨d, kd, x, y, am, wo⟩ x y _ (hT.alloc _) rfl rfl hxn hyn).mono ?_
                    rintro e w2 ⟨rfl, hT2, hD2⟩
                    have hT3 : Trc w2 p g gt os.length cap os.length (moveBal s.bal ⟨d, kd, x, y, am, wo⟩) s.tr s.lost := hT2
                    have hb2 := hbz1.trans (hD2.at_ w.heap.size (by simp <;> omega) HL.out.1 HL.out.2.1 HL.out.2.2)
                    clear hT2 hD2
                    go_wp2_with fail
                    go_roundw
                    case measure => simp [intOf] <;> omega
                    case rel => exact ⟨k + 1, _, by omega, by go_num, hT3, (HN.out.trans HS1.out).symm, hb2⟩
                  · subst hkq
                    have HS1 : Hid (∃ bb tt ll, (bb, tt, ll) = ((moveBal s.bal ⟨d, kd, x, y, am, wo⟩), (clipToW (moveBal s.bal ⟨d, kd, x, y, am, wo⟩) os.length (s.tr.set y am, s.lost))) ∧ stepW k k s ⟨d, kd, x, y, am, wo⟩ = ⟨bb, tt, ll⟩) := by
                      refine ⟨_, _, _, rfl, ?_⟩
                      have hA : ¬ ((k : Int) < (k : Int) ∧ kd ≠ 2) := by omega
                      have hB : (k : Int) ≤ (k : Int) := by omega
                      have hl : (moveBal s.bal ⟨d, kd, x, y, am, wo⟩).length = os.length := by simp [moveBal, hT.lb]
                      simp only [stepW, if_true, if_neg hA, if_pos hB, Int.toNat_natCast, hl]
                    go_wp2_with fail
                    go_region
                    all_goals go_wp2_with fail
                    all_goals
                      refine (move_calls p g gt os.length cap os.length s.bal (s.tr.set y am) s.lost ⟨d, kd, x, y, am, wo⟩ x y _ ?_ rfl rfl hxn hyn).mono ?_
                      · first
                          | exact ((hT.setT _ _).alloc _).drew
                          | exact ((hT.alloc _).setT _ _).drew
                      rintro e w2 ⟨rfl, hT2, hD2⟩
                      have hT3 : Trc w2 p g gt os.length cap os.length (moveBal s.bal ⟨d, kd, x, y, am, wo⟩) (s.tr.set y am) s.lost := hT2
                      have hb2 : Below w.heap.size w w2 := by
                        refine Below.trans ?_ (hD2.at_ w.heap.size (by simp <;> omega) HL.out.1 HL.out.2.1 HL.out.2.2)
                        first
                          | exact ((hbz.setCell (p := ⟨gt, y, none⟩) HL.out.2.2 _).alloc (by simp [World.setCell]; omega) _).drew
                          | exact (hbz1.setCell (p := ⟨gt, y, none⟩) HL.out.2.2 _).drew
                      clear hT2 hD2
                      go_wp2_with fail
                      refine (clip_calls p g gt os.length cap os.length _ _ _ _ hT3 (by omega)).mono ?_
                      rintro e w3 ⟨rfl, hT4, hD4⟩
                      have hb3 := hb2.trans (hD4.at_ w.heap.size hb2.size HL.out.1 HL.out.2.1 HL.out.2.2)
                      clear hD4
                      go_wp2_with fail
                      go_roundw
                      case measure => simp [intOf] <;> omega
                      case rel =>
                        obtain ⟨bb, tt, ll, heq, hst⟩ := HS1.out
                        refine ⟨k + 1, _, by omega, by go_num, ?_, (HN.out.trans hst).symm, hb3⟩
                        simp only [Prod.mk.injEq] at heq
                        obtain ⟨rfl, h5⟩ := heq
                        have h6 : tt = (clipToW (moveBal s.bal ⟨d, kd, x, y, am, wo⟩) os.length (s.tr.set y am, s.lost)).1 := by rw [← h5]
                        have h7 : ll = (clipToW (moveBal s.bal ⟨d, kd, x, y, am, wo⟩) os.length (s.tr.set y am, s.lost)).2 := by rw [← h5]
                        subst h6 h7
                        exact hT4
                  · have hne : ((k : Int) == (q : Int)) = false := by simp; omega
                    have hl : ∀ bb : List Int, bb.length = os.length → (moveBal bb ⟨d, kd, x, y, am, wo⟩).length = os.length := fun bb hbb => by simp [moveBal, hbb]
                    have HLm := Lib.hid hl
                    clear hl
                    by_cases hk2 : kd = 2
                    · have hk2' : (kd != 2) = false := by simp [hk2]
                      have HS1 : Hid (stepW q k s ⟨d, kd, x, y, am, wo⟩ = ⟨moveBal s.bal ⟨d, kd, x, y, am, wo⟩, (clipToW (moveBal s.bal ⟨d, kd, x, y, am, wo⟩) os.length (s.tr, s.lost)).1, (clipToW (moveBal s.bal ⟨d, kd, x, y, am, wo⟩) os.length (s.tr, s.lost)).2⟩) := by
                        show _ = _
                        have hA : ¬ ((k : Int) = (q : Int)) := by omega
                        have hB : (q : Int) ≤ (k : Int) := by omega
                        have hC : ¬ ((q : Int) < (k : Int) ∧ kd ≠ 2) := by omega
                        simp only [stepW, if_neg hA, if_neg hC, if_pos hB, HLm.out s.bal hT.lb]
                      clear hk2
                      go_wp2_with fail
                      refine (move_calls p g gt os.length cap os.length s.bal s.tr s.lost ⟨d, kd, x, y, am, wo⟩ x y _ (hT.alloc _) rfl rfl hxn hyn).mono ?_
                      rintro e w2 ⟨rfl, hT2, hD2⟩
                      have hT3 : Trc w2 p g gt os.length cap os.length (moveBal s.bal ⟨d, kd, x, y, am, wo⟩) s.tr s.lost := hT2
                      have hb2 := hbz1.trans (hD2.at_ w.heap.size (by simp <;> omega) HL.out.1 HL.out.2.1 HL.out.2.2)
                      clear hT2 hD2
                      go_wp2_with fail
                      refine (clip_calls p g gt os.length cap os.length _ _ _ _ hT3 (by omega)).mono ?_
                      rintro e w3 ⟨rfl, hT4, hD4⟩
                      have hb3 := hb2.trans (hD4.at_ w.heap.size hb2.size HL.out.1 HL.out.2.1 HL.out.2.2)
                      clear hD4
                      go_wp2_with fail
                      go_roundw
                      case measure => simp [intOf] <;> omega
                      case rel => exact ⟨k + 1, _, by omega, by go_num, hT4, (HN.out.trans HS1.out).symm, hb3⟩
                    · have hk2' : (kd != 2) = true := by simp [hk2]
                      have hkk : (kd == 3) = true ∨ (kd == 3) = false ∧ (kd == 1) = true := by
                        by_cases h3 : kd = 3
                        · exact .inl (by simp [h3])
                        · exact .inr ⟨by simp [h3], by simp; omega⟩
                      obtain ⟨pp, hpp⟩ : ∃ pp, pp = if kd = 3 then y else x := ⟨_, rfl⟩
                      obtain ⟨qq, hqq⟩ : ∃ qq, qq = if kd = 3 then x else y := ⟨_, rfl⟩
                      have hP : payer ⟨d, kd, x, y, am, wo⟩ = pp := by rw [hpp]; unfold payer; dsimp only; split <;> rfl
                      have hQ : payee ⟨d, kd, x, y, am, wo⟩ = qq := by rw [hqq]; unfold payee; dsimp only; split <;> rfl
                      have hppn : pp < os.length := by rw [hpp]; split <;> assumption
                      have hqqn : qq < os.length := by rw [hqq]; split <;> assumption
                      have hpq : pp ≠ qq := by rw [hpp, hqq]; split <;> omega
                      have HPQ : Hid (payer ⟨d, kd, x, y, am, wo⟩ = pp ∧ payee ⟨d, kd, x, y, am, wo⟩ = qq) := ⟨hP, hQ⟩
                      have HKK := Lib.hid hkk
                      have HS1 : Hid (∃ nn, nn = spentW (s.bal.getD pp 0) (s.tr.getD pp 0) am ∧ stepW q k s ⟨d, kd, x, y, am, wo⟩ = ⟨moveBal s.bal ⟨d, kd, x, y, am, wo⟩, (clipToW (moveBal s.bal ⟨d, kd, x, y, am, wo⟩) os.length (spendTr s.tr pp qq nn kd, spendLost s.lost nn kd)).1, (clipToW (moveBal s.bal ⟨d, kd, x, y, am, wo⟩) os.length (spendTr s.tr pp qq nn kd, spendLost s.lost nn kd)).2⟩) := by
                        refine ⟨_, rfl, ?_⟩
                        have hA : ¬ ((k : Int) = (q : Int)) := by omega
                        have hB : (q : Int) ≤ (k : Int) := by omega
                        have hC : (q : Int) < (k : Int) ∧ kd ≠ 2 := ⟨by omega, hk2⟩
                        simp only [stepW, if_neg hA, if_pos hC, if_pos hB, HLm.out s.bal hT.lb, spentAt, hP, hQ, Int.toNat_natCast]
                      clear hk2 hkk hP hQ hpp hqq
                      go_wp2_with fail
                      refine (spend_calls p g gt os.length cap os.length s.bal s.tr s.lost ⟨d, kd, x, y, am, wo⟩ pp qq _ (hT.alloc _) HPQ.out.1 HPQ.out.2 hppn hqqn hpq HKK.out).mono ?_
                      rintro e w2 ⟨rfl, hT2, hD2⟩
                      have hb2 := hbz1.trans (hD2.at_ w.heap.size (by simp <;> omega) HL.out.1 HL.out.2.1 HL.out.2.2)
                      have hx2 : w2.heap[wr.heap.size]? = some (.cells #[.int .i64 d, .int .i64 kd, .int .i64 (x : Int), .int .i64 (y : Int), .int .i64 am, .int .i64 wo] 23 (0, 0)) := by
                        rw [hD2.block wr.heap.size (by simp) (by omega) (by have := hT.b.lt; omega) (by omega)]
                        exact heap_alloc_new _ _
                      have d0 : w2.cell? ⟨wr.heap.size, 0, none⟩ = some (.int .i64 d) := by rw [cell_of_row _ _ _ _ _ _ hx2]; rfl
                      have d1 : w2.cell? ⟨wr.heap.size, 1, none⟩ = some (.int .i64 kd) := by rw [cell_of_row _ _ _ _ _ _ hx2]; rfl
                      have d2 : w2.cell? ⟨wr.heap.size, 2, none⟩ = some (.int .i64 (x : Int)) := by rw [cell_of_row _ _ _ _ _ _ hx2]; rfl
                      have d3 : w2.cell? ⟨wr.heap.size, 3, none⟩ = some (.int .i64 (y : Int)) := by rw [cell_of_row _ _ _ _ _ _ hx2]; rfl
                      have d4 : w2.cell? ⟨wr.heap.size, 4, none⟩ = some (.int .i64 am) := by rw [cell_of_row _ _ _ _ _ _ hx2]; rfl
                      have d5 : w2.cell? ⟨wr.heap.size, 5, none⟩ = some (.int .i64 wo) := by rw [cell_of_row _ _ _ _ _ _ hx2]; rfl
                      clear hD2 hx2
                      go_wp2_with fail
                      refine (move_calls p g gt os.length cap os.length _ _ _ ⟨d, kd, x, y, am, wo⟩ x y _ hT2 rfl rfl hxn hyn).mono ?_
                      rintro e w3 ⟨rfl, hT4, hD4⟩
                      have hb3 := hb2.trans (hD4.at_ w.heap.size hb2.size HL.out.1 HL.out.2.1 HL.out.2.2)
                      obtain ⟨tt, htt⟩ : ∃ tt, tt = spendTr s.tr pp qq (spentW (s.bal.getD pp 0) (s.tr.getD pp 0) am) kd := ⟨_, rfl⟩
                      obtain ⟨ll, hll⟩ : ∃ ll, ll = spendLost s.lost (spentW (s.bal.getD pp 0) (s.tr.getD pp 0) am) kd := ⟨_, rfl⟩
                      have hT5 : Trc w3 p g gt os.length cap os.length (moveBal s.bal ⟨d, kd, x, y, am, wo⟩) tt ll := by rw [htt, hll]; exact hT4
                      have HTT := Lib.hid htt
                      have HLL := Lib.hid hll
                      clear hT2 hT4 hD4 htt hll
                      go_wp2_with fail
                      refine (clip_calls p g gt os.length cap os.length _ _ _ _ hT5 (by omega)).mono ?_
                      rintro e w4 ⟨rfl, hT6, hD6⟩
                      have hb4 := hb3.trans (hD6.at_ w.heap.size hb3.size HL.out.1 HL.out.2.1 HL.out.2.2)
                      clear hD6
                      go_wp2_with fail
                      go_roundw
                      case measure => simp [intOf] <;> omega
                      case rel =>
                        obtain ⟨nn, hnn, hst⟩ := HS1.out
                        refine ⟨k + 1, _, by omega, by go_num, ?_, (HN.out.trans hst).symm, hb4⟩
                        subst hnn
                        rw [← HTT.out, ← HLL.out]
                        exact hT6
                · have hkk : k = rows.length := by omega
                  have k1 := hT.c1
                  have k2 := hT.c2
                  have hp := hT.plt
                  have HS2 := HS.out
                  rw [hkk] at HS2
                  have HS3 := Lib.hid HS2
                  clear HS2 HS hkk
                  go_wp2_with fail
                  go_quiet (fail)
                  go_wp2_with fail
                  go_ret3
                  refine ⟨hbz.drewN _, fun h => absurd HNe.out h, fun _ => ⟨gt, HL.out.2.2, ?_, ?_⟩⟩
                  · rw [← HS3.out]; rfl
                  · rw [← HS3.out]; exact hT.t.drewN _
          · have HF : Hid (traceErr rows os q = 13) := by
              show _ = _
              unfold traceErr
              rw [← HE.out, if_neg (by simp), HOut.out, if_neg (by simp), if_neg (by omega), if_pos (by unfold kindAt; simp only [Int.toNat_natCast, hrq]; exact hk1)]
            have hk2 : (rq.kind != 1) = true := by simpa using hk1
            clear hk1 hrq
            go_wp2_with fail
            go_ret3
            exact ⟨hb1, fun _ => by rw [HF.out]; rfl, fun h => by rw [HF.out] at h; omega⟩
        · have HF : Hid (traceErr rows os at_ = 1) := by
            show _ = _
            unfold traceErr
            rw [← HE.out, if_neg (by simp), HOut.out, if_neg (by simp), if_pos (by omega)]
          by_cases hneg : at_ < 0
          · clear hat
            go_wp2_with fail
            go_ret3
            exact ⟨hb1, fun _ => by rw [HF.out]; rfl, fun h => by rw [HF.out] at h; omega⟩
          · have hge : (rows.length : Int) ≤ at_ := by omega
            clear hat
            go_wp2_with fail
            go_ret3
            exact ⟨hb1, fun _ => by rw [HF.out]; rfl, fun h => by rw [HF.out] at h; omega⟩
  · have HF : Hid (traceErr rows os at_ = E) := by
      show _ = _
      unfold traceErr
      rw [← HE.out, if_pos he]
    have he2 : (E != 0) = true := by simpa using he
    have HN := Lib.hid he
    clear he
    go_wp2_with fail
    go_ret3
    exact ⟨hb1, fun _ => by rw [HF.out]; rfl, fun h => by rw [HF.out] at h; exact absurd h HN.out⟩

end Go.Proofs.Ytlljmiddgadcpaa

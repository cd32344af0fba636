/- The definition's Trace. -/
import Derived.Test.YtdkllifoglibcaaTraceRef
set_option linter.unusedVariables false
set_option linter.unusedSimpArgs false
namespace Go.Proofs.Ytdkllifoglibcaa
open Go.RowKit

theorem spentW_alt (bx tx am : Int) : spentW bx tx am = if tx < pos (wrap64 (am - wrap64 (pos bx - tx))) then tx else pos (wrap64 (am - wrap64 (pos bx - tx))) := by
  unfold spentW
  generalize pos (wrap64 (am - wrap64 (pos bx - tx))) = z
  split <;> split <;> omega

/-- two rows of numbers in memory, apart -/
structure Two (w : World) (gb gt n : Nat) (bal tr : List Int) : Prop where
  b : IRow w gb bal
  t : IRow w gt tr
  lb : bal.length = n
  lt : tr.length = n
  ne : gb ≠ gt
theorem Two.alloc {w : World} {gb gt n : Nat} {bal tr : List Int} (h : Two w gb gt n bal tr) (o : Obj) : Two (w.alloc o) gb gt n bal tr := ⟨h.b.alloc o, h.t.alloc o, h.lb, h.lt, h.ne⟩
theorem Two.drewN {w : World} {gb gt n : Nat} {bal tr : List Int} (h : Two w gb gt n bal tr) (k : Nat) : Two (w.drewN k) gb gt n bal tr := ⟨h.b, h.t, h.lb, h.lt, h.ne⟩
theorem Two.drew {w : World} {gb gt n : Nat} {bal tr : List Int} (h : Two w gb gt n bal tr) : Two w.drew gb gt n bal tr := ⟨h.b, h.t, h.lb, h.lt, h.ne⟩
theorem Two.setB {w : World} {gb gt n : Nat} {bal tr : List Int} (h : Two w gb gt n bal tr) (k : Nat) (v : Int) : Two (w.setCell ⟨gb, k, none⟩ (.int .i64 v)) gb gt n (bal.set k v) tr :=
  ⟨h.b.set_ k v, h.t.other (a := ⟨gb, k, none⟩) (Ne.symm h.ne) _, by simpa using h.lb, h.lt, h.ne⟩
theorem Two.setT {w : World} {gb gt n : Nat} {bal tr : List Int} (h : Two w gb gt n bal tr) (k : Nat) (v : Int) : Two (w.setCell ⟨gt, k, none⟩ (.int .i64 v)) gb gt n bal (tr.set k v) :=
  ⟨h.b.other (a := ⟨gt, k, none⟩) h.ne _, h.t.set_ k v, h.lb, by simpa using h.lt, h.ne⟩

set_option maxHeartbeats 4000000 in
set_option maxRecDepth 100000 in
theorem traceRef_calls (A : Option Addr) (c : Nat) (rows : List Row) (A1 : Option Addr) (c1 : Nat) (os : List Int) (at_ : Int) (w : World) (hr : RowsRd w w.heap.size A rows) (ho : IntsRd w w.heap.size A1 os) (hn : os.length ≤ 1000000) :
    Calls Try.prog 19 #[.slice A rows.length c, .slice A1 os.length c1, .int .i64 at_] w (TraceRefPost w rows os at_) := by
  obtain ⟨i0, hi, hz0, hz1, hz2⟩ := info_parts Try.info2
  have hmk := run_make_row' (P := Try.prog) 33 2 (.int .i64 0) 8 Try.underlying33 Try.info2 rfl .i64 .i64 os.length (by omega) (by omega)
  obtain ⟨V, hV⟩ : ∃ V, V = traceErr rows os at_ := ⟨_, rfl⟩
  have HV := Lib.hid hV
  clear hV
  go_enter Try.func19, Try.ntmps19
  go_wp2_with fail
  refine (checkTrace_calls A c rows A1 c1 os at_ w hr ho hn).mono ?_
  rintro e w1 ⟨rfl, hb1⟩
  rw [← HV.out]
  have HR0 := Lib.hid hr
  have HO := Lib.hid (ho.next hb1)
  clear hr ho
  by_cases he : V = 0
  · subst he
    have HF : Hid (check os.length rows = 0 ∧ 0 ≤ at_ ∧ at_ < rows.length ∧ ∃ rq, rows[at_.toNat]? = some rq) := by
      have := HV.out
      unfold traceErr at this
      split at this
      · omega
      · split at this
        · omega
        · split at this
          · omega
          · rename_i hc _ h3
            refine ⟨by omega, by omega, by omega, getElem?_of_lt (by omega)⟩
    have hall : ∀ r ∈ rows, rowRange r = true ∧ rowParty os.length r = true := by
      have h0 := HF.out.1
      have : chk os.length 0 rows = 0 := by
        unfold check at h0
        split at h0
        · omega
        · exact h0
      exact chk_ok _ _ _ this
    have hrl : rows.length ≤ 256 := by
      have h0 := HF.out.1
      unfold check at h0
      split at h0 <;> omega
    have hn1 : 0 < os.length := by
      obtain ⟨_, _, _, rq, hrq⟩ := HF.out
      have := (hall rq (List.mem_of_getElem? hrq)).2
      simp [rowParty] at this
      omega
    have HALL := Lib.hid hall
    obtain ⟨x0, hx0⟩ := getElem?_of_lt hn1
    obtain ⟨bo, oo, hA1, hbo, _⟩ := HO.out.at_ hx0
    subst hA1
    have hcs : ∀ j u, (os.map (Value.int .i64))[j]? = some u → ∀ W : World, Below w1.heap.size w1 W → W.cell? ((⟨bo, oo, none⟩ : Addr).add j) = some u := by
      intro j u hu W hW
      obtain ⟨b', o', hA', _, hc'⟩ := HO.out.2 hn1
      simp only [Option.some.injEq, Addr.mk.injEq, and_true] at hA'
      obtain ⟨rfl, rfl⟩ := hA'
      rw [Addr.add_lit, hW.cell (p := ⟨bo, oo + j, none⟩) hbo]
      exact hc' j u hu
    have HC := Lib.hid hcs
    clear hall hcs hx0 HO
    go_wp2_with (at_builtin; refine wpList_append_own _ rfl (.tmp 28) (.tmp 29) 33 rfl w1.heap.size 2 i0 (.int .i64 0) 1 8 Try.underlying33 hi hz0 hz1 hz2 rfl (by decide) (.slice (some ⟨w1.heap.size, 0, none⟩) 0 0) 0 [] rfl ?own ⟨bo, oo, none⟩ os.length c1 (os.map (Value.int .i64)) rfl (by simp) ?cells (ints_oneCell _ _) (by simp only [maxLen]; omega) (by omega) (by simp) ?_)
    case own => exact ⟨by simp, .inr ⟨w1.heap.size, 0, #[], rfl, Nat.le_refl _, heap_alloc_new _ _, Nat.le_refl _, by simp [maxLen], rfl, rfl⟩⟩
    case cells => exact fun j u hu => HC.out j u hu _ ((Below.refl _ _).alloc (Nat.le_refl _) _)
    intro v' w2 hown hgr _
    obtain ⟨g, cap, hv, hge, hlt2⟩ := hown.form (by omega)
    subst hv
    have hsz := hb1.size
    have hb2 : Below w.heap.size w w2 := by
      refine Below.grown (hb1.alloc hsz _) hgr (by simp <;> omega) ?_
      intro k hk
      simp [Value.ownBlock] at hk
      omega
    have HO1 : IRow w2 g os := IRow.of_own hown
    clear hown hgr HC
    have hT0 : Two (w2.alloc (.cells (madeCells #[.int .i64 0] os.length) 2)) g w2.heap.size os.length os (List.replicate os.length 0) :=
      ⟨HO1.alloc _, IRow.made _ _ _ rfl, rfl, by simp, by omega⟩
    have HT0 := Lib.hid hT0
    have HL : Hid (w.heap.size ≤ g ∧ w.heap.size ≤ w2.heap.size) := ⟨by omega, hb2.size⟩
    have hbm := hb2.alloc hb2.size (.cells (madeCells #[.int .i64 0] os.length) 2)
    have HBM := Lib.hid hbm
    clear hT0 HO1 hbm
    go_wp2_with fail
    go_loopw [12, 13] (fun l i wz => ∃ (k : Nat) (s : WSt), k ≤ rows.length ∧ i = .int .i64 k ∧ l = .int .i64 s.lost ∧ Two wz g w2.heap.size os.length s.bal s.tr ∧ Hid (s = runR rows at_ (initW os) k) ∧ Below w.heap.size w wz) (fun _ i _ => rows.length - (intOf i).toNat)
    case atStart => exact ⟨0, initW os, by omega, rfl, rfl, HT0.out, rfl, HBM.out⟩
    case round =>
      clear HT0 HBM hb1 hb2
      obtain ⟨gt, hgt⟩ : ∃ gt, gt = w2.heap.size := ⟨_, rfl⟩
      rw [← hgt] at hrel HL ⊢
      clear hgt
      obtain ⟨k, s, hk, rfl, rfl, hT, HS, hbz⟩ := hrel
      by_cases hlt : k < rows.length
      · obtain ⟨r, hrk⟩ := getElem?_of_lt hlt
        obtain ⟨hrng, hval⟩ := HALL.out r (List.mem_of_getElem? hrk)
        obtain ⟨br, offr, rfl, hbr, e0, e1, e2, e3, e4, e5⟩ := (HR0.out.below hbz).at_ hrk
        have hwz := hbz.size
        have hbs : br < wr.heap.size := by omega
        have HN : Hid (runR rows at_ (initW os) (k+1) = stepR at_ k s r) := by
          rw [HS.out]; exact runR_succ hrk
        clear HS hrk
        obtain ⟨d, kd, f, t, am, wo⟩ := r
        simp only [rowParty, rowRange, decide_eq_true_eq] at hval hrng
        have hgl := hT.b.lt
        have hgtl := hT.t.lt
        by_cases hk2 : kd = 2
        · have HS1 : Hid (stepR at_ k s ⟨d, kd, f, t, am, wo⟩ = s) := by
            show _ = _
            simp only [stepR, hk2, if_true]
          have b2 : (kd == 2) = true := by simp [hk2]
          have b3 : (kd == 3) = false := by simp [hk2]
          dsimp only at e0 e1 e2 e3 e4 e5
          clear hk2 hval hrng
          go_wp2_with fail
          go_quiet (fail)
          go_wp2_with fail
          go_roundw
          case measure => simp [intOf] <;> omega
          case rel => exact ⟨k + 1, s, by omega, by go_num, rfl, (hT.alloc _).drewN _, by rw [HN.out, HS1.out]; rfl, (hbz.alloc hwz _).drewN _⟩
        · obtain ⟨pp, qq, hpq⟩ : ∃ pp qq : Nat, (kd = 3 ∧ t = pp ∧ f = qq ∨ kd = 1 ∧ f = pp ∧ t = qq) ∧ pp < os.length ∧ qq < os.length ∧ pp ≠ qq := by
            by_cases h3 : kd = 3
            · exact ⟨t.toNat, f.toNat, .inl ⟨h3, by omega, by omega⟩, by omega, by omega, by omega⟩
            · exact ⟨f.toNat, t.toNat, .inr ⟨by omega, by omega, by omega⟩, by omega, by omega, by omega⟩
          obtain ⟨hcase, hpn, hqn, hne⟩ := hpq
          have hne2 : qq ≠ pp := Ne.symm hne
          have b2 : (kd == 2) = false := by simp [hk2]
          have HSt : Hid (∃ bb cc, bb = moveR s.bal pp qq am ∧ cc = clipToR bb os.length (partR at_ k s ⟨d, kd, f, t, am, wo⟩) ∧ stepR at_ k s ⟨d, kd, f, t, am, wo⟩ = ⟨bb, cc.1, cc.2⟩) := by
            refine ⟨_, _, rfl, rfl, ?_⟩
            have h1 : (payer ⟨d, kd, f, t, am, wo⟩).toNat = pp := by unfold payer; dsimp only; split <;> omega
            have h2 : (payee ⟨d, kd, f, t, am, wo⟩).toNat = qq := by unfold payee; dsimp only; split <;> omega
            simp only [stepR, if_neg hk2, h1, h2, hT.lt]
          have HPa : Hid (partR at_ k s ⟨d, kd, f, t, am, wo⟩ = if (k : Int) = at_ then (s.tr.set qq am, s.lost) else (spendTr s.tr pp qq (spentW (s.bal.getD pp 0) (s.tr.getD pp 0) am) kd, spendLost s.lost (spentW (s.bal.getD pp 0) (s.tr.getD pp 0) am) kd)) := by
            have h1 : (payer ⟨d, kd, f, t, am, wo⟩).toNat = pp := by unfold payer; dsimp only; split <;> omega
            have h2 : (payee ⟨d, kd, f, t, am, wo⟩).toNat = qq := by unfold payee; dsimp only; split <;> omega
            show _ = _
            simp only [partR, spentAt, h1, h2]
          have ktx := hT.t.getD (k := pp) (by rw [hT.lt]; exact hpn)
          have kty := hT.t.getD (k := qq) (by rw [hT.lt]; exact hqn)
          have kbx := hT.b.getD (k := pp) (by rw [hT.lb]; exact hpn)
          have ftx := hT.t.frozen pp
          have fty := hT.t.frozen qq
          obtain ⟨tx, htx⟩ : ∃ tv, tv = s.tr.getD pp 0 := ⟨_, rfl⟩
          obtain ⟨ty, hty⟩ : ∃ tv, tv = s.tr.getD qq 0 := ⟨_, rfl⟩
          obtain ⟨bx, hbx⟩ : ∃ bv, bv = s.bal.getD pp 0 := ⟨_, rfl⟩
          rw [← htx] at ktx
          rw [← hty] at kty
          rw [← hbx] at kbx
          have HTX := Lib.hid htx
          have HTY := Lib.hid hty
          have HBX := Lib.hid hbx
          have ngt : g ≠ gt := hT.ne
          clear htx hty hbx hval hrng hk2
          dsimp only at e0 e1 e2 e3 e4 e5
          rcases hcase with ⟨hk3, h4, h5⟩ | ⟨hk3, h4, h5⟩
          all_goals
            first
              | (have b3 : (kd == 3) = true := by simp [hk3]
                 have b1 : (kd == 1) = false := by simp [hk3]
                 have HKD : Hid (kd = 3) := hk3
                 clear hk3
                 subst h4 h5
                 go_wp2_with fail
                 go_quiet (fail)
                 go_wp2_with fail
                 go_quiet (fail)
                 go_upto_if 60 with fail)
              | (have b3 : (kd == 3) = false := by simp [hk3]
                 have b1 : (kd == 1) = true := by simp [hk3]
                 have HKD : Hid (kd = 1) := hk3
                 clear hk3
                 subst h4 h5
                 go_wp2_with fail
                 go_quiet (fail)
                 go_upto_if 60 with fail)
          all_goals
            go_cut [12] (fun s12 wx => ∃ (tt : List Int) (ll : Int), s12 = .int .i64 ll ∧ Two wx g gt os.length s.bal tt ∧ Hid ((tt, ll) = if (k : Int) = at_ then (s.tr.set qq am, s.lost) else (spendTr s.tr pp qq (spentW (s.bal.getD pp 0) (s.tr.getD pp 0) am) kd, spendLost s.lost (spentW (s.bal.getD pp 0) (s.tr.getD pp 0) am) kd)) ∧ wx.cell? ⟨wr.heap.size, 4, none⟩ = some (.int .i64 am) ∧ Below w.heap.size w wx)
            case first =>
              by_cases hka : (k : Int) = at_
              · have hkb : ((k : Int) == at_) = true := by simp [hka]
                have HKA := Lib.hid hka
                clear hka
                go_wp2_with fail
                go_meet
                exact ⟨s.tr.set qq am, s.lost, rfl, ((hT.alloc _).drewN _).setT _ _, by show _ = _; rw [if_pos HKA.out], by go_simp, ((hbz.alloc hwz _).drewN _).setCell (p := ⟨gt, qq, none⟩) HL.out.2 _⟩
              · have hkb : ((k : Int) == at_) = false := by simp [hka]
                have HKA := Lib.hid hka
                clear hka
                go_wp2_with fail
                all_goals go_quiet (fail)
                all_goals go_wp2_with fail
                all_goals go_quiet (fail)
                all_goals go_wp2_with fail
                all_goals go_meet
                all_goals
                  first
                    | (have hkd3 : kd = 3 := HKD.out
                       refine ⟨_, _, rfl, ((hT.alloc _).drewN _).setT _ _, ?_, by go_simp, ((hbz.alloc hwz _).drewN _).setCell (p := ⟨gt, pp, none⟩) HL.out.2 _⟩
                       clear hkd3)
                    | (have hkd1 : kd = 1 := HKD.out
                       refine ⟨_, _, rfl, (((hT.alloc _).drewN _).setT _ _).setT _ _, ?_, by go_simp, (((hbz.alloc hwz _).drewN _).setCell (p := ⟨gt, pp, none⟩) HL.out.2 _).setCell (p := ⟨gt, qq, none⟩) HL.out.2 _⟩
                       clear hkd1)
                all_goals
                  clear e0 e1 e2 e3 e4 e5 ktx kty kbx ftx fty
                  show _ = _
                  rw [if_neg HKA.out]
                  refine Prod.ext ?_ ?_
                  · dsimp only
                    unfold spendTr
                    rw [spentW_alt]
                    unfold pos
                    rw [HKD.out, ← HTX.out, ← HTY.out, ← HBX.out]
                    first | rw [if_pos rfl] | rw [if_neg (by decide)]
                    repeat' split
                    all_goals (try simp only [Int.zero_sub, Int.sub_zero, Int.add_zero] at *)
                    all_goals first | rfl | (exfalso; omega) | (simp [Int.sub_self, wrap64]; done)
                  · dsimp only
                    unfold spendLost
                    rw [spentW_alt]
                    unfold pos
                    rw [HKD.out, ← HTX.out, ← HBX.out]
                    first | rw [if_pos rfl] | rw [if_neg (by decide)]
                    repeat' split
                    all_goals (try simp only [Int.zero_sub, Int.sub_zero, Int.add_zero] at *)
                    all_goals first | rfl | (exfalso; omega) | (simp [Int.sub_self, wrap64]; done)
            case rest =>
              obtain ⟨tt, ll, rfl, hT2, HP, hc4, hbx2⟩ := hcut
              clear hT e0 e1 e2 e3 e4 e5 ktx kty kbx ftx fty hbz
              have kb := hT2.b.getD (k := pp) (by rw [hT2.lb]; exact hpn)
              have kq := hT2.b.getD (k := qq) (by rw [hT2.lb]; exact hqn)
              have fb := hT2.b.frozen pp
              have fq := hT2.b.frozen qq
              have hgl2 := hT2.b.lt
              obtain ⟨vb, hvb⟩ : ∃ tv, tv = s.bal.getD pp 0 := ⟨_, rfl⟩
              obtain ⟨vq, hvq⟩ : ∃ tv, tv = s.bal.getD qq 0 := ⟨_, rfl⟩
              rw [← hvb] at kb
              rw [← hvq] at kq
              have HVB := Lib.hid hvb
              have HVQ := Lib.hid hvq
              clear hvb hvq
              go_wp2_with fail
              go_region
              go_wp2_with fail
              go_region
              go_wp2_with fail
              obtain ⟨B2, hB2⟩ : ∃ B2, B2 = (s.bal.set pp (wrap64 (vb - am))).set qq (wrap64 (vq + am)) := ⟨_, rfl⟩
              have HT3 : Hid (∀ W : World, Two W g gt os.length ((s.bal.set pp (wrap64 (vb - am))).set qq (wrap64 (vq + am))) tt → Two W g gt os.length B2 tt) := fun W h => by rw [hB2]; exact h
              have HB2 := Lib.hid hB2
              clear hB2
              go_loopw [12, 19] (fun l i wz => ∃ (j : Nat) (t2 : List Int) (l2 : Int), j ≤ os.length ∧ i = .int .i64 j ∧ l = .int .i64 l2 ∧ Two wz g gt os.length B2 t2 ∧ Hid ((t2, l2) = clipToR B2 j (tt, ll)) ∧ Below w.heap.size w wz) (fun _ i _ => os.length - (intOf i).toNat)
              case atStart =>
                refine ⟨0, tt, ll, by omega, rfl, rfl, HT3.out _ ?_, rfl, ?_⟩
                · first
                    | exact (((hT2.setB _ _).setB _ _).drew).drew
                    | exact (((hT2.setB _ _).drew).setB _ _).drew
                    | exact (((hT2.drew).setB _ _).drew).setB _ _
                · first
                    | exact (((hbx2.setCell (p := ⟨g, pp, none⟩) HL.out.1 _).setCell (p := ⟨g, qq, none⟩) HL.out.1 _).drew).drew
                    | exact (((hbx2.setCell (p := ⟨g, pp, none⟩) HL.out.1 _).drew).setCell (p := ⟨g, qq, none⟩) HL.out.1 _).drew
                    | exact (((hbx2.drew).setCell (p := ⟨g, pp, none⟩) HL.out.1 _).drew).setCell (p := ⟨g, qq, none⟩) HL.out.1 _
              case round =>
                clear HT3 hT2 hbx2 kb kq fb fq hc4 hgl2
                obtain ⟨j, t2, l2, hj, rfl, rfl, hT2, HC, hbx2⟩ := hrel
                by_cases hjl : j < os.length
                · have HCN : Hid (clipToR B2 (j + 1) (tt, ll) = (t2.set j (wrap64 (t2.getD j 0 - over (B2.getD j 0) (t2.getD j 0))), wrap64 (l2 + over (B2.getD j 0) (t2.getD j 0)))) := by
                    show clipOneR B2 (clipToR B2 j (tt, ll)).1 (clipToR B2 j (tt, ll)).2 j = _
                    rw [← HC.out]; rfl
                  have kt := hT2.t.getD (k := j) (by rw [hT2.lt]; exact hjl)
                  have kb := hT2.b.getD (k := j) (by rw [hT2.lb]; exact hjl)
                  have ft := hT2.t.frozen j
                  have hg1 := hT2.b.lt
                  have hg2 := hT2.t.lt
                  obtain ⟨tv, htv⟩ : ∃ tv, tv = t2.getD j 0 := ⟨_, rfl⟩
                  obtain ⟨bv, hbv⟩ : ∃ bv, bv = B2.getD j 0 := ⟨_, rfl⟩
                  rw [← htv] at kt
                  rw [← hbv] at kb
                  have HTV := Lib.hid htv
                  have HBV := Lib.hid hbv
                  clear htv hbv HC
                  go_wp2_with fail
                  all_goals go_quiet (fail)
                  all_goals go_wp2_with fail
                  all_goals
                    go_roundw
                    case measure => simp [intOf] <;> omega
                    case rel =>
                      first
                        | exact ⟨j + 1, _, _, by omega, by go_num, rfl, (hT2.drewN _).setT _ _, by show _ = _; rw [HCN.out, ← HTV.out, ← HBV.out]; rfl, (hbx2.drewN _).setCell (p := ⟨gt, j, none⟩) HL.out.2 _⟩
                        | exact ⟨j + 1, _, _, by omega, by go_num, rfl, (hT2.setT _ _).drewN _, by show _ = _; rw [HCN.out, ← HTV.out, ← HBV.out]; rfl, (hbx2.setCell (p := ⟨gt, j, none⟩) HL.out.2 _).drewN _⟩
                · have hjj : j = os.length := by omega
                  have HCF : Hid ((t2, l2) = clipToR B2 os.length (tt, ll)) := by have := HC.out; rw [hjj] at this; exact this
                  clear hjj HC
                  go_wp2_with fail
                  go_roundw
                  case measure => simp [intOf] <;> omega
                  case rel =>
                    obtain ⟨bb, cc, hbb, hcc, hst⟩ := HSt.out
                    have e1 : bb = B2 := by rw [hbb, HB2.out, HVB.out, HVQ.out]; rfl
                    have e2 : cc = (t2, l2) := by rw [hcc, e1, HPa.out, ← HP.out, HCF.out]
                    refine ⟨k + 1, ⟨B2, t2, l2⟩, by omega, by go_num, rfl, hT2, ?_, hbx2⟩
                    show _ = _
                    rw [HN.out, hst, e1, e2]
      · have hkk : k = rows.length := by omega
        have HS2 := HS.out
        rw [hkk] at HS2
        have HS3 := Lib.hid HS2
        clear HS2 HS hkk
        go_wp2_with fail
        go_ret3
        refine ⟨hbz, fun h => absurd HV.out.symm h, fun _ => ⟨gt, HL.out.2, ?_, ?_⟩⟩
        · rw [← HS3.out]; rfl
        · rw [← HS3.out]; exact hT.t
  · have HN := Lib.hid he
    have he2 : (V != 0) = true := by simpa using he
    clear he
    go_wp2_with fail
    go_ret3
    exact ⟨hb1, fun _ => by rw [← HV.out]; rfl, fun h => by rw [← HV.out] at h; exact absurd h HN.out⟩

end Go.Proofs.Ytdkllifoglibcaa

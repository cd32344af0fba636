/- UndervalueSum: for every input the law returns true and its arguments read as before. No condition. -/
import Derived.Test.YtdkllifoglibcaaSumPlain
import Derived.Test.YtdkllifoglibcaaDecMore
set_option linter.unusedVariables false
set_option linter.unusedSimpArgs false
namespace Go.Proofs.Ytdkllifoglibcaa
open Go.ChangeShapes Go.WideShapes Go.ChangeAt Go.RowKit

theorem box4 {W W' : World} {g t : Nat} {x0 x1 x2 x3 : Int} (hb : Below W.heap.size W W') (h : W.heap[g]? = some (.cells #[.int .u8 x0, .int .u8 x1, .int .u8 x2, .int .u8 x3] t (0, 0))) :
    W'.heap[g]? = some (.cells #[.int .u8 x0, .int .u8 x1, .int .u8 x2, .int .u8 x3] t (0, 0)) ∧ W'.cell? ⟨g, 0, none⟩ = some (.int .u8 x0) ∧ W'.cell? ⟨g, 1, none⟩ = some (.int .u8 x1) ∧ W'.cell? ⟨g, 2, none⟩ = some (.int .u8 x2) ∧ W'.cell? ⟨g, 3, none⟩ = some (.int .u8 x3) := by
  have h' : W'.heap[g]? = some (.cells #[.int .u8 x0, .int .u8 x1, .int .u8 x2, .int .u8 x3] t (0, 0)) := by
    rw [hb.block _ (Array.getElem?_eq_some_iff.1 h).1]; exact h
  exact ⟨h', by rw [cell_of_row _ _ _ _ _ _ h']; rfl, by rw [cell_of_row _ _ _ _ _ _ h']; rfl, by rw [cell_of_row _ _ _ _ _ _ h']; rfl, by rw [cell_of_row _ _ _ _ _ _ h']; rfl⟩

theorem take_sum_succ (l : List Int) (k : Nat) (hk : k < l.length) : (l.take (k + 1)).sum = (l.take k).sum + l.getD k 0 := by
  rw [List.take_succ_eq_append_getElem hk, List.sum_append]
  simp [List.getD, List.getElem?_eq_getElem hk]
theorem take_sum_le : ∀ (l : List Int), (∀ j, j < l.length → 0 ≤ l.getD j 0) → ∀ k, 0 ≤ (l.take k).sum ∧ (l.take k).sum ≤ l.sum
  | [], _, k => by simp
  | x :: l, h, 0 => ⟨by simp, sum_nonneg _ h⟩
  | x :: l, h, k + 1 => by
    have h0 := h 0 (by simp)
    have := take_sum_le l (fun j hj => by have := h (j+1) (by simpa using hj); simpa using this) k
    simp at h0 this ⊢
    omega

set_option maxHeartbeats 4000000 in
set_option maxRecDepth 100000 in
theorem sumLaw (A0 : Option Addr) (c0 : Nat) (l0 : List W5) (x0 x1 x2 x3 a2 : Int) (w : World)
    (r0 : W5Rd w w.heap.size A0 l0) (o0 : ∀ r ∈ l0, r.ok) (n0 : l0.length ≤ maxLen) (b10 : u8ok x0) (b11 : u8ok x1) (b12 : u8ok x2) (b13 : u8ok x3) (b2 : 0 ≤ a2 ∧ a2 ≤ 255) :
    Calls Try.prog 6 #[.slice A0 l0.length c0, .agg #[.int .u8 x0, .int .u8 x1, .int .u8 x2, .int .u8 x3], .int .u8 a2] w fun e w' => e = .returned (.bool true) ∧ Below w.heap.size w w' := by
  unfold maxLen at n0
  have HO := Lib.hid o0
  clear o0
  have HBX : Hid (u8ok x0 ∧ u8ok x1 ∧ u8ok x2 ∧ u8ok x3) := ⟨b10, b11, b12, b13⟩
  clear b10 b11 b12 b13
  have HX0 : Hid (∀ W : World, Below w.heap.size w W → W5Rd W W.heap.size A0 l0) := fun W hb => Rd.next r0 hb
  clear r0
  go_enter Try.func6, Try.ntmps6
  go_wp2_with fail
  refine (rows_calls _ _ l0 _ _ _ (by omega) (by omega) (by omega) (by omega) (by omega) (HX0.out _ ((Below.refl _ _).alloc (Nat.le_refl _) _)) HO.out).mono ?_
  rintro e w1 ⟨A', c', rows, rfl, rx, hlen, hgood, hb⟩
  have hrl : rows.length ≤ 24 := by omega
  have HB : Below w.heap.size w w1 := ((Below.refl _ _).alloc (Nat.le_refl _) _).trans (hb.mono (by simp))
  have hbx : w1.heap[w.heap.size]? = some (.cells #[.int .u8 x0, .int .u8 x1, .int .u8 x2, .int .u8 x3] 32 (0, 0)) := by
    rw [hb.block _ (by simp)]; exact heap_alloc_new _ _
  obtain ⟨os, hos⟩ : ∃ os, os = openF x0 x1 x2 x3 := ⟨_, rfl⟩
  have hol : os.length = 4 := by rw [hos, openF_len]
  have hoo : os.any outOf = false := by rw [hos]; exact openF_in HBX.out.1 HBX.out.2.1 HBX.out.2.2.1 HBX.out.2.2.2
  have HG := Lib.hid (fun k => good_trace (k := k) (by omega : 5 * (24 : Int) ≤ 1048576) hgood (by omega) hoo hol)
  have HOL := Lib.hid hol
  have HOS := Lib.hid hos
  obtain ⟨hbx, d0, d1, d2, d3⟩ := box4 (Below.refl _ _) hbx
  have HX := Lib.hid hbx
  clear hbx hb HX0 HO hos hoo hol hgood hlen
  go_wp2_with fail
  refine (payment_calls A' c' rows a2 _ rx (by omega) b2).mono ?_
  rintro e w2 ⟨kk, hk1, hk2, rfl, rfl⟩
  go_wp2_with fail
  refine (openings_calls x0 x1 x2 x3 _ HBX.out.1 HBX.out.2.1 HBX.out.2.2.1 HBX.out.2.2.2).mono ?_
  rintro e w3 ⟨A5, c5, rfl, ro, hb⟩
  rw [← HOS.out] at ro ⊢
  replace HB := HB.trans (hb.mono HB.size)
  replace rx := rx.next hb
  obtain ⟨hbx, -, -, -, -⟩ := box4 hb HX.out
  clear d0 d1 d2 d3 HX hb
  have HX := Lib.hid hbx
  clear hbx
  have HRo := Lib.hid ro
  have HRx := Lib.hid rx
  clear ro rx
  go_wp2_with fail
  refine (trace_calls A' c' rows A5 c5 os kk _ HRx.out HRo.out (by rw [HOL.out]; omega)).mono ?_
  rintro e w4 ⟨hb, hne, heq⟩
  have HB4 := HB.trans (hb.mono HB.size)
  have rx4 := HRx.out.next hb
  obtain ⟨hbx4, d0, d1, d2, d3⟩ := box4 hb HX.out
  have HX4 := Lib.hid hbx4
  clear HX hbx4 hb HRo HRx HB
  by_cases hemp : rows = []
  · have hV : traceErr rows os kk ≠ 0 := (HG.out kk).1 hemp
    obtain rfl := hne hV
    obtain ⟨V, hVV⟩ : ∃ V, V = traceErr rows os kk := ⟨_, rfl⟩
    rw [← hVV] at hV ⊢
    have hVb : (V != 0) = true := by simpa using hV
    have hle : ((rows.length : Int) == 0) = true := by rw [hemp]; rfl
    clear hVV hV hne heq hk1 hk2 hemp
    go_wp2_with fail
    refine (awake27_calls _).mono ?_
    rintro e w5 ⟨rfl, hb5⟩
    go_wp2_with fail
    go_ret
    exact ⟨rfl, HB4.trans (hb5.mono HB4.size)⟩
  · have hkl := hk1 hemp
    obtain ⟨rq, hrq⟩ := getElem?_of_lt hkl
    have hle : ((rows.length : Int) == 0) = false := by simp; omega
    clear hk1 hk2 hemp
    by_cases hkind : rq.kind = 1
    · have hV : traceErr rows os kk = 0 := (HG.out kk).2.2 rq hrq hkind
      obtain ⟨g, hg, rfl, hrow⟩ := heq hV
      obtain ⟨e1, e2, ⟨rq', hrq', _, _, _, hinv⟩, hinvs, hoks, _⟩ := trace_same hV
      simp only [Int.toNat_natCast, hrq, Option.some.injEq] at hrq'
      subst hrq'
      rw [e1] at hrow ⊢
      rw [HOL.out] at hinv ⊢
      obtain ⟨S, hS⟩ : ∃ S, S = runR rows kk (initW os) rows.length := ⟨_, rfl⟩
      have hbalF : ∀ p : Nat, p < 4 → balF rows p 1048576 (os.getD p 0) = S.bal.getD p 0 := fun p hp => by
        have := run_bal hinvs hoks (by omega) (p := p) (by rw [HOL.out]; exact hp) rows.length (Nat.le_refl _)
        rwa [List.take_length, ← hS] at this
      rw [← hS] at hrow hinv e2 ⊢
      have HBF := Lib.hid hbalF
      have HI := Lib.hid hinv
      have HRQ := Lib.hid hrq
      have hl0 := hinv.mid.l0
      have hl1 : S.lost ≤ 1125899906842624 := (hinv.mid.le (j := 0) (by omega)).2.2
      have HRW := Lib.hid hrow
      have HR4 := Lib.hid rx4
      clear hS e1 e2 hinv hinvs hoks hV hne heq hrow hrq hbalF HG hkind rx4
      go_wp2_with fail
      go_loopw [12, 13] (fun s p wr => ∃ (j : Nat) (sm : Int), j ≤ 4 ∧ p = .int .i64 j ∧ s = .int .i64 sm ∧ Hid (sm = S.lost + (S.tr.take j).sum) ∧ Below w4.heap.size w4 wr) (fun _ p _ => 4 - (intOf p).toNat)
      case atStart => exact ⟨0, S.lost, by omega, rfl, rfl, by simp [Hid], Below.refl _ _⟩
      case round =>
        clear d0 d1 d2 d3
        obtain ⟨j, sm, hj, rfl, rfl, HS, hbw⟩ := hrel
        have hts := take_sum_le S.tr (by rw [HI.out.mid.len]; exact HI.out.mid.t0)
        have hsum := HI.out.mid.sum
        have hamt := HI.out.mid.a1
        by_cases hjl : j < 4
        · obtain ⟨hx, d0, d1, d2, d3⟩ := box4 hbw HX4.out
          have hzz := HI.out.mid.le (j := j) hjl
          have htb := HI.out.tb j hjl
          obtain ⟨z, hz⟩ : ∃ z, z = S.tr.getD j 0 := ⟨_, rfl⟩
          obtain ⟨bv, hbv⟩ : ∃ bv, bv = S.bal.getD j 0 := ⟨_, rfl⟩
          rw [← hz] at hzz htb
          rw [← hbv] at htb
          have hz0 : 0 ≤ z := hzz.1
          have hz1 : z ≤ (if bv < 0 then 0 else bv) := by split <;> omega
          have hz2 : ¬ (if bv < 0 then 0 else bv) < z := by omega
          have hsm0 : 0 ≤ sm ∧ sm + z ≤ 1125899906842624 := by
            have h1 := HS.out
            have h2 := hts j
            have h3 := hts (j + 1)
            rw [take_sum_succ _ _ (by rw [HI.out.mid.len]; exact hjl), ← hz] at h3
            omega
          have hz3 : z ≤ 1125899906842624 := hzz.2.1
          obtain ⟨hs0, hs1⟩ := hsm0
          have HZ := Lib.hid hz
          have HBV := Lib.hid hbv
          have HXr := Lib.hid hx
          clear hx hz hbv hzz htb hts hsum hamt
          go_wp2_with fail
          refine (openings_calls x0 x1 x2 x3 _ HBX.out.1 HBX.out.2.1 HBX.out.2.2.1 HBX.out.2.2.2).mono ?_
          rintro e w5 ⟨A6, c6, rfl, ro, hb5⟩
          rw [← HOS.out] at ro ⊢
          have hbw5 := hbw.trans (hb5.mono hbw.size)
          obtain ⟨ov, hov⟩ : ∃ ov, os[j]? = some ov := getElem?_of_lt (by rw [HOL.out]; exact hjl)
          obtain ⟨b6, off6, rfl, hb6, k6⟩ := ro.at_ hov
          have hovd : os.getD j 0 = ov := by simp [List.getD, hov]
          have hol4 : (j : Int) < (os.length : Int) := by rw [HOL.out]; omega
          have HOV : Hid (balF rows j 1048576 ov = bv) := by
            have := HBF.out j hjl
            rw [hovd, ← HBV.out] at this
            exact this
          clear hov hovd ro d0 d1 d2 d3
          go_wp2_with fail
          refine (balance_calls A' c' rows j ov 1048576 _ (HR4.out.next hbw5) (by omega)).mono ?_
          rintro e w6 ⟨rfl, hb7⟩
          rw [HOV.out]
          have hbw6 := hbw5.trans (hb7.mono hbw5.size)
          have hr6 : IRow w6 g S.tr := HRW.out.below hbw6 HRW.out.lt
          have kz := hr6.getD (k := j) (by rw [HI.out.mid.len]; exact hjl)
          rw [← HZ.out] at kz
          clear hr6 k6 hb5 hb7 hbw5 hbw
          go_wp2_with fail
          go_roundw
          case measure => simp [intOf] <;> omega
          case rel =>
            refine ⟨j + 1, _, by omega, by go_num, rfl, ?_, hbw6⟩
            show _ = _
            rw [take_sum_succ _ _ (by rw [HI.out.mid.len]; exact hjl), HS.out, ← HZ.out]
            omega
        · have hj4 : j = 4 := by omega
          have HSF : Hid (sm = rq.amount) := by
            have h1 := HS.out
            rw [hj4, List.take_of_length_le (by rw [HI.out.mid.len]; omega)] at h1
            show _ = _
            omega
          clear HS hts hsum hamt hj4
          go_wp2_with fail
          refine (awake27_calls _).mono ?_
          rintro e w5 ⟨rfl, hb5⟩
          have hbw5 := hbw.trans (hb5.mono hbw.size)
          obtain ⟨bq, oq, rfl, hbq, e0, e1, e2, e3, e4, e5⟩ := (HR4.out.next hbw5).at_ HRQ.out
          rw [← HSF.out] at e4
          clear e0 e1 e2 e3 e5
          go_wp2_with fail
          go_ret
          exact ⟨rfl, HB4.trans (hbw5.mono HB4.size)⟩
    · have hV : traceErr rows os kk ≠ 0 := (HG.out kk).2.1 rq hrq hkind
      obtain rfl := hne hV
      obtain ⟨V, hVV⟩ : ∃ V, V = traceErr rows os kk := ⟨_, rfl⟩
      rw [← hVV] at hV ⊢
      have hVb : (V != 0) = true := by simpa using hV
      have hkb : (rq.kind != 1) = true := by simpa using hkind
      have HRQ := Lib.hid hrq
      clear hVV hV hne heq hrq hkind
      go_wp2_with fail
      refine (awake27_calls _).mono ?_
      rintro e w5 ⟨rfl, hb5⟩
      obtain ⟨bq, oq, rfl, hbq, e0, e1, e2, e3, e4, e5⟩ := (rx4.next hb5).at_ HRQ.out
      clear e0 e2 e3 e4 e5 rx4
      go_wp2_with fail
      go_ret
      exact ⟨rfl, HB4.trans (hb5.mono HB4.size)⟩

namespace undervalueSum
theorem own : ownKnob Try.prog.godebug = none := by kernel_rfl
theorem laidOut : laidOutB Try.prog = true := by kernel_rfl

set_option maxRecDepth 100000 in
theorem lifted (os : Os) (started : os.Started) (H : Type) (enc : TypeId × Value → H) :
    ReturnsInHanded {} Try.checked os 6 .any (Rows.undervalueSumSpec.pre6 enc Try.prog Try.f6 Rows.undervalueSumRow.domain false) (Rows.undervalueSumSpec.post enc Try.prog Try.f6 false true false false) := by
  refine returnsInHanded_of_change (C := Try.checked) own started (by kernel_rfl) Try.func6
    (ChangeSpec.witness6 (enc := enc) (C := Try.checked) false ⟨#[], #[.slice none 0 0, .agg #[.int .u8 0, .int .u8 0, .int .u8 0, .int .u8 0], .int .u8 0], []⟩ 8 (by kernel_rfl) (by kernel_rfl) (by kernel_rfl) (by kernel_rfl)) ?_
  intro W base args ds gs before hval0 hW hcnd _
  have hval : ∀ (j : Nat) t v, Try.f6.params[j]? = some t → args[j]? = some v → Value.okWide Try.prog W .any base t v := hval0
  have hW' := hW
  obtain ⟨p, q, hA0, hV, rfl, hfz, hnd⟩ := hW
  have hA : DataW.TrodAll enc Try.prog W 0 (fun _ => true) true Try.f6.params.toList args.toList ds p := hA0
  rw [Try.params6] at hA hval
  obtain ⟨v0, vs0, d0, ds0, p0, q0, hargs, rfl, rfl, h0, rr0⟩ := trodAll_cons hA
  obtain ⟨v1, vs1, d1, ds1, p1, q1, rfl, rfl, rfl, h1, rr1⟩ := trodAll_cons rr0
  obtain ⟨v2, vs2, d2, ds2, p2, q2, rfl, rfl, rfl, h2, rr2⟩ := trodAll_cons rr1
  obtain ⟨rfl, rfl, rfl⟩ := trodAll_nil rr2
  obtain rfl : args = #[v0, v1, v2] := by cases args; simp_all
  obtain ⟨rfl, rfl⟩ := trodVars_none hV
  have k0 := h0
  have lt0 : ∀ x ∈ p0, x.block < W.heap.size := by obtain ⟨m, hm⟩ := k0; exact DataW.trod_lt m _ _ _ hm
  have k1 := h1
  have lt1 : ∀ x ∈ p1, x.block < W.heap.size := by obtain ⟨m, hm⟩ := k1; exact DataW.trod_lt m _ _ _ hm
  have k2 := h2
  have lt2 : ∀ x ∈ p2, x.block < W.heap.size := by obtain ⟨m, hm⟩ := k2; exact DataW.trod_lt m _ _ _ hm
  obtain ⟨A0, c0, l0, rfl, r0, o0, n0⟩ := open_w5 (hval 0 23 v0 rfl rfl) h0
  obtain ⟨x1_0, x1_1, x1_2, x1_3, rfl, b1_0, b1_1, b1_2, b1_3⟩ := open_u8x4 (hval 1 32 v1 rfl rfl) h1
  obtain ⟨a2, rfl, rfl, rfl, w2⟩ := open_int Try.underlying5 (hval 2 5 v2 rfl rfl) h2
  have b2 := bounds_u8 w2
  clear hA0 hval0
  refine (sumLaw A0 c0 l0 x1_0 x1_1 x1_2 x1_3 a2 W r0 o0 n0 b1_0 b1_1 b1_2 b1_3 b2).mono fun e W' ⟨he, bel⟩ => ?_
  subst he
  exact ⟨_, rfl, _, _, _, [], _, [], hW', trodAll_mk1 (shut_bool Try.underlying4 _), (trodAll_cons_mk (Below.trod laidOut (by kernel_rfl) (of_decide_eq_true (by kernel_rfl)) k0 bel lt0) (trodAll_cons_mk (Below.trod laidOut (by kernel_rfl) (of_decide_eq_true (by kernel_rfl)) k1 bel lt1) (trodAll_cons_mk (Below.trod laidOut (by kernel_rfl) (of_decide_eq_true (by kernel_rfl)) k2 bel lt2) trodAll_mk0))), rfl, bel.frame _, fun h => by cases h⟩

theorem over : Rows.undervalueSumRow.holds Try.pinned (OpenSpec.ofChange Rows.undervalueSumSpec) :=
  OpenClaim.holds_of_wide 6 Try.f6 rfl rfl rfl rfl rfl rfl rfl ⟨rfl, rfl, rfl, rfl, rfl⟩ rfl rfl rfl rfl rfl (by kernel_rfl) Try.func6 (by kernel_rfl)
    (of_decide_eq_true (by kernel_rfl)) (by unfold Func.isWrapper; first | (rw [if_pos (by decide +kernel)]; kernel_rfl) | (rw [if_neg (by decide +kernel)]; exact ⟨rfl, rfl⟩))
    (fun os started H enc _ => lifted os started H enc)

theorem proved : Rows.UndervalueSumSaid := over
#print axioms proved
end undervalueSum

end Go.Proofs.Ytdkllifoglibcaa

/- PreferenceSuffix: for every input the law returns true and its arguments read as before. No condition. -/
import Derived.Test.YtdkllifoglibcaaLaw26
import Derived.Test.YtdkllifoglibcaaSuffix
import Derived.Test.YtdkllifoglibcaaDecRow
set_option linter.unusedVariables false
set_option linter.unusedSimpArgs false
namespace Go.Proofs.Ytdkllifoglibcaa
open Go.ChangeShapes Go.WideShapes Go.ChangeAt Go.RowKit

theorem suffix_fin (f t : Int) (rows : List Row) (h : small rows) (hl : rows.length ≤ 20) : expo 0 1 f t rows = bst f t rows := by
  have h1 := tot_bd f t rows h
  have h2 := bst_bd f t rows h
  rw [expo, if_neg (by omega), expo_fold f t rows 0 h (by omega) (by omega)]
  omega

set_option maxHeartbeats 2000000 in
theorem suffixLaw (A0 : Option Addr) (c0 : Nat) (l0 : List W5) (a1 a2 : Int) (w : World) (r0 : W5Rd w w.heap.size A0 l0) (o0 : ∀ r ∈ l0, r.ok) (n0 : l0.length ≤ maxLen) (b1 : 0 ≤ a1 ∧ a1 ≤ 255) (b2 : 0 ≤ a2 ∧ a2 ≤ 255) :
    Calls Try.prog 4 #[.slice A0 l0.length c0, .int .u8 a1, .int .u8 a2] w fun e w' => e = .returned (.bool true) ∧ Below w.heap.size w w' := by
  unfold maxLen at n0
  have HO := Lib.hid o0
  clear o0
  go_enter Try.func4, Try.ntmps4
  go_wp2_with fail
  refine (rows_calls _ _ l0 _ _ _ (by omega) (by omega) (by omega) (by omega) (by omega) r0 HO.out).mono ?_
  rintro e w1 ⟨A', c', rows, rfl, rx, hlen, hgood, HB⟩
  have HS : Hid (small rows) := fun r hr => by have := hgood.good r hr; unfold Row.good at this; omega
  clear hgood
  go_wp2_with fail
  go_loopw [10, 11, 12] (fun bb ss ii wr => ∃ (k : Nat) (x y j : Int), k ≤ rows.length ∧ ii = .int .i64 j ∧ j + 1 = k ∧ bb = .int .i64 x ∧ ss = .int .i64 y ∧ Hid (x = bst (a1 % 30) (a2 % 60) (rows.drop k)) ∧ Hid (y = tot (a1 % 30) (a2 % 60) (rows.drop k)) ∧ Below w1.heap.size w1 wr) (fun _ _ i _ => (intOf i + 1).toNat)
  case atStart => exact ⟨rows.length, 0, 0, _, by omega, rfl, by omega, rfl, rfl, by simp [Hid, bst], by simp [Hid, tot], Below.refl _ _⟩
  case round =>
    obtain ⟨k, x, y, j, hk, rfl, hj, rfl, rfl, HX, HY, hbel⟩ := hrel
    rcases k with _ | m
    · obtain rfl : j = -1 := by omega
      have hrx : RowsRd wr wr.heap.size A' rows := rx.next hbel
      have HF : Hid (x = expo 0 1 (a1 % 30) (a2 % 60) rows) := by
        have := HX.out
        rw [List.drop_zero] at this
        rw [this]
        exact (suffix_fin _ _ rows HS.out (by omega)).symm
      have HB2 : Below w.heap.size w wr := HB.trans (hbel.mono HB.size)
      clear HX HY hj
      go_wp2_with (first
        | (go_at_call 8; refine (awake26_calls _).mono ?_; rintro e w2 ⟨rfl, hb⟩; replace HB2 := HB2.trans (hb.mono HB2.size); replace hrx := hrx.next hb)
        | (go_at_call 10; refine (expo_calls _ _ _ _ _ _ _ _ (by omega) (by assumption)).mono ?_; rintro e w3 ⟨rfl, hb3⟩; rw [← HF.out]))
      go_ret
      exact ⟨rfl, HB2.trans (hb3.mono HB2.size)⟩
    · have hlt : m < rows.length := by omega
      obtain rfl : j = (m : Int) := by omega
      obtain ⟨r, hrk⟩ := getElem?_of_lt hlt
      obtain ⟨b, off, rfl, hb, e0, e1, e2, e3, e4, e5⟩ := (rx.below hbel).at_ hrk
      have hbs : b < wr.heap.size := by have := hbel.size; omega
      have hdrop : rows.drop m = r :: rows.drop (m + 1) := by
        rw [List.drop_eq_getElem_cons hlt]
        congr 1
        exact (List.getElem?_eq_some_iff.1 hrk).2
      have hsd : small (rows.drop (m + 1)) := fun z hz => HS.out z (List.mem_of_mem_drop hz)
      have ht := tot_bd (a1 % 30) (a2 % 60) _ hsd
      have hb' := bst_bd (a1 % 30) (a2 % 60) _ hsd
      have hlen2 : (rows.drop (m + 1)).length ≤ 20 := by rw [List.length_drop]; omega
      rw [← HX.out] at hb'
      rw [← HY.out] at ht hb'
      have hx1 : 0 ≤ x ∧ x ≤ 800 := by omega
      have hy1 : -800 ≤ y ∧ y ≤ 800 := by omega
      obtain ⟨ha0, ha1, hk1, hk3⟩ := HS.out r (List.mem_of_getElem? hrk)
      have HD := Lib.hid hdrop
      clear hdrop hsd ht hb' hlen2 hrk rx HB
      go_wp2
      all_goals
        go_roundw
        case measure => simp [intOf] <;> omega
        case rel =>
          have h1 := HX.out
          have h2 := HY.out
          clear HX HY e0 e1 e2 e3 e4 e5
          try simp only [beq_iff_eq, beq_eq_false_iff_ne] at *
          refine ⟨m, _, _, _, by omega, rfl, by omega, rfl, rfl, ?_, ?_, hbel.alloc hbel.size _⟩
          · show _ = _
            rw [HD.out]
            simp only [bst, tot, cnt, delta, ← h1, ← h2]
            repeat' split
            all_goals omega
          · show _ = _
            rw [HD.out]
            simp only [bst, tot, cnt, delta, ← h1, ← h2]
            repeat' split
            all_goals omega

namespace preferenceSuffix
theorem own : ownKnob Try.prog.godebug = none := by kernel_rfl
theorem laidOut : laidOutB Try.prog = true := by kernel_rfl

set_option maxRecDepth 100000 in
theorem lifted (os : Os) (started : os.Started) (H : Type) (enc : TypeId × Value → H) :
    ReturnsInHanded {} Try.checked os 4 .any (Rows.preferenceSuffixSpec.pre6 enc Try.prog Try.f4 Rows.preferenceSuffixRow.domain false) (Rows.preferenceSuffixSpec.post enc Try.prog Try.f4 false true false false) := by
  refine returnsInHanded_of_change (C := Try.checked) own started (by kernel_rfl) Try.func4
    (ChangeSpec.witness6 (enc := enc) (C := Try.checked) false ⟨#[], #[.slice none 0 0, .int .u8 0, .int .u8 0], []⟩ 8 (by kernel_rfl) (by kernel_rfl) (by kernel_rfl) (by kernel_rfl)) ?_
  intro W base args ds gs before hval0 hW hcnd _
  have hval : ∀ (j : Nat) t v, Try.f4.params[j]? = some t → args[j]? = some v → Value.okWide Try.prog W .any base t v := hval0
  have hW' := hW
  obtain ⟨p, q, hA0, hV, rfl, hfz, hnd⟩ := hW
  have hA : DataW.TrodAll enc Try.prog W 0 (fun _ => true) true Try.f4.params.toList args.toList ds p := hA0
  rw [Try.params4] at hA hval
  obtain ⟨v0, vs0, d0, ds0, p0, q0, hargs, rfl, rfl, h0, rr0⟩ := trodAll_cons hA
  obtain ⟨v1, vs1, d1, ds1, p1, q1, rfl, rfl, rfl, h1, rr1⟩ := trodAll_cons rr0
  obtain ⟨v2, vs2, d2, ds2, p2, q2, rfl, rfl, rfl, h2, rr2⟩ := trodAll_cons rr1
  obtain ⟨rfl, rfl, rfl⟩ := trodAll_nil rr2
  obtain rfl : args = #[v0, v1, v2] := by cases args; simp_all
  obtain ⟨rfl, rfl⟩ := trodVars_none hV
  have k0 := h0
  have lt0 : ∀ x ∈ p0, x.block < W.heap.size := by obtain ⟨m, hm⟩ := k0; exact DataW.trod_lt m _ _ _ hm
  have k1 := h1
  have lt1 : ∀ x ∈ p1, x.block < W.heap.size := by obtain ⟨m, hm⟩ := k1; exact DataW.trod_lt m _ _ _ hm
  have k2 := h2
  have lt2 : ∀ x ∈ p2, x.block < W.heap.size := by obtain ⟨m, hm⟩ := k2; exact DataW.trod_lt m _ _ _ hm
  obtain ⟨A0, c0, l0, rfl, r0, o0, n0⟩ := open_w5 (hval 0 23 v0 rfl rfl) h0
  obtain ⟨a1, rfl, rfl, rfl, w1⟩ := open_int Try.underlying5 (hval 1 5 v1 rfl rfl) h1
  have b1 := bounds_u8 w1
  obtain ⟨a2, rfl, rfl, rfl, w2⟩ := open_int Try.underlying5 (hval 2 5 v2 rfl rfl) h2
  have b2 := bounds_u8 w2
  clear hA0 hval0
  refine (suffixLaw A0 c0 l0 a1 a2 W r0 o0 n0 b1 b2).mono fun e W' ⟨he, bel⟩ => ?_
  subst he
  exact ⟨_, rfl, _, _, _, [], _, [], hW', trodAll_mk1 (shut_bool Try.underlying4 _), (trodAll_cons_mk (Below.trod laidOut (by kernel_rfl) (of_decide_eq_true (by kernel_rfl)) k0 bel lt0) (trodAll_cons_mk (Below.trod laidOut (by kernel_rfl) (of_decide_eq_true (by kernel_rfl)) k1 bel lt1) (trodAll_cons_mk (Below.trod laidOut (by kernel_rfl) (of_decide_eq_true (by kernel_rfl)) k2 bel lt2) trodAll_mk0))), rfl, bel.frame _, fun h => by cases h⟩

theorem over : Rows.preferenceSuffixRow.holds Try.pinned (OpenSpec.ofChange Rows.preferenceSuffixSpec) :=
  OpenClaim.holds_of_wide 4 Try.f4 rfl rfl rfl rfl rfl rfl rfl ⟨rfl, rfl, rfl, rfl, rfl⟩ rfl rfl rfl rfl rfl (by kernel_rfl) Try.func4 (by kernel_rfl)
    (of_decide_eq_true (by kernel_rfl)) (by unfold Func.isWrapper; first | (rw [if_pos (by decide +kernel)]; kernel_rfl) | (rw [if_neg (by decide +kernel)]; exact ⟨rfl, rfl⟩))
    (fun os started H enc _ => lifted os started H enc)

theorem proved : Rows.PreferenceSuffixSaid := over
#print axioms proved
end preferenceSuffix

end Go.Proofs.Ytdkllifoglibcaa

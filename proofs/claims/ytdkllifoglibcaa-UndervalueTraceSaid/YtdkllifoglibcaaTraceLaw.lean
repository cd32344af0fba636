/- UndervalueTrace: for every input the law returns true and its arguments read as before. No condition. -/
import Derived.Test.YtdkllifoglibcaaSame27
import Derived.Test.YtdkllifoglibcaaHelp27
import Derived.Test.YtdkllifoglibcaaDecMore
set_option linter.unusedVariables false
set_option linter.unusedSimpArgs false
namespace Go.Proofs.Ytdkllifoglibcaa
open Go.ChangeShapes Go.WideShapes Go.ChangeAt Go.RowKit

set_option maxHeartbeats 4000000 in
theorem traceLaw (A0 : Option Addr) (c0 : Nat) (l0 : List W5) (x0 x1 x2 x3 a2 : Int) (A3 : Option Addr) (c3 : Nat) (l3 : List Row) (A4 : Option Addr) (c4 : Nat) (l4 : List Int) (a5 : Int) (w : World)
    (r0 : W5Rd w w.heap.size A0 l0) (o0 : ∀ r ∈ l0, r.ok) (n0 : l0.length ≤ maxLen) (b10 : u8ok x0) (b11 : u8ok x1) (b12 : u8ok x2) (b13 : u8ok x3) (b2 : 0 ≤ a2 ∧ a2 ≤ 255)
    (r3 : RowsRd w w.heap.size A3 l3) (n3 : l3.length ≤ maxLen) (r4 : IntsRd w w.heap.size A4 l4) (n4 : l4.length ≤ maxLen) :
    Calls Try.prog 5 #[.slice A0 l0.length c0, .agg #[.int .u8 x0, .int .u8 x1, .int .u8 x2, .int .u8 x3], .int .u8 a2, .slice A3 l3.length c3, .slice A4 l4.length c4, .int .i64 a5] w fun e w' => e = .returned (.bool true) ∧ Below w.heap.size w w' := by
  unfold maxLen at n0 n3 n4
  have HO := Lib.hid o0
  clear o0
  have HBX : Hid (u8ok x0 ∧ u8ok x1 ∧ u8ok x2 ∧ u8ok x3) := ⟨b10, b11, b12, b13⟩
  clear b10 b11 b12 b13
  by_cases hg : l3.length > 10 ∨ l4.length > 6
  · have hgb : (l3.length : Int) > 10 ∨ ¬ (l3.length : Int) > 10 ∧ (l4.length : Int) > 6 := by omega
    clear hg
    go_enter Try.func5, Try.ntmps5
    rcases hgb with h1 | ⟨h1, h2⟩
    · go_wp2_with (go_at_call 12; refine (awake27_calls _).mono ?_; rintro e w1 ⟨rfl, hb⟩)
      go_ret
      exact ⟨rfl, ((Below.refl _ _).alloc (Nat.le_refl _) _).trans (hb.mono (by simp))⟩
    · go_wp2_with (go_at_call 12; refine (awake27_calls _).mono ?_; rintro e w1 ⟨rfl, hb⟩)
      go_ret
      exact ⟨rfl, ((Below.refl _ _).alloc (Nat.le_refl _) _).trans (hb.mono (by simp))⟩
  · have h1 : (l3.length : Int) ≤ 10 := by omega
    have h2 : (l4.length : Int) ≤ 6 := by omega
    clear hg
    have HX0 : Hid (∀ W : World, Below w.heap.size w W → W5Rd W W.heap.size A0 l0) := fun W hb => Rd.next r0 hb
    clear r0
    go_enter Try.func5, Try.ntmps5
    go_wp2_with fail
    refine (rows_calls _ _ l0 _ _ _ (by omega) (by omega) (by omega) (by omega) (by omega) (HX0.out _ ((Below.refl _ _).alloc (Nat.le_refl _) _)) HO.out).mono ?_
    rintro e w1 ⟨A', c', rows, rfl, rx, hlen, -, hb⟩
    have HB : Below w.heap.size w w1 := ((Below.refl _ _).alloc (Nat.le_refl _) _).trans (hb.mono (by simp))
    have hbx : w1.heap[w.heap.size]? = some (.cells #[.int .u8 x0, .int .u8 x1, .int .u8 x2, .int .u8 x3] 32 (0, 0)) := by
      rw [hb.block _ (by simp)]; exact heap_alloc_new _ _
    replace r3 := r3.next HB
    replace r4 := r4.next HB
    obtain ⟨os, hos⟩ : ∃ os, os = openF x0 x1 x2 x3 := ⟨_, rfl⟩
    have hol : os.length ≤ 1000000 := by rw [hos, openF_len]; omega
    clear hb HX0 HO
    have KP : Hid (∀ (W W' : World), Below W.heap.size W W' → W.heap[w.heap.size]? = some (.cells #[.int .u8 x0, .int .u8 x1, .int .u8 x2, .int .u8 x3] 32 (0, 0)) →
        W'.heap[w.heap.size]? = some (.cells #[.int .u8 x0, .int .u8 x1, .int .u8 x2, .int .u8 x3] 32 (0, 0)) ∧ W'.cell? ⟨w.heap.size, 0, none⟩ = some (.int .u8 x0) ∧ W'.cell? ⟨w.heap.size, 1, none⟩ = some (.int .u8 x1) ∧ W'.cell? ⟨w.heap.size, 2, none⟩ = some (.int .u8 x2) ∧ W'.cell? ⟨w.heap.size, 3, none⟩ = some (.int .u8 x3)) := by
      intro W W' hb h
      have h' : W'.heap[w.heap.size]? = some (.cells #[.int .u8 x0, .int .u8 x1, .int .u8 x2, .int .u8 x3] 32 (0, 0)) := by
        rw [hb.block _ (Array.getElem?_eq_some_iff.1 h).1]; exact h
      exact ⟨h', by rw [cell_of_row _ _ _ _ _ _ h']; rfl, by rw [cell_of_row _ _ _ _ _ _ h']; rfl, by rw [cell_of_row _ _ _ _ _ _ h']; rfl, by rw [cell_of_row _ _ _ _ _ _ h']; rfl⟩
    have HX := Lib.hid hbx
    clear hbx
    have HOS := Lib.hid hos
    clear hos
    go_wp2_with fail
    refine (awake27_calls _).mono ?_
    rintro e w2 ⟨rfl, hb⟩
    replace HB := HB.trans (hb.mono HB.size)
    replace rx := rx.next hb
    replace r3 := r3.next hb
    replace r4 := r4.next hb
    obtain ⟨hbx, d0, d1, d2, d3⟩ := KP.out _ _ hb HX.out
    clear hb HX
    have HX := Lib.hid hbx
    clear hbx
    go_wp2_with fail
    refine (openings_calls x0 x1 x2 x3 _ HBX.out.1 HBX.out.2.1 HBX.out.2.2.1 HBX.out.2.2.2).mono ?_
    rintro e w3 ⟨A5, c5, rfl, ro, hb⟩
    rw [← HOS.out] at ro ⊢
    replace HB := HB.trans (hb.mono HB.size)
    replace rx := rx.next hb
    replace r3 := r3.next hb
    replace r4 := r4.next hb
    clear d0 d1 d2 d3
    obtain ⟨hbx, d0, d1, d2, d3⟩ := KP.out _ _ hb HX.out
    clear hb HX
    have HX := Lib.hid hbx
    clear hbx
    go_wp2_with fail
    refine (payment_calls A' c' rows a2 _ rx (by omega) b2).mono ?_
    rintro e w4 ⟨kk, _, _, rfl, rfl⟩
    go_wp2_with fail
    refine (same_calls _ _ rows _ _ os _ _ rx ro hol).mono ?_
    rintro e w5 ⟨rfl, hb⟩
    replace HB := HB.trans (hb.mono HB.size)
    replace rx := rx.next hb
    replace r3 := r3.next hb
    replace r4 := r4.next hb
    clear d0 d1 d2 d3 ro
    obtain ⟨hbx, d0, d1, d2, d3⟩ := KP.out _ _ hb HX.out
    clear hb HX hbx
    go_wp2_with fail
    refine (openings_calls x0 x1 x2 x3 _ HBX.out.1 HBX.out.2.1 HBX.out.2.2.1 HBX.out.2.2.2).mono ?_
    rintro e w6 ⟨A6, c6, rfl, ro, hb⟩
    rw [← HOS.out] at ro ⊢
    replace HB := HB.trans (hb.mono HB.size)
    replace rx := rx.next hb
    replace r3 := r3.next hb
    replace r4 := r4.next hb
    clear d0 d1 d2 d3 hb
    go_wp2_with fail
    refine (same_calls _ _ rows _ _ os _ _ rx ro hol).mono ?_
    rintro e w7 ⟨rfl, hb⟩
    replace HB := HB.trans (hb.mono HB.size)
    replace r3 := r3.next hb
    replace r4 := r4.next hb
    clear hb rx ro
    go_wp2_with fail
    refine (same_calls _ _ l3 _ _ l4 _ _ r3 r4 (by omega)).mono ?_
    rintro e w8 ⟨rfl, hb⟩
    replace HB := HB.trans (hb.mono HB.size)
    clear hb
    go_wp2_with fail
    go_ret
    exact ⟨rfl, HB⟩

namespace undervalueTrace
theorem own : ownKnob Try.prog.godebug = none := by kernel_rfl
theorem laidOut : laidOutB Try.prog = true := by kernel_rfl

set_option maxRecDepth 100000 in
theorem lifted (os : Os) (started : os.Started) (H : Type) (enc : TypeId × Value → H) :
    ReturnsInHanded {} Try.checked os 5 .any (Rows.undervalueTraceSpec.pre6 enc Try.prog Try.f5 Rows.undervalueTraceRow.domain false) (Rows.undervalueTraceSpec.post enc Try.prog Try.f5 false true false false) := by
  refine returnsInHanded_of_change (C := Try.checked) own started (by kernel_rfl) Try.func5
    (ChangeSpec.witness6 (enc := enc) (C := Try.checked) false ⟨#[], #[.slice none 0 0, .agg #[.int .u8 0, .int .u8 0, .int .u8 0, .int .u8 0], .int .u8 0, .slice none 0 0, .slice none 0 0, .int .i64 0], []⟩ 8 (by kernel_rfl) (by kernel_rfl) (by kernel_rfl) (by kernel_rfl)) ?_
  intro W base args ds gs before hval0 hW hcnd _
  have hval : ∀ (j : Nat) t v, Try.f5.params[j]? = some t → args[j]? = some v → Value.okWide Try.prog W .any base t v := hval0
  have hW' := hW
  obtain ⟨p, q, hA0, hV, rfl, hfz, hnd⟩ := hW
  have hA : DataW.TrodAll enc Try.prog W 0 (fun _ => true) true Try.f5.params.toList args.toList ds p := hA0
  rw [Try.params5] at hA hval
  obtain ⟨v0, vs0, d0, ds0, p0, q0, hargs, rfl, rfl, h0, rr0⟩ := trodAll_cons hA
  obtain ⟨v1, vs1, d1, ds1, p1, q1, rfl, rfl, rfl, h1, rr1⟩ := trodAll_cons rr0
  obtain ⟨v2, vs2, d2, ds2, p2, q2, rfl, rfl, rfl, h2, rr2⟩ := trodAll_cons rr1
  obtain ⟨v3, vs3, d3, ds3, p3, q3, rfl, rfl, rfl, h3, rr3⟩ := trodAll_cons rr2
  obtain ⟨v4, vs4, d4, ds4, p4, q4, rfl, rfl, rfl, h4, rr4⟩ := trodAll_cons rr3
  obtain ⟨v5, vs5, d5, ds5, p5, q5, rfl, rfl, rfl, h5, rr5⟩ := trodAll_cons rr4
  obtain ⟨rfl, rfl, rfl⟩ := trodAll_nil rr5
  obtain rfl : args = #[v0, v1, v2, v3, v4, v5] := by cases args; simp_all
  obtain ⟨rfl, rfl⟩ := trodVars_none hV
  have k0 := h0
  have lt0 : ∀ x ∈ p0, x.block < W.heap.size := by obtain ⟨m, hm⟩ := k0; exact DataW.trod_lt m _ _ _ hm
  have k1 := h1
  have lt1 : ∀ x ∈ p1, x.block < W.heap.size := by obtain ⟨m, hm⟩ := k1; exact DataW.trod_lt m _ _ _ hm
  have k2 := h2
  have lt2 : ∀ x ∈ p2, x.block < W.heap.size := by obtain ⟨m, hm⟩ := k2; exact DataW.trod_lt m _ _ _ hm
  have k3 := h3
  have lt3 : ∀ x ∈ p3, x.block < W.heap.size := by obtain ⟨m, hm⟩ := k3; exact DataW.trod_lt m _ _ _ hm
  have k4 := h4
  have lt4 : ∀ x ∈ p4, x.block < W.heap.size := by obtain ⟨m, hm⟩ := k4; exact DataW.trod_lt m _ _ _ hm
  have k5 := h5
  have lt5 : ∀ x ∈ p5, x.block < W.heap.size := by obtain ⟨m, hm⟩ := k5; exact DataW.trod_lt m _ _ _ hm
  obtain ⟨A0, c0, l0, rfl, r0, o0, n0⟩ := open_w5 (hval 0 23 v0 rfl rfl) h0
  obtain ⟨x1_0, x1_1, x1_2, x1_3, rfl, b1_0, b1_1, b1_2, b1_3⟩ := open_u8x4 (hval 1 32 v1 rfl rfl) h1
  obtain ⟨a2, rfl, rfl, rfl, w2⟩ := open_int Try.underlying5 (hval 2 5 v2 rfl rfl) h2
  have b2 := bounds_u8 w2
  obtain ⟨A3, c3, l3, rfl, r3, o3, n3⟩ := open_rows (hval 3 22 v3 rfl rfl) h3
  obtain ⟨A4, c4, l4, rfl, r4, o4, n4⟩ := open_i64s (hval 4 33 v4 rfl rfl) h4
  obtain ⟨a5, rfl, rfl, rfl, w5⟩ := open_int Try.underlying3 (hval 5 3 v5 rfl rfl) h5
  have b5 := bounds_i64 w5
  clear hA0 hval0
  refine (traceLaw A0 c0 l0 x1_0 x1_1 x1_2 x1_3 a2 A3 c3 l3 A4 c4 l4 a5 W r0 o0 n0 b1_0 b1_1 b1_2 b1_3 b2 r3 n3 r4 n4).mono fun e W' ⟨he, bel⟩ => ?_
  subst he
  exact ⟨_, rfl, _, _, _, [], _, [], hW', trodAll_mk1 (shut_bool Try.underlying4 _), (trodAll_cons_mk (Below.trod laidOut (by kernel_rfl) (of_decide_eq_true (by kernel_rfl)) k0 bel lt0) (trodAll_cons_mk (Below.trod laidOut (by kernel_rfl) (of_decide_eq_true (by kernel_rfl)) k1 bel lt1) (trodAll_cons_mk (Below.trod laidOut (by kernel_rfl) (of_decide_eq_true (by kernel_rfl)) k2 bel lt2) (trodAll_cons_mk (Below.trod laidOut (by kernel_rfl) (of_decide_eq_true (by kernel_rfl)) k3 bel lt3) (trodAll_cons_mk (Below.trod laidOut (by kernel_rfl) (of_decide_eq_true (by kernel_rfl)) k4 bel lt4) (trodAll_cons_mk (Below.trod laidOut (by kernel_rfl) (of_decide_eq_true (by kernel_rfl)) k5 bel lt5) trodAll_mk0)))))), rfl, bel.frame _, fun h => by cases h⟩

theorem over : Rows.undervalueTraceRow.holds Try.pinned (OpenSpec.ofChange Rows.undervalueTraceSpec) :=
  OpenClaim.holds_of_wide 5 Try.f5 rfl rfl rfl rfl rfl rfl rfl ⟨rfl, rfl, rfl, rfl, rfl⟩ rfl rfl rfl rfl rfl (by kernel_rfl) Try.func5 (by kernel_rfl)
    (of_decide_eq_true (by kernel_rfl)) (by unfold Func.isWrapper; first | (rw [if_pos (by decide +kernel)]; kernel_rfl) | (rw [if_neg (by decide +kernel)]; exact ⟨rfl, rfl⟩))
    (fun os started H enc _ => lifted os started H enc)

theorem proved : Rows.UndervalueTraceSaid := over
#print axioms proved
end undervalueTrace

end Go.Proofs.Ytdkllifoglibcaa

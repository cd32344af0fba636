/- CodecEncode: for every input the law returns true and its arguments read as before. No condition beyond the row's own. -/
import Derived.Test.YtcljkdjmmolfoaaDoorLawEncode
import Derived.Test.YtcljkdjmmolfoaaDoorM12
import Derived.Test.YtcljkdjmmolfoaaDoorDecRec
set_option linter.unusedVariables false
set_option linter.unusedSimpArgs false
namespace Go.Proofs.YtcljkdjmmolfoaaDoor
open Go.ChangeShapes Go.WideShapes Go.ChangeAt Go.RowKit

theorem codecEncodeLawI (z1 z2 z3 z4 z5 z6 : Int) (a c : RQ) (A1 : Option Addr) (c1 : Nat) (A2 : Option Addr) (c2 : Nat) (A3 : Option Addr) (c3 : Nat) (legs : List (Int × Int)) (opts : List (RQ × Int)) (pays : List Pay)
    (a1 a2 a3 a4 a5 a6 m1 m2 : Int) (Al : Option Addr) (cl : Nat) (ll : List (Int × Int)) (Ao : Option Addr) (co : Nat) (lo : List (Int × Int)) (Ap : Option Addr) (cp : Nat) (lp : List W4) (w : World)
    (hz : i64s [z1, z2, z3, z4, z5, z6]) (ha : a.fits) (hc : c.fits)
    (r1 : Rd w w.heap.size 2 A1 legs.length (legs.flatMap legV)) (o1 : ∀ p ∈ legs, i64b p.1 ∧ i64b p.2) (g1 : legs.length ≤ maxLen)
    (r2 : Rd w w.heap.size 4 A2 opts.length (opts.flatMap optV)) (o2 : ∀ p ∈ opts, p.1.fits ∧ i64b p.2) (g2 : opts.length ≤ maxLen)
    (r3 : Rd w w.heap.size 4 A3 pays.length (pays.flatMap payV)) (o3 : ∀ p ∈ pays, i64b p.debt ∧ i64b p.estate ∧ i64b p.claim ∧ i64b p.cents) (g3 : pays.length ≤ maxLen)
    (b1 : -32768 ≤ a1 ∧ a1 ≤ 32767) (b2 : -32768 ≤ a2 ∧ a2 ≤ 32767) (b3 : -32768 ≤ a3 ∧ a3 ≤ 32767) (b4 : -32768 ≤ a4 ∧ a4 ≤ 32767) (b5 : -32768 ≤ a5 ∧ a5 ≤ 32767) (b6 : -32768 ≤ a6 ∧ a6 ≤ 32767) (d1 : 0 ≤ m1 ∧ m1 ≤ 65535) (d2 : 0 ≤ m2 ∧ m2 ≤ 65535)
    (rl : Rd w w.heap.size 2 Al ll.length (ll.flatMap i8V)) (ol : ∀ p ∈ ll, i8ok p) (gl : ll.length ≤ maxLen) (ro : Rd w w.heap.size 2 Ao lo.length (lo.flatMap u16V)) (oo : ∀ p ∈ lo, u16ok p) (go_ : lo.length ≤ maxLen) (rp : Rd w w.heap.size 4 Ap lp.length (lp.flatMap i16V)) (op : ∀ p ∈ lp, i16ok p) (gp : lp.length ≤ maxLen) :
    Calls Tryd.prog 5 #[.agg #[.int .i64 z1, .int .i64 z2, .int .i64 z3, .int .i64 z4, .int .i64 z5, .int .i64 z6, .bool a.neg, .string a.num, .string a.den, .bool c.neg, .string c.num, .string c.den, .slice A1 legs.length c1, .slice A2 opts.length c2, .slice A3 pays.length c3], .agg #[.int .i16 a1, .int .i16 a2, .int .i16 a3, .int .i16 a4, .int .i16 a5, .int .i16 a6], .agg #[.int .u16 m1, .int .u16 m2], .slice Al ll.length cl, .slice Ao lo.length co, .slice Ap lp.length cp] w fun e w' => e = .returned (.bool true) ∧ Below w.heap.size w w' := by
  obtain ⟨m1, rfl⟩ := Int.eq_ofNat_of_zero_le d1.1
  obtain ⟨m2, rfl⟩ := Int.eq_ofNat_of_zero_le d2.1
  obtain ⟨an, as_, ad_⟩ := a
  obtain ⟨cn, cs, cd⟩ := c
  exact codecEncodeLaw z1 z2 z3 z4 z5 z6 an as_ ad_ cn cs cd A1 _ c1 A2 _ c2 A3 _ c3 legs opts pays a1 a2 a3 a4 a5 a6 m1 m2 Al _ cl Ao _ co Ap _ cp w hz ha hc rfl rfl rfl r1 o1 r2 o2 r3 o3 g1 g2 g3 (by omega) (by omega) (by unfold i16b; omega) (by unfold i16b; omega) (by unfold i16b; omega) (by unfold i16b; omega) (by unfold i16b; omega) (by unfold i16b; omega) ll lo lp rfl rfl rfl gl go_ gp rl ol ro oo rp op

namespace codecEncode
theorem own : ownKnob Tryd.prog.godebug = none := by kernel_rfl
theorem laidOut : laidOutB Tryd.prog = true := by kernel_rfl

theorem laid_met (os : Os) : laidMet Tryd.prog Rows.codecEncodeRow.laid ((laidWorld os).forCall (fun _ _ => 0) ⟨#[], #[.agg #[.int .i64 0, .int .i64 0, .int .i64 0, .int .i64 0, .int .i64 0, .int .i64 0, .bool false, .string ByteArray.empty, .string ByteArray.empty, .bool false, .string ByteArray.empty, .string ByteArray.empty, .slice none 0 0, .slice none 0 0, .slice none 0 0], .agg #[.int .i16 0, .int .i16 0, .int .i16 0, .int .i16 0, .int .i16 0, .int .i16 0], .agg #[.int .u16 0, .int .u16 0], .slice none 0 0, .slice none 0 0, .slice none 0 0], []⟩).memory :=
  laidMet_of_run' 400 (by kernel_rfl) (by kernel_rfl)
theorem reads (os : Os) {H : Type} (enc : TypeId × Value → H) : ∃ places, DataW.whole enc Tryd.prog ((laidWorld os).forCall (fun _ _ => 0) ⟨#[], #[.agg #[.int .i64 0, .int .i64 0, .int .i64 0, .int .i64 0, .int .i64 0, .int .i64 0, .bool false, .string ByteArray.empty, .string ByteArray.empty, .bool false, .string ByteArray.empty, .string ByteArray.empty, .slice none 0 0, .slice none 0 0, .slice none 0 0], .agg #[.int .i16 0, .int .i16 0, .int .i16 0, .int .i16 0, .int .i16 0, .int .i16 0], .agg #[.int .u16 0, .int .u16 0], .slice none 0 0, .slice none 0 0, .slice none 0 0], []⟩).memory Tryd.f5.params.toList Rows.codecEncodeSpec.vars false (#[.agg #[.int .i64 0, .int .i64 0, .int .i64 0, .int .i64 0, .int .i64 0, .int .i64 0, .bool false, .string ByteArray.empty, .string ByteArray.empty, .bool false, .string ByteArray.empty, .string ByteArray.empty, .slice none 0 0, .slice none 0 0, .slice none 0 0], .agg #[.int .i16 0, .int .i16 0, .int .i16 0, .int .i16 0, .int .i16 0, .int .i16 0], .agg #[.int .u16 0, .int .u16 0], .slice none 0 0, .slice none 0 0, .slice none 0 0] : Array Value).toList 8 = some ([.agg [.agg [.lit (.int .i64 0), .lit (.int .i64 0), .lit (.int .i64 0), .lit (.int .i64 0), .lit (.int .i64 0), .lit (.int .i64 0), .agg [.lit (.bool false), .lit (.string []), .lit (.string [])], .agg [.lit (.bool false), .lit (.string []), .lit (.string [])], .nil, .nil], .nil], .agg [.lit (.int .i16 0), .lit (.int .i16 0), .lit (.int .i16 0), .lit (.int .i16 0), .lit (.int .i16 0), .lit (.int .i16 0)], .agg [.lit (.int .u16 0), .lit (.int .u16 0)], .nil, .nil, .nil], [], places) :=
  ⟨[], by kernel_rfl⟩

set_option maxRecDepth 100000 in
theorem lifted (os : Os) (started : os.Started) (H : Type) (enc : TypeId × Value → H) (F : Stop.Interp) :
    ReturnsInHanded {} Tryd.checked os 5 .any ((OpenSpec.ofChange Rows.codecEncodeSpec).preRow enc Tryd.prog Tryd.f5 Rows.codecEncodeRow.domain false Rows.codecEncodeRow.laid) (((OpenSpec.ofChange Rows.codecEncodeSpec).at F).post enc Tryd.prog Tryd.f5 false true false false) := by
  obtain ⟨places, hx⟩ := reads os enc
  refine returnsInHanded_of_row (C := Tryd.checked) (s := OpenSpec.ofChange Rows.codecEncodeSpec) own started (by kernel_rfl) Tryd.func5
    (witness_row_at (enc := enc) (C := Tryd.checked) false (laidWorld os) #[.agg #[.int .i64 0, .int .i64 0, .int .i64 0, .int .i64 0, .int .i64 0, .int .i64 0, .bool false, .string ByteArray.empty, .string ByteArray.empty, .bool false, .string ByteArray.empty, .string ByteArray.empty, .slice none 0 0, .slice none 0 0, .slice none 0 0], .agg #[.int .i16 0, .int .i16 0, .int .i16 0, .int .i16 0, .int .i16 0, .int .i16 0], .agg #[.int .u16 0, .int .u16 0], .slice none 0 0, .slice none 0 0, .slice none 0 0] rfl (by kernel_rfl) (by kernel_rfl) (by kernel_rfl)
      (OpenSpec.preRow_of_cond 8 hx (by kernel_rfl) (fun k hk => by cases hk) (by kernel_rfl) (laid_met os))) ?_
  intro W base args ds gs before hval0 hW _ _ _ _ _ _
  have hval : ∀ (j : Nat) t v, Tryd.f5.params[j]? = some t → args[j]? = some v → Value.okWide Tryd.prog W .any base t v := hval0
  have hW' := hW
  obtain ⟨p, q, hA0, hV, rfl, hfz, hnd⟩ := hW
  have hA : DataW.TrodAll enc Tryd.prog W 0 (fun _ => true) true Tryd.f5.params.toList args.toList ds p := hA0
  rw [Tryd.params5] at hA hval
  obtain ⟨v0, vs0, d0, ds0, p0, q0, hargs, rfl, rfl, h0, rr0⟩ := trodAll_cons hA
  obtain ⟨v1, vs1, d1, ds1, p1, q1, rfl, rfl, rfl, h1, rr1⟩ := trodAll_cons rr0
  obtain ⟨v2, vs2, d2, ds2, p2, q2, rfl, rfl, rfl, h2, rr2⟩ := trodAll_cons rr1
  obtain ⟨v3, vs3, d3, ds3, p3, q3, rfl, rfl, rfl, h3, rr3⟩ := trodAll_cons rr2
  obtain ⟨v4, vs4, d4, ds4, p4, q4, rfl, rfl, rfl, h4, rr4⟩ := trodAll_cons rr3
  obtain ⟨v5, vs5, d5, ds5, p5, q5, rfl, rfl, rfl, h5, rr5⟩ := trodAll_cons rr4
  obtain ⟨rfl, rfl, rfl⟩ := trodAll_nil rr5
  obtain rfl : args = #[v0, v1, v2, v3, v4, v5] := by cases args; simp_all
  obtain ⟨rfl, rfl⟩ := trodVars_none hV
  have k0 := h0
  have lt0 : ∀ x ∈ p0, x.block < W.heap.size := by obtain ⟨m, hm⟩ := k0; exact DataW.trod_lt m _ _ _ hm
  have k1 := h1
  have lt1 : ∀ x ∈ p1, x.block < W.heap.size := by obtain ⟨m, hm⟩ := k1; exact DataW.trod_lt m _ _ _ hm
  have k2 := h2
  have lt2 : ∀ x ∈ p2, x.block < W.heap.size := by obtain ⟨m, hm⟩ := k2; exact DataW.trod_lt m _ _ _ hm
  have k3 := h3
  have lt3 : ∀ x ∈ p3, x.block < W.heap.size := by obtain ⟨m, hm⟩ := k3; exact DataW.trod_lt m _ _ _ hm
  have k4 := h4
  have lt4 : ∀ x ∈ p4, x.block < W.heap.size := by obtain ⟨m, hm⟩ := k4; exact DataW.trod_lt m _ _ _ hm
  have k5 := h5
  have lt5 : ∀ x ∈ p5, x.block < W.heap.size := by obtain ⟨m, hm⟩ := k5; exact DataW.trod_lt m _ _ _ hm
  obtain ⟨z0_1, z0_2, z0_3, z0_4, z0_5, z0_6, qa0, qc0, A0_1, c0_1, A0_2, c0_2, A0_3, c0_3, l0_1, l0_2, l0_3, rfl, hz0, fa0, fc0, r0_1, o0_1, g0_1, r0_2, o0_2, g0_2, r0_3, o0_3, g0_3⟩ := open_record (hval 0 37 v0 rfl rfl) h0
  obtain ⟨x1_0, x1_1, x1_2, x1_3, x1_4, x1_5, rfl, b1_0, b1_1, b1_2, b1_3, b1_4, b1_5⟩ := open_i16x6 (hval 1 39 v1 rfl rfl) h1
  obtain ⟨x2_0, x2_1, rfl, b2_0, b2_1⟩ := open_u16x2 (hval 2 40 v2 rfl rfl) h2
  obtain ⟨A3, c3, l3, rfl, r3, o3, n3⟩ := open_i8x2s (hval 3 41 v3 rfl rfl) h3
  obtain ⟨A4, c4, l4, rfl, r4, o4, n4⟩ := open_u16x2s (hval 4 42 v4 rfl rfl) h4
  obtain ⟨A5, c5, l5, rfl, r5, o5, n5⟩ := open_i16x4s (hval 5 43 v5 rfl rfl) h5
  clear hA0 hval0
  refine (codecEncodeLawI z0_1 z0_2 z0_3 z0_4 z0_5 z0_6 qa0 qc0 A0_1 c0_1 A0_2 c0_2 A0_3 c0_3 l0_1 l0_2 l0_3 x1_0 x1_1 x1_2 x1_3 x1_4 x1_5 x2_0 x2_1 A3 c3 l3 A4 c4 l4 A5 c5 l5 W hz0 fa0 fc0 r0_1 o0_1 g0_1 r0_2 o0_2 g0_2 r0_3 o0_3 g0_3 b1_0 b1_1 b1_2 b1_3 b1_4 b1_5 b2_0 b2_1 r3 o3 n3 r4 o4 n4 r5 o5 n5).mono fun e W' ⟨he, bel⟩ => ?_
  subst he
  exact ⟨_, rfl, _, _, _, [], _, [], hW', trodAll_mk1 (shut_bool Tryd.underlying4 _), (trodAll_cons_mk (Below.trod laidOut (by kernel_rfl) (of_decide_eq_true (by kernel_rfl)) k0 bel lt0) (trodAll_cons_mk (Below.trod laidOut (by kernel_rfl) (of_decide_eq_true (by kernel_rfl)) k1 bel lt1) (trodAll_cons_mk (Below.trod laidOut (by kernel_rfl) (of_decide_eq_true (by kernel_rfl)) k2 bel lt2) (trodAll_cons_mk (Below.trod laidOut (by kernel_rfl) (of_decide_eq_true (by kernel_rfl)) k3 bel lt3) (trodAll_cons_mk (Below.trod laidOut (by kernel_rfl) (of_decide_eq_true (by kernel_rfl)) k4 bel lt4) (trodAll_cons_mk (Below.trod laidOut (by kernel_rfl) (of_decide_eq_true (by kernel_rfl)) k5 bel lt5) trodAll_mk0)))))), rfl, bel.frame _, fun h => by cases h⟩

theorem said : Rows.CodecEncodeSaid :=
  OpenClaim.holds_of_cond 5 Tryd.f5 rfl rfl rfl rfl rfl rfl rfl ⟨rfl, rfl, rfl, rfl, rfl⟩ rfl rfl rfl rfl rfl (by kernel_rfl) Tryd.func5 (by kernel_rfl)
    (of_decide_eq_true (by kernel_rfl)) (by unfold Func.isWrapper; first | (rw [if_pos (by decide +kernel)]; kernel_rfl) | (rw [if_neg (by decide +kernel)]; exact ⟨rfl, rfl⟩))
    (fun os started H enc _ F => by rw [OpenClaim.pre_eq_preRow]; exact lifted os started H enc F)

theorem plain (f : FuncId) (fn : Func) (hf : Tryd.pinned.checked.prog.funcNamed "insolvency/insolvencylaw35.CodecEncode" = some f) (hfn : Tryd.pinned.checked.prog.funcs[f]? = some fn) :
    false = Tryd.pinned.checked.prog.looks [] ∧ ∀ (j : Nat) t, fn.params[j]? = some t → Tryd.pinned.checked.prog.wantsStandIn t = false := by
  obtain rfl : f = 5 := Option.some.inj ((show Tryd.prog.funcNamed "insolvency/insolvencylaw35.CodecEncode" = some 5 by kernel_rfl).symm.trans hf) |>.symm
  obtain rfl : fn = Tryd.f5 := (Option.some.inj (Tryd.func5.symm.trans hfn)).symm
  refine ⟨by kernel_rfl, fun j t ht => ?_⟩
  rw [Tryd.params5] at ht
  have hm : t = 37 ∨ t = 39 ∨ t = 40 ∨ t = 41 ∨ t = 42 ∨ t = 43 := by simpa [or_assoc] using Array.mem_of_getElem? ht
  rcases hm with rfl | rfl | rfl | rfl | rfl | rfl
  · exact (show Tryd.prog.wantsStandIn 37 = false by kernel_rfl)
  · exact (show Tryd.prog.wantsStandIn 39 = false by kernel_rfl)
  · exact (show Tryd.prog.wantsStandIn 40 = false by kernel_rfl)
  · exact (show Tryd.prog.wantsStandIn 41 = false by kernel_rfl)
  · exact (show Tryd.prog.wantsStandIn 42 = false by kernel_rfl)
  · exact (show Tryd.prog.wantsStandIn 43 = false by kernel_rfl)

theorem proved : Rows.CodecEncodeCardSaid :=
  Claim7.holds_tied_plain_at .later [] _ _ _ _ said (fun _ h => by cases h) (by kernel_rfl) (fun _ h => by cases h) codecEncode_row_tie rfl ⟨rfl, rfl⟩ (by kernel_rfl) rfl plain (by kernel_rfl)
#print axioms proved
end codecEncode

end Go.Proofs.YtcljkdjmmolfoaaDoor

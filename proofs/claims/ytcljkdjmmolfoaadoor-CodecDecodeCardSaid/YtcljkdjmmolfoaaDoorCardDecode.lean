/- CodecDecode: for every input the law returns true and its arguments read as before. No condition beyond the row's own. -/
import Derived.Test.YtcljkdjmmolfoaaDoorLawDecode
import Derived.Test.YtcljkdjmmolfoaaDoorM12
import Derived.Test.YtcljkdjmmolfoaaDoorDecRec
set_option linter.unusedVariables false
set_option linter.unusedSimpArgs false
namespace Go.Proofs.YtcljkdjmmolfoaaDoor
open Go.ChangeShapes Go.WideShapes Go.ChangeAt Go.RowKit

theorem codecDecodeLawI (A0 : Option Addr) (c0 : Nat) (raw : List Nat) (a1 a2 a3 a4 a5 a6 m1 m2 : Int) (Al : Option Addr) (cl : Nat) (ll : List (Int × Int)) (Ao : Option Addr) (co : Nat) (lo : List (Int × Int)) (Ap : Option Addr) (cp : Nat) (lp : List W4) (at_ cc hw : Int) (w : World)
    (r0 : KRd .u8 w w.heap.size A0 raw) (hb0 : Byt raw) (g0 : raw.length ≤ maxLen) (hnc0 : raw.length ≤ c0 ∧ c0 ≤ maxLen ∧ (A0 = none → c0 = 0))
    (b1 : -32768 ≤ a1 ∧ a1 ≤ 32767) (b2 : -32768 ≤ a2 ∧ a2 ≤ 32767) (b3 : -32768 ≤ a3 ∧ a3 ≤ 32767) (b4 : -32768 ≤ a4 ∧ a4 ≤ 32767) (b5 : -32768 ≤ a5 ∧ a5 ≤ 32767) (b6 : -32768 ≤ a6 ∧ a6 ≤ 32767) (d1 : 0 ≤ m1 ∧ m1 ≤ 65535) (d2 : 0 ≤ m2 ∧ m2 ≤ 65535)
    (rl : Rd w w.heap.size 2 Al ll.length (ll.flatMap i8V)) (ol : ∀ p ∈ ll, i8ok p) (gl : ll.length ≤ maxLen) (ro : Rd w w.heap.size 2 Ao lo.length (lo.flatMap u16V)) (oo : ∀ p ∈ lo, u16ok p) (go_ : lo.length ≤ maxLen) (rp : Rd w w.heap.size 4 Ap lp.length (lp.flatMap i16V)) (op : ∀ p ∈ lp, i16ok p) (gp : lp.length ≤ maxLen)
    (t1 : 0 ≤ at_ ∧ at_ ≤ 65535) (t2 : 0 ≤ cc ∧ cc ≤ 255) (t3 : 0 ≤ hw ∧ hw ≤ 255) :
    Calls Tryd.prog 7 #[.slice A0 raw.length c0, .agg #[.int .i16 a1, .int .i16 a2, .int .i16 a3, .int .i16 a4, .int .i16 a5, .int .i16 a6], .agg #[.int .u16 m1, .int .u16 m2], .slice Al ll.length cl, .slice Ao lo.length co, .slice Ap lp.length cp, .int .u16 at_, .int .u8 cc, .int .u8 hw] w fun e w' => e = .returned (.bool true) ∧ Below w.heap.size w w' := by
  obtain ⟨m1, rfl⟩ := Int.eq_ofNat_of_zero_le d1.1
  obtain ⟨m2, rfl⟩ := Int.eq_ofNat_of_zero_le d2.1
  obtain ⟨at_, rfl⟩ := Int.eq_ofNat_of_zero_le t1.1
  obtain ⟨cc, rfl⟩ := Int.eq_ofNat_of_zero_le t2.1
  obtain ⟨hw, rfl⟩ := Int.eq_ofNat_of_zero_le t3.1
  exact codecDecodeLaw A0 _ c0 raw a1 a2 a3 a4 a5 a6 m1 m2 Al _ cl Ao _ co Ap _ cp at_ cc hw w rfl r0 hb0 ⟨hnc0.1, hnc0.2.1⟩ (by omega) (by omega) (by unfold i16b; omega) (by unfold i16b; omega) (by unfold i16b; omega) (by unfold i16b; omega) (by unfold i16b; omega) (by unfold i16b; omega) ll lo lp rfl rfl rfl gl go_ gp rl ol ro oo rp op (by omega) (by omega) (by omega)

namespace codecDecode
theorem own : ownKnob Tryd.prog.godebug = none := by kernel_rfl
theorem laidOut : laidOutB Tryd.prog = true := by kernel_rfl

theorem laid_met (os : Os) : laidMet Tryd.prog Rows.codecDecodeRow.laid ((laidWorld os).forCall (fun _ _ => 0) ⟨#[], #[.slice none 0 0, .agg #[.int .i16 0, .int .i16 0, .int .i16 0, .int .i16 0, .int .i16 0, .int .i16 0], .agg #[.int .u16 0, .int .u16 0], .slice none 0 0, .slice none 0 0, .slice none 0 0, .int .u16 0, .int .u8 0, .int .u8 0], []⟩).memory :=
  laidMet_of_run' 400 (by kernel_rfl) (by kernel_rfl)
theorem reads (os : Os) {H : Type} (enc : TypeId × Value → H) : ∃ places, DataW.whole enc Tryd.prog ((laidWorld os).forCall (fun _ _ => 0) ⟨#[], #[.slice none 0 0, .agg #[.int .i16 0, .int .i16 0, .int .i16 0, .int .i16 0, .int .i16 0, .int .i16 0], .agg #[.int .u16 0, .int .u16 0], .slice none 0 0, .slice none 0 0, .slice none 0 0, .int .u16 0, .int .u8 0, .int .u8 0], []⟩).memory Tryd.f7.params.toList Rows.codecDecodeSpec.vars false (#[.slice none 0 0, .agg #[.int .i16 0, .int .i16 0, .int .i16 0, .int .i16 0, .int .i16 0, .int .i16 0], .agg #[.int .u16 0, .int .u16 0], .slice none 0 0, .slice none 0 0, .slice none 0 0, .int .u16 0, .int .u8 0, .int .u8 0] : Array Value).toList 8 = some ([.nil, .agg [.lit (.int .i16 0), .lit (.int .i16 0), .lit (.int .i16 0), .lit (.int .i16 0), .lit (.int .i16 0), .lit (.int .i16 0)], .agg [.lit (.int .u16 0), .lit (.int .u16 0)], .nil, .nil, .nil, .lit (.int .u16 0), .lit (.int .u8 0), .lit (.int .u8 0)], [], places) :=
  ⟨[], by kernel_rfl⟩

set_option maxRecDepth 100000 in
theorem lifted (os : Os) (started : os.Started) (H : Type) (enc : TypeId × Value → H) (F : Stop.Interp) :
    ReturnsInHanded {} Tryd.checked os 7 .any ((OpenSpec.ofChange Rows.codecDecodeSpec).preRow enc Tryd.prog Tryd.f7 Rows.codecDecodeRow.domain false Rows.codecDecodeRow.laid) (((OpenSpec.ofChange Rows.codecDecodeSpec).at F).post enc Tryd.prog Tryd.f7 false true false false) := by
  obtain ⟨places, hx⟩ := reads os enc
  refine returnsInHanded_of_row (C := Tryd.checked) (s := OpenSpec.ofChange Rows.codecDecodeSpec) own started (by kernel_rfl) Tryd.func7
    (witness_row_at (enc := enc) (C := Tryd.checked) false (laidWorld os) #[.slice none 0 0, .agg #[.int .i16 0, .int .i16 0, .int .i16 0, .int .i16 0, .int .i16 0, .int .i16 0], .agg #[.int .u16 0, .int .u16 0], .slice none 0 0, .slice none 0 0, .slice none 0 0, .int .u16 0, .int .u8 0, .int .u8 0] rfl (by kernel_rfl) (by kernel_rfl) (by kernel_rfl)
      (OpenSpec.preRow_of_cond 8 hx (by kernel_rfl) (fun k hk => by cases hk) (by kernel_rfl) (laid_met os))) ?_
  intro W base args ds gs before hval0 hW _ _ _ _ _ _
  have hval : ∀ (j : Nat) t v, Tryd.f7.params[j]? = some t → args[j]? = some v → Value.okWide Tryd.prog W .any base t v := hval0
  have hW' := hW
  obtain ⟨p, q, hA0, hV, rfl, hfz, hnd⟩ := hW
  have hA : DataW.TrodAll enc Tryd.prog W 0 (fun _ => true) true Tryd.f7.params.toList args.toList ds p := hA0
  rw [Tryd.params7] at hA hval
  obtain ⟨v0, vs0, d0, ds0, p0, q0, hargs, rfl, rfl, h0, rr0⟩ := trodAll_cons hA
  obtain ⟨v1, vs1, d1, ds1, p1, q1, rfl, rfl, rfl, h1, rr1⟩ := trodAll_cons rr0
  obtain ⟨v2, vs2, d2, ds2, p2, q2, rfl, rfl, rfl, h2, rr2⟩ := trodAll_cons rr1
  obtain ⟨v3, vs3, d3, ds3, p3, q3, rfl, rfl, rfl, h3, rr3⟩ := trodAll_cons rr2
  obtain ⟨v4, vs4, d4, ds4, p4, q4, rfl, rfl, rfl, h4, rr4⟩ := trodAll_cons rr3
  obtain ⟨v5, vs5, d5, ds5, p5, q5, rfl, rfl, rfl, h5, rr5⟩ := trodAll_cons rr4
  obtain ⟨v6, vs6, d6, ds6, p6, q6, rfl, rfl, rfl, h6, rr6⟩ := trodAll_cons rr5
  obtain ⟨v7, vs7, d7, ds7, p7, q7, rfl, rfl, rfl, h7, rr7⟩ := trodAll_cons rr6
  obtain ⟨v8, vs8, d8, ds8, p8, q8, rfl, rfl, rfl, h8, rr8⟩ := trodAll_cons rr7
  obtain ⟨rfl, rfl, rfl⟩ := trodAll_nil rr8
  obtain rfl : args = #[v0, v1, v2, v3, v4, v5, v6, v7, v8] := by cases args; simp_all
  obtain ⟨rfl, rfl⟩ := trodVars_none hV
  have k0 := h0
  have lt0 : ∀ x ∈ p0, x.block < W.heap.size := by obtain ⟨m, hm⟩ := k0; exact DataW.trod_lt m _ _ _ hm
  have k1 := h1
  have lt1 : ∀ x ∈ p1, x.block < W.heap.size := by obtain ⟨m, hm⟩ := k1; exact DataW.trod_lt m _ _ _ hm
  have k2 := h2
  have lt2 : ∀ x ∈ p2, x.block < W.heap.size := by obtain ⟨m, hm⟩ := k2; exact DataW.trod_lt m _ _ _ hm
  have k3 := h3
  have lt3 : ∀ x ∈ p3, x.block < W.heap.size := by obtain ⟨m, hm⟩ := k3; exact DataW.trod_lt m _ _ _ hm
  have k4 := h4
  have lt4 : ∀ x ∈ p4, x.block < W.heap.size := by obtain ⟨m, hm⟩ := k4; exact DataW.trod_lt m _ _ _ hm
  have k5 := h5
  have lt5 : ∀ x ∈ p5, x.block < W.heap.size := by obtain ⟨m, hm⟩ := k5; exact DataW.trod_lt m _ _ _ hm
  have k6 := h6
  have lt6 : ∀ x ∈ p6, x.block < W.heap.size := by obtain ⟨m, hm⟩ := k6; exact DataW.trod_lt m _ _ _ hm
  have k7 := h7
  have lt7 : ∀ x ∈ p7, x.block < W.heap.size := by obtain ⟨m, hm⟩ := k7; exact DataW.trod_lt m _ _ _ hm
  have k8 := h8
  have lt8 : ∀ x ∈ p8, x.block < W.heap.size := by obtain ⟨m, hm⟩ := k8; exact DataW.trod_lt m _ _ _ hm
  obtain ⟨A0, c0, l0, rfl, r0, o0, n0, m0⟩ := open_bytes (hval 0 22 v0 rfl rfl) h0
  obtain ⟨x1_0, x1_1, x1_2, x1_3, x1_4, x1_5, rfl, b1_0, b1_1, b1_2, b1_3, b1_4, b1_5⟩ := open_i16x6 (hval 1 39 v1 rfl rfl) h1
  obtain ⟨x2_0, x2_1, rfl, b2_0, b2_1⟩ := open_u16x2 (hval 2 40 v2 rfl rfl) h2
  obtain ⟨A3, c3, l3, rfl, r3, o3, n3⟩ := open_i8x2s (hval 3 41 v3 rfl rfl) h3
  obtain ⟨A4, c4, l4, rfl, r4, o4, n4⟩ := open_u16x2s (hval 4 42 v4 rfl rfl) h4
  obtain ⟨A5, c5, l5, rfl, r5, o5, n5⟩ := open_i16x4s (hval 5 43 v5 rfl rfl) h5
  obtain ⟨a6, rfl, rfl, rfl, w6⟩ := open_int Tryd.underlying23 (hval 6 23 v6 rfl rfl) h6
  have b6 := bounds_u16 w6
  obtain ⟨a7, rfl, rfl, rfl, w7⟩ := open_int Tryd.underlying5 (hval 7 5 v7 rfl rfl) h7
  have b7 := bounds_u8 w7
  obtain ⟨a8, rfl, rfl, rfl, w8⟩ := open_int Tryd.underlying5 (hval 8 5 v8 rfl rfl) h8
  have b8 := bounds_u8 w8
  clear hA0 hval0
  refine (codecDecodeLawI A0 c0 l0 x1_0 x1_1 x1_2 x1_3 x1_4 x1_5 x2_0 x2_1 A3 c3 l3 A4 c4 l4 A5 c5 l5 a6 a7 a8 W r0 o0 n0 m0 b1_0 b1_1 b1_2 b1_3 b1_4 b1_5 b2_0 b2_1 r3 o3 n3 r4 o4 n4 r5 o5 n5 (by have := b6; omega) (by have := b7; omega) (by have := b8; omega)).mono fun e W' ⟨he, bel⟩ => ?_
  subst he
  exact ⟨_, rfl, _, _, _, [], _, [], hW', trodAll_mk1 (shut_bool Tryd.underlying4 _), (trodAll_cons_mk (Below.trod laidOut (by kernel_rfl) (of_decide_eq_true (by kernel_rfl)) k0 bel lt0) (trodAll_cons_mk (Below.trod laidOut (by kernel_rfl) (of_decide_eq_true (by kernel_rfl)) k1 bel lt1) (trodAll_cons_mk (Below.trod laidOut (by kernel_rfl) (of_decide_eq_true (by kernel_rfl)) k2 bel lt2) (trodAll_cons_mk (Below.trod laidOut (by kernel_rfl) (of_decide_eq_true (by kernel_rfl)) k3 bel lt3) (trodAll_cons_mk (Below.trod laidOut (by kernel_rfl) (of_decide_eq_true (by kernel_rfl)) k4 bel lt4) (trodAll_cons_mk (Below.trod laidOut (by kernel_rfl) (of_decide_eq_true (by kernel_rfl)) k5 bel lt5) (trodAll_cons_mk (Below.trod laidOut (by kernel_rfl) (of_decide_eq_true (by kernel_rfl)) k6 bel lt6) (trodAll_cons_mk (Below.trod laidOut (by kernel_rfl) (of_decide_eq_true (by kernel_rfl)) k7 bel lt7) (trodAll_cons_mk (Below.trod laidOut (by kernel_rfl) (of_decide_eq_true (by kernel_rfl)) k8 bel lt8) trodAll_mk0))))))))), rfl, bel.frame _, fun h => by cases h⟩

theorem said : Rows.CodecDecodeSaid :=
  OpenClaim.holds_of_cond 7 Tryd.f7 rfl rfl rfl rfl rfl rfl rfl ⟨rfl, rfl, rfl, rfl, rfl⟩ rfl rfl rfl rfl rfl (by kernel_rfl) Tryd.func7 (by kernel_rfl)
    (of_decide_eq_true (by kernel_rfl)) (by unfold Func.isWrapper; first | (rw [if_pos (by decide +kernel)]; kernel_rfl) | (rw [if_neg (by decide +kernel)]; exact ⟨rfl, rfl⟩))
    (fun os started H enc _ F => by rw [OpenClaim.pre_eq_preRow]; exact lifted os started H enc F)

theorem plain (f : FuncId) (fn : Func) (hf : Tryd.pinned.checked.prog.funcNamed "insolvency/insolvencylaw35.CodecDecode" = some f) (hfn : Tryd.pinned.checked.prog.funcs[f]? = some fn) :
    false = Tryd.pinned.checked.prog.looks [] ∧ ∀ (j : Nat) t, fn.params[j]? = some t → Tryd.pinned.checked.prog.wantsStandIn t = false := by
  obtain rfl : f = 7 := Option.some.inj ((show Tryd.prog.funcNamed "insolvency/insolvencylaw35.CodecDecode" = some 7 by kernel_rfl).symm.trans hf) |>.symm
  obtain rfl : fn = Tryd.f7 := (Option.some.inj (Tryd.func7.symm.trans hfn)).symm
  refine ⟨by kernel_rfl, fun j t ht => ?_⟩
  rw [Tryd.params7] at ht
  have hm : t = 22 ∨ t = 39 ∨ t = 40 ∨ t = 41 ∨ t = 42 ∨ t = 43 ∨ t = 23 ∨ t = 5 := by simpa [or_assoc] using Array.mem_of_getElem? ht
  rcases hm with rfl | rfl | rfl | rfl | rfl | rfl | rfl | rfl
  · exact (show Tryd.prog.wantsStandIn 22 = false by kernel_rfl)
  · exact (show Tryd.prog.wantsStandIn 39 = false by kernel_rfl)
  · exact (show Tryd.prog.wantsStandIn 40 = false by kernel_rfl)
  · exact (show Tryd.prog.wantsStandIn 41 = false by kernel_rfl)
  · exact (show Tryd.prog.wantsStandIn 42 = false by kernel_rfl)
  · exact (show Tryd.prog.wantsStandIn 43 = false by kernel_rfl)
  · exact (show Tryd.prog.wantsStandIn 23 = false by kernel_rfl)
  · exact (show Tryd.prog.wantsStandIn 5 = false by kernel_rfl)

theorem proved : Rows.CodecDecodeCardSaid :=
  Claim7.holds_tied_plain_at .later [] _ _ _ _ said (fun _ h => by cases h) (by kernel_rfl) (fun _ h => by cases h) codecDecode_row_tie rfl ⟨rfl, rfl⟩ (by kernel_rfl) rfl plain (by kernel_rfl)
#print axioms proved
end codecDecode

end Go.Proofs.YtcljkdjmmolfoaaDoor

/- codec: the writer's rat and numbers. -/
import Derived.Test.YtcljkdjmmolfoaaDoorWriteT
import Derived.Test.YtcljkdjmmolfoaaDoorRat
set_option linter.unusedVariables false
set_option linter.unusedSimpArgs false
namespace Go.Proofs.YtcljkdjmmolfoaaDoor
open Go.RowKit

theorem WrT.setOk {B g n : Nat} {T : List Nat} {ok ok' : Bool} {W : World} (h : WrT B g T ok n W) (hi : ok' = true → ok = true) : WrT B g T ok' n (W.setCell ⟨g, 1, none⟩ (.bool ok')) := by
  obtain ⟨bs, h1, h2, h3⟩ := h
  exact ⟨bs, h1.setOk, h2, fun e => h3 (hi e)⟩

def ratB (neg : Bool) (num den : ByteArray) : List Nat := vint (if neg = true then 2 else 0) ++ txt num ++ txt den

/-- behind the first statement of rat -/
def RCut (B g n : Nat) (T : List Nat) (ok : Bool) (neg : Bool) (num den : ByteArray) (w wx : World) : Prop :=
  WrT B g T ok n wx ∧ Below B w wx ∧ KeepT g w wx ∧ wx.heap[w.heap.size]? = some (.cells #[.bool neg, .string num, .string den] 30 (0, 0))

set_option maxHeartbeats 4000000 in
set_option maxRecDepth 100000 in
theorem ratT (B g n : Nat) (T : List Nat) (ok neg vb : Bool) (num den : ByteArray) (w : World) (hW : WrT B g T ok n w) (hB : B ≤ w.heap.size) (hn : n ≤ 700000) (hs1 : num.size ≤ maxLen) (hs2 : den.size ≤ maxLen)
    (HV : num.size ≤ 4096 → den.size ≤ 4096 → ∀ W, Calls Tryd.prog 56 #[.agg #[.bool neg, .string num, .string den]] W fun e W' => e = .returned (.bool vb) ∧ Below W.heap.size W W')
    (ok' : Bool) (hok : ok' = (ok && (decide (num.size ≤ 4096) && (decide (den.size ≤ 4096) && vb)))) (T' : List Nat) (hT : T' = T ++ ratB neg num den) :
    Calls Tryd.prog 45 #[.pointer (some ⟨g, 0, none⟩), .agg #[.bool neg, .string num, .string den]] w (WPost B g T' ok' (n + 10100) w) := by
  have HVV := Lib.hid HV
  have hm1 : num.size ≤ 9223372036854775807 := hs1
  have hm2 : den.size ≤ 9223372036854775807 := hs2
  have HW := Lib.hid hW
  have HOK := Lib.hid hok
  have HT := Lib.hid hT
  have hgl := hW.lt
  obtain ⟨bs, hw2, hl2, ht2⟩ := hW
  obtain ⟨A, c, c0, c1, f0, f1, hg, hown⟩ := hw2.open_
  have hBg := hw2.ge
  clear HV hok hT hw2 ht2 hg hown hl2
  have hne : w.heap.size ≠ g := by omega
  go_enter Tryd.func45, Tryd.ntmps45
  go_upto_region 1 with fail
  go_cut [] (fun wx => RCut B g n T ok' neg num den w wx)
  case first =>
    have hba : Below B w (w.alloc (.cells #[.bool neg, .string num, .string den] 30)) := (Below.refl _ _).alloc hB _
    have hka : KeepT g w (w.alloc (.cells #[.bool neg, .string num, .string den] 30)) := (KeepT.refl _ _).alloc _
    have hwa : WrT B g T ok n (w.alloc (.cells #[.bool neg, .string num, .string den] 30)) := HW.out.next (bel_alloc _ _)
    have HA := Lib.hid (And.intro hba (And.intro hka hwa))
    clear hba hka hwa
    have HEND : Hid (∀ wv, Below (w.alloc (.cells #[.bool neg, .string num, .string den] 30)).heap.size (w.alloc (.cells #[.bool neg, .string num, .string den] 30)) wv → (ok' = true → ok = true) → RCut B g n T ok' neg num den w (wv.setCell ⟨g, 1, none⟩ (.bool ok'))) := by
      intro wv hv hi
      refine ⟨(HA.out.2.2.next hv).setOk hi, (HA.out.1.trans (hv.mono (Nat.le_trans hB HA.out.1.size))).setCell hBg _, (HA.out.2.1.below hv).setCell, ?_⟩
      rw [heap_setCell_other _ _ _ _ hne]
      exact blk_next (blk_new _ _) hv
    have HEND2 : Hid ((ok' = true → ok = true) → RCut B g n T ok' neg num den w ((w.setCell ⟨g, 1, none⟩ (.bool ok')).alloc (.cells #[.bool neg, .string num, .string den] 30))) := by
      intro hi
      refine ⟨(HW.out.setOk hi).next (bel_alloc _ _), ((Below.refl _ _).setCell hBg _).alloc (by simp; exact hB) _, ((KeepT.refl _ _).setCell).alloc _, ?_⟩
      have := blk_new (w.setCell ⟨g, 1, none⟩ (.bool ok')) (.cells #[.bool neg, .string num, .string den] 30)
      rwa [World.size_setCell] at this
    cases ok
    · obtain rfl : ok' = false := by rw [HOK.out]; rfl
      go_wp2_with fail
      go_meet
      exact HEND2.out (fun h => by cases h)
    · by_cases h1 : num.size ≤ 4096
      · have t1 : decide ((num.size : Int) ≤ 4096) = true := decide_eq_true (by omega)
        by_cases h2 : den.size ≤ 4096
        · have t2 : decide ((den.size : Int) ≤ 4096) = true := decide_eq_true (by omega)
          obtain rfl : ok' = vb := by rw [HOK.out, decide_eq_true h1, decide_eq_true h2]; simp
          have HV1 := Lib.hid (HVV.out h1 h2)
          clear HVV h1 h2 HOK
          go_wp2_with fail
          refine (HV1.out _).mono ?_
          rintro e wv ⟨rfl, hv⟩
          have HWV := Lib.hid (HEND.out wv hv (fun _ => by first | rfl | trivial))
          obtain ⟨bs2, hw3, _, _⟩ := HA.out.2.2.next hv
          have hgw := hw3.lt
          obtain ⟨A', c', d0, d1, e0, e1, _, _⟩ := hw3.open_
          clear hw3
          clear hv
          go_wp2_with fail
          go_meet
          exact HWV.out
        · have t2 : decide ((den.size : Int) ≤ 4096) = false := decide_eq_false (by omega)
          obtain rfl : ok' = false := by rw [HOK.out, decide_eq_false h2]; simp
          clear HVV h1 h2 HOK
          go_wp2_with fail
          go_meet
          exact HEND2.out (fun h => by cases h)
      · have t1 : decide ((num.size : Int) ≤ 4096) = false := decide_eq_false (by omega)
        obtain rfl : ok' = false := by rw [HOK.out, decide_eq_false h1]; simp
        clear HVV h1 HOK
        go_wp2_with fail
        go_meet
        exact HEND2.out (fun h => by cases h)
  case rest =>
    obtain ⟨hw1, hb1, hk1, hr1⟩ := hcut
    have hB1 : B ≤ wc.heap.size := Nat.le_trans hB hb1.size
    have HB1 := Lib.hid hb1
    have HK1 := Lib.hid hk1
    have HIMP : Hid (ok' = (ok' && decide (num.size ≤ 4096)) ∧ ok' = (ok' && decide (den.size ≤ 4096))) := by
      show _ ∧ _
      rw [HOK.out]
      cases ok <;> cases decide (num.size ≤ 4096) <;> cases decide (den.size ≤ 4096) <;> cases vb <;> decide
    clear hb1 hk1 HOK HVV HW c0 c1 f0 f1
    cases neg
    · obtain ⟨r0, r1, r2, _, _, _, hz⟩ := three_of hr1
      have HN := Lib.hid (numberT B g n T ok' 0 wc hw1 hB1 (by omega) (by omega) (by omega) ok' (by rw [show rngN 0 = true from rfl]; simp) (T ++ vint 0) (by rw [show zig 0 = 0 from rfl]))
      have HR1 := Lib.hid hr1
      clear hw1 hr1
      go_wp2_with fail
      refine HN.out.mono ?_
      rintro e w2 ⟨rfl, hw2, hb2, hk2⟩
      have hr2 := hk2 _ _ _ _ HR1.out (by decide) hne
      have HB2 : Hid (Below B w w2) := HB1.out.trans hb2
      have HK2 : Hid (KeepT g w w2) := HK1.out.trans hk2
      have hB2 : B ≤ w2.heap.size := Nat.le_trans hB1 hb2.size
      obtain ⟨s0, s1, s2, _, _, _, hz2⟩ := three_of hr2
      have HX := Lib.hid (textT B g (n + 11) _ ok' num w2 hw2 hB2 (by omega) hs1 ok' HIMP.out.1 _ rfl)
      have HR2 := Lib.hid hr2
      clear hr2 hw2 hb2 hk2 HN HR1 r0 r1 r2
      go_wp2_with fail
      refine HX.out.mono ?_
      rintro e w3 ⟨rfl, hw3, hb3, hk3⟩
      have hr3 := hk3 _ _ _ _ HR2.out (by decide) hne
      have HB3 : Hid (Below B w w3) := HB2.out.trans hb3
      have HK3 : Hid (KeepT g w w3) := HK2.out.trans hk3
      have hB3 : B ≤ w3.heap.size := Nat.le_trans hB2 hb3.size
      obtain ⟨t0, t1, t2, _, _, _, hz3⟩ := three_of hr3
      have HY := Lib.hid (textT B g (n + 11 + 5000) _ ok' den w3 hw3 hB3 (by omega) hs2 ok' HIMP.out.2 _ rfl)
      clear hr3 hw3 hb3 hk3 HX HR2 s0 s1 s2
      go_wp2_with fail
      refine HY.out.mono ?_
      rintro e w4 ⟨rfl, hw4, hb4, hk4⟩
      have HW4 : Hid (WrT B g T' ok' (n + 10100) w4) := by
        obtain ⟨bs4, g1, g2, g3⟩ := hw4
        refine ⟨bs4, g1, by omega, fun h => ?_⟩
        rw [g3 h, HT.out, ratB]; simp only [List.append_assoc]; rfl
      have HB4 : Hid (Below B w w4) := HB3.out.trans hb4
      have HK4 : Hid (KeepT g w w4) := HK3.out.trans hk4
      clear hw4 hb4 hk4 t0 t1 t2
      go_wp2_with fail
      go_end0
      exact ⟨rfl, HW4.out, HB4.out, HK4.out⟩
    · obtain ⟨r0, r1, r2, _, _, _, hz⟩ := three_of hr1
      have HN := Lib.hid (numberT B g n T ok' 1 wc hw1 hB1 (by omega) (by omega) (by omega) ok' (by rw [show rngN 1 = true from rfl]; simp) (T ++ vint 2) (by rw [show zig 1 = 2 from rfl]))
      have HR1 := Lib.hid hr1
      clear hw1 hr1
      go_wp2_with fail
      refine HN.out.mono ?_
      rintro e w2 ⟨rfl, hw2, hb2, hk2⟩
      have hr2 := hk2 _ _ _ _ HR1.out (by decide) hne
      have HB2 : Hid (Below B w w2) := HB1.out.trans hb2
      have HK2 : Hid (KeepT g w w2) := HK1.out.trans hk2
      have hB2 : B ≤ w2.heap.size := Nat.le_trans hB1 hb2.size
      obtain ⟨s0, s1, s2, _, _, _, hz2⟩ := three_of hr2
      have HX := Lib.hid (textT B g (n + 11) _ ok' num w2 hw2 hB2 (by omega) hs1 ok' HIMP.out.1 _ rfl)
      have HR2 := Lib.hid hr2
      clear hr2 hw2 hb2 hk2 HN HR1 r0 r1 r2
      go_wp2_with fail
      refine HX.out.mono ?_
      rintro e w3 ⟨rfl, hw3, hb3, hk3⟩
      have hr3 := hk3 _ _ _ _ HR2.out (by decide) hne
      have HB3 : Hid (Below B w w3) := HB2.out.trans hb3
      have HK3 : Hid (KeepT g w w3) := HK2.out.trans hk3
      have hB3 : B ≤ w3.heap.size := Nat.le_trans hB2 hb3.size
      obtain ⟨t0, t1, t2, _, _, _, hz3⟩ := three_of hr3
      have HY := Lib.hid (textT B g (n + 11 + 5000) _ ok' den w3 hw3 hB3 (by omega) hs2 ok' HIMP.out.2 _ rfl)
      clear hr3 hw3 hb3 hk3 HX HR2 s0 s1 s2
      go_wp2_with fail
      refine HY.out.mono ?_
      rintro e w4 ⟨rfl, hw4, hb4, hk4⟩
      have HW4 : Hid (WrT B g T' ok' (n + 10100) w4) := by
        obtain ⟨bs4, g1, g2, g3⟩ := hw4
        refine ⟨bs4, g1, by omega, fun h => ?_⟩
        rw [g3 h, HT.out, ratB]; simp only [List.append_assoc]; rfl
      have HB4 : Hid (Below B w w4) := HB3.out.trans hb4
      have HK4 : Hid (KeepT g w w4) := HK3.out.trans hk4
      clear hw4 hb4 hk4 t0 t1 t2
      go_wp2_with fail
      go_end0
      exact ⟨rfl, HW4.out, HB4.out, HK4.out⟩

end Go.Proofs.YtcljkdjmmolfoaaDoor

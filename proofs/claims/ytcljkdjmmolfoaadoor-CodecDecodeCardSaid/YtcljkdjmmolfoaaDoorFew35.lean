/- insolvencylaw0.Few, insolvencylaw35.few. -/
import Derived.Test.YtcljkdjmmolfoaaDoorM11
set_option linter.unusedVariables false
set_option linter.unusedSimpArgs false
namespace Go.Proofs.YtcljkdjmmolfoaaDoor
open Go.RowKit

def fewQ (q : RQ) : Bool := decide (q.num.size ≤ 24) && decide (q.den.size ≤ 24)
def fewR (a c : RQ) (legs : List (Int × Int)) (opts : List (RQ × Int)) (pays : List Pay) : Bool :=
  decide (legs.length ≤ 12) && (decide (opts.length ≤ 8) && (decide (pays.length ≤ 20) && (fewQ a && (fewQ c && opts.all fun p => fewQ p.1))))

set_option maxHeartbeats 1000000 in
theorem fewRat_calls (neg : Bool) (num den : ByteArray) (w : World) (h1 : num.size ≤ maxLen) (h2 : den.size ≤ maxLen) (c : Bool) (hc : c = fewQ ⟨neg, num, den⟩) :
    Calls Tryd.prog 21 #[.agg #[.bool neg, .string num, .string den]] w fun e w' => e = .returned (.bool c) ∧ Below w.heap.size w w' := by
  unfold maxLen at h1 h2
  unfold fewQ at hc
  have HC := Lib.hid hc
  clear hc
  by_cases g1 : num.size ≤ 24
  · have d1 : decide ((num.size : Int) ≤ 24) = true := decide_eq_true (by omega)
    have e1 := Lib.hid (show decide (num.size ≤ 24) = true from decide_eq_true g1)
    by_cases g2 : den.size ≤ 24
    · have d2 : decide ((den.size : Int) ≤ 24) = true := decide_eq_true (by omega)
      have e2 := Lib.hid (show decide (den.size ≤ 24) = true from decide_eq_true g2)
      have hof : c = true := by rw [HC.out]; dsimp only; rw [e1.out, e2.out]; rfl
      subst hof
      go_enter Tryd.func21, Tryd.ntmps21
      go_wp2_with fail
      go_ret
      exact ⟨rfl, bel_alloc _ _⟩
    · have d2 : decide ((den.size : Int) ≤ 24) = false := decide_eq_false (by omega)
      have e2 := Lib.hid (show decide (den.size ≤ 24) = false from decide_eq_false g2)
      have hof : c = false := by rw [HC.out]; dsimp only; rw [e1.out, e2.out]; rfl
      subst hof
      go_enter Tryd.func21, Tryd.ntmps21
      go_wp2_with fail
      go_ret
      exact ⟨rfl, bel_alloc _ _⟩
  · have d1 : decide ((num.size : Int) ≤ 24) = false := decide_eq_false (by omega)
    have e1 := Lib.hid (show decide (num.size ≤ 24) = false from decide_eq_false g1)
    have hof : c = false := by rw [HC.out]; dsimp only; rw [e1.out]; rfl
    subst hof
    go_enter Tryd.func21, Tryd.ntmps21
    go_wp2_with fail
    go_ret
    exact ⟨rfl, bel_alloc _ _⟩

set_option maxHeartbeats 8000000 in
set_option maxRecDepth 100000 in
theorem few35_calls (z1 z2 z3 z4 z5 z6 : Int) (an : Bool) (as_ ad_ : ByteArray) (cn : Bool) (cs cd : ByteArray) (A1 : Option Addr) (n1 c1 : Nat) (A2 : Option Addr) (n2 c2 : Nat) (A3 : Option Addr) (n3 c3 : Nat) (legs : List (Int × Int)) (opts : List (RQ × Int)) (pays : List Pay) (w : World)
    (ha : as_.size ≤ maxLen ∧ ad_.size ≤ maxLen) (hc : cs.size ≤ maxLen ∧ cd.size ≤ maxLen) (e1 : n1 = legs.length) (e2 : n2 = opts.length) (e3 : n3 = pays.length)
    (r2 : Rd w w.heap.size 4 A2 opts.length (opts.flatMap optV)) (o2 : ∀ p ∈ opts, p.1.fits ∧ i64b p.2)
    (g1 : n1 ≤ maxLen) (g2 : n2 ≤ maxLen) (g3 : n3 ≤ maxLen) (ok : Bool) (hok : ok = fewR ⟨an, as_, ad_⟩ ⟨cn, cs, cd⟩ legs opts pays) :
    Calls Tryd.prog 13 #[.agg #[.int .i64 z1, .int .i64 z2, .int .i64 z3, .int .i64 z4, .int .i64 z5, .int .i64 z6, .bool an, .string as_, .string ad_, .bool cn, .string cs, .string cd, .slice A1 n1 c1, .slice A2 n2 c2, .slice A3 n3 c3]] w fun e w' => e = .returned (.bool ok) ∧ Below w.heap.size w w' := by
  have HQA := Lib.hid ha
  have HQC := Lib.hid hc
  have HN := Lib.hid (And.intro e1 (And.intro e2 e3))
  have HR2 := Lib.hid (And.intro r2 o2)
  unfold fewR at hok
  rw [← e1, ← e2, ← e3] at hok
  have HOK := Lib.hid hok
  unfold maxLen at g1 g2 g3
  clear ha hc e1 e2 e3 r2 o2 hok
  have HC0 : Hid (RecS w.heap.size z1 z2 z3 z4 z5 z6 an as_ ad_ cn cs cd A1 n1 c1 A2 n2 c2 A3 n3 c3 (w.alloc (.cells #[.int .i64 z1, .int .i64 z2, .int .i64 z3, .int .i64 z4, .int .i64 z5, .int .i64 z6, .bool an, .string as_, .string ad_, .bool cn, .string cs, .string cd, .slice A1 n1 c1, .slice A2 n2 c2, .slice A3 n3 c3] 37))) := blk_new _ _
  have HB0 : Hid (Below w.heap.size w (w.alloc (.cells #[.int .i64 z1, .int .i64 z2, .int .i64 z3, .int .i64 z4, .int .i64 z5, .int .i64 z6, .bool an, .string as_, .string ad_, .bool cn, .string cs, .string cd, .slice A1 n1 c1, .slice A2 n2 c2, .slice A3 n3 c3] 37))) := bel_alloc _ _
  by_cases l1 : n1 ≤ 12
  · have t1 : decide ((12 : Int) < (n1 : Int)) = false := decide_eq_false (by omega)
    have lm1 := Lib.hid (show decide (n1 ≤ 12) = true from decide_eq_true l1)
    by_cases l2 : n2 ≤ 8
    · have t2 : decide ((8 : Int) < (n2 : Int)) = false := decide_eq_false (by omega)
      have lm2 := Lib.hid (show decide (n2 ≤ 8) = true from decide_eq_true l2)
      by_cases l3 : n3 ≤ 20
      · have t3 : decide ((20 : Int) < (n3 : Int)) = false := decide_eq_false (by omega)
        have lm3 := Lib.hid (show decide (n3 ≤ 20) = true from decide_eq_true l3)
        go_enter Tryd.func13, Tryd.ntmps13
        go_wp2_with fail
        refine (fewRat_calls an as_ ad_ _ HQA.out.1 HQA.out.2 _ rfl).mono ?_
        rintro e w2 ⟨rfl, hb⟩
        have HC2 : Hid (RecS w.heap.size z1 z2 z3 z4 z5 z6 an as_ ad_ cn cs cd A1 n1 c1 A2 n2 c2 A3 n3 c3 w2) := RecS.below z1 z2 z3 z4 z5 z6 an as_ ad_ cn cs cd A1 n1 c1 A2 n2 c2 A3 n3 c3 HC0.out hb
        have HB2 : Hid (Below w.heap.size w w2) := HB0.out.trans (hb.mono HB0.out.size)
        clear hb
        obtain ⟨va, hva⟩ : ∃ c, c = fewQ ⟨an, as_, ad_⟩ := ⟨_, rfl⟩
        rw [← hva]
        have HVA := Lib.hid hva.symm
        clear hva HC0 HB0
        cases va
        · obtain ⟨k0, k1, k2, k3, k4, k5, k6, k7, k8, k9, k10, k11, k12, k13, k14⟩ := RecS.cells z1 z2 z3 z4 z5 z6 an as_ ad_ cn cs cd A1 n1 c1 A2 n2 c2 A3 n3 c3 HC2.out
          have hof : ok = false := by rw [HOK.out, lm1.out, lm2.out, lm3.out, HVA.out]; simp
          subst hof
          go_wp2_with fail
          go_ret
          exact ⟨rfl, HB2.out⟩
        · obtain ⟨k0, k1, k2, k3, k4, k5, k6, k7, k8, k9, k10, k11, k12, k13, k14⟩ := RecS.cells z1 z2 z3 z4 z5 z6 an as_ ad_ cn cs cd A1 n1 c1 A2 n2 c2 A3 n3 c3 HC2.out
          go_wp2_with fail
          clear k0 k1 k2 k3 k4 k5 k6 k7 k8 k9 k10 k11 k12 k13 k14
          refine (fewRat_calls cn cs cd _ HQC.out.1 HQC.out.2 _ rfl).mono ?_
          rintro e w3 ⟨rfl, hb⟩
          have HC3 : Hid (RecS w.heap.size z1 z2 z3 z4 z5 z6 an as_ ad_ cn cs cd A1 n1 c1 A2 n2 c2 A3 n3 c3 w3) := RecS.below z1 z2 z3 z4 z5 z6 an as_ ad_ cn cs cd A1 n1 c1 A2 n2 c2 A3 n3 c3 HC2.out hb
          have HB3 : Hid (Below w.heap.size w w3) := HB2.out.trans (hb.mono HB2.out.size)
          clear hb
          obtain ⟨vc, hvc⟩ : ∃ c, c = fewQ ⟨cn, cs, cd⟩ := ⟨_, rfl⟩
          rw [← hvc]
          have HVC := Lib.hid hvc.symm
          clear hvc HC2 HB2
          cases vc
          · obtain ⟨k0, k1, k2, k3, k4, k5, k6, k7, k8, k9, k10, k11, k12, k13, k14⟩ := RecS.cells z1 z2 z3 z4 z5 z6 an as_ ad_ cn cs cd A1 n1 c1 A2 n2 c2 A3 n3 c3 HC3.out
            have hof : ok = false := by rw [HOK.out, lm1.out, lm2.out, lm3.out, HVA.out, HVC.out]; simp
            subst hof
            go_wp2_with fail
            go_ret
            exact ⟨rfl, HB3.out⟩
          · obtain ⟨k0, k1, k2, k3, k4, k5, k6, k7, k8, k9, k10, k11, k12, k13, k14⟩ := RecS.cells z1 z2 z3 z4 z5 z6 an as_ ad_ cn cs cd A1 n1 c1 A2 n2 c2 A3 n3 c3 HC3.out
            go_wp2_with fail
            clear k0 k1 k2 k3 k4 k5 k6 k7 k8 k9 k10 k11 k12 k13 k14
            go_loopw [3] (fun vi wr => ∃ k : Nat, k ≤ n2 ∧ vi = .int .i64 (k : Int) ∧ Hid ((opts.take k).all (fun p => fewQ p.1) = true) ∧ Hid (Below w.heap.size w wr) ∧ Hid (RecS w.heap.size z1 z2 z3 z4 z5 z6 an as_ ad_ cn cs cd A1 n1 c1 A2 n2 c2 A3 n3 c3 wr)) (fun vi _ => n2 - (intOf vi).toNat)
            case atStart => exact ⟨0, Nat.zero_le _, rfl, rfl, HB3, HC3⟩
            case round =>
              clear HB3 HC3
              obtain ⟨k, hk_, rfl, HA, HBr, HCr⟩ := hrel
              rename World => wo2
              have hBr := HBr.out.size
              by_cases hlt : k < n2
              · obtain ⟨p, hp⟩ : ∃ p, opts[k]? = some p := getElem?_of_lt (by have := HN.out; omega)
                have hpm := HR2.out.2 p (List.mem_of_getElem? hp)
                obtain ⟨bq, oq, hAe, hbq, hcq⟩ := Rd.at_ (enc := optV) (fun _ => rfl) (HR2.out.1.below HBr.out) hp
                subst hAe
                obtain ⟨⟨ng, nu, de⟩, x⟩ := p
                have HP := Lib.hid (And.intro hp hpm)
                clear hp hpm
                have d0 := hcq 0 _ rfl
                have d1 := hcq 1 _ rfl
                have d2 := hcq 2 _ rfl
                rw [Nat.add_zero] at d0
                rw [← Nat.add_assoc] at d1 d2
                clear hcq
                have hbq2 : bq < wo2.heap.size := by omega
                obtain ⟨k0, k1, k2, k3, k4, k5, k6, k7, k8, k9, k10, k11, k12, k13, k14⟩ := RecS.cells z1 z2 z3 z4 z5 z6 an as_ ad_ cn cs cd A1 n1 c1 (some ⟨bq, oq, none⟩) n2 c2 A3 n3 c3 HCr.out
                go_wp2_with fail
                clear k0 k1 k2 k3 k4 k5 k6 k7 k8 k9 k10 k11 k12 k13 k14
                clear d0 d1 d2
                refine (fewRat_calls ng nu de _ HP.out.2.1.1 HP.out.2.1.2 _ rfl).mono ?_
                rintro e w4 ⟨rfl, hb⟩
                have HC4 : Hid (RecS w.heap.size z1 z2 z3 z4 z5 z6 an as_ ad_ cn cs cd A1 n1 c1 (some ⟨bq, oq, none⟩) n2 c2 A3 n3 c3 w4) := RecS.below z1 z2 z3 z4 z5 z6 an as_ ad_ cn cs cd A1 n1 c1 (some ⟨bq, oq, none⟩) n2 c2 A3 n3 c3 HCr.out hb
                have HB4 : Hid (Below w.heap.size w w4) := HBr.out.trans (hb.mono HBr.out.size)
                clear hb
                obtain ⟨vx, hvx⟩ : ∃ c, c = fewQ ⟨ng, nu, de⟩ := ⟨_, rfl⟩
                rw [← hvx]
                have HX := Lib.hid hvx.symm
                clear hvx
                cases vx
                · obtain ⟨k0, k1, k2, k3, k4, k5, k6, k7, k8, k9, k10, k11, k12, k13, k14⟩ := RecS.cells z1 z2 z3 z4 z5 z6 an as_ ad_ cn cs cd A1 n1 c1 (some ⟨bq, oq, none⟩) n2 c2 A3 n3 c3 HC4.out
                  have hof : ok = false := by rw [HOK.out, lm1.out, lm2.out, lm3.out, HVA.out, HVC.out, all_false (f := fun p => fewQ p.1) HP.out.1 HX.out]; simp
                  subst hof
                  go_wp2_with fail
                  go_ret
                  exact ⟨rfl, HB4.out⟩
                · obtain ⟨k0, k1, k2, k3, k4, k5, k6, k7, k8, k9, k10, k11, k12, k13, k14⟩ := RecS.cells z1 z2 z3 z4 z5 z6 an as_ ad_ cn cs cd A1 n1 c1 (some ⟨bq, oq, none⟩) n2 c2 A3 n3 c3 HC4.out
                  go_wp2_with fail
                  clear k0 k1 k2 k3 k4 k5 k6 k7 k8 k9 k10 k11 k12 k13 k14
                  go_roundw
                  case measure => simp [intOf]; omega
                  case rel => exact ⟨k + 1, by omega, by go_num, all_step HP.out.1 HX.out HA.out, HB4, HC4⟩
              · have HAA : Hid (opts.all (fun p => fewQ p.1) = true) := by have := HA.out; rwa [List.take_of_length_le (by have := HN.out; omega)] at this
                clear HA
                obtain ⟨k0, k1, k2, k3, k4, k5, k6, k7, k8, k9, k10, k11, k12, k13, k14⟩ := RecS.cells z1 z2 z3 z4 z5 z6 an as_ ad_ cn cs cd A1 n1 c1 A2 n2 c2 A3 n3 c3 HCr.out
                have hof : ok = true := by rw [HOK.out, lm1.out, lm2.out, lm3.out, HVA.out, HVC.out, HAA.out]; rfl
                subst hof
                go_wp2_with fail
                go_ret
                exact ⟨rfl, HBr.out⟩
      · have t3 : decide ((20 : Int) < (n3 : Int)) = true := decide_eq_true (by omega)
        have lm3 := Lib.hid (show decide (n3 ≤ 20) = false from decide_eq_false l3)
        have hof : ok = false := by rw [HOK.out, lm1.out, lm2.out, lm3.out]; simp
        subst hof
        go_enter Tryd.func13, Tryd.ntmps13
        go_wp2_with fail
        go_ret
        exact ⟨rfl, HB0.out⟩
    · have t2 : decide ((8 : Int) < (n2 : Int)) = true := decide_eq_true (by omega)
      have lm2 := Lib.hid (show decide (n2 ≤ 8) = false from decide_eq_false l2)
      have hof : ok = false := by rw [HOK.out, lm1.out, lm2.out]; simp
      subst hof
      go_enter Tryd.func13, Tryd.ntmps13
      go_wp2_with fail
      go_ret
      exact ⟨rfl, HB0.out⟩
  · have t1 : decide ((12 : Int) < (n1 : Int)) = true := decide_eq_true (by omega)
    have lm1 := Lib.hid (show decide (n1 ≤ 12) = false from decide_eq_false l1)
    have hof : ok = false := by rw [HOK.out, lm1.out]; simp
    subst hof
    go_enter Tryd.func13, Tryd.ntmps13
    go_wp2_with fail
    go_ret
    exact ⟨rfl, HB0.out⟩

end Go.Proofs.YtcljkdjmmolfoaaDoor

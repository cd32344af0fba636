/- insolvencyref33.Valid. -/
import Derived.Test.YtcljkdjmmolfoaaDoorRefB
import Derived.Test.YtcljkdjmmolfoaaDoorRefValid
set_option linter.unusedVariables false
set_option linter.unusedSimpArgs false
namespace Go.Proofs.YtcljkdjmmolfoaaDoor
open Go.RowKit

def RQ.vl (q : RQ) : Bool := vld q.neg q.num q.den
def optOkR (p : RQ × Int) : Bool := p.1.vl && rngN p.2
/-- what the definition's Valid answers -/
def refOk (zs : List Int) (a c : RQ) (legs : List (Int × Int)) (opts : List (RQ × Int)) (pays : List Pay) (T : List Nat) : Bool :=
  zs.all rngN && (a.vl && (c.vl && (decide (legs.length ≤ 8) && (decide (opts.length ≤ 4) && (decide (pays.length ≤ 256) && (legs.all legOk && (opts.all optOkR && (pays.all payOk && decide (T.length ≤ 4096)))))))))
theorem RecS.below {q : Nat} {W W' : World} (z1 z2 z3 z4 z5 z6 : Int) (an : Bool) (as_ ad_ : ByteArray) (cn : Bool) (cs cd : ByteArray) (A1 : Option Addr) (n1 c1 : Nat) (A2 : Option Addr) (n2 c2 : Nat) (A3 : Option Addr) (n3 c3 : Nat) (h : RecS q z1 z2 z3 z4 z5 z6 an as_ ad_ cn cs cd A1 n1 c1 A2 n2 c2 A3 n3 c3 W) (hb : Below W.heap.size W W') : RecS q z1 z2 z3 z4 z5 z6 an as_ ad_ cn cs cd A1 n1 c1 A2 n2 c2 A3 n3 c3 W' := blk_next h hb
theorem all_false {α : Type} {f : α → Bool} {l : List α} {k : Nat} {x : α} (h : l[k]? = some x) (hf : f x = false) : l.all f = false := by
  rw [List.all_eq_false]; exact ⟨x, List.mem_of_getElem? h, by rw [hf]; decide⟩
theorem all_step {α : Type} {f : α → Bool} {l : List α} {k : Nat} {x : α} (h : l[k]? = some x) (hf : f x = true) (hk : (l.take k).all f = true) : (l.take (k + 1)).all f = true := by
  rw [List.take_add_one, h, List.all_append, hk]; simp [hf]

set_option maxHeartbeats 16000000 in
set_option maxRecDepth 100000 in
theorem refValid_calls (z1 z2 z3 z4 z5 z6 : Int) (an : Bool) (as_ ad_ : ByteArray) (cn : Bool) (cs cd : ByteArray) (A1 : Option Addr) (n1 c1 : Nat) (A2 : Option Addr) (n2 c2 : Nat) (A3 : Option Addr) (n3 c3 : Nat) (legs : List (Int × Int)) (opts : List (RQ × Int)) (pays : List Pay) (w : World)
    (hz : i64s [z1, z2, z3, z4, z5, z6]) (ha : as_.size ≤ 5000 ∧ ad_.size ≤ 5000) (hc : cs.size ≤ 5000 ∧ cd.size ≤ 5000)
    (e1 : n1 = legs.length) (e2 : n2 = opts.length) (e3 : n3 = pays.length)
    (r1 : Rd w w.heap.size 2 A1 legs.length (legs.flatMap legV)) (o1 : ∀ p ∈ legs, i64b p.1 ∧ i64b p.2)
    (r2 : Rd w w.heap.size 4 A2 opts.length (opts.flatMap optV)) (o2 : ∀ p ∈ opts, (p.1.num.size ≤ 5000 ∧ p.1.den.size ≤ 5000) ∧ i64b p.2)
    (r3 : Rd w w.heap.size 4 A3 pays.length (pays.flatMap payV)) (o3 : ∀ p ∈ pays, i64b p.debt ∧ i64b p.estate ∧ i64b p.claim ∧ i64b p.cents)
    (g1 : n1 ≤ maxLen) (g2 : n2 ≤ maxLen) (g3 : n3 ≤ maxLen) (T : List Nat) (hT : T = encB [z1, z2, z3, z4, z5, z6] ⟨an, as_, ad_⟩ ⟨cn, cs, cd⟩ legs opts pays)
    (ok : Bool) (hok : ok = refOk [z1, z2, z3, z4, z5, z6] ⟨an, as_, ad_⟩ ⟨cn, cs, cd⟩ legs opts pays T) :
    Calls Tryd.prog 23 #[.agg #[.int .i64 z1, .int .i64 z2, .int .i64 z3, .int .i64 z4, .int .i64 z5, .int .i64 z6, .bool an, .string as_, .string ad_, .bool cn, .string cs, .string cd, .slice A1 n1 c1, .slice A2 n2 c2, .slice A3 n3 c3]] w fun e w' => e = .returned (.bool ok) ∧ Below w.heap.size w w' := by
  have HBYT := Lib.hid (fun W (hW : Below w.heap.size w W) (l1 : n1 ≤ 8) (l2 : n2 ≤ 4) (l3 : n3 ≤ 256) => bytesOf_calls z1 z2 z3 z4 z5 z6 an as_ ad_ cn cs cd A1 n1 c1 A2 n2 c2 A3 n3 c3 legs opts pays W hz ha hc e1 e2 e3 (r1.next hW) o1 (r2.next hW) o2 (r3.next hW) o3 l1 l2 l3 T hT)
  have HQA := Lib.hid ha
  have HQC := Lib.hid hc
  have HN := Lib.hid (And.intro e1 (And.intro e2 e3))
  have HR1 := Lib.hid (And.intro r1 o1)
  have HR2 := Lib.hid (And.intro r2 o2)
  have HR3 := Lib.hid (And.intro r3 o3)
  unfold refOk at hok
  rw [← e1, ← e2, ← e3] at hok
  have HOK := Lib.hid hok
  have HTL : Hid (∃ t, t = T.length) := ⟨_, rfl⟩
  unfold maxLen at g1 g2 g3
  clear hz ha hc e1 e2 e3 r1 o1 r2 o2 r3 o3 hT hok
  have HI := Lib.hid (ints_calls z1 z2 z3 z4 z5 z6 an as_ ad_ cn cs cd A1 n1 c1 A2 n2 c2 (w.alloc (.cells #[.int .i64 z1, .int .i64 z2, .int .i64 z3, .int .i64 z4, .int .i64 z5, .int .i64 z6, .bool an, .string as_, .string ad_, .bool cn, .string cs, .string cd, .slice A1 n1 c1, .slice A2 n2 c2, .slice A3 n3 c3] 37)))
  obtain ⟨g, hg⟩ : ∃ g, g = (w.alloc (.cells #[.int .i64 z1, .int .i64 z2, .int .i64 z3, .int .i64 z4, .int .i64 z5, .int .i64 z6, .bool an, .string as_, .string ad_, .bool cn, .string cs, .string cd, .slice A1 n1 c1, .slice A2 n2 c2, .slice A3 n3 c3] 37)).heap.size + 1 := ⟨_, rfl⟩
  rw [← hg] at HI
  clear hg
  go_enter Tryd.func23, Tryd.ntmps23
  go_wp2_with fail
  refine HI.out.mono ?_
  rintro e w1 ⟨rfl, hi, hb, hk⟩
  have HI1 := Lib.hid hi
  have HB1 : Hid (Below w.heap.size w w1) := ((Below.refl _ _).alloc (Nat.le_refl _) _).trans (hb.mono (by simp))
  have HC1 : Hid (RecS w.heap.size z1 z2 z3 z4 z5 z6 an as_ ad_ cn cs cd A1 n1 c1 A2 n2 c2 A3 n3 c3 w1) := hk _ _ _ _ (blk_new _ _) (by decide)
  clear hi hb hk HI
  go_wp2_with fail
  go_loop [4] (fun vi => ∃ k : Nat, k ≤ 6 ∧ vi = .int .i64 (k : Int) ∧ Hid (([z1, z2, z3, z4, z5, z6].take k).all rngN = true)) (fun vi => 6 - (intOf vi).toNat)
  case atStart => exact ⟨0, Nat.zero_le _, rfl, rfl⟩
  case round =>
    obtain ⟨k, hk_, rfl, HA⟩ := hrel
    by_cases hlt : k < 6
    · obtain ⟨z, hz⟩ : ∃ z, [z1, z2, z3, z4, z5, z6][k]? = some z := getElem?_of_lt (by simp; omega)
      have d0 : w1.cell? ⟨g, k, none⟩ = some (.int .i64 z) := six_cell (zs := [z1, z2, z3, z4, z5, z6]) HI1.out hz
      have hbl : g < w1.heap.size := (Array.getElem?_eq_some_iff.1 HI1.out).1
      have HZ := Lib.hid hz
      clear hz
      have HS := Lib.hid (small_calls z w1)
      go_wp2_with fail
      refine HS.out.mono ?_
      rintro e w2 ⟨rfl, rfl⟩
      obtain ⟨c, hc⟩ : ∃ c, c = rngN z := ⟨_, rfl⟩
      rw [← hc]
      have HCZ := Lib.hid hc.symm
      clear hc
      cases c
      · have hof : ok = false := by rw [HOK.out, all_false HZ.out HCZ.out, Bool.false_and]
        subst hof
        go_wp2_with fail
        go_ret
        exact ⟨rfl, HB1.out⟩
      · go_wp2_with fail
        go_round
        case measure => simp [intOf]; omega
        case rel => exact ⟨k + 1, by omega, by go_num, all_step HZ.out HCZ.out HA.out⟩
    · have hk6 : k = 6 := by omega
      have HZA : Hid ([z1, z2, z3, z4, z5, z6].all rngN = true) := by have := HA.out; rw [hk6] at this; exact this
      clear HA HI1 hk_ hk6
      obtain ⟨k0, k1, k2, k3, k4, k5, k6, k7, k8, k9, k10, k11, k12, k13, k14⟩ := RecS.cells z1 z2 z3 z4 z5 z6 an as_ ad_ cn cs cd A1 n1 c1 A2 n2 c2 A3 n3 c3 HC1.out
      go_wp2_with fail
      clear k0 k1 k2 k3 k4 k5 k6 k7 k8 k9 k10 k11 k12 k13 k14
      refine (validR_calls an as_ ad_ _ (by have := HQA.out; omega) (by have := HQA.out; omega)).mono ?_
      rintro e w2 ⟨rfl, hb⟩
      have HC2 : Hid (RecS w.heap.size z1 z2 z3 z4 z5 z6 an as_ ad_ cn cs cd A1 n1 c1 A2 n2 c2 A3 n3 c3 w2) := HC1.out.below z1 z2 z3 z4 z5 z6 an as_ ad_ cn cs cd A1 n1 c1 A2 n2 c2 A3 n3 c3 hb
      have HB2 : Hid (Below w.heap.size w w2) := HB1.out.trans (hb.mono HB1.out.size)
      clear hb
      obtain ⟨va, hva⟩ : ∃ c, c = vld an as_ ad_ := ⟨_, rfl⟩
      have HVA : Hid (RQ.vl ⟨an, as_, ad_⟩ = va) := by rw [hva]; rfl
      rw [← hva]
      clear hva HC1 HB1
      cases va
      · obtain ⟨k0, k1, k2, k3, k4, k5, k6, k7, k8, k9, k10, k11, k12, k13, k14⟩ := RecS.cells z1 z2 z3 z4 z5 z6 an as_ ad_ cn cs cd A1 n1 c1 A2 n2 c2 A3 n3 c3 HC2.out
        have hof : ok = false := by rw [HOK.out, HZA.out, HVA.out, Bool.true_and, Bool.false_and]
        subst hof
        go_wp2_with fail
        go_ret
        exact ⟨rfl, HB2.out⟩
      · obtain ⟨k0, k1, k2, k3, k4, k5, k6, k7, k8, k9, k10, k11, k12, k13, k14⟩ := RecS.cells z1 z2 z3 z4 z5 z6 an as_ ad_ cn cs cd A1 n1 c1 A2 n2 c2 A3 n3 c3 HC2.out
        go_wp2_with fail
        clear k0 k1 k2 k3 k4 k5 k6 k7 k8 k9 k10 k11 k12 k13 k14
        refine (validR_calls cn cs cd _ (by have := HQC.out; omega) (by have := HQC.out; omega)).mono ?_
        rintro e w3 ⟨rfl, hb⟩
        have HC3 : Hid (RecS w.heap.size z1 z2 z3 z4 z5 z6 an as_ ad_ cn cs cd A1 n1 c1 A2 n2 c2 A3 n3 c3 w3) := HC2.out.below z1 z2 z3 z4 z5 z6 an as_ ad_ cn cs cd A1 n1 c1 A2 n2 c2 A3 n3 c3 hb
        have HB3 : Hid (Below w.heap.size w w3) := HB2.out.trans (hb.mono HB2.out.size)
        clear hb
        obtain ⟨vc, hvc⟩ : ∃ c, c = vld cn cs cd := ⟨_, rfl⟩
        have HVC : Hid (RQ.vl ⟨cn, cs, cd⟩ = vc) := by rw [hvc]; rfl
        rw [← hvc]
        clear hvc HC2 HB2
        cases vc
        · obtain ⟨k0, k1, k2, k3, k4, k5, k6, k7, k8, k9, k10, k11, k12, k13, k14⟩ := RecS.cells z1 z2 z3 z4 z5 z6 an as_ ad_ cn cs cd A1 n1 c1 A2 n2 c2 A3 n3 c3 HC3.out
          have hof : ok = false := by rw [HOK.out, HZA.out, HVA.out, HVC.out, Bool.true_and, Bool.true_and, Bool.false_and]
          subst hof
          go_wp2_with fail
          go_ret
          exact ⟨rfl, HB3.out⟩
        · by_cases l1 : n1 ≤ 8
          · have t1 : decide ((8 : Int) < (n1 : Int)) = false := decide_eq_false (by omega)
            have lm1 : Hid (decide (n1 ≤ 8) = true) := decide_eq_true l1
            by_cases l2 : n2 ≤ 4
            · have t2 : decide ((4 : Int) < (n2 : Int)) = false := decide_eq_false (by omega)
              have lm2 : Hid (decide (n2 ≤ 4) = true) := decide_eq_true l2
              by_cases l3 : n3 ≤ 256
              · have t3 : decide ((256 : Int) < (n3 : Int)) = false := decide_eq_false (by omega)
                have lm3 : Hid (decide (n3 ≤ 256) = true) := decide_eq_true l3
                obtain ⟨k0, k1, k2, k3, k4, k5, k6, k7, k8, k9, k10, k11, k12, k13, k14⟩ := RecS.cells z1 z2 z3 z4 z5 z6 an as_ ad_ cn cs cd A1 n1 c1 A2 n2 c2 A3 n3 c3 HC3.out
                go_wp2_with fail
                clear k0 k1 k2 k3 k4 k5 k6 k7 k8 k9 k10 k11 k12 k13 k14
                clear t1
                go_loopw [5] (fun vi wr => ∃ k : Nat, k ≤ n1 ∧ vi = .int .i64 (k : Int) ∧ Hid ((legs.take k).all legOk = true) ∧ Hid (Below w.heap.size w wr) ∧ Hid (RecS w.heap.size z1 z2 z3 z4 z5 z6 an as_ ad_ cn cs cd A1 n1 c1 A2 n2 c2 A3 n3 c3 wr)) (fun vi _ => n1 - (intOf vi).toNat)
                case atStart => exact ⟨0, Nat.zero_le _, rfl, rfl, HB3, HC3⟩
                case round =>
                  clear HB3 HC3
                  obtain ⟨k, hk_, rfl, HA, HBr, HCr⟩ := hrel
                  rename World => wo1
                  have hBr := HBr.out.size
                  by_cases hlt : k < n1
                  · obtain ⟨p, hp⟩ : ∃ p, legs[k]? = some p := getElem?_of_lt (by have := HN.out; omega)
                    have hpm := HR1.out.2 p (List.mem_of_getElem? hp)
                    obtain ⟨bq, oq, hAe, hbq, hcq⟩ := Rd.at_ (enc := legV) (fun _ => rfl) (HR1.out.1.below HBr.out) hp
                    subst hAe
                    obtain ⟨x, y⟩ := p
                    have HP := Lib.hid (And.intro hp hpm)
                    clear hp hpm
                    have d0 := hcq 0 _ rfl
                    have d1 := hcq 1 _ rfl
                    rw [Nat.add_zero] at d0
                    rw [← Nat.add_assoc] at d1
                    clear hcq
                    obtain ⟨k0, k1, k2, k3, k4, k5, k6, k7, k8, k9, k10, k11, k12, k13, k14⟩ := RecS.cells z1 z2 z3 z4 z5 z6 an as_ ad_ cn cs cd (some ⟨bq, oq, none⟩) n1 c1 A2 n2 c2 A3 n3 c3 HCr.out
                    have HS := Lib.hid (small_calls x wo1)
                    go_wp2_with fail
                    refine HS.out.mono ?_
                    rintro e w4 ⟨rfl, rfl⟩
                    obtain ⟨cx, hcx⟩ : ∃ c, c = rngN x := ⟨_, rfl⟩
                    rw [← hcx]
                    have HX := Lib.hid hcx.symm
                    clear hcx HS
                    cases cx
                    · have hof : ok = false := by rw [HOK.out, HZA.out, HVA.out, HVC.out, lm1.out, lm2.out, lm3.out, Bool.true_and, Bool.true_and, Bool.true_and, Bool.true_and, Bool.true_and, Bool.true_and, all_false HP.out.1 (by simp [legOk, HX.out])]; simp
                      subst hof
                      clear d0 d1
                      go_wp2_with fail
                      go_ret
                      exact ⟨rfl, HBr.out⟩
                    · have HS := Lib.hid (small_calls y w4)
                      go_wp2_with fail
                      refine HS.out.mono ?_
                      rintro e w5 ⟨rfl, rfl⟩
                      obtain ⟨cy, hcy⟩ : ∃ c, c = rngN y := ⟨_, rfl⟩
                      rw [← hcy]
                      have HY := Lib.hid hcy.symm
                      clear hcy HS
                      cases cy
                      · have hof : ok = false := by rw [HOK.out, HZA.out, HVA.out, HVC.out, lm1.out, lm2.out, lm3.out, Bool.true_and, Bool.true_and, Bool.true_and, Bool.true_and, Bool.true_and, Bool.true_and, all_false HP.out.1 (by simp [legOk, HX.out, HY.out])]; simp
                        subst hof
                        clear d0 d1
                        go_wp2_with fail
                        go_ret
                        exact ⟨rfl, HBr.out⟩
                      · go_wp2_with fail
                        clear k0 k1 k2 k3 k4 k5 k6 k7 k8 k9 k10 k11 k12 k13 k14
                        go_roundw
                        case measure => simp [intOf]; omega
                        case rel => exact ⟨k + 1, by omega, by go_num, all_step HP.out.1 (by simp [legOk, HX.out, HY.out]) HA.out, HBr, HCr⟩
                  · have hkn : k = n1 := by omega
                    have HA1 : Hid (legs.all legOk = true) := by have := HA.out; rwa [List.take_of_length_le (by have := HN.out; omega)] at this
                    clear HA hk_ hkn
                    obtain ⟨k0, k1, k2, k3, k4, k5, k6, k7, k8, k9, k10, k11, k12, k13, k14⟩ := RecS.cells z1 z2 z3 z4 z5 z6 an as_ ad_ cn cs cd A1 n1 c1 A2 n2 c2 A3 n3 c3 HCr.out
                    go_wp2_with fail
                    go_loopw [6] (fun vi wr => ∃ k : Nat, k ≤ n2 ∧ vi = .int .i64 (k : Int) ∧ Hid ((opts.take k).all optOkR = true) ∧ Hid (Below w.heap.size w wr) ∧ Hid (RecS w.heap.size z1 z2 z3 z4 z5 z6 an as_ ad_ cn cs cd A1 n1 c1 A2 n2 c2 A3 n3 c3 wr)) (fun vi _ => n2 - (intOf vi).toNat)
                    case atStart => exact ⟨0, Nat.zero_le _, rfl, rfl, HBr, HCr⟩
                    case round =>
                      clear HBr HCr
                      obtain ⟨k, hk_, rfl, HA, HBr, HCr⟩ := hrel
                      rename World => wo2
                      have hBr := HBr.out.size
                      by_cases hlt : k < n2
                      · obtain ⟨p, hp⟩ : ∃ p, opts[k]? = some p := getElem?_of_lt (by have := HN.out; omega)
                        have hpm := HR2.out.2 p (List.mem_of_getElem? hp)
                        obtain ⟨bq, oq, hAe, hbq, hcq⟩ := Rd.at_ (enc := optV) (fun _ => rfl) (HR2.out.1.below HBr.out) hp
                        subst hAe
                        obtain ⟨⟨ng, nu, de⟩, x⟩ := p
                        have HP := Lib.hid (And.intro hp hpm)
                        clear hp hpm
                        have d0 := hcq 0 _ rfl
                        have d1 := hcq 1 _ rfl
                        have d2 := hcq 2 _ rfl
                        have d3 := hcq 3 _ rfl
                        rw [Nat.add_zero] at d0
                        rw [← Nat.add_assoc] at d1 d2 d3
                        clear hcq
                        have hbq2 : bq < wo2.heap.size := by omega
                        obtain ⟨k0, k1, k2, k3, k4, k5, k6, k7, k8, k9, k10, k11, k12, k13, k14⟩ := RecS.cells z1 z2 z3 z4 z5 z6 an as_ ad_ cn cs cd A1 n1 c1 (some ⟨bq, oq, none⟩) n2 c2 A3 n3 c3 HCr.out
                        go_wp2_with fail
                        clear k0 k1 k2 k3 k4 k5 k6 k7 k8 k9 k10 k11 k12 k13 k14
                        refine (validR_calls ng nu de _ (by have := HP.out.2; omega) (by have := HP.out.2; omega)).mono ?_
                        rintro e w4 ⟨rfl, hb⟩
                        have d3' : w4.cell? ⟨bq, oq + k * 4 + 3, none⟩ = some (.int .i64 x) := (hb.cell (p := ⟨bq, oq + k * 4 + 3, none⟩) hbq2).trans d3
                        clear d0 d1 d2 d3
                        have HC4 : Hid (RecS w.heap.size z1 z2 z3 z4 z5 z6 an as_ ad_ cn cs cd A1 n1 c1 (some ⟨bq, oq, none⟩) n2 c2 A3 n3 c3 w4) := HCr.out.below z1 z2 z3 z4 z5 z6 an as_ ad_ cn cs cd A1 n1 c1 (some ⟨bq, oq, none⟩) n2 c2 A3 n3 c3 hb
                        have HB4 : Hid (Below w.heap.size w w4) := HBr.out.trans (hb.mono HBr.out.size)
                        clear hb
                        obtain ⟨cx, hcx⟩ : ∃ c, c = vld ng nu de := ⟨_, rfl⟩
                        rw [← hcx]
                        have HX : Hid (RQ.vl ⟨ng, nu, de⟩ = cx) := by rw [hcx]; rfl
                        clear hcx
                        cases cx
                        · have hof : ok = false := by rw [HOK.out, HZA.out, HVA.out, HVC.out, lm1.out, lm2.out, lm3.out, Bool.true_and, Bool.true_and, Bool.true_and, Bool.true_and, Bool.true_and, Bool.true_and, HA1.out, Bool.true_and, all_false HP.out.1 (by simp [optOkR, HX.out])]; simp
                          subst hof
                          clear d3'
                          go_wp2_with fail
                          go_ret
                          exact ⟨rfl, HB4.out⟩
                        · obtain ⟨k0, k1, k2, k3, k4, k5, k6, k7, k8, k9, k10, k11, k12, k13, k14⟩ := RecS.cells z1 z2 z3 z4 z5 z6 an as_ ad_ cn cs cd A1 n1 c1 (some ⟨bq, oq, none⟩) n2 c2 A3 n3 c3 HC4.out
                          have HS := Lib.hid (small_calls x w4)
                          go_wp2_with fail
                          refine HS.out.mono ?_
                          rintro e w5 ⟨rfl, rfl⟩
                          obtain ⟨cy, hcy⟩ : ∃ c, c = rngN x := ⟨_, rfl⟩
                          rw [← hcy]
                          have HY := Lib.hid hcy.symm
                          clear hcy HS
                          cases cy
                          · have hof : ok = false := by rw [HOK.out, HZA.out, HVA.out, HVC.out, lm1.out, lm2.out, lm3.out, Bool.true_and, Bool.true_and, Bool.true_and, Bool.true_and, Bool.true_and, Bool.true_and, HA1.out, Bool.true_and, all_false HP.out.1 (by simp [optOkR, HX.out, HY.out])]; simp
                            subst hof
                            clear d3'
                            go_wp2_with fail
                            go_ret
                            exact ⟨rfl, HB4.out⟩
                          · go_wp2_with fail
                            clear k0 k1 k2 k3 k4 k5 k6 k7 k8 k9 k10 k11 k12 k13 k14
                            go_roundw
                            case measure => simp [intOf]; omega
                            case rel => exact ⟨k + 1, by omega, by go_num, all_step HP.out.1 (by simp [optOkR, HX.out, HY.out]) HA.out, HB4, HC4⟩
                      · have hkn : k = n2 := by omega
                        have HA2 : Hid (opts.all optOkR = true) := by have := HA.out; rwa [List.take_of_length_le (by have := HN.out; omega)] at this
                        clear HA hk_ hkn
                        obtain ⟨k0, k1, k2, k3, k4, k5, k6, k7, k8, k9, k10, k11, k12, k13, k14⟩ := RecS.cells z1 z2 z3 z4 z5 z6 an as_ ad_ cn cs cd A1 n1 c1 A2 n2 c2 A3 n3 c3 HCr.out
                        go_wp2_with fail
                        go_loopw [7] (fun vi wr => ∃ k : Nat, k ≤ n3 ∧ vi = .int .i64 (k : Int) ∧ Hid ((pays.take k).all payOk = true) ∧ Hid (Below w.heap.size w wr) ∧ Hid (RecS w.heap.size z1 z2 z3 z4 z5 z6 an as_ ad_ cn cs cd A1 n1 c1 A2 n2 c2 A3 n3 c3 wr)) (fun vi _ => n3 - (intOf vi).toNat)
                        case atStart => exact ⟨0, Nat.zero_le _, rfl, rfl, HBr, HCr⟩
                        case round =>
                          clear HBr HCr
                          obtain ⟨k, hk_, rfl, HA, HBr, HCr⟩ := hrel
                          rename World => wo3
                          have hBr := HBr.out.size
                          by_cases hlt : k < n3
                          · obtain ⟨p, hp⟩ : ∃ p, pays[k]? = some p := getElem?_of_lt (by have := HN.out; omega)
                            have hpm := HR3.out.2 p (List.mem_of_getElem? hp)
                            obtain ⟨bq, oq, hAe, hbq, hcq⟩ := Rd.at_ (enc := payV) (fun _ => rfl) (HR3.out.1.below HBr.out) hp
                            subst hAe
                            obtain ⟨x, y, u, v⟩ := p
                            have HP := Lib.hid (And.intro hp hpm)
                            clear hp hpm
                            have d0 := hcq 0 _ rfl
                            have d1 := hcq 1 _ rfl
                            have d2 := hcq 2 _ rfl
                            have d3 := hcq 3 _ rfl
                            rw [Nat.add_zero] at d0
                            rw [← Nat.add_assoc] at d1 d2 d3
                            clear hcq
                            have hbq2 : bq < wo3.heap.size := by omega
                            obtain ⟨k0, k1, k2, k3, k4, k5, k6, k7, k8, k9, k10, k11, k12, k13, k14⟩ := RecS.cells z1 z2 z3 z4 z5 z6 an as_ ad_ cn cs cd A1 n1 c1 A2 n2 c2 (some ⟨bq, oq, none⟩) n3 c3 HCr.out
                            go_wp2_with fail
                            refine (small_calls x _).mono ?_
                            rintro e w0_ ⟨rfl, rfl⟩
                            obtain ⟨cx, hc_⟩ : ∃ c, c = rngN x := ⟨_, rfl⟩
                            rw [← hc_]
                            have HX := Lib.hid hc_.symm
                            clear hc_
                            cases cx
                            · have hof : ok = false := by rw [HOK.out, HZA.out, HVA.out, HVC.out, lm1.out, lm2.out, lm3.out, Bool.true_and, Bool.true_and, Bool.true_and, Bool.true_and, Bool.true_and, Bool.true_and, HA1.out, Bool.true_and, HA2.out, Bool.true_and, all_false HP.out.1 (by simp [payOk, HX.out])]; simp
                              subst hof
                              clear d0 d1 d2 d3
                              go_wp2_with fail
                              go_ret
                              exact ⟨rfl, (HBr.out.alloc hBr _)⟩
                            · go_wp2_with fail
                              refine (small_calls y _).mono ?_
                              rintro e w1_ ⟨rfl, rfl⟩
                              obtain ⟨cy, hc_⟩ : ∃ c, c = rngN y := ⟨_, rfl⟩
                              rw [← hc_]
                              have HY := Lib.hid hc_.symm
                              clear hc_
                              cases cy
                              · have hof : ok = false := by rw [HOK.out, HZA.out, HVA.out, HVC.out, lm1.out, lm2.out, lm3.out, Bool.true_and, Bool.true_and, Bool.true_and, Bool.true_and, Bool.true_and, Bool.true_and, HA1.out, Bool.true_and, HA2.out, Bool.true_and, all_false HP.out.1 (by simp [payOk, HX.out, HY.out])]; simp
                                subst hof
                                clear d0 d1 d2 d3
                                go_wp2_with fail
                                go_ret
                                exact ⟨rfl, (HBr.out.alloc hBr _)⟩
                              · go_wp2_with fail
                                refine (small_calls u _).mono ?_
                                rintro e w2_ ⟨rfl, rfl⟩
                                obtain ⟨cu, hc_⟩ : ∃ c, c = rngN u := ⟨_, rfl⟩
                                rw [← hc_]
                                have HU := Lib.hid hc_.symm
                                clear hc_
                                cases cu
                                · have hof : ok = false := by rw [HOK.out, HZA.out, HVA.out, HVC.out, lm1.out, lm2.out, lm3.out, Bool.true_and, Bool.true_and, Bool.true_and, Bool.true_and, Bool.true_and, Bool.true_and, HA1.out, Bool.true_and, HA2.out, Bool.true_and, all_false HP.out.1 (by simp [payOk, HX.out, HY.out, HU.out])]; simp
                                  subst hof
                                  clear d0 d1 d2 d3
                                  go_wp2_with fail
                                  go_ret
                                  exact ⟨rfl, (HBr.out.alloc hBr _)⟩
                                · go_wp2_with fail
                                  refine (small_calls v _).mono ?_
                                  rintro e w3_ ⟨rfl, rfl⟩
                                  obtain ⟨cv, hc_⟩ : ∃ c, c = rngN v := ⟨_, rfl⟩
                                  rw [← hc_]
                                  have HV := Lib.hid hc_.symm
                                  clear hc_
                                  cases cv
                                  · have hof : ok = false := by rw [HOK.out, HZA.out, HVA.out, HVC.out, lm1.out, lm2.out, lm3.out, Bool.true_and, Bool.true_and, Bool.true_and, Bool.true_and, Bool.true_and, Bool.true_and, HA1.out, Bool.true_and, HA2.out, Bool.true_and, all_false HP.out.1 (by simp [payOk, HX.out, HY.out, HU.out, HV.out])]; simp
                                    subst hof
                                    clear d0 d1 d2 d3
                                    go_wp2_with fail
                                    go_ret
                                    exact ⟨rfl, (HBr.out.alloc hBr _)⟩
                                  · go_wp2_with fail
                                    clear k0 k1 k2 k3 k4 k5 k6 k7 k8 k9 k10 k11 k12 k13 k14
                                    go_roundw
                                    case measure => simp [intOf]; omega
                                    case rel => exact ⟨k + 1, by omega, by go_num, all_step HP.out.1 (by simp [payOk, HX.out, HY.out, HU.out, HV.out]) HA.out, HBr.out.alloc hBr _, HCr.out.below z1 z2 z3 z4 z5 z6 an as_ ad_ cn cs cd A1 n1 c1 A2 n2 c2 (some ⟨bq, oq, none⟩) n3 c3 (bel_alloc _ _)⟩
                          · have hkn : k = n3 := by omega
                            have HA3 : Hid (pays.all payOk = true) := by have := HA.out; rwa [List.take_of_length_le (by have := HN.out; omega)] at this
                            clear HA hk_ hkn
                            obtain ⟨k0, k1, k2, k3, k4, k5, k6, k7, k8, k9, k10, k11, k12, k13, k14⟩ := RecS.cells z1 z2 z3 z4 z5 z6 an as_ ad_ cn cs cd A1 n1 c1 A2 n2 c2 A3 n3 c3 HCr.out
                            go_wp2_with fail
                            clear k0 k1 k2 k3 k4 k5 k6 k7 k8 k9 k10 k11 k12 k13 k14
                            refine (HBYT.out _ HBr.out l1 l2 l3).mono ?_
                            rintro e w9 ⟨A9, c9, rfl, ho, hb⟩
                            have HB9 : Hid (Below w.heap.size w w9) := HBr.out.trans (hb.mono HBr.out.size)
                            clear ho hb
                            have hol : ok = decide (T.length ≤ 4096) := by rw [HOK.out, HZA.out, HVA.out, HVC.out, lm1.out, lm2.out, lm3.out, Bool.true_and, Bool.true_and, Bool.true_and, Bool.true_and, Bool.true_and, Bool.true_and, HA1.out, HA2.out, HA3.out, Bool.true_and, Bool.true_and, Bool.true_and]
                            by_cases h9 : T.length ≤ 4096
                            · have t9 : decide ((T.length : Int) ≤ 4096) = true := decide_eq_true (by omega)
                              have hof : ok = true := by rw [hol]; exact decide_eq_true h9
                              subst hof
                              clear hol h9
                              go_wp2_with fail
                              go_ret
                              exact ⟨by simp [t9], HB9.out⟩
                            · have t9 : decide ((T.length : Int) ≤ 4096) = false := decide_eq_false (by omega)
                              have hof : ok = false := by rw [hol]; exact decide_eq_false h9
                              subst hof
                              clear hol h9
                              go_wp2_with fail
                              go_ret
                              exact ⟨by simp [t9], HB9.out⟩
              · have t3 : decide ((256 : Int) < (n3 : Int)) = true := decide_eq_true (by omega)
                have lm3 : decide (n3 ≤ 256) = false := decide_eq_false l3
                have hof : ok = false := by rw [HOK.out, HZA.out, HVA.out, HVC.out, Bool.true_and, Bool.true_and, Bool.true_and, lm1.out, Bool.true_and, lm2.out, Bool.true_and, lm3]; simp
                subst hof
                clear lm3
                obtain ⟨k0, k1, k2, k3, k4, k5, k6, k7, k8, k9, k10, k11, k12, k13, k14⟩ := RecS.cells z1 z2 z3 z4 z5 z6 an as_ ad_ cn cs cd A1 n1 c1 A2 n2 c2 A3 n3 c3 HC3.out
                go_wp2_with fail
                go_ret
                exact ⟨rfl, HB3.out⟩
            · have t2 : decide ((4 : Int) < (n2 : Int)) = true := decide_eq_true (by omega)
              have lm2 : decide (n2 ≤ 4) = false := decide_eq_false l2
              have hof : ok = false := by rw [HOK.out, HZA.out, HVA.out, HVC.out, Bool.true_and, Bool.true_and, Bool.true_and, lm1.out, Bool.true_and, lm2]; simp
              subst hof
              clear lm2
              obtain ⟨k0, k1, k2, k3, k4, k5, k6, k7, k8, k9, k10, k11, k12, k13, k14⟩ := RecS.cells z1 z2 z3 z4 z5 z6 an as_ ad_ cn cs cd A1 n1 c1 A2 n2 c2 A3 n3 c3 HC3.out
              go_wp2_with fail
              go_ret
              exact ⟨rfl, HB3.out⟩
          · have t1 : decide ((8 : Int) < (n1 : Int)) = true := decide_eq_true (by omega)
            have lm1 : decide (n1 ≤ 8) = false := decide_eq_false l1
            have hof : ok = false := by rw [HOK.out, HZA.out, HVA.out, HVC.out, Bool.true_and, Bool.true_and, Bool.true_and, lm1]; simp
            subst hof
            clear lm1
            obtain ⟨k0, k1, k2, k3, k4, k5, k6, k7, k8, k9, k10, k11, k12, k13, k14⟩ := RecS.cells z1 z2 z3 z4 z5 z6 an as_ ad_ cn cs cd A1 n1 c1 A2 n2 c2 A3 n3 c3 HC3.out
            go_wp2_with fail
            go_ret
            exact ⟨rfl, HB3.out⟩

end Go.Proofs.YtcljkdjmmolfoaaDoor

/- Merged of FewQ Few8. -/
import Derived.Test.YtomfcmlomfcghaaGreatDoorPtyM
import Derived.Test.YtomfcmlomfcghaaGreatDoorPChkM
import Derived.Test.YtomfcmlomfcghaaGreatDoorSameI
/- insolvencylaw0.Few. -/
set_option linter.unusedVariables false
set_option linter.unusedSimpArgs false
namespace Go.Proofs.YtomfcmlomfcghaaGreatDoor
open Go.RowKit

def fewF (q : FQ) : Bool := decide (q.num.size ≤ 24) && decide (q.den.size ≤ 24)
set_option maxHeartbeats 1000000 in
theorem fewF_calls (neg : Bool) (num den : ByteArray) (w : World) (h1 : num.size ≤ maxLen) (h2 : den.size ≤ maxLen) (c : Bool) (hc : c = fewF ⟨neg, num, den⟩) :
    Calls Tryz.prog 36 #[.agg #[.bool neg, .string num, .string den]] w fun e w' => e = .returned (.bool c) ∧ Below w.heap.size w w' := by
  unfold maxLen at h1 h2
  unfold fewF at hc
  have HC := Lib.hid hc
  clear hc
  by_cases g1 : num.size ≤ 24
  · have d1 : decide ((num.size : Int) ≤ 24) = true := decide_eq_true (by omega)
    have e1 := Lib.hid (show decide (num.size ≤ 24) = true from decide_eq_true g1)
    by_cases g2 : den.size ≤ 24
    · have d2 : decide ((den.size : Int) ≤ 24) = true := decide_eq_true (by omega)
      have e2 := Lib.hid (show decide (den.size ≤ 24) = true from decide_eq_true g2)
      have hof : c = true := by rw [HC.out]; dsimp only; rw [e1.out, e2.out]; rfl
      subst hof
      go_enter Tryz.func36, Tryz.ntmps36
      go_wp2_with fail
      go_ret
      exact ⟨rfl, bel_alloc _ _⟩
    · have d2 : decide ((den.size : Int) ≤ 24) = false := decide_eq_false (by omega)
      have e2 := Lib.hid (show decide (den.size ≤ 24) = false from decide_eq_false g2)
      have hof : c = false := by rw [HC.out]; dsimp only; rw [e1.out, e2.out]; rfl
      subst hof
      go_enter Tryz.func36, Tryz.ntmps36
      go_wp2_with fail
      go_ret
      exact ⟨rfl, bel_alloc _ _⟩
  · have d1 : decide ((num.size : Int) ≤ 24) = false := decide_eq_false (by omega)
    have e1 := Lib.hid (show decide (num.size ≤ 24) = false from decide_eq_false g1)
    have hof : c = false := by rw [HC.out]; dsimp only; rw [e1.out]; rfl
    subst hof
    go_enter Tryz.func36, Tryz.ntmps36
    go_wp2_with fail
    go_ret
    exact ⟨rfl, bel_alloc _ _⟩

end Go.Proofs.YtomfcmlomfcghaaGreatDoor

/- insolvencylaw8.few. -/
set_option linter.unusedVariables false
set_option linter.unusedSimpArgs false
namespace Go.Proofs.YtomfcmlomfcghaaGreatDoor
open Go.RowKit

def fewP (P : Prt) : Bool := decide (P.kinds.length ≤ 8) && (decide (P.stakes.length ≤ 12) && (decide (P.ties.length ≤ 12) && P.stakes.all fun s => fewF s.v))
theorem allF_take {α : Type} {l : List α} {f : α → Bool} {k : Nat} {x : α} (h : (l.take k).all f = true) (hx : l[k]? = some x) (e : f x = true) : (l.take (k + 1)).all f = true := by
  rw [List.take_add_one, hx, List.all_append, h]
  simp [e]
theorem fewP_no {P : Prt} (h : ¬ (P.kinds.length ≤ 8 ∧ P.stakes.length ≤ 12 ∧ P.ties.length ≤ 12)) : fewP P = false := by
  rcases hf : fewP P with _ | _
  · rfl
  · simp only [fewP, Bool.and_eq_true, decide_eq_true_eq] at hf
    exact absurd ⟨hf.1, hf.2.1, hf.2.2.1⟩ h
theorem fewP_eq {P : Prt} (h : P.kinds.length ≤ 8 ∧ P.stakes.length ≤ 12 ∧ P.ties.length ≤ 12) : fewP P = P.stakes.all fun s => fewF s.v := by
  unfold fewP
  rw [decide_eq_true h.1, decide_eq_true h.2.1, decide_eq_true h.2.2]; rfl
set_option maxHeartbeats 4000000 in
set_option maxRecDepth 100000 in
theorem few8_calls (Ak : Option Addr) (nk ck : Nat) (As : Option Addr) (ns cs : Nat) (At : Option Addr) (nt ct : Nat) (P : Prt) (w : World) (hp : PRd Ak nk As ns At nt P w) (hs : ∀ x ∈ P.stakes, x.v.fits maxLen) (gk : nk ≤ maxLen) (gs : ns ≤ maxLen) (gt : nt ≤ maxLen) (E : Bool) (hE : E = fewP P) :
    Calls Tryz.prog 10 #[ptyVal Ak nk ck As ns cs At nt ct] w fun e w' => e = .returned (.bool E) ∧ Below w.heap.size w w' := by
  have HP := Lib.hid hp
  have HF := Lib.hid hs
  have HNK := Lib.hid hp.nk
  have HNS := Lib.hid hp.ns
  have HNT := Lib.hid hp.nt
  have HE := Lib.hid hE
  unfold maxLen at gk gs gt
  clear hp hs hE
  obtain ⟨w0, hw0⟩ : ∃ W, W = w.alloc (.cells #[.slice Ak nk ck, .slice As ns cs, .slice At nt ct] 26) := ⟨_, rfl⟩
  obtain ⟨q, hq⟩ : ∃ q, q = w.heap.size := ⟨_, rfl⟩
  have HB0 : Hid (Below w.heap.size w w0) := by rw [hw0]; exact bel_alloc _ _
  have HX0 : Hid (PBox q Ak nk ck As ns cs At nt ct w0) := by rw [hw0, hq]; exact blk_new _ _
  by_cases l : nk ≤ 8 ∧ ns ≤ 12 ∧ nt ≤ 12
  · have d0 : decide ((8 : Int) < (nk : Int)) = false := decide_eq_false (by omega)
    have d1 : decide ((12 : Int) < (ns : Int)) = false := decide_eq_false (by omega)
    have d2 : decide ((12 : Int) < (nt : Int)) = false := decide_eq_false (by omega)
    have HEE : Hid (E = P.stakes.all fun s => fewF s.v) := HE.out.trans (fewP_eq (by rw [← HNK.out, ← HNS.out, ← HNT.out]; exact l))
    clear l
    go_enter Tryz.func10, Tryz.ntmps10
    go_upto_region 1 with fail
    rw [← hw0, ← hq]
    have HQ := Lib.hid hq
    clear hw0 hq
    obtain ⟨k0, k1, k2⟩ := HX0.out.cells
    go_wp2_with fail
    clear d0 d1 d2 k0 k1 k2
    go_loopw [24] (fun i wr => ∃ k : Nat, k ≤ ns ∧ i = .int .i64 (k : Int) ∧ Hid ((P.stakes.take k).all (fun s => fewF s.v) = true) ∧ Hid (Below w.heap.size w wr)) (fun i _ => ns - (intOf i).toNat)
    case atStart => exact ⟨0, Nat.zero_le _, rfl, rfl, HB0⟩
    case round =>
      clear HX0 HB0
      obtain ⟨j, hj, rfl, HT, HB⟩ := hrel
      rename World => wo
      by_cases hjl : j < ns
      · obtain ⟨s, hs⟩ := getElem?_of_lt (l := P.stakes) (k := j) (by rw [← HNS.out]; exact hjl)
        have HM := Lib.hid (And.intro hs (List.mem_of_getElem? hs))
        have HFS := Lib.hid (HF.out s (List.mem_of_getElem? hs))
        obtain ⟨b, off, hA, _, hc⟩ := Rd.at_ (enc := stkV) (fun _ => rfl) (HP.out.s.next HB.out) hs
        subst hA
        have p0 := hc 0 _ rfl
        have p1 := hc 1 _ rfl
        have p2 := hc 2 _ rfl
        have p3 := hc 3 _ rfl
        have p4 := hc 4 _ rfl
        rw [Nat.add_zero] at p0
        rw [← Nat.add_assoc] at p1 p2 p3 p4
        clear hc hs
        obtain ⟨o, c, vn, vu, vd⟩ := s
        dsimp only at p0 p1 p2 p3 p4
        obtain ⟨f, hf⟩ : ∃ f, f = fewF ⟨vn, vu, vd⟩ := ⟨_, rfl⟩
        obtain ⟨wa, hwa⟩ : ∃ W, W = wo.alloc (.cells #[.int .i64 o, .int .i64 c, .bool vn, .string vu, .string vd] 72) := ⟨_, rfl⟩
        have hsa : SBox wo.heap.size ⟨o, c, vn, vu, vd⟩ (wo.alloc (.cells #[.int .i64 o, .int .i64 c, .bool vn, .string vu, .string vd] 72)) := blk_new _ _
        have HBa : Hid (Below w.heap.size w wa) := by rw [hwa]; exact HB.out.alloc HB.out.size _
        obtain ⟨s0, s1, s2, s3, s4⟩ := hsa.cells
        have HFW := Lib.hid (fewF_calls vn vu vd wa HFS.out.1 HFS.out.2 f hf)
        have HFE := Lib.hid hf
        have HW := Lib.hid hwa
        clear hwa hsa hf
        go_wp2_with fail
        rw [← HW.out]
        clear HW p0 p1 p2 p3 p4 s0 s1 s2 s3 s4 HB
        refine HFW.out.mono ?_
        rintro e w1 ⟨rfl, hb⟩
        have HB1 : Hid (Below w.heap.size w w1) := HBa.out.trans (hb.mono HBa.out.size)
        clear hb HFW HBa
        cases f
        · obtain rfl : E = false := by
            rw [HEE.out]
            rcases h : P.stakes.all (fun s => fewF s.v) with _ | _
            · rfl
            · have := List.all_eq_true.1 h _ HM.out.2
              rw [← HFE.out] at this; cases this
          go_wp2_with fail
          go_ret
          exact ⟨rfl, HB1.out⟩
        · have HNX : Hid ((P.stakes.take (j + 1)).all (fun s => fewF s.v) = true) := allF_take HT.out HM.out.1 HFE.out.symm
          clear HT
          go_wp2_with fail
          go_roundw
          case measure => simp [intOf] <;> omega
          case rel => exact ⟨j + 1, by omega, by go_num, HNX, HB1⟩
      · obtain rfl : E = true := by
          have := HT.out
          rw [List.take_of_length_le (by rw [← HNS.out]; omega)] at this
          rw [HEE.out, this]
        go_wp2_with fail
        go_ret
        exact ⟨rfl, HB.out⟩
  · obtain rfl : E = false := by rw [HE.out]; exact fewP_no (by rw [← HNK.out, ← HNS.out, ← HNT.out]; exact l)
    by_cases l0 : 8 < nk
    · have d0 : decide ((8 : Int) < (nk : Int)) = true := decide_eq_true (by omega)
      clear l
      go_enter Tryz.func10, Tryz.ntmps10
      go_upto_region 1 with fail
      rw [← hw0, ← hq]
      have HQ := Lib.hid hq
      clear hw0 hq
      obtain ⟨k0, k1, k2⟩ := HX0.out.cells
      go_wp2_with fail
      go_ret
      exact ⟨rfl, HB0.out⟩
    · have d0 : decide ((8 : Int) < (nk : Int)) = false := decide_eq_false (by omega)
      by_cases l1 : 12 < ns
      · have d1 : decide ((12 : Int) < (ns : Int)) = true := decide_eq_true (by omega)
        clear l
        go_enter Tryz.func10, Tryz.ntmps10
        go_upto_region 1 with fail
        rw [← hw0, ← hq]
        have HQ := Lib.hid hq
        clear hw0 hq
        obtain ⟨k0, k1, k2⟩ := HX0.out.cells
        go_wp2_with fail
        go_ret
        exact ⟨rfl, HB0.out⟩
      · have d1 : decide ((12 : Int) < (ns : Int)) = false := decide_eq_false (by omega)
        have d2 : decide ((12 : Int) < (nt : Int)) = true := decide_eq_true (by omega)
        clear l
        go_enter Tryz.func10, Tryz.ntmps10
        go_upto_region 1 with fail
        rw [← hw0, ← hq]
        have HQ := Lib.hid hq
        clear hw0 hq
        obtain ⟨k0, k1, k2⟩ := HX0.out.cells
        go_wp2_with fail
        go_ret
        exact ⟨rfl, HB0.out⟩

end Go.Proofs.YtomfcmlomfcghaaGreatDoor

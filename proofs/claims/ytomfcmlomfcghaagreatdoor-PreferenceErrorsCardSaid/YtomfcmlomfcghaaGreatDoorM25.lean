/- Merged of Few26 RPer PHistRef RFind SameD. -/
import Derived.Test.YtomfcmlomfcghaaGreatDoorM30
import Derived.Test.YtomfcmlomfcghaaGreatDoorM22
import Derived.Test.YtomfcmlomfcghaaGreatDoorM24
import Derived.Test.YtomfcmlomfcghaaGreatDoorM21
import Derived.Test.YtomfcmlomfcghaaGreatDoorRows
import Derived.BigQuiet
import Derived.Deep.QuietTactic
import Derived.Test.YtomfcmlomfcghaaGreatDoorPtsI
import Derived.StillTailTactics
/- insolvencylaw26.few. -/
set_option linter.unusedVariables false
set_option linter.unusedSimpArgs false
namespace Go.Proofs.YtomfcmlomfcghaaGreatDoor
open Go.RowKit

def fewQ (P : Prt) : Bool := decide (P.kinds.length ≤ 8) && (decide (P.stakes.length ≤ 8) && (decide (P.ties.length ≤ 8) && P.stakes.all fun s => fewF s.v))
theorem fewQ_no {P : Prt} (h : ¬ (P.kinds.length ≤ 8 ∧ P.stakes.length ≤ 8 ∧ P.ties.length ≤ 8)) : fewQ P = false := by
  rcases hf : fewQ P with _ | _
  · rfl
  · simp only [fewQ, Bool.and_eq_true, decide_eq_true_eq] at hf
    exact absurd ⟨hf.1, hf.2.1, hf.2.2.1⟩ h
theorem fewQ_eq {P : Prt} (h : P.kinds.length ≤ 8 ∧ P.stakes.length ≤ 8 ∧ P.ties.length ≤ 8) : fewQ P = P.stakes.all fun s => fewF s.v := by
  unfold fewQ
  rw [decide_eq_true h.1, decide_eq_true h.2.1, decide_eq_true h.2.2]; rfl
set_option maxHeartbeats 4000000 in
set_option maxRecDepth 100000 in
theorem few26_calls (Ak : Option Addr) (nk ck : Nat) (As : Option Addr) (ns cs : Nat) (At : Option Addr) (nt ct : Nat) (P : Prt) (w : World) (hp : PRd Ak nk As ns At nt P w) (hs : ∀ x ∈ P.stakes, x.v.fits maxLen) (gk : nk ≤ maxLen) (gs : ns ≤ maxLen) (gt : nt ≤ maxLen) (E : Bool) (hE : E = fewQ P) :
    Calls Tryz.prog 23 #[ptyVal Ak nk ck As ns cs At nt ct] w fun e w' => e = .returned (.bool E) ∧ Below w.heap.size w w' := by
  have HP := Lib.hid hp
  have HF := Lib.hid hs
  have HNK := Lib.hid hp.nk
  have HNS := Lib.hid hp.ns
  have HNT := Lib.hid hp.nt
  have HE := Lib.hid hE
  unfold maxLen at gk gs gt
  clear hp hs hE
  obtain ⟨w0, hw0⟩ : ∃ W, W = w.alloc (.cells #[.slice Ak nk ck, .slice As ns cs, .slice At nt ct] 26) := ⟨_, rfl⟩
  obtain ⟨q, hq⟩ : ∃ q, q = w.heap.size := ⟨_, rfl⟩
  have HB0 : Hid (Below w.heap.size w w0) := by rw [hw0]; exact bel_alloc _ _
  have HX0 : Hid (PBox q Ak nk ck As ns cs At nt ct w0) := by rw [hw0, hq]; exact blk_new _ _
  by_cases l : nk ≤ 8 ∧ ns ≤ 8 ∧ nt ≤ 8
  · have d0 : decide ((8 : Int) < (nk : Int)) = false := decide_eq_false (by omega)
    have d1 : decide ((8 : Int) < (ns : Int)) = false := decide_eq_false (by omega)
    have d2 : decide ((8 : Int) < (nt : Int)) = false := decide_eq_false (by omega)
    have HEE : Hid (E = P.stakes.all fun s => fewF s.v) := HE.out.trans (fewQ_eq (by rw [← HNK.out, ← HNS.out, ← HNT.out]; exact l))
    clear l
    go_enter Tryz.func23, Tryz.ntmps23
    go_upto_region 1 with fail
    rw [← hw0, ← hq]
    have HQ := Lib.hid hq
    clear hw0 hq
    obtain ⟨k0, k1, k2⟩ := HX0.out.cells
    go_wp2_with fail
    clear d0 d1 d2 k0 k1 k2
    go_loopw [3] (fun i wr => ∃ k : Nat, k ≤ ns ∧ i = .int .i64 (k : Int) ∧ Hid ((P.stakes.take k).all (fun s => fewF s.v) = true) ∧ Hid (PBox q Ak nk ck As ns cs At nt ct wr) ∧ Hid (Below w.heap.size w wr)) (fun i _ => ns - (intOf i).toNat)
    case atStart => exact ⟨0, Nat.zero_le _, rfl, rfl, HX0, HB0⟩
    case round =>
      clear HX0 HB0
      obtain ⟨j, hj, rfl, HT, HX, HB⟩ := hrel
      rename World => wo
      obtain ⟨k0, k1, k2⟩ := HX.out.cells
      by_cases hjl : j < ns
      · have hjl2 : (j : Int) < (ns : Int) := by omega
        obtain ⟨s, hs⟩ := getElem?_of_lt (l := P.stakes) (k := j) (by rw [← HNS.out]; exact hjl)
        have HM := Lib.hid (And.intro hs (List.mem_of_getElem? hs))
        have HFS := Lib.hid (HF.out s (List.mem_of_getElem? hs))
        obtain ⟨b, off, hA, _, hc⟩ := Rd.at_ (enc := stkV) (fun _ => rfl) (HP.out.s.next HB.out) hs
        subst hA
        have p2 := hc 2 _ rfl
        have p3 := hc 3 _ rfl
        have p4 := hc 4 _ rfl
        rw [← Nat.add_assoc] at p2 p3 p4
        clear hc hs
        obtain ⟨o, c, vn, vu, vd⟩ := s
        dsimp only at p2 p3 p4
        obtain ⟨f, hf⟩ : ∃ f, f = fewF ⟨vn, vu, vd⟩ := ⟨_, rfl⟩
        have HFW := Lib.hid (fewF_calls vn vu vd wo HFS.out.1 HFS.out.2 f hf)
        have HFE := Lib.hid hf
        clear hf
        go_wp2_with fail
        clear p2 p3 p4 k0 k1 k2
        refine HFW.out.mono ?_
        rintro e w1 ⟨rfl, hb⟩
        have HX1 := Lib.hid (HX.out.next hb)
        have HB1 : Hid (Below w.heap.size w w1) := HB.out.trans (hb.mono HB.out.size)
        clear hb HFW HX HB
        cases f
        · obtain rfl : E = false := by
            rw [HEE.out]
            rcases h : P.stakes.all (fun s => fewF s.v) with _ | _
            · rfl
            · have := List.all_eq_true.1 h _ HM.out.2
              rw [← HFE.out] at this; cases this
          go_wp2_with fail
          go_ret
          exact ⟨rfl, HB1.out⟩
        · have HNX : Hid ((P.stakes.take (j + 1)).all (fun s => fewF s.v) = true) := allF_take HT.out HM.out.1 HFE.out.symm
          clear HT
          go_wp2_with fail
          go_roundw
          case measure => simp [intOf] <;> omega
          case rel => exact ⟨j + 1, by omega, by go_num, HNX, HX1, HB1⟩
      · obtain rfl : E = true := by
          have := HT.out
          rw [List.take_of_length_le (by rw [← HNS.out]; omega)] at this
          rw [HEE.out, this]
        go_wp2_with fail
        go_ret
        exact ⟨rfl, HB.out⟩
  · obtain rfl : E = false := by rw [HE.out]; exact fewQ_no (by rw [← HNK.out, ← HNS.out, ← HNT.out]; exact l)
    by_cases l0 : 8 < nk
    · have d0 : decide ((8 : Int) < (nk : Int)) = true := decide_eq_true (by omega)
      clear l
      go_enter Tryz.func23, Tryz.ntmps23
      go_upto_region 1 with fail
      rw [← hw0, ← hq]
      have HQ := Lib.hid hq
      clear hw0 hq
      obtain ⟨k0, k1, k2⟩ := HX0.out.cells
      go_wp2_with fail
      go_ret
      exact ⟨rfl, HB0.out⟩
    · have d0 : decide ((8 : Int) < (nk : Int)) = false := decide_eq_false (by omega)
      by_cases l1 : 8 < ns
      · have d1 : decide ((8 : Int) < (ns : Int)) = true := decide_eq_true (by omega)
        clear l
        go_enter Tryz.func23, Tryz.ntmps23
        go_upto_region 1 with fail
        rw [← hw0, ← hq]
        have HQ := Lib.hid hq
        clear hw0 hq
        obtain ⟨k0, k1, k2⟩ := HX0.out.cells
        go_wp2_with fail
        go_ret
        exact ⟨rfl, HB0.out⟩
      · have d1 : decide ((8 : Int) < (ns : Int)) = false := decide_eq_false (by omega)
        have d2 : decide ((8 : Int) < (nt : Int)) = true := decide_eq_true (by omega)
        clear l
        go_enter Tryz.func23, Tryz.ntmps23
        go_upto_region 1 with fail
        rw [← hw0, ← hq]
        have HQ := Lib.hid hq
        clear hw0 hq
        obtain ⟨k0, k1, k2⟩ := HX0.out.cells
        go_wp2_with fail
        go_ret
        exact ⟨rfl, HB0.out⟩

end Go.Proofs.YtomfcmlomfcghaaGreatDoor

/- insolvencyref25.day, window, Period. -/
set_option linter.unusedVariables false
set_option linter.unusedSimpArgs false
namespace Go.Proofs.YtomfcmlomfcghaaGreatDoor
open Go.RowKit

set_option maxHeartbeats 1000000 in
theorem rDay_calls (n : Int) (w : World) (r : Bool) (hr : r = dayB n) : Calls Tryz.prog 75 #[.int .i64 n] w fun e w' => e = .returned (.bool r) ∧ w' = w := by
  by_cases h0 : 0 ≤ n
  · have d0 : decide (0 ≤ n) = true := decide_eq_true h0
    by_cases h1 : n ≤ 1048576
    · have d1 : decide (n ≤ 1048576) = true := decide_eq_true h1
      obtain rfl : r = true := by rw [hr, dayB, d0, d1]; rfl
      clear hr
      go_enter Tryz.func75, Tryz.ntmps75
      go_wp2_with fail
      go_ret
      exact ⟨rfl, rfl⟩
    · have d1 : decide (n ≤ 1048576) = false := decide_eq_false h1
      obtain rfl : r = false := by rw [hr, dayB, d0, d1]; rfl
      clear hr
      go_enter Tryz.func75, Tryz.ntmps75
      go_wp2_with fail
      go_ret
      exact ⟨rfl, rfl⟩
  · have d0 : decide (0 ≤ n) = false := decide_eq_false h0
    obtain rfl : r = false := by rw [hr, dayB, d0]; rfl
    clear hr
    go_enter Tryz.func75, Tryz.ntmps75
    go_wp2_with fail
    go_ret
    exact ⟨rfl, rfl⟩

set_option maxHeartbeats 2000000 in
set_option maxRecDepth 100000 in
theorem rWindow_calls (v : Win) (w : World) (E : Int) (hE : E = winErr v) :
    Calls Tryz.prog 53 #[winV v] w fun e w' => e = .returned (.int .i64 E) ∧ Below w.heap.size w w' := by
  have HE := Lib.hid hE
  clear hE
  obtain ⟨q2, hq2⟩ : ∃ q, q = w.heap.size := ⟨_, rfl⟩
  obtain ⟨w0, hw0⟩ : ∃ W, W = w.alloc (.cells #[.int .i64 v.cut, .int .i64 v.days, .int .i64 v.con] 49) := ⟨_, rfl⟩
  have HB0 : Hid (Below w.heap.size w w0) := by rw [hw0]; exact bel_alloc _ _
  have HV0 : Hid (WBox q2 v w0) := by rw [hw0, hq2]; exact blk_new _ _
  obtain ⟨r0, hr0⟩ : ∃ r, r = dayB v.cut := ⟨_, rfl⟩
  obtain ⟨r1, hr1⟩ : ∃ r, r = dayB v.days := ⟨_, rfl⟩
  obtain ⟨r2, hr2⟩ : ∃ r, r = dayB v.con := ⟨_, rfl⟩
  have D0 := Lib.hid (fun W => rDay_calls v.cut W r0 hr0)
  have D1 := Lib.hid (fun W => rDay_calls v.days W r1 hr1)
  have D2 := Lib.hid (fun W => rDay_calls v.con W r2 hr2)
  have HEE : Hid (E = if (r0 && (r1 && r2)) = true then 0 else 1) := by show _ = _; rw [HE.out, winErr, winB, ← hr0, ← hr1, ← hr2]
  clear hr0 hr1 hr2
  go_enter Tryz.func53, Tryz.ntmps53
  go_upto_region 1 with fail
  rw [← hw0, ← hq2]
  have HQ := Lib.hid hq2
  clear hw0 hq2
  obtain ⟨v0, v1, v2⟩ := HV0.out.cells
  go_wp2_with fail
  refine (D0.out _).mono ?_
  rintro e w5 ⟨rfl, rfl⟩
  cases r0
  · obtain rfl : E = 1 := by rw [HEE.out]; simp
    go_wp2_with fail
    go_ret
    exact ⟨rfl, HB0.out⟩
  · go_wp2_with fail
    refine (D1.out _).mono ?_
    rintro e w6 ⟨rfl, rfl⟩
    cases r1
    · obtain rfl : E = 1 := by rw [HEE.out]; simp
      go_wp2_with fail
      go_ret
      exact ⟨rfl, HB0.out⟩
    · go_wp2_with fail
      refine (D2.out _).mono ?_
      rintro e w7 ⟨rfl, rfl⟩
      cases r2
      · obtain rfl : E = 1 := by rw [HEE.out]; simp
        go_wp2_with fail
        go_ret
        exact ⟨rfl, HB0.out⟩
      · obtain rfl : E = 0 := by rw [HEE.out]; rfl
        go_wp2_with fail
        go_ret
        exact ⟨rfl, HB0.out⟩

set_option maxHeartbeats 4000000 in
set_option maxRecDepth 100000 in
theorem rPeriod_calls (Ak : Option Addr) (nk ck : Nat) (As : Option Addr) (ns cs : Nat) (At : Option Addr) (nt ct : Nat) (P : Prt) (m : Nat) (deb cre : Int) (v : Win) (w : World) (hp : PRd Ak nk As ns At nt P w) (hb : PB m P) :
    Calls Tryz.prog 27 #[ptyVal Ak nk ck As ns cs At nt ct, .int .i64 deb, .int .i64 cre, winV v] w fun e w' => e = .returned (.tuple #[.int .i64 (perF P deb cre v), .int .i64 (perT P deb cre v), .int .i64 (perErr P deb cre v)]) ∧ Below w.heap.size w w' := by
  have HP := Lib.hid hp
  have HPB := Lib.hid hb
  have HNK := Lib.hid hp.nk
  have gk : nk ≤ maxLen := by rw [hp.nk]; exact hb.kl
  unfold maxLen at gk
  clear hp hb
  obtain ⟨E, hE⟩ : ∃ E, E = chk P := ⟨_, rfl⟩
  have HCK' := fun (W : World) (hW : Below w.heap.size w W) => rchk_calls Ak nk ck As ns cs At nt ct P m W (HP.out.next hW) HPB.out
  rw [← hE] at HCK'
  have HE := Lib.hid hE
  have HCK := Lib.hid HCK'
  clear hE HCK'
  obtain ⟨T, hT⟩ : ∃ E, E = twoErr P deb cre := ⟨_, rfl⟩
  obtain ⟨near, hnear⟩ : ∃ b, b = conB P deb cre := ⟨_, rfl⟩
  have HCN' := fun (W : World) (hW : Below w.heap.size w W) => rConnected_calls Ak nk ck As ns cs At nt ct P m deb cre W (HP.out.next hW) HPB.out
  rw [← hT, ← hnear] at HCN'
  have HT := Lib.hid hT
  have HNR := Lib.hid hnear
  have HCN := Lib.hid HCN'
  clear hT hnear HCN'
  obtain ⟨G, hG⟩ : ∃ G, G = winErr v := ⟨_, rfl⟩
  have HWN := Lib.hid (fun (W : World) => rWindow_calls v W G hG)
  have HG := Lib.hid hG
  clear hG
  have HPG : Hid (perErr P deb cre v = if E ≠ 0 then E else if T ≠ 0 then 14 else G) := by
    show _ = _
    rw [HE.out, HT.out, HG.out]
    unfold perErr twoErr
    by_cases h : chk P = 0
    · rcases f1 : inN P.kinds.length cre with _ | _ <;> rcases f2 : inN P.kinds.length deb with _ | _ <;> simp [h]
    · simp [h]
  obtain ⟨q, hq⟩ : ∃ q, q = w.heap.size := ⟨_, rfl⟩
  obtain ⟨q2, hq2⟩ : ∃ q, q = w.heap.size + 1 := ⟨_, rfl⟩
  obtain ⟨w0, hw0⟩ : ∃ W, W = (w.alloc (.cells #[.slice Ak nk ck, .slice As ns cs, .slice At nt ct] 26)).alloc (.cells #[.int .i64 v.cut, .int .i64 v.days, .int .i64 v.con] 49) := ⟨_, rfl⟩
  have HB0 : Hid (Below w.heap.size w w0) := by rw [hw0]; exact (bel_alloc _ _).alloc (by simp) _
  have HX0 : Hid (PBox q Ak nk ck As ns cs At nt ct w0) := by rw [hw0, hq]; exact (show PBox w.heap.size Ak nk ck As ns cs At nt ct (w.alloc (.cells #[.slice Ak nk ck, .slice As ns cs, .slice At nt ct] 26)) from blk_new _ _).next (bel_alloc _ _)
  have HV0 : Hid (WBox q2 v w0) := by
    have := blk_new (w.alloc (.cells #[.slice Ak nk ck, .slice As ns cs, .slice At nt ct] 26)) (.cells #[.int .i64 v.cut, .int .i64 v.days, .int .i64 v.con] 49)
    rw [World.size_alloc, ← hq2, ← hw0] at this
    exact this
  by_cases h0 : E = 0
  · by_cases h1 : T = 0
    · by_cases h2 : G = 0
      · subst h0
        subst h1
        subst h2
        have hpt := twoErr_parts HT.out.symm
        have hdb := inN_true hpt.2.1
        have hcb := inN_true hpt.2.2
        rw [← HNK.out] at hdb hcb
        have hwb : winB v = true := by have := HG.out; unfold winErr at this; split at this; assumption; omega
        have hw3 := winB_parts hwb
        obtain ⟨dn, hdn⟩ : ∃ i : Nat, deb = (i : Int) := ⟨deb.toNat, by omega⟩
        obtain ⟨cn, hcn⟩ : ∃ i : Nat, cre = (i : Int) := ⟨cre.toNat, by omega⟩
        subst hdn
        subst hcn
        have HNC : Hid (near = con P dn cn) := HNR.out.trans (conB_of HE.out.symm (by rw [← HNK.out]; omega) (by rw [← HNK.out]; omega))
        have HPZ : Hid (perErr P (dn : Int) (cn : Int) v = 0) := by show _ = _; rw [HPG.out]; rfl
        clear hpt hdb hcb hwb HPG
        obtain ⟨vc, vd, vn⟩ := v
        dsimp only at hw3
        obtain ⟨⟨a1, a2⟩, ⟨a3, a4⟩, a5, a6⟩ := hw3
        have HPF : Hid (perF P (dn : Int) (cn : Int) ⟨vc, vd, vn⟩ = perFrom P dn cn ⟨vc, vd, vn⟩) := by show _ = _; unfold perF; rw [HPZ.out, if_pos rfl, Int.toNat_natCast, Int.toNat_natCast]
        have HPT : Hid (perT P (dn : Int) (cn : Int) ⟨vc, vd, vn⟩ = vc) := by show _ = _; unfold perT; rw [HPZ.out, if_pos rfl]
        cases near
        · have HPR : Hid (perFrom P dn cn ⟨vc, vd, vn⟩ = if vc - vd < 0 then 0 else vc - vd) := by show _ = _; unfold perFrom; dsimp only; rw [← HNC.out]; simp
          go_enter Tryz.func27, Tryz.ntmps27
          go_upto_region 1 with fail
          rw [← hw0, ← hq2, ← hq]
          have HQ := Lib.hid (And.intro hq hq2)
          clear hw0 hq hq2
          obtain ⟨k0, k1, k2⟩ := HX0.out.cells
          obtain ⟨v0, v1, v2⟩ := HV0.out.cells
          go_wp2_with fail
          clear k0 k1 k2 v0 v1 v2
          refine (HCK.out _ HB0.out).mono ?_
          rintro e w1 ⟨rfl, hb⟩
          have HXw1 := Lib.hid (HX0.out.next hb)
          have HVw1 := Lib.hid (HV0.out.next hb)
          have HBw1 : Hid (Below w.heap.size w w1) := HB0.out.trans (hb.mono HB0.out.size)
          clear hb HX0 HB0 HV0
          obtain ⟨k0, k1, k2⟩ := HXw1.out.cells
          obtain ⟨v0, v1, v2⟩ := HVw1.out.cells
          go_wp2_with fail
          clear k0 k1 k2 v0 v1 v2
          refine (HCN.out _ HBw1.out).mono ?_
          rintro e w2 ⟨rfl, hb⟩
          have HXw2 := Lib.hid (HXw1.out.next hb)
          have HVw2 := Lib.hid (HVw1.out.next hb)
          have HBw2 : Hid (Below w.heap.size w w2) := HBw1.out.trans (hb.mono HBw1.out.size)
          clear hb HXw1 HBw1 HVw1
          obtain ⟨k0, k1, k2⟩ := HXw2.out.cells
          obtain ⟨v0, v1, v2⟩ := HVw2.out.cells
          go_wp2_with fail
          clear k0 k1 k2 v0 v1 v2
          refine (HWN.out _).mono ?_
          rintro e w3 ⟨rfl, hb⟩
          have HXw3 := Lib.hid (HXw2.out.next hb)
          have HVw3 := Lib.hid (HVw2.out.next hb)
          have HBw3 : Hid (Below w.heap.size w w3) := HBw2.out.trans (hb.mono HBw2.out.size)
          clear hb HXw2 HBw2 HVw2
          obtain ⟨k0, k1, k2⟩ := HXw3.out.cells
          obtain ⟨v0, v1, v2⟩ := HVw3.out.cells
          dsimp only at v0 v1 v2
          by_cases hlt : vc - vd < 0
          · have hw64 : IntKind.i64.wrap (vc - vd) = vc - vd := IntWalk.i64_in _ (by omega)
            have HLT := Lib.hid hlt
            have HW64 := Lib.hid hw64
            clear hw64
            go_wp2_with fail
            clear k0 k1 k2 v0 v1 v2
            obtain ⟨W1, hW1⟩ : ∃ W, W = w3.drew := ⟨_, rfl⟩
            have hS : (WBox q2 ⟨vc, vd, vn⟩) W1 := by rw [hW1]; exact HVw3.out
            have HB9 : Hid (Below w.heap.size w W1) := by rw [hW1]; exact HBw3.out.drew
            refine wp_region_held_drew (S := (WBox q2 ⟨vc, vd, vn⟩)) (by kernel_rfl) (by rw [← hW1]; exact hS) ?_
            rw [← hW1]
            intro _
            clear hW1 HXw3 HVw3 HBw3
            refine wpAnyH_take (i := 0) rfl (by kernel_rfl) (by kernel_rfl) (by kernel_rfl) (fun _ _ _ h => h) (Or.inl ⟨by kernel_rfl, (by intro w' _; go_simp; with_reducible rfl)⟩) hS ?_
            go_simp
            refine wpAnyH_take (i := 1) (v := .int .i64 vc) rfl (by kernel_rfl) (by kernel_rfl) (by kernel_rfl) (fun _ _ _ h => h) (Or.inl ⟨by kernel_rfl, (by intro w' hw'; obtain ⟨c0, c1, c2⟩ := hw'.cells; dsimp only at c0 c1 c2; go_simp)⟩) hS ?_
            go_simp
            refine wpAnyH_take (i := 2) rfl (by kernel_rfl) (by kernel_rfl) (by kernel_rfl) (fun _ _ _ h => h) (Or.inl ⟨by kernel_rfl, (by intro w' _; go_simp; with_reducible rfl)⟩) hS ?_
            go_simp
            refine wpAnyH_take (i := 3) (v := .int .i64 (vc - vd)) rfl (by kernel_rfl) (by kernel_rfl) (by kernel_rfl) (fun _ _ _ h => h) (Or.inl ⟨by kernel_rfl, (by intro w' hw'; have wr_ := HW64.out; go_simp)⟩) hS ?_
            go_simp
            refine wpAnyH_take (i := 4) (v := .int .i64 0) rfl (by kernel_rfl) (by kernel_rfl) (by kernel_rfl) (fun _ _ _ h => h) (Or.inl ⟨by kernel_rfl, (by intro w' hw'; have mx_ : max (vc - vd) 0 = 0 := (by have := HLT.out; omega); go_simp)⟩) hS ?_
            go_simp
            refine wpAnyH_take (i := 5) rfl (by kernel_rfl) (by kernel_rfl) (by kernel_rfl) (fun _ _ _ h => h) (Or.inl ⟨by kernel_rfl, (by intro w' _; go_simp; with_reducible rfl)⟩) hS ?_
            go_simp
            refine wpAnyH_take (i := 6) (v := .int .i64 vc) rfl (by kernel_rfl) (by kernel_rfl) (by kernel_rfl) (fun _ _ _ h => h) (Or.inl ⟨by kernel_rfl, (by intro w' hw'; obtain ⟨c0, c1, c2⟩ := hw'.cells; dsimp only at c0 c1 c2; go_simp)⟩) hS ?_
            go_simp
            refine wpAnyH_take (i := 7) rfl (by kernel_rfl) (by kernel_rfl) (by kernel_rfl) (fun _ _ _ h => h) (Or.inl ⟨by kernel_rfl, (by intro w' _; go_simp; with_reducible rfl)⟩) hS ?_
            go_simp
            refine wpAnyH_take (i := 8) rfl (by kernel_rfl) (by kernel_rfl) (by kernel_rfl) (fun _ _ _ h => h) (Or.inl ⟨by kernel_rfl, (by intro w' _; go_simp; with_reducible rfl)⟩) hS ?_
            go_simp
            refine wpAnyH_take (i := 9) rfl (by kernel_rfl) (by kernel_rfl) (by kernel_rfl) (fun _ _ _ h => h) (Or.inl ⟨by kernel_rfl, (by intro w' _; go_simp; with_reducible rfl)⟩) hS ?_
            go_simp
            refine wpAnyH_done (by kernel_rfl) ?_ _
            go_wp2_with fail
            go_ret3
            rw [HPF.out, HPT.out, HPZ.out, HPR.out, if_pos (by have := HLT.out; omega)]
            exact ⟨rfl, HB9.out⟩
          · have hw64 : IntKind.i64.wrap (vc - vd) = vc - vd := IntWalk.i64_in _ (by omega)
            have HLT := Lib.hid hlt
            have HW64 := Lib.hid hw64
            clear hw64
            go_wp2_with fail
            clear k0 k1 k2 v0 v1 v2
            obtain ⟨W1, hW1⟩ : ∃ W, W = w3.drew := ⟨_, rfl⟩
            have hS : (WBox q2 ⟨vc, vd, vn⟩) W1 := by rw [hW1]; exact HVw3.out
            have HB9 : Hid (Below w.heap.size w W1) := by rw [hW1]; exact HBw3.out.drew
            refine wp_region_held_drew (S := (WBox q2 ⟨vc, vd, vn⟩)) (by kernel_rfl) (by rw [← hW1]; exact hS) ?_
            rw [← hW1]
            intro _
            clear hW1 HXw3 HVw3 HBw3
            refine wpAnyH_take (i := 0) rfl (by kernel_rfl) (by kernel_rfl) (by kernel_rfl) (fun _ _ _ h => h) (Or.inl ⟨by kernel_rfl, (by intro w' _; go_simp; with_reducible rfl)⟩) hS ?_
            go_simp
            refine wpAnyH_take (i := 1) (v := .int .i64 vc) rfl (by kernel_rfl) (by kernel_rfl) (by kernel_rfl) (fun _ _ _ h => h) (Or.inl ⟨by kernel_rfl, (by intro w' hw'; obtain ⟨c0, c1, c2⟩ := hw'.cells; dsimp only at c0 c1 c2; go_simp)⟩) hS ?_
            go_simp
            refine wpAnyH_take (i := 2) rfl (by kernel_rfl) (by kernel_rfl) (by kernel_rfl) (fun _ _ _ h => h) (Or.inl ⟨by kernel_rfl, (by intro w' _; go_simp; with_reducible rfl)⟩) hS ?_
            go_simp
            refine wpAnyH_take (i := 3) (v := .int .i64 (vc - vd)) rfl (by kernel_rfl) (by kernel_rfl) (by kernel_rfl) (fun _ _ _ h => h) (Or.inl ⟨by kernel_rfl, (by intro w' hw'; have wr_ := HW64.out; go_simp)⟩) hS ?_
            go_simp
            refine wpAnyH_take (i := 4) (v := .int .i64 (vc - vd)) rfl (by kernel_rfl) (by kernel_rfl) (by kernel_rfl) (fun _ _ _ h => h) (Or.inl ⟨by kernel_rfl, (by intro w' hw'; have mx_ : max (vc - vd) 0 = (vc - vd) := (by have := HLT.out; omega); go_simp)⟩) hS ?_
            go_simp
            refine wpAnyH_take (i := 5) rfl (by kernel_rfl) (by kernel_rfl) (by kernel_rfl) (fun _ _ _ h => h) (Or.inl ⟨by kernel_rfl, (by intro w' _; go_simp; with_reducible rfl)⟩) hS ?_
            go_simp
            refine wpAnyH_take (i := 6) (v := .int .i64 vc) rfl (by kernel_rfl) (by kernel_rfl) (by kernel_rfl) (fun _ _ _ h => h) (Or.inl ⟨by kernel_rfl, (by intro w' hw'; obtain ⟨c0, c1, c2⟩ := hw'.cells; dsimp only at c0 c1 c2; go_simp)⟩) hS ?_
            go_simp
            refine wpAnyH_take (i := 7) rfl (by kernel_rfl) (by kernel_rfl) (by kernel_rfl) (fun _ _ _ h => h) (Or.inl ⟨by kernel_rfl, (by intro w' _; go_simp; with_reducible rfl)⟩) hS ?_
            go_simp
            refine wpAnyH_take (i := 8) rfl (by kernel_rfl) (by kernel_rfl) (by kernel_rfl) (fun _ _ _ h => h) (Or.inl ⟨by kernel_rfl, (by intro w' _; go_simp; with_reducible rfl)⟩) hS ?_
            go_simp
            refine wpAnyH_take (i := 9) rfl (by kernel_rfl) (by kernel_rfl) (by kernel_rfl) (fun _ _ _ h => h) (Or.inl ⟨by kernel_rfl, (by intro w' _; go_simp; with_reducible rfl)⟩) hS ?_
            go_simp
            refine wpAnyH_done (by kernel_rfl) ?_ _
            go_wp2_with fail
            go_ret3
            rw [HPF.out, HPT.out, HPZ.out, HPR.out, if_neg (by have := HLT.out; omega)]
            exact ⟨rfl, HB9.out⟩
        · have HPR : Hid (perFrom P dn cn ⟨vc, vd, vn⟩ = if vc - vn < 0 then 0 else vc - vn) := by show _ = _; unfold perFrom; dsimp only; rw [← HNC.out]; simp
          go_enter Tryz.func27, Tryz.ntmps27
          go_upto_region 1 with fail
          rw [← hw0, ← hq2, ← hq]
          have HQ := Lib.hid (And.intro hq hq2)
          clear hw0 hq hq2
          obtain ⟨k0, k1, k2⟩ := HX0.out.cells
          obtain ⟨v0, v1, v2⟩ := HV0.out.cells
          go_wp2_with fail
          clear k0 k1 k2 v0 v1 v2
          refine (HCK.out _ HB0.out).mono ?_
          rintro e w1 ⟨rfl, hb⟩
          have HXw1 := Lib.hid (HX0.out.next hb)
          have HVw1 := Lib.hid (HV0.out.next hb)
          have HBw1 : Hid (Below w.heap.size w w1) := HB0.out.trans (hb.mono HB0.out.size)
          clear hb HX0 HB0 HV0
          obtain ⟨k0, k1, k2⟩ := HXw1.out.cells
          obtain ⟨v0, v1, v2⟩ := HVw1.out.cells
          go_wp2_with fail
          clear k0 k1 k2 v0 v1 v2
          refine (HCN.out _ HBw1.out).mono ?_
          rintro e w2 ⟨rfl, hb⟩
          have HXw2 := Lib.hid (HXw1.out.next hb)
          have HVw2 := Lib.hid (HVw1.out.next hb)
          have HBw2 : Hid (Below w.heap.size w w2) := HBw1.out.trans (hb.mono HBw1.out.size)
          clear hb HXw1 HBw1 HVw1
          obtain ⟨k0, k1, k2⟩ := HXw2.out.cells
          obtain ⟨v0, v1, v2⟩ := HVw2.out.cells
          go_wp2_with fail
          clear k0 k1 k2 v0 v1 v2
          refine (HWN.out _).mono ?_
          rintro e w3 ⟨rfl, hb⟩
          have HXw3 := Lib.hid (HXw2.out.next hb)
          have HVw3 := Lib.hid (HVw2.out.next hb)
          have HBw3 : Hid (Below w.heap.size w w3) := HBw2.out.trans (hb.mono HBw2.out.size)
          clear hb HXw2 HBw2 HVw2
          obtain ⟨k0, k1, k2⟩ := HXw3.out.cells
          obtain ⟨v0, v1, v2⟩ := HVw3.out.cells
          dsimp only at v0 v1 v2
          by_cases hlt : vc - vn < 0
          · have hw64 : IntKind.i64.wrap (vc - vn) = vc - vn := IntWalk.i64_in _ (by omega)
            have HLT := Lib.hid hlt
            have HW64 := Lib.hid hw64
            clear hw64
            go_wp2_with fail
            clear k0 k1 k2 v0 v1 v2
            obtain ⟨W1, hW1⟩ : ∃ W, W = w3.drew := ⟨_, rfl⟩
            have hS : (WBox q2 ⟨vc, vd, vn⟩) W1 := by rw [hW1]; exact HVw3.out
            have HB9 : Hid (Below w.heap.size w W1) := by rw [hW1]; exact HBw3.out.drew
            refine wp_region_held_drew (S := (WBox q2 ⟨vc, vd, vn⟩)) (by kernel_rfl) (by rw [← hW1]; exact hS) ?_
            rw [← hW1]
            intro _
            clear hW1 HXw3 HVw3 HBw3
            refine wpAnyH_take (i := 0) rfl (by kernel_rfl) (by kernel_rfl) (by kernel_rfl) (fun _ _ _ h => h) (Or.inl ⟨by kernel_rfl, (by intro w' _; go_simp; with_reducible rfl)⟩) hS ?_
            go_simp
            refine wpAnyH_take (i := 1) (v := .int .i64 vc) rfl (by kernel_rfl) (by kernel_rfl) (by kernel_rfl) (fun _ _ _ h => h) (Or.inl ⟨by kernel_rfl, (by intro w' hw'; obtain ⟨c0, c1, c2⟩ := hw'.cells; dsimp only at c0 c1 c2; go_simp)⟩) hS ?_
            go_simp
            refine wpAnyH_take (i := 2) rfl (by kernel_rfl) (by kernel_rfl) (by kernel_rfl) (fun _ _ _ h => h) (Or.inl ⟨by kernel_rfl, (by intro w' _; go_simp; with_reducible rfl)⟩) hS ?_
            go_simp
            refine wpAnyH_take (i := 3) (v := .int .i64 (vc - vn)) rfl (by kernel_rfl) (by kernel_rfl) (by kernel_rfl) (fun _ _ _ h => h) (Or.inl ⟨by kernel_rfl, (by intro w' hw'; have wr_ := HW64.out; go_simp)⟩) hS ?_
            go_simp
            refine wpAnyH_take (i := 4) (v := .int .i64 0) rfl (by kernel_rfl) (by kernel_rfl) (by kernel_rfl) (fun _ _ _ h => h) (Or.inl ⟨by kernel_rfl, (by intro w' hw'; have mx_ : max (vc - vn) 0 = 0 := (by have := HLT.out; omega); go_simp)⟩) hS ?_
            go_simp
            refine wpAnyH_take (i := 5) rfl (by kernel_rfl) (by kernel_rfl) (by kernel_rfl) (fun _ _ _ h => h) (Or.inl ⟨by kernel_rfl, (by intro w' _; go_simp; with_reducible rfl)⟩) hS ?_
            go_simp
            refine wpAnyH_take (i := 6) (v := .int .i64 vc) rfl (by kernel_rfl) (by kernel_rfl) (by kernel_rfl) (fun _ _ _ h => h) (Or.inl ⟨by kernel_rfl, (by intro w' hw'; obtain ⟨c0, c1, c2⟩ := hw'.cells; dsimp only at c0 c1 c2; go_simp)⟩) hS ?_
            go_simp
            refine wpAnyH_take (i := 7) rfl (by kernel_rfl) (by kernel_rfl) (by kernel_rfl) (fun _ _ _ h => h) (Or.inl ⟨by kernel_rfl, (by intro w' _; go_simp; with_reducible rfl)⟩) hS ?_
            go_simp
            refine wpAnyH_take (i := 8) rfl (by kernel_rfl) (by kernel_rfl) (by kernel_rfl) (fun _ _ _ h => h) (Or.inl ⟨by kernel_rfl, (by intro w' _; go_simp; with_reducible rfl)⟩) hS ?_
            go_simp
            refine wpAnyH_take (i := 9) rfl (by kernel_rfl) (by kernel_rfl) (by kernel_rfl) (fun _ _ _ h => h) (Or.inl ⟨by kernel_rfl, (by intro w' _; go_simp; with_reducible rfl)⟩) hS ?_
            go_simp
            refine wpAnyH_done (by kernel_rfl) ?_ _
            go_wp2_with fail
            go_ret3
            rw [HPF.out, HPT.out, HPZ.out, HPR.out, if_pos (by have := HLT.out; omega)]
            exact ⟨rfl, HB9.out⟩
          · have hw64 : IntKind.i64.wrap (vc - vn) = vc - vn := IntWalk.i64_in _ (by omega)
            have HLT := Lib.hid hlt
            have HW64 := Lib.hid hw64
            clear hw64
            go_wp2_with fail
            clear k0 k1 k2 v0 v1 v2
            obtain ⟨W1, hW1⟩ : ∃ W, W = w3.drew := ⟨_, rfl⟩
            have hS : (WBox q2 ⟨vc, vd, vn⟩) W1 := by rw [hW1]; exact HVw3.out
            have HB9 : Hid (Below w.heap.size w W1) := by rw [hW1]; exact HBw3.out.drew
            refine wp_region_held_drew (S := (WBox q2 ⟨vc, vd, vn⟩)) (by kernel_rfl) (by rw [← hW1]; exact hS) ?_
            rw [← hW1]
            intro _
            clear hW1 HXw3 HVw3 HBw3
            refine wpAnyH_take (i := 0) rfl (by kernel_rfl) (by kernel_rfl) (by kernel_rfl) (fun _ _ _ h => h) (Or.inl ⟨by kernel_rfl, (by intro w' _; go_simp; with_reducible rfl)⟩) hS ?_
            go_simp
            refine wpAnyH_take (i := 1) (v := .int .i64 vc) rfl (by kernel_rfl) (by kernel_rfl) (by kernel_rfl) (fun _ _ _ h => h) (Or.inl ⟨by kernel_rfl, (by intro w' hw'; obtain ⟨c0, c1, c2⟩ := hw'.cells; dsimp only at c0 c1 c2; go_simp)⟩) hS ?_
            go_simp
            refine wpAnyH_take (i := 2) rfl (by kernel_rfl) (by kernel_rfl) (by kernel_rfl) (fun _ _ _ h => h) (Or.inl ⟨by kernel_rfl, (by intro w' _; go_simp; with_reducible rfl)⟩) hS ?_
            go_simp
            refine wpAnyH_take (i := 3) (v := .int .i64 (vc - vn)) rfl (by kernel_rfl) (by kernel_rfl) (by kernel_rfl) (fun _ _ _ h => h) (Or.inl ⟨by kernel_rfl, (by intro w' hw'; have wr_ := HW64.out; go_simp)⟩) hS ?_
            go_simp
            refine wpAnyH_take (i := 4) (v := .int .i64 (vc - vn)) rfl (by kernel_rfl) (by kernel_rfl) (by kernel_rfl) (fun _ _ _ h => h) (Or.inl ⟨by kernel_rfl, (by intro w' hw'; have mx_ : max (vc - vn) 0 = (vc - vn) := (by have := HLT.out; omega); go_simp)⟩) hS ?_
            go_simp
            refine wpAnyH_take (i := 5) rfl (by kernel_rfl) (by kernel_rfl) (by kernel_rfl) (fun _ _ _ h => h) (Or.inl ⟨by kernel_rfl, (by intro w' _; go_simp; with_reducible rfl)⟩) hS ?_
            go_simp
            refine wpAnyH_take (i := 6) (v := .int .i64 vc) rfl (by kernel_rfl) (by kernel_rfl) (by kernel_rfl) (fun _ _ _ h => h) (Or.inl ⟨by kernel_rfl, (by intro w' hw'; obtain ⟨c0, c1, c2⟩ := hw'.cells; dsimp only at c0 c1 c2; go_simp)⟩) hS ?_
            go_simp
            refine wpAnyH_take (i := 7) rfl (by kernel_rfl) (by kernel_rfl) (by kernel_rfl) (fun _ _ _ h => h) (Or.inl ⟨by kernel_rfl, (by intro w' _; go_simp; with_reducible rfl)⟩) hS ?_
            go_simp
            refine wpAnyH_take (i := 8) rfl (by kernel_rfl) (by kernel_rfl) (by kernel_rfl) (fun _ _ _ h => h) (Or.inl ⟨by kernel_rfl, (by intro w' _; go_simp; with_reducible rfl)⟩) hS ?_
            go_simp
            refine wpAnyH_take (i := 9) rfl (by kernel_rfl) (by kernel_rfl) (by kernel_rfl) (fun _ _ _ h => h) (Or.inl ⟨by kernel_rfl, (by intro w' _; go_simp; with_reducible rfl)⟩) hS ?_
            go_simp
            refine wpAnyH_done (by kernel_rfl) ?_ _
            go_wp2_with fail
            go_ret3
            rw [HPF.out, HPT.out, HPZ.out, HPR.out, if_neg (by have := HLT.out; omega)]
            exact ⟨rfl, HB9.out⟩
      · subst h0
        subst h1
        have hG0 : (G != 0) = true := bne_iff_ne.2 h2
        have H0 := Lib.hid h2
        clear h2
        go_enter Tryz.func27, Tryz.ntmps27
        go_upto_region 1 with fail
        rw [← hw0, ← hq2, ← hq]
        have HQ := Lib.hid (And.intro hq hq2)
        clear hw0 hq hq2
        obtain ⟨k0, k1, k2⟩ := HX0.out.cells
        obtain ⟨v0, v1, v2⟩ := HV0.out.cells
        go_wp2_with fail
        clear k0 k1 k2 v0 v1 v2
        refine (HCK.out _ HB0.out).mono ?_
        rintro e w1 ⟨rfl, hb⟩
        have HXw1 := Lib.hid (HX0.out.next hb)
        have HVw1 := Lib.hid (HV0.out.next hb)
        have HBw1 : Hid (Below w.heap.size w w1) := HB0.out.trans (hb.mono HB0.out.size)
        clear hb HX0 HB0 HV0
        obtain ⟨k0, k1, k2⟩ := HXw1.out.cells
        obtain ⟨v0, v1, v2⟩ := HVw1.out.cells
        go_wp2_with fail
        clear k0 k1 k2 v0 v1 v2
        refine (HCN.out _ HBw1.out).mono ?_
        rintro e w2 ⟨rfl, hb⟩
        have HXw2 := Lib.hid (HXw1.out.next hb)
        have HVw2 := Lib.hid (HVw1.out.next hb)
        have HBw2 : Hid (Below w.heap.size w w2) := HBw1.out.trans (hb.mono HBw1.out.size)
        clear hb HXw1 HBw1 HVw1
        obtain ⟨k0, k1, k2⟩ := HXw2.out.cells
        obtain ⟨v0, v1, v2⟩ := HVw2.out.cells
        go_wp2_with fail
        clear k0 k1 k2 v0 v1 v2
        refine (HWN.out _).mono ?_
        rintro e w3 ⟨rfl, hb⟩
        have HXw3 := Lib.hid (HXw2.out.next hb)
        have HVw3 := Lib.hid (HVw2.out.next hb)
        have HBw3 : Hid (Below w.heap.size w w3) := HBw2.out.trans (hb.mono HBw2.out.size)
        clear hb HXw2 HBw2 HVw2
        go_wp2_with fail
        go_ret3
        have e1 : perErr P deb cre v = G := by rw [HPG.out, if_neg (by decide), if_neg (by decide)]
        have e2 : perF P deb cre v = 0 := by unfold perF; rw [e1]; exact if_neg H0.out
        have e3 : perT P deb cre v = 0 := by unfold perT; rw [e1]; exact if_neg H0.out
        rw [e1, e2, e3]
        exact ⟨rfl, HBw3.out⟩
    · subst h0
      have hT0 : (T != 0) = true := bne_iff_ne.2 h1
      have H0 := Lib.hid h1
      clear h1
      go_enter Tryz.func27, Tryz.ntmps27
      go_upto_region 1 with fail
      rw [← hw0, ← hq2, ← hq]
      have HQ := Lib.hid (And.intro hq hq2)
      clear hw0 hq hq2
      obtain ⟨k0, k1, k2⟩ := HX0.out.cells
      obtain ⟨v0, v1, v2⟩ := HV0.out.cells
      go_wp2_with fail
      clear k0 k1 k2 v0 v1 v2
      refine (HCK.out _ HB0.out).mono ?_
      rintro e w1 ⟨rfl, hb⟩
      have HXw1 := Lib.hid (HX0.out.next hb)
      have HVw1 := Lib.hid (HV0.out.next hb)
      have HBw1 : Hid (Below w.heap.size w w1) := HB0.out.trans (hb.mono HB0.out.size)
      clear hb HX0 HB0 HV0
      obtain ⟨k0, k1, k2⟩ := HXw1.out.cells
      obtain ⟨v0, v1, v2⟩ := HVw1.out.cells
      go_wp2_with fail
      clear k0 k1 k2 v0 v1 v2
      refine (HCN.out _ HBw1.out).mono ?_
      rintro e w2 ⟨rfl, hb⟩
      have HXw2 := Lib.hid (HXw1.out.next hb)
      have HVw2 := Lib.hid (HVw1.out.next hb)
      have HBw2 : Hid (Below w.heap.size w w2) := HBw1.out.trans (hb.mono HBw1.out.size)
      clear hb HXw1 HBw1 HVw1
      go_wp2_with fail
      go_ret3
      have e1 : perErr P deb cre v = 14 := by rw [HPG.out, if_neg (by decide), if_pos H0.out]
      have e2 : perF P deb cre v = 0 := by unfold perF; rw [e1]; exact if_neg (by decide)
      have e3 : perT P deb cre v = 0 := by unfold perT; rw [e1]; exact if_neg (by decide)
      rw [e1, e2, e3]
      exact ⟨rfl, HBw2.out⟩
  · have hE0 : (E != 0) = true := bne_iff_ne.2 h0
    have H0 := Lib.hid h0
    clear h0
    go_enter Tryz.func27, Tryz.ntmps27
    go_upto_region 1 with fail
    rw [← hw0, ← hq2, ← hq]
    have HQ := Lib.hid (And.intro hq hq2)
    clear hw0 hq hq2
    obtain ⟨k0, k1, k2⟩ := HX0.out.cells
    obtain ⟨v0, v1, v2⟩ := HV0.out.cells
    go_wp2_with fail
    clear k0 k1 k2 v0 v1 v2
    refine (HCK.out _ HB0.out).mono ?_
    rintro e w1 ⟨rfl, hb⟩
    have HXw1 := Lib.hid (HX0.out.next hb)
    have HVw1 := Lib.hid (HV0.out.next hb)
    have HBw1 : Hid (Below w.heap.size w w1) := HB0.out.trans (hb.mono HB0.out.size)
    clear hb HX0 HB0 HV0
    go_wp2_with fail
    go_ret3
    have e1 : perErr P deb cre v = E := by rw [HPG.out, if_pos H0.out]
    have e2 : perF P deb cre v = 0 := by unfold perF; rw [e1]; exact if_neg H0.out
    have e3 : perT P deb cre v = 0 := by unfold perT; rw [e1]; exact if_neg H0.out
    rw [e1, e2, e3]
    exact ⟨rfl, HBw1.out⟩

end Go.Proofs.YtomfcmlomfcghaaGreatDoor

/- The definition's Money, Check, CheckTrace. -/
set_option linter.unusedVariables false
set_option linter.unusedSimpArgs false
namespace Go.Proofs.YtomfcmlomfcghaaGreatDoor
open Go.RowKit

/-- the definition's Money, with its own wraps -/
def moneyRef (r : Row) (p : Int) : Int :=
  let f := if r.kind = 1 then wrap64 (-r.amount) else if r.kind = 3 then r.amount else 0
  let n := if r.frm = p then wrap64 (0 + f) else 0
  if r.to = p then wrap64 (n - f) else n

set_option maxHeartbeats 4000000 in
set_option maxRecDepth 100000 in
theorem hcheckRef_calls (A : Option Addr) (c : Nat) (rows : List Row) (n : Int) (w : World) (hr : RowsRd w w.heap.size A rows) :
    Calls Tryz.prog 77 #[.int .i64 n, .slice A rows.length c] w fun e w' => e = .returned (.int .i64 (hcheck n rows)) ∧ Below w.heap.size w w' := by
  by_cases hb : 256 < rows.length
  · have hE : hcheck n rows = 2 := by simp [hcheck, hb]
    have HE := Lib.hid hE
    clear hE hr
    go_enter Tryz.func77, Tryz.ntmps77
    go_wp2
    go_ret
    exact ⟨ret_int HE.out.symm, Below.refl _ _⟩
  · have hE : hcheck n rows = hchk n 0 rows := by simp [hcheck, hb]
    have HE := Lib.hid hE
    have hb' : rows.length ≤ 256 := by omega
    clear hE hb
    go_enter Tryz.func77, Tryz.ntmps77
    go_wp2_with fail
    go_loopw [5] (fun i wr => ∃ (k : Nat) (b : Int), k ≤ rows.length ∧ i = .int .i64 k ∧ Hid ((k = 0 ∧ b = 0) ∨ (∃ m r, k = m + 1 ∧ rows[m]? = some r ∧ b = r.day)) ∧ Hid (hchk n 0 rows = hchk n b (rows.drop k)) ∧ Below w.heap.size w wr) (fun i _ => rows.length - (intOf i).toNat)
    case atStart => exact ⟨0, 0, by omega, rfl, .inl ⟨rfl, rfl⟩, by simp [Hid], Below.refl _ _⟩
    case round =>
      obtain ⟨k, b, hk, rfl, HK, HX, hbel⟩ := hrel
      by_cases hlt : k < rows.length
      · obtain ⟨r, hrk⟩ := getElem?_of_lt hlt
        obtain ⟨bb, off, rfl, hbb, c0, c1, c2, c3, c4, c5⟩ := (hr.below hbel).at_ hrk
        have hbs : bb < wr.heap.size := by have := hbel.size; omega
        have HN : Hid (hchk n 0 rows = if rowErr n b r ≠ 0 then rowErr n b r else hchk n r.day (rows.drop (k+1))) := by
          rw [HX.out, List.drop_eq_getElem_cons hlt, hchk]
          rw [(List.getElem?_eq_some_iff.1 hrk).2]; rfl
        have HRK := Lib.hid hrk
        clear hrk HX
        have hb1 : Below w.heap.size w (wr.alloc (.cells #[.int .i64 r.day, .int .i64 r.kind, .int .i64 r.frm, .int .i64 r.to, .int .i64 r.amount, .int .i64 r.worth] 94)) := hbel.alloc hbel.size _
        by_cases hgood : rowRange r = true ∧ rowParty n r = true
        · obtain ⟨g1, g2⟩ := hgood
          have HG : Hid (rowErr n b r = if r.day < b then 15 else 0) := by simp [Hid, rowErr, g1, g2]
          unfold rowRange at g1
          unfold rowParty at g2
          simp only [decide_eq_true_eq] at g1 g2
          obtain ⟨q1, q2, q3, q4, q5, q6, q7, q8, q9⟩ := g1
          obtain ⟨s1, s2, s3, s4, s5⟩ := g2
          have u1 : ¬ r.kind < 1 := by omega
          have u2 : ¬ 3 < r.kind := by omega
          have u3 : ¬ r.frm < 0 := by omega
          have u4 : ¬ n ≤ r.frm := by omega
          have u5 : ¬ r.to < 0 := by omega
          have u6 : ¬ n ≤ r.to := by omega
          have u7 : (r.frm == r.to) = false := by simpa using s5
          have q9 : (r.worth != 0) = false ∨ (r.worth != 0) = true ∧ (r.kind != 3) = false := by
            by_cases hw : r.worth = 0
            · exact .inl (by simp [hw])
            · exact .inr ⟨by simp [hw], by simp; omega⟩
          clear s5
          by_cases hpos : 0 < k
          · have hd : decide ((0 : Int) < (k : Int)) = true := by simp; omega
            obtain ⟨r', hr'⟩ : ∃ r', rows[k-1]? = some r' ∧ b = r'.day := by
              rcases HK.out with h | ⟨m, r', hm, h1, h2⟩
              · omega
              · exact ⟨r', by rw [hm]; exact h1, h2⟩
            obtain ⟨b2, off2, hA2, hbb2, p0, _⟩ := (hr.below hbel).at_ hr'.1
            simp only [Option.some.injEq, Addr.mk.injEq, and_true] at hA2
            obtain ⟨rfl, rfl⟩ := hA2
            have HB := Lib.hid hr'.2
            have hk1 : 1 ≤ k := hpos
            clear hr HK hr'
            rcases q9 with q9 | ⟨q9, q10⟩
            all_goals
              go_wp2_with go_in
              go_quiet (fail)
              by_cases hday : r.day < r'.day
              · go_wp2
                go_ret
                refine ⟨ret_int ?_, hb1.drewN _⟩
                rw [HE.out, HN.out, HG.out, HB.out, if_pos hday]; rfl
              · go_wp2
                go_roundw
                case measure => simp [intOf] <;> omega
                case rel =>
                  refine ⟨k + 1, r.day, by omega, by go_num, .inr ⟨k, r, rfl, HRK.out, rfl⟩, ?_, hb1.drewN _⟩
                  have := HN.out
                  rw [HG.out, HB.out, if_neg hday] at this
                  exact this
          · have hb0 : b = 0 := by
              rcases HK.out with h | ⟨m, r', hm, _⟩
              · exact h.2
              · omega
            have HB := Lib.hid hb0
            obtain rfl : k = 0 := by omega
            simp only [Nat.zero_mul, Nat.add_zero] at c0 c1 c2 c3 c4 c5
            have hlt0 : 0 < rows.length := hlt
            clear hr HK hb0 hpos
            rcases q9 with q9 | ⟨q9, q10⟩
            all_goals
              go_wp2_with go_in
              go_quiet (fail)
              go_wp2
              go_roundw
              case measure => simp [intOf] <;> omega
              case rel =>
                refine ⟨1, r.day, by omega, by go_num, .inr ⟨0, r, rfl, HRK.out, rfl⟩, ?_, hb1.drewN _⟩
                have := HN.out
                rw [HG.out, HB.out, if_neg (by omega)] at this
                exact this
        · clear HRK HK hr
          have key : ∀ V : Int, V ≠ 0 → V = rowErr n b r → V = hcheck n rows := fun V h1 h2 => by rw [HE.out, HN.out, ← h2, if_pos h1]
          have HK2 := Lib.hid key
          clear key
          have HBad : Hid (¬ (rowRange r = true ∧ rowParty n r = true)) := hgood
          clear hgood
          go_wp2
          all_goals first
            | (go_ret
               refine ⟨ret_int (HK2.out _ (by decide) ?_), hbel.alloc hbel.size _⟩
               clear c0 c1 c2 c3 c4 c5 HN HE HK2
               unfold rowErr rowRange rowParty
               simp only [beq_iff_eq, beq_eq_false_iff_ne, bne_iff_ne, bne_eq_false_iff_eq, decide_eq_false_iff_not, ne_eq] at *
               repeat' split
               all_goals first | rfl | (exfalso; omega))
            | (exfalso
               have hx := HBad.out
               clear HBad
               apply hx
               clear hx
               unfold rowRange rowParty
               simp only [beq_iff_eq, beq_eq_false_iff_ne, bne_iff_ne, bne_eq_false_iff_eq, decide_eq_false_iff_not, decide_eq_true_eq, ne_eq] at *
               omega)
      · have hkk : k = rows.length := by omega
        go_wp2_with fail
        go_ret
        refine ⟨ret_int ?_, hbel⟩
        rw [HE.out, HX.out, hkk, List.drop_length, hchk]

end Go.Proofs.YtomfcmlomfcghaaGreatDoor

/- insolvencyref25.CheckFind, Preferences, SameDemands. -/
set_option linter.unusedVariables false
set_option linter.unusedSimpArgs false
namespace Go.Proofs.YtomfcmlomfcghaaGreatDoor
open Go.RowKit


set_option maxHeartbeats 4000000 in
set_option maxRecDepth 100000 in
theorem rCheckFind_calls (Ak : Option Addr) (nk ck : Nat) (As : Option Addr) (ns cs : Nat) (At : Option Addr) (nt ct : Nat) (P : Prt) (m : Nat) (Ar : Option Addr) (cr : Nat) (rows : List Row) (deb : Int) (v : Win) (w : World) (hp : PRd Ak nk As ns At nt P w) (hb : PB m P) (hr : RowsRd w w.heap.size Ar rows) (hn : rows.length ≤ maxLen) :
    Calls Tryz.prog 55 #[ptyVal Ak nk ck As ns cs At nt ct, .slice Ar rows.length cr, .int .i64 deb, winV v] w fun e w' => e = .returned (.int .i64 (findErr P rows deb v)) ∧ Below w.heap.size w w' := by
  have HN := Lib.hid hn
  unfold maxLen at hn
  have HP := Lib.hid hp
  have HPB := Lib.hid hb
  have HR := Lib.hid hr
  have HNK := Lib.hid hp.nk
  have gk : nk ≤ maxLen := by rw [hp.nk]; exact hb.kl
  have GK := Lib.hid gk
  unfold maxLen at gk
  clear hp hb hr
  obtain ⟨E, hE⟩ : ∃ E, E = chk P := ⟨_, rfl⟩
  have HCK' := fun (W : World) (hW : Below w.heap.size w W) => rchk_calls Ak nk ck As ns cs At nt ct P m W (HP.out.next hW) HPB.out
  rw [← hE] at HCK'
  obtain ⟨F, hF⟩ : ∃ F, F = hcheck (nk : Int) rows := ⟨_, rfl⟩
  have HHK' := fun (W : World) (hW : Below w.heap.size w W) => hcheckRef_calls Ar cr rows (nk : Int) W (HR.out.next hW)
  rw [← hF] at HHK'
  obtain ⟨G, hG⟩ : ∃ G, G = winErr v := ⟨_, rfl⟩
  have HWN := Lib.hid (fun (W : World) => rWindow_calls v W G hG)
  have HFE : Hid (findErr P rows deb v = if E ≠ 0 then E else if F ≠ 0 then F else if inN nk deb = false then 14 else G) := by show _ = _; rw [hE, hF, hG, HNK.out]; rfl
  have HCK := Lib.hid HCK'
  have HHK := Lib.hid HHK'
  clear hE HCK' hF HHK' hG
  obtain ⟨X, hX⟩ : ∃ X, X = findErr P rows deb v := ⟨_, rfl⟩
  rw [← hX] at HFE ⊢
  clear hX
  obtain ⟨q, hq⟩ : ∃ q, q = w.heap.size := ⟨_, rfl⟩
  obtain ⟨q2, hq2⟩ : ∃ q, q = w.heap.size + 1 := ⟨_, rfl⟩
  obtain ⟨w0, hw0⟩ : ∃ W, W = (w.alloc (.cells #[.slice Ak nk ck, .slice As ns cs, .slice At nt ct] 26)).alloc (.cells #[.int .i64 v.cut, .int .i64 v.days, .int .i64 v.con] 49) := ⟨_, rfl⟩
  have HB0 : Hid (Below w.heap.size w w0) := by rw [hw0]; exact (bel_alloc _ _).alloc (by simp) _
  have HX0 : Hid (PBox q Ak nk ck As ns cs At nt ct w0) := by rw [hw0, hq]; exact (show PBox w.heap.size Ak nk ck As ns cs At nt ct (w.alloc (.cells #[.slice Ak nk ck, .slice As ns cs, .slice At nt ct] 26)) from blk_new _ _).next (bel_alloc _ _)
  have HV0 : Hid (WBox q2 v w0) := by
    have := blk_new (w.alloc (.cells #[.slice Ak nk ck, .slice As ns cs, .slice At nt ct] 26)) (.cells #[.int .i64 v.cut, .int .i64 v.days, .int .i64 v.con] 49)
    rw [World.size_alloc, ← hq2, ← hw0] at this
    exact this
  by_cases h0 : E = 0
  · by_cases h1 : F = 0
    · subst h0
      subst h1
      rcases f1 : inN nk deb with _ | _
      · have F1 := Lib.hid f1
        clear f1
        by_cases g1 : deb < 0
        · have d1 : decide (deb < 0) = true := decide_eq_true g1
          go_enter Tryz.func55, Tryz.ntmps55
          go_upto_region 1 with fail
          rw [← hw0, ← hq2, ← hq]
          have HQ := Lib.hid (And.intro hq hq2)
          clear hw0 hq hq2
          obtain ⟨k0, k1, k2⟩ := HX0.out.cells
          obtain ⟨v0, v1, v2⟩ := HV0.out.cells
          go_wp2_with fail
          clear k0 k1 k2 v0 v1 v2
          refine (HCK.out _ HB0.out).mono ?_
          rintro e w1 ⟨rfl, hb⟩
          have HXw1 := Lib.hid (HX0.out.next hb)
          have HVw1 := Lib.hid (HV0.out.next hb)
          have HBw1 : Hid (Below w.heap.size w w1) := HB0.out.trans (hb.mono HB0.out.size)
          clear hb HX0 HB0 HV0
          obtain ⟨k0, k1, k2⟩ := HXw1.out.cells
          obtain ⟨v0, v1, v2⟩ := HVw1.out.cells
          go_wp2_with fail
          clear k0 k1 k2 v0 v1 v2
          refine (HHK.out _ HBw1.out).mono ?_
          rintro e w2 ⟨rfl, hb⟩
          have HXw2 := Lib.hid (HXw1.out.next hb)
          have HVw2 := Lib.hid (HVw1.out.next hb)
          have HBw2 : Hid (Below w.heap.size w w2) := HBw1.out.trans (hb.mono HBw1.out.size)
          clear hb HXw1 HBw1 HVw1
          obtain ⟨k0, k1, k2⟩ := HXw2.out.cells
          obtain ⟨v0, v1, v2⟩ := HVw2.out.cells
          obtain rfl : X = 14 := by rw [HFE.out, if_neg (by decide), if_neg (by decide), F1.out]; exact if_pos rfl
          go_wp2_with fail
          go_ret
          exact ⟨rfl, HBw2.out⟩
        · have d1 : decide (deb < 0) = false := decide_eq_false g1
          have d2 : decide ((nk : Int) ≤ deb) = true := decide_eq_true (by have := mt inN_iff.2 (by rw [F1.out]; decide); omega)
          clear g1
          go_enter Tryz.func55, Tryz.ntmps55
          go_upto_region 1 with fail
          rw [← hw0, ← hq2, ← hq]
          have HQ := Lib.hid (And.intro hq hq2)
          clear hw0 hq hq2
          obtain ⟨k0, k1, k2⟩ := HX0.out.cells
          obtain ⟨v0, v1, v2⟩ := HV0.out.cells
          go_wp2_with fail
          clear k0 k1 k2 v0 v1 v2
          refine (HCK.out _ HB0.out).mono ?_
          rintro e w1 ⟨rfl, hb⟩
          have HXw1 := Lib.hid (HX0.out.next hb)
          have HVw1 := Lib.hid (HV0.out.next hb)
          have HBw1 : Hid (Below w.heap.size w w1) := HB0.out.trans (hb.mono HB0.out.size)
          clear hb HX0 HB0 HV0
          obtain ⟨k0, k1, k2⟩ := HXw1.out.cells
          obtain ⟨v0, v1, v2⟩ := HVw1.out.cells
          go_wp2_with fail
          clear k0 k1 k2 v0 v1 v2
          refine (HHK.out _ HBw1.out).mono ?_
          rintro e w2 ⟨rfl, hb⟩
          have HXw2 := Lib.hid (HXw1.out.next hb)
          have HVw2 := Lib.hid (HVw1.out.next hb)
          have HBw2 : Hid (Below w.heap.size w w2) := HBw1.out.trans (hb.mono HBw1.out.size)
          clear hb HXw1 HBw1 HVw1
          obtain ⟨k0, k1, k2⟩ := HXw2.out.cells
          obtain ⟨v0, v1, v2⟩ := HVw2.out.cells
          obtain rfl : X = 14 := by rw [HFE.out, if_neg (by decide), if_neg (by decide), F1.out]; exact if_pos rfl
          go_wp2_with fail
          go_ret
          exact ⟨rfl, HBw2.out⟩
      · have ho := inN_true f1
        have d1 : decide (deb < 0) = false := decide_eq_false (by omega)
        have d2 : decide ((nk : Int) ≤ deb) = false := decide_eq_false (by omega)
        have F1 := Lib.hid f1
        clear f1 ho
        go_enter Tryz.func55, Tryz.ntmps55
        go_upto_region 1 with fail
        rw [← hw0, ← hq2, ← hq]
        have HQ := Lib.hid (And.intro hq hq2)
        clear hw0 hq hq2
        obtain ⟨k0, k1, k2⟩ := HX0.out.cells
        obtain ⟨v0, v1, v2⟩ := HV0.out.cells
        go_wp2_with fail
        clear k0 k1 k2 v0 v1 v2
        refine (HCK.out _ HB0.out).mono ?_
        rintro e w1 ⟨rfl, hb⟩
        have HXw1 := Lib.hid (HX0.out.next hb)
        have HVw1 := Lib.hid (HV0.out.next hb)
        have HBw1 : Hid (Below w.heap.size w w1) := HB0.out.trans (hb.mono HB0.out.size)
        clear hb HX0 HB0 HV0
        obtain ⟨k0, k1, k2⟩ := HXw1.out.cells
        obtain ⟨v0, v1, v2⟩ := HVw1.out.cells
        go_wp2_with fail
        clear k0 k1 k2 v0 v1 v2
        refine (HHK.out _ HBw1.out).mono ?_
        rintro e w2 ⟨rfl, hb⟩
        have HXw2 := Lib.hid (HXw1.out.next hb)
        have HVw2 := Lib.hid (HVw1.out.next hb)
        have HBw2 : Hid (Below w.heap.size w w2) := HBw1.out.trans (hb.mono HBw1.out.size)
        clear hb HXw1 HBw1 HVw1
        obtain ⟨k0, k1, k2⟩ := HXw2.out.cells
        obtain ⟨v0, v1, v2⟩ := HVw2.out.cells
        go_wp2_with fail
        clear k0 k1 k2 v0 v1 v2
        refine (HWN.out _).mono ?_
        rintro e w3 ⟨rfl, hb⟩
        have HXw3 := Lib.hid (HXw2.out.next hb)
        have HVw3 := Lib.hid (HVw2.out.next hb)
        have HBw3 : Hid (Below w.heap.size w w3) := HBw2.out.trans (hb.mono HBw2.out.size)
        clear hb HXw2 HBw2 HVw2
        obtain rfl : X = G := by rw [HFE.out, if_neg (by decide), if_neg (by decide), F1.out]; exact if_neg (by decide)
        go_wp2_with fail
        go_ret
        exact ⟨rfl, HBw3.out⟩
    · subst h0
      have hF0 : (F != 0) = true := bne_iff_ne.2 h1
      have N0 := Lib.hid h1
      clear h1
      go_enter Tryz.func55, Tryz.ntmps55
      go_upto_region 1 with fail
      rw [← hw0, ← hq2, ← hq]
      have HQ := Lib.hid (And.intro hq hq2)
      clear hw0 hq hq2
      obtain ⟨k0, k1, k2⟩ := HX0.out.cells
      obtain ⟨v0, v1, v2⟩ := HV0.out.cells
      go_wp2_with fail
      clear k0 k1 k2 v0 v1 v2
      refine (HCK.out _ HB0.out).mono ?_
      rintro e w1 ⟨rfl, hb⟩
      have HXw1 := Lib.hid (HX0.out.next hb)
      have HVw1 := Lib.hid (HV0.out.next hb)
      have HBw1 : Hid (Below w.heap.size w w1) := HB0.out.trans (hb.mono HB0.out.size)
      clear hb HX0 HB0 HV0
      obtain ⟨k0, k1, k2⟩ := HXw1.out.cells
      obtain ⟨v0, v1, v2⟩ := HVw1.out.cells
      go_wp2_with fail
      clear k0 k1 k2 v0 v1 v2
      refine (HHK.out _ HBw1.out).mono ?_
      rintro e w2 ⟨rfl, hb⟩
      have HXw2 := Lib.hid (HXw1.out.next hb)
      have HVw2 := Lib.hid (HVw1.out.next hb)
      have HBw2 : Hid (Below w.heap.size w w2) := HBw1.out.trans (hb.mono HBw1.out.size)
      clear hb HXw1 HBw1 HVw1
      obtain rfl : X = F := by rw [HFE.out, if_neg (by decide), if_pos N0.out]
      go_wp2_with fail
      go_ret
      exact ⟨rfl, HBw2.out⟩
  · have hE0 : (E != 0) = true := bne_iff_ne.2 h0
    have N0 := Lib.hid h0
    clear h0
    go_enter Tryz.func55, Tryz.ntmps55
    go_upto_region 1 with fail
    rw [← hw0, ← hq2, ← hq]
    have HQ := Lib.hid (And.intro hq hq2)
    clear hw0 hq hq2
    obtain ⟨k0, k1, k2⟩ := HX0.out.cells
    obtain ⟨v0, v1, v2⟩ := HV0.out.cells
    go_wp2_with fail
    clear k0 k1 k2 v0 v1 v2
    refine (HCK.out _ HB0.out).mono ?_
    rintro e w1 ⟨rfl, hb⟩
    have HXw1 := Lib.hid (HX0.out.next hb)
    have HVw1 := Lib.hid (HV0.out.next hb)
    have HBw1 : Hid (Below w.heap.size w w1) := HB0.out.trans (hb.mono HB0.out.size)
    clear hb HX0 HB0 HV0
    obtain rfl : X = E := by rw [HFE.out, if_pos N0.out]
    go_wp2_with fail
    go_ret
    exact ⟨rfl, HBw1.out⟩

set_option maxHeartbeats 8000000 in
set_option maxRecDepth 100000 in
theorem rPrefs_calls (Ak : Option Addr) (nk ck : Nat) (As : Option Addr) (ns cs : Nat) (At : Option Addr) (nt ct : Nat) (P : Prt) (m : Nat) (Ar : Option Addr) (cr : Nat) (rows : List Row) (deb : Int) (v : Win) (w : World) (hp : PRd Ak nk As ns At nt P w) (hb : PB m P) (hr : RowsRd w w.heap.size Ar rows) (hn : rows.length ≤ maxLen) :
    Calls Tryz.prog 31 #[ptyVal Ak nk ck As ns cs At nt ct, .slice Ar rows.length cr, .int .i64 deb, winV v] w (DemPost (prefList P rows deb v) (findErr P rows deb v) w) := by
  have HN := Lib.hid hn
  unfold maxLen at hn
  have HP := Lib.hid hp
  have HPB := Lib.hid hb
  have HR := Lib.hid hr
  have HNK := Lib.hid hp.nk
  have gk : nk ≤ maxLen := by rw [hp.nk]; exact hb.kl
  have GK := Lib.hid gk
  unfold maxLen at gk
  clear hp hb hr
  obtain ⟨i1, hi, hz0, hz1, hz2⟩ := info_parts Tryz.info_dem
  have HII := Lib.hid (And.intro hi (And.intro hz0 (And.intro hz1 hz2)))
  clear hi hz0 hz1 hz2
  obtain ⟨E, hE⟩ : ∃ E, E = findErr P rows deb v := ⟨_, rfl⟩
  have HCK' := fun (W : World) (hW : Below w.heap.size w W) => rCheckFind_calls Ak nk ck As ns cs At nt ct P m Ar cr rows deb v W (HP.out.next hW) HPB.out (HR.out.next hW) HN.out
  rw [← hE] at HCK'
  have HCK := Lib.hid HCK'
  have HE := Lib.hid hE
  clear hE HCK'
  obtain ⟨q, hq⟩ : ∃ q, q = w.heap.size := ⟨_, rfl⟩
  obtain ⟨q2, hq2⟩ : ∃ q, q = w.heap.size + 1 := ⟨_, rfl⟩
  obtain ⟨w0, hw0⟩ : ∃ W, W = (w.alloc (.cells #[.slice Ak nk ck, .slice As ns cs, .slice At nt ct] 26)).alloc (.cells #[.int .i64 v.cut, .int .i64 v.days, .int .i64 v.con] 49) := ⟨_, rfl⟩
  have HB0 : Hid (Below w.heap.size w w0) := by rw [hw0]; exact (bel_alloc _ _).alloc (by simp) _
  have HX0 : Hid (PBox q Ak nk ck As ns cs At nt ct w0) := by rw [hw0, hq]; exact (show PBox w.heap.size Ak nk ck As ns cs At nt ct (w.alloc (.cells #[.slice Ak nk ck, .slice As ns cs, .slice At nt ct] 26)) from blk_new _ _).next (bel_alloc _ _)
  have HV0 : Hid (WBox q2 v w0) := by
    have := blk_new (w.alloc (.cells #[.slice Ak nk ck, .slice As ns cs, .slice At nt ct] 26)) (.cells #[.int .i64 v.cut, .int .i64 v.days, .int .i64 v.con] 49)
    rw [World.size_alloc, ← hq2, ← hw0] at this
    exact this
  by_cases h0 : E = 0
  · subst h0
    have hfp := findErr_parts HE.out.symm
    have hdb := inN_true hfp.2.2.1
    rw [← HNK.out] at hdb
    obtain ⟨dn, hdn⟩ : ∃ i : Nat, deb = (i : Int) := ⟨deb.toNat, by omega⟩
    subst hdn
    have hdl : dn < nk := by omega
    have hn32 : nk ≤ 32 := by have := (Good.of_chk hfp.1).kl; rw [← HNK.out] at this; exact this
    have HR256 : Hid (rows.length ≤ 256) := by have := hfp.2.1; unfold hcheck at this; split at this; omega; show _ ≤ _; omega
    have HC0 := Lib.hid hfp.1
    have HWB := Lib.hid hfp.2.2.2
    clear hfp hdb
    obtain ⟨f, hf⟩ : ∃ f, f = prefOf P rows dn v := ⟨_, rfl⟩
    have HE2 : Hid (prefList P rows (dn : Int) v = demands f (dn : Int) 1 nk) := by show _ = _; unfold prefList; rw [← HE.out, if_pos rfl, Int.toNat_natCast, ← HNK.out, hf]
    have HFF : Hid (∀ k, f k = prefOf P rows dn v k) := fun k => by rw [hf]
    clear hf
    have HPE : Hid (∀ k : Nat, k < nk → perErr P (dn : Int) (k : Int) v = 0 ∧ perF P (dn : Int) (k : Int) v = perFrom P dn k v ∧ perT P (dn : Int) (k : Int) v = v.cut) := fun k hk => by
      have e := perErr_of (cre := (k : Int)) (deb := (dn : Int)) HC0.out (inN_iff.2 ⟨by omega, by rw [← HNK.out]; omega⟩) (inN_iff.2 ⟨by omega, by rw [← HNK.out]; omega⟩) HWB.out
      exact ⟨e, by unfold perF; rw [e, if_pos rfl, Int.toNat_natCast, Int.toNat_natCast], by unfold perT; rw [e, if_pos rfl]⟩
    go_enter Tryz.func31, Tryz.ntmps31
    go_upto_region 1 with fail
    rw [← hw0, ← hq2, ← hq]
    have HQ := Lib.hid (And.intro hq hq2)
    clear hw0 hq hq2
    obtain ⟨k0, k1, k2⟩ := HX0.out.cells
    obtain ⟨v0, v1, v2⟩ := HV0.out.cells
    go_wp2_with fail
    clear k0 k1 k2 v0 v1 v2
    refine (HCK.out _ HB0.out).mono ?_
    rintro e w1 ⟨rfl, hb⟩
    have HXw1 := Lib.hid (HX0.out.next hb)
    have HVw1 := Lib.hid (HV0.out.next hb)
    have HBw1 : Hid (Below w.heap.size w w1) := HB0.out.trans (hb.mono HB0.out.size)
    clear hb HX0 HB0 HV0
    obtain ⟨k0, k1, k2⟩ := HXw1.out.cells
    obtain ⟨v0, v1, v2⟩ := HVw1.out.cells
    go_wp2_with fail
    clear k0 k1 k2 v0 v1 v2
    have HX3 : Hid (q < w1.heap.size ∧ q2 < w1.heap.size) := ⟨(Array.getElem?_eq_some_iff.1 HXw1.out).1, (Array.getElem?_eq_some_iff.1 HVw1.out).1⟩
    go_loopw [11, 12] (fun o i wr => ∃ (k mo co : Nat) (Ao : Option Addr), k ≤ nk ∧ i = .int .i64 (k : Int) ∧ o = .slice Ao mo co ∧ Hid (mo = (demands f (dn : Int) 1 k).length ∧ wr.ownsRow w1.heap.size 101 4 (.slice Ao mo co) mo ((demands f (dn : Int) 1 k).flatMap demV)) ∧ Hid (PBox q Ak nk ck As ns cs At nt ct wr) ∧ Hid (WBox q2 v wr) ∧ Hid (Below w1.heap.size w1 wr)) (fun _ i _ => nk - (intOf i).toNat)
    case atStart => exact ⟨0, 0, 0, none, Nat.zero_le _, rfl, rfl, ⟨rfl, World.ownsRow_nil _ _ _ _⟩, HXw1, HVw1, Below.refl _ _⟩
    case round =>
      clear HXw1 HVw1
      obtain ⟨k, mo, co, Ao, hk, rfl, rfl, HO, HXwo, HVwo, HYwo⟩ := hrel
      rename World => wo
      have HBwo : Hid (Below w.heap.size w wo) := HBw1.out.trans (HYwo.out.mono HBw1.out.size)
      by_cases hkl : k < nk
      · have hkl2 : (k : Int) < (nk : Int) := by omega
        obtain ⟨x, hx⟩ : ∃ x, x = f k := ⟨_, rfl⟩
        obtain ⟨pe, pf, pt⟩ := HPE.out k hkl
        have HPR' := fun (W : World) (hW : Below w.heap.size w W) => rPeriod_calls Ak nk ck As ns cs At nt ct P m (dn : Int) (k : Int) v W (HP.out.next hW) HPB.out
        rw [pe, pf, pt] at HPR'
        have HXP' := fun (W : World) (hW : Below w.heap.size w W) => expoRef_calls Ar cr rows (dn : Int) (k : Int) (perFrom P dn k v) v.cut W (by have := HR256.out; omega) (HR.out.next hW)
        rw [show expo (dn : Int) (k : Int) (perFrom P dn k v) v.cut rows = x by rw [hx, HFF.out]; rfl] at HXP'
        obtain ⟨fr, hfr⟩ : ∃ y, y = perFrom P dn k v := ⟨_, rfl⟩
        rw [← hfr] at HPR' HXP'
        have HPR := Lib.hid HPR'
        have HXP := Lib.hid HXP'
        have HXK := Lib.hid hx
        clear HPR' HXP' hfr hx pe pf pt
        obtain ⟨k0, k1, k2⟩ := HXwo.out.cells
        obtain ⟨v0, v1, v2⟩ := HVwo.out.cells
        go_wp2_with fail
        clear k0 k1 k2 v0 v1 v2
        refine (HPR.out _ HBwo.out).mono ?_
        rintro e w4 ⟨rfl, hb⟩
        have HX4 := Lib.hid (HXwo.out.next hb)
        have HV4 := Lib.hid (HVwo.out.next hb)
        have HY4 : Hid (Below w1.heap.size w1 w4) := HYwo.out.trans (hb.mono HYwo.out.size)
        have HB4 : Hid (Below w.heap.size w w4) := HBwo.out.trans (hb.mono HBwo.out.size)
        have HO4 : Hid (mo = (demands f (dn : Int) 1 k).length ∧ w4.ownsRow w1.heap.size 101 4 (.slice Ao mo co) mo ((demands f (dn : Int) 1 k).flatMap demV)) := ⟨HO.out.1, own_below HO.out.2 hb⟩
        clear hb HXwo HVwo HYwo HBwo HO HPR
        go_wp2_with fail
        refine (HXP.out _ HB4.out).mono ?_
        rintro e w5 ⟨rfl, hb⟩
        have HX5 := Lib.hid (HX4.out.next hb)
        have HV5 := Lib.hid (HV4.out.next hb)
        have HY5 : Hid (Below w1.heap.size w1 w5) := HY4.out.trans (hb.mono HY4.out.size)
        have HO5 : Hid (mo = (demands f (dn : Int) 1 k).length ∧ w5.ownsRow w1.heap.size 101 4 (.slice Ao mo co) mo ((demands f (dn : Int) 1 k).flatMap demV)) := ⟨HO4.out.1, own_below HO4.out.2 hb⟩
        clear hb HX4 HV4 HY4 HB4 HO4 HXP
        by_cases hx0 : 0 < x
        · have t0 : decide (0 < x) = true := decide_eq_true hx0
          have HNX : Hid (demands f (dn : Int) 1 (k + 1) = demands f (dn : Int) 1 k ++ [⟨(dn : Int), (k : Int), 1, x⟩]) := by show _ = _; rw [demands_succ, ← HXK.out, if_pos hx0]
          have hml : mo ≤ 32 := by rw [HO5.out.1]; have := demands_len f (dn : Int) 1 k; omega
          clear hx0
          have HOa := Lib.hid (own_below HO5.out.2 (bel_alloc w5 (.cells #[.int .i64 (dn : Int), .int .i64 (k : Int), .int .i64 1, .int .i64 x] 101)))
          have HYa := Lib.hid (HY5.out.alloc HY5.out.size (.cells #[.int .i64 (dn : Int), .int .i64 (k : Int), .int .i64 1, .int .i64 x] 101))
          have hsz := HYa.out.size
          have HXa := Lib.hid (HX5.out.next (bel_alloc w5 (.cells #[.int .i64 (dn : Int), .int .i64 (k : Int), .int .i64 1, .int .i64 x] 101)))
          have HVa := Lib.hid (HV5.out.next (bel_alloc w5 (.cells #[.int .i64 (dn : Int), .int .i64 (k : Int), .int .i64 1, .int .i64 x] 101)))
          go_wp2_with (at_builtin; refine wpList_append_own _ rfl (.tmp 49) (.tmp 54) 60 rfl w1.heap.size 101 i1 _ 4 32 Tryz.underlying60 HII.out.1 HII.out.2.1 HII.out.2.2.1 HII.out.2.2.2 rfl (by decide) _ mo ((demands f (dn : Int) 1 k).flatMap demV) rfl HOa.out _ 1 1 [.int .i64 (dn : Int), .int .i64 (k : Int), .int .i64 1, .int .i64 x] rfl rfl (rd_new_cells _ _ _ _ (by simp)) (by simp [Value.oneCell']) (by simp only [maxLen]; omega) (by omega) hsz ?_)
          intro v' w' hown hgr hnil
          obtain ⟨g', cap, rfl, _, _⟩ := hown.form (by omega)
          obtain ⟨wt, hwt⟩ : ∃ W, W = w5.alloc (.cells #[.int .i64 (dn : Int), .int .i64 (k : Int), .int .i64 1, .int .i64 x] 101) := ⟨_, rfl⟩
          rw [← hwt] at HOa HYa HXa HVa hgr
          clear hwt
          have HXYZ : Hid (PBox q Ak nk ck As ns cs At nt ct w' ∧ WBox q2 v w' ∧ Below w1.heap.size w1 w') := ⟨blk_grownB HOa.out HXa.out HX3.out.1 hgr, blk_grownB HOa.out HVa.out HX3.out.2 hgr, Below.grown HYa.out hgr HYa.out.size (fun q hq => (HOa.out.lt q hq).1)⟩
          have HO' : Hid (mo + 1 = (demands f (dn : Int) 1 (k + 1)).length ∧ w'.ownsRow w1.heap.size 101 4 (.slice (some ⟨g', 0, none⟩) (mo + 1) cap) (mo + 1) ((demands f (dn : Int) 1 (k + 1)).flatMap demV)) := by
            show _ ∧ _
            rw [HNX.out, List.length_append, ← HO5.out.1, List.flatMap_append]
            exact ⟨rfl, hown⟩
          clear hown hgr hnil HOa HYa HXa HVa HO5 HX5 HV5 HY5
          go_wp2_with fail
          go_roundw
          case measure => simp [intOf] <;> omega
          case rel => exact ⟨k + 1, _, _, _, by omega, by go_num, rfl, HO', HXYZ.out.1, HXYZ.out.2.1, HXYZ.out.2.2⟩
        · have t0 : decide (0 < x) = false := decide_eq_false hx0
          have HNX : Hid (demands f (dn : Int) 1 (k + 1) = demands f (dn : Int) 1 k) := by show _ = _; rw [demands_succ, ← HXK.out, if_neg hx0]
          clear hx0
          go_wp2_with fail
          go_roundw
          case measure => simp [intOf] <;> omega
          case rel => exact ⟨k + 1, _, _, _, by omega, by go_num, rfl, by rw [HNX.out]; exact HO5, HX5, HV5, HY5⟩
      · have hkl2 : ¬ (k : Int) < (nk : Int) := by omega
        obtain rfl : k = nk := by omega
        obtain ⟨k0, k1, k2⟩ := HXwo.out.cells
        obtain ⟨v0, v1, v2⟩ := HVwo.out.cells
        go_wp2_with fail
        go_ret2
        rw [← HE.out, HE2.out]
        refine ⟨Ao, co, by rw [← HO.out.1]; rfl, ?_, HBwo.out⟩
        have := Rd.of_own HO.out.2
        rw [HO.out.1] at this
        exact this
  · have hE0 : (E != 0) = true := bne_iff_ne.2 h0
    have N0 := Lib.hid h0
    clear h0
    go_enter Tryz.func31, Tryz.ntmps31
    go_upto_region 1 with fail
    rw [← hw0, ← hq2, ← hq]
    have HQ := Lib.hid (And.intro hq hq2)
    clear hw0 hq hq2
    obtain ⟨k0, k1, k2⟩ := HX0.out.cells
    obtain ⟨v0, v1, v2⟩ := HV0.out.cells
    go_wp2_with fail
    clear k0 k1 k2 v0 v1 v2
    refine (HCK.out _ HB0.out).mono ?_
    rintro e w1 ⟨rfl, hb⟩
    have HXw1 := Lib.hid (HX0.out.next hb)
    have HVw1 := Lib.hid (HV0.out.next hb)
    have HBw1 : Hid (Below w.heap.size w w1) := HB0.out.trans (hb.mono HB0.out.size)
    clear hb HX0 HB0 HV0
    go_wp2_with fail
    go_ret2
    have e2 : prefList P rows deb v = [] := by unfold prefList; rw [← HE.out]; exact if_neg N0.out
    rw [← HE.out, e2]
    exact ⟨none, 0, rfl, Rd.nil, HBw1.out⟩


end Go.Proofs.YtomfcmlomfcghaaGreatDoor

/- insolvencyref25.SameDemands. -/
set_option linter.unusedVariables false
set_option linter.unusedSimpArgs false
namespace Go.Proofs.YtomfcmlomfcghaaGreatDoor
open Go.RowKit

set_option maxHeartbeats 2000000 in
theorem sameDem_calls (A B : Option Addr) (n ca cb : Nat) (l : List Dem) (w : World) (hn : n = l.length) (ra : Rd w w.heap.size 4 A l.length (l.flatMap demV)) (rb : Rd w w.heap.size 4 B l.length (l.flatMap demV)) (gn : n ≤ maxLen) :
    Calls Tryz.prog 32 #[.slice A n ca, .slice B n cb] w fun e w' => e = .returned (.bool true) ∧ Below w.heap.size w w' := by
  unfold maxLen at gn
  have HN := Lib.hid hn
  have HA := Lib.hid ra
  have HB := Lib.hid rb
  clear hn ra rb
  go_enter Tryz.func32, Tryz.ntmps32
  go_wp2_with fail
  go_loopw [5] (fun i wr => ∃ k : Nat, k ≤ n ∧ i = .int .i64 (k : Int) ∧ ∃ q, wr = w.drewN q) (fun i _ => n - (intOf i).toNat)
  case atStart => exact ⟨0, Nat.zero_le _, rfl, 0, rfl⟩
  case round =>
    obtain ⟨k, hk, rfl, q, rfl⟩ := hrel
    by_cases hlt : k < n
    · obtain ⟨x, hx⟩ := getElem?_of_lt (l := l) (k := k) (by rw [← HN.out]; exact hlt)
      obtain ⟨b, off, hA, _, hc⟩ := Rd.at_ (enc := demV) (fun _ => rfl) HA.out hx
      subst hA
      obtain ⟨b', off', hA, _, hd⟩ := Rd.at_ (enc := demV) (fun _ => rfl) HB.out hx
      subst hA
      have p0 := hc 0 _ rfl
      have p1 := hc 1 _ rfl
      have p2 := hc 2 _ rfl
      have p3 := hc 3 _ rfl
      have r0 := hd 0 _ rfl
      have r1 := hd 1 _ rfl
      have r2 := hd 2 _ rfl
      have r3 := hd 3 _ rfl
      rw [Nat.add_zero] at p0 r0
      rw [← Nat.add_assoc] at p1 p2 p3 r1 r2 r3
      clear hc hd hx
      obtain ⟨x0, x1, x2, x3⟩ := x
      dsimp only at p0 p1 p2 p3 r0 r1 r2 r3
      go_wp2_with fail
      go_quiet (fail)
      go_wp2_with fail
      go_roundw
      case measure => simp [intOf] <;> omega
      case rel => exact ⟨k + 1, by omega, by go_num, _, rfl⟩
    · go_wp2_with fail
      go_ret
      exact ⟨rfl, (Below.refl _ _).drewN _⟩

end Go.Proofs.YtomfcmlomfcghaaGreatDoor

/- party.Check. -/
import Derived.Test.YtomfcmlomfcghaaGreatDoorM41
import Derived.Test.YtomfcmlomfcghaaGreatDoorSameI
import Derived.Test.YtomfcmlomfcghaaGreatDoorPtyC
import Derived.Deep.RegionHeld3
import Derived.Test.YtomfcmlomfcghaaGreatDoorPRatE
import Derived.Test.YtomfcmlomfcghaaGreatDoorPRatF
import Derived.Test.YtomfcmlomfcghaaGreatDoorPRatC
set_option linter.unusedVariables false
set_option linter.unusedSimpArgs false
namespace Go.Proofs.YtomfcmlomfcghaaGreatDoor
open Go.RowKit

theorem stks_drop {ks : List Int} {l : List Stk} {k : Nat} {s : Stk} (h : stksErr ks (l.drop k) = stksErr ks l) (hs : l[k]? = some s) : (stkErr ks s = 0 → stksErr ks (l.drop (k + 1)) = stksErr ks l) ∧ (stkErr ks s ≠ 0 → stksErr ks l = stkErr ks s) := by
 obtain ⟨hlt, e⟩ := List.getElem?_eq_some_iff.1 hs
 rw [List.drop_eq_getElem_cons hlt, e, stksErr] at h
 constructor
 ·
  intro h0; rw [if_pos h0] at h; exact h
 ·
  intro h0; rw [if_neg h0] at h; exact h.symm
theorem chk2 {P : Prt} (h : 32 < P.kinds.length ∨ 64 < P.stakes.length ∨ 64 < P.ties.length) : chk P = 2 := by unfold chk; rw [if_pos h]
theorem chk1 {P : Prt} (h : ¬ (32 < P.kinds.length ∨ 64 < P.stakes.length ∨ 64 < P.ties.length)) (h1 : P.kinds.any kindBad = true) : chk P = 1 := by unfold chk; rw [if_neg h, if_pos h1]
theorem chkS {P : Prt} (h : ¬ (32 < P.kinds.length ∨ 64 < P.stakes.length ∨ 64 < P.ties.length)) (h1 : P.kinds.any kindBad = false) (h2 : stksErr P.kinds P.stakes ≠ 0) : chk P = stksErr P.kinds P.stakes := by unfold chk; rw [if_neg h, if_neg (by rw [h1]; decide), if_pos h2]
theorem chk6 {P : Prt} (h : ¬ (32 < P.kinds.length ∨ 64 < P.stakes.length ∨ 64 < P.ties.length)) (h1 : P.kinds.any kindBad = false) (h2 : stksErr P.kinds P.stakes = 0) (h3 : overs P.kinds.length P.stakes = true) : chk P = 6 := by unfold chk; rw [if_neg h, if_neg (by rw [h1]; decide), if_neg (by rw [h2]; decide), if_pos h3]
theorem chkT {P : Prt} (h : ¬ (32 < P.kinds.length ∨ 64 < P.stakes.length ∨ 64 < P.ties.length)) (h1 : P.kinds.any kindBad = false) (h2 : stksErr P.kinds P.stakes = 0) (h3 : overs P.kinds.length P.stakes = false) : chk P = if P.ties.all (tieFine P.kinds.length) = true then 0 else 14 := by unfold chk; rw [if_neg h, if_neg (by rw [h1]; decide), if_neg (by rw [h2]; decide), if_neg (by rw [h3]; decide)]
theorem over_one {n c : Nat} {l : List Stk} (hc : c < n) (h : 1 < vs (fun s => s.c == (c : Int)) l) : overs n l = true := by unfold overs; exact List.any_eq_true.2 ⟨c, List.mem_range.2 hc, by unfold overAt; exact decide_eq_true h⟩
theorem tie_bad {P : Prt} {t : Int × Int} (ht : t ∈ P.ties) (h : tieFine P.kinds.length t = false) : (if P.ties.all (tieFine P.kinds.length) = true then (0 : Int) else 14) = 14 := if_neg (fun h2 => by rw [List.all_eq_true.1 h2 t ht] at h; cases h)
theorem all_take {α : Type} {l : List α} {f : α → Bool} {k : Nat} {x : α} (h : (l.take k).all f = true) (hx : l[k]? = some x) (e : f x = true) : (l.take (k + 1)).all f = true := by
 rw [List.take_add_one, hx, List.all_append, h]
 simp [e]
theorem stkErr14 {ks : List Int} {s : Stk} (h : stkFine ks s = false) : stkErr ks s = 14 := by unfold stkErr; rw [if_neg (by rw [h]; decide)]
theorem stkErr1 {ks : List Int} {s : Stk} (h : stkFine ks s = true) (h2 : ¬ 0 < fixR s.v) : stkErr ks s = 1 := by unfold stkErr; rw [if_pos h, if_neg h2]

set_option maxHeartbeats 8000000 in
set_option maxRecDepth 100000 in
theorem check_calls (Ak : Option Addr) (nk ck : Nat) (As : Option Addr) (ns cs : Nat) (At : Option Addr) (nt ct : Nat) (P : Prt) (m : Nat) (w : World) (hp : PRd Ak nk As ns At nt P w) (hb : PB m P) :
 Calls Tryz.prog 18 #[ptyVal Ak nk ck As ns cs At nt ct] w fun e w' => e = .returned (.int .i64 (chk P)) ∧ Below w.heap.size w w' := by
 have HP := Lib.hid hp
 have HPB := Lib.hid hb
 have HNK := Lib.hid hp.nk
 have HNS := Lib.hid hp.ns
 have HNT := Lib.hid hp.nt
 have gk : nk ≤ maxLen := by rw [hp.nk]; exact hb.kl
 have gs : ns ≤ maxLen := by rw [hp.ns]; exact hb.sl
 have gt : nt ≤ maxLen := by rw [hp.nt]; exact hb.tl
 have GK := Lib.hid gk
 unfold maxLen at gk gs gt
 clear hp hb
 obtain ⟨E, hE⟩ : ∃ E, E = chk P := ⟨_, rfl⟩
 rw [← hE]
 have HE := Lib.hid hE
 clear hE
 obtain ⟨w0, hw0⟩ : ∃ W, W = w.alloc (.cells #[.slice Ak nk ck, .slice As ns cs, .slice At nt ct] 26) := ⟨_, rfl⟩
 obtain ⟨q, hq⟩ : ∃ q, q = w.heap.size := ⟨_, rfl⟩
 have HB0 : Hid (Below w.heap.size w w0) := by rw [hw0]; exact bel_alloc _ _
 have HX0 : Hid (PBox q Ak nk ck As ns cs At nt ct w0) := by rw [hw0, hq]; exact blk_new _ _
 by_cases l0 : 32 < nk
 ·
  have d0 : decide ((32 : Int) < (nk : Int)) = true := decide_eq_true (by omega)
  obtain rfl : E = 2 := by rw [HE.out]; exact chk2 (by rw [← HNK.out, ← HNS.out, ← HNT.out]; omega)
  go_enter Tryz.func18, Tryz.ntmps18
  go_upto_region 1 with fail
  rw [← hw0, ← hq]
  have HQ := Lib.hid hq
  clear hw0 hq
  obtain ⟨k0, k1, k2⟩ := HX0.out.cells
  go_wp2_with fail
  go_ret
  exact ⟨rfl, HB0.out⟩
 ·
  have d0 : decide ((32 : Int) < (nk : Int)) = false := decide_eq_false (by omega)
  by_cases l1 : 64 < ns
  ·
   have d1 : decide ((64 : Int) < (ns : Int)) = true := decide_eq_true (by omega)
   obtain rfl : E = 2 := by rw [HE.out]; exact chk2 (by rw [← HNK.out, ← HNS.out, ← HNT.out]; omega)
   go_enter Tryz.func18, Tryz.ntmps18
   go_upto_region 1 with fail
   rw [← hw0, ← hq]
   have HQ := Lib.hid hq
   clear hw0 hq
   obtain ⟨k0, k1, k2⟩ := HX0.out.cells
   go_wp2_with fail
   go_ret
   exact ⟨rfl, HB0.out⟩
  ·
   have d1 : decide ((64 : Int) < (ns : Int)) = false := decide_eq_false (by omega)
   by_cases l2 : 64 < nt
   ·
    have d2 : decide ((64 : Int) < (nt : Int)) = true := decide_eq_true (by omega)
    obtain rfl : E = 2 := by rw [HE.out]; exact chk2 (by rw [← HNK.out, ← HNS.out, ← HNT.out]; omega)
    go_enter Tryz.func18, Tryz.ntmps18
    go_upto_region 1 with fail
    rw [← hw0, ← hq]
    have HQ := Lib.hid hq
    clear hw0 hq
    obtain ⟨k0, k1, k2⟩ := HX0.out.cells
    go_wp2_with fail
    go_ret
    exact ⟨rfl, HB0.out⟩
   ·
    have d2 : decide ((64 : Int) < (nt : Int)) = false := decide_eq_false (by omega)
    have HL : Hid (¬ (32 < P.kinds.length ∨ 64 < P.stakes.length ∨ 64 < P.ties.length)) := by show ¬ _; rw [← HNK.out, ← HNS.out, ← HNT.out]; omega
    go_enter Tryz.func18, Tryz.ntmps18
    go_upto_region 1 with fail
    rw [← hw0, ← hq]
    have HQ := Lib.hid hq
    clear hw0 hq
    obtain ⟨k0, k1, k2⟩ := HX0.out.cells
    go_wp2_with fail
    clear d0 d1 d2 k0 k1 k2
    go_loop [33] (fun i => ∃ k : Nat, k ≤ nk ∧ i = .int .i64 (k : Int) ∧ Hid ((P.kinds.take k).any kindBad = false)) (fun i => nk - (intOf i).toNat)
    case atStart => exact ⟨0, Nat.zero_le _, rfl, rfl⟩
    case round =>
     obtain ⟨k, hk, rfl, HT⟩ := hrel
     by_cases hlt : k < nk
     ·
      obtain ⟨x, hx⟩ := getElem?_of_lt (l := P.kinds) (k := k) (by rw [← HNK.out]; exact hlt)
      obtain ⟨b, off, hA, _, c1⟩ := rd_int (HP.out.k.next HB0.out) hx
      subst hA
      have HXX := Lib.hid hx
      clear hx
      by_cases h1 : x = 1
      ·
       subst h1
       have HNX : Hid ((P.kinds.take (k + 1)).any kindBad = false) := any_take HT.out HXX.out (by decide)
       clear HT HXX
       go_wp2_with fail
       go_round
       case measure => simp [intOf] <;> omega
       case rel => exact ⟨k + 1, by omega, by go_num, HNX⟩
      ·
       by_cases h2 : x = 2
       ·
        subst h2
        have HNX : Hid ((P.kinds.take (k + 1)).any kindBad = false) := any_take HT.out HXX.out (by decide)
        clear HT HXX
        go_wp2_with fail
        go_round
        case measure => simp [intOf] <;> omega
        case rel => exact ⟨k + 1, by omega, by go_num, HNX⟩
       ·
        have x1 : (x != 1) = true := bne_iff_ne.2 h1
        have x2 : (x != 2) = true := bne_iff_ne.2 h2
        obtain rfl : E = 1 := by rw [HE.out]; exact chk1 HL.out (List.any_eq_true.2 ⟨x, List.mem_of_getElem? HXX.out, by unfold kindBad; rw [decide_eq_true h1, decide_eq_true h2]; rfl⟩)
        clear HT HXX
        go_wp2_with fail
        go_ret
        exact ⟨rfl, HB0.out⟩
     ·
      have HK : Hid (P.kinds.any kindBad = false) := by
       have := HT.out
       rwa [List.take_of_length_le (by rw [← HNK.out]; omega)] at this
      clear HT
      obtain ⟨k0, k1, k2⟩ := HX0.out.cells
      go_wp2_with fail
      clear k0 k1 k2
      go_loopw [47] (fun i wr => ∃ k : Nat, k ≤ ns ∧ i = .int .i64 (k : Int) ∧ Hid (stksErr P.kinds (P.stakes.drop k) = stksErr P.kinds P.stakes) ∧ Hid (PBox q Ak nk ck As ns cs At nt ct wr) ∧ Hid (Below w.heap.size w wr)) (fun i _ => ns - (intOf i).toNat)
      case atStart => exact ⟨0, Nat.zero_le _, rfl, rfl, HX0, HB0⟩
      case round =>
       clear HX0 HB0
       obtain ⟨j, hj, rfl, HD, HXwo, HBwo⟩ := hrel
       rename World => wo
       by_cases hjl : j < ns
       ·
        obtain ⟨s, hs⟩ := getElem?_of_lt (l := P.stakes) (k := j) (by rw [← HNS.out]; exact hjl)
        have HDS := Lib.hid (stks_drop HD.out hs)
        have HBS := Lib.hid (HPB.out.s s (List.mem_of_getElem? hs))
        obtain ⟨b, off, hA, _, hc⟩ := Rd.at_ (enc := stkV) (fun _ => rfl) (HP.out.s.next HBwo.out) hs
        subst hA
        have p0 := hc 0 _ rfl
        have p1 := hc 1 _ rfl
        have p2 := hc 2 _ rfl
        have p3 := hc 3 _ rfl
        have p4 := hc 4 _ rfl
        rw [Nat.add_zero] at p0
        rw [← Nat.add_assoc] at p1 p2 p3 p4
        clear hc hs
        obtain ⟨o, c, vn, vu, vd⟩ := s
        dsimp only at p0 p1 p2 p3 p4
        obtain ⟨g, hg⟩ : ∃ g, g = wo.heap.size := ⟨_, rfl⟩
        obtain ⟨wa, hwa⟩ : ∃ W, W = wo.alloc (.cells #[.int .i64 o, .int .i64 c, .bool vn, .string vu, .string vd] 72) := ⟨_, rfl⟩
        have HSwa : Hid (SBox g ⟨o, c, vn, vu, vd⟩ wa) := by rw [hwa, hg]; exact blk_new _ _
        have HXwa : Hid (PBox q Ak nk ck (some ⟨b, off, none⟩) ns cs At nt ct wa) := by rw [hwa]; exact HXwo.out.next (bel_alloc _ _)
        have HBwa : Hid (Below w.heap.size w wa) := by rw [hwa]; exact HBwo.out.alloc HBwo.out.size _
        have HW := Lib.hid (And.intro hwa hg)
        have hxa := HXwa.out
        have hsa := HSwa.out
        rw [hwa] at hxa hsa
        rw [hg] at hsa
        obtain ⟨k0, k1, k2⟩ := hxa.cells
        obtain ⟨s0, s1, s2, s3, s4⟩ := hsa.cells
        clear hwa hg HD hxa hsa
        rcases f1 : inN nk o with _ | _
        ·
         have F1 := Lib.hid f1
         clear f1
         obtain rfl : E = 14 := by
          have h14 := stkErr14 (ks := P.kinds) (s := ⟨o, c, vn, vu, vd⟩) (by unfold stkFine; dsimp only; rw [← HNK.out, F1.out]; rfl)
          have h2 := HDS.out.2 (by rw [h14]; decide)
          rw [HE.out, chkS HL.out HK.out (by rw [h2, h14]; decide), h2, h14]
         go_wp2_with fail
         rw [← HW.out.1, ← HW.out.2]
         clear HW p0 p1 p2 p3 p4 HXwo HBwo
         clear k0 k1 k2 s0 s1 s2 s3 s4
         refine (is_calls Ak nk ck (some ⟨b, off, none⟩) ns cs At nt ct o wa GK.out).mono ?_
         rintro e w1 ⟨rfl, hb⟩
         have HXw1 := Lib.hid (HXwa.out.next hb)
         have HSw1 := Lib.hid (HSwa.out.next hb)
         have HBw1 : Hid (Below w.heap.size w w1) := HBwa.out.trans (hb.mono HBwa.out.size)
         clear hb HXwa HSwa HBwa
         rw [F1.out]
         obtain ⟨k0, k1, k2⟩ := HXw1.out.cells
         obtain ⟨s0, s1, s2, s3, s4⟩ := HSw1.out.cells
         go_wp2_with fail
         go_ret
         exact ⟨rfl, HBw1.out⟩
        ·
         have F1 := Lib.hid f1
         clear f1
         rcases f2 : inN nk c with _ | _
         ·
          have F2 := Lib.hid f2
          clear f2
          obtain rfl : E = 14 := by
           have h14 := stkErr14 (ks := P.kinds) (s := ⟨o, c, vn, vu, vd⟩) (by unfold stkFine; dsimp only; rw [← HNK.out, F1.out, F2.out]; rfl)
           have h2 := HDS.out.2 (by rw [h14]; decide)
           rw [HE.out, chkS HL.out HK.out (by rw [h2, h14]; decide), h2, h14]
          go_wp2_with fail
          rw [← HW.out.1, ← HW.out.2]
          clear HW p0 p1 p2 p3 p4 HXwo HBwo
          clear k0 k1 k2 s0 s1 s2 s3 s4
          refine (is_calls Ak nk ck (some ⟨b, off, none⟩) ns cs At nt ct o wa GK.out).mono ?_
          rintro e w1 ⟨rfl, hb⟩
          have HXw1 := Lib.hid (HXwa.out.next hb)
          have HSw1 := Lib.hid (HSwa.out.next hb)
          have HBw1 : Hid (Below w.heap.size w w1) := HBwa.out.trans (hb.mono HBwa.out.size)
          clear hb HXwa HSwa HBwa
          rw [F1.out]
          obtain ⟨k0, k1, k2⟩ := HXw1.out.cells
          obtain ⟨s0, s1, s2, s3, s4⟩ := HSw1.out.cells
          go_wp2_with fail
          clear k0 k1 k2 s0 s1 s2 s3 s4
          refine (is_calls Ak nk ck (some ⟨b, off, none⟩) ns cs At nt ct c w1 GK.out).mono ?_
          rintro e w2 ⟨rfl, hb⟩
          have HXw2 := Lib.hid (HXw1.out.next hb)
          have HSw2 := Lib.hid (HSw1.out.next hb)
          have HBw2 : Hid (Below w.heap.size w w2) := HBw1.out.trans (hb.mono HBw1.out.size)
          clear hb HXw1 HSw1 HBw1
          rw [F2.out]
          obtain ⟨k0, k1, k2⟩ := HXw2.out.cells
          obtain ⟨s0, s1, s2, s3, s4⟩ := HSw2.out.cells
          go_wp2_with fail
          go_ret
          exact ⟨rfl, HBw2.out⟩
         ·
          have hc := inN_true f2
          obtain ⟨i, hi⟩ : ∃ i : Nat, c = (i : Int) := ⟨c.toNat, by omega⟩
          subst hi
          have hil : i < nk := by omega
          have hil2 : (i : Int) < (nk : Int) := by omega
          have F2 := Lib.hid f2
          clear f2 hc
          obtain ⟨y, hy⟩ := getElem?_of_lt (l := P.kinds) (k := i) (by rw [← HNK.out]; exact hil)
          have hky : kindAt P.kinds (i : Int) = y := by unfold kindAt; rw [Int.toNat_natCast, List.getD, hy]; rfl
          have HY := Lib.hid hy
          clear hy
          by_cases f3 : y = 2
          ·
           subst f3
           by_cases f4 : o = (i : Int)
           ·
            have F4 := Lib.hid f4
            have HKY := Lib.hid hky
            clear hky
            obtain rfl : E = 14 := by
             have h14 := stkErr14 (ks := P.kinds) (s := ⟨o, (i : Int), vn, vu, vd⟩) (by unfold stkFine; dsimp only; rw [← HNK.out, F1.out, F2.out, HKY.out, decide_eq_false (show ¬ o ≠ (i : Int) from fun h => h F4.out)]; rfl)
             have h2 := HDS.out.2 (by rw [h14]; decide)
             rw [HE.out, chkS HL.out HK.out (by rw [h2, h14]; decide), h2, h14]
            have hoe : (o == (i : Int)) = true := beq_iff_eq.2 f4
            clear f4
            go_wp2_with fail
            rw [← HW.out.1, ← HW.out.2]
            clear HW p0 p1 p2 p3 p4 HXwo HBwo
            clear k0 k1 k2 s0 s1 s2 s3 s4
            refine (is_calls Ak nk ck (some ⟨b, off, none⟩) ns cs At nt ct o wa GK.out).mono ?_
            rintro e w1 ⟨rfl, hb⟩
            have HXw1 := Lib.hid (HXwa.out.next hb)
            have HSw1 := Lib.hid (HSwa.out.next hb)
            have HBw1 : Hid (Below w.heap.size w w1) := HBwa.out.trans (hb.mono HBwa.out.size)
            clear hb HXwa HSwa HBwa
            rw [F1.out]
            obtain ⟨k0, k1, k2⟩ := HXw1.out.cells
            obtain ⟨s0, s1, s2, s3, s4⟩ := HSw1.out.cells
            go_wp2_with fail
            clear k0 k1 k2 s0 s1 s2 s3 s4
            refine (is_calls Ak nk ck (some ⟨b, off, none⟩) ns cs At nt ct (i : Int) w1 GK.out).mono ?_
            rintro e w2 ⟨rfl, hb⟩
            have HXw2 := Lib.hid (HXw1.out.next hb)
            have HSw2 := Lib.hid (HSw1.out.next hb)
            have HBw2 : Hid (Below w.heap.size w w2) := HBw1.out.trans (hb.mono HBw1.out.size)
            clear hb HXw1 HSw1 HBw1
            rw [F2.out]
            obtain ⟨bk, ok, hA, _, ky⟩ := rd_int (HP.out.k.next HBw2.out) HY.out
            subst hA
            obtain ⟨k0, k1, k2⟩ := HXw2.out.cells
            obtain ⟨s0, s1, s2, s3, s4⟩ := HSw2.out.cells
            go_wp2_with fail
            go_ret
            exact ⟨rfl, HBw2.out⟩
           ·
            have hob : (o == (i : Int)) = false := beq_eq_false_iff_ne.2 f4
            have HFI : Hid (stkFine P.kinds ⟨o, (i : Int), vn, vu, vd⟩ = true) := by show _ = _; unfold stkFine; dsimp only; rw [← HNK.out, F1.out, F2.out, hky, decide_eq_true f4]; rfl
            have HSG' := fun W => pSign_calls ⟨vn, vu, vd⟩ m W HBS.out.2.2 (by have := HPB.out.m2; omega)
            obtain ⟨sg, hsg⟩ : ∃ x, x = sgnR (fixR ⟨vn, vu, vd⟩) := ⟨_, rfl⟩
            rw [← hsg] at HSG'
            unfold FQ.val at HSG'
            dsimp only at HSG'
            have HSG := Lib.hid HSG'
            have HSE := Lib.hid hsg
            clear HSG' hsg hky f4
            by_cases hs0 : sg ≤ 0
            ·
             have t0 : decide (sg ≤ 0) = true := decide_eq_true hs0
             obtain rfl : E = 1 := by
              have h1 := stkErr1 HFI.out (fun h => by have := sgnR_pos.2 h; rw [← HSE.out] at this; omega)
              have h2 := HDS.out.2 (by rw [h1]; decide)
              rw [HE.out, chkS HL.out HK.out (by rw [h2, h1]; decide), h2, h1]
             clear hs0
             go_wp2_with fail
             rw [← HW.out.1, ← HW.out.2]
             clear HW p0 p1 p2 p3 p4 HXwo HBwo
             clear k0 k1 k2 s0 s1 s2 s3 s4
             refine (is_calls Ak nk ck (some ⟨b, off, none⟩) ns cs At nt ct o wa GK.out).mono ?_
             rintro e w1 ⟨rfl, hb⟩
             have HXw1 := Lib.hid (HXwa.out.next hb)
             have HSw1 := Lib.hid (HSwa.out.next hb)
             have HBw1 : Hid (Below w.heap.size w w1) := HBwa.out.trans (hb.mono HBwa.out.size)
             clear hb HXwa HSwa HBwa
             rw [F1.out]
             obtain ⟨k0, k1, k2⟩ := HXw1.out.cells
             obtain ⟨s0, s1, s2, s3, s4⟩ := HSw1.out.cells
             go_wp2_with fail
             clear k0 k1 k2 s0 s1 s2 s3 s4
             refine (is_calls Ak nk ck (some ⟨b, off, none⟩) ns cs At nt ct (i : Int) w1 GK.out).mono ?_
             rintro e w2 ⟨rfl, hb⟩
             have HXw2 := Lib.hid (HXw1.out.next hb)
             have HSw2 := Lib.hid (HSw1.out.next hb)
             have HBw2 : Hid (Below w.heap.size w w2) := HBw1.out.trans (hb.mono HBw1.out.size)
             clear hb HXw1 HSw1 HBw1
             rw [F2.out]
             obtain ⟨bk, ok, hA, _, ky⟩ := rd_int (HP.out.k.next HBw2.out) HY.out
             subst hA
             obtain ⟨k0, k1, k2⟩ := HXw2.out.cells
             obtain ⟨s0, s1, s2, s3, s4⟩ := HSw2.out.cells
             go_wp2_with fail
             clear k0 k1 k2 s0 s1 s2 s3 s4
             clear ky
             refine (HSG.out _).mono ?_
             rintro e w3 ⟨rfl, hb⟩
             have HXw3 := Lib.hid (HXw2.out.next hb)
             have HSw3 := Lib.hid (HSw2.out.next hb)
             have HBw3 : Hid (Below w.heap.size w w3) := HBw2.out.trans (hb.mono HBw2.out.size)
             clear hb HXw2 HSw2 HBw2
             obtain ⟨k0, k1, k2⟩ := HXw3.out.cells
             obtain ⟨s0, s1, s2, s3, s4⟩ := HSw3.out.cells
             go_wp2_with fail
             go_ret
             exact ⟨rfl, HBw3.out⟩
            ·
             have t0 : decide (sg ≤ 0) = false := decide_eq_false hs0
             have HNX := Lib.hid (HDS.out.1 (stkErr_of HFI.out (sgnR_pos.1 (by rw [← HSE.out]; omega))))
             clear hs0
             go_wp2_with fail
             rw [← HW.out.1, ← HW.out.2]
             clear HW p0 p1 p2 p3 p4 HXwo HBwo
             clear k0 k1 k2 s0 s1 s2 s3 s4
             refine (is_calls Ak nk ck (some ⟨b, off, none⟩) ns cs At nt ct o wa GK.out).mono ?_
             rintro e w1 ⟨rfl, hb⟩
             have HXw1 := Lib.hid (HXwa.out.next hb)
             have HSw1 := Lib.hid (HSwa.out.next hb)
             have HBw1 : Hid (Below w.heap.size w w1) := HBwa.out.trans (hb.mono HBwa.out.size)
             clear hb HXwa HSwa HBwa
             rw [F1.out]
             obtain ⟨k0, k1, k2⟩ := HXw1.out.cells
             obtain ⟨s0, s1, s2, s3, s4⟩ := HSw1.out.cells
             go_wp2_with fail
             clear k0 k1 k2 s0 s1 s2 s3 s4
             refine (is_calls Ak nk ck (some ⟨b, off, none⟩) ns cs At nt ct (i : Int) w1 GK.out).mono ?_
             rintro e w2 ⟨rfl, hb⟩
             have HXw2 := Lib.hid (HXw1.out.next hb)
             have HSw2 := Lib.hid (HSw1.out.next hb)
             have HBw2 : Hid (Below w.heap.size w w2) := HBw1.out.trans (hb.mono HBw1.out.size)
             clear hb HXw1 HSw1 HBw1
             rw [F2.out]
             obtain ⟨bk, ok, hA, _, ky⟩ := rd_int (HP.out.k.next HBw2.out) HY.out
             subst hA
             obtain ⟨k0, k1, k2⟩ := HXw2.out.cells
             obtain ⟨s0, s1, s2, s3, s4⟩ := HSw2.out.cells
             go_wp2_with fail
             clear k0 k1 k2 s0 s1 s2 s3 s4
             clear ky
             refine (HSG.out _).mono ?_
             rintro e w3 ⟨rfl, hb⟩
             have HXw3 := Lib.hid (HXw2.out.next hb)
             have HSw3 := Lib.hid (HSw2.out.next hb)
             have HBw3 : Hid (Below w.heap.size w w3) := HBw2.out.trans (hb.mono HBw2.out.size)
             clear hb HXw2 HSw2 HBw2
             obtain ⟨k0, k1, k2⟩ := HXw3.out.cells
             obtain ⟨s0, s1, s2, s3, s4⟩ := HSw3.out.cells
             go_wp2_with fail
             go_roundw
             case measure => simp [intOf] <;> omega
             case rel => exact ⟨j + 1, by omega, by go_num, HNX, HXw3, HBw3⟩
          ·
           have F3 := Lib.hid f3
           have hyb : (y != 2) = true := bne_iff_ne.2 f3
           have HKY := Lib.hid hky
           clear f3 hky
           obtain rfl : E = 14 := by
            have h14 := stkErr14 (ks := P.kinds) (s := ⟨o, (i : Int), vn, vu, vd⟩) (by unfold stkFine; dsimp only; rw [← HNK.out, F1.out, F2.out, HKY.out, decide_eq_false F3.out]; rfl)
            have h2 := HDS.out.2 (by rw [h14]; decide)
            rw [HE.out, chkS HL.out HK.out (by rw [h2, h14]; decide), h2, h14]
           go_wp2_with fail
           rw [← HW.out.1, ← HW.out.2]
           clear HW p0 p1 p2 p3 p4 HXwo HBwo
           clear k0 k1 k2 s0 s1 s2 s3 s4
           refine (is_calls Ak nk ck (some ⟨b, off, none⟩) ns cs At nt ct o wa GK.out).mono ?_
           rintro e w1 ⟨rfl, hb⟩
           have HXw1 := Lib.hid (HXwa.out.next hb)
           have HSw1 := Lib.hid (HSwa.out.next hb)
           have HBw1 : Hid (Below w.heap.size w w1) := HBwa.out.trans (hb.mono HBwa.out.size)
           clear hb HXwa HSwa HBwa
           rw [F1.out]
           obtain ⟨k0, k1, k2⟩ := HXw1.out.cells
           obtain ⟨s0, s1, s2, s3, s4⟩ := HSw1.out.cells
           go_wp2_with fail
           clear k0 k1 k2 s0 s1 s2 s3 s4
           refine (is_calls Ak nk ck (some ⟨b, off, none⟩) ns cs At nt ct (i : Int) w1 GK.out).mono ?_
           rintro e w2 ⟨rfl, hb⟩
           have HXw2 := Lib.hid (HXw1.out.next hb)
           have HSw2 := Lib.hid (HSw1.out.next hb)
           have HBw2 : Hid (Below w.heap.size w w2) := HBw1.out.trans (hb.mono HBw1.out.size)
           clear hb HXw1 HSw1 HBw1
           rw [F2.out]
           obtain ⟨bk, ok, hA, _, ky⟩ := rd_int (HP.out.k.next HBw2.out) HY.out
           subst hA
           obtain ⟨k0, k1, k2⟩ := HXw2.out.cells
           obtain ⟨s0, s1, s2, s3, s4⟩ := HSw2.out.cells
           go_wp2_with fail
           go_ret
           exact ⟨rfl, HBw2.out⟩
       ·
        have HS0 : Hid (stksErr P.kinds P.stakes = 0) := by
         have := HD.out
         rw [show P.stakes.drop j = [] from List.drop_eq_nil_of_le (by rw [← HNS.out]; omega)] at this
         exact this.symm
        have hmk := make_votes nk (by omega) wo
        obtain ⟨V, hV⟩ : ∃ V, V = wo.heap.size := ⟨_, rfl⟩
        obtain ⟨wv, hwv⟩ : ∃ W, W = wo.alloc (.cells (madeCells zc3.toArray (nk * 3)) 70) := ⟨_, rfl⟩
        have HVwv : Hid (VRow V (votesTo nk (P.stakes.take 0)) wv) := by rw [hwv, hV]; exact VRow.made wo nk
        have HXwv : Hid (PBox q Ak nk ck As ns cs At nt ct wv) := by rw [hwv]; exact HXwo.out.next (bel_alloc _ _)
        have HBwv : Hid (Below w.heap.size w wv) := by rw [hwv]; exact HBwo.out.alloc HBwo.out.size _
        have hVw : w.heap.size ≤ V := by rw [hV]; exact HBwo.out.size
        have hVq : V ≠ q := by rw [hV]; intro e; have := (Array.getElem?_eq_some_iff.1 HXwo.out).1; omega
        have HW := Lib.hid (And.intro hwv hV)
        obtain ⟨k0, k1, k2⟩ := HXwo.out.cells
        have hxa := HXwv.out
        rw [hwv] at hxa
        obtain ⟨j0, j1, j2⟩ := hxa.cells
        clear hwv hV hxa HD
        go_wp2_with fail
        rw [← HW.out.1, ← HW.out.2]
        clear HW k0 k1 k2 j0 j1 j2 hmk HXwo HBwo hjl hj
        go_loopw [93] (fun i wr => ∃ k : Nat, k ≤ ns ∧ i = .int .i64 (k : Int) ∧ Hid (VRow V (votesTo nk (P.stakes.take k)) wr) ∧ Hid (PBox q Ak nk ck As ns cs At nt ct wr) ∧ Hid (Below w.heap.size w wr)) (fun i _ => ns - (intOf i).toNat)
        case atStart => exact ⟨0, Nat.zero_le _, rfl, HVwv, HXwv, HBwv⟩
        case round =>
         clear HVwv HXwv HBwv
         obtain ⟨j, hj, rfl, HVwp, HXwp, HBwp⟩ := hrel
         rename World => wp
         by_cases hjl : j < ns
         ·
          obtain ⟨s, hs⟩ := getElem?_of_lt (l := P.stakes) (k := j) (by rw [← HNS.out]; exact hjl)
          have HTK := Lib.hid (show P.stakes.take (j + 1) = P.stakes.take j ++ [s] by rw [List.take_add_one, hs]; rfl)
          have HBS := Lib.hid (HPB.out.s s (List.mem_of_getElem? hs))
          have hfine := fine_parts (stkErr_zero (stks_ok HS0.out s (List.mem_of_getElem? hs))).1
          obtain ⟨b, off, hA, _, hc⟩ := Rd.at_ (enc := stkV) (fun _ => rfl) (HP.out.s.next HBwp.out) hs
          subst hA
          have p0 := hc 0 _ rfl
          have p1 := hc 1 _ rfl
          have p2 := hc 2 _ rfl
          have p3 := hc 3 _ rfl
          have p4 := hc 4 _ rfl
          rw [Nat.add_zero] at p0
          rw [← Nat.add_assoc] at p1 p2 p3 p4
          clear hc hs
          obtain ⟨o, c, vn, vu, vd⟩ := s
          dsimp only at p0 p1 p2 p3 p4 hfine
          obtain ⟨i, hi⟩ : ∃ i : Nat, c = (i : Int) := ⟨c.toNat, by omega⟩
          subst hi
          have hil : i < nk := by rw [HNK.out]; omega
          have hil2 : (i : Int) < (nk : Int) := by omega
          clear hfine
          obtain ⟨g, hg⟩ : ∃ g, g = wp.heap.size := ⟨_, rfl⟩
          obtain ⟨wa, hwa⟩ : ∃ W, W = wp.alloc (.cells #[.int .i64 o, .int .i64 (i : Int), .bool vn, .string vu, .string vd] 72) := ⟨_, rfl⟩
          have HSwa : Hid (SBox g ⟨o, (i : Int), vn, vu, vd⟩ wa) := by rw [hwa, hg]; exact blk_new _ _
          have HXwa : Hid (PBox q Ak nk ck (some ⟨b, off, none⟩) ns cs At nt ct wa) := by rw [hwa]; exact HXwp.out.next (bel_alloc _ _)
          have HVwa : Hid (VRow V (votesTo nk (P.stakes.take j)) wa) := by rw [hwa]; exact HVwp.out.next (bel_alloc _ _)
          have HBwa : Hid (Below w.heap.size w wa) := by rw [hwa]; exact HBwp.out.alloc HBwp.out.size _
          have hVg : g ≠ V := by rw [hg]; intro e; have := (Array.getElem?_eq_some_iff.1 HVwp.out).1; omega
          have HW := Lib.hid (And.intro hwa hg)
          clear hwa hg
          go_wp2_with fail
          rw [← HW.out.1, ← HW.out.2]
          clear HW p0 p1 p2 p3 p4 HXwp HBwp HVwp
          obtain ⟨W1, hW1⟩ : ∃ W, W = wa.drew := ⟨_, rfl⟩
          have hS : (SBox g ⟨o, (i : Int), vn, vu, vd⟩) W1 := by rw [hW1]; exact HSwa.out
          have HX1 : Hid (PBox q Ak nk ck (some ⟨b, off, none⟩) ns cs At nt ct W1) := by rw [hW1]; exact HXwa.out
          have HV1 : Hid (VRow V (votesTo nk (P.stakes.take j)) W1) := by rw [hW1]; exact HVwa.out
          have HB1 : Hid (Below w.heap.size w W1) := by rw [hW1]; exact HBwa.out.drew
          refine wp_region_held_drew (S := (SBox g ⟨o, (i : Int), vn, vu, vd⟩)) (by kernel_rfl) (by rw [← hW1]; exact hS) ?_
          rw [← hW1]
          intro _
          clear hW1 HSwa HXwa HVwa HBwa
          refine wpAnyH_take (i := 0) rfl (by kernel_rfl) (by kernel_rfl) (by kernel_rfl) (fun _ _ _ h => h) (Or.inl ⟨by kernel_rfl, (by intro w' _; go_simp; with_reducible rfl)⟩) hS ?_
          go_simp
          refine wpAnyH_take (i := 1) rfl (by kernel_rfl) (by kernel_rfl) (by kernel_rfl) (fun _ _ _ h => h) (Or.inl ⟨by kernel_rfl, (by intro w' _; go_simp; with_reducible rfl)⟩) hS ?_
          go_simp
          refine wpAnyH_take (i := 2) (v := .int .i64 (i : Int)) rfl (by kernel_rfl) (by kernel_rfl) (by kernel_rfl) (fun _ _ _ h => h) (Or.inl ⟨by kernel_rfl, (by intro w' hw'; obtain ⟨s0, s1, s2, s3, s4⟩ := hw'.cells; go_simp)⟩) hS ?_
          go_simp
          refine wpAnyH_take (i := 3) rfl (by kernel_rfl) (by kernel_rfl) (by kernel_rfl) (fun _ _ _ h => h) (Or.inl ⟨by kernel_rfl, (by intro w' _; go_simp; with_reducible rfl)⟩) hS ?_
          go_simp
          refine wpAnyH_take (i := 4) rfl (by kernel_rfl) (by kernel_rfl) (by kernel_rfl) (fun _ _ _ h => h) (Or.inl ⟨by kernel_rfl, (by intro w' _; go_simp; with_reducible rfl)⟩) hS ?_
          go_simp
          refine wpAnyH_take (i := 5) (v := .int .i64 (i : Int)) rfl (by kernel_rfl) (by kernel_rfl) (by kernel_rfl) (fun _ _ _ h => h) (Or.inl ⟨by kernel_rfl, (by intro w' hw'; obtain ⟨s0, s1, s2, s3, s4⟩ := hw'.cells; go_simp)⟩) hS ?_
          go_simp
          refine wpAnyH_take (i := 6) (v := .pointer (some ⟨V, i * 3, none⟩)) rfl (by kernel_rfl) (by kernel_rfl) (by kernel_rfl) (fun _ _ _ h => h) (Or.inl ⟨by kernel_rfl, (by intro w' _; go_simp)⟩) hS ?_
          go_simp
          refine wpAnyH_take (i := 8) rfl (by kernel_rfl) (by kernel_rfl) (by kernel_rfl) (fun _ _ _ h => h) (Or.inl ⟨by kernel_rfl, (by intro w' _; go_simp; with_reducible rfl)⟩) hS ?_
          go_simp
          refine wpAnyH_take (i := 9) (v := .agg #[.bool vn, .string vu, .string vd]) rfl (by kernel_rfl) (by kernel_rfl) (by kernel_rfl) (fun _ _ _ h => h) (Or.inl ⟨by kernel_rfl, (by intro w' hw'; obtain ⟨s0, s1, s2, s3, s4⟩ := hw'.cells; go_simp)⟩) hS ?_
          go_simp
          obtain ⟨qv, hqv⟩ : ∃ x, x = vs (fun s => s.c == (i : Int)) (P.stakes.take j) := ⟨_, rfl⟩
          have hat := votesTo_at hil (P.stakes.take j)
          rw [← hqv] at hat
          have hszq := vs_sz (f := fun s => s.c == (i : Int)) (l := P.stakes.take j) (m := m) (fun s hs => HPB.out.sz s (List.mem_of_mem_take hs))
          rw [← hqv] at hszq
          have hm2 := HPB.out.m2
          have hm1 := HPB.out.m1
          have hlen : (P.stakes.take j).length ≤ 64 := by rw [List.length_take, ← HNS.out]; omega
          have hmul : (m + 1) * (P.stakes.take j).length ≤ 1001 * 64 := Nat.mul_le_mul (by omega) hlen
          have HAD' := fun W => pAddF_calls (fqOf qv) ⟨vn, vu, vd⟩ 64065 m W (sz_fits (hszq.mono (by omega))) HBS.out.2.2 (by decide) hm1 (by omega)
          rw [fixR_of] at HAD'
          obtain ⟨R, hR⟩ : ∃ R, R = qv + fixR ⟨vn, vu, vd⟩ := ⟨_, rfl⟩
          rw [← hR] at HAD'
          unfold FQ.val fqOf ratV at HAD'
          dsimp only at HAD'
          have HAD := Lib.hid HAD'
          have HNX : Hid (votesTo nk (P.stakes.take (j + 1)) = (votesTo nk (P.stakes.take j)).set i R) := by show _ = _; rw [HTK.out, votesTo_snoc hil, ← hqv, ← hR]
          have HAT := Lib.hid hat
          clear hqv hat hszq hm1 hm2 hlen hmul HAD' hR
          refine wpAnyH_ready (rs := [7]) (by kernel_rfl) (by simp) ?_
          refine AllReadyH.cons rfl (fun K hK => ?_) AllReadyH.nil
          obtain ⟨v0, v1, v2, _⟩ := HV1.out.three HAT.out
          go_simp
          clear v0 v1 v2
          refine hK.out _ _ hS (fun _ => ?_)
          clear hK K
          refine wpAnyH_ready (rs := [10]) (by kernel_rfl) (by simp) ?_
          refine AllReadyH.cons rfl (fun K hK => ?_) AllReadyH.nil
          go_simp
          refine (HAD.out _).mono ?_
          rintro e w2 ⟨rfl, hb⟩
          have hS2 := hS.next hb
          have HX2 := Lib.hid (HX1.out.next hb)
          have HV2 := Lib.hid (HV1.out.next hb)
          have HB2 : Hid (Below w.heap.size w w2) := HB1.out.trans (hb.mono HB1.out.size)
          clear hb hS HX1 HV1 HB1
          refine hK.out _ _ hS2 (fun _ => ?_)
          clear hK K
          refine wpAnyH_take (i := 11) (v := .pointer (some ⟨V, i * 3, none⟩)) rfl (by kernel_rfl) (by kernel_rfl) (by kernel_rfl) (fun _ _ _ h => h) (Or.inl ⟨by kernel_rfl, (by intro w' _; go_simp)⟩) hS2 ?_
          go_simp
          have hS3 : (SBox g ⟨o, (i : Int), vn, vu, vd⟩) (((w2.setCell ⟨V, i * 3, none⟩ (.bool (rneg R))).setCell ⟨V, i * 3 + 1, none⟩ (.string (rnum R))).setCell ⟨V, i * 3 + 2, none⟩ (.string (rden R))) := (heap_setCell_other _ ⟨V, i * 3 + 2, none⟩ g _ hVg).trans ((heap_setCell_other _ ⟨V, i * 3 + 1, none⟩ g _ hVg).trans ((heap_setCell_other _ ⟨V, i * 3, none⟩ g _ hVg).trans hS2))
          have HX3 : Hid (PBox q Ak nk ck (some ⟨b, off, none⟩) ns cs At nt ct (((w2.setCell ⟨V, i * 3, none⟩ (.bool (rneg R))).setCell ⟨V, i * 3 + 1, none⟩ (.string (rnum R))).setCell ⟨V, i * 3 + 2, none⟩ (.string (rden R)))) := (heap_setCell_other _ ⟨V, i * 3 + 2, none⟩ q _ (Ne.symm hVq)).trans ((heap_setCell_other _ ⟨V, i * 3 + 1, none⟩ q _ (Ne.symm hVq)).trans ((heap_setCell_other _ ⟨V, i * 3, none⟩ q _ (Ne.symm hVq)).trans HX2.out))
          have HV3 : Hid (VRow V (votesTo nk (P.stakes.take (j + 1))) (((w2.setCell ⟨V, i * 3, none⟩ (.bool (rneg R))).setCell ⟨V, i * 3 + 1, none⟩ (.string (rnum R))).setCell ⟨V, i * 3 + 2, none⟩ (.string (rden R)))) := by show VRow _ _ _; rw [HNX.out]; exact HV2.out.set HAT.out R
          have HB3 : Hid (Below w.heap.size w (((w2.setCell ⟨V, i * 3, none⟩ (.bool (rneg R))).setCell ⟨V, i * 3 + 1, none⟩ (.string (rnum R))).setCell ⟨V, i * 3 + 2, none⟩ (.string (rden R)))) := ((HB2.out.setCell hVw _).setCell hVw _).setCell hVw _
          refine wpAnyH_ready (rs := [12]) (by kernel_rfl) (by simp) ?_
          refine AllReadyH.cons rfl (fun K hK => ?_) AllReadyH.nil
          obtain ⟨v0, v1, v2, f0, f1, f2, hz⟩ := HV2.out.three HAT.out
          go_simp
          clear v0 v1 v2 f0 f1 f2 hz
          refine hK.out _ _ hS3 (fun _ => ?_)
          clear hK K hS2 HX2 HV2 HB2
          refine wpAnyH_done (by kernel_rfl) ?_ _
          clear hS3
          go_wp2_with fail
          go_roundw
          case measure => simp [intOf] <;> omega
          case rel => exact ⟨j + 1, by omega, by go_num, HV3, HX3, HB3⟩
         ·
          have HVS : Hid (VRow V (votesTo nk P.stakes) wp) := by
           have := HVwp.out
           rwa [List.take_of_length_le (by rw [← HNS.out]; omega)] at this
          obtain ⟨k0, k1, k2⟩ := HXwp.out.cells
          go_wp2_with fail
          clear k0 k1 k2 HVwp hjl hj
          go_loopw [112] (fun i wr => ∃ k : Nat, k ≤ nk ∧ i = .int .i64 (k : Int) ∧ Hid (∀ c : Nat, c < k → vs (fun s => s.c == (c : Int)) P.stakes ≤ 1) ∧ Hid (VRow V (votesTo nk P.stakes) wr) ∧ Hid (PBox q Ak nk ck As ns cs At nt ct wr) ∧ Hid (Below w.heap.size w wr)) (fun i _ => nk - (intOf i).toNat)
          case atStart => exact ⟨0, Nat.zero_le _, rfl, (fun c hc => absurd hc (Nat.not_lt_zero _)), HVS, HXwp, HBwp⟩
          case round =>
           clear HVS HXwp HBwp
           obtain ⟨j, hj, rfl, HOV, HVwq, HXwq, HBwq⟩ := hrel
           rename World => wq
           by_cases hjl : j < nk
           ·
            obtain ⟨qv, hqv⟩ : ∃ x, x = vs (fun s => s.c == (j : Int)) P.stakes := ⟨_, rfl⟩
            have hat := votesTo_at hjl P.stakes
            rw [← hqv] at hat
            have hszq := vs_sz (f := fun s => s.c == (j : Int)) (l := P.stakes) (m := m) (fun s hs => HPB.out.sz s hs)
            rw [← hqv] at hszq
            have hm2 := HPB.out.m2
            have hlen : P.stakes.length ≤ 64 := by rw [← HNS.out]; omega
            have hmul : (m + 1) * P.stakes.length ≤ 1001 * 64 := Nat.mul_le_mul (by omega) hlen
            have HCM' := fun W => pCompare_calls (fqOf qv) (fqOf 1) 64065 1 W (sz_fits (hszq.mono (by omega))) (sz_fits ⟨by decide, by decide⟩) (by decide) (by decide) (by decide)
            rw [fixR_of, fixR_of] at HCM'
            obtain ⟨cv, hcv⟩ : ∃ x, x = cmpR qv 1 := ⟨_, rfl⟩
            rw [← hcv] at HCM'
            unfold FQ.val at HCM'
            unfold fqOf at HCM'
            dsimp only at HCM'
            have HIN' := pInt1_calls
            unfold ratV at HIN'
            obtain ⟨v0, v1, v2, _⟩ := HVwq.out.three hat
            obtain ⟨sv, hsv⟩ : ∃ x, x = rneg qv := ⟨_, rfl⟩
            obtain ⟨nv, hnv⟩ : ∃ x, x = rnum qv := ⟨_, rfl⟩
            obtain ⟨dv, hdv⟩ : ∃ x, x = rden qv := ⟨_, rfl⟩
            rw [← hsv, ← hnv, ← hdv] at HCM'
            rw [← hsv] at v0
            rw [← hnv] at v1
            rw [← hdv] at v2
            obtain ⟨s1, hs1⟩ : ∃ x, x = rneg 1 := ⟨_, rfl⟩
            obtain ⟨n1, hn1⟩ : ∃ x, x = rnum 1 := ⟨_, rfl⟩
            obtain ⟨e1, he1⟩ : ∃ x, x = rden 1 := ⟨_, rfl⟩
            rw [← hs1, ← hn1, ← he1] at HCM' HIN'
            have HCM := Lib.hid HCM'
            have HIN := Lib.hid HIN'
            have HQV := Lib.hid (And.intro hqv hcv)
            clear HCM' HIN' hs1 hn1 he1 hsv hnv hdv hat hszq hm2 hlen hmul hqv hcv
            obtain ⟨g, hg⟩ : ∃ g, g = wq.heap.size := ⟨_, rfl⟩
            obtain ⟨wa, hwa⟩ : ∃ W, W = wq.alloc (.cells #[.bool sv, .string nv, .string dv] 70) := ⟨_, rfl⟩
            have HQwa : Hid (Q3 g sv nv dv wa) := by rw [hwa, hg]; exact blk_new _ _
            have HXwa : Hid (PBox q Ak nk ck As ns cs At nt ct wa) := by rw [hwa]; exact HXwq.out.next (bel_alloc _ _)
            have HVwa : Hid (VRow V (votesTo nk P.stakes) wa) := by rw [hwa]; exact HVwq.out.next (bel_alloc _ _)
            have HBwa : Hid (Below w.heap.size w wa) := by rw [hwa]; exact HBwq.out.alloc HBwq.out.size _
            have HW := Lib.hid (And.intro hwa hg)
            clear hwa hg
            have hjl2 : (j : Int) < (nk : Int) := by omega
            go_wp2_with fail
            rw [← HW.out.1, ← HW.out.2]
            clear HW v0 v1 v2 HXwq HBwq HVwq
            obtain ⟨W1, hW1⟩ : ∃ W, W = wa.drew := ⟨_, rfl⟩
            have hS : (Q3 g sv nv dv) W1 := by rw [hW1]; exact HQwa.out
            have HX1 : Hid (PBox q Ak nk ck As ns cs At nt ct W1) := by rw [hW1]; exact HXwa.out
            have HV1 : Hid (VRow V (votesTo nk P.stakes) W1) := by rw [hW1]; exact HVwa.out
            have HB1 : Hid (Below w.heap.size w W1) := by rw [hW1]; exact HBwa.out.drew
            refine wp_region_held_drew (S := (Q3 g sv nv dv)) (by kernel_rfl) (by rw [← hW1]; exact hS) ?_
            rw [← hW1]
            intro _
            clear hW1 HQwa HXwa HVwa HBwa
            refine wpAnyH_take (i := 0) (v := .agg #[.bool sv, .string nv, .string dv]) rfl (by kernel_rfl) (by kernel_rfl) (by kernel_rfl) (fun _ _ _ h => h) (Or.inl ⟨by kernel_rfl, (by intro w' hw'; obtain ⟨q0, q1, q2⟩ := hw'.cells; go_simp)⟩) hS ?_
            go_simp
            refine wpAnyH_ready (rs := [1]) (by kernel_rfl) (by simp) ?_
            refine AllReadyH.cons rfl (fun K hK => ?_) AllReadyH.nil
            go_simp
            refine (HIN.out _).mono ?_
            rintro e W2 ⟨rfl, hb⟩
            have hS2 := hS.next hb
            have HX2 := Lib.hid (HX1.out.next hb)
            have HV2 := Lib.hid (HV1.out.next hb)
            have HB2 : Hid (Below w.heap.size w W2) := HB1.out.trans (hb.mono HB1.out.size)
            clear hb hS HX1 HV1 HB1
            refine hK.out _ _ hS2 (fun _ => ?_)
            clear hK K
            refine wpAnyH_ready (rs := [2]) (by kernel_rfl) (by simp) ?_
            refine AllReadyH.cons rfl (fun K hK => ?_) AllReadyH.nil
            go_simp
            refine (HCM.out _).mono ?_
            rintro e W3 ⟨rfl, hb⟩
            have hS3 := hS2.next hb
            have HX3 := Lib.hid (HX2.out.next hb)
            have HV3 := Lib.hid (HV2.out.next hb)
            have HB3 : Hid (Below w.heap.size w W3) := HB2.out.trans (hb.mono HB2.out.size)
            clear hb hS2 HX2 HV2 HB2
            refine hK.out _ _ hS3 (fun _ => ?_)
            clear hK K
            by_cases hc0 : 0 < cv
            ·
             have t0 : decide (0 < cv) = true := decide_eq_true hc0
             obtain rfl : E = 6 := by
              have h1 : 1 < qv := cmpR_pos.1 (by rw [← HQV.out.2]; exact hc0)
              rw [HQV.out.1] at h1
              rw [HE.out]; exact chk6 HL.out HK.out HS0.out (over_one (by rw [← HNK.out]; exact hjl) h1)
             clear hc0
             refine wpAnyH_take (i := 3) (v := .bool true) rfl (by kernel_rfl) (by kernel_rfl) (by kernel_rfl) (fun _ _ _ h => h) (Or.inl ⟨by kernel_rfl, (by intro w' _; go_simp)⟩) hS3 ?_
             go_simp
             refine wpAnyH_done (by kernel_rfl) ?_ _
             go_wp2_with fail
             go_ret
             exact ⟨rfl, HB3.out⟩
            ·
             have t0 : decide (0 < cv) = false := decide_eq_false hc0
             have HNX : Hid (∀ c : Nat, c < j + 1 → vs (fun s => s.c == (c : Int)) P.stakes ≤ 1) := fun c hc => by
              by_cases e : c = j
              ·
               subst e
               rw [← HQV.out.1]
               exact Rat.not_lt.1 (fun h => hc0 (by rw [HQV.out.2]; exact cmpR_pos.2 h))
              ·
               exact HOV.out c (by omega)
             clear hc0 HOV
             refine wpAnyH_take (i := 3) (v := .bool false) rfl (by kernel_rfl) (by kernel_rfl) (by kernel_rfl) (fun _ _ _ h => h) (Or.inl ⟨by kernel_rfl, (by intro w' _; go_simp)⟩) hS3 ?_
             go_simp
             refine wpAnyH_done (by kernel_rfl) ?_ _
             clear hS3
             go_wp2_with fail
             go_roundw
             case measure => simp [intOf] <;> omega
             case rel => exact ⟨j + 1, by omega, by go_num, HNX, HV3, HX3, HB3⟩
           ·
            have HOF : Hid (overs P.kinds.length P.stakes = false) := overs_false.2 (fun c hc => HOV.out c (by rw [← HNK.out] at hc; omega))
            have HEE : Hid (E = if P.ties.all (tieFine P.kinds.length) = true then 0 else 14) := HE.out.trans (chkT HL.out HK.out HS0.out HOF.out)
            obtain ⟨k0, k1, k2⟩ := HXwq.out.cells
            go_wp2_with fail
            clear k0 k1 k2 HVwq hjl hj HOV
            go_loopw [124] (fun i wr => ∃ k : Nat, k ≤ nt ∧ i = .int .i64 (k : Int) ∧ Hid ((P.ties.take k).all (tieFine P.kinds.length) = true) ∧ Hid (PBox q Ak nk ck As ns cs At nt ct wr) ∧ Hid (Below w.heap.size w wr)) (fun i _ => nt - (intOf i).toNat)
            case atStart => exact ⟨0, Nat.zero_le _, rfl, rfl, HXwq, HBwq⟩
            case round =>
             clear HXwq HBwq
             obtain ⟨j, hj, rfl, HTT, HXwr, HBwr⟩ := hrel
             rename World => wr
             by_cases hjl : j < nt
             ·
              obtain ⟨t, ht⟩ := getElem?_of_lt (l := P.ties) (k := j) (by rw [← HNT.out]; exact hjl)
              have HMT := Lib.hid (And.intro (List.mem_of_getElem? ht) ht)
              obtain ⟨b, off, hA, _, hc⟩ := Rd.at_ (enc := tieV) (fun _ => rfl) (HP.out.t.next HBwr.out) ht
              subst hA
              have p0 := hc 0 _ rfl
              have p1 := hc 1 _ rfl
              rw [Nat.add_zero] at p0
              rw [← Nat.add_assoc] at p1
              clear hc ht
              obtain ⟨x, y⟩ := t
              dsimp only at p0 p1
              obtain ⟨g, hg⟩ : ∃ g, g = wr.heap.size := ⟨_, rfl⟩
              obtain ⟨wa, hwa⟩ : ∃ W, W = wr.alloc (.cells #[.int .i64 x, .int .i64 y] 87) := ⟨_, rfl⟩
              have HSwa : Hid (TBox g x y wa) := by rw [hwa, hg]; exact blk_new _ _
              have HXwa : Hid (PBox q Ak nk ck As ns cs (some ⟨b, off, none⟩) nt ct wa) := by rw [hwa]; exact HXwr.out.next (bel_alloc _ _)
              have HBwa : Hid (Below w.heap.size w wa) := by rw [hwa]; exact HBwr.out.alloc HBwr.out.size _
              have HW := Lib.hid (And.intro hwa hg)
              have hxa := HXwa.out
              have hsa := HSwa.out
              rw [hwa] at hxa hsa
              rw [hg] at hsa
              obtain ⟨k0, k1, k2⟩ := hxa.cells
              obtain ⟨s0, s1⟩ := hsa.cells
              clear hwa hg hxa hsa
              rcases f1 : inN nk x with _ | _
              ·
               have F1 := Lib.hid f1
               clear f1
               obtain rfl : E = 14 := by rw [HEE.out]; exact tie_bad HMT.out.1 (by unfold tieFine; dsimp only; rw [← HNK.out, F1.out]; rfl)
               go_wp2_with fail
               rw [← HW.out.1, ← HW.out.2]
               clear HW p0 p1 HXwr HBwr
               clear k0 k1 k2 s0 s1
               refine (is_calls Ak nk ck As ns cs (some ⟨b, off, none⟩) nt ct x wa GK.out).mono ?_
               rintro e w1 ⟨rfl, hb⟩
               have HXw1 := Lib.hid (HXwa.out.next hb)
               have HSw1 := Lib.hid (HSwa.out.next hb)
               have HBw1 : Hid (Below w.heap.size w w1) := HBwa.out.trans (hb.mono HBwa.out.size)
               clear hb HXwa HSwa HBwa
               rw [F1.out]
               obtain ⟨k0, k1, k2⟩ := HXw1.out.cells
               obtain ⟨s0, s1⟩ := HSw1.out.cells
               go_wp2_with fail
               go_ret
               exact ⟨rfl, HBw1.out⟩
              ·
               have F1 := Lib.hid f1
               clear f1
               rcases f2 : inN nk y with _ | _
               ·
                have F2 := Lib.hid f2
                clear f2
                obtain rfl : E = 14 := by rw [HEE.out]; exact tie_bad HMT.out.1 (by unfold tieFine; dsimp only; rw [← HNK.out, F1.out, F2.out]; rfl)
                go_wp2_with fail
                rw [← HW.out.1, ← HW.out.2]
                clear HW p0 p1 HXwr HBwr
                clear k0 k1 k2 s0 s1
                refine (is_calls Ak nk ck As ns cs (some ⟨b, off, none⟩) nt ct x wa GK.out).mono ?_
                rintro e w1 ⟨rfl, hb⟩
                have HXw1 := Lib.hid (HXwa.out.next hb)
                have HSw1 := Lib.hid (HSwa.out.next hb)
                have HBw1 : Hid (Below w.heap.size w w1) := HBwa.out.trans (hb.mono HBwa.out.size)
                clear hb HXwa HSwa HBwa
                rw [F1.out]
                obtain ⟨k0, k1, k2⟩ := HXw1.out.cells
                obtain ⟨s0, s1⟩ := HSw1.out.cells
                go_wp2_with fail
                clear k0 k1 k2 s0 s1
                refine (is_calls Ak nk ck As ns cs (some ⟨b, off, none⟩) nt ct y w1 GK.out).mono ?_
                rintro e w2 ⟨rfl, hb⟩
                have HXw2 := Lib.hid (HXw1.out.next hb)
                have HSw2 := Lib.hid (HSw1.out.next hb)
                have HBw2 : Hid (Below w.heap.size w w2) := HBw1.out.trans (hb.mono HBw1.out.size)
                clear hb HXw1 HSw1 HBw1
                rw [F2.out]
                obtain ⟨k0, k1, k2⟩ := HXw2.out.cells
                obtain ⟨s0, s1⟩ := HSw2.out.cells
                go_wp2_with fail
                go_ret
                exact ⟨rfl, HBw2.out⟩
               ·
                have F2 := Lib.hid f2
                clear f2
                by_cases f4 : x = y
                ·
                 have F4 := Lib.hid f4
                 obtain rfl : E = 14 := by rw [HEE.out]; exact tie_bad HMT.out.1 (by unfold tieFine; dsimp only; rw [← HNK.out, F1.out, F2.out, decide_eq_false (show ¬ x ≠ y from fun h => h F4.out)]; rfl)
                 have hoe : (x == y) = true := beq_iff_eq.2 f4
                 clear f4
                 go_wp2_with fail
                 rw [← HW.out.1, ← HW.out.2]
                 clear HW p0 p1 HXwr HBwr
                 clear k0 k1 k2 s0 s1
                 refine (is_calls Ak nk ck As ns cs (some ⟨b, off, none⟩) nt ct x wa GK.out).mono ?_
                 rintro e w1 ⟨rfl, hb⟩
                 have HXw1 := Lib.hid (HXwa.out.next hb)
                 have HSw1 := Lib.hid (HSwa.out.next hb)
                 have HBw1 : Hid (Below w.heap.size w w1) := HBwa.out.trans (hb.mono HBwa.out.size)
                 clear hb HXwa HSwa HBwa
                 rw [F1.out]
                 obtain ⟨k0, k1, k2⟩ := HXw1.out.cells
                 obtain ⟨s0, s1⟩ := HSw1.out.cells
                 go_wp2_with fail
                 clear k0 k1 k2 s0 s1
                 refine (is_calls Ak nk ck As ns cs (some ⟨b, off, none⟩) nt ct y w1 GK.out).mono ?_
                 rintro e w2 ⟨rfl, hb⟩
                 have HXw2 := Lib.hid (HXw1.out.next hb)
                 have HSw2 := Lib.hid (HSw1.out.next hb)
                 have HBw2 : Hid (Below w.heap.size w w2) := HBw1.out.trans (hb.mono HBw1.out.size)
                 clear hb HXw1 HSw1 HBw1
                 rw [F2.out]
                 obtain ⟨k0, k1, k2⟩ := HXw2.out.cells
                 obtain ⟨s0, s1⟩ := HSw2.out.cells
                 go_wp2_with fail
                 go_ret
                 exact ⟨rfl, HBw2.out⟩
                ·
                 have hob : (x == y) = false := beq_eq_false_iff_ne.2 f4
                 have HNX : Hid ((P.ties.take (j + 1)).all (tieFine P.kinds.length) = true) := all_take HTT.out HMT.out.2 (by unfold tieFine; dsimp only; rw [← HNK.out, F1.out, F2.out, decide_eq_true f4]; rfl)
                 clear f4 HTT HMT
                 go_wp2_with fail
                 rw [← HW.out.1, ← HW.out.2]
                 clear HW p0 p1 HXwr HBwr
                 clear k0 k1 k2 s0 s1
                 refine (is_calls Ak nk ck As ns cs (some ⟨b, off, none⟩) nt ct x wa GK.out).mono ?_
                 rintro e w1 ⟨rfl, hb⟩
                 have HXw1 := Lib.hid (HXwa.out.next hb)
                 have HSw1 := Lib.hid (HSwa.out.next hb)
                 have HBw1 : Hid (Below w.heap.size w w1) := HBwa.out.trans (hb.mono HBwa.out.size)
                 clear hb HXwa HSwa HBwa
                 rw [F1.out]
                 obtain ⟨k0, k1, k2⟩ := HXw1.out.cells
                 obtain ⟨s0, s1⟩ := HSw1.out.cells
                 go_wp2_with fail
                 clear k0 k1 k2 s0 s1
                 refine (is_calls Ak nk ck As ns cs (some ⟨b, off, none⟩) nt ct y w1 GK.out).mono ?_
                 rintro e w2 ⟨rfl, hb⟩
                 have HXw2 := Lib.hid (HXw1.out.next hb)
                 have HSw2 := Lib.hid (HSw1.out.next hb)
                 have HBw2 : Hid (Below w.heap.size w w2) := HBw1.out.trans (hb.mono HBw1.out.size)
                 clear hb HXw1 HSw1 HBw1
                 rw [F2.out]
                 obtain ⟨k0, k1, k2⟩ := HXw2.out.cells
                 obtain ⟨s0, s1⟩ := HSw2.out.cells
                 go_wp2_with fail
                 go_roundw
                 case measure => simp [intOf] <;> omega
                 case rel => exact ⟨j + 1, by omega, by go_num, HNX, HXw2, HBw2⟩
             ·
              obtain rfl : E = 0 := by
               have := HTT.out
               rw [List.take_of_length_le (by rw [← HNT.out]; omega)] at this
               rw [HEE.out]; exact if_pos this
              go_wp2_with fail
              go_ret
              exact ⟨rfl, HBwr.out⟩

end Go.Proofs.YtomfcmlomfcghaaGreatDoor

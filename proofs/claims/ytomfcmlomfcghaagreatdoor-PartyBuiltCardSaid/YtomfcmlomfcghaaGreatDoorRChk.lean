/- insolvencyref1.CheckParties. -/
import Derived.Test.YtomfcmlomfcghaaGreatDoorPtyG
import Derived.Test.YtomfcmlomfcghaaGreatDoorPChk
import Derived.Deep.RegionHeld3
set_option linter.unusedVariables false
set_option linter.unusedSimpArgs false
namespace Go.Proofs.YtomfcmlomfcghaaGreatDoor
open Go.RowKit

set_option maxHeartbeats 8000000 in
set_option maxRecDepth 100000 in
theorem rchk_calls (Ak : Option Addr) (nk ck : Nat) (As : Option Addr) (ns cs : Nat) (At : Option Addr) (nt ct : Nat) (P : Prt) (m : Nat) (w : World) (hp : PRd Ak nk As ns At nt P w) (hb : PB m P) :
    Calls Tryz.prog 41 #[ptyVal Ak nk ck As ns cs At nt ct] w fun e w' => e = .returned (.int .i64 (chk P)) ∧ Below w.heap.size w w' := by
  have HP := Lib.hid hp
  have HPB := Lib.hid hb
  have HNK := Lib.hid hp.nk
  have HNS := Lib.hid hp.ns
  have HNT := Lib.hid hp.nt
  have gk : nk ≤ maxLen := by rw [hp.nk]; exact hb.kl
  have gs : ns ≤ maxLen := by rw [hp.ns]; exact hb.sl
  have gt : nt ≤ maxLen := by rw [hp.nt]; exact hb.tl
  have GK := Lib.hid gk
  unfold maxLen at gk gs gt
  clear hp hb
  obtain ⟨E, hE⟩ : ∃ E, E = chk P := ⟨_, rfl⟩
  rw [← hE]
  have HE := Lib.hid hE
  clear hE
  obtain ⟨w0, hw0⟩ : ∃ W, W = w.alloc (.cells #[.slice Ak nk ck, .slice As ns cs, .slice At nt ct] 26) := ⟨_, rfl⟩
  obtain ⟨q, hq⟩ : ∃ q, q = w.heap.size := ⟨_, rfl⟩
  have HB0 : Hid (Below w.heap.size w w0) := by rw [hw0]; exact bel_alloc _ _
  have HX0 : Hid (PBox q Ak nk ck As ns cs At nt ct w0) := by rw [hw0, hq]; exact blk_new _ _
  by_cases l0 : 32 < nk
  · have d0 : decide ((32 : Int) < (nk : Int)) = true := decide_eq_true (by omega)
    obtain rfl : E = 2 := by rw [HE.out]; exact chk2 (by rw [← HNK.out, ← HNS.out, ← HNT.out]; omega)
    go_enter Tryz.func41, Tryz.ntmps41
    go_upto_region 1 with fail
    rw [← hw0, ← hq]
    have HQ := Lib.hid hq
    clear hw0 hq
    obtain ⟨k0, k1, k2⟩ := HX0.out.cells
    go_wp2_with fail
    go_ret
    exact ⟨rfl, HB0.out⟩
  · have d0 : decide ((32 : Int) < (nk : Int)) = false := decide_eq_false (by omega)
    by_cases l1 : 64 < ns
    · have d1 : decide ((64 : Int) < (ns : Int)) = true := decide_eq_true (by omega)
      obtain rfl : E = 2 := by rw [HE.out]; exact chk2 (by rw [← HNK.out, ← HNS.out, ← HNT.out]; omega)
      go_enter Tryz.func41, Tryz.ntmps41
      go_upto_region 1 with fail
      rw [← hw0, ← hq]
      have HQ := Lib.hid hq
      clear hw0 hq
      obtain ⟨k0, k1, k2⟩ := HX0.out.cells
      go_wp2_with fail
      go_ret
      exact ⟨rfl, HB0.out⟩
    · have d1 : decide ((64 : Int) < (ns : Int)) = false := decide_eq_false (by omega)
      by_cases l2 : 64 < nt
      · have d2 : decide ((64 : Int) < (nt : Int)) = true := decide_eq_true (by omega)
        obtain rfl : E = 2 := by rw [HE.out]; exact chk2 (by rw [← HNK.out, ← HNS.out, ← HNT.out]; omega)
        go_enter Tryz.func41, Tryz.ntmps41
        go_upto_region 1 with fail
        rw [← hw0, ← hq]
        have HQ := Lib.hid hq
        clear hw0 hq
        obtain ⟨k0, k1, k2⟩ := HX0.out.cells
        go_wp2_with fail
        go_ret
        exact ⟨rfl, HB0.out⟩
      · have d2 : decide ((64 : Int) < (nt : Int)) = false := decide_eq_false (by omega)
        have HL : Hid (¬ (32 < P.kinds.length ∨ 64 < P.stakes.length ∨ 64 < P.ties.length)) := by show ¬ _; rw [← HNK.out, ← HNS.out, ← HNT.out]; omega
        go_enter Tryz.func41, Tryz.ntmps41
        go_upto_region 1 with fail
        rw [← hw0, ← hq]
        have HQ := Lib.hid hq
        clear hw0 hq
        obtain ⟨k0, k1, k2⟩ := HX0.out.cells
        go_wp2_with fail
        clear d0 d1 d2
        go_loop [4] (fun i => ∃ k : Nat, k ≤ nk ∧ i = .int .i64 (k : Int) ∧ Hid ((P.kinds.take k).any kindBad = false)) (fun i => nk - (intOf i).toNat)
        case atStart => exact ⟨0, Nat.zero_le _, rfl, rfl⟩
        case round =>
          obtain ⟨k, hk, rfl, HT⟩ := hrel
          by_cases hlt : k < nk
          · have hlt2 : (k : Int) < (nk : Int) := by omega
            obtain ⟨x, hx⟩ := getElem?_of_lt (l := P.kinds) (k := k) (by rw [← HNK.out]; exact hlt)
            obtain ⟨b, off, hA, _, c1⟩ := rd_int (HP.out.k.next HB0.out) hx
            subst hA
            have HXX := Lib.hid hx
            clear hx
            by_cases h1 : x = 1
            · subst h1
              have HNX : Hid ((P.kinds.take (k + 1)).any kindBad = false) := any_take HT.out HXX.out (by decide)
              clear HT HXX
              go_wp2_with fail
              go_round
              case measure => simp [intOf] <;> omega
              case rel => exact ⟨k + 1, by omega, by go_num, HNX⟩
            · by_cases h2 : x = 2
              · subst h2
                have HNX : Hid ((P.kinds.take (k + 1)).any kindBad = false) := any_take HT.out HXX.out (by decide)
                clear HT HXX
                go_wp2_with fail
                go_round
                case measure => simp [intOf] <;> omega
                case rel => exact ⟨k + 1, by omega, by go_num, HNX⟩
              · have x1 : (x != 1) = true := bne_iff_ne.2 h1
                have x2 : (x != 2) = true := bne_iff_ne.2 h2
                obtain rfl : E = 1 := by rw [HE.out]; exact chk1 HL.out (List.any_eq_true.2 ⟨x, List.mem_of_getElem? HXX.out, by unfold kindBad; rw [decide_eq_true h1, decide_eq_true h2]; rfl⟩)
                clear HT HXX
                go_wp2_with fail
                go_ret
                exact ⟨rfl, HB0.out⟩
          · have HK : Hid (P.kinds.any kindBad = false) := by
              have := HT.out
              rwa [List.take_of_length_le (by rw [← HNK.out]; omega)] at this
            clear HT
            go_wp2_with fail
            clear k0 k1 k2
            go_loopw [5] (fun i wr => ∃ k : Nat, k ≤ ns ∧ i = .int .i64 (k : Int) ∧ Hid (stksErr P.kinds (P.stakes.drop k) = stksErr P.kinds P.stakes) ∧ Hid (PBox q Ak nk ck As ns cs At nt ct wr) ∧ Hid (Below w.heap.size w wr)) (fun i _ => ns - (intOf i).toNat)
            case atStart => exact ⟨0, Nat.zero_le _, rfl, rfl, HX0, HB0⟩
            case round =>
              clear HX0 HB0
              obtain ⟨j, hj, rfl, HD, HXwo, HBwo⟩ := hrel
              rename World => wo
              obtain ⟨j0, j1, j2⟩ := HXwo.out.cells
              by_cases hjl : j < ns
              · have hjl2 : (j : Int) < (ns : Int) := by omega
                obtain ⟨s, hs⟩ := getElem?_of_lt (l := P.stakes) (k := j) (by rw [← HNS.out]; exact hjl)
                have HDS := Lib.hid (stks_drop HD.out hs)
                have HBS := Lib.hid (HPB.out.s s (List.mem_of_getElem? hs))
                obtain ⟨b, off, hA, _, hc⟩ := Rd.at_ (enc := stkV) (fun _ => rfl) (HP.out.s.next HBwo.out) hs
                subst hA
                have p0 := hc 0 _ rfl
                have p1 := hc 1 _ rfl
                have p2 := hc 2 _ rfl
                have p3 := hc 3 _ rfl
                have p4 := hc 4 _ rfl
                rw [Nat.add_zero] at p0
                rw [← Nat.add_assoc] at p1 p2 p3 p4
                clear hc hs
                obtain ⟨o, c, vn, vu, vd⟩ := s
                dsimp only at p0 p1 p2 p3 p4
                obtain ⟨g, hg⟩ : ∃ g, g = wo.heap.size := ⟨_, rfl⟩
                obtain ⟨wa, hwa⟩ : ∃ W, W = wo.alloc (.cells #[.int .i64 o, .int .i64 c, .bool vn, .string vu, .string vd] 72) := ⟨_, rfl⟩
                have HSwa : Hid (SBox g ⟨o, c, vn, vu, vd⟩ wa) := by rw [hwa, hg]; exact blk_new _ _
                have HXwa : Hid (PBox q Ak nk ck (some ⟨b, off, none⟩) ns cs At nt ct wa) := by rw [hwa]; exact HXwo.out.next (bel_alloc _ _)
                have HBwa : Hid (Below w.heap.size w wa) := by rw [hwa]; exact HBwo.out.alloc HBwo.out.size _
                have HW := Lib.hid (And.intro hwa hg)
                have hxa := HXwa.out
                have hsa := HSwa.out
                rw [hwa] at hxa hsa
                rw [hg] at hsa
                obtain ⟨k0, k1, k2⟩ := hxa.cells
                obtain ⟨s0, s1, s2, s3, s4⟩ := hsa.cells
                have hba := HBwa.out
                rw [hwa] at hba
                clear hwa hg HD hxa hsa
                rcases f1 : inN nk o with _ | _
                · have F1 := Lib.hid f1
                  clear f1
                  obtain rfl : E = 14 := by
                    have h14 := stkErr14 (ks := P.kinds) (s := ⟨o, c, vn, vu, vd⟩) (by unfold stkFine; dsimp only; rw [← HNK.out, F1.out]; rfl)
                    have h2 := HDS.out.2 (by rw [h14]; decide)
                    rw [HE.out, chkS HL.out HK.out (by rw [h2, h14]; decide), h2, h14]
                  by_cases g1 : o < 0
                  · have d1 : decide (o < 0) = true := decide_eq_true g1
                    have HBA := Lib.hid hba
                    clear hba
                    go_wp2_with fail
                    go_ret
                    exact ⟨rfl, HBA.out⟩
                  · have d1 : decide (o < 0) = false := decide_eq_false g1
                    have d2 : decide ((nk : Int) ≤ o) = true := decide_eq_true (by have := mt inN_iff.2 (by rw [F1.out]; decide); omega)
                    clear g1
                    have HBA := Lib.hid hba
                    clear hba
                    go_wp2_with fail
                    go_ret
                    exact ⟨rfl, HBA.out⟩
                · have ho := inN_true f1
                  have d1 : decide (o < 0) = false := decide_eq_false (by omega)
                  have d2 : decide ((nk : Int) ≤ o) = false := decide_eq_false (by omega)
                  have F1 := Lib.hid f1
                  clear f1 ho
                  rcases f2 : inN nk c with _ | _
                  · have F2 := Lib.hid f2
                    clear f2
                    obtain rfl : E = 14 := by
                      have h14 := stkErr14 (ks := P.kinds) (s := ⟨o, c, vn, vu, vd⟩) (by unfold stkFine; dsimp only; rw [← HNK.out, F1.out, F2.out]; rfl)
                      have h2 := HDS.out.2 (by rw [h14]; decide)
                      rw [HE.out, chkS HL.out HK.out (by rw [h2, h14]; decide), h2, h14]
                    by_cases g1 : c < 0
                    · have d3 : decide (c < 0) = true := decide_eq_true g1
                      have HBA := Lib.hid hba
                      clear hba
                      go_wp2_with fail
                      go_ret
                      exact ⟨rfl, HBA.out⟩
                    · have d3 : decide (c < 0) = false := decide_eq_false g1
                      have d4 : decide ((nk : Int) ≤ c) = true := decide_eq_true (by have := mt inN_iff.2 (by rw [F2.out]; decide); omega)
                      clear g1
                      have HBA := Lib.hid hba
                      clear hba
                      go_wp2_with fail
                      go_ret
                      exact ⟨rfl, HBA.out⟩
                  · have hc := inN_true f2
                    obtain ⟨i, hi⟩ : ∃ i : Nat, c = (i : Int) := ⟨c.toNat, by omega⟩
                    subst hi
                    have d3 : decide ((i : Int) < 0) = false := decide_eq_false (by omega)
                    have d4 : decide ((nk : Int) ≤ (i : Int)) = false := decide_eq_false (by omega)
                    have hil : i < nk := by omega
                    have hil2 : (i : Int) < (nk : Int) := by omega
                    have F2 := Lib.hid f2
                    clear f2 hc
                    obtain ⟨y, hy⟩ := getElem?_of_lt (l := P.kinds) (k := i) (by rw [← HNK.out]; exact hil)
                    have hky : kindAt P.kinds (i : Int) = y := by unfold kindAt; rw [Int.toNat_natCast, List.getD, hy]; rfl
                    obtain ⟨bk, ok, hA, _, ky⟩ := rd_int (HP.out.k.next hba) hy
                    subst hA
                    clear hy
                    have HBA := Lib.hid hba
                    clear hba
                    by_cases f3 : y = 2
                    · subst f3
                      by_cases f4 : o = (i : Int)
                      · have F4 := Lib.hid f4
                        have HKY := Lib.hid hky
                        clear hky
                        obtain rfl : E = 14 := by
                          have h14 := stkErr14 (ks := P.kinds) (s := ⟨o, (i : Int), vn, vu, vd⟩) (by unfold stkFine; dsimp only; rw [← HNK.out, F1.out, F2.out, HKY.out, decide_eq_false (show ¬ o ≠ (i : Int) from fun h => h F4.out)]; rfl)
                          have h2 := HDS.out.2 (by rw [h14]; decide)
                          rw [HE.out, chkS HL.out HK.out (by rw [h2, h14]; decide), h2, h14]
                        have hoe : (o == (i : Int)) = true := beq_iff_eq.2 f4
                        clear f4
                        go_wp2_with fail
                        go_ret
                        exact ⟨rfl, HBA.out⟩
                      · have hob : (o == (i : Int)) = false := beq_eq_false_iff_ne.2 f4
                        have HFI : Hid (stkFine P.kinds ⟨o, (i : Int), vn, vu, vd⟩ = true) := by show _ = _; unfold stkFine; dsimp only; rw [← HNK.out, F1.out, F2.out, hky, decide_eq_true f4]; rfl
                        have HSG' := fun W => refSign_calls ⟨vn, vu, vd⟩ m W HBS.out.2.2 (by have := HPB.out.m2; omega)
                        obtain ⟨sg, hsg⟩ : ∃ x, x = sgnR (fixR ⟨vn, vu, vd⟩) := ⟨_, rfl⟩
                        rw [← hsg] at HSG'
                        unfold FQ.val at HSG'
                        dsimp only at HSG'
                        have HSG := Lib.hid HSG'
                        have HSE := Lib.hid hsg
                        clear HSG' hsg hky f4
                        by_cases hs0 : sg ≤ 0
                        · have t0 : decide (sg ≤ 0) = true := decide_eq_true hs0
                          obtain rfl : E = 1 := by
                            have h1 := stkErr1 HFI.out (fun h => by have := sgnR_pos.2 h; rw [← HSE.out] at this; omega)
                            have h2 := HDS.out.2 (by rw [h1]; decide)
                            rw [HE.out, chkS HL.out HK.out (by rw [h2, h1]; decide), h2, h1]
                          clear hs0
                          go_wp2_with fail
                          rw [← HW.out.1]
                          clear HW p0 p1 p2 p3 p4 k0 k1 k2 s0 s1 s2 s3 s4 j0 j1 j2 ky HXwo HBwo HBA
                          refine (HSG.out _).mono ?_
                          rintro e w3 ⟨rfl, hb⟩
                          have HXw3 := Lib.hid (HXwa.out.next hb)
                          have HBw3 : Hid (Below w.heap.size w w3) := HBwa.out.trans (hb.mono HBwa.out.size)
                          clear hb HXwa HSwa HBwa
                          go_wp2_with fail
                          go_ret
                          exact ⟨rfl, HBw3.out⟩
                        · have t0 : decide (sg ≤ 0) = false := decide_eq_false hs0
                          have HNX := Lib.hid (HDS.out.1 (stkErr_of HFI.out (sgnR_pos.1 (by rw [← HSE.out]; omega))))
                          clear hs0
                          go_wp2_with fail
                          rw [← HW.out.1]
                          clear HW p0 p1 p2 p3 p4 k0 k1 k2 s0 s1 s2 s3 s4 j0 j1 j2 ky HXwo HBwo HBA
                          refine (HSG.out _).mono ?_
                          rintro e w3 ⟨rfl, hb⟩
                          have HXw3 := Lib.hid (HXwa.out.next hb)
                          have HBw3 : Hid (Below w.heap.size w w3) := HBwa.out.trans (hb.mono HBwa.out.size)
                          clear hb HXwa HSwa HBwa
                          go_wp2_with fail
                          go_roundw
                          case measure => simp [intOf] <;> omega
                          case rel => exact ⟨j + 1, by omega, by go_num, HNX, HXw3, HBw3⟩
                    · have F3 := Lib.hid f3
                      have hyb : (y != 2) = true := bne_iff_ne.2 f3
                      have HKY := Lib.hid hky
                      clear f3 hky
                      obtain rfl : E = 14 := by
                        have h14 := stkErr14 (ks := P.kinds) (s := ⟨o, (i : Int), vn, vu, vd⟩) (by unfold stkFine; dsimp only; rw [← HNK.out, F1.out, F2.out, HKY.out, decide_eq_false F3.out]; rfl)
                        have h2 := HDS.out.2 (by rw [h14]; decide)
                        rw [HE.out, chkS HL.out HK.out (by rw [h2, h14]; decide), h2, h14]
                      go_wp2_with fail
                      go_ret
                      exact ⟨rfl, HBA.out⟩
              · have HS0 : Hid (stksErr P.kinds P.stakes = 0) := by
                  have := HD.out
                  rw [show P.stakes.drop j = [] from List.drop_eq_nil_of_le (by rw [← HNS.out]; omega)] at this
                  exact this.symm
                clear HD
                go_wp2_with fail
                clear j0 j1 j2 hjl hj
                go_loopw [7] (fun i wr => ∃ k : Nat, k ≤ nk ∧ i = .int .i64 (k : Int) ∧ Hid (∀ c : Nat, c < k → vs (fun s => s.c == (c : Int)) P.stakes ≤ 1) ∧ Hid (PBox q Ak nk ck As ns cs At nt ct wr) ∧ Hid (Below w.heap.size w wr)) (fun i _ => nk - (intOf i).toNat)
                case atStart => exact ⟨0, Nat.zero_le _, rfl, (fun c hc => absurd hc (Nat.not_lt_zero _)), HXwo, HBwo⟩
                case round =>
                  clear HXwo HBwo
                  obtain ⟨j, hj, rfl, HOV, HXwq, HBwq⟩ := hrel
                  rename World => wq
                  by_cases hjl : j < nk
                  · have hjl2 : (j : Int) < (nk : Int) := by omega
                    obtain ⟨qv, hqv⟩ : ∃ x, x = vs (fun s => s.c == (j : Int)) P.stakes := ⟨_, rfl⟩
                    have hszq := vs_sz (f := fun s => s.c == (j : Int)) (l := P.stakes) (m := m) (fun s hs => HPB.out.sz s hs)
                    rw [← hqv] at hszq
                    have hm2 := HPB.out.m2
                    have hlen : P.stakes.length ≤ 64 := by rw [← HNS.out]; omega
                    have hmul : (m + 1) * P.stakes.length ≤ 1001 * 64 := Nat.mul_le_mul (by omega) hlen
                    have HVT' := fun (W : World) (hW : Below w.heap.size w W) => rvotes_calls Ak nk ck As ns cs At nt ct none 0 0 P [] (-1) (j : Int) m W (HP.out.next hW) HPB.out (by omega) rfl Rd.nil (Nat.zero_le _)
                    rw [vF_all, ← hqv] at HVT'
                    have HLS' := fun W => refLess_calls 1 qv 1 64065 W ⟨by decide, by decide⟩ (hszq.mono (by omega)) (by decide)
                    obtain ⟨lb, hlb⟩ : ∃ b, b = decide (1 < qv) := ⟨_, rfl⟩
                    rw [← hlb] at HLS'
                    have HON' := refOne_calls
                    unfold ratV at HVT' HLS' HON'
                    obtain ⟨sv, hsv⟩ : ∃ x, x = rneg qv := ⟨_, rfl⟩
                    obtain ⟨nv, hnv⟩ : ∃ x, x = rnum qv := ⟨_, rfl⟩
                    obtain ⟨dv, hdv⟩ : ∃ x, x = rden qv := ⟨_, rfl⟩
                    rw [← hsv, ← hnv, ← hdv] at HVT' HLS'
                    obtain ⟨s1, hs1⟩ : ∃ x, x = rneg 1 := ⟨_, rfl⟩
                    obtain ⟨n1, hn1⟩ : ∃ x, x = rnum 1 := ⟨_, rfl⟩
                    obtain ⟨e1, he1⟩ : ∃ x, x = rden 1 := ⟨_, rfl⟩
                    rw [← hs1, ← hn1, ← he1] at HLS' HON'
                    have HVT := Lib.hid HVT'
                    have HLS := Lib.hid HLS'
                    have HON := Lib.hid HON'
                    have HQV := Lib.hid (And.intro hqv hlb)
                    clear HVT' HLS' HON' hs1 hn1 he1 hsv hnv hdv hszq hm2 hlen hmul hqv hlb
                    go_wp2_with fail
                    obtain ⟨W1, hW1⟩ : ∃ W, W = wq.drew := ⟨_, rfl⟩
                    have hS : (PBox q Ak nk ck As ns cs At nt ct) W1 := by rw [hW1]; exact HXwq.out
                    have HB1 : Hid (Below w.heap.size w W1) := by rw [hW1]; exact HBwq.out.drew
                    refine wp_region_held_drew (S := (PBox q Ak nk ck As ns cs At nt ct)) (by kernel_rfl) (by rw [← hW1]; exact hS) ?_
                    rw [← hW1]
                    intro _
                    clear hW1 HXwq HBwq
                    refine wpAnyH_take (i := 1) (v := ptyVal Ak nk ck As ns cs At nt ct) rfl (by kernel_rfl) (by kernel_rfl) (by kernel_rfl) (fun _ _ _ h => h) (Or.inl ⟨by kernel_rfl, (by intro w' hw'; obtain ⟨q0, q1, q2⟩ := hw'.cells; go_simp)⟩) hS ?_
                    go_simp
                    refine wpAnyH_take (i := 2) rfl (by kernel_rfl) (by kernel_rfl) (by kernel_rfl) (fun _ _ _ h => h) (Or.inl ⟨by kernel_rfl, (by intro w' _; go_simp; with_reducible rfl)⟩) hS ?_
                    go_simp
                    refine wpAnyH_ready (rs := [0]) (by kernel_rfl) (by simp) ?_
                    refine AllReadyH.cons rfl (fun K hK => ?_) AllReadyH.nil
                    go_simp
                    refine (HON.out _).mono ?_
                    rintro e W2 ⟨rfl, hb⟩
                    have hS2 := hS.next hb
                    have HB2 : Hid (Below w.heap.size w W2) := HB1.out.trans (hb.mono HB1.out.size)
                    clear hb hS HB1
                    refine hK.out _ _ hS2 (fun _ => ?_)
                    clear hK K
                    refine wpAnyH_ready (rs := [3]) (by kernel_rfl) (by simp) ?_
                    refine AllReadyH.cons rfl (fun K hK => ?_) AllReadyH.nil
                    go_simp
                    refine (HVT.out _ HB2.out).mono ?_
                    rintro e W3 ⟨rfl, hb⟩
                    have hS3 := hS2.next hb
                    have HB3 : Hid (Below w.heap.size w W3) := HB2.out.trans (hb.mono HB2.out.size)
                    clear hb hS2 HB2
                    refine hK.out _ _ hS3 (fun _ => ?_)
                    clear hK K
                    refine wpAnyH_ready (rs := [4]) (by kernel_rfl) (by simp) ?_
                    refine AllReadyH.cons rfl (fun K hK => ?_) AllReadyH.nil
                    go_simp
                    refine (HLS.out _).mono ?_
                    rintro e W4 ⟨rfl, hb⟩
                    have hS4 := hS3.next hb
                    have HB4 : Hid (Below w.heap.size w W4) := HB3.out.trans (hb.mono HB3.out.size)
                    clear hb hS3 HB3
                    refine hK.out _ _ hS4 (fun _ => ?_)
                    clear hK K
                    cases lb
                    · have HNX : Hid (∀ c : Nat, c < j + 1 → vs (fun s => s.c == (c : Int)) P.stakes ≤ 1) := fun c hc => by
                        by_cases e : c = j
                        · subst e
                          rw [← HQV.out.1]
                          exact Rat.not_lt.1 (of_decide_eq_false HQV.out.2.symm)
                        · exact HOV.out c (by omega)
                      clear HQV HOV
                      refine wpAnyH_done (by kernel_rfl) ?_ _
                      have HX4 := Lib.hid hS4
                      clear hS4
                      go_wp2_with fail
                      go_roundw
                      case measure => simp [intOf] <;> omega
                      case rel => exact ⟨j + 1, by omega, by go_num, HNX, HX4, HB4⟩
                    · obtain rfl : E = 6 := by
                        have h1 : 1 < qv := of_decide_eq_true HQV.out.2.symm
                        rw [HQV.out.1] at h1
                        rw [HE.out]; exact chk6 HL.out HK.out HS0.out (over_one (by rw [← HNK.out]; exact hjl) h1)
                      clear HQV
                      refine wpAnyH_done (by kernel_rfl) ?_ _
                      go_wp2_with fail
                      go_ret
                      exact ⟨rfl, HB4.out⟩
                  · have HOF : Hid (overs P.kinds.length P.stakes = false) := overs_false.2 (fun c hc => HOV.out c (by rw [← HNK.out] at hc; omega))
                    have HEE : Hid (E = if P.ties.all (tieFine P.kinds.length) = true then 0 else 14) := HE.out.trans (chkT HL.out HK.out HS0.out HOF.out)
                    go_wp2_with fail
                    clear hjl hj HOV
                    go_loopw [8] (fun i wr => ∃ k : Nat, k ≤ nt ∧ i = .int .i64 (k : Int) ∧ Hid ((P.ties.take k).all (tieFine P.kinds.length) = true) ∧ Hid (PBox q Ak nk ck As ns cs At nt ct wr) ∧ Hid (Below w.heap.size w wr)) (fun i _ => nt - (intOf i).toNat)
                    case atStart => exact ⟨0, Nat.zero_le _, rfl, rfl, HXwq, HBwq⟩
                    case round =>
                      clear HXwq HBwq
                      obtain ⟨j, hj, rfl, HTT, HXwr, HBwr⟩ := hrel
                      rename World => wr
                      obtain ⟨j0, j1, j2⟩ := HXwr.out.cells
                      by_cases hjl : j < nt
                      · have hjl2 : (j : Int) < (nt : Int) := by omega
                        obtain ⟨t, ht⟩ := getElem?_of_lt (l := P.ties) (k := j) (by rw [← HNT.out]; exact hjl)
                        have HMT := Lib.hid (And.intro (List.mem_of_getElem? ht) ht)
                        obtain ⟨b, off, hA, _, hc⟩ := Rd.at_ (enc := tieV) (fun _ => rfl) (HP.out.t.next HBwr.out) ht
                        subst hA
                        have p0 := hc 0 _ rfl
                        have p1 := hc 1 _ rfl
                        rw [Nat.add_zero] at p0
                        rw [← Nat.add_assoc] at p1
                        clear hc ht
                        obtain ⟨x, y⟩ := t
                        dsimp only at p0 p1
                        have HBA : Hid (Below w.heap.size w (wr.alloc (.cells #[.int .i64 x, .int .i64 y] 87))) := HBwr.out.alloc HBwr.out.size _
                        have HXA : Hid (PBox q Ak nk ck As ns cs (some ⟨b, off, none⟩) nt ct (wr.alloc (.cells #[.int .i64 x, .int .i64 y] 87))) := HXwr.out.next (bel_alloc _ _)
                        have hsa : TBox wr.heap.size x y (wr.alloc (.cells #[.int .i64 x, .int .i64 y] 87)) := blk_new _ _
                        obtain ⟨s0, s1⟩ := hsa.cells
                        clear hsa HXwr HBwr
                        rcases f1 : inN nk x with _ | _
                        · have F1 := Lib.hid f1
                          clear f1
                          obtain rfl : E = 14 := by rw [HEE.out]; exact tie_bad HMT.out.1 (by unfold tieFine; dsimp only; rw [← HNK.out, F1.out]; rfl)
                          by_cases g1 : x < 0
                          · have d1 : decide (x < 0) = true := decide_eq_true g1
                            go_wp2_with fail
                            go_ret
                            exact ⟨rfl, HBA.out⟩
                          · have d1 : decide (x < 0) = false := decide_eq_false g1
                            have d2 : decide ((nk : Int) ≤ x) = true := decide_eq_true (by have := mt inN_iff.2 (by rw [F1.out]; decide); omega)
                            clear g1
                            go_wp2_with fail
                            go_ret
                            exact ⟨rfl, HBA.out⟩
                        · have ho := inN_true f1
                          have d1 : decide (x < 0) = false := decide_eq_false (by omega)
                          have d2 : decide ((nk : Int) ≤ x) = false := decide_eq_false (by omega)
                          have F1 := Lib.hid f1
                          clear f1 ho
                          rcases f2 : inN nk y with _ | _
                          · have F2 := Lib.hid f2
                            clear f2
                            obtain rfl : E = 14 := by rw [HEE.out]; exact tie_bad HMT.out.1 (by unfold tieFine; dsimp only; rw [← HNK.out, F1.out, F2.out]; rfl)
                            by_cases g1 : y < 0
                            · have d3 : decide (y < 0) = true := decide_eq_true g1
                              go_wp2_with fail
                              go_ret
                              exact ⟨rfl, HBA.out⟩
                            · have d3 : decide (y < 0) = false := decide_eq_false g1
                              have d4 : decide ((nk : Int) ≤ y) = true := decide_eq_true (by have := mt inN_iff.2 (by rw [F2.out]; decide); omega)
                              clear g1
                              go_wp2_with fail
                              go_ret
                              exact ⟨rfl, HBA.out⟩
                          · have ho := inN_true f2
                            have d3 : decide (y < 0) = false := decide_eq_false (by omega)
                            have d4 : decide ((nk : Int) ≤ y) = false := decide_eq_false (by omega)
                            have F2 := Lib.hid f2
                            clear f2 ho
                            by_cases f4 : x = y
                            · have F4 := Lib.hid f4
                              obtain rfl : E = 14 := by rw [HEE.out]; exact tie_bad HMT.out.1 (by unfold tieFine; dsimp only; rw [← HNK.out, F1.out, F2.out, decide_eq_false (show ¬ x ≠ y from fun h => h F4.out)]; rfl)
                              have hoe : (x == y) = true := beq_iff_eq.2 f4
                              clear f4
                              go_wp2_with fail
                              go_ret
                              exact ⟨rfl, HBA.out⟩
                            · have hob : (x == y) = false := beq_eq_false_iff_ne.2 f4
                              have HNX : Hid ((P.ties.take (j + 1)).all (tieFine P.kinds.length) = true) := all_take HTT.out HMT.out.2 (by unfold tieFine; dsimp only; rw [← HNK.out, F1.out, F2.out, decide_eq_true f4]; rfl)
                              clear f4 HTT HMT
                              go_wp2_with fail
                              go_roundw
                              case measure => simp [intOf] <;> omega
                              case rel => exact ⟨j + 1, by omega, by go_num, HNX, HXA, HBA⟩
                      · obtain rfl : E = 0 := by
                          have := HTT.out
                          rw [List.take_of_length_le (by rw [← HNT.out]; omega)] at this
                          rw [HEE.out]; exact if_pos this
                        go_wp2_with fail
                        go_ret
                        exact ⟨rfl, HBwr.out⟩

end Go.Proofs.YtomfcmlomfcghaaGreatDoor

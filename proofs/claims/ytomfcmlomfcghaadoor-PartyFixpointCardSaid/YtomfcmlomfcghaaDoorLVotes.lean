/- insolvencylaw8.votes. -/
import Derived.Test.YtomfcmlomfcghaaDoorPtyG
import Derived.Test.YtomfcmlomfcghaaDoorPChk
set_option linter.unusedVariables false
set_option linter.unusedSimpArgs false
namespace Go.Proofs.YtomfcmlomfcghaaDoor
open Go.RowKit

def lvF (set : List Int) (owner company : Int) (s : Stk) : Bool := ((s.o == owner) || set.any (· == s.o)) && (s.c == company)

set_option maxHeartbeats 8000000 in
set_option maxRecDepth 100000 in
theorem lvotes_calls (Ak : Option Addr) (nk ck : Nat) (As : Option Addr) (ns cs : Nat) (At : Option Addr) (nt ct : Nat) (Al : Option Addr) (nl cl : Nat) (P : Prt) (set : List Int) (owner company : Int) (m : Nat) (w : World) (hp : PRd Ak nk As ns At nt P w) (hb : PB m P) (h64 : ns ≤ 64) (hl : nl = set.length) (rl : Rd w w.heap.size 1 Al set.length (set.flatMap intV)) (gl : nl ≤ 1000) :
    Calls Tryd.prog 19 #[ptyVal Ak nk ck As ns cs At nt ct, .slice Al nl cl, .int .i64 owner, .int .i64 company] w fun e w' => e = .returned (ratV (vs (lvF set owner company) P.stakes)) ∧ Below w.heap.size w w' := by
  obtain ⟨F, hF⟩ : ∃ F, F = lvF set owner company := ⟨_, rfl⟩
  rw [← hF]
  have HFE := Lib.hid hF
  clear hF
  have HP := Lib.hid hp
  have HPB := Lib.hid hb
  have HNS := Lib.hid hp.ns
  have HLL := Lib.hid (And.intro hl rl)
  clear hp hb hl rl
  obtain ⟨w0, hw0⟩ : ∃ W, W = ((w.alloc (.cells #[.slice Ak nk ck, .slice As ns cs, .slice At nt ct] 26)).alloc (.cells #[.bool false, .string ⟨#[]⟩, .string ⟨#[]⟩] 33)).alloc (.cells #[.bool false, .string ⟨#[]⟩, .string ⟨#[]⟩] 33) := ⟨_, rfl⟩
  obtain ⟨q, hq⟩ : ∃ q, q = w.heap.size := ⟨_, rfl⟩
  have HB0 : Hid (Below w.heap.size w w0) := by rw [hw0]; exact ((bel_alloc _ _).alloc (by simp) _).alloc (by simp <;> omega) _
  have HX0 : Hid (PBox q Ak nk ck As ns cs At nt ct w0) := by rw [hw0, hq]; exact blk_alloc (blk_alloc (blk_new _ _))
  have HG0 : Hid (w0.heap[q + 1]? = some (.cells #[.bool false, .string ⟨#[]⟩, .string ⟨#[]⟩] 33 (0, 0))) := by
    have := blk_new (w.alloc (.cells #[.slice Ak nk ck, .slice As ns cs, .slice At nt ct] 26)) (.cells #[.bool false, .string ⟨#[]⟩, .string ⟨#[]⟩] 33)
    rw [World.size_alloc, ← hq] at this
    rw [hw0]; exact blk_alloc this
  have HV0 : Hid (Q3 (q + 1 + 1) (rneg (vs F (P.stakes.take 0))) (rnum (vs F (P.stakes.take 0))) (rden (vs F (P.stakes.take 0))) w0) := by
    have := blk_new ((w.alloc (.cells #[.slice Ak nk ck, .slice As ns cs, .slice At nt ct] 26)).alloc (.cells #[.bool false, .string ⟨#[]⟩, .string ⟨#[]⟩] 33)) (.cells #[.bool false, .string ⟨#[]⟩, .string ⟨#[]⟩] 33)
    rw [World.size_alloc, World.size_alloc, ← hq] at this
    rw [hw0, show vs F (P.stakes.take 0) = 0 from rfl, rneg_zero, rnum_zero, rden_zero]
    exact this
  go_enter Tryd.func19, Tryd.ntmps19
  go_upto_region 2 with fail
  rw [← hw0, ← hq]
  have HQ := Lib.hid hq
  have hqw : w.heap.size ≤ q := by omega
  clear hw0 hq
  obtain ⟨k0, k1, k2⟩ := HX0.out.cells
  go_wp2_with fail
  clear k0 k1 k2
  go_loopw [19] (fun i wr => ∃ k : Nat, k ≤ ns ∧ i = .int .i64 (k : Int) ∧ Hid (Q3 (q + 1 + 1) (rneg (vs F (P.stakes.take k))) (rnum (vs F (P.stakes.take k))) (rden (vs F (P.stakes.take k))) wr) ∧ Hid (wr.heap[q + 1]? = some (.cells #[.bool false, .string ⟨#[]⟩, .string ⟨#[]⟩] 33 (0, 0))) ∧ Hid (PBox q Ak nk ck As ns cs At nt ct wr) ∧ Hid (Below w.heap.size w wr)) (fun i _ => ns - (intOf i).toNat)
  case atStart => exact ⟨0, Nat.zero_le _, rfl, HV0, HG0, HX0, HB0⟩
  case round =>
    clear HV0 HG0 HX0 HB0
    obtain ⟨j, hj, rfl, HVwp, HGwp, HXwp, HBwp⟩ := hrel
    rename World => wp
    obtain ⟨v, hv⟩ : ∃ v, v = vs F (P.stakes.take j) := ⟨_, rfl⟩
    rw [← hv] at HVwp
    have HVE := Lib.hid hv
    clear hv
    obtain ⟨sv, hsv⟩ : ∃ x, x = rneg v := ⟨_, rfl⟩
    obtain ⟨nv, hnv⟩ : ∃ x, x = rnum v := ⟨_, rfl⟩
    obtain ⟨dv, hdv⟩ : ∃ x, x = rden v := ⟨_, rfl⟩
    rw [← hsv, ← hnv, ← hdv] at HVwp
    have HLT := Lib.hid (And.intro hsv (And.intro hnv hdv))
    clear hsv hnv hdv
    by_cases hjl : j < ns
    · obtain ⟨s, hs⟩ := getElem?_of_lt (l := P.stakes) (k := j) (by rw [← HNS.out]; exact hjl)
      have HTK := Lib.hid (vs_take (f := F) hs)
      have HBS := Lib.hid (HPB.out.s s (List.mem_of_getElem? hs))
      obtain ⟨b, off, hA, _, hc⟩ := Rd.at_ (enc := stkV) (fun _ => rfl) (HP.out.s.next HBwp.out) hs
      subst hA
      have p0 := hc 0 _ rfl
      have p1 := hc 1 _ rfl
      have p2 := hc 2 _ rfl
      have p3 := hc 3 _ rfl
      have p4 := hc 4 _ rfl
      rw [Nat.add_zero] at p0
      rw [← Nat.add_assoc] at p1 p2 p3 p4
      clear hc hs
      obtain ⟨o, c, vn, vu, vd⟩ := s
      dsimp only at p0 p1 p2 p3 p4
      rw [← HVE.out] at HTK
      obtain ⟨g, hg⟩ : ∃ g, g = wp.heap.size := ⟨_, rfl⟩
      obtain ⟨wa, hwa⟩ : ∃ W, W = wp.alloc (.cells #[.int .i64 o, .int .i64 c, .bool vn, .string vu, .string vd] 36) := ⟨_, rfl⟩
      have hsa : SBox wp.heap.size ⟨o, c, vn, vu, vd⟩ (wp.alloc (.cells #[.int .i64 o, .int .i64 c, .bool vn, .string vu, .string vd] 36)) := blk_new _ _
      have HSwa : Hid (SBox g ⟨o, c, vn, vu, vd⟩ wa) := by rw [hwa, hg]; exact hsa
      have HXwa : Hid (PBox q Ak nk ck (some ⟨b, off, none⟩) ns cs At nt ct wa) := by rw [hwa]; exact HXwp.out.next (bel_alloc _ _)
      have HGwa : Hid (wa.heap[q + 1]? = some (.cells #[.bool false, .string ⟨#[]⟩, .string ⟨#[]⟩] 33 (0, 0))) := by rw [hwa]; exact blk_alloc HGwp.out
      have HVwa : Hid (Q3 (q + 1 + 1) sv nv dv wa) := by rw [hwa]; exact blk_alloc HVwp.out
      have HBwa : Hid (Below w.heap.size w wa) := by rw [hwa]; exact HBwp.out.alloc HBwp.out.size _
      have HRL := Lib.hid (HLL.out.2.next HBwa.out)
      obtain ⟨s0, s1, s2, s3, s4⟩ := hsa.cells
      have HW := Lib.hid (And.intro hwa hg)
      clear hwa hg hsa
      obtain ⟨b0, hb0⟩ : ∃ b0, b0 = (o == owner) := ⟨_, rfl⟩
      have HB00 := Lib.hid hb0
      go_wp2_with fail
      rw [← hb0, ← HW.out.1, ← HW.out.2]
      clear HW hb0 p0 p1 p2 p3 p4 s0 s1 s2 s3 s4 HXwp HGwp HVwp HBwp
      go_loop [12, 29] (fun u i => ∃ k : Nat, k ≤ nl ∧ i = .int .i64 (k : Int) ∧ Hid (u = .bool (b0 || (set.take k).any (· == o)))) (fun _ i => nl - (intOf i).toNat)
      case atStart => exact ⟨0, Nat.zero_le _, rfl, by show _ = _; simp⟩
      case round =>
        obtain ⟨k, hk, rfl, HU⟩ := hrel
        obtain ⟨x, hx⟩ : ∃ x, x = (b0 || (set.take k).any (· == o)) := ⟨_, rfl⟩
        have hu := HU.out
        rw [← hx] at hu
        subst hu
        have HXE := Lib.hid hx
        clear hx HU
        obtain ⟨s0, s1, s2, s3, s4⟩ := HSwa.out.cells
        by_cases hkl : k < nl
        · obtain ⟨y, hy⟩ := getElem?_of_lt (l := set) (k := k) (by rw [← HLL.out.1]; exact hkl)
          obtain ⟨bl, ol, hA, _, cy⟩ := rd_int HRL.out hy
          subst hA
          have HNX : Hid ((b0 || (set.take (k + 1)).any (· == o)) = (x || (y == o))) := by
            show _ = _
            rw [HXE.out, List.take_add_one, hy, List.any_append, Bool.or_assoc]
            simp
          clear hy
          obtain ⟨z, hz⟩ : ∃ z, z = (y == o) := ⟨_, rfl⟩
          rw [← hz] at HNX
          have HZ := Lib.hid hz
          cases x
          · go_wp2_with fail
            rw [← hz]
            clear hz
            go_round
            case measure => simp [intOf] <;> omega
            case rel => exact ⟨k + 1, by omega, by go_num, by show _ = _; rw [HNX.out]; rfl⟩
          · clear hz
            go_wp2_with fail
            go_round
            case measure => simp [intOf] <;> omega
            case rel => exact ⟨k + 1, by omega, by go_num, by show _ = _; rw [HNX.out]; rfl⟩
        · have HIN : Hid (x = ((o == owner) || set.any (· == o))) := by
            show _ = _
            rw [HXE.out, HB00.out, List.take_of_length_le (by rw [← HLL.out.1]; omega)]
          clear HXE
          cases x
          · have HSK : Hid (vs F (P.stakes.take (j + 1)) = v) := by show _ = _; rw [HTK.out, if_neg (by rw [HFE.out]; unfold lvF; dsimp only; rw [← HIN.out]; simp)]
            go_wp2_with fail
            clear s0 s1 s2 s3 s4
            go_roundw
            case measure => simp [intOf] <;> omega
            case rel => exact ⟨j + 1, by omega, by go_num, by rw [HSK.out, ← HLT.out.1, ← HLT.out.2.1, ← HLT.out.2.2]; exact HVwa, HGwa, HXwa, HBwa⟩
          · by_cases hc1 : c = company
            · have hcb : (c == company) = true := beq_iff_eq.2 hc1
              clear hc1
              have HYS : Hid (F ⟨o, c, vn, vu, vd⟩ = true) := by show _ = _; rw [HFE.out]; unfold lvF; dsimp only; rw [← HIN.out, hcb]; rfl
              have hszv := vs_sz (f := F) (l := P.stakes.take j) (m := m) (fun s hs => HPB.out.sz s (List.mem_of_mem_take hs))
              rw [← HVE.out] at hszv
              have hm2 := HPB.out.m2
              have hm1 := HPB.out.m1
              have hlen : (P.stakes.take j).length ≤ 64 := by rw [List.length_take, ← HNS.out]; omega
              have hmul : (m + 1) * (P.stakes.take j).length ≤ 1001 * 64 := Nat.mul_le_mul (by omega) hlen
              have HAD' := fun W => pAddF_calls (fqOf v) ⟨vn, vu, vd⟩ 64065 m W (sz_fits (hszv.mono (by omega))) HBS.out.2.2 (by decide) hm1 (by omega)
              rw [fixR_of] at HAD'
              have HSA : Hid (vs F (P.stakes.take (j + 1)) = v + fixR ⟨vn, vu, vd⟩) := by show _ = _; rw [HTK.out, if_pos HYS.out]
              obtain ⟨R, hR⟩ : ∃ R, R = v + fixR ⟨vn, vu, vd⟩ := ⟨_, rfl⟩
              rw [← hR] at HAD' HSA
              unfold FQ.val fqOf ratV at HAD'
              dsimp only at HAD'
              rw [← HLT.out.1, ← HLT.out.2.1, ← HLT.out.2.2] at HAD'
              obtain ⟨sR, hsR⟩ : ∃ x, x = rneg R := ⟨_, rfl⟩
              obtain ⟨nR, hnR⟩ : ∃ x, x = rnum R := ⟨_, rfl⟩
              obtain ⟨dR, hdR⟩ : ∃ x, x = rden R := ⟨_, rfl⟩
              rw [← hsR, ← hnR, ← hdR] at HAD'
              have HRR := Lib.hid (And.intro hsR (And.intro hnR hdR))
              have HAD := Lib.hid HAD'
              clear hszv hm2 hm1 hlen hmul HAD' hR hsR hnR hdR
              obtain ⟨a0, a1, a2, _⟩ := three_of HVwa.out
              go_wp2_with fail
              clear s0 s1 s2 s3 s4 a0 a1 a2
              refine (HAD.out _).mono ?_
              rintro e w2 ⟨rfl, hb⟩
              have HX2 := Lib.hid (HXwa.out.next hb)
              have HG2 := Lib.hid (blk_next HGwa.out hb)
              have HV2 := Lib.hid (HVwa.out.next hb)
              have HB2 : Hid (Below w.heap.size w w2) := HBwa.out.trans (hb.mono HBwa.out.size)
              clear hb HXwa HGwa HVwa HBwa HSwa HRL
              have HX4 : Hid (PBox q Ak nk ck (some ⟨b, off, none⟩) ns cs At nt ct (((w2.setCell ⟨q + 1 + 1, 0, none⟩ (.bool sR)).setCell ⟨q + 1 + 1, 1, none⟩ (.string nR)).setCell ⟨q + 1 + 1, 2, none⟩ (.string dR))) := (heap_setCell_other _ ⟨q + 1 + 1, 2, none⟩ q _ (by show q ≠ q + 1 + 1; omega)).trans ((heap_setCell_other _ ⟨q + 1 + 1, 1, none⟩ q _ (by show q ≠ q + 1 + 1; omega)).trans ((heap_setCell_other _ ⟨q + 1 + 1, 0, none⟩ q _ (by show q ≠ q + 1 + 1; omega)).trans HX2.out))
              have HG4 : Hid ((((w2.setCell ⟨q + 1 + 1, 0, none⟩ (.bool sR)).setCell ⟨q + 1 + 1, 1, none⟩ (.string nR)).setCell ⟨q + 1 + 1, 2, none⟩ (.string dR)).heap[q + 1]? = some (.cells #[.bool false, .string ⟨#[]⟩, .string ⟨#[]⟩] 33 (0, 0))) := (heap_setCell_other _ ⟨q + 1 + 1, 2, none⟩ (q + 1) _ (by show q + 1 ≠ q + 1 + 1; omega)).trans ((heap_setCell_other _ ⟨q + 1 + 1, 1, none⟩ (q + 1) _ (by show q + 1 ≠ q + 1 + 1; omega)).trans ((heap_setCell_other _ ⟨q + 1 + 1, 0, none⟩ (q + 1) _ (by show q + 1 ≠ q + 1 + 1; omega)).trans HG2.out))
              have HV4 := Lib.hid (HV2.out.set sR nR dR)
              have HB4 : Hid (Below w.heap.size w (((w2.setCell ⟨q + 1 + 1, 0, none⟩ (.bool sR)).setCell ⟨q + 1 + 1, 1, none⟩ (.string nR)).setCell ⟨q + 1 + 1, 2, none⟩ (.string dR))) := ((HB2.out.setCell (by show w.heap.size ≤ q + 1 + 1; omega) _).setCell (by show w.heap.size ≤ q + 1 + 1; omega) _).setCell (by show w.heap.size ≤ q + 1 + 1; omega) _
              obtain ⟨c0, c1, c2, f0, f1, f2, hz⟩ := three_of HV2.out
              clear HV2 HX2 HG2 HB2
              go_wp2_with fail
              clear c0 c1 c2 f0 f1 f2 hz
              go_roundw
              case measure => simp [intOf] <;> omega
              case rel => exact ⟨j + 1, by omega, by go_num, by rw [HSA.out, ← HRR.out.1, ← HRR.out.2.1, ← HRR.out.2.2]; exact HV4, HG4, HX4, HB4⟩
            · have hcb : (c == company) = false := beq_eq_false_iff_ne.2 hc1
              clear hc1
              have HSK : Hid (vs F (P.stakes.take (j + 1)) = v) := by show _ = _; rw [HTK.out, if_neg (by rw [HFE.out]; unfold lvF; dsimp only; rw [hcb]; simp)]
              go_wp2_with fail
              clear s0 s1 s2 s3 s4
              go_roundw
              case measure => simp [intOf] <;> omega
              case rel => exact ⟨j + 1, by omega, by go_num, by rw [HSK.out, ← HLT.out.1, ← HLT.out.2.1, ← HLT.out.2.2]; exact HVwa, HGwa, HXwa, HBwa⟩
    · have HEND : Hid (v = vs F P.stakes) := by
        have := HVE.out
        rwa [List.take_of_length_le (by rw [← HNS.out]; omega)] at this
      obtain ⟨c0, c1, c2, f0, f1, f2, hz⟩ := three_of HGwp.out
      obtain ⟨a0, a1, a2, _⟩ := three_of HVwp.out
      go_wp2_with fail
      refine bodyPost_ret (v := .agg #[.bool sv, .string nv, .string dv]) (by simp [results, Tryd.results19, go_sem, c0, c1, c2]) rfl ⟨?_, ((HBwp.out.setCell (by show w.heap.size ≤ q + 1; omega) _).setCell (by show w.heap.size ≤ q + 1; omega) _).setCell (by show w.heap.size ≤ q + 1; omega) _⟩
      rw [← HEND.out, ratV, HLT.out.1, HLT.out.2.1, HLT.out.2.2]

end Go.Proofs.YtomfcmlomfcghaaDoor

/- codec.Decode. -/
import Derived.Test.YtcljkdjmmolfoaaDoorDecI
set_option linter.unusedVariables false
set_option linter.unusedSimpArgs false
namespace Go.Proofs.YtcljkdjmmolfoaaDoor
open Go.RowKit

def Box3 (q : Nat) (x y u : Int) (W : World) : Prop := W.heap[q]? = some (.cells #[.int .i64 x, .int .i64 y, .int .i64 u] 53 (0, 0))
theorem dec_none {N : St → Int × St} {Q : St → RQ × St} {b : List Nat} (h : ¬ (b.length ≤ 4096 ∧ (rRec N Q (b, false)).2 = ([], false) ∧ recOk (rRec N Q (b, false)).1 = true ∧ recT (rRec N Q (b, false)).1 = b)) : decBy N Q b = none := if_neg h
theorem DecPost.none {b : Option RecD} {w w' : World} (h : b = none) (hb : Below w.heap.size w w') : DecPost b w (.returned (.tuple #[.agg #[.int .i64 0, .int .i64 0, .int .i64 0, .int .i64 0, .int .i64 0, .int .i64 0, .bool false, .string ⟨#[]⟩, .string ⟨#[]⟩, .bool false, .string ⟨#[]⟩, .string ⟨#[]⟩, .slice none 0 0, .slice none 0 0, .slice none 0 0], .int .i64 44])) w' :=
  ⟨(fun _ => rfl), (fun r hr => by rw [h] at hr; cases hr), hb⟩
theorem nstr_inj {a b : List Nat} (ha : Byt a) (hb : Byt b) (h : (nstr a).toList = (nstr b).toList) : a = b := by
  have h1 : (nstr a).data.toList = (nstr b).data.toList := by rw [← ByteArray.toList_eq, ← ByteArray.toList_eq]; exact h
  have h2 : (a.map UInt8.ofNat).map UInt8.toNat = (b.map UInt8.ofNat).map UInt8.toNat := congrArg (List.map UInt8.toNat) h1
  rwa [map_ofNat a ha, map_ofNat b hb] at h2

set_option maxHeartbeats 4000000 in
set_option maxRecDepth 100000 in
theorem pDecode_long (A : Option Addr) (n cb : Nat) (b : List Nat) (w : World) (hn : n = b.length) (hbig : 4096 < n) (hmx : n ≤ maxLen) :
    Calls Tryd.prog 19 #[.slice A n cb] w (DecPost (decBy pNum pRat b) w) := by
  have hd : decide ((4096 : Int) < (n : Int)) = true := decide_eq_true (by omega)
  have HNO : Hid (decBy pNum pRat b = none) := dec_none (fun h => by have := h.1; omega)
  unfold maxLen at hmx
  clear hn hbig
  obtain ⟨w0, hw0⟩ : ∃ W, W = w.alloc zeroRec := ⟨_, rfl⟩
  have HB0 : Hid (Below w.heap.size w w0) := by rw [hw0]; exact bel_alloc _ _
  have HZ0 : Hid (w0.heap[w.heap.size]? = some zeroRec) := by rw [hw0]; exact blk_new _ _
  unfold zeroRec at hw0
  go_enter Tryd.func19, Tryd.ntmps19
  go_upto_region 1 with fail
  rw [← hw0]
  clear hw0
  have hZ := HZ0.out
  unfold zeroRec at hZ
  have htb := there_block (n := 15) hZ (by decide)
  have HZQ : Hid ((w0.setCells w.heap.size 0 [.int .i64 0, .int .i64 0, .int .i64 0, .int .i64 0, .int .i64 0, .int .i64 0, .bool false, .string ⟨#[]⟩, .string ⟨#[]⟩, .bool false, .string ⟨#[]⟩, .string ⟨#[]⟩, .slice none 0 0, .slice none 0 0, .slice none 0 0]).heap[w.heap.size]? = some (.cells #[.int .i64 0, .int .i64 0, .int .i64 0, .int .i64 0, .int .i64 0, .int .i64 0, .bool false, .string ⟨#[]⟩, .string ⟨#[]⟩, .bool false, .string ⟨#[]⟩, .string ⟨#[]⟩, .slice none 0 0, .slice none 0 0, .slice none 0 0] 37 (0, 0))) := setCells_whole hZ rfl
  clear hZ
  go_wp2_with (refine wpList_store_mid rfl 37 (.tmp 2) (.tmp 12) rfl w.heap.size 0 #[.int .i64 0, .int .i64 0, .int .i64 0, .int .i64 0, .int .i64 0, .int .i64 0, .bool false, .string ⟨#[]⟩, .string ⟨#[]⟩, .bool false, .string ⟨#[]⟩, .string ⟨#[]⟩, .slice none 0 0, .slice none 0 0, .slice none 0 0] rfl rfl htb (by kernel_rfl) (by simp [Value.oneCell']) ?_)
  have v0_ : (w0.setCells w.heap.size 0 [.int .i64 0, .int .i64 0, .int .i64 0, .int .i64 0, .int .i64 0, .int .i64 0, .bool false, .string ⟨#[]⟩, .string ⟨#[]⟩, .bool false, .string ⟨#[]⟩, .string ⟨#[]⟩, .slice none 0 0, .slice none 0 0, .slice none 0 0]).cell? ⟨w.heap.size, 0, none⟩ = some (.int .i64 0) := by rw [cell_of_row _ w.heap.size 0 _ _ (0, 0) HZQ.out]; rfl
  have v1_ : (w0.setCells w.heap.size 0 [.int .i64 0, .int .i64 0, .int .i64 0, .int .i64 0, .int .i64 0, .int .i64 0, .bool false, .string ⟨#[]⟩, .string ⟨#[]⟩, .bool false, .string ⟨#[]⟩, .string ⟨#[]⟩, .slice none 0 0, .slice none 0 0, .slice none 0 0]).cell? ⟨w.heap.size, 1, none⟩ = some (.int .i64 0) := by rw [cell_of_row _ w.heap.size 1 _ _ (0, 0) HZQ.out]; rfl
  have v2_ : (w0.setCells w.heap.size 0 [.int .i64 0, .int .i64 0, .int .i64 0, .int .i64 0, .int .i64 0, .int .i64 0, .bool false, .string ⟨#[]⟩, .string ⟨#[]⟩, .bool false, .string ⟨#[]⟩, .string ⟨#[]⟩, .slice none 0 0, .slice none 0 0, .slice none 0 0]).cell? ⟨w.heap.size, 2, none⟩ = some (.int .i64 0) := by rw [cell_of_row _ w.heap.size 2 _ _ (0, 0) HZQ.out]; rfl
  have v3_ : (w0.setCells w.heap.size 0 [.int .i64 0, .int .i64 0, .int .i64 0, .int .i64 0, .int .i64 0, .int .i64 0, .bool false, .string ⟨#[]⟩, .string ⟨#[]⟩, .bool false, .string ⟨#[]⟩, .string ⟨#[]⟩, .slice none 0 0, .slice none 0 0, .slice none 0 0]).cell? ⟨w.heap.size, 3, none⟩ = some (.int .i64 0) := by rw [cell_of_row _ w.heap.size 3 _ _ (0, 0) HZQ.out]; rfl
  have v4_ : (w0.setCells w.heap.size 0 [.int .i64 0, .int .i64 0, .int .i64 0, .int .i64 0, .int .i64 0, .int .i64 0, .bool false, .string ⟨#[]⟩, .string ⟨#[]⟩, .bool false, .string ⟨#[]⟩, .string ⟨#[]⟩, .slice none 0 0, .slice none 0 0, .slice none 0 0]).cell? ⟨w.heap.size, 4, none⟩ = some (.int .i64 0) := by rw [cell_of_row _ w.heap.size 4 _ _ (0, 0) HZQ.out]; rfl
  have v5_ : (w0.setCells w.heap.size 0 [.int .i64 0, .int .i64 0, .int .i64 0, .int .i64 0, .int .i64 0, .int .i64 0, .bool false, .string ⟨#[]⟩, .string ⟨#[]⟩, .bool false, .string ⟨#[]⟩, .string ⟨#[]⟩, .slice none 0 0, .slice none 0 0, .slice none 0 0]).cell? ⟨w.heap.size, 5, none⟩ = some (.int .i64 0) := by rw [cell_of_row _ w.heap.size 5 _ _ (0, 0) HZQ.out]; rfl
  have v6_ : (w0.setCells w.heap.size 0 [.int .i64 0, .int .i64 0, .int .i64 0, .int .i64 0, .int .i64 0, .int .i64 0, .bool false, .string ⟨#[]⟩, .string ⟨#[]⟩, .bool false, .string ⟨#[]⟩, .string ⟨#[]⟩, .slice none 0 0, .slice none 0 0, .slice none 0 0]).cell? ⟨w.heap.size, 6, none⟩ = some (.bool false) := by rw [cell_of_row _ w.heap.size 6 _ _ (0, 0) HZQ.out]; rfl
  have v7_ : (w0.setCells w.heap.size 0 [.int .i64 0, .int .i64 0, .int .i64 0, .int .i64 0, .int .i64 0, .int .i64 0, .bool false, .string ⟨#[]⟩, .string ⟨#[]⟩, .bool false, .string ⟨#[]⟩, .string ⟨#[]⟩, .slice none 0 0, .slice none 0 0, .slice none 0 0]).cell? ⟨w.heap.size, 7, none⟩ = some (.string ⟨#[]⟩) := by rw [cell_of_row _ w.heap.size 7 _ _ (0, 0) HZQ.out]; rfl
  have v8_ : (w0.setCells w.heap.size 0 [.int .i64 0, .int .i64 0, .int .i64 0, .int .i64 0, .int .i64 0, .int .i64 0, .bool false, .string ⟨#[]⟩, .string ⟨#[]⟩, .bool false, .string ⟨#[]⟩, .string ⟨#[]⟩, .slice none 0 0, .slice none 0 0, .slice none 0 0]).cell? ⟨w.heap.size, 8, none⟩ = some (.string ⟨#[]⟩) := by rw [cell_of_row _ w.heap.size 8 _ _ (0, 0) HZQ.out]; rfl
  have v9_ : (w0.setCells w.heap.size 0 [.int .i64 0, .int .i64 0, .int .i64 0, .int .i64 0, .int .i64 0, .int .i64 0, .bool false, .string ⟨#[]⟩, .string ⟨#[]⟩, .bool false, .string ⟨#[]⟩, .string ⟨#[]⟩, .slice none 0 0, .slice none 0 0, .slice none 0 0]).cell? ⟨w.heap.size, 9, none⟩ = some (.bool false) := by rw [cell_of_row _ w.heap.size 9 _ _ (0, 0) HZQ.out]; rfl
  have v10_ : (w0.setCells w.heap.size 0 [.int .i64 0, .int .i64 0, .int .i64 0, .int .i64 0, .int .i64 0, .int .i64 0, .bool false, .string ⟨#[]⟩, .string ⟨#[]⟩, .bool false, .string ⟨#[]⟩, .string ⟨#[]⟩, .slice none 0 0, .slice none 0 0, .slice none 0 0]).cell? ⟨w.heap.size, 10, none⟩ = some (.string ⟨#[]⟩) := by rw [cell_of_row _ w.heap.size 10 _ _ (0, 0) HZQ.out]; rfl
  have v11_ : (w0.setCells w.heap.size 0 [.int .i64 0, .int .i64 0, .int .i64 0, .int .i64 0, .int .i64 0, .int .i64 0, .bool false, .string ⟨#[]⟩, .string ⟨#[]⟩, .bool false, .string ⟨#[]⟩, .string ⟨#[]⟩, .slice none 0 0, .slice none 0 0, .slice none 0 0]).cell? ⟨w.heap.size, 11, none⟩ = some (.string ⟨#[]⟩) := by rw [cell_of_row _ w.heap.size 11 _ _ (0, 0) HZQ.out]; rfl
  have v12_ : (w0.setCells w.heap.size 0 [.int .i64 0, .int .i64 0, .int .i64 0, .int .i64 0, .int .i64 0, .int .i64 0, .bool false, .string ⟨#[]⟩, .string ⟨#[]⟩, .bool false, .string ⟨#[]⟩, .string ⟨#[]⟩, .slice none 0 0, .slice none 0 0, .slice none 0 0]).cell? ⟨w.heap.size, 12, none⟩ = some (.slice none 0 0) := by rw [cell_of_row _ w.heap.size 12 _ _ (0, 0) HZQ.out]; rfl
  have v13_ : (w0.setCells w.heap.size 0 [.int .i64 0, .int .i64 0, .int .i64 0, .int .i64 0, .int .i64 0, .int .i64 0, .bool false, .string ⟨#[]⟩, .string ⟨#[]⟩, .bool false, .string ⟨#[]⟩, .string ⟨#[]⟩, .slice none 0 0, .slice none 0 0, .slice none 0 0]).cell? ⟨w.heap.size, 13, none⟩ = some (.slice none 0 0) := by rw [cell_of_row _ w.heap.size 13 _ _ (0, 0) HZQ.out]; rfl
  have v14_ : (w0.setCells w.heap.size 0 [.int .i64 0, .int .i64 0, .int .i64 0, .int .i64 0, .int .i64 0, .int .i64 0, .bool false, .string ⟨#[]⟩, .string ⟨#[]⟩, .bool false, .string ⟨#[]⟩, .string ⟨#[]⟩, .slice none 0 0, .slice none 0 0, .slice none 0 0]).cell? ⟨w.heap.size, 14, none⟩ = some (.slice none 0 0) := by rw [cell_of_row _ w.heap.size 14 _ _ (0, 0) HZQ.out]; rfl
  exact bodyPost_ret (v := .tuple #[.agg #[.int .i64 0, .int .i64 0, .int .i64 0, .int .i64 0, .int .i64 0, .int .i64 0, .bool false, .string ⟨#[]⟩, .string ⟨#[]⟩, .bool false, .string ⟨#[]⟩, .string ⟨#[]⟩, .slice none 0 0, .slice none 0 0, .slice none 0 0], .int .i64 44]) (by simp [results, Tryd.results19, go_sem, v0_, v1_, v2_, v3_, v4_, v5_, v6_, v7_, v8_, v9_, v10_, v11_, v12_, v13_, v14_]) rfl (DecPost.none HNO.out (below_setCells (Nat.le_refl _) _ 0 HB0.out))

set_option maxHeartbeats 16000000 in
set_option maxRecDepth 100000 in
theorem pDecode_calls (A : Option Addr) (n cb : Nat) (b : List Nat) (w : World) (hn : n = b.length) (hr0 : KRd .u8 w w.heap.size A b) (hby : Byt b) (hnc : n ≤ cb) (hcm : cb ≤ maxLen) :
    Calls Tryd.prog 19 #[.slice A n cb] w (DecPost (decBy pNum pRat b) w) := by
  by_cases hbig : 4096 < n
  · exact pDecode_long A n cb b w hn hbig (Nat.le_trans hnc hcm)
  have hd : decide ((4096 : Int) < (n : Int)) = false := decide_eq_false (by omega)
  obtain ⟨g, hg⟩ : ∃ g, g = w.heap.size + 1 := ⟨_, rfl⟩
  have hlg : w.heap.size < g := by omega
  obtain ⟨w0, hw0⟩ : ∃ W, W = (w.alloc zeroRec).alloc (.cells #[.slice A n cb, .bool false] 81) := ⟨_, rfl⟩
  have hwb : Below w.heap.size w w0 := by rw [hw0]; exact (bel_alloc _ _).alloc (by simp) _
  have HB0 := Lib.hid hwb
  have HZ0 : Hid (w0.heap[w.heap.size]? = some zeroRec) := by rw [hw0]; exact blk_alloc (blk_new _ _)
  have HR0 : Hid (RdS 81 g w.heap.size (b, false) w0) := by
    refine ⟨A, cb, ?_, hr0.below hwb, by omega, by rw [← hn]; exact hnc, hcm, hby⟩
    have := blk_new (w.alloc zeroRec) (.cells #[.slice A n cb, .bool false] 81)
    rw [World.size_alloc, ← hg, ← hw0] at this
    dsimp only
    rw [← hn]
    exact this
  have HKB := Lib.hid (And.intro hr0 (And.intro hby hn))
  have HCV : Hid (∀ W, Below w.heap.size w W → (convert 22 9 (.slice A n cb)).run Tryd.prog W = .ok (.string (nstr b)) W) := fun W hW => by
    rw [hn]
    exact conv_bytes (P := Tryd.prog) W w.heap.size 22 9 5 A b cb Tryd.underlying22 Tryd.underlying5 Tryd.underlying9 (hr0.below hW) hby
  have hbl : b.length ≤ 4096 := by omega
  have HFI := Lib.hid (rec_fine pNum_fine pRat_fine (b, false))
  obtain ⟨ra, hra⟩ : ∃ r, r = rAct pNum pRat (b, false) := ⟨_, rfl⟩
  obtain ⟨⟨z1, z2, z3, z4, z5, z6, a, c, legs, opts⟩, sa⟩ := ra
  obtain ⟨rm, hrm⟩ : ∃ r, r = rCount pNum 256 sa := ⟨_, rfl⟩
  have hm : rm.1 ≤ 256 := by rw [hrm]; exact rCount_le _ _ _
  obtain ⟨m, t⟩ := rm
  dsimp only at hm
  obtain ⟨rp, hrp⟩ : ∃ r, r = rList (rPay pNum) m t := ⟨_, rfl⟩
  obtain ⟨pays, sp⟩ := rp
  have hrec : rRec pNum pRat (b, false) = ((⟨z1, z2, z3, z4, z5, z6, a, c, legs, opts⟩, pays), sp) := by
    unfold rRec
    simp only [← hra, ← hrm, ← hrp]
  rw [hrec] at HFI
  have HDB : Hid (decBy pNum pRat b = if b.length ≤ 4096 ∧ sp = ([], false) ∧ recOk (⟨z1, z2, z3, z4, z5, z6, a, c, legs, opts⟩, pays) = true ∧ recT (⟨z1, z2, z3, z4, z5, z6, a, c, legs, opts⟩, pays) = b then some (⟨z1, z2, z3, z4, z5, z6, a, c, legs, opts⟩, pays) else none) := by
    show _ = _
    unfold decBy
    rw [hrec]
  have EA := Lib.hid hra
  have EM := Lib.hid hrm
  have EP := Lib.hid hrp
  have HBL := Lib.hid hbl
  unfold maxLen at hcm
  clear hr0 hby hwb hra hrm hrp hrec hbig hbl hn
  have H1 := Lib.hid (pAct_calls g w.heap.size (b, false) w0 HR0.out)
  rw [← EA.out] at H1
  unfold zeroRec at hw0
  go_enter Tryd.func19, Tryd.ntmps19
  go_upto_region 4 with fail
  rw [← hg, ← hw0]
  have HGE := Lib.hid hg
  clear hw0 hg
  go_wp2_with fail
  refine H1.out.mono ?_
  rintro e w1 ⟨B, A1, c1, A2, c2, rfl, hB, hl, ho_, hd1, ho, hsz⟩
  dsimp only at hl ho_ hd1 ⊢
  have HL1 := Lib.hid (And.intro hl ho_)
  have HD1 := Lib.hid hd1
  have HZ1 := Lib.hid (blk_only HZ0.out ho (by omega))
  have HB1 : Hid (Below w.heap.size w w1) := HB0.out.trans (ho.at_ w.heap.size HB0.out.size (by omega))
  have hwB : w.heap.size ≤ B := Nat.le_trans HB0.out.size hB
  clear hl ho_ hd1 ho H1 HR0 HB0 HZ0 hB
  have hgw1 := HD1.out.lt
  obtain ⟨qr, hqr⟩ : ∃ q, q = w1.heap.size := ⟨_, rfl⟩
  obtain ⟨w2, hw2⟩ : ∃ W, W = w1.alloc (.cells #[.int .i64 z1, .int .i64 z2, .int .i64 z3, .int .i64 z4, .int .i64 z5, .int .i64 z6, .bool a.neg, .string a.num, .string a.den, .bool c.neg, .string c.num, .string c.den, .slice A1 legs.length c1, .slice A2 opts.length c2, .slice none 0 0] 37) := ⟨_, rfl⟩
  have HI : Hid (DecI 81 w g w.heap.size qr B z1 z2 z3 z4 z5 z6 a c A1 c1 legs A2 c2 opts none 0 [] sa w2) := by
    rw [hw2]
    exact ⟨by rw [hqr]; exact blk_new _ _, blk_alloc HZ1.out, own_below HL1.out.1 (bel_alloc _ _), own_below HL1.out.2 (bel_alloc _ _), World.ownsRow_nil _ _ _ _, HD1.out.next HD1.out.le (bel_alloc _ _), HB1.out.alloc HB1.out.size _, by rw [World.size_alloc]; omega, hlg, by omega, by omega, hwB, Nat.le_refl _, by decide⟩
  have HW2 := Lib.hid hw2
  have HQR := Lib.hid hqr
  have hlq : w.heap.size < qr := HI.out.wq
  clear HL1 HD1 HZ1 HB1 hsz hw2 hqr hgw1
  go_wp2_with fail
  rw [← HW2.out, ← HQR.out]
  clear HW2 HQR
  have H2 := Lib.hid (pCount_calls g w.heap.size 256 sa w2 HI.out.d HI.out.d.le (by unfold maxLen; omega))
  rw [← EM.out] at H2
  refine H2.out.mono ?_
  rintro e w3 ⟨rfl, hr, ho⟩
  dsimp only at hr ⊢
  have HI2 := Lib.hid (HI.out.next hr ho)
  clear hr ho H2 HI
  have HI := HI2
  clear HI2
  obtain ⟨i3, hi3, hz3_, hs3_, hbt3⟩ := info_parts Tryd.rec_info_pay
  have HF3 := Lib.hid (And.intro hi3 (And.intro hz3_ (And.intro hs3_ hbt3)))
  clear hi3 hz3_ hs3_ hbt3
  go_wp2_with fail
  go_loopw [21] (fun vi wr => ∃ (k : Nat) (A3 : Option Addr) (c3 : Nat), k ≤ m ∧ vi = .int .i64 (k : Int) ∧ Hid (DecI 81 w g w.heap.size qr B z1 z2 z3 z4 z5 z6 a c A1 c1 legs A2 c2 opts A3 c3 (rList (rPay pNum) k t).1 (rList (rPay pNum) k t).2 wr)) (fun vi _ => m - (intOf vi).toNat)
  case atStart => exact ⟨0, none, 0, Nat.zero_le _, rfl, HI⟩
  case round =>
    clear HI
    obtain ⟨k, A3, c3, hk, rfl, HI⟩ := hrel
    rename World => wo
    obtain ⟨R, hR⟩ : ∃ R, R = rList (rPay pNum) k t := ⟨_, rfl⟩
    rw [← hR] at HI
    have hll : R.1.length = k := by rw [hR]; exact rList_len _ _ _
    obtain ⟨ps, sk⟩ := R
    dsimp only at HI hll
    have HRK := Lib.hid hR
    have HLL := Lib.hid hll
    clear hR hll
    by_cases hlt : k < m
    · obtain ⟨rx, hrx⟩ : ∃ r, r = pNum sk := ⟨_, rfl⟩
      obtain ⟨x, sx⟩ := rx
      obtain ⟨ry, hry⟩ : ∃ r, r = pNum sx := ⟨_, rfl⟩
      obtain ⟨y, sy⟩ := ry
      obtain ⟨ru, hru⟩ : ∃ r, r = pNum sy := ⟨_, rfl⟩
      obtain ⟨u, su⟩ := ru
      obtain ⟨rv, hrv⟩ : ∃ r, r = pNum su := ⟨_, rfl⟩
      obtain ⟨v, sv⟩ := rv
      have HNX : Hid (rList (rPay pNum) (k + 1) t = (ps ++ [⟨x, y, u, v⟩], sv)) := by
        show _ = _
        rw [rList, ← HRK.out]
        simp only [rPay, ← hrx, ← hry, ← hru, ← hrv]
      have EX := Lib.hid hrx
      have EY := Lib.hid hry
      have EU := Lib.hid hru
      have EV := Lib.hid hrv
      clear hrx hry hru hrv
      go_wp2_with fail
      have HC := Lib.hid (pInteger_calls g w.heap.size sk wo HI.out.d HI.out.d.le)
      rw [← EX.out] at HC
      refine HC.out.mono ?_
      rintro e wi0 ⟨rfl, hr, ho⟩
      dsimp only at hr ⊢
      have HJ0 := Lib.hid (HI.out.next hr ho)
      clear hr ho HC HI
      go_wp2_with fail
      have HC := Lib.hid (pInteger_calls g w.heap.size sx wi0 HJ0.out.d HJ0.out.d.le)
      rw [← EY.out] at HC
      refine HC.out.mono ?_
      rintro e wi1 ⟨rfl, hr, ho⟩
      dsimp only at hr ⊢
      have HJ1 := Lib.hid (HJ0.out.next hr ho)
      clear hr ho HC HJ0
      go_wp2_with fail
      have HC := Lib.hid (pInteger_calls g w.heap.size sy wi1 HJ1.out.d HJ1.out.d.le)
      rw [← EU.out] at HC
      refine HC.out.mono ?_
      rintro e wi2 ⟨rfl, hr, ho⟩
      dsimp only at hr ⊢
      have HJ2 := Lib.hid (HJ1.out.next hr ho)
      clear hr ho HC HJ1
      go_wp2_with fail
      obtain ⟨q6, hq6⟩ : ∃ q, q = wi2.heap.size := ⟨_, rfl⟩
      obtain ⟨W0, hW0⟩ : ∃ W0, W0 = (wi2.alloc (.cells #[.int .i64 x, .int .i64 y, .int .i64 u] 53)).drew := ⟨_, rfl⟩
      have hS : Box3 q6 x y u W0 := by rw [hW0, hq6]; exact blk_new _ _
      have HI0 : Hid (DecI 81 w g w.heap.size qr B z1 z2 z3 z4 z5 z6 a c A1 c1 legs A2 c2 opts A3 c3 ps su W0) := by rw [hW0]; exact (HJ2.out.alloc _).drew
      have hqg : q6 ≠ g := by have := HJ2.out.d.lt; omega
      have hqa : q6 ≠ qr := by have := (Array.getElem?_eq_some_iff.1 HJ2.out.r).1; omega
      refine wp_region_held_drew (S := Box3 q6 x y u) (by kernel_rfl) (by rw [← hW0]; exact hS) ?_
      rw [← hW0, ← hq6]
      intro _
      clear hW0 HJ2 hq6
      refine wpAnyH_take (i := 0) rfl (by kernel_rfl) (by kernel_rfl) (by kernel_rfl) (fun _ _ _ h => h) (Or.inl ⟨by kernel_rfl, (by intro w' _; go_simp; with_reducible rfl)⟩) hS ?_
      go_simp
      refine wpAnyH_take (i := 2) (v := .agg #[.int .i64 x, .int .i64 y, .int .i64 u]) rfl (by kernel_rfl) (by kernel_rfl) (by kernel_rfl) (fun _ _ _ h => h) (Or.inl ⟨by kernel_rfl, (by intro w' hw'; obtain ⟨b0, b1, b2, _⟩ := three_of hw'; go_simp)⟩) hS ?_
      go_simp
      refine wpAnyH_take (i := 3) rfl (by kernel_rfl) (by kernel_rfl) (by kernel_rfl) (fun _ _ _ h => h) (Or.inl ⟨by kernel_rfl, (by intro w' _; go_simp; with_reducible rfl)⟩) hS ?_
      go_simp
      refine wpAnyH_ready (rs := [1, 4]) (by kernel_rfl) (by simp) ?_
      refine AllReadyH.cons rfl (fun K hK => ?_) (AllReadyH.cons rfl (fun K hK => ?_) AllReadyH.nil)
      · have kf := HI0.out.cells.2.2
        go_simp
        clear kf
        refine hK.out _ _ hS (fun _ => ?_)
        clear hK K
        refine wpAnyH_ready (rs := [4]) (by kernel_rfl) (by simp) ?_
        refine AllReadyH.cons rfl (fun K hK => ?_) AllReadyH.nil
        go_simp
        have HC := Lib.hid (pNumber_calls g w.heap.size su W0 HI0.out.d HI0.out.d.le)
        rw [← EV.out] at HC
        refine HC.out.mono ?_
        rintro e wc_1_4 ⟨rfl, hr, ho⟩
        dsimp only at hr ⊢
        have HI_1_4 := Lib.hid (HI0.out.next hr ho)
        have hS_1_4 : Box3 q6 x y u wc_1_4 := blk_only hS ho hqg
        clear hr ho HC
        refine hK.out _ _ hS_1_4 (fun _ => ?_)
        clear hK K
        refine wpAnyH_take (i := 5) (v := .agg #[.int .i64 x, .int .i64 y, .int .i64 u, .int .i64 v]) rfl (by kernel_rfl) (by kernel_rfl) (by kernel_rfl) (fun _ _ _ h => h) (Or.inl ⟨by kernel_rfl, (by intro w' _; go_simp)⟩) hS_1_4 ?_
        go_simp
        refine wpAnyH_ready (rs := [6]) (by kernel_rfl) (by simp) ?_
        refine AllReadyH.cons rfl (fun K hK => ?_) AllReadyH.nil
        go_simp
        have hS_1_4_6 : Box3 q6 x y u (wc_1_4.alloc (.cells #[.int .i64 x, .int .i64 y, .int .i64 u, .int .i64 v] 55)) := blk_alloc hS_1_4
        have HI_1_4_6 := Lib.hid (HI_1_4.out.alloc (.cells #[.int .i64 x, .int .i64 y, .int .i64 u, .int .i64 v] 55))
        have HK_1_4_6 := Lib.hid (blk_new wc_1_4 (.cells #[.int .i64 x, .int .i64 y, .int .i64 u, .int .i64 v] 55))
        refine hK.out _ _ hS_1_4_6 (fun _ => ?_)
        clear hK K
        refine wpAnyH_ready (rs := [7]) (by kernel_rfl) (by simp) ?_
        refine AllReadyH.cons rfl (fun K hK => ?_) AllReadyH.nil
        have hsz_ := HI_1_4_6.out.sz
        refine step_append_lies _ rfl (.tmp 32) (.tmp 37) 35 rfl B 55 i3 _ 4 32 Tryd.underlying35 HF3.out.1 HF3.out.2.1 HF3.out.2.2.1 HF3.out.2.2.2 rfl (by decide) (.slice A3 ps.length c3) ps.length (ps.flatMap payV) (by simp [Act.eval, Act.put]) HI_1_4_6.out.p ⟨wc_1_4.heap.size, 0, none⟩ 1 1 [.int .i64 x, .int .i64 y, .int .i64 u, .int .i64 v] (by simp [Act.eval, Act.put]) rfl (World.news_of_block HK_1_4_6.out) (by simp [Value.oneCell']) (by decide) (by have := HLL.out; simp only [maxLen]; omega) (by have := HLL.out; omega) hsz_ _ rfl ?_
        intro g' cap w' hown hgr hor hlt3
        have hg1 := blk_grown HI_1_4_6.out.p HI_1_4_6.out.r (by decide) hgr
        have HG1 := Lib.hid hg1
        have hS9 : Box3 q6 x y u w' := blk_grown HI_1_4_6.out.p hS_1_4_6 (by decide) hgr
        have HN9 := Lib.hid (HI_1_4_6.out.pay hown hgr)
        refine hK.out _ _ hS9 (fun _ => ?_)
        clear hK K hown hgr hor hg1
        refine wpAnyH_take (i := 8) rfl (by kernel_rfl) (by kernel_rfl) (by kernel_rfl) (fun _ _ _ h => h) (Or.inl ⟨by kernel_rfl, (by intro w' _; go_simp; with_reducible rfl)⟩) hS9 ?_
        go_simp
        have kf : w'.cell? ⟨qr, 14, none⟩ = some (.slice A3 ps.length c3) := by rw [cell_of_row w' qr 14 _ _ (0, 0) HG1.out]; rfl
        have ff : w'.frozen? ⟨qr, 14, none⟩ = false := frozen_of_row w' qr 14 _ _ HG1.out
        have lf : qr < w'.heap.size := (Array.getElem?_eq_some_iff.1 HG1.out).1
        refine wpAnyH_ready (rs := [9]) (by kernel_rfl) (by simp) ?_
        refine AllReadyH.cons rfl (fun K hK => ?_) AllReadyH.nil
        go_simp
        clear kf ff lf
        refine hK.out _ _ ((heap_setCell_other w' ⟨qr, 14, none⟩ q6 _ (by show q6 ≠ qr; exact hqa)).trans hS9) (fun _ => ?_)
        clear hK K
        refine wpAnyH_done (by kernel_rfl) ?_ _
        clear HG1 hS9
        go_wp2_with fail
        go_roundw
        case measure => simp [intOf]; omega
        case rel => exact ⟨k + 1, _, _, by omega, by go_num, by rw [HNX.out]; exact HN9⟩
      · go_simp
        have HC := Lib.hid (pNumber_calls g w.heap.size su W0 HI0.out.d HI0.out.d.le)
        rw [← EV.out] at HC
        refine HC.out.mono ?_
        rintro e wc_4 ⟨rfl, hr, ho⟩
        dsimp only at hr ⊢
        have HI_4 := Lib.hid (HI0.out.next hr ho)
        have hS_4 : Box3 q6 x y u wc_4 := blk_only hS ho hqg
        clear hr ho HC
        refine hK.out _ _ hS_4 (fun _ => ?_)
        clear hK K
        refine wpAnyH_take (i := 5) (v := .agg #[.int .i64 x, .int .i64 y, .int .i64 u, .int .i64 v]) rfl (by kernel_rfl) (by kernel_rfl) (by kernel_rfl) (fun _ _ _ h => h) (Or.inl ⟨by kernel_rfl, (by intro w' _; go_simp)⟩) hS_4 ?_
        go_simp
        refine wpAnyH_ready (rs := [1, 6]) (by kernel_rfl) (by simp) ?_
        refine AllReadyH.cons rfl (fun K hK => ?_) (AllReadyH.cons rfl (fun K hK => ?_) AllReadyH.nil)
        · have kf := HI_4.out.cells.2.2
          go_simp
          clear kf
          refine hK.out _ _ hS_4 (fun _ => ?_)
          clear hK K
          refine wpAnyH_ready (rs := [6]) (by kernel_rfl) (by simp) ?_
          refine AllReadyH.cons rfl (fun K hK => ?_) AllReadyH.nil
          go_simp
          have hS_4_1_6 : Box3 q6 x y u (wc_4.alloc (.cells #[.int .i64 x, .int .i64 y, .int .i64 u, .int .i64 v] 55)) := blk_alloc hS_4
          have HI_4_1_6 := Lib.hid (HI_4.out.alloc (.cells #[.int .i64 x, .int .i64 y, .int .i64 u, .int .i64 v] 55))
          have HK_4_1_6 := Lib.hid (blk_new wc_4 (.cells #[.int .i64 x, .int .i64 y, .int .i64 u, .int .i64 v] 55))
          refine hK.out _ _ hS_4_1_6 (fun _ => ?_)
          clear hK K
          refine wpAnyH_ready (rs := [7]) (by kernel_rfl) (by simp) ?_
          refine AllReadyH.cons rfl (fun K hK => ?_) AllReadyH.nil
          have hsz_ := HI_4_1_6.out.sz
          refine step_append_lies _ rfl (.tmp 32) (.tmp 37) 35 rfl B 55 i3 _ 4 32 Tryd.underlying35 HF3.out.1 HF3.out.2.1 HF3.out.2.2.1 HF3.out.2.2.2 rfl (by decide) (.slice A3 ps.length c3) ps.length (ps.flatMap payV) (by simp [Act.eval, Act.put]) HI_4_1_6.out.p ⟨wc_4.heap.size, 0, none⟩ 1 1 [.int .i64 x, .int .i64 y, .int .i64 u, .int .i64 v] (by simp [Act.eval, Act.put]) rfl (World.news_of_block HK_4_1_6.out) (by simp [Value.oneCell']) (by decide) (by have := HLL.out; simp only [maxLen]; omega) (by have := HLL.out; omega) hsz_ _ rfl ?_
          intro g' cap w' hown hgr hor hlt3
          have hg1 := blk_grown HI_4_1_6.out.p HI_4_1_6.out.r (by decide) hgr
          have HG1 := Lib.hid hg1
          have hS9 : Box3 q6 x y u w' := blk_grown HI_4_1_6.out.p hS_4_1_6 (by decide) hgr
          have HN9 := Lib.hid (HI_4_1_6.out.pay hown hgr)
          refine hK.out _ _ hS9 (fun _ => ?_)
          clear hK K hown hgr hor hg1
          refine wpAnyH_take (i := 8) rfl (by kernel_rfl) (by kernel_rfl) (by kernel_rfl) (fun _ _ _ h => h) (Or.inl ⟨by kernel_rfl, (by intro w' _; go_simp; with_reducible rfl)⟩) hS9 ?_
          go_simp
          have kf : w'.cell? ⟨qr, 14, none⟩ = some (.slice A3 ps.length c3) := by rw [cell_of_row w' qr 14 _ _ (0, 0) HG1.out]; rfl
          have ff : w'.frozen? ⟨qr, 14, none⟩ = false := frozen_of_row w' qr 14 _ _ HG1.out
          have lf : qr < w'.heap.size := (Array.getElem?_eq_some_iff.1 HG1.out).1
          refine wpAnyH_ready (rs := [9]) (by kernel_rfl) (by simp) ?_
          refine AllReadyH.cons rfl (fun K hK => ?_) AllReadyH.nil
          go_simp
          clear kf ff lf
          refine hK.out _ _ ((heap_setCell_other w' ⟨qr, 14, none⟩ q6 _ (by show q6 ≠ qr; exact hqa)).trans hS9) (fun _ => ?_)
          clear hK K
          refine wpAnyH_done (by kernel_rfl) ?_ _
          clear HG1 hS9
          go_wp2_with fail
          go_roundw
          case measure => simp [intOf]; omega
          case rel => exact ⟨k + 1, _, _, by omega, by go_num, by rw [HNX.out]; exact HN9⟩
        · go_simp
          have hS_4_6 : Box3 q6 x y u (wc_4.alloc (.cells #[.int .i64 x, .int .i64 y, .int .i64 u, .int .i64 v] 55)) := blk_alloc hS_4
          have HI_4_6 := Lib.hid (HI_4.out.alloc (.cells #[.int .i64 x, .int .i64 y, .int .i64 u, .int .i64 v] 55))
          have HK_4_6 := Lib.hid (blk_new wc_4 (.cells #[.int .i64 x, .int .i64 y, .int .i64 u, .int .i64 v] 55))
          refine hK.out _ _ hS_4_6 (fun _ => ?_)
          clear hK K
          refine wpAnyH_ready (rs := [1]) (by kernel_rfl) (by simp) ?_
          refine AllReadyH.cons rfl (fun K hK => ?_) AllReadyH.nil
          have kf := HI_4_6.out.cells.2.2
          go_simp
          clear kf
          refine hK.out _ _ hS_4_6 (fun _ => ?_)
          clear hK K
          refine wpAnyH_ready (rs := [7]) (by kernel_rfl) (by simp) ?_
          refine AllReadyH.cons rfl (fun K hK => ?_) AllReadyH.nil
          have hsz_ := HI_4_6.out.sz
          refine step_append_lies _ rfl (.tmp 32) (.tmp 37) 35 rfl B 55 i3 _ 4 32 Tryd.underlying35 HF3.out.1 HF3.out.2.1 HF3.out.2.2.1 HF3.out.2.2.2 rfl (by decide) (.slice A3 ps.length c3) ps.length (ps.flatMap payV) (by simp [Act.eval, Act.put]) HI_4_6.out.p ⟨wc_4.heap.size, 0, none⟩ 1 1 [.int .i64 x, .int .i64 y, .int .i64 u, .int .i64 v] (by simp [Act.eval, Act.put]) rfl (World.news_of_block HK_4_6.out) (by simp [Value.oneCell']) (by decide) (by have := HLL.out; simp only [maxLen]; omega) (by have := HLL.out; omega) hsz_ _ rfl ?_
          intro g' cap w' hown hgr hor hlt3
          have hg1 := blk_grown HI_4_6.out.p HI_4_6.out.r (by decide) hgr
          have HG1 := Lib.hid hg1
          have hS9 : Box3 q6 x y u w' := blk_grown HI_4_6.out.p hS_4_6 (by decide) hgr
          have HN9 := Lib.hid (HI_4_6.out.pay hown hgr)
          refine hK.out _ _ hS9 (fun _ => ?_)
          clear hK K hown hgr hor hg1
          refine wpAnyH_take (i := 8) rfl (by kernel_rfl) (by kernel_rfl) (by kernel_rfl) (fun _ _ _ h => h) (Or.inl ⟨by kernel_rfl, (by intro w' _; go_simp; with_reducible rfl)⟩) hS9 ?_
          go_simp
          have kf : w'.cell? ⟨qr, 14, none⟩ = some (.slice A3 ps.length c3) := by rw [cell_of_row w' qr 14 _ _ (0, 0) HG1.out]; rfl
          have ff : w'.frozen? ⟨qr, 14, none⟩ = false := frozen_of_row w' qr 14 _ _ HG1.out
          have lf : qr < w'.heap.size := (Array.getElem?_eq_some_iff.1 HG1.out).1
          refine wpAnyH_ready (rs := [9]) (by kernel_rfl) (by simp) ?_
          refine AllReadyH.cons rfl (fun K hK => ?_) AllReadyH.nil
          go_simp
          clear kf ff lf
          refine hK.out _ _ ((heap_setCell_other w' ⟨qr, 14, none⟩ q6 _ (by show q6 ≠ qr; exact hqa)).trans hS9) (fun _ => ?_)
          clear hK K
          refine wpAnyH_done (by kernel_rfl) ?_ _
          clear HG1 hS9
          go_wp2_with fail
          go_roundw
          case measure => simp [intOf]; omega
          case rel => exact ⟨k + 1, _, _, by omega, by go_num, by rw [HNX.out]; exact HN9⟩
    · have hkm : k = m := by omega
      have hE := HRK.out
      rw [hkm, ← EP.out] at hE
      obtain ⟨e1, e2⟩ : ps = pays ∧ sk = sp := by simpa using hE
      subst e1 e2
      clear hE HRK HLL hkm
      obtain ⟨Lf, bf⟩ := sk
      obtain ⟨Af, cf, k0, k1, f0, f1, lg, y1_, y2_, y3_, y4_, y5_, y6_⟩ := RdS.cells HI.out.d
      unfold maxLen at y4_
      clear y1_ y2_ y5_ y6_
      obtain ⟨nf, hnf⟩ : ∃ n, n = Lf.length := ⟨_, rfl⟩
      rw [← hnf] at k0 y3_
      have HNF := Lib.hid hnf
      clear hnf
      cases bf
      · by_cases hnp : 0 < nf
        · have hd0 : decide ((0 : Int) < (nf : Int)) = true := decide_eq_true (by omega)
          have hd0' : decide (0 < nf) = true := decide_eq_true hnp
          have HNO : Hid (decBy pNum pRat b = none) := HDB.out.trans (if_neg (fun h => by have := h.2.1; simp at this; have h2 := HNF.out; rw [this] at h2; simp at h2; omega))
          have hZ := HI.out.z
          unfold zeroRec at hZ
          have htb := there_block (n := 15) hZ (by decide)
          have HZQ : Hid ((wo.setCells w.heap.size 0 [.int .i64 0, .int .i64 0, .int .i64 0, .int .i64 0, .int .i64 0, .int .i64 0, .bool false, .string ⟨#[]⟩, .string ⟨#[]⟩, .bool false, .string ⟨#[]⟩, .string ⟨#[]⟩, .slice none 0 0, .slice none 0 0, .slice none 0 0]).heap[w.heap.size]? = some (.cells #[.int .i64 0, .int .i64 0, .int .i64 0, .int .i64 0, .int .i64 0, .int .i64 0, .bool false, .string ⟨#[]⟩, .string ⟨#[]⟩, .bool false, .string ⟨#[]⟩, .string ⟨#[]⟩, .slice none 0 0, .slice none 0 0, .slice none 0 0] 37 (0, 0))) := setCells_whole hZ rfl
          clear hZ
          go_wp2_with (refine wpList_store_mid rfl 37 (.tmp 2) (.tmp 53) rfl w.heap.size 0 #[.int .i64 0, .int .i64 0, .int .i64 0, .int .i64 0, .int .i64 0, .int .i64 0, .bool false, .string ⟨#[]⟩, .string ⟨#[]⟩, .bool false, .string ⟨#[]⟩, .string ⟨#[]⟩, .slice none 0 0, .slice none 0 0, .slice none 0 0] rfl rfl htb (by kernel_rfl) (by simp [Value.oneCell']) ?_)
          have v0_ : (wo.setCells w.heap.size 0 [.int .i64 0, .int .i64 0, .int .i64 0, .int .i64 0, .int .i64 0, .int .i64 0, .bool false, .string ⟨#[]⟩, .string ⟨#[]⟩, .bool false, .string ⟨#[]⟩, .string ⟨#[]⟩, .slice none 0 0, .slice none 0 0, .slice none 0 0]).cell? ⟨w.heap.size, 0, none⟩ = some (.int .i64 0) := by rw [cell_of_row _ w.heap.size 0 _ _ (0, 0) HZQ.out]; rfl
          have v1_ : (wo.setCells w.heap.size 0 [.int .i64 0, .int .i64 0, .int .i64 0, .int .i64 0, .int .i64 0, .int .i64 0, .bool false, .string ⟨#[]⟩, .string ⟨#[]⟩, .bool false, .string ⟨#[]⟩, .string ⟨#[]⟩, .slice none 0 0, .slice none 0 0, .slice none 0 0]).cell? ⟨w.heap.size, 1, none⟩ = some (.int .i64 0) := by rw [cell_of_row _ w.heap.size 1 _ _ (0, 0) HZQ.out]; rfl
          have v2_ : (wo.setCells w.heap.size 0 [.int .i64 0, .int .i64 0, .int .i64 0, .int .i64 0, .int .i64 0, .int .i64 0, .bool false, .string ⟨#[]⟩, .string ⟨#[]⟩, .bool false, .string ⟨#[]⟩, .string ⟨#[]⟩, .slice none 0 0, .slice none 0 0, .slice none 0 0]).cell? ⟨w.heap.size, 2, none⟩ = some (.int .i64 0) := by rw [cell_of_row _ w.heap.size 2 _ _ (0, 0) HZQ.out]; rfl
          have v3_ : (wo.setCells w.heap.size 0 [.int .i64 0, .int .i64 0, .int .i64 0, .int .i64 0, .int .i64 0, .int .i64 0, .bool false, .string ⟨#[]⟩, .string ⟨#[]⟩, .bool false, .string ⟨#[]⟩, .string ⟨#[]⟩, .slice none 0 0, .slice none 0 0, .slice none 0 0]).cell? ⟨w.heap.size, 3, none⟩ = some (.int .i64 0) := by rw [cell_of_row _ w.heap.size 3 _ _ (0, 0) HZQ.out]; rfl
          have v4_ : (wo.setCells w.heap.size 0 [.int .i64 0, .int .i64 0, .int .i64 0, .int .i64 0, .int .i64 0, .int .i64 0, .bool false, .string ⟨#[]⟩, .string ⟨#[]⟩, .bool false, .string ⟨#[]⟩, .string ⟨#[]⟩, .slice none 0 0, .slice none 0 0, .slice none 0 0]).cell? ⟨w.heap.size, 4, none⟩ = some (.int .i64 0) := by rw [cell_of_row _ w.heap.size 4 _ _ (0, 0) HZQ.out]; rfl
          have v5_ : (wo.setCells w.heap.size 0 [.int .i64 0, .int .i64 0, .int .i64 0, .int .i64 0, .int .i64 0, .int .i64 0, .bool false, .string ⟨#[]⟩, .string ⟨#[]⟩, .bool false, .string ⟨#[]⟩, .string ⟨#[]⟩, .slice none 0 0, .slice none 0 0, .slice none 0 0]).cell? ⟨w.heap.size, 5, none⟩ = some (.int .i64 0) := by rw [cell_of_row _ w.heap.size 5 _ _ (0, 0) HZQ.out]; rfl
          have v6_ : (wo.setCells w.heap.size 0 [.int .i64 0, .int .i64 0, .int .i64 0, .int .i64 0, .int .i64 0, .int .i64 0, .bool false, .string ⟨#[]⟩, .string ⟨#[]⟩, .bool false, .string ⟨#[]⟩, .string ⟨#[]⟩, .slice none 0 0, .slice none 0 0, .slice none 0 0]).cell? ⟨w.heap.size, 6, none⟩ = some (.bool false) := by rw [cell_of_row _ w.heap.size 6 _ _ (0, 0) HZQ.out]; rfl
          have v7_ : (wo.setCells w.heap.size 0 [.int .i64 0, .int .i64 0, .int .i64 0, .int .i64 0, .int .i64 0, .int .i64 0, .bool false, .string ⟨#[]⟩, .string ⟨#[]⟩, .bool false, .string ⟨#[]⟩, .string ⟨#[]⟩, .slice none 0 0, .slice none 0 0, .slice none 0 0]).cell? ⟨w.heap.size, 7, none⟩ = some (.string ⟨#[]⟩) := by rw [cell_of_row _ w.heap.size 7 _ _ (0, 0) HZQ.out]; rfl
          have v8_ : (wo.setCells w.heap.size 0 [.int .i64 0, .int .i64 0, .int .i64 0, .int .i64 0, .int .i64 0, .int .i64 0, .bool false, .string ⟨#[]⟩, .string ⟨#[]⟩, .bool false, .string ⟨#[]⟩, .string ⟨#[]⟩, .slice none 0 0, .slice none 0 0, .slice none 0 0]).cell? ⟨w.heap.size, 8, none⟩ = some (.string ⟨#[]⟩) := by rw [cell_of_row _ w.heap.size 8 _ _ (0, 0) HZQ.out]; rfl
          have v9_ : (wo.setCells w.heap.size 0 [.int .i64 0, .int .i64 0, .int .i64 0, .int .i64 0, .int .i64 0, .int .i64 0, .bool false, .string ⟨#[]⟩, .string ⟨#[]⟩, .bool false, .string ⟨#[]⟩, .string ⟨#[]⟩, .slice none 0 0, .slice none 0 0, .slice none 0 0]).cell? ⟨w.heap.size, 9, none⟩ = some (.bool false) := by rw [cell_of_row _ w.heap.size 9 _ _ (0, 0) HZQ.out]; rfl
          have v10_ : (wo.setCells w.heap.size 0 [.int .i64 0, .int .i64 0, .int .i64 0, .int .i64 0, .int .i64 0, .int .i64 0, .bool false, .string ⟨#[]⟩, .string ⟨#[]⟩, .bool false, .string ⟨#[]⟩, .string ⟨#[]⟩, .slice none 0 0, .slice none 0 0, .slice none 0 0]).cell? ⟨w.heap.size, 10, none⟩ = some (.string ⟨#[]⟩) := by rw [cell_of_row _ w.heap.size 10 _ _ (0, 0) HZQ.out]; rfl
          have v11_ : (wo.setCells w.heap.size 0 [.int .i64 0, .int .i64 0, .int .i64 0, .int .i64 0, .int .i64 0, .int .i64 0, .bool false, .string ⟨#[]⟩, .string ⟨#[]⟩, .bool false, .string ⟨#[]⟩, .string ⟨#[]⟩, .slice none 0 0, .slice none 0 0, .slice none 0 0]).cell? ⟨w.heap.size, 11, none⟩ = some (.string ⟨#[]⟩) := by rw [cell_of_row _ w.heap.size 11 _ _ (0, 0) HZQ.out]; rfl
          have v12_ : (wo.setCells w.heap.size 0 [.int .i64 0, .int .i64 0, .int .i64 0, .int .i64 0, .int .i64 0, .int .i64 0, .bool false, .string ⟨#[]⟩, .string ⟨#[]⟩, .bool false, .string ⟨#[]⟩, .string ⟨#[]⟩, .slice none 0 0, .slice none 0 0, .slice none 0 0]).cell? ⟨w.heap.size, 12, none⟩ = some (.slice none 0 0) := by rw [cell_of_row _ w.heap.size 12 _ _ (0, 0) HZQ.out]; rfl
          have v13_ : (wo.setCells w.heap.size 0 [.int .i64 0, .int .i64 0, .int .i64 0, .int .i64 0, .int .i64 0, .int .i64 0, .bool false, .string ⟨#[]⟩, .string ⟨#[]⟩, .bool false, .string ⟨#[]⟩, .string ⟨#[]⟩, .slice none 0 0, .slice none 0 0, .slice none 0 0]).cell? ⟨w.heap.size, 13, none⟩ = some (.slice none 0 0) := by rw [cell_of_row _ w.heap.size 13 _ _ (0, 0) HZQ.out]; rfl
          have v14_ : (wo.setCells w.heap.size 0 [.int .i64 0, .int .i64 0, .int .i64 0, .int .i64 0, .int .i64 0, .int .i64 0, .bool false, .string ⟨#[]⟩, .string ⟨#[]⟩, .bool false, .string ⟨#[]⟩, .string ⟨#[]⟩, .slice none 0 0, .slice none 0 0, .slice none 0 0]).cell? ⟨w.heap.size, 14, none⟩ = some (.slice none 0 0) := by rw [cell_of_row _ w.heap.size 14 _ _ (0, 0) HZQ.out]; rfl
          exact bodyPost_ret (v := .tuple #[.agg #[.int .i64 0, .int .i64 0, .int .i64 0, .int .i64 0, .int .i64 0, .int .i64 0, .bool false, .string ⟨#[]⟩, .string ⟨#[]⟩, .bool false, .string ⟨#[]⟩, .string ⟨#[]⟩, .slice none 0 0, .slice none 0 0, .slice none 0 0], .int .i64 44]) (by simp [results, Tryd.results19, go_sem, v0_, v1_, v2_, v3_, v4_, v5_, v6_, v7_, v8_, v9_, v10_, v11_, v12_, v13_, v14_]) rfl (DecPost.none HNO.out (below_setCells (Nat.le_refl _) _ 0 HI.out.b))
        · have hn0 : nf = 0 := by omega
          have hd0 : decide ((0 : Int) < (nf : Int)) = false := decide_eq_false (by omega)
          have hd0' : decide (0 < nf) = false := decide_eq_false (by omega)
          have hLf : Lf = [] := List.eq_nil_of_length_eq_zero (by rw [← HNF.out]; exact hn0)
          have HLF := Lib.hid hLf
          have hrc : wo.rangeAt qr 0 [.int .i64 z1, .int .i64 z2, .int .i64 z3, .int .i64 z4, .int .i64 z5, .int .i64 z6, .bool a.neg, .string a.num, .string a.den, .bool c.neg, .string c.num, .string c.den, .slice A1 legs.length c1, .slice A2 opts.length c2, .slice A3 ps.length c3] := fun j v hv => by
            rw [Nat.zero_add, cell_of_row wo qr j _ _ (0, 0) HI.out.r, ← hv]; simp
          obtain ⟨T, hT⟩ : ∃ T, T = recT (⟨z1, z2, z3, z4, z5, z6, a, c, legs, opts⟩, ps) := ⟨_, rfl⟩
          obtain ⟨ok, hok⟩ : ∃ ok, ok = recOk (⟨z1, z2, z3, z4, z5, z6, a, c, legs, opts⟩, ps) := ⟨_, rfl⟩
          have HFIT : Hid (RecFit z1 z2 z3 z4 z5 z6 a.neg a.num a.den c.neg c.num c.den A1 legs.length c1 A2 opts.length c2 A3 ps.length c3 legs opts ps wo) := by
            have hm4 : (4096 : Nat) ≤ maxLen := by unfold maxLen; omega
            have hb := HBL.out
            have f := HFI.out
            exact ⟨f.z, ⟨Nat.le_trans f.a.1 (by omega), Nat.le_trans f.a.2 (by omega)⟩, ⟨Nat.le_trans f.c.1 (by omega), Nat.le_trans f.c.2 (by omega)⟩, rfl, rfl, rfl, Rd.of_own HI.out.l, f.l, Rd.of_own HI.out.o, fun p hp => ⟨⟨Nat.le_trans (f.o p hp).1.1 (by omega), Nat.le_trans (f.o p hp).1.2 (by omega)⟩, (f.o p hp).2⟩, Rd.of_own HI.out.p, f.p, Nat.le_trans f.ll (by omega), Nat.le_trans f.ol (by omega), Nat.le_trans f.pl (by omega)⟩
          have HE := Lib.hid (encodeP z1 z2 z3 z4 z5 z6 a.neg a.num a.den c.neg c.num c.den A1 legs.length c1 A2 opts.length c2 A3 ps.length c3 legs opts ps wo HFIT.out T hT ok (by rw [hok, hT]; rfl))
          have HTB : Hid (Byt T) := by rw [hT]; exact encB_byt _ _ _ _ _ _
          rw [← hT, ← hok] at HDB
          clear hT hok hLf hn0
          go_wp2_with (refine wpList_load_mid rfl 37 (.tmp 5) rfl qr 0 rfl [.int .i64 z1, .int .i64 z2, .int .i64 z3, .int .i64 z4, .int .i64 z5, .int .i64 z6, .bool a.neg, .string a.num, .string a.den, .bool c.neg, .string c.num, .string c.den, .slice A1 legs.length c1, .slice A2 opts.length c2, .slice A3 ps.length c3] _ hrc Tryd.underlying37 rfl (by kernel_rfl) ?_)
          refine HE.out.mono ?_
          rintro e w5 ⟨A5, n5, c5, rfl, hk5, hb5⟩
          have HK5 := Lib.hid hk5
          have HB5 : Hid (Below w.heap.size w w5) := HI.out.b.trans (hb5.mono HI.out.b.size)
          have HZ5 := Lib.hid (blk_next HI.out.z hb5)
          have HR5 := Lib.hid (blk_next HI.out.r hb5)
          have HO5 := Lib.hid (And.intro (own_below HI.out.l hb5) (And.intro (own_below HI.out.o hb5) (own_below HI.out.p hb5)))
          clear hk5 hb5 HE hrc k0 k1 f0 f1 lg HFIT
          cases ok
          · have HNO : Hid (decBy pNum pRat b = none) := HDB.out.trans (if_neg (fun h => by have := h.2.2.1; cases this))
            have hZ := HZ5.out
            unfold zeroRec at hZ
            have htb := there_block (n := 15) hZ (by decide)
            have HZQ : Hid ((w5.setCells w.heap.size 0 [.int .i64 0, .int .i64 0, .int .i64 0, .int .i64 0, .int .i64 0, .int .i64 0, .bool false, .string ⟨#[]⟩, .string ⟨#[]⟩, .bool false, .string ⟨#[]⟩, .string ⟨#[]⟩, .slice none 0 0, .slice none 0 0, .slice none 0 0]).heap[w.heap.size]? = some (.cells #[.int .i64 0, .int .i64 0, .int .i64 0, .int .i64 0, .int .i64 0, .int .i64 0, .bool false, .string ⟨#[]⟩, .string ⟨#[]⟩, .bool false, .string ⟨#[]⟩, .string ⟨#[]⟩, .slice none 0 0, .slice none 0 0, .slice none 0 0] 37 (0, 0))) := setCells_whole hZ rfl
            clear hZ
            go_wp2_with (refine wpList_store_mid rfl 37 (.tmp 2) (.tmp 68) rfl w.heap.size 0 #[.int .i64 0, .int .i64 0, .int .i64 0, .int .i64 0, .int .i64 0, .int .i64 0, .bool false, .string ⟨#[]⟩, .string ⟨#[]⟩, .bool false, .string ⟨#[]⟩, .string ⟨#[]⟩, .slice none 0 0, .slice none 0 0, .slice none 0 0] rfl rfl htb (by kernel_rfl) (by simp [Value.oneCell']) ?_)
            have v0_ : (w5.setCells w.heap.size 0 [.int .i64 0, .int .i64 0, .int .i64 0, .int .i64 0, .int .i64 0, .int .i64 0, .bool false, .string ⟨#[]⟩, .string ⟨#[]⟩, .bool false, .string ⟨#[]⟩, .string ⟨#[]⟩, .slice none 0 0, .slice none 0 0, .slice none 0 0]).cell? ⟨w.heap.size, 0, none⟩ = some (.int .i64 0) := by rw [cell_of_row _ w.heap.size 0 _ _ (0, 0) HZQ.out]; rfl
            have v1_ : (w5.setCells w.heap.size 0 [.int .i64 0, .int .i64 0, .int .i64 0, .int .i64 0, .int .i64 0, .int .i64 0, .bool false, .string ⟨#[]⟩, .string ⟨#[]⟩, .bool false, .string ⟨#[]⟩, .string ⟨#[]⟩, .slice none 0 0, .slice none 0 0, .slice none 0 0]).cell? ⟨w.heap.size, 1, none⟩ = some (.int .i64 0) := by rw [cell_of_row _ w.heap.size 1 _ _ (0, 0) HZQ.out]; rfl
            have v2_ : (w5.setCells w.heap.size 0 [.int .i64 0, .int .i64 0, .int .i64 0, .int .i64 0, .int .i64 0, .int .i64 0, .bool false, .string ⟨#[]⟩, .string ⟨#[]⟩, .bool false, .string ⟨#[]⟩, .string ⟨#[]⟩, .slice none 0 0, .slice none 0 0, .slice none 0 0]).cell? ⟨w.heap.size, 2, none⟩ = some (.int .i64 0) := by rw [cell_of_row _ w.heap.size 2 _ _ (0, 0) HZQ.out]; rfl
            have v3_ : (w5.setCells w.heap.size 0 [.int .i64 0, .int .i64 0, .int .i64 0, .int .i64 0, .int .i64 0, .int .i64 0, .bool false, .string ⟨#[]⟩, .string ⟨#[]⟩, .bool false, .string ⟨#[]⟩, .string ⟨#[]⟩, .slice none 0 0, .slice none 0 0, .slice none 0 0]).cell? ⟨w.heap.size, 3, none⟩ = some (.int .i64 0) := by rw [cell_of_row _ w.heap.size 3 _ _ (0, 0) HZQ.out]; rfl
            have v4_ : (w5.setCells w.heap.size 0 [.int .i64 0, .int .i64 0, .int .i64 0, .int .i64 0, .int .i64 0, .int .i64 0, .bool false, .string ⟨#[]⟩, .string ⟨#[]⟩, .bool false, .string ⟨#[]⟩, .string ⟨#[]⟩, .slice none 0 0, .slice none 0 0, .slice none 0 0]).cell? ⟨w.heap.size, 4, none⟩ = some (.int .i64 0) := by rw [cell_of_row _ w.heap.size 4 _ _ (0, 0) HZQ.out]; rfl
            have v5_ : (w5.setCells w.heap.size 0 [.int .i64 0, .int .i64 0, .int .i64 0, .int .i64 0, .int .i64 0, .int .i64 0, .bool false, .string ⟨#[]⟩, .string ⟨#[]⟩, .bool false, .string ⟨#[]⟩, .string ⟨#[]⟩, .slice none 0 0, .slice none 0 0, .slice none 0 0]).cell? ⟨w.heap.size, 5, none⟩ = some (.int .i64 0) := by rw [cell_of_row _ w.heap.size 5 _ _ (0, 0) HZQ.out]; rfl
            have v6_ : (w5.setCells w.heap.size 0 [.int .i64 0, .int .i64 0, .int .i64 0, .int .i64 0, .int .i64 0, .int .i64 0, .bool false, .string ⟨#[]⟩, .string ⟨#[]⟩, .bool false, .string ⟨#[]⟩, .string ⟨#[]⟩, .slice none 0 0, .slice none 0 0, .slice none 0 0]).cell? ⟨w.heap.size, 6, none⟩ = some (.bool false) := by rw [cell_of_row _ w.heap.size 6 _ _ (0, 0) HZQ.out]; rfl
            have v7_ : (w5.setCells w.heap.size 0 [.int .i64 0, .int .i64 0, .int .i64 0, .int .i64 0, .int .i64 0, .int .i64 0, .bool false, .string ⟨#[]⟩, .string ⟨#[]⟩, .bool false, .string ⟨#[]⟩, .string ⟨#[]⟩, .slice none 0 0, .slice none 0 0, .slice none 0 0]).cell? ⟨w.heap.size, 7, none⟩ = some (.string ⟨#[]⟩) := by rw [cell_of_row _ w.heap.size 7 _ _ (0, 0) HZQ.out]; rfl
            have v8_ : (w5.setCells w.heap.size 0 [.int .i64 0, .int .i64 0, .int .i64 0, .int .i64 0, .int .i64 0, .int .i64 0, .bool false, .string ⟨#[]⟩, .string ⟨#[]⟩, .bool false, .string ⟨#[]⟩, .string ⟨#[]⟩, .slice none 0 0, .slice none 0 0, .slice none 0 0]).cell? ⟨w.heap.size, 8, none⟩ = some (.string ⟨#[]⟩) := by rw [cell_of_row _ w.heap.size 8 _ _ (0, 0) HZQ.out]; rfl
            have v9_ : (w5.setCells w.heap.size 0 [.int .i64 0, .int .i64 0, .int .i64 0, .int .i64 0, .int .i64 0, .int .i64 0, .bool false, .string ⟨#[]⟩, .string ⟨#[]⟩, .bool false, .string ⟨#[]⟩, .string ⟨#[]⟩, .slice none 0 0, .slice none 0 0, .slice none 0 0]).cell? ⟨w.heap.size, 9, none⟩ = some (.bool false) := by rw [cell_of_row _ w.heap.size 9 _ _ (0, 0) HZQ.out]; rfl
            have v10_ : (w5.setCells w.heap.size 0 [.int .i64 0, .int .i64 0, .int .i64 0, .int .i64 0, .int .i64 0, .int .i64 0, .bool false, .string ⟨#[]⟩, .string ⟨#[]⟩, .bool false, .string ⟨#[]⟩, .string ⟨#[]⟩, .slice none 0 0, .slice none 0 0, .slice none 0 0]).cell? ⟨w.heap.size, 10, none⟩ = some (.string ⟨#[]⟩) := by rw [cell_of_row _ w.heap.size 10 _ _ (0, 0) HZQ.out]; rfl
            have v11_ : (w5.setCells w.heap.size 0 [.int .i64 0, .int .i64 0, .int .i64 0, .int .i64 0, .int .i64 0, .int .i64 0, .bool false, .string ⟨#[]⟩, .string ⟨#[]⟩, .bool false, .string ⟨#[]⟩, .string ⟨#[]⟩, .slice none 0 0, .slice none 0 0, .slice none 0 0]).cell? ⟨w.heap.size, 11, none⟩ = some (.string ⟨#[]⟩) := by rw [cell_of_row _ w.heap.size 11 _ _ (0, 0) HZQ.out]; rfl
            have v12_ : (w5.setCells w.heap.size 0 [.int .i64 0, .int .i64 0, .int .i64 0, .int .i64 0, .int .i64 0, .int .i64 0, .bool false, .string ⟨#[]⟩, .string ⟨#[]⟩, .bool false, .string ⟨#[]⟩, .string ⟨#[]⟩, .slice none 0 0, .slice none 0 0, .slice none 0 0]).cell? ⟨w.heap.size, 12, none⟩ = some (.slice none 0 0) := by rw [cell_of_row _ w.heap.size 12 _ _ (0, 0) HZQ.out]; rfl
            have v13_ : (w5.setCells w.heap.size 0 [.int .i64 0, .int .i64 0, .int .i64 0, .int .i64 0, .int .i64 0, .int .i64 0, .bool false, .string ⟨#[]⟩, .string ⟨#[]⟩, .bool false, .string ⟨#[]⟩, .string ⟨#[]⟩, .slice none 0 0, .slice none 0 0, .slice none 0 0]).cell? ⟨w.heap.size, 13, none⟩ = some (.slice none 0 0) := by rw [cell_of_row _ w.heap.size 13 _ _ (0, 0) HZQ.out]; rfl
            have v14_ : (w5.setCells w.heap.size 0 [.int .i64 0, .int .i64 0, .int .i64 0, .int .i64 0, .int .i64 0, .int .i64 0, .bool false, .string ⟨#[]⟩, .string ⟨#[]⟩, .bool false, .string ⟨#[]⟩, .string ⟨#[]⟩, .slice none 0 0, .slice none 0 0, .slice none 0 0]).cell? ⟨w.heap.size, 14, none⟩ = some (.slice none 0 0) := by rw [cell_of_row _ w.heap.size 14 _ _ (0, 0) HZQ.out]; rfl
            exact bodyPost_ret (v := .tuple #[.agg #[.int .i64 0, .int .i64 0, .int .i64 0, .int .i64 0, .int .i64 0, .int .i64 0, .bool false, .string ⟨#[]⟩, .string ⟨#[]⟩, .bool false, .string ⟨#[]⟩, .string ⟨#[]⟩, .slice none 0 0, .slice none 0 0, .slice none 0 0], .int .i64 44]) (by simp [results, Tryd.results19, go_sem, v0_, v1_, v2_, v3_, v4_, v5_, v6_, v7_, v8_, v9_, v10_, v11_, v12_, v13_, v14_]) rfl (DecPost.none HNO.out (below_setCells (Nat.le_refl _) _ 0 HB5.out))
          · obtain ⟨hn5, hk5, _⟩ := HK5.out rfl
            have hcv5 := conv_bytes (P := Tryd.prog) w5 w5.heap.size 22 9 5 A5 T c5 Tryd.underlying22 Tryd.underlying5 Tryd.underlying9 hk5 HTB.out
            rw [← hn5] at hcv5
            have hcvb := HCV.out w5 HB5.out
            clear hk5 HK5 hn5
            by_cases hTb : T = b
            · have HSO : Hid (decBy pNum pRat b = some (⟨z1, z2, z3, z4, z5, z6, a, c, legs, opts⟩, ps)) := HDB.out.trans (if_pos ⟨HBL.out, by rw [HLF.out], rfl, hTb⟩)
              rw [hTb] at hcv5
              clear hTb
              have hrc : w5.rangeAt qr 0 [.int .i64 z1, .int .i64 z2, .int .i64 z3, .int .i64 z4, .int .i64 z5, .int .i64 z6, .bool a.neg, .string a.num, .string a.den, .bool c.neg, .string c.num, .string c.den, .slice A1 legs.length c1, .slice A2 opts.length c2, .slice A3 ps.length c3] := fun j v hv => by
                rw [Nat.zero_add, cell_of_row w5 qr j _ _ (0, 0) HR5.out, ← hv]; simp
              have hZ := HZ5.out
              unfold zeroRec at hZ
              have htb := there_block (n := 15) hZ (by decide)
              have HQ : Hid ((w5.setCells w.heap.size 0 [.int .i64 z1, .int .i64 z2, .int .i64 z3, .int .i64 z4, .int .i64 z5, .int .i64 z6, .bool a.neg, .string a.num, .string a.den, .bool c.neg, .string c.num, .string c.den, .slice A1 legs.length c1, .slice A2 opts.length c2, .slice A3 ps.length c3]).heap[w.heap.size]? = some (.cells #[.int .i64 z1, .int .i64 z2, .int .i64 z3, .int .i64 z4, .int .i64 z5, .int .i64 z6, .bool a.neg, .string a.num, .string a.den, .bool c.neg, .string c.num, .string c.den, .slice A1 legs.length c1, .slice A2 opts.length c2, .slice A3 ps.length c3] 37 (0, 0))) := setCells_whole hZ rfl
              have HL5 := Lib.hid (And.intro (Rd.of_own (own_sets (vs := [.int .i64 z1, .int .i64 z2, .int .i64 z3, .int .i64 z4, .int .i64 z5, .int .i64 z6, .bool a.neg, .string a.num, .string a.den, .bool c.neg, .string c.num, .string c.den, .slice A1 legs.length c1, .slice A2 opts.length c2, .slice A3 ps.length c3]) HO5.out.1 hZ (by decide))) (And.intro (Rd.of_own (own_sets (vs := [.int .i64 z1, .int .i64 z2, .int .i64 z3, .int .i64 z4, .int .i64 z5, .int .i64 z6, .bool a.neg, .string a.num, .string a.den, .bool c.neg, .string c.num, .string c.den, .slice A1 legs.length c1, .slice A2 opts.length c2, .slice A3 ps.length c3]) HO5.out.2.1 hZ (by decide))) (Rd.of_own (own_sets (vs := [.int .i64 z1, .int .i64 z2, .int .i64 z3, .int .i64 z4, .int .i64 z5, .int .i64 z6, .bool a.neg, .string a.num, .string a.den, .bool c.neg, .string c.num, .string c.den, .slice A1 legs.length c1, .slice A2 opts.length c2, .slice A3 ps.length c3]) HO5.out.2.2 hZ (by decide)))))
              clear hZ
              go_wp2_with (first | (refine wpList_load_mid rfl 37 (.tmp 5) rfl qr 0 rfl [.int .i64 z1, .int .i64 z2, .int .i64 z3, .int .i64 z4, .int .i64 z5, .int .i64 z6, .bool a.neg, .string a.num, .string a.den, .bool c.neg, .string c.num, .string c.den, .slice A1 legs.length c1, .slice A2 opts.length c2, .slice A3 ps.length c3] _ hrc Tryd.underlying37 rfl (by kernel_rfl) ?_) | (refine wpList_store_mid rfl 37 (.tmp 2) (.tmp 69) rfl w.heap.size 0 #[.int .i64 z1, .int .i64 z2, .int .i64 z3, .int .i64 z4, .int .i64 z5, .int .i64 z6, .bool a.neg, .string a.num, .string a.den, .bool c.neg, .string c.num, .string c.den, .slice A1 legs.length c1, .slice A2 opts.length c2, .slice A3 ps.length c3] rfl rfl htb (by kernel_rfl) (by simp [Value.oneCell']) ?_))
              have v0_ : (w5.setCells w.heap.size 0 [.int .i64 z1, .int .i64 z2, .int .i64 z3, .int .i64 z4, .int .i64 z5, .int .i64 z6, .bool a.neg, .string a.num, .string a.den, .bool c.neg, .string c.num, .string c.den, .slice A1 legs.length c1, .slice A2 opts.length c2, .slice A3 ps.length c3]).cell? ⟨w.heap.size, 0, none⟩ = some (.int .i64 z1) := by rw [cell_of_row _ w.heap.size 0 _ _ (0, 0) HQ.out]; rfl
              have v1_ : (w5.setCells w.heap.size 0 [.int .i64 z1, .int .i64 z2, .int .i64 z3, .int .i64 z4, .int .i64 z5, .int .i64 z6, .bool a.neg, .string a.num, .string a.den, .bool c.neg, .string c.num, .string c.den, .slice A1 legs.length c1, .slice A2 opts.length c2, .slice A3 ps.length c3]).cell? ⟨w.heap.size, 1, none⟩ = some (.int .i64 z2) := by rw [cell_of_row _ w.heap.size 1 _ _ (0, 0) HQ.out]; rfl
              have v2_ : (w5.setCells w.heap.size 0 [.int .i64 z1, .int .i64 z2, .int .i64 z3, .int .i64 z4, .int .i64 z5, .int .i64 z6, .bool a.neg, .string a.num, .string a.den, .bool c.neg, .string c.num, .string c.den, .slice A1 legs.length c1, .slice A2 opts.length c2, .slice A3 ps.length c3]).cell? ⟨w.heap.size, 2, none⟩ = some (.int .i64 z3) := by rw [cell_of_row _ w.heap.size 2 _ _ (0, 0) HQ.out]; rfl
              have v3_ : (w5.setCells w.heap.size 0 [.int .i64 z1, .int .i64 z2, .int .i64 z3, .int .i64 z4, .int .i64 z5, .int .i64 z6, .bool a.neg, .string a.num, .string a.den, .bool c.neg, .string c.num, .string c.den, .slice A1 legs.length c1, .slice A2 opts.length c2, .slice A3 ps.length c3]).cell? ⟨w.heap.size, 3, none⟩ = some (.int .i64 z4) := by rw [cell_of_row _ w.heap.size 3 _ _ (0, 0) HQ.out]; rfl
              have v4_ : (w5.setCells w.heap.size 0 [.int .i64 z1, .int .i64 z2, .int .i64 z3, .int .i64 z4, .int .i64 z5, .int .i64 z6, .bool a.neg, .string a.num, .string a.den, .bool c.neg, .string c.num, .string c.den, .slice A1 legs.length c1, .slice A2 opts.length c2, .slice A3 ps.length c3]).cell? ⟨w.heap.size, 4, none⟩ = some (.int .i64 z5) := by rw [cell_of_row _ w.heap.size 4 _ _ (0, 0) HQ.out]; rfl
              have v5_ : (w5.setCells w.heap.size 0 [.int .i64 z1, .int .i64 z2, .int .i64 z3, .int .i64 z4, .int .i64 z5, .int .i64 z6, .bool a.neg, .string a.num, .string a.den, .bool c.neg, .string c.num, .string c.den, .slice A1 legs.length c1, .slice A2 opts.length c2, .slice A3 ps.length c3]).cell? ⟨w.heap.size, 5, none⟩ = some (.int .i64 z6) := by rw [cell_of_row _ w.heap.size 5 _ _ (0, 0) HQ.out]; rfl
              have v6_ : (w5.setCells w.heap.size 0 [.int .i64 z1, .int .i64 z2, .int .i64 z3, .int .i64 z4, .int .i64 z5, .int .i64 z6, .bool a.neg, .string a.num, .string a.den, .bool c.neg, .string c.num, .string c.den, .slice A1 legs.length c1, .slice A2 opts.length c2, .slice A3 ps.length c3]).cell? ⟨w.heap.size, 6, none⟩ = some (.bool a.neg) := by rw [cell_of_row _ w.heap.size 6 _ _ (0, 0) HQ.out]; rfl
              have v7_ : (w5.setCells w.heap.size 0 [.int .i64 z1, .int .i64 z2, .int .i64 z3, .int .i64 z4, .int .i64 z5, .int .i64 z6, .bool a.neg, .string a.num, .string a.den, .bool c.neg, .string c.num, .string c.den, .slice A1 legs.length c1, .slice A2 opts.length c2, .slice A3 ps.length c3]).cell? ⟨w.heap.size, 7, none⟩ = some (.string a.num) := by rw [cell_of_row _ w.heap.size 7 _ _ (0, 0) HQ.out]; rfl
              have v8_ : (w5.setCells w.heap.size 0 [.int .i64 z1, .int .i64 z2, .int .i64 z3, .int .i64 z4, .int .i64 z5, .int .i64 z6, .bool a.neg, .string a.num, .string a.den, .bool c.neg, .string c.num, .string c.den, .slice A1 legs.length c1, .slice A2 opts.length c2, .slice A3 ps.length c3]).cell? ⟨w.heap.size, 8, none⟩ = some (.string a.den) := by rw [cell_of_row _ w.heap.size 8 _ _ (0, 0) HQ.out]; rfl
              have v9_ : (w5.setCells w.heap.size 0 [.int .i64 z1, .int .i64 z2, .int .i64 z3, .int .i64 z4, .int .i64 z5, .int .i64 z6, .bool a.neg, .string a.num, .string a.den, .bool c.neg, .string c.num, .string c.den, .slice A1 legs.length c1, .slice A2 opts.length c2, .slice A3 ps.length c3]).cell? ⟨w.heap.size, 9, none⟩ = some (.bool c.neg) := by rw [cell_of_row _ w.heap.size 9 _ _ (0, 0) HQ.out]; rfl
              have v10_ : (w5.setCells w.heap.size 0 [.int .i64 z1, .int .i64 z2, .int .i64 z3, .int .i64 z4, .int .i64 z5, .int .i64 z6, .bool a.neg, .string a.num, .string a.den, .bool c.neg, .string c.num, .string c.den, .slice A1 legs.length c1, .slice A2 opts.length c2, .slice A3 ps.length c3]).cell? ⟨w.heap.size, 10, none⟩ = some (.string c.num) := by rw [cell_of_row _ w.heap.size 10 _ _ (0, 0) HQ.out]; rfl
              have v11_ : (w5.setCells w.heap.size 0 [.int .i64 z1, .int .i64 z2, .int .i64 z3, .int .i64 z4, .int .i64 z5, .int .i64 z6, .bool a.neg, .string a.num, .string a.den, .bool c.neg, .string c.num, .string c.den, .slice A1 legs.length c1, .slice A2 opts.length c2, .slice A3 ps.length c3]).cell? ⟨w.heap.size, 11, none⟩ = some (.string c.den) := by rw [cell_of_row _ w.heap.size 11 _ _ (0, 0) HQ.out]; rfl
              have v12_ : (w5.setCells w.heap.size 0 [.int .i64 z1, .int .i64 z2, .int .i64 z3, .int .i64 z4, .int .i64 z5, .int .i64 z6, .bool a.neg, .string a.num, .string a.den, .bool c.neg, .string c.num, .string c.den, .slice A1 legs.length c1, .slice A2 opts.length c2, .slice A3 ps.length c3]).cell? ⟨w.heap.size, 12, none⟩ = some (.slice A1 legs.length c1) := by rw [cell_of_row _ w.heap.size 12 _ _ (0, 0) HQ.out]; rfl
              have v13_ : (w5.setCells w.heap.size 0 [.int .i64 z1, .int .i64 z2, .int .i64 z3, .int .i64 z4, .int .i64 z5, .int .i64 z6, .bool a.neg, .string a.num, .string a.den, .bool c.neg, .string c.num, .string c.den, .slice A1 legs.length c1, .slice A2 opts.length c2, .slice A3 ps.length c3]).cell? ⟨w.heap.size, 13, none⟩ = some (.slice A2 opts.length c2) := by rw [cell_of_row _ w.heap.size 13 _ _ (0, 0) HQ.out]; rfl
              have v14_ : (w5.setCells w.heap.size 0 [.int .i64 z1, .int .i64 z2, .int .i64 z3, .int .i64 z4, .int .i64 z5, .int .i64 z6, .bool a.neg, .string a.num, .string a.den, .bool c.neg, .string c.num, .string c.den, .slice A1 legs.length c1, .slice A2 opts.length c2, .slice A3 ps.length c3]).cell? ⟨w.heap.size, 14, none⟩ = some (.slice A3 ps.length c3) := by rw [cell_of_row _ w.heap.size 14 _ _ (0, 0) HQ.out]; rfl
              refine bodyPost_ret (v := .tuple #[.agg #[.int .i64 z1, .int .i64 z2, .int .i64 z3, .int .i64 z4, .int .i64 z5, .int .i64 z6, .bool a.neg, .string a.num, .string a.den, .bool c.neg, .string c.num, .string c.den, .slice A1 legs.length c1, .slice A2 opts.length c2, .slice A3 ps.length c3], .int .i64 0]) (by simp [results, Tryd.results19, go_sem, v0_, v1_, v2_, v3_, v4_, v5_, v6_, v7_, v8_, v9_, v10_, v11_, v12_, v13_, v14_]) rfl ?_
              refine ⟨(fun h => by rw [HSO.out] at h; cases h), (fun r hr => ?_), below_setCells (Nat.le_refl _) _ 0 HB5.out⟩
              rw [HSO.out] at hr
              simp only [Option.some.injEq] at hr
              subst hr
              exact ⟨A1, c1, A2, c2, A3, c3, rfl, HL5.out.1, HL5.out.2.1, HL5.out.2.2⟩
            · have hne : ((nstr T).toList == (nstr b).toList) = false := beq_eq_false_iff_ne.2 (fun h => hTb (nstr_inj HTB.out HKB.out.2.1 h))
              have HNE := Lib.hid hTb
              obtain ⟨uT, huT⟩ : ∃ s, s = nstr T := ⟨_, rfl⟩
              obtain ⟨ub, hub⟩ : ∃ s, s = nstr b := ⟨_, rfl⟩
              rw [← huT] at hcv5 hne
              rw [← hub] at hcvb hne
              clear hTb huT hub
              have HNO : Hid (decBy pNum pRat b = none) := HDB.out.trans (if_neg (fun h => HNE.out h.2.2.2))
              have hZ := HZ5.out
              unfold zeroRec at hZ
              have htb := there_block (n := 15) hZ (by decide)
              have HZQ : Hid ((w5.setCells w.heap.size 0 [.int .i64 0, .int .i64 0, .int .i64 0, .int .i64 0, .int .i64 0, .int .i64 0, .bool false, .string ⟨#[]⟩, .string ⟨#[]⟩, .bool false, .string ⟨#[]⟩, .string ⟨#[]⟩, .slice none 0 0, .slice none 0 0, .slice none 0 0]).heap[w.heap.size]? = some (.cells #[.int .i64 0, .int .i64 0, .int .i64 0, .int .i64 0, .int .i64 0, .int .i64 0, .bool false, .string ⟨#[]⟩, .string ⟨#[]⟩, .bool false, .string ⟨#[]⟩, .string ⟨#[]⟩, .slice none 0 0, .slice none 0 0, .slice none 0 0] 37 (0, 0))) := setCells_whole hZ rfl
              clear hZ
              go_wp2_with (refine wpList_store_mid rfl 37 (.tmp 2) (.tmp 68) rfl w.heap.size 0 #[.int .i64 0, .int .i64 0, .int .i64 0, .int .i64 0, .int .i64 0, .int .i64 0, .bool false, .string ⟨#[]⟩, .string ⟨#[]⟩, .bool false, .string ⟨#[]⟩, .string ⟨#[]⟩, .slice none 0 0, .slice none 0 0, .slice none 0 0] rfl rfl htb (by kernel_rfl) (by simp [Value.oneCell']) ?_)
              have v0_ : (w5.setCells w.heap.size 0 [.int .i64 0, .int .i64 0, .int .i64 0, .int .i64 0, .int .i64 0, .int .i64 0, .bool false, .string ⟨#[]⟩, .string ⟨#[]⟩, .bool false, .string ⟨#[]⟩, .string ⟨#[]⟩, .slice none 0 0, .slice none 0 0, .slice none 0 0]).cell? ⟨w.heap.size, 0, none⟩ = some (.int .i64 0) := by rw [cell_of_row _ w.heap.size 0 _ _ (0, 0) HZQ.out]; rfl
              have v1_ : (w5.setCells w.heap.size 0 [.int .i64 0, .int .i64 0, .int .i64 0, .int .i64 0, .int .i64 0, .int .i64 0, .bool false, .string ⟨#[]⟩, .string ⟨#[]⟩, .bool false, .string ⟨#[]⟩, .string ⟨#[]⟩, .slice none 0 0, .slice none 0 0, .slice none 0 0]).cell? ⟨w.heap.size, 1, none⟩ = some (.int .i64 0) := by rw [cell_of_row _ w.heap.size 1 _ _ (0, 0) HZQ.out]; rfl
              have v2_ : (w5.setCells w.heap.size 0 [.int .i64 0, .int .i64 0, .int .i64 0, .int .i64 0, .int .i64 0, .int .i64 0, .bool false, .string ⟨#[]⟩, .string ⟨#[]⟩, .bool false, .string ⟨#[]⟩, .string ⟨#[]⟩, .slice none 0 0, .slice none 0 0, .slice none 0 0]).cell? ⟨w.heap.size, 2, none⟩ = some (.int .i64 0) := by rw [cell_of_row _ w.heap.size 2 _ _ (0, 0) HZQ.out]; rfl
              have v3_ : (w5.setCells w.heap.size 0 [.int .i64 0, .int .i64 0, .int .i64 0, .int .i64 0, .int .i64 0, .int .i64 0, .bool false, .string ⟨#[]⟩, .string ⟨#[]⟩, .bool false, .string ⟨#[]⟩, .string ⟨#[]⟩, .slice none 0 0, .slice none 0 0, .slice none 0 0]).cell? ⟨w.heap.size, 3, none⟩ = some (.int .i64 0) := by rw [cell_of_row _ w.heap.size 3 _ _ (0, 0) HZQ.out]; rfl
              have v4_ : (w5.setCells w.heap.size 0 [.int .i64 0, .int .i64 0, .int .i64 0, .int .i64 0, .int .i64 0, .int .i64 0, .bool false, .string ⟨#[]⟩, .string ⟨#[]⟩, .bool false, .string ⟨#[]⟩, .string ⟨#[]⟩, .slice none 0 0, .slice none 0 0, .slice none 0 0]).cell? ⟨w.heap.size, 4, none⟩ = some (.int .i64 0) := by rw [cell_of_row _ w.heap.size 4 _ _ (0, 0) HZQ.out]; rfl
              have v5_ : (w5.setCells w.heap.size 0 [.int .i64 0, .int .i64 0, .int .i64 0, .int .i64 0, .int .i64 0, .int .i64 0, .bool false, .string ⟨#[]⟩, .string ⟨#[]⟩, .bool false, .string ⟨#[]⟩, .string ⟨#[]⟩, .slice none 0 0, .slice none 0 0, .slice none 0 0]).cell? ⟨w.heap.size, 5, none⟩ = some (.int .i64 0) := by rw [cell_of_row _ w.heap.size 5 _ _ (0, 0) HZQ.out]; rfl
              have v6_ : (w5.setCells w.heap.size 0 [.int .i64 0, .int .i64 0, .int .i64 0, .int .i64 0, .int .i64 0, .int .i64 0, .bool false, .string ⟨#[]⟩, .string ⟨#[]⟩, .bool false, .string ⟨#[]⟩, .string ⟨#[]⟩, .slice none 0 0, .slice none 0 0, .slice none 0 0]).cell? ⟨w.heap.size, 6, none⟩ = some (.bool false) := by rw [cell_of_row _ w.heap.size 6 _ _ (0, 0) HZQ.out]; rfl
              have v7_ : (w5.setCells w.heap.size 0 [.int .i64 0, .int .i64 0, .int .i64 0, .int .i64 0, .int .i64 0, .int .i64 0, .bool false, .string ⟨#[]⟩, .string ⟨#[]⟩, .bool false, .string ⟨#[]⟩, .string ⟨#[]⟩, .slice none 0 0, .slice none 0 0, .slice none 0 0]).cell? ⟨w.heap.size, 7, none⟩ = some (.string ⟨#[]⟩) := by rw [cell_of_row _ w.heap.size 7 _ _ (0, 0) HZQ.out]; rfl
              have v8_ : (w5.setCells w.heap.size 0 [.int .i64 0, .int .i64 0, .int .i64 0, .int .i64 0, .int .i64 0, .int .i64 0, .bool false, .string ⟨#[]⟩, .string ⟨#[]⟩, .bool false, .string ⟨#[]⟩, .string ⟨#[]⟩, .slice none 0 0, .slice none 0 0, .slice none 0 0]).cell? ⟨w.heap.size, 8, none⟩ = some (.string ⟨#[]⟩) := by rw [cell_of_row _ w.heap.size 8 _ _ (0, 0) HZQ.out]; rfl
              have v9_ : (w5.setCells w.heap.size 0 [.int .i64 0, .int .i64 0, .int .i64 0, .int .i64 0, .int .i64 0, .int .i64 0, .bool false, .string ⟨#[]⟩, .string ⟨#[]⟩, .bool false, .string ⟨#[]⟩, .string ⟨#[]⟩, .slice none 0 0, .slice none 0 0, .slice none 0 0]).cell? ⟨w.heap.size, 9, none⟩ = some (.bool false) := by rw [cell_of_row _ w.heap.size 9 _ _ (0, 0) HZQ.out]; rfl
              have v10_ : (w5.setCells w.heap.size 0 [.int .i64 0, .int .i64 0, .int .i64 0, .int .i64 0, .int .i64 0, .int .i64 0, .bool false, .string ⟨#[]⟩, .string ⟨#[]⟩, .bool false, .string ⟨#[]⟩, .string ⟨#[]⟩, .slice none 0 0, .slice none 0 0, .slice none 0 0]).cell? ⟨w.heap.size, 10, none⟩ = some (.string ⟨#[]⟩) := by rw [cell_of_row _ w.heap.size 10 _ _ (0, 0) HZQ.out]; rfl
              have v11_ : (w5.setCells w.heap.size 0 [.int .i64 0, .int .i64 0, .int .i64 0, .int .i64 0, .int .i64 0, .int .i64 0, .bool false, .string ⟨#[]⟩, .string ⟨#[]⟩, .bool false, .string ⟨#[]⟩, .string ⟨#[]⟩, .slice none 0 0, .slice none 0 0, .slice none 0 0]).cell? ⟨w.heap.size, 11, none⟩ = some (.string ⟨#[]⟩) := by rw [cell_of_row _ w.heap.size 11 _ _ (0, 0) HZQ.out]; rfl
              have v12_ : (w5.setCells w.heap.size 0 [.int .i64 0, .int .i64 0, .int .i64 0, .int .i64 0, .int .i64 0, .int .i64 0, .bool false, .string ⟨#[]⟩, .string ⟨#[]⟩, .bool false, .string ⟨#[]⟩, .string ⟨#[]⟩, .slice none 0 0, .slice none 0 0, .slice none 0 0]).cell? ⟨w.heap.size, 12, none⟩ = some (.slice none 0 0) := by rw [cell_of_row _ w.heap.size 12 _ _ (0, 0) HZQ.out]; rfl
              have v13_ : (w5.setCells w.heap.size 0 [.int .i64 0, .int .i64 0, .int .i64 0, .int .i64 0, .int .i64 0, .int .i64 0, .bool false, .string ⟨#[]⟩, .string ⟨#[]⟩, .bool false, .string ⟨#[]⟩, .string ⟨#[]⟩, .slice none 0 0, .slice none 0 0, .slice none 0 0]).cell? ⟨w.heap.size, 13, none⟩ = some (.slice none 0 0) := by rw [cell_of_row _ w.heap.size 13 _ _ (0, 0) HZQ.out]; rfl
              have v14_ : (w5.setCells w.heap.size 0 [.int .i64 0, .int .i64 0, .int .i64 0, .int .i64 0, .int .i64 0, .int .i64 0, .bool false, .string ⟨#[]⟩, .string ⟨#[]⟩, .bool false, .string ⟨#[]⟩, .string ⟨#[]⟩, .slice none 0 0, .slice none 0 0, .slice none 0 0]).cell? ⟨w.heap.size, 14, none⟩ = some (.slice none 0 0) := by rw [cell_of_row _ w.heap.size 14 _ _ (0, 0) HZQ.out]; rfl
              exact bodyPost_ret (v := .tuple #[.agg #[.int .i64 0, .int .i64 0, .int .i64 0, .int .i64 0, .int .i64 0, .int .i64 0, .bool false, .string ⟨#[]⟩, .string ⟨#[]⟩, .bool false, .string ⟨#[]⟩, .string ⟨#[]⟩, .slice none 0 0, .slice none 0 0, .slice none 0 0], .int .i64 44]) (by simp [results, Tryd.results19, go_sem, v0_, v1_, v2_, v3_, v4_, v5_, v6_, v7_, v8_, v9_, v10_, v11_, v12_, v13_, v14_]) rfl (DecPost.none HNO.out (below_setCells (Nat.le_refl _) _ 0 HB5.out))
      · have HNO : Hid (decBy pNum pRat b = none) := HDB.out.trans (if_neg (fun h => by have := h.2.1; simp at this))
        have hZ := HI.out.z
        unfold zeroRec at hZ
        have htb := there_block (n := 15) hZ (by decide)
        have HZQ : Hid ((wo.setCells w.heap.size 0 [.int .i64 0, .int .i64 0, .int .i64 0, .int .i64 0, .int .i64 0, .int .i64 0, .bool false, .string ⟨#[]⟩, .string ⟨#[]⟩, .bool false, .string ⟨#[]⟩, .string ⟨#[]⟩, .slice none 0 0, .slice none 0 0, .slice none 0 0]).heap[w.heap.size]? = some (.cells #[.int .i64 0, .int .i64 0, .int .i64 0, .int .i64 0, .int .i64 0, .int .i64 0, .bool false, .string ⟨#[]⟩, .string ⟨#[]⟩, .bool false, .string ⟨#[]⟩, .string ⟨#[]⟩, .slice none 0 0, .slice none 0 0, .slice none 0 0] 37 (0, 0))) := setCells_whole hZ rfl
        clear hZ
        go_wp2_with (refine wpList_store_mid rfl 37 (.tmp 2) (.tmp 53) rfl w.heap.size 0 #[.int .i64 0, .int .i64 0, .int .i64 0, .int .i64 0, .int .i64 0, .int .i64 0, .bool false, .string ⟨#[]⟩, .string ⟨#[]⟩, .bool false, .string ⟨#[]⟩, .string ⟨#[]⟩, .slice none 0 0, .slice none 0 0, .slice none 0 0] rfl rfl htb (by kernel_rfl) (by simp [Value.oneCell']) ?_)
        have v0_ : (wo.setCells w.heap.size 0 [.int .i64 0, .int .i64 0, .int .i64 0, .int .i64 0, .int .i64 0, .int .i64 0, .bool false, .string ⟨#[]⟩, .string ⟨#[]⟩, .bool false, .string ⟨#[]⟩, .string ⟨#[]⟩, .slice none 0 0, .slice none 0 0, .slice none 0 0]).cell? ⟨w.heap.size, 0, none⟩ = some (.int .i64 0) := by rw [cell_of_row _ w.heap.size 0 _ _ (0, 0) HZQ.out]; rfl
        have v1_ : (wo.setCells w.heap.size 0 [.int .i64 0, .int .i64 0, .int .i64 0, .int .i64 0, .int .i64 0, .int .i64 0, .bool false, .string ⟨#[]⟩, .string ⟨#[]⟩, .bool false, .string ⟨#[]⟩, .string ⟨#[]⟩, .slice none 0 0, .slice none 0 0, .slice none 0 0]).cell? ⟨w.heap.size, 1, none⟩ = some (.int .i64 0) := by rw [cell_of_row _ w.heap.size 1 _ _ (0, 0) HZQ.out]; rfl
        have v2_ : (wo.setCells w.heap.size 0 [.int .i64 0, .int .i64 0, .int .i64 0, .int .i64 0, .int .i64 0, .int .i64 0, .bool false, .string ⟨#[]⟩, .string ⟨#[]⟩, .bool false, .string ⟨#[]⟩, .string ⟨#[]⟩, .slice none 0 0, .slice none 0 0, .slice none 0 0]).cell? ⟨w.heap.size, 2, none⟩ = some (.int .i64 0) := by rw [cell_of_row _ w.heap.size 2 _ _ (0, 0) HZQ.out]; rfl
        have v3_ : (wo.setCells w.heap.size 0 [.int .i64 0, .int .i64 0, .int .i64 0, .int .i64 0, .int .i64 0, .int .i64 0, .bool false, .string ⟨#[]⟩, .string ⟨#[]⟩, .bool false, .string ⟨#[]⟩, .string ⟨#[]⟩, .slice none 0 0, .slice none 0 0, .slice none 0 0]).cell? ⟨w.heap.size, 3, none⟩ = some (.int .i64 0) := by rw [cell_of_row _ w.heap.size 3 _ _ (0, 0) HZQ.out]; rfl
        have v4_ : (wo.setCells w.heap.size 0 [.int .i64 0, .int .i64 0, .int .i64 0, .int .i64 0, .int .i64 0, .int .i64 0, .bool false, .string ⟨#[]⟩, .string ⟨#[]⟩, .bool false, .string ⟨#[]⟩, .string ⟨#[]⟩, .slice none 0 0, .slice none 0 0, .slice none 0 0]).cell? ⟨w.heap.size, 4, none⟩ = some (.int .i64 0) := by rw [cell_of_row _ w.heap.size 4 _ _ (0, 0) HZQ.out]; rfl
        have v5_ : (wo.setCells w.heap.size 0 [.int .i64 0, .int .i64 0, .int .i64 0, .int .i64 0, .int .i64 0, .int .i64 0, .bool false, .string ⟨#[]⟩, .string ⟨#[]⟩, .bool false, .string ⟨#[]⟩, .string ⟨#[]⟩, .slice none 0 0, .slice none 0 0, .slice none 0 0]).cell? ⟨w.heap.size, 5, none⟩ = some (.int .i64 0) := by rw [cell_of_row _ w.heap.size 5 _ _ (0, 0) HZQ.out]; rfl
        have v6_ : (wo.setCells w.heap.size 0 [.int .i64 0, .int .i64 0, .int .i64 0, .int .i64 0, .int .i64 0, .int .i64 0, .bool false, .string ⟨#[]⟩, .string ⟨#[]⟩, .bool false, .string ⟨#[]⟩, .string ⟨#[]⟩, .slice none 0 0, .slice none 0 0, .slice none 0 0]).cell? ⟨w.heap.size, 6, none⟩ = some (.bool false) := by rw [cell_of_row _ w.heap.size 6 _ _ (0, 0) HZQ.out]; rfl
        have v7_ : (wo.setCells w.heap.size 0 [.int .i64 0, .int .i64 0, .int .i64 0, .int .i64 0, .int .i64 0, .int .i64 0, .bool false, .string ⟨#[]⟩, .string ⟨#[]⟩, .bool false, .string ⟨#[]⟩, .string ⟨#[]⟩, .slice none 0 0, .slice none 0 0, .slice none 0 0]).cell? ⟨w.heap.size, 7, none⟩ = some (.string ⟨#[]⟩) := by rw [cell_of_row _ w.heap.size 7 _ _ (0, 0) HZQ.out]; rfl
        have v8_ : (wo.setCells w.heap.size 0 [.int .i64 0, .int .i64 0, .int .i64 0, .int .i64 0, .int .i64 0, .int .i64 0, .bool false, .string ⟨#[]⟩, .string ⟨#[]⟩, .bool false, .string ⟨#[]⟩, .string ⟨#[]⟩, .slice none 0 0, .slice none 0 0, .slice none 0 0]).cell? ⟨w.heap.size, 8, none⟩ = some (.string ⟨#[]⟩) := by rw [cell_of_row _ w.heap.size 8 _ _ (0, 0) HZQ.out]; rfl
        have v9_ : (wo.setCells w.heap.size 0 [.int .i64 0, .int .i64 0, .int .i64 0, .int .i64 0, .int .i64 0, .int .i64 0, .bool false, .string ⟨#[]⟩, .string ⟨#[]⟩, .bool false, .string ⟨#[]⟩, .string ⟨#[]⟩, .slice none 0 0, .slice none 0 0, .slice none 0 0]).cell? ⟨w.heap.size, 9, none⟩ = some (.bool false) := by rw [cell_of_row _ w.heap.size 9 _ _ (0, 0) HZQ.out]; rfl
        have v10_ : (wo.setCells w.heap.size 0 [.int .i64 0, .int .i64 0, .int .i64 0, .int .i64 0, .int .i64 0, .int .i64 0, .bool false, .string ⟨#[]⟩, .string ⟨#[]⟩, .bool false, .string ⟨#[]⟩, .string ⟨#[]⟩, .slice none 0 0, .slice none 0 0, .slice none 0 0]).cell? ⟨w.heap.size, 10, none⟩ = some (.string ⟨#[]⟩) := by rw [cell_of_row _ w.heap.size 10 _ _ (0, 0) HZQ.out]; rfl
        have v11_ : (wo.setCells w.heap.size 0 [.int .i64 0, .int .i64 0, .int .i64 0, .int .i64 0, .int .i64 0, .int .i64 0, .bool false, .string ⟨#[]⟩, .string ⟨#[]⟩, .bool false, .string ⟨#[]⟩, .string ⟨#[]⟩, .slice none 0 0, .slice none 0 0, .slice none 0 0]).cell? ⟨w.heap.size, 11, none⟩ = some (.string ⟨#[]⟩) := by rw [cell_of_row _ w.heap.size 11 _ _ (0, 0) HZQ.out]; rfl
        have v12_ : (wo.setCells w.heap.size 0 [.int .i64 0, .int .i64 0, .int .i64 0, .int .i64 0, .int .i64 0, .int .i64 0, .bool false, .string ⟨#[]⟩, .string ⟨#[]⟩, .bool false, .string ⟨#[]⟩, .string ⟨#[]⟩, .slice none 0 0, .slice none 0 0, .slice none 0 0]).cell? ⟨w.heap.size, 12, none⟩ = some (.slice none 0 0) := by rw [cell_of_row _ w.heap.size 12 _ _ (0, 0) HZQ.out]; rfl
        have v13_ : (wo.setCells w.heap.size 0 [.int .i64 0, .int .i64 0, .int .i64 0, .int .i64 0, .int .i64 0, .int .i64 0, .bool false, .string ⟨#[]⟩, .string ⟨#[]⟩, .bool false, .string ⟨#[]⟩, .string ⟨#[]⟩, .slice none 0 0, .slice none 0 0, .slice none 0 0]).cell? ⟨w.heap.size, 13, none⟩ = some (.slice none 0 0) := by rw [cell_of_row _ w.heap.size 13 _ _ (0, 0) HZQ.out]; rfl
        have v14_ : (wo.setCells w.heap.size 0 [.int .i64 0, .int .i64 0, .int .i64 0, .int .i64 0, .int .i64 0, .int .i64 0, .bool false, .string ⟨#[]⟩, .string ⟨#[]⟩, .bool false, .string ⟨#[]⟩, .string ⟨#[]⟩, .slice none 0 0, .slice none 0 0, .slice none 0 0]).cell? ⟨w.heap.size, 14, none⟩ = some (.slice none 0 0) := by rw [cell_of_row _ w.heap.size 14 _ _ (0, 0) HZQ.out]; rfl
        exact bodyPost_ret (v := .tuple #[.agg #[.int .i64 0, .int .i64 0, .int .i64 0, .int .i64 0, .int .i64 0, .int .i64 0, .bool false, .string ⟨#[]⟩, .string ⟨#[]⟩, .bool false, .string ⟨#[]⟩, .string ⟨#[]⟩, .slice none 0 0, .slice none 0 0, .slice none 0 0], .int .i64 44]) (by simp [results, Tryd.results19, go_sem, v0_, v1_, v2_, v3_, v4_, v5_, v6_, v7_, v8_, v9_, v10_, v11_, v12_, v13_, v14_]) rfl (DecPost.none HNO.out (below_setCells (Nat.le_refl _) _ 0 HI.out.b))

end Go.Proofs.YtcljkdjmmolfoaaDoor

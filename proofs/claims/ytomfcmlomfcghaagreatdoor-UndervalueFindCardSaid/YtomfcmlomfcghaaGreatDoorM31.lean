/- Merged of Parts Blt. -/
import Derived.Test.YtomfcmlomfcghaaGreatDoorPtsI
import Derived.Deep.QuietTactic
/- insolvencylaw0.Parties. -/
set_option linter.unusedVariables false
set_option linter.unusedSimpArgs false
namespace Go.Proofs.YtomfcmlomfcghaaGreatDoor
open Go.RowKit

structure PCst (w : World) (X R M B : Nat) : Prop where
 wX : w.heap.size ≤ X
 wM : w.heap.size ≤ M
 wB : w.heap.size ≤ B
 XB : X < B
 RB : R < B
 MB : M < B
 RX : R ≠ X
 MX : M ≠ X
 MR : M ≠ R
 wR : w.heap.size ≤ R
theorem drewN_pbi {w : World} {X R B : Nat} {Ak : Option Addr} {ck : Nat} {ks : List Int} {As : Option Addr} {cs : Nat} {st : List Stk} {At : Option Addr} {ct : Nat} {ts : List (Int × Int)} {W : World} (h : PBI w X R B Ak ck ks As cs st At ct ts W) (n : Nat) : PBI w X R B Ak ck ks As cs st At ct ts (W.drewN n) := ⟨h.x, h.r, h.k, h.s, h.t, h.b.drewN n, h.z⟩
set_option maxHeartbeats 8000000 in
set_option maxRecDepth 100000 in
theorem parties_calls (x0 x1 : Int) (A2 : Option Addr) (n2 c2 : Nat) (l2 : List W3) (A3 : Option Addr) (n3 c3 : Nat) (l3 : List (Int × Int)) (w : World) (h0 : 0 ≤ x0 ∧ x0 ≤ 255) (h1 : 0 ≤ x1 ∧ x1 ≤ 65535)
 (e2 : n2 = l2.length) (r2 : Rd w w.heap.size 3 A2 l2.length (l2.flatMap u16V3)) (o2 : ∀ a ∈ l2, u16ok3 a) (g2 : n2 ≤ maxLen) (e3 : n3 = l3.length) (r3 : Rd w w.heap.size 2 A3 l3.length (l3.flatMap u16V)) (o3 : ∀ a ∈ l3, u16ok a) (g3 : n3 ≤ maxLen) :
 Calls Tryz.prog 17 #[.int .u8 x0, .int .u16 x1, .slice A2 n2 c2, .slice A3 n3 c3] w (PartsPost n3 w) := by
 have HL2 := Lib.hid (And.intro e2 (And.intro r2 o2))
 have HL3 := Lib.hid (And.intro e3 (And.intro r3 o3))
 unfold maxLen at g2 g3
 clear e2 r2 o2 e3 r3 o3
 obtain ⟨n, hn⟩ : ∃ n : Nat, n = (2 + x0 % 6).toNat := ⟨_, rfl⟩
 have hni : wrap64 (2 + wrap64 (x0.tmod 6)) = (n : Int) := by
  rw [Int.tmod_eq_emod_of_nonneg h0.1, IntWalk.wrap64_in (x0 % 6) (by omega), IntWalk.wrap64_in _ (by omega)]; omega
 have hn2 : 2 ≤ n := by omega
 have hn7 : n ≤ 7 := by omega
 clear hn h0
 obtain ⟨i0, hi, hz0, hz1, hz2⟩ := info_parts Tryz.info_int
 have HII := Lib.hid (And.intro hi (And.intro hz0 (And.intro hz1 hz2)))
 clear hi hz0 hz1 hz2
 obtain ⟨i1, hi, hz0, hz1, hz2⟩ := info_parts Tryz.info_stake
 have HIS := Lib.hid (And.intro hi (And.intro hz0 (And.intro hz1 hz2)))
 clear hi hz0 hz1 hz2
 obtain ⟨i3, hi, hz0, hz1, hz2⟩ := info_parts Tryz.info_tie
 have HIT := Lib.hid (And.intro hi (And.intro hz0 (And.intro hz1 hz2)))
 clear hi hz0 hz1 hz2
 go_enter Tryz.func17, Tryz.ntmps17
 go_upto_region 3 with fail
 rw [hni]
 clear hni
 obtain ⟨R, hR⟩ : ∃ R, R = w.heap.size := ⟨_, rfl⟩
 obtain ⟨X, hX⟩ : ∃ X, X = w.heap.size + 1 := ⟨_, rfl⟩
 obtain ⟨M, hM⟩ : ∃ M, M = w.heap.size + 2 := ⟨_, rfl⟩
 obtain ⟨B, hB⟩ : ∃ B, B = w.heap.size + 3 := ⟨_, rfl⟩
 obtain ⟨w1, hw1⟩ : ∃ W, W = (w.alloc (.cells #[.slice none 0 0, .slice none 0 0, .slice none 0 0] 26)).alloc (.cells #[.slice none 0 0, .slice none 0 0, .slice none 0 0] 26) := ⟨_, rfl⟩
 have hmk := make_ints n (by omega) w1
 have hs1 : w1.heap.size = M := by rw [hw1, hM]; simp
 rw [hs1] at hmk
 obtain ⟨wi, hwi⟩ : ∃ W, W = w1.alloc (.cells (madeCells #[.int .i64 0] n) 3) := ⟨_, rfl⟩
 rw [← hwi] at hmk
 have HMi : Hid (KRow .i64 3 wi M (List.replicate n 0)) := by rw [hwi]; exact KRow.made w1 n M hs1.symm
 have HIi : Hid (PBI w X R B none 0 [] none 0 [] none 0 [] wi) := by
  have hr0 : PBox R none 0 0 none 0 0 none 0 0 (w.alloc (.cells #[.slice none 0 0, .slice none 0 0, .slice none 0 0] 26)) := by rw [hR]; exact blk_new _ _
  have hx0 : PBox X none 0 0 none 0 0 none 0 0 w1 := by
   have := blk_new (w.alloc (.cells #[.slice none 0 0, .slice none 0 0, .slice none 0 0] 26)) (.cells #[.slice none 0 0, .slice none 0 0, .slice none 0 0] 26)
   rw [World.size_alloc] at this
   rw [hw1, hX]; exact this
  have hr1 : PBox R none 0 0 none 0 0 none 0 0 w1 := by rw [hw1]; exact hr0.next (bel_alloc _ _)
  have hb1 : Below w.heap.size w w1 := by rw [hw1]; exact (bel_alloc _ _).alloc (by simp) _
  have hb2 : Below w.heap.size w wi := by rw [hwi]; exact hb1.alloc hb1.size _
  exact ⟨by rw [hwi]; exact hx0.next (bel_alloc _ _), by rw [hwi]; exact hr1.next (bel_alloc _ _), World.ownsRow_nil _ _ _ _, World.ownsRow_nil _ _ _ _, World.ownsRow_nil _ _ _ _, hb2, by rw [hwi, World.size_alloc, hs1, hB, hM]; exact Nat.le_refl _⟩
 have hwX : w.heap.size ≤ X := by omega
 have hwM : w.heap.size ≤ M := by omega
 have hwB : w.heap.size ≤ B := by omega
 have hXB : X < B := by omega
 have hRB : R < B := by omega
 have hMB : M < B := by omega
 have hRX : R ≠ X := by omega
 have hMX : M ≠ X := by omega
 have hMR : M ≠ R := by omega
 have HC : Hid (PCst w X R M B) := ⟨hwX, hwM, hwB, hXB, hRB, hMB, hRX, hMX, hMR, by omega⟩
 clear hwX hwM hwB hXB hRB hMB hRX hMX hMR
 rw [← hw1, ← hX, ← hR]
 have HRR := Lib.hid (And.intro hR (And.intro hX hM))
 clear hR hX hM hB hs1 hw1 hwi
 go_wp2_with fail
 clear hmk
 go_loopw [12] (fun i wr => ∃ (k : Nat) (Ak : Option Addr) (ck : Nat) (ks : List Int), k ≤ n ∧ i = .int .i64 (k : Int) ∧ Hid (ks.length = k ∧ ∀ x ∈ ks, x = 1 ∨ x = 2) ∧ Hid (PBI w X R B Ak ck ks none 0 [] none 0 [] wr) ∧ Hid (KRow .i64 3 wr M (List.replicate n 0))) (fun i _ => n - (intOf i).toNat)
 case atStart => exact ⟨0, none, 0, [], Nat.zero_le _, rfl, ⟨rfl, fun x hx => by cases hx⟩, HIi, HMi⟩
 case round =>
  clear HIi HMi
  obtain ⟨k, Ak, ck, ks, hk, rfl, HKS, HI, HM⟩ := hrel
  rename World => wo
  by_cases hkl : k < n
  ·
   have hkl2 : (k : Int) < (n : Int) := by omega
   have hkk : ks.length = k := HKS.out.1
   have HKK := Lib.hid hkk
   have hks : ks.length < 7 := by omega
   clear hkk
   obtain ⟨j0, j1, j2⟩ := HI.out.x.cells
   by_cases h00 : k = 0
   ·
    subst h00
    go_wp2_with (at_builtin; refine wpList_append_own _ rfl (.tmp 47) (.tmp 49) 22 rfl B 3 i0 _ 1 8 Tryz.underlying22 HII.out.1 HII.out.2.1 HII.out.2.2.1 HII.out.2.2.2 rfl (by decide) _ _ (ks.flatMap intV) rfl (HI.out.next (bel_alloc _ _)).k _ 1 1 _ rfl rfl (rd_new_cells _ _ _ _ (by simp)) (by simp [Value.oneCell']) (by simp only [maxLen]; omega) (by omega) (by have := HI.out.z; simp; omega) ?_)
    intro v' w' hown hgr hnil
    obtain ⟨wt, hwt⟩ : ∃ W, W = wo.alloc (.cells #[.int .i64 1] 3) := ⟨_, rfl⟩
    have HIT2 := Lib.hid (HI.out.next (bel_alloc wo (.cells #[.int .i64 1] 3)))
    have HMT2 := Lib.hid (HM.out.alloc (.cells #[.int .i64 1] 3))
    rw [← hwt] at HIT2 HMT2 hgr
    clear hwt
    obtain ⟨g', cap, rfl, _, _⟩ := hown.form (by omega)
    have HI2 := Lib.hid (HIT2.out.kind HC.out.wB HC.out.XB HC.out.RB HC.out.RX HC.out.wX hown hgr)
    have hx1 : PBox X Ak ks.length ck none 0 0 none 0 0 w' := blk_grownB HIT2.out.k HIT2.out.x HC.out.XB hgr
    obtain ⟨k0, k1, k2⟩ := hx1.cells
    obtain ⟨f0, f1, f2, fz⟩ := hx1.store
    have HM2 : Hid (KRow .i64 3 (w'.setCell ⟨X, 0, none⟩ (.slice (some ⟨g', 0, none⟩) (ks.length + 1) cap)) M (List.replicate n 0)) := (HMT2.out.same (hgr.block M HMT2.out.lt (fun e => by have := (HIT2.out.k.lt M e.symm).1; have := HC.out.MB; omega))).other (a := ⟨X, 0, none⟩) HC.out.MX _
    have HKS2 : Hid ((ks ++ [1]).length = 0 + 1 ∧ ∀ x ∈ ks ++ [1], x = 1 ∨ x = 2) := ⟨by rw [List.length_append, HKS.out.1]; rfl, fun x hx => by
     rcases List.mem_append.1 hx with hx | hx
     ·
      exact HKS.out.2 x hx
     ·
      rw [List.mem_singleton.1 hx]; decide⟩
    clear hown hgr hnil hx1 HI HM HKS HIT2 HMT2
    go_wp2_with fail
    go_roundw
    case measure => simp [intOf] <;> omega
    case rel => exact ⟨0 + 1, _, _, _, by omega, by go_num, HKS2, HI2, HM2⟩
   ·
    have h0b : ((k : Int) == 0) = false := beq_eq_false_iff_ne.2 (by omega)
    clear h00
    go_wp2_with (at_builtin; refine wpList_append_own _ rfl (.tmp 47) (.tmp 49) 22 rfl B 3 i0 _ 1 8 Tryz.underlying22 HII.out.1 HII.out.2.1 HII.out.2.2.1 HII.out.2.2.2 rfl (by decide) _ _ (ks.flatMap intV) rfl (HI.out.next (bel_alloc _ _)).k _ 1 1 _ rfl rfl (rd_new_cells _ _ _ _ (by simp)) (by simp [Value.oneCell']) (by simp only [maxLen]; omega) (by omega) (by have := HI.out.z; simp; omega) ?_)
    ·
     intro v' w' hown hgr hnil
     obtain ⟨wt, hwt⟩ : ∃ W, W = wo.alloc (.cells #[.int .i64 1] 3) := ⟨_, rfl⟩
     have HIT2 := Lib.hid (HI.out.next (bel_alloc wo (.cells #[.int .i64 1] 3)))
     have HMT2 := Lib.hid (HM.out.alloc (.cells #[.int .i64 1] 3))
     rw [← hwt] at HIT2 HMT2 hgr
     clear hwt
     obtain ⟨g', cap, rfl, _, _⟩ := hown.form (by omega)
     have HI2 := Lib.hid (HIT2.out.kind HC.out.wB HC.out.XB HC.out.RB HC.out.RX HC.out.wX hown hgr)
     have hx1 : PBox X Ak ks.length ck none 0 0 none 0 0 w' := blk_grownB HIT2.out.k HIT2.out.x HC.out.XB hgr
     obtain ⟨k0, k1, k2⟩ := hx1.cells
     obtain ⟨f0, f1, f2, fz⟩ := hx1.store
     have HM2 : Hid (KRow .i64 3 (w'.setCell ⟨X, 0, none⟩ (.slice (some ⟨g', 0, none⟩) (ks.length + 1) cap)) M (List.replicate n 0)) := (HMT2.out.same (hgr.block M HMT2.out.lt (fun e => by have := (HIT2.out.k.lt M e.symm).1; have := HC.out.MB; omega))).other (a := ⟨X, 0, none⟩) HC.out.MX _
     have HKS2 : Hid ((ks ++ [1]).length = k + 1 ∧ ∀ x ∈ ks ++ [1], x = 1 ∨ x = 2) := ⟨by rw [List.length_append, HKS.out.1]; rfl, fun x hx => by
      rcases List.mem_append.1 hx with hx | hx
      ·
       exact HKS.out.2 x hx
      ·
       rw [List.mem_singleton.1 hx]; decide⟩
     clear hown hgr hnil hx1 HI HM HKS HIT2 HMT2
     go_wp2_with fail
     go_roundw
     case measure => simp [intOf] <;> omega
     case rel => exact ⟨k + 1, _, _, _, by omega, by go_num, HKS2, HI2, HM2⟩
    ·
     intro v' w' hown hgr hnil
     obtain ⟨wt, hwt⟩ : ∃ W, W = wo.alloc (.cells #[.int .i64 2] 3) := ⟨_, rfl⟩
     have HIT2 := Lib.hid (HI.out.next (bel_alloc wo (.cells #[.int .i64 2] 3)))
     have HMT2 := Lib.hid (HM.out.alloc (.cells #[.int .i64 2] 3))
     rw [← hwt] at HIT2 HMT2 hgr
     clear hwt
     obtain ⟨g', cap, rfl, _, _⟩ := hown.form (by omega)
     have HI2 := Lib.hid (HIT2.out.kind HC.out.wB HC.out.XB HC.out.RB HC.out.RX HC.out.wX hown hgr)
     have hx1 : PBox X Ak ks.length ck none 0 0 none 0 0 w' := blk_grownB HIT2.out.k HIT2.out.x HC.out.XB hgr
     obtain ⟨k0, k1, k2⟩ := hx1.cells
     obtain ⟨f0, f1, f2, fz⟩ := hx1.store
     have HM2 : Hid (KRow .i64 3 (w'.setCell ⟨X, 0, none⟩ (.slice (some ⟨g', 0, none⟩) (ks.length + 1) cap)) M (List.replicate n 0)) := (HMT2.out.same (hgr.block M HMT2.out.lt (fun e => by have := (HIT2.out.k.lt M e.symm).1; have := HC.out.MB; omega))).other (a := ⟨X, 0, none⟩) HC.out.MX _
     have HKS2 : Hid ((ks ++ [2]).length = k + 1 ∧ ∀ x ∈ ks ++ [2], x = 1 ∨ x = 2) := ⟨by rw [List.length_append, HKS.out.1]; rfl, fun x hx => by
      rcases List.mem_append.1 hx with hx | hx
      ·
       exact HKS.out.2 x hx
      ·
       rw [List.mem_singleton.1 hx]; decide⟩
     clear hown hgr hnil hx1 HI HM HKS HIT2 HMT2
     go_wp2_with fail
     go_roundw
     case measure => simp [intOf] <;> omega
     case rel => exact ⟨k + 1, _, _, _, by omega, by go_num, HKS2, HI2, HM2⟩
  ·
   obtain rfl : k = n := by omega
   have HBD := Lib.hid (Bld.start hn2 hn7 HKS.out.1 HKS.out.2)
   go_wp2_with fail
   clear hkl hk HKS
   go_loopw [54] (fun i wr => ∃ (j : Nat) (As : Option Addr) (cs : Nat) (st : List Stk) (sm : List Nat), j ≤ n2 ∧ i = .int .i64 (j : Int) ∧ Hid (Bld k ks st sm) ∧ Hid (PBI w X R B Ak ck ks As cs st none 0 [] wr) ∧ Hid (KRow .i64 3 wr M sm)) (fun i _ => n2 - (intOf i).toNat)
   case atStart => exact ⟨0, none, 0, [], _, Nat.zero_le _, rfl, HBD, HI, HM⟩
   case round =>
    clear HBD HI HM
    obtain ⟨j, As, cs, st, sm, hj, rfl, HBD, HI, HM⟩ := hrel
    rename World => wp
    by_cases hjl : j < n2
    ·
     have hjl2 : (j : Int) < (n2 : Int) := by omega
     obtain ⟨s, hs⟩ := getElem?_of_lt (l := l2) (k := j) (by rw [← HL2.out.1]; exact hjl)
     have hok := HL2.out.2.2 s (List.mem_of_getElem? hs)
     obtain ⟨b, off, hA, _, hc⟩ := Rd.at_ (enc := u16V3) (fun _ => rfl) (HL2.out.2.1.next HI.out.b) hs
     subst hA
     have p0 := hc 0 _ rfl
     have p1 := hc 1 _ rfl
     have p2 := hc 2 _ rfl
     rw [Nat.add_zero] at p0
     rw [← Nat.add_assoc] at p1 p2
     clear hc hs
     obtain ⟨xa, xb, xc⟩ := s
     unfold u16ok3 at hok
     dsimp only at p0 p1 p2 hok
     obtain ⟨⟨oa1, oa2⟩, ⟨ob1, ob2⟩, oc1, oc2⟩ := hok
     obtain ⟨a, ha⟩ : ∃ a : Nat, xa % (k : Int) = (a : Int) := ⟨(xa % (k : Int)).toNat, by have := Int.emod_nonneg xa (show (k : Int) ≠ 0 by omega); omega⟩
     obtain ⟨c, hc⟩ : ∃ a : Nat, xb % (k : Int) = (a : Int) := ⟨(xb % (k : Int)).toNat, by have := Int.emod_nonneg xb (show (k : Int) ≠ 0 by omega); omega⟩
     obtain ⟨v, hv⟩ : ∃ a : Nat, 1 + xc % 7 = (a : Int) := ⟨(1 + xc % 7).toNat, by omega⟩
     have hak : a < k := by have := Int.emod_lt_of_pos xa (show (0 : Int) < (k : Int) by omega); omega
     have hck : c < k := by have := Int.emod_lt_of_pos xb (show (0 : Int) < (k : Int) by omega); omega
     have hck2 : (c : Int) < (k : Int) := by omega
     have hv1 : 1 ≤ v := by omega
     have hv7 : v ≤ 7 := by omega
     go_wp2_with fail
     go_quiet (fail)
     rw [ha, hc]
     clear ha hc hv oa1 oa2 ob1 ob2 oc1 oc2 p0 p1 p2
     obtain ⟨wq, hwq⟩ : ∃ W, W = (wp.alloc (.cells #[.int .u16 xa, .int .u16 xb, .int .u16 xc] 84)).drewN nq := ⟨_, rfl⟩
     have HIq : Hid (PBI w X R B Ak ck ks As cs st none 0 [] wq) := by rw [hwq]; exact drewN_pbi (HI.out.next (bel_alloc _ _)) nq
     have HMq : Hid (KRow .i64 3 wq M sm) := by rw [hwq]; exact (HM.out.alloc _).drewN nq
     rw [← hwq]
     clear hwq HI HM
     obtain ⟨y, hy⟩ := getElem?_of_lt (l := ks) (k := c) (by rw [HBD.out.kl]; exact hck)
     obtain ⟨bk, ok, hA, _, ky⟩ := rd_int (Rd.of_own HIq.out.k) hy
     subst hA
     have hky : kindAt ks (c : Int) = y := by unfold kindAt; rw [Int.toNat_natCast, List.getD, hy]; rfl
     have hkl : ks.length = k := HBD.out.kl
     have hkl2 : (c : Int) < (ks.length : Int) := by omega
     have HKL := Lib.hid hkl
     clear hkl
     obtain ⟨z, hz⟩ : ∃ z, z = sm.getD c 0 := ⟨_, rfl⟩
     have hsc := HMq.out.getD (j := c) (by rw [HBD.out.ml]; exact hck)
     rw [← hz] at hsc
     have hz10 : z ≤ 10 := by rw [hz]; exact (HBD.out.v c hck).2
     have HZ := Lib.hid hz
     have HY := Lib.hid hy
     clear hz hy
     obtain ⟨j0, j1, j2⟩ := HIq.out.x.cells
     by_cases hac : a = c
     ·
      have hab : ((a : Int) == (c : Int)) = true := beq_iff_eq.2 (by omega)
      go_wp2_with fail
      go_roundw
      case measure => simp [intOf] <;> omega
      case rel => exact ⟨j + 1, _, _, _, _, by omega, by go_num, HBD, HIq, HMq⟩
     ·
      have hab : ((a : Int) == (c : Int)) = false := beq_eq_false_iff_ne.2 (by omega)
      by_cases hy2 : y = 2
      ·
       subst hy2
       by_cases g10 : 10 < z + v
       ·
        have d10 : decide ((10 : Int) < (z : Int) + (v : Int)) = true := decide_eq_true (by omega)
        go_wp2_with fail
        go_roundw
        case measure => simp [intOf] <;> omega
        case rel => exact ⟨j + 1, _, _, _, _, by omega, by go_num, HBD, HIq, HMq⟩
       ·
        have d10 : decide ((10 : Int) < (z : Int) + (v : Int)) = false := decide_eq_false (by omega)
        by_cases g20 : 20 ≤ st.length
        ·
         have d20 : decide ((20 : Int) ≤ (st.length : Int)) = true := decide_eq_true (by omega)
         go_wp2_with fail
         go_roundw
         case measure => simp [intOf] <;> omega
         case rel => exact ⟨j + 1, _, _, _, _, by omega, by go_num, HBD, HIq, HMq⟩
        ·
         have d20 : decide ((20 : Int) ≤ (st.length : Int)) = false := decide_eq_false (by omega)
         have hst : st.length < 20 := by omega
         clear g20
         have HBD2 := Lib.hid (HBD.out.snoc hak hck hac hky hv1 (show sm.getD c 0 + v ≤ 10 by rw [← HZ.out]; omega) hst)
         rw [← HZ.out] at HBD2
         have hRT' := fun w => ratio_calls (v : Int) 10 w (by omega) (by omega) (by decide) (by decide) (by decide) _ (frac_quo v 10)
         obtain ⟨q, hq⟩ : ∃ q, q = frac 10 v := ⟨_, rfl⟩
         rw [← hq] at hRT' HBD2
         unfold ratV at hRT'
         obtain ⟨sq, hsq⟩ : ∃ x, rneg q = x := ⟨_, rfl⟩
         obtain ⟨nq2, hnq⟩ : ∃ x, rnum q = x := ⟨_, rfl⟩
         obtain ⟨dq, hdq⟩ : ∃ x, rden q = x := ⟨_, rfl⟩
         rw [hsq, hnq, hdq] at hRT'
         have HRT := Lib.hid hRT'
         have HSV : Hid (stkV ⟨(a : Int), (c : Int), fqOf q⟩ = [.int .i64 (a : Int), .int .i64 (c : Int), .bool sq, .string nq2, .string dq]) := by show _ = _; rw [← hsq, ← hnq, ← hdq]; rfl
         clear hRT' hq hsq hnq hdq hky
         have hfc := HMq.out.frozen c
         have hlc := HMq.out.lt
         have HM2 : Hid (KRow .i64 3 (wq.setCell ⟨M, c, none⟩ (.int .i64 ((z : Int) + (v : Int)))) M (sm.set c (z + v))) := HMq.out.setI c (z + v) (by omega) rfl
         have HI2 : Hid (PBI w X R B (some ⟨bk, ok, none⟩) ck ks As cs st none 0 [] (wq.setCell ⟨M, c, none⟩ (.int .i64 ((z : Int) + (v : Int))))) := HIq.out.far (Ne.symm HC.out.MX) (Ne.symm HC.out.MR) HC.out.MB HC.out.wM _
         go_wp2_with fail
         clear hfc hlc hsc ky j0 j1 j2 d10 HIq HMq HBD
         obtain ⟨W3, hW3⟩ : ∃ W, W = (wq.setCell ⟨M, c, none⟩ (.int .i64 ((z : Int) + (v : Int)))).drew := ⟨_, rfl⟩
         have HI3 : Hid (PBI w X R B (some ⟨bk, ok, none⟩) ck ks As cs st none 0 [] W3) := by rw [hW3]; exact HI2.out.drew
         have HM3 : Hid (KRow .i64 3 W3 M (sm.set c (z + v))) := by rw [hW3]; exact HM2.out.drew
         refine wp_region_held_drew (S := (fun _ => True)) (by kernel_rfl) trivial ?_
         try rw [← hW3]
         intro _
         clear hW3 HI2 HM2
         refine wpAnyH_take (i := 0) rfl (by kernel_rfl) (by kernel_rfl) (by kernel_rfl) (fun _ _ _ h => h) (Or.inl ⟨by kernel_rfl, (by intro w' _; go_simp; with_reducible rfl)⟩) trivial ?_
         go_simp
         refine wpAnyH_take (i := 2) rfl (by kernel_rfl) (by kernel_rfl) (by kernel_rfl) (fun _ _ _ h => h) (Or.inl ⟨by kernel_rfl, (by intro w' _; go_simp; with_reducible rfl)⟩) trivial ?_
         go_simp
         refine wpAnyH_take (i := 3) rfl (by kernel_rfl) (by kernel_rfl) (by kernel_rfl) (fun _ _ _ h => h) (Or.inl ⟨by kernel_rfl, (by intro w' _; go_simp; with_reducible rfl)⟩) trivial ?_
         go_simp
         refine wpAnyH_take (i := 4) rfl (by kernel_rfl) (by kernel_rfl) (by kernel_rfl) (fun _ _ _ h => h) (Or.inl ⟨by kernel_rfl, (by intro w' _; go_simp; with_reducible rfl)⟩) trivial ?_
         go_simp
         refine wpAnyH_ready (rs := [1, 5]) (by kernel_rfl) (by simp) ?_
         refine AllReadyH.cons rfl (fun K hK => ?_) (AllReadyH.cons rfl (fun K hK => ?_) AllReadyH.nil)
         ·
          obtain ⟨q0, q1, q2⟩ := HI3.out.x.cells
          go_simp
          clear q0 q1 q2
          refine hK.out _ _ trivial (fun _ => ?_)
          clear hK K
          refine wpAnyH_ready (rs := [5]) (by kernel_rfl) (by simp) ?_
          refine AllReadyH.cons rfl (fun K hK => ?_) AllReadyH.nil
          go_simp
          refine (HRT.out _).mono ?_
          rintro e W4 ⟨rfl, hb⟩
          have HI4 := Lib.hid (HI3.out.next hb)
          have HM4 : Hid (KRow .i64 3 W4 M (sm.set c (z + v))) := HM3.out.next hb
          clear hb HI3 HM3
          refine hK.out _ _ trivial (fun _ => ?_)
          clear hK K
          refine wpAnyH_take (i := 6) (v := .agg #[.int .i64 (a : Int), .int .i64 (c : Int), .bool sq, .string nq2, .string dq]) rfl (by kernel_rfl) (by kernel_rfl) (by kernel_rfl) (fun _ _ _ h => h) (Or.inl ⟨by kernel_rfl, (by intro w' _; go_simp)⟩) trivial ?_
          go_simp
          refine wpAnyH_ready (rs := [7]) (by kernel_rfl) (by simp) ?_
          refine AllReadyH.cons rfl (fun K hK => ?_) AllReadyH.nil
          go_simp
          obtain ⟨W5, hW5⟩ : ∃ W, W = W4.alloc (.cells #[.int .i64 (a : Int), .int .i64 (c : Int), .bool sq, .string nq2, .string dq] 72) := ⟨_, rfl⟩
          have HI5 : Hid (PBI w X R B (some ⟨bk, ok, none⟩) ck ks As cs st none 0 [] W5) := by rw [hW5]; exact HI4.out.next (bel_alloc _ _)
          have HM5 : Hid (KRow .i64 3 W5 M (sm.set c (z + v))) := by rw [hW5]; exact HM4.out.alloc _
          obtain ⟨g5, hg5⟩ : ∃ g, g = W4.heap.size := ⟨_, rfl⟩
          have HK5 : Hid (W5.heap[g5]? = some (.cells #[.int .i64 (a : Int), .int .i64 (c : Int), .bool sq, .string nq2, .string dq] 72 (0, 0))) := by rw [hW5, hg5]; exact blk_new _ _
          rw [← hW5, ← hg5]
          clear hW5 hg5 HI4 HM4
          refine hK.out _ _ trivial (fun _ => ?_)
          clear hK K
          refine wpAnyH_ready (rs := [8]) (by kernel_rfl) (by simp) ?_
          refine AllReadyH.cons rfl (fun K hK => ?_) AllReadyH.nil
          have hsz_ := HI5.out.z
          refine step_append_lies _ rfl (.tmp 107) (.tmp 113) 23 rfl B 72 i1 _ 5 56 Tryz.underlying23 HIS.out.1 HIS.out.2.1 HIS.out.2.2.1 HIS.out.2.2.2 rfl (by decide) (.slice As st.length cs) st.length (st.flatMap stkV) (by simp [Act.eval, Act.put]) HI5.out.s ⟨g5, 0, none⟩ 1 1 [.int .i64 (a : Int), .int .i64 (c : Int), .bool sq, .string nq2, .string dq] (by simp [Act.eval, Act.put]) rfl (World.news_of_block HK5.out) (by simp [Value.oneCell']) (by decide) (by simp only [maxLen]; omega) (by omega) hsz_ _ rfl ?_
          intro g' cap w' hown hgr hor hlt3
          rw [← HSV.out] at hown
          have hx1 : PBox X (some ⟨bk, ok, none⟩) ks.length ck As st.length cs none 0 0 w' := blk_grownB HI5.out.s HI5.out.x HC.out.XB hgr
          have HI6 := Lib.hid (HI5.out.stake HC.out.wB HC.out.XB HC.out.RB HC.out.RX HC.out.wX hown hgr)
          have HM6 : Hid (KRow .i64 3 (w'.setCell ⟨X, 1, none⟩ (.slice (some ⟨g', 0, none⟩) (st.length + 1) cap)) M (sm.set c (z + v))) := (HM5.out.same (hgr.block M HM5.out.lt (fun e => by have := (HI5.out.s.lt M e.symm).1; have := HC.out.MB; omega))).other (a := ⟨X, 1, none⟩) HC.out.MX _
          obtain ⟨k0, k1, k2⟩ := hx1.cells
          obtain ⟨f0, f1, f2, fz⟩ := hx1.store
          refine hK.out _ _ trivial (fun _ => ?_)
          clear hK K hown hgr hor hx1 HI5 HM5 HK5
          refine wpAnyH_take (i := 9) rfl (by kernel_rfl) (by kernel_rfl) (by kernel_rfl) (fun _ _ _ h => h) (Or.inl ⟨by kernel_rfl, (by intro w' _; go_simp; with_reducible rfl)⟩) trivial ?_
          go_simp
          refine wpAnyH_ready (rs := [10]) (by kernel_rfl) (by simp) ?_
          refine AllReadyH.cons rfl (fun K hK => ?_) AllReadyH.nil
          go_simp
          clear k0 k1 k2 f0 f1 f2 fz
          refine hK.out _ _ trivial (fun _ => ?_)
          clear hK K
          refine wpAnyH_done (by kernel_rfl) ?_ _
          go_wp2_with fail
          go_roundw
          case measure => simp [intOf] <;> omega
          case rel => exact ⟨j + 1, _, _, _, _, by omega, by go_num, HBD2, HI6, HM6⟩
         ·
          go_simp
          refine (HRT.out _).mono ?_
          rintro e W4 ⟨rfl, hb⟩
          have HI4 := Lib.hid (HI3.out.next hb)
          have HM4 : Hid (KRow .i64 3 W4 M (sm.set c (z + v))) := HM3.out.next hb
          clear hb HI3 HM3
          refine hK.out _ _ trivial (fun _ => ?_)
          clear hK K
          refine wpAnyH_take (i := 6) (v := .agg #[.int .i64 (a : Int), .int .i64 (c : Int), .bool sq, .string nq2, .string dq]) rfl (by kernel_rfl) (by kernel_rfl) (by kernel_rfl) (fun _ _ _ h => h) (Or.inl ⟨by kernel_rfl, (by intro w' _; go_simp)⟩) trivial ?_
          go_simp
          refine wpAnyH_ready (rs := [1, 7]) (by kernel_rfl) (by simp) ?_
          refine AllReadyH.cons rfl (fun K hK => ?_) (AllReadyH.cons rfl (fun K hK => ?_) AllReadyH.nil)
          ·
           obtain ⟨q0, q1, q2⟩ := HI4.out.x.cells
           go_simp
           clear q0 q1 q2
           refine hK.out _ _ trivial (fun _ => ?_)
           clear hK K
           refine wpAnyH_ready (rs := [7]) (by kernel_rfl) (by simp) ?_
           refine AllReadyH.cons rfl (fun K hK => ?_) AllReadyH.nil
           go_simp
           obtain ⟨W5, hW5⟩ : ∃ W, W = W4.alloc (.cells #[.int .i64 (a : Int), .int .i64 (c : Int), .bool sq, .string nq2, .string dq] 72) := ⟨_, rfl⟩
           have HI5 : Hid (PBI w X R B (some ⟨bk, ok, none⟩) ck ks As cs st none 0 [] W5) := by rw [hW5]; exact HI4.out.next (bel_alloc _ _)
           have HM5 : Hid (KRow .i64 3 W5 M (sm.set c (z + v))) := by rw [hW5]; exact HM4.out.alloc _
           obtain ⟨g5, hg5⟩ : ∃ g, g = W4.heap.size := ⟨_, rfl⟩
           have HK5 : Hid (W5.heap[g5]? = some (.cells #[.int .i64 (a : Int), .int .i64 (c : Int), .bool sq, .string nq2, .string dq] 72 (0, 0))) := by rw [hW5, hg5]; exact blk_new _ _
           rw [← hW5, ← hg5]
           clear hW5 hg5 HI4 HM4
           refine hK.out _ _ trivial (fun _ => ?_)
           clear hK K
           refine wpAnyH_ready (rs := [8]) (by kernel_rfl) (by simp) ?_
           refine AllReadyH.cons rfl (fun K hK => ?_) AllReadyH.nil
           have hsz_ := HI5.out.z
           refine step_append_lies _ rfl (.tmp 107) (.tmp 113) 23 rfl B 72 i1 _ 5 56 Tryz.underlying23 HIS.out.1 HIS.out.2.1 HIS.out.2.2.1 HIS.out.2.2.2 rfl (by decide) (.slice As st.length cs) st.length (st.flatMap stkV) (by simp [Act.eval, Act.put]) HI5.out.s ⟨g5, 0, none⟩ 1 1 [.int .i64 (a : Int), .int .i64 (c : Int), .bool sq, .string nq2, .string dq] (by simp [Act.eval, Act.put]) rfl (World.news_of_block HK5.out) (by simp [Value.oneCell']) (by decide) (by simp only [maxLen]; omega) (by omega) hsz_ _ rfl ?_
           intro g' cap w' hown hgr hor hlt3
           rw [← HSV.out] at hown
           have hx1 : PBox X (some ⟨bk, ok, none⟩) ks.length ck As st.length cs none 0 0 w' := blk_grownB HI5.out.s HI5.out.x HC.out.XB hgr
           have HI6 := Lib.hid (HI5.out.stake HC.out.wB HC.out.XB HC.out.RB HC.out.RX HC.out.wX hown hgr)
           have HM6 : Hid (KRow .i64 3 (w'.setCell ⟨X, 1, none⟩ (.slice (some ⟨g', 0, none⟩) (st.length + 1) cap)) M (sm.set c (z + v))) := (HM5.out.same (hgr.block M HM5.out.lt (fun e => by have := (HI5.out.s.lt M e.symm).1; have := HC.out.MB; omega))).other (a := ⟨X, 1, none⟩) HC.out.MX _
           obtain ⟨k0, k1, k2⟩ := hx1.cells
           obtain ⟨f0, f1, f2, fz⟩ := hx1.store
           refine hK.out _ _ trivial (fun _ => ?_)
           clear hK K hown hgr hor hx1 HI5 HM5 HK5
           refine wpAnyH_take (i := 9) rfl (by kernel_rfl) (by kernel_rfl) (by kernel_rfl) (fun _ _ _ h => h) (Or.inl ⟨by kernel_rfl, (by intro w' _; go_simp; with_reducible rfl)⟩) trivial ?_
           go_simp
           refine wpAnyH_ready (rs := [10]) (by kernel_rfl) (by simp) ?_
           refine AllReadyH.cons rfl (fun K hK => ?_) AllReadyH.nil
           go_simp
           clear k0 k1 k2 f0 f1 f2 fz
           refine hK.out _ _ trivial (fun _ => ?_)
           clear hK K
           refine wpAnyH_done (by kernel_rfl) ?_ _
           go_wp2_with fail
           go_roundw
           case measure => simp [intOf] <;> omega
           case rel => exact ⟨j + 1, _, _, _, _, by omega, by go_num, HBD2, HI6, HM6⟩
          ·
           go_simp
           obtain ⟨W5, hW5⟩ : ∃ W, W = W4.alloc (.cells #[.int .i64 (a : Int), .int .i64 (c : Int), .bool sq, .string nq2, .string dq] 72) := ⟨_, rfl⟩
           have HI5 : Hid (PBI w X R B (some ⟨bk, ok, none⟩) ck ks As cs st none 0 [] W5) := by rw [hW5]; exact HI4.out.next (bel_alloc _ _)
           have HM5 : Hid (KRow .i64 3 W5 M (sm.set c (z + v))) := by rw [hW5]; exact HM4.out.alloc _
           obtain ⟨g5, hg5⟩ : ∃ g, g = W4.heap.size := ⟨_, rfl⟩
           have HK5 : Hid (W5.heap[g5]? = some (.cells #[.int .i64 (a : Int), .int .i64 (c : Int), .bool sq, .string nq2, .string dq] 72 (0, 0))) := by rw [hW5, hg5]; exact blk_new _ _
           rw [← hW5, ← hg5]
           clear hW5 hg5 HI4 HM4
           refine hK.out _ _ trivial (fun _ => ?_)
           clear hK K
           refine wpAnyH_ready (rs := [1]) (by kernel_rfl) (by simp) ?_
           refine AllReadyH.cons rfl (fun K hK => ?_) AllReadyH.nil
           obtain ⟨q0, q1, q2⟩ := HI5.out.x.cells
           go_simp
           clear q0 q1 q2
           refine hK.out _ _ trivial (fun _ => ?_)
           clear hK K
           refine wpAnyH_ready (rs := [8]) (by kernel_rfl) (by simp) ?_
           refine AllReadyH.cons rfl (fun K hK => ?_) AllReadyH.nil
           have hsz_ := HI5.out.z
           refine step_append_lies _ rfl (.tmp 107) (.tmp 113) 23 rfl B 72 i1 _ 5 56 Tryz.underlying23 HIS.out.1 HIS.out.2.1 HIS.out.2.2.1 HIS.out.2.2.2 rfl (by decide) (.slice As st.length cs) st.length (st.flatMap stkV) (by simp [Act.eval, Act.put]) HI5.out.s ⟨g5, 0, none⟩ 1 1 [.int .i64 (a : Int), .int .i64 (c : Int), .bool sq, .string nq2, .string dq] (by simp [Act.eval, Act.put]) rfl (World.news_of_block HK5.out) (by simp [Value.oneCell']) (by decide) (by simp only [maxLen]; omega) (by omega) hsz_ _ rfl ?_
           intro g' cap w' hown hgr hor hlt3
           rw [← HSV.out] at hown
           have hx1 : PBox X (some ⟨bk, ok, none⟩) ks.length ck As st.length cs none 0 0 w' := blk_grownB HI5.out.s HI5.out.x HC.out.XB hgr
           have HI6 := Lib.hid (HI5.out.stake HC.out.wB HC.out.XB HC.out.RB HC.out.RX HC.out.wX hown hgr)
           have HM6 : Hid (KRow .i64 3 (w'.setCell ⟨X, 1, none⟩ (.slice (some ⟨g', 0, none⟩) (st.length + 1) cap)) M (sm.set c (z + v))) := (HM5.out.same (hgr.block M HM5.out.lt (fun e => by have := (HI5.out.s.lt M e.symm).1; have := HC.out.MB; omega))).other (a := ⟨X, 1, none⟩) HC.out.MX _
           obtain ⟨k0, k1, k2⟩ := hx1.cells
           obtain ⟨f0, f1, f2, fz⟩ := hx1.store
           refine hK.out _ _ trivial (fun _ => ?_)
           clear hK K hown hgr hor hx1 HI5 HM5 HK5
           refine wpAnyH_take (i := 9) rfl (by kernel_rfl) (by kernel_rfl) (by kernel_rfl) (fun _ _ _ h => h) (Or.inl ⟨by kernel_rfl, (by intro w' _; go_simp; with_reducible rfl)⟩) trivial ?_
           go_simp
           refine wpAnyH_ready (rs := [10]) (by kernel_rfl) (by simp) ?_
           refine AllReadyH.cons rfl (fun K hK => ?_) AllReadyH.nil
           go_simp
           clear k0 k1 k2 f0 f1 f2 fz
           refine hK.out _ _ trivial (fun _ => ?_)
           clear hK K
           refine wpAnyH_done (by kernel_rfl) ?_ _
           go_wp2_with fail
           go_roundw
           case measure => simp [intOf] <;> omega
           case rel => exact ⟨j + 1, _, _, _, _, by omega, by go_num, HBD2, HI6, HM6⟩
      ·
       have hyb : (y != 2) = true := bne_iff_ne.2 hy2
       go_wp2_with fail
       go_roundw
       case measure => simp [intOf] <;> omega
       case rel => exact ⟨j + 1, _, _, _, _, by omega, by go_num, HBD, HIq, HMq⟩
    ·
     obtain rfl : j = n2 := by omega
     go_wp2_with fail
     clear hjl hj HM
     go_loopw [119] (fun i wr => ∃ (m : Nat) (At : Option Addr) (ct : Nat) (ts : List (Int × Int)), m ≤ n3 ∧ i = .int .i64 (m : Int) ∧ Hid ((∀ t ∈ ts, tieFine k t = true) ∧ ts.length ≤ 6 ∧ ts.length ≤ m) ∧ Hid (PBI w X R B Ak ck ks As cs st At ct ts wr)) (fun i _ => n3 - (intOf i).toNat)
     case atStart => exact ⟨0, none, 0, [], Nat.zero_le _, rfl, ⟨(fun t ht => by cases ht), by decide, by decide⟩, HI⟩
     case round =>
      clear HI
      obtain ⟨m, At, ct, ts, hm, rfl, HTS, HI⟩ := hrel
      rename World => wp
      by_cases hml : m < n3
      ·
       have hml2 : (m : Int) < (n3 : Int) := by omega
       obtain ⟨s, hs⟩ := getElem?_of_lt (l := l3) (k := m) (by rw [← HL3.out.1]; exact hml)
       have hok := HL3.out.2.2 s (List.mem_of_getElem? hs)
       obtain ⟨b, off, hA, _, hc⟩ := Rd.at_ (enc := u16V) (fun _ => rfl) (HL3.out.2.1.next HI.out.b) hs
       subst hA
       have p0 := hc 0 _ rfl
       have p1 := hc 1 _ rfl
       rw [Nat.add_zero] at p0
       rw [← Nat.add_assoc] at p1
       clear hc hs
       obtain ⟨xa, xb⟩ := s
       unfold u16ok at hok
       dsimp only at p0 p1 hok
       obtain ⟨⟨oa1, oa2⟩, ob1, ob2⟩ := hok
       obtain ⟨a, ha⟩ : ∃ a : Nat, xa % (k : Int) = (a : Int) := ⟨(xa % (k : Int)).toNat, by have := Int.emod_nonneg xa (show (k : Int) ≠ 0 by omega); omega⟩
       obtain ⟨c, hc⟩ : ∃ a : Nat, xb % (k : Int) = (a : Int) := ⟨(xb % (k : Int)).toNat, by have := Int.emod_nonneg xb (show (k : Int) ≠ 0 by omega); omega⟩
       have hak : a < k := by have := Int.emod_lt_of_pos xa (show (0 : Int) < (k : Int) by omega); omega
       have hck : c < k := by have := Int.emod_lt_of_pos xb (show (0 : Int) < (k : Int) by omega); omega
       go_wp2_with fail
       go_quiet (fail)
       rw [ha, hc]
       clear ha hc oa1 oa2 ob1 ob2 p0 p1
       obtain ⟨wq, hwq⟩ : ∃ W, W = (wp.alloc (.cells #[.int .u16 xa, .int .u16 xb] 85)).drewN nq := ⟨_, rfl⟩
       have HIq : Hid (PBI w X R B Ak ck ks As cs st At ct ts wq) := by rw [hwq]; exact drewN_pbi (HI.out.next (bel_alloc _ _)) nq
       rw [← hwq]
       clear hwq HI
       obtain ⟨j0, j1, j2⟩ := HIq.out.x.cells
       by_cases hac : a = c
       ·
        have hab : ((a : Int) != (c : Int)) = false := by rw [hac]; simp
        go_wp2_with fail
        go_roundw
        case measure => simp [intOf] <;> omega
        case rel => exact ⟨m + 1, _, _, _, by omega, by go_num, ⟨HTS.out.1, HTS.out.2.1, Nat.le_succ_of_le HTS.out.2.2⟩, HIq⟩
       ·
        have hab : ((a : Int) != (c : Int)) = true := bne_iff_ne.2 (by omega)
        by_cases g6 : ts.length < 6
        ·
         have d6 : decide ((ts.length : Int) < 6) = true := decide_eq_true (by omega)
         have ht6 : ts.length < 6 := by omega
         clear g6
         go_wp2_with (at_builtin; refine wpList_append_own _ rfl (.tmp 143) (.tmp 147) 24 rfl B 87 i3 _ 2 16 Tryz.underlying24 HIT.out.1 HIT.out.2.1 HIT.out.2.2.1 HIT.out.2.2.2 rfl (by decide) _ _ (ts.flatMap tieV) rfl (HIq.out.next (bel_alloc _ _)).t _ 1 1 _ rfl rfl (rd_new_cells _ _ _ _ (by simp)) (by simp [Value.oneCell']) (by simp only [maxLen]; omega) (by omega) (by have := HIq.out.z; simp; omega) ?_)
         intro v' w' hown hgr hnil
         obtain ⟨g', cap, rfl, _, _⟩ := hown.form (by omega)
         have HIT2 := Lib.hid (HIq.out.next (bel_alloc wq (.cells #[.int .i64 (a : Int), .int .i64 (c : Int)] 87)))
         obtain ⟨wt, hwt⟩ : ∃ W, W = wq.alloc (.cells #[.int .i64 (a : Int), .int .i64 (c : Int)] 87) := ⟨_, rfl⟩
         rw [← hwt] at HIT2 hgr
         clear hwt
         have HI2 := Lib.hid (HIT2.out.tie HC.out.wB HC.out.XB HC.out.RB HC.out.RX HC.out.wX hown hgr)
         have hx1 : PBox X Ak ks.length ck As st.length cs At ts.length ct w' := blk_grownB HIT2.out.t HIT2.out.x HC.out.XB hgr
         obtain ⟨k0, k1, k2⟩ := hx1.cells
         obtain ⟨f0, f1, f2, fz⟩ := hx1.store
         have HTS2 : Hid ((∀ t ∈ ts ++ [((a : Int), (c : Int))], tieFine k t = true) ∧ (ts ++ [((a : Int), (c : Int))]).length ≤ 6 ∧ (ts ++ [((a : Int), (c : Int))]).length ≤ m + 1) := ⟨fun t ht => by
          rcases List.mem_append.1 ht with ht | ht
          ·
           exact HTS.out.1 t ht
          ·
           rw [List.mem_singleton.1 ht]; unfold tieFine; dsimp only; rw [inN_iff.2 ⟨by omega, by omega⟩, inN_iff.2 ⟨by omega, by omega⟩, decide_eq_true (show ((a : Int) ≠ (c : Int)) by omega)]; rfl, by rw [List.length_append, List.length_singleton]; omega, by rw [List.length_append, List.length_singleton]; have := HTS.out.2.2; omega⟩
         clear hown hgr hnil hx1 HIq HIT2 HTS j0 j1 j2
         go_wp2_with fail
         go_roundw
         case measure => simp [intOf] <;> omega
         case rel => exact ⟨m + 1, _, _, _, by omega, by go_num, HTS2, HI2⟩
        ·
         have d6 : decide ((ts.length : Int) < 6) = false := decide_eq_false (by omega)
         go_wp2_with fail
         go_roundw
         case measure => simp [intOf] <;> omega
         case rel => exact ⟨m + 1, _, _, _, by omega, by go_num, ⟨HTS.out.1, HTS.out.2.1, Nat.le_succ_of_le HTS.out.2.2⟩, HIq⟩
      ·
       obtain ⟨j0, j1, j2⟩ := HI.out.x.cells
       obtain ⟨k0, k1, k2⟩ := HI.out.r.cells
       obtain ⟨f0, f1, f2, fz⟩ := HI.out.r.store
       go_wp2_with fail
       refine bodyPost_ret (v := ptyVal Ak ks.length ck As st.length cs At ts.length ct) (by simp [results, Tryz.results17, go_sem, k0, k1, k2]) rfl ?_
       refine ⟨Ak, ck, ks, As, cs, st, At, ct, ts, k, sm, rfl, ?_, HBD.out, HTS.out.1, HTS.out.2.1, by have := HTS.out.2.2; omega, own_cap HI.out.s, ?_⟩
       ·
        exact ⟨Rd.of_own (own_setB (own_setB (own_setB HI.out.k HC.out.RB) HC.out.RB) HC.out.RB), Rd.of_own (own_setB (own_setB (own_setB HI.out.s HC.out.RB) HC.out.RB) HC.out.RB), Rd.of_own (own_setB (own_setB (own_setB HI.out.t HC.out.RB) HC.out.RB) HC.out.RB), rfl, rfl, rfl⟩
       ·
        exact ((HI.out.b.setCell (by show w.heap.size ≤ R; exact HC.out.wR) _).setCell (by show w.heap.size ≤ R; exact HC.out.wR) _).setCell (by show w.heap.size ≤ R; exact HC.out.wR) _

end Go.Proofs.YtomfcmlomfcghaaGreatDoor

/- The parties that Parties builds: what the laws use. -/
set_option linter.unusedVariables false
set_option linter.unusedSimpArgs false
namespace Go.Proofs.YtomfcmlomfcghaaGreatDoor
open Go.RowKit

theorem bld_pb {n : Nat} {ks : List Int} {st : List Stk} {sm : List Nat} {ts : List (Int × Int)} (h : Bld n ks st sm) (ht : ∀ t ∈ ts, tieFine n t = true) (h6 : ts.length ≤ 6) : PB 1 ⟨ks, st, ts⟩ := by
  have h7 := h.n7
  have hs := h.sl
  have hk := h.kl
  refine ⟨by decide, by decide, fun x hx => ?_, fun x hx => ?_, fun x hx => ?_, ?_, ?_, ?_⟩
  · rcases h.kb x hx with rfl | rfl <;> (unfold i64b; omega)
  · obtain ⟨h1, h2, _, _⟩ := fine_parts (h.s x hx).1
    exact ⟨by unfold i64b; omega, by unfold i64b; omega, (h.s x hx).2.2⟩
  · have := ht x hx
    simp only [tieFine, Bool.and_eq_true, decide_eq_true_eq] at this
    have h1 := inN_true this.1
    have h2 := inN_true this.2.1
    exact ⟨by unfold i64b; omega, by unfold i64b; omega⟩
  · show ks.length ≤ maxLen; unfold maxLen; omega
  · show st.length ≤ maxLen; unfold maxLen; omega
  · show ts.length ≤ maxLen; unfold maxLen; omega
/-- parties that are right, small, in memory -/
def BuiltPost (mt : Nat) (w : World) (e : Ending) (w' : World) : Prop :=
  ∃ (Ak : Option Addr) (nk ck : Nat) (As : Option Addr) (ns cs : Nat) (At : Option Addr) (nt ct : Nat) (P : Prt),
    e = .returned (ptyVal Ak nk ck As ns cs At nt ct) ∧ PRd Ak nk As ns At nt P w' ∧ PB 1 P ∧ chk P = 0 ∧ 2 ≤ nk ∧ nk ≤ 7 ∧ ns ≤ 20 ∧ nt ≤ 6 ∧ nt ≤ mt ∧ ns ≤ cs ∧ Below w.heap.size w w'
theorem built_calls (x0 x1 : Int) (A2 : Option Addr) (n2 c2 : Nat) (l2 : List W3) (A3 : Option Addr) (n3 c3 : Nat) (l3 : List (Int × Int)) (w : World) (h0 : 0 ≤ x0 ∧ x0 ≤ 255) (h1 : 0 ≤ x1 ∧ x1 ≤ 65535)
    (e2 : n2 = l2.length) (r2 : Rd w w.heap.size 3 A2 l2.length (l2.flatMap u16V3)) (o2 : ∀ a ∈ l2, u16ok3 a) (g2 : n2 ≤ maxLen) (e3 : n3 = l3.length) (r3 : Rd w w.heap.size 2 A3 l3.length (l3.flatMap u16V)) (o3 : ∀ a ∈ l3, u16ok a) (g3 : n3 ≤ maxLen) :
    Calls Tryz.prog 17 #[.int .u8 x0, .int .u16 x1, .slice A2 n2 c2, .slice A3 n3 c3] w (BuiltPost n3 w) := by
  refine (parties_calls x0 x1 A2 n2 c2 l2 A3 n3 c3 l3 w h0 h1 e2 r2 o2 g2 e3 r3 o3 g3).mono ?_
  rintro e w' ⟨Ak, ck, ks, As, cs, st, At, ct, ts, n, sm, rfl, hp, hb, ht, h6, hm, hcap, hbe⟩
  exact ⟨Ak, ks.length, ck, As, st.length, cs, At, ts.length, ct, ⟨ks, st, ts⟩, rfl, hp, bld_pb hb ht h6, hb.chk h6 ht, by rw [hb.kl]; exact hb.n2, by rw [hb.kl]; exact hb.n7, hb.sl, h6, hm, hcap, hbe⟩

end Go.Proofs.YtomfcmlomfcghaaGreatDoor

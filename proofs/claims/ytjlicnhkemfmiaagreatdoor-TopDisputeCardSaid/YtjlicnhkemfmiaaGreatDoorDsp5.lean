/- insolvencytop.documents. -/
import Derived.Test.YtjlicnhkemfmiaaGreatDoorM22
import Derived.Test.YtjlicnhkemfmiaaGreatDoorSq
import Derived.Test.YtjlicnhkemfmiaaGreatDoorM26
set_option linter.unusedVariables false
set_option linter.unusedSimpArgs false
set_option maxHeartbeats 8000000
set_option maxRecDepth 100000
namespace Go.Proofs.YtjlicnhkemfmiaaGreatDoor
open Go.RowKit

structure W6 where
 a : Int
 b : Int
 c : Int
 d : Int
 e : Int
 f : Int
def u16V6 (p : W6) : List Value := [.int .u16 p.a, .int .u16 p.b, .int .u16 p.c, .int .u16 p.d, .int .u16 p.e, .int .u16 p.f]
def u16b (x : Int) : Prop := 0 ≤ x ∧ x ≤ 65535
def u16ok6 (p : W6) : Prop := u16b p.a ∧ u16b p.b ∧ u16b p.c ∧ u16b p.d ∧ u16b p.e ∧ u16b p.f
theorem own_neD {B n S : Nat} {v : Value} {xs : List Value} {W W' : World} {T : TypeId} (h : W.ownsRow B T S v n xs) {g : Nat} (ho : Only g W W') (hne : ∀ j, v.ownBlock = some j → j ≠ g) : W'.ownsRow B T S v n xs := by
 refine ⟨h.1, ?_⟩
 rcases h.2 with hn | ⟨q, cap, cur2, e1, hb2, hgg, rest⟩
 ·
  exact .inl hn
 ·
  exact .inr ⟨q, cap, cur2, e1, hb2, blk_onlyW hgg ho (hne q (by rw [e1]; rfl)), rest⟩
theorem Tryz.info_proof : (Tryz.prog.info? 63).map (fun i => (i.zero, i.size, i.bytes)) = some (some (.agg #[.string ⟨#[]⟩, .int .i64 0, .int .i64 0, .string ⟨#[]⟩, .bool false, .string ⟨#[]⟩, .string ⟨#[]⟩, .int .i64 0, .int .i64 0, .bool false, .string ⟨#[]⟩, .string ⟨#[]⟩, .int .i64 0, .int .i64 0]), 14, 160) := by kernel_rfl
theorem nameI_calls (k : Nat) (hk : k < 8) (w : World) : Calls Tryz.prog 44 #[.int .u16 (k : Int)] w fun e w' => e = .returned (.string (idB k)) ∧ Below w.heap.size w w' := by
 rcases (by omega : k = 0 ∨ k = 1 ∨ k = 2 ∨ k = 3 ∨ k = 4 ∨ k = 5 ∨ k = 6 ∨ k = 7) with hk0 | hk0 | hk0 | hk0 | hk0 | hk0 | hk0 | hk0
 ·
  have hm : (k : Int) % 12 = 0 := by omega
  have hi : idB k = ⟨#[97]⟩ := by rw [hk0]; rfl
  rw [hi]
  clear hi hk hk0
  go_enter Tryz.func44, Tryz.ntmps44
  go_wp2_with fail
  go_ret
  exact ⟨rfl, bel_alloc _ _⟩
 ·
  have hm : (k : Int) % 12 = 1 := by omega
  have hi : idB k = ⟨#[98]⟩ := by rw [hk0]; rfl
  rw [hi]
  clear hi hk hk0
  go_enter Tryz.func44, Tryz.ntmps44
  go_wp2_with fail
  go_ret
  exact ⟨rfl, bel_alloc _ _⟩
 ·
  have hm : (k : Int) % 12 = 2 := by omega
  have hi : idB k = ⟨#[99]⟩ := by rw [hk0]; rfl
  rw [hi]
  clear hi hk hk0
  go_enter Tryz.func44, Tryz.ntmps44
  go_wp2_with fail
  go_ret
  exact ⟨rfl, bel_alloc _ _⟩
 ·
  have hm : (k : Int) % 12 = 3 := by omega
  have hi : idB k = ⟨#[100]⟩ := by rw [hk0]; rfl
  rw [hi]
  clear hi hk hk0
  go_enter Tryz.func44, Tryz.ntmps44
  go_wp2_with fail
  go_ret
  exact ⟨rfl, bel_alloc _ _⟩
 ·
  have hm : (k : Int) % 12 = 4 := by omega
  have hi : idB k = ⟨#[101]⟩ := by rw [hk0]; rfl
  rw [hi]
  clear hi hk hk0
  go_enter Tryz.func44, Tryz.ntmps44
  go_wp2_with fail
  go_ret
  exact ⟨rfl, bel_alloc _ _⟩
 ·
  have hm : (k : Int) % 12 = 5 := by omega
  have hi : idB k = ⟨#[102]⟩ := by rw [hk0]; rfl
  rw [hi]
  clear hi hk hk0
  go_enter Tryz.func44, Tryz.ntmps44
  go_wp2_with fail
  go_ret
  exact ⟨rfl, bel_alloc _ _⟩
 ·
  have hm : (k : Int) % 12 = 6 := by omega
  have hi : idB k = ⟨#[103]⟩ := by rw [hk0]; rfl
  rw [hi]
  clear hi hk hk0
  go_enter Tryz.func44, Tryz.ntmps44
  go_wp2_with fail
  go_ret
  exact ⟨rfl, bel_alloc _ _⟩
 ·
  have hm : (k : Int) % 12 = 7 := by omega
  have hi : idB k = ⟨#[104]⟩ := by rw [hk0]; rfl
  rw [hi]
  clear hi hk hk0
  go_enter Tryz.func44, Tryz.ntmps44
  go_wp2_with fail
  go_ret
  exact ⟨rfl, bel_alloc _ _⟩
def DocsPost (n : Nat) (w : World) (e : Ending) (w' : World) : Prop := ∃ (A : Option Addr) (c : Nat) (ds : List Dc), e = .returned (.slice A ds.length c) ∧ Rd w' w'.heap.size 14 A ds.length (ds.flatMap Dc.cells) ∧ (ds.length ≤ 8 ∧ (ds.length = 0 → n = 0)) ∧ (∀ (i : Nat) (d : Dc), ds[i]? = some d → DcD i d) ∧ ds.length ≤ c ∧ Below w.heap.size w w'
theorem documents_calls (A : Option Addr) (n c : Nat) (l : List W6) (w : World) (hn : n = l.length) (hr : Rd w w.heap.size 6 A l.length (l.flatMap u16V6)) (ho : ∀ a ∈ l, u16ok6 a) (hg : n ≤ maxLen) :
 Calls Tryz.prog 17 #[.slice A n c] w (DocsPost n w) := by
 have HRL := Lib.hid (And.intro hn (And.intro hr ho))
 have hg2 : n ≤ maxLen := hg
 unfold maxLen at hg2
 obtain ⟨iq, hi, hz0, hz1, hz2⟩ := info_parts Tryz.info_proof
 have HIQ := Lib.hid (And.intro hi (And.intro hz0 (And.intro hz1 hz2)))
 have HPR := Lib.hid (fun x0 x1 x2 x3 x4 x5 W h0 h1 h2 h3 h4 h5 => proofI_calls x0 x1 x2 x3 x4 x5 W h0 h1 h2 h3 h4 h5)
 clear hn hr ho hg hi hz0 hz1 hz2
 go_enter Tryz.func17, Tryz.ntmps17
 go_wp2_with fail
 go_loopw [3, 4] (fun tw j wr => ∃ (k : Nat) (A' : Option Addr) (c' : Nat) (ds : List Dc), k ≤ n ∧ k ≤ 8 ∧ tw = .slice A' ds.length c' ∧ j = .int .i64 (k : Int) ∧ Hid (ds.length = k ∧ ∀ (i : Nat) (d : Dc), ds[i]? = some d → DcD i d) ∧ Hid (World.ownsRow wr w.heap.size 63 14 (.slice A' ds.length c') ds.length (ds.flatMap Dc.cells)) ∧ Hid (Below w.heap.size w wr)) (fun _ j _ => n - (intOf j).toNat)
 case atStart => exact ⟨0, none, 0, [], Nat.zero_le _, by omega, rfl, rfl, ⟨rfl, fun i q h => by simp at h⟩, World.ownsRow_nil _ _ _ _, Below.refl _ _⟩
 case round =>
  obtain ⟨k, A', c', ds, hk, hk8, rfl, rfl, HQ, HO, HB⟩ := hrel
  rename World => wo
  by_cases hlt : k < n ∧ k < 8
  ·
   have hlt2 : (k : Int) < (n : Int) := by omega
   have hlt3 : (k : Int) < 8 := by omega
   have HK8 := Lib.hid hlt.2
   obtain ⟨x, hx⟩ := getElem?_of_lt (l := l) (k := k) (by rw [← HRL.out.1]; exact hlt.1)
   have hxb := HRL.out.2.2 x (List.mem_of_getElem? hx)
   obtain ⟨b, off, hA, _, hc⟩ := Rd.at_ (enc := u16V6) (fun _ => rfl) (HRL.out.2.1.next HB.out) hx
   subst hA
   have p0 := hc 0 _ rfl
   have p1 := hc 1 _ rfl
   have p2 := hc 2 _ rfl
   have p3 := hc 3 _ rfl
   have p4 := hc 4 _ rfl
   have p5 := hc 5 _ rfl
   rw [Nat.add_zero] at p0
   rw [← Nat.add_assoc] at p1 p2 p3 p4 p5
   obtain ⟨x0, x1, x2, x3, x4, x5⟩ := x
   unfold u16ok6 u16b at hxb
   dsimp only at p0 p1 p2 p3 p4 p5 hxb
   obtain ⟨x0, rfl⟩ : ∃ a : Nat, x0 = (a : Int) := ⟨x0.toNat, by omega⟩
   obtain ⟨x1, rfl⟩ : ∃ a : Nat, x1 = (a : Int) := ⟨x1.toNat, by omega⟩
   obtain ⟨x2, rfl⟩ : ∃ a : Nat, x2 = (a : Int) := ⟨x2.toNat, by omega⟩
   obtain ⟨x3, rfl⟩ : ∃ a : Nat, x3 = (a : Int) := ⟨x3.toNat, by omega⟩
   obtain ⟨x4, rfl⟩ : ∃ a : Nat, x4 = (a : Int) := ⟨x4.toNat, by omega⟩
   obtain ⟨x5, rfl⟩ : ∃ a : Nat, x5 = (a : Int) := ⟨x5.toNat, by omega⟩
   have HP1 := Lib.hid (fun W => HPR.out x0 x1 x2 x3 x4 x5 W (by omega) (by omega) (by omega) (by omega) (by omega) (by omega))
   have kw : IntKind.u16.wrap (k : Int) = (k : Int) := IntWalk.u16_in _ (by omega)
   clear hc hx hxb
   go_wp2_with fail
   clear p0 p1 p2 p3 p4 p5
   refine (HP1.out _).mono ?_
   rintro e x_1 ⟨d, hd, rfl, hb⟩
   have HB1 := ben HB hb
   have HO1 : Hid (x_1.ownsRow w.heap.size 63 14 (.slice A' ds.length c') ds.length (ds.flatMap Dc.cells)) := own_belowQ HO.out hb
   have HDK := Lib.hid hd.1
   have HDI := Lib.hid hd.2
   clear hd
   clear hb HB HO
   obtain ⟨nm, es, cr, co, am, nc, rk, rt, fr, se⟩ := d
   dsimp only at HDI
   have HRK : Hid (0 ≤ rk ∧ rk ≤ 7) := HDK.out.rank
   go_upto_region 6 with fail
   obtain ⟨gp, hg_gp⟩ : ∃ g, g = x_1.heap.size := ⟨_, rfl⟩
   obtain ⟨x_2, hw_x_2⟩ : ∃ W, W = x_1.alloc (.cells #[.string nm, .int .i64 es, .int .i64 cr, .string co, .bool (rneg am), .string (rnum am), .string (rden am), .int .i64 nc, .int .i64 rk, .bool (rneg rt), .string (rnum rt), .string (rden rt), .int .i64 fr, .int .i64 se] 63) := ⟨_, rfl⟩
   have HNE : Hid (∀ j, Value.ownBlock (.slice A' ds.length c') = some j → j ≠ gp) := fun j hj => by have := (HO1.out.lt j hj).2; omega
   have HL_gp := Lib.hid ((by have := HB1.out.size; omega : w.heap.size ≤ gp))
   have HB2 := bea HB1 hw_x_2
   have HO2 : Hid (x_2.ownsRow w.heap.size 63 14 (.slice A' ds.length c') ds.length (ds.flatMap Dc.cells)) := by rw [hw_x_2]; exact own_belowQ HO1.out (bel_alloc _ _)
   have HP2 : Hid (Bk gp (.cells #[.string nm, .int .i64 es, .int .i64 cr, .string co, .bool (rneg am), .string (rnum am), .string (rden am), .int .i64 nc, .int .i64 rk, .bool (rneg rt), .string (rnum rt), .string (rden rt), .int .i64 fr, .int .i64 se] 63) x_2) := by rw [hw_x_2, hg_gp]; exact blk_new _ _
   rw [← hw_x_2]
   (try rw [← hg_gp])
   clear hw_x_2 hg_gp HB1 HO1
   have HNM := Lib.hid (fun W => nameI_calls k HK8.out W)
   go_wp2_with fail
   refine (HNM.out _).mono ?_
   rintro e x_3 ⟨rfl, hb⟩
   have HB3 := ben HB2 hb
   have HO3 : Hid (x_3.ownsRow w.heap.size 63 14 (.slice A' ds.length c') ds.length (ds.flatMap Dc.cells)) := own_belowQ HO2.out hb
   have HP3 := bkn HP2 hb
   clear hb HB2 HO2 HP2
   have c0 := blk_at (j := 0) HP3.out rfl
   have c1 := blk_at (j := 1) HP3.out rfl
   have c3 := blk_at (j := 3) HP3.out rfl
   have f0 := frozen_of_row _ _ 0 _ _ HP3.out
   have f1 := frozen_of_row _ _ 1 _ _ HP3.out
   have f3 := frozen_of_row _ _ 3 _ _ HP3.out
   have fz := blk_lt HP3.out
   go_upto_region 7 with fail
   clear fz c0 f0 c1 f1 c3 f3
   obtain ⟨x_4, hw_x_4⟩ : ∃ W, W = (((x_3.setCell ⟨gp, 0, none⟩ (.string (idB k))).setCell ⟨gp, 1, none⟩ (.int .i64 0)).setCell ⟨gp, 3, none⟩ (.string ⟨#[69, 85, 82]⟩)) := ⟨_, rfl⟩
   have ho : Only gp x_3 x_4 := by rw [hw_x_4]; exact (((Only.refl _ _).setC _ _).setC _ _).setC _ _
   have HP4 : Hid (Bk gp (.cells #[.string (idB k), .int .i64 0, .int .i64 cr, .string ⟨#[69, 85, 82]⟩, .bool (rneg am), .string (rnum am), .string (rden am), .int .i64 nc, .int .i64 rk, .bool (rneg rt), .string (rnum rt), .string (rden rt), .int .i64 fr, .int .i64 se] 63) x_4) := by rw [hw_x_4]; exact heap_setCell_same _ gp 3 _ _ (.string ⟨#[69, 85, 82]⟩) (heap_setCell_same _ gp 1 _ _ (.int .i64 0) (heap_setCell_same _ gp 0 _ _ (.string (idB k)) (HP3.out)))
   have HB4 := beo HB3 ho (by have := HL_gp.out; omega)
   have HO4 : Hid (x_4.ownsRow w.heap.size 63 14 (.slice A' ds.length c') ds.length (ds.flatMap Dc.cells)) := own_neD HO3.out ho HNE.out
   rw [← hw_x_4]
   clear hw_x_4 ho HP3 HB3 HO3
   obtain ⟨r, hr3, hrb⟩ : ∃ a : Nat, rk.tmod 3 = (a : Int) ∧ a < 3 := ⟨rk.toNat % 3, by have := HRK.out; rw [Int.tmod_eq_emod_of_nonneg (by omega)]; omega, by omega⟩
   have rw1 : IntKind.i64.wrap (r : Int) = (r : Int) := IntWalk.i64_in _ (by omega)
   have rw2 : IntKind.i64.wrap (1 + (r : Int)) = 1 + (r : Int) := IntWalk.i64_in _ (by omega)
   have c8 := blk_at (j := 8) HP4.out rfl
   have f8 := frozen_of_row _ _ 8 _ _ HP4.out
   have fz := blk_lt HP4.out
   go_upto_region 8 with fail
   clear fz c8 f8
   clear rw1 rw2 hr3
   obtain ⟨x_5, hw_x_5⟩ : ∃ W, W = (x_4.setCell ⟨gp, 8, none⟩ (.int .i64 (1 + (r : Int)))) := ⟨_, rfl⟩
   have ho : Only gp x_4 x_5 := by rw [hw_x_5]; exact (Only.refl _ _).setC _ _
   have HP5 : Hid (Bk gp (.cells #[.string (idB k), .int .i64 0, .int .i64 cr, .string ⟨#[69, 85, 82]⟩, .bool (rneg am), .string (rnum am), .string (rden am), .int .i64 nc, .int .i64 (1 + (r : Int)), .bool (rneg rt), .string (rnum rt), .string (rden rt), .int .i64 fr, .int .i64 se] 63) x_5) := by rw [hw_x_5]; exact heap_setCell_same _ gp 8 _ _ (.int .i64 (1 + (r : Int))) (HP4.out)
   have HB5 := beo HB4 ho (by have := HL_gp.out; omega)
   have HO5 : Hid (x_5.ownsRow w.heap.size 63 14 (.slice A' ds.length c') ds.length (ds.flatMap Dc.cells)) := own_neD HO4.out ho HNE.out
   rw [← hw_x_5]
   clear hw_x_5 ho HP4 HB4 HO4
   have hra : x_5.rangeAt gp 0 [.string (idB k), .int .i64 0, .int .i64 cr, .string ⟨#[69, 85, 82]⟩, .bool (rneg am), .string (rnum am), .string (rden am), .int .i64 nc, .int .i64 (1 + (r : Int)), .bool (rneg rt), .string (rnum rt), .string (rden rt), .int .i64 fr, .int .i64 se] := fun j v hv => by rw [Nat.zero_add]; exact blk_at HP5.out (by simpa using hv)
   have HRA := Lib.hid hra
   clear hra
   have hql : ds.length ≤ 8 := by rw [HQ.out.1]; omega
   go_wp2_with (first | (refine wpList_load_mid rfl 63 (.tmp 5) rfl gp 0 rfl [.string (idB k), .int .i64 0, .int .i64 cr, .string ⟨#[69, 85, 82]⟩, .bool (rneg am), .string (rnum am), .string (rden am), .int .i64 nc, .int .i64 (1 + (r : Int)), .bool (rneg rt), .string (rnum rt), .string (rden rt), .int .i64 fr, .int .i64 se] _ HRA.out Tryz.underlying63 rfl (by kernel_rfl) ?_) | (at_builtin; refine wpList_append_own _ rfl (.tmp 32) (.tmp 34) 53 rfl w.heap.size 63 iq _ 14 160 Tryz.underlying53 HIQ.out.1 HIQ.out.2.1 HIQ.out.2.2.1 HIQ.out.2.2.2 rfl (by decide) _ ds.length (ds.flatMap Dc.cells) rfl (HO5.out.alloc _) ⟨x_5.heap.size, 0, none⟩ 1 1 [.string (idB k), .int .i64 0, .int .i64 cr, .string ⟨#[69, 85, 82]⟩, .bool (rneg am), .string (rnum am), .string (rden am), .int .i64 nc, .int .i64 (1 + (r : Int)), .bool (rneg rt), .string (rnum rt), .string (rden rt), .int .i64 fr, .int .i64 se] rfl rfl (World.news_of_block (blk_new x_5 (.cells #[.string (idB k), .int .i64 0, .int .i64 cr, .string ⟨#[69, 85, 82]⟩, .bool (rneg am), .string (rnum am), .string (rden am), .int .i64 nc, .int .i64 (1 + (r : Int)), .bool (rneg rt), .string (rnum rt), .string (rden rt), .int .i64 fr, .int .i64 se] 63))) (by simp [Value.oneCell']) (by simp only [maxLen]; omega) (by omega) (by have := HB5.out.size; simp; omega) ?_))
   intro v' w' hown hgr hnil
   obtain ⟨g', cap, rfl, _, _⟩ := hown.form (by omega)
   have HO2 : Hid (w'.ownsRow w.heap.size 63 14 (.slice (some ⟨g', 0, none⟩) (ds ++ [(⟨idB k, 0, cr, ⟨#[69, 85, 82]⟩, am, nc, 1 + (r : Int), rt, fr, se⟩ : Dc)]).length cap) (ds ++ [(⟨idB k, 0, cr, ⟨#[69, 85, 82]⟩, am, nc, 1 + (r : Int), rt, fr, se⟩ : Dc)]).length ((ds ++ [(⟨idB k, 0, cr, ⟨#[69, 85, 82]⟩, am, nc, 1 + (r : Int), rt, fr, se⟩ : Dc)]).flatMap Dc.cells)) := by rw [List.length_append, List.flatMap_append]; exact hown
   have HB2 : Hid (Below w.heap.size w w') := (HB5.out.alloc HB5.out.size _).grown hgr (by have := HB5.out.size; simp; omega) (fun j hj => (HO5.out.lt j hj).1)
   have HQ2 : Hid ((ds ++ [(⟨idB k, 0, cr, ⟨#[69, 85, 82]⟩, am, nc, 1 + (r : Int), rt, fr, se⟩ : Dc)]).length = k + 1 ∧ ∀ (i : Nat) (d : Dc), (ds ++ [(⟨idB k, 0, cr, ⟨#[69, 85, 82]⟩, am, nc, 1 + (r : Int), rt, fr, se⟩ : Dc)])[i]? = some d → DcD i d) := ⟨by rw [List.length_append, HQ.out.1]; rfl, fun i d hi => by
    rw [List.getElem?_append] at hi
    split at hi
    ·
     exact HQ.out.2 i d hi
    ·
     rename_i hge
     have hl := (List.getElem?_eq_some_iff.1 hi).1
     have e : i = k := by rw [List.length_singleton, HQ.out.1] at hl; rw [HQ.out.1] at hge; omega
     subst e
     rw [HQ.out.1, Nat.sub_self] at hi
     obtain rfl := Option.some.inj hi
     have h := HDK.out
     exact ⟨⟨idB_ok HK8.out, ⟨by show (0 : Int) ≤ 0; decide, by show (0 : Int) ≤ 7; decide⟩, h.cred, code_ok 69 85 82 (by decide), h.amt, h.asz, h.inc, ⟨by show (0 : Int) ≤ 1 + (r : Int); omega, by show 1 + (r : Int) ≤ 7; omega⟩, h.rate, h.rsz, h.frm, h.nofrm, h.sec⟩, rfl, rfl, rfl, HDI.out, ⟨by show (1 : Int) ≤ 1 + (r : Int); omega, by show 1 + (r : Int) ≤ 3; omega⟩⟩⟩
   have hl2 : ds.length + 1 = (ds ++ [(⟨idB k, 0, cr, ⟨#[69, 85, 82]⟩, am, nc, 1 + (r : Int), rt, fr, se⟩ : Dc)]).length := by simp
   clear hown hgr hnil HB5 HO5 HP5
   go_wp2_with fail
   go_roundw
   case measure => simp [intOf] <;> omega
   case rel => exact ⟨k + 1, _, _, ds ++ [(⟨idB k, 0, cr, ⟨#[69, 85, 82]⟩, am, nc, 1 + (r : Int), rt, fr, se⟩ : Dc)], by omega, by omega, by rw [← hl2], by go_num, HQ2, HO2, HB2⟩
  ·
   have hge : ¬ ((k : Int) < (n : Int) ∧ (k : Int) < 8) := by omega
   by_cases hkn : k < n
   ·
    have g1 : decide ((k : Int) < (n : Int)) = true := decide_eq_true (by omega)
    have g2 : decide ((k : Int) < 8) = false := decide_eq_false (by omega)
    have hnk : k = 0 → n = 0 := by omega
    go_wp2_with fail
    go_ret
    exact ⟨_, _, ds, rfl, Rd.of_own HO.out, by rw [HQ.out.1]; exact ⟨hk8, hnk⟩, HQ.out.2, (own_shape HO.out).elim fun A h => h.elim fun c h => by have := h.1; injection this with _ _ h3; rw [h3]; exact h.2.2, HB.out⟩
   ·
    have g1 : decide ((k : Int) < (n : Int)) = false := decide_eq_false (by omega)
    have hnk : k = 0 → n = 0 := by omega
    go_wp2_with fail
    go_ret
    exact ⟨_, _, ds, rfl, Rd.of_own HO.out, by rw [HQ.out.1]; exact ⟨hk8, hnk⟩, HQ.out.2, (own_shape HO.out).elim fun A h => h.elim fun c h => by have := h.1; injection this with _ _ h3; rw [h3]; exact h.2.2, HB.out⟩

end Go.Proofs.YtjlicnhkemfmiaaGreatDoor

/- insolvencytop.below, program, estate, named; register.Against. -/
import Derived.Test.YtjlicnhkemfmiaaGreatDoorM22
import Derived.Test.YtjlicnhkemfmiaaGreatDoorSq
import Derived.Test.YtjlicnhkemfmiaaGreatDoorDsp3
set_option linter.unusedVariables false
set_option linter.unusedSimpArgs false
set_option maxHeartbeats 8000000
set_option maxRecDepth 100000
namespace Go.Proofs.YtjlicnhkemfmiaaGreatDoor
open Go.RowKit

def idV (i : Nat) : List Value := [.int .i64 (i : Int)]
/-- a number lies in three cells -/
def QD (b off : Nat) (q : Rat) (W : World) : Prop := W.cell? ⟨b, off, none⟩ = some (.bool (rneg q)) ∧ W.cell? ⟨b, off + 1, none⟩ = some (.string (rnum q)) ∧ W.cell? ⟨b, off + 2, none⟩ = some (.string (rden q)) ∧ b < W.heap.size
theorem QD.next {b off : Nat} {q : Rat} {W W' : World} (h : QD b off q W) (hb : Below W.heap.size W W') : QD b off q W' :=
 ⟨(hb.cell (p := ⟨b, off, none⟩) h.2.2.2).trans h.1, (hb.cell (p := ⟨b, off + 1, none⟩) h.2.2.2).trans h.2.1, (hb.cell (p := ⟨b, off + 2, none⟩) h.2.2.2).trans h.2.2.1, Nat.lt_of_lt_of_le h.2.2.2 hb.size⟩
theorem QD.drew {b off : Nat} {q : Rat} {W : World} (h : QD b off q W) : QD b off q W.drew := h
def rkV (x : Nm) : List Value := [.int .i64 x.rank]
theorem Tryz.info_intD : (Tryz.prog.info? 3).map (fun i => (i.zero, i.size, i.bytes)) = some (some (.int .i64 0), 1, 8) := by kernel_rfl
theorem Tryz.info_named : (Tryz.prog.info? 73).map (fun i => (i.zero, i.size, i.bytes)) = some (some (.agg #[.string ⟨#[]⟩, .int .i64 0, .bool false, .string ⟨#[]⟩, .string ⟨#[]⟩]), 5, 64) := by kernel_rfl
theorem Tryz.info_claimD : (Tryz.prog.info? 40).map (fun i => (i.zero, i.size, i.bytes)) = some (some (.agg #[.int .i64 0, .int .i64 0, .bool false, .string ⟨#[]⟩, .string ⟨#[]⟩]), 5, 56) := by kernel_rfl
/-- a value lies in a cell -/
def VC (b off : Nat) (v : Value) (W : World) : Prop := W.cell? ⟨b, off, none⟩ = some v ∧ b < W.heap.size
theorem VC.next {b off : Nat} {v : Value} {W W' : World} (h : VC b off v W) (hb : Below W.heap.size W W') : VC b off v W' :=
 ⟨(hb.cell (p := ⟨b, off, none⟩) h.2).trans h.1, Nat.lt_of_lt_of_le h.2 hb.size⟩
theorem VC.drew {b off : Nat} {v : Value} {W : World} (h : VC b off v W) : VC b off v W.drew := h
theorem own_monoD {w : World} {base base' : Nat} {e : TypeId} {size : Nat} {v : Value} {n : Nat} {xs : List Value} (h : w.ownsRow base e size v n xs) (hb : base' ≤ base) : w.ownsRow base' e size v n xs := by
 refine ⟨h.1, ?_⟩
 rcases h.2 with hn | ⟨g, cap, cur, e1, hg, rest⟩
 ·
  exact .inl hn
 ·
  exact .inr ⟨g, cap, cur, e1, Nat.le_trans hb hg, rest⟩
theorem take_mapD {α β : Type} {f : α → β} {l : List α} {k : Nat} {x : α} (h : l[k]? = some x) : (l.take (k + 1)).map f = (l.take k).map f ++ [f x] := by
 rw [List.take_add_one, h]; simp
theorem below_calls (A B : Option Addr) (n c c2 z : Nat) (a b : List Rat) (w : World) (hn : n = a.length) (hm : n = b.length) (hra : Rd w w.heap.size 3 A a.length (a.flatMap rtV)) (hrb : Rd w w.heap.size 3 B b.length (b.flatMap rtV)) (hz : ∀ q ∈ a, Sz z q) (hy : ∀ q ∈ b, Sz z q) (z0 : 0 < z) (hzz : z + z ≤ 99999) (hle : ∀ (i : Nat) (x y : Rat), a[i]? = some x → b[i]? = some y → x ≤ y) (h8 : n ≤ 1000) :
 Calls Tryz.prog 25 #[.slice A n c, .slice B n c2] w fun e w' => e = .returned (.bool true) ∧ Below w.heap.size w w' := by
 have HRL := Lib.hid (And.intro hn (And.intro hm (And.intro hra (And.intro hrb (And.intro hz (And.intro hy (And.intro z0 (And.intro hzz hle))))))))
 have hn1000 : n ≤ 1000 := h8
 clear hn hm hra hrb hz hy z0 hzz hle h8
 go_enter Tryz.func25, Tryz.ntmps25
 go_wp2_with fail
 go_loopw [8] (fun j wr => ∃ k : Nat, k ≤ n ∧ j = .int .i64 (k : Int) ∧ Hid (Below w.heap.size w wr)) (fun j _ => n - (intOf j).toNat)
 case atStart => exact ⟨0, Nat.zero_le _, rfl, Below.refl _ _⟩
 case round =>
  obtain ⟨k, hk, rfl, HB⟩ := hrel
  rename World => wo
  by_cases hlt : k < n
  ·
   have hlt2 : (k : Int) < (n : Int) := by omega
   obtain ⟨x, hx⟩ := getElem?_of_lt (l := a) (k := k) (by rw [← HRL.out.1]; exact hlt)
   obtain ⟨y, hy⟩ := getElem?_of_lt (l := b) (k := k) (by rw [← HRL.out.2.1]; exact hlt)
   have hc' := fun W => pCmpQ_calls x y z z W (HRL.out.2.2.2.2.1 x (List.mem_of_getElem? hx)) (HRL.out.2.2.2.2.2.1 y (List.mem_of_getElem? hy)) HRL.out.2.2.2.2.2.2.1 HRL.out.2.2.2.2.2.2.1 HRL.out.2.2.2.2.2.2.2.1
   have hcn := (cmpR_np (p := x) (q := y)).2 (HRL.out.2.2.2.2.2.2.2.2 k x y hx hy)
   obtain ⟨cc, hcc⟩ : ∃ q, q = cmpR x y := ⟨_, rfl⟩
   rw [← hcc] at hc' hcn
   have d2 : decide (0 < cc) = false := decide_eq_false (by omega)
   have ge : decide ((n : Int) ≤ (k : Int)) = false := decide_eq_false (by omega)
   unfold ratV at hc'
   have HC := Lib.hid hc'
   obtain ⟨ab, ao, hA, alt, ac⟩ := Rd.at_ (enc := rtV) rtV_len (HRL.out.2.2.1.next HB.out) hx
   have a0 := ac 0 _ rfl
   have a1 := ac 1 _ rfl
   have a2 := ac 2 _ rfl
   rw [Nat.add_zero] at a0
   rw [← Nat.add_assoc] at a1 a2
   have HP : Hid (QD ab (ao + k * 3) x wo) := ⟨a0, a1, a2, alt⟩
   clear ac a0 a1 a2 alt
   obtain ⟨bb, bo, hB, blt, bc⟩ := Rd.at_ (enc := rtV) rtV_len (HRL.out.2.2.2.1.next HB.out) hy
   have b0 := bc 0 _ rfl
   have b1 := bc 1 _ rfl
   have b2 := bc 2 _ rfl
   rw [Nat.add_zero] at b0
   rw [← Nat.add_assoc] at b1 b2
   have HQ : Hid (QD bb (bo + k * 3) y wo) := ⟨b0, b1, b2, blt⟩
   clear bc b0 b1 b2 blt
   clear hx hy hc' hcn hcc
   subst hA
   subst hB
   go_upto_region 4 with fail
   obtain ⟨x_1, hw_x_1⟩ : ∃ W, W = wo.drew := ⟨_, rfl⟩
   have HB1 := bed HB hw_x_1
   have HP1 : Hid (QD ab (ao + k * 3) x x_1) := by rw [hw_x_1]; exact HP.out.drew
   have HQ1 : Hid (QD bb (bo + k * 3) y x_1) := by rw [hw_x_1]; exact HQ.out.drew
   have hS1 := And.intro HP1.out HQ1.out
   refine wp_region_held_drew (S := (AndW (QD ab (ao + k * 3) x) (QD bb (bo + k * 3) y))) (by kernel_rfl) (by rw [← hw_x_1]; exact hS1) ?_
   rw [← hw_x_1]
   intro _
   clear hw_x_1 HB HP HQ
   refine tk 0 hS1 ?_
   go_simp
   refine tk 1 hS1 ?_
   go_simp
   refine tk 2 hS1 ?_
   go_simp
   refine tv 3 (.bool false) rfl (by intro w' hw'; skip; go_simp) hS1 ?_
   go_simp
   refine tk 4 hS1 ?_
   go_simp
   refine tk 5 hS1 ?_
   go_simp
   refine tk 6 hS1 ?_
   go_simp
   refine tk 7 hS1 ?_
   go_simp
   refine tv 8 (.agg #[.bool (rneg x), .string (rnum x), .string (rden x)]) rfl (by intro w' hw'; obtain ⟨k0, k1, k2, _⟩ := hw'.1; go_simp) hS1 ?_
   go_simp
   refine tk 9 hS1 ?_
   go_simp
   refine tk 10 hS1 ?_
   go_simp
   refine tk 11 hS1 ?_
   go_simp
   refine tv 12 (.agg #[.bool (rneg y), .string (rnum y), .string (rden y)]) rfl (by intro w' hw'; obtain ⟨k0, k1, k2, _⟩ := hw'.2; go_simp) hS1 ?_
   go_simp
   refine tr 13 (fun K hK => ?_)
   go_simp
   refine (HC.out _).mono ?_
   rintro e x_2 ⟨rfl, hb⟩
   have HB2 := ben HB1 hb
   have HP2 : Hid (QD ab (ao + k * 3) x x_2) := HP1.out.next hb
   have HQ2 : Hid (QD bb (bo + k * 3) y x_2) := HQ1.out.next hb
   clear hb HB1 HP1 HQ1
   have hS2 := And.intro HP2.out HQ2.out
   refine hK.out _ _ hS2 (fun _ => ?_)
   clear hK K
   refine tv 14 (.bool false) rfl (by intro w' hw'; skip; go_simp) hS2 ?_
   go_simp
   refine tk 15 hS2 ?_
   go_simp
   refine wpAnyH_done (by kernel_rfl) ?_ _
   go_wp2_with fail
   go_roundw
   case measure => simp [intOf] <;> omega
   case rel => exact ⟨k + 1, by omega, by go_num, HB2⟩
  ·
   have hge : ¬ (k : Int) < (n : Int) := by omega
   go_wp2_with fail
   go_ret
   exact ⟨rfl, HB.out⟩
def ProgPost (l : List Nm) (n : Nat) (w : World) (e : Ending) (w' : World) : Prop := ∃ A' c', e = .returned (.agg #[.slice A' n c', .slice none 0 0]) ∧ Rd w' w'.heap.size 1 A' n (l.flatMap rkV) ∧ Below w.heap.size w w'
theorem program_calls (A : Option Addr) (n c : Nat) (l : List Nm) (w : World) (hn : n = l.length) (hr : Rd w w.heap.size 5 A l.length (l.flatMap nmV)) (h8 : n ≤ 1000) :
 Calls Tryz.prog 24 #[.slice A n c] w (ProgPost l n w) := by
 have HRL := Lib.hid (And.intro hn hr)
 have hn1000 : n ≤ 1000 := h8
 obtain ⟨iq, hi, hz0, hz1, hz2⟩ := info_parts Tryz.info_intD
 have HIQ := Lib.hid (And.intro hi (And.intro hz0 (And.intro hz1 hz2)))
 clear hn hr h8 hi hz0 hz1 hz2
 go_enter Tryz.func24, Tryz.ntmps24
 go_wp2_with fail
 obtain ⟨gz, hg_gz⟩ : ∃ g, g = w.heap.size := ⟨_, rfl⟩
 obtain ⟨gp, hg_gp⟩ : ∃ g, g = w.heap.size + 1 := ⟨_, rfl⟩
 obtain ⟨w0, hw_w0⟩ : ∃ W, W = ((w.alloc (.cells #[.slice none 0 0, .slice none 0 0] 77)).alloc (.cells #[.slice none 0 0, .slice none 0 0] 77)) := ⟨_, rfl⟩
 have HZ0 : Hid (Bk gz (.cells #[.slice none 0 0, .slice none 0 0] 77) w0) := by rw [hw_w0, hg_gz]; exact blk_alloc (blk_new _ _)
 have HP0 : Hid (Bk gp (.cells #[.slice none 0 0, .slice none 0 0] 77) w0) := by rw [hw_w0, hg_gp]; exact blk_new1 _ _ _
 have HB0 : Hid (Below w.heap.size w w0) := by rw [hw_w0]; exact (bel_alloc _ _).alloc (by simp) _
 have HL_0 := Lib.hid (And.intro (by omega : w.heap.size ≤ gz) ((by omega : gz < gp)))
 rw [← hw_w0]
 (try rw [← hg_gp]); (try rw [← hg_gz])
 clear hw_w0 hg_gz hg_gp
 go_loopw [9] (fun j wr => ∃ (k : Nat) (A' : Option Addr) (c' : Nat), k ≤ n ∧ j = .int .i64 (k : Int) ∧ Hid (wr.ownsRow w.heap.size 3 1 (.slice A' k c') k (((l.take k).flatMap rkV))) ∧ Hid (Bk gp (.cells #[.slice A' k c', .slice none 0 0] 77) wr) ∧ Hid (Bk gz (.cells #[.slice none 0 0, .slice none 0 0] 77) wr) ∧ Hid (Below w.heap.size w wr)) (fun j _ => n - (intOf j).toNat)
 case atStart => exact ⟨0, none, 0, Nat.zero_le _, rfl, World.ownsRow_nil _ _ _ _, HP0, HZ0, HB0⟩
 case round =>
  clear HP0 HZ0 HB0
  obtain ⟨k, A', c', hk, rfl, HO, HP, HZ, HB⟩ := hrel
  rename World => wo
  by_cases hlt : k < n
  ·
   have hlt2 : (k : Int) < (n : Int) := by omega
   obtain ⟨x, hx⟩ := getElem?_of_lt (l := l) (k := k) (by rw [← HRL.out.1]; exact hlt)
   obtain ⟨b, off, hA, _, hc⟩ := Rd.at_ (enc := nmV) nmV_len (HRL.out.2.next HB.out) hx
   subst hA
   have p0 := hc 0 _ rfl
   have p1 := hc 1 _ rfl
   have p2 := hc 2 _ rfl
   have p3 := hc 3 _ rfl
   have p4 := hc 4 _ rfl
   rw [Nat.add_zero] at p0
   rw [← Nat.add_assoc] at p1 p2 p3 p4
   obtain ⟨xi, xr, xa⟩ := x
   dsimp only at p0 p1 p2 p3 p4
   have HTK : Hid (((l.take (k + 1)).flatMap rkV) = ((l.take k).flatMap rkV) ++ [.int .i64 xr]) := by show _ = _; rw [List.take_add_one, hx]; simp [rkV]
   clear hc hx
   go_upto_region 5 with fail
   clear p0 p1 p2 p3 p4
   obtain ⟨gx, hg_gx⟩ : ∃ g, g = wo.heap.size := ⟨_, rfl⟩
   obtain ⟨x_1, hw_x_1⟩ : ∃ W, W = wo.alloc (.cells #[.string xi, .int .i64 xr, .bool (rneg xa), .string (rnum xa), .string (rden xa)] 73) := ⟨_, rfl⟩
   have HL_gx := Lib.hid (And.intro (by have := HB.out.size; omega : w.heap.size ≤ gx) (And.intro (by have := blk_lt HP.out; omega : gp < gx) ((by have := blk_lt HZ.out; omega : gz < gx))))
   have HB1 := bea HB hw_x_1
   have HP1 := bka HP hw_x_1
   have HZ1 := bka HZ hw_x_1
   have HO1 : Hid (x_1.ownsRow w.heap.size 3 1 (.slice A' k c') k (((l.take k).flatMap rkV))) := by rw [hw_x_1]; exact own_belowQ HO.out (bel_alloc _ _)
   have HX1 : Hid (Bk gx (.cells #[.string xi, .int .i64 xr, .bool (rneg xa), .string (rnum xa), .string (rden xa)] 73) x_1) := by rw [hw_x_1, hg_gx]; exact blk_new _ _
   rw [← hw_x_1]
   (try rw [← hg_gx])
   clear hw_x_1 hg_gx HB HP HZ HO
   have q0 := blk_at (j := 0) HP1.out rfl
   have q1 := blk_at (j := 1) HX1.out rfl
   go_wp2_with (at_builtin; refine wpList_append_own _ rfl (.tmp 14) (.tmp 17) 75 rfl w.heap.size 3 iq _ 1 8 Tryz.underlying75 HIQ.out.1 HIQ.out.2.1 HIQ.out.2.2.1 HIQ.out.2.2.2 rfl (by decide) _ k ((l.take k).flatMap rkV) rfl (HO1.out.alloc _) ⟨x_1.heap.size, 0, none⟩ 1 1 [.int .i64 xr] rfl rfl (World.news_of_block (blk_new x_1 (.cells #[.int .i64 xr] 3))) (by simp [Value.oneCell']) (by simp only [maxLen]; omega) (by omega) (by have := HB1.out.size; simp; omega) ?_)
   intro v' w' hown hgr hnil
   obtain ⟨g', cap, rfl, _, _⟩ := hown.form (by omega)
   have HO2 : Hid (w'.ownsRow w.heap.size 3 1 (.slice (some ⟨g', 0, none⟩) (k + 1) cap) (k + 1) ((l.take (k + 1)).flatMap rkV)) := by rw [HTK.out]; exact hown
   have HB2 : Hid (Below w.heap.size w w') := (HB1.out.alloc HB1.out.size _).grown hgr (by have := HB1.out.size; simp; omega) (fun j hj => (HO1.out.lt j hj).1)
   have HP2 : Hid (Bk gp (.cells #[.slice A' k c', .slice none 0 0] 77) w') := blk_grownT (HO1.out.alloc _) (blk_alloc HP1.out) (by decide) hgr
   have HZ2 : Hid (Bk gz (.cells #[.slice none 0 0, .slice none 0 0] 77) w') := blk_grownT (HO1.out.alloc _) (blk_alloc HZ1.out) (by decide) hgr
   clear q0 q1 hown hgr hnil HB1 HP1 HZ1 HO1 HX1
   have c0 := blk_at (j := 0) HP2.out rfl
   have cf0 := frozen_of_row _ _ 0 _ _ HP2.out
   have cfz := blk_lt HP2.out
   go_wp2_with fail
   clear cfz c0 cf0
   have HBLK := HP2
   obtain ⟨y_1, hw_y_1⟩ : ∃ W, W = (w'.setCell ⟨gp, 0, none⟩ (.slice (some ⟨g', 0, none⟩) (k + 1) cap)) := ⟨_, rfl⟩
   have ho : Only gp w' y_1 := by rw [hw_y_1]; exact (Only.refl _ _).setC _ _
   have HB1 := beo HB2 ho (by have := HL_0.out; omega)
   have HZ1 := bko HZ2 ho (by have := HL_0.out; omega)
   have HO1 : Hid (y_1.ownsRow w.heap.size 3 1 (.slice (some ⟨g', 0, none⟩) (k + 1) cap) (k + 1) ((l.take (k + 1)).flatMap rkV)) := own_onlyT HO2.out ho HBLK.out (by decide)
   have HP1 : Hid (Bk gp (.cells #[.slice (some ⟨g', 0, none⟩) (k + 1) cap, .slice none 0 0] 77) y_1) := by rw [hw_y_1]; exact heap_setCell_same _ gp 0 _ _ (.slice (some ⟨g', 0, none⟩) (k + 1) cap) (HP2.out)
   rw [← hw_y_1]
   clear hw_y_1 ho HP2 HB2 HZ2 HO2
   clear HBLK
   go_roundw
   case measure => simp [intOf] <;> omega
   case rel => exact ⟨k + 1, _, _, by omega, by go_num, HO1, HP1, HZ1, HB1⟩
  ·
   have hge : ¬ (k : Int) < (n : Int) := by omega
   have hkn : k = n := by omega
   subst hkn
   have p0 := blk_at (j := 0) HP.out rfl
   have p1 := blk_at (j := 1) HP.out rfl
   have pf0 := frozen_of_row _ _ 0 _ _ HP.out
   have pf1 := frozen_of_row _ _ 1 _ _ HP.out
   have pfz := blk_lt HP.out
   have z0 := blk_at (j := 0) HZ.out rfl
   have z1 := blk_at (j := 1) HZ.out rfl
   have zf0 := frozen_of_row _ _ 0 _ _ HZ.out
   have zf1 := frozen_of_row _ _ 1 _ _ HZ.out
   have zfz := blk_lt HZ.out
   go_wp2_with fail
   clear pfz p0 pf0 p1 pf1
   clear zfz z0 zf0 z1 zf1
   have HBLK := HZ
   obtain ⟨y_1, hw_y_1⟩ : ∃ W, W = ((wo.setCell ⟨gz, 0, none⟩ (.slice A' k c')).setCell ⟨gz, 1, none⟩ (.slice none 0 0)) := ⟨_, rfl⟩
   have ho : Only gz wo y_1 := by rw [hw_y_1]; exact ((Only.refl _ _).setC _ _).setC _ _
   have HB1 := beo HB ho (by have := HL_0.out; omega)
   have HO1 : Hid (y_1.ownsRow w.heap.size 3 1 (.slice A' k c') k (((l.take k).flatMap rkV))) := own_onlyT HO.out ho HBLK.out (by decide)
   have HZ1 : Hid (Bk gz (.cells #[.slice A' k c', .slice none 0 0] 77) y_1) := by rw [hw_y_1]; exact heap_setCell_same _ gz 1 _ _ (.slice none 0 0) (heap_setCell_same _ gz 0 _ _ (.slice A' k c') (HZ.out))
   rw [← hw_y_1]
   clear hw_y_1 ho HZ HB HO
   clear HBLK
   have z0 := blk_at (j := 0) HZ1.out rfl
   have z1 := blk_at (j := 1) HZ1.out rfl
   have zf0 := frozen_of_row _ _ 0 _ _ HZ1.out
   have zf1 := frozen_of_row _ _ 1 _ _ HZ1.out
   have zfz := blk_lt HZ1.out
   exact bodyPost_ret (v := .agg #[.slice A' k c', .slice none 0 0]) (by simp [results, Tryz.results24, go_sem, z0, z1]) rfl ⟨A', c', rfl, by have h1 := Rd.of_own HO1.out; rw [List.take_of_length_le (by rw [← HRL.out.1]; exact Nat.le_refl _)] at h1; exact h1, HB1.out⟩
def EstPost (l : List Nm) (n : Nat) (w : World) (e : Ending) (w' : World) : Prop := ∃ A' c', e = .returned (estV A' n c') ∧ Rd w' w'.heap.size 5 A' n ((l.map clN).flatMap clV) ∧ Below w.heap.size w w'
theorem estate_calls (A A2 : Option Addr) (n c c2 : Nat) (l : List Nm) (w : World) (hn : n = l.length) (hr : Rd w w.heap.size 5 A l.length (l.flatMap nmV)) (hr2 : Rd w w.heap.size 1 A2 l.length (l.flatMap rkV)) (hrk : ∀ x ∈ l, 0 ≤ x.rank) (h8 : n ≤ 1000) :
 Calls Tryz.prog 23 #[.slice A n c, .agg #[.slice A2 n c2, .slice none 0 0]] w (EstPost l n w) := by
 have HRL := Lib.hid (And.intro hn (And.intro hr (And.intro hr2 hrk)))
 have hn1000 : n ≤ 1000 := h8
 obtain ⟨iq, hi, hz0, hz1, hz2⟩ := info_parts Tryz.info_claimD
 have HIQ := Lib.hid (And.intro hi (And.intro hz0 (And.intro hz1 hz2)))
 clear hn hr hr2 hrk h8 hi hz0 hz1 hz2
 go_enter Tryz.func23, Tryz.ntmps23
 go_upto_region 1 with fail
 obtain ⟨gp, hg_gp⟩ : ∃ g, g = w.heap.size := ⟨_, rfl⟩
 obtain ⟨gz, hg_gz⟩ : ∃ g, g = w.heap.size + 1 := ⟨_, rfl⟩
 obtain ⟨w0, hw_w0⟩ : ∃ W, W = ((w.alloc (.cells #[.slice A2 n c2, .slice none 0 0] 77)).alloc (.cells #[.bool false, .string ⟨#[]⟩, .string ⟨#[]⟩, .slice none 0 0, .slice none 0 0] 37)) := ⟨_, rfl⟩
 have HP0 : Hid (Bk gp (.cells #[.slice A2 n c2, .slice none 0 0] 77) w0) := by rw [hw_w0, hg_gp]; exact blk_alloc (blk_new _ _)
 have HZ0 : Hid (Bk gz (.cells #[.bool false, .string ⟨#[]⟩, .string ⟨#[]⟩, .slice none 0 0, .slice none 0 0] 37) w0) := by rw [hw_w0, hg_gz]; exact blk_new1 _ _ _
 have HB0 : Hid (Below w.heap.size w w0) := by rw [hw_w0]; exact (bel_alloc _ _).alloc (by simp) _
 have HL_0 := Lib.hid (And.intro (by omega : w.heap.size ≤ gp) ((by omega : gp < gz)))
 rw [← hw_w0]
 (try rw [← hg_gz]); (try rw [← hg_gp])
 clear hw_w0 hg_gp hg_gz
 have c1 := blk_at (j := 1) HP0.out rfl
 have cf1 := frozen_of_row _ _ 1 _ _ HP0.out
 have cfz := blk_lt HP0.out
 go_wp2_with fail
 clear cfz c1 cf1
 obtain ⟨ge, hg_ge⟩ : ∃ g, g = w0.heap.size := ⟨_, rfl⟩
 obtain ⟨w1, hw_w1⟩ : ∃ W, W = w0.alloc (.cells #[.bool false, .string ⟨#[]⟩, .string ⟨#[]⟩, .slice none 0 0, .slice none 0 0] 37) := ⟨_, rfl⟩
 have HL_ge := Lib.hid (And.intro (by have := blk_lt HP0.out; omega : gp < ge) (And.intro (by have := blk_lt HZ0.out; omega : gz < ge) ((by have := HB0.out.size; omega : w.heap.size ≤ ge))))
 have HP1 := bka HP0 hw_w1
 have HZ1 := bka HZ0 hw_w1
 have HB1 := bea HB0 hw_w1
 have HE1 : Hid (Bk ge (.cells #[.bool false, .string ⟨#[]⟩, .string ⟨#[]⟩, .slice none 0 0, .slice none 0 0] 37) w1) := by rw [hw_w1, hg_ge]; exact blk_new _ _
 rw [← hw_w1]
 (try rw [← hg_ge])
 clear hw_w1 hg_ge HP0 HZ0 HB0
 go_loopw [13] (fun j wr => ∃ (k : Nat) (A' : Option Addr) (c' : Nat), k ≤ n ∧ j = .int .i64 (k : Int) ∧ Hid (wr.ownsRow w.heap.size 40 5 (.slice A' k c') k (((l.take k).map clN).flatMap clV)) ∧ Hid (Bk ge (.cells #[.bool false, .string ⟨#[]⟩, .string ⟨#[]⟩, .slice A' k c', .slice none 0 0] 37) wr) ∧ Hid (Bk gp (.cells #[.slice A2 n c2, .slice none 0 0] 77) wr) ∧ Hid (Bk gz (.cells #[.bool false, .string ⟨#[]⟩, .string ⟨#[]⟩, .slice none 0 0, .slice none 0 0] 37) wr) ∧ Hid (Below w.heap.size w wr)) (fun j _ => n - (intOf j).toNat)
 case atStart => exact ⟨0, none, 0, Nat.zero_le _, rfl, World.ownsRow_nil _ _ _ _, HE1, HP1, HZ1, HB1⟩
 case round =>
  clear HE1 HP1 HZ1 HB1
  obtain ⟨k, A', c', hk, rfl, HO, HE, HP, HZ, HB⟩ := hrel
  rename World => wo
  by_cases hlt : k < n
  ·
   have hlt2 : (k : Int) < (n : Int) := by omega
   obtain ⟨x, hx⟩ := getElem?_of_lt (l := l) (k := k) (by rw [← HRL.out.1]; exact hlt)
   have hxr := HRL.out.2.2.2 x (List.mem_of_getElem? hx)
   obtain ⟨rb, ro, hA2, rlt, rc⟩ := Rd.at_ (enc := rkV) (fun _ => rfl) (HRL.out.2.2.1) hx
   have HV : Hid (VC rb (ro + k * 1) (.int .i64 x.rank) w) := ⟨by have h1 := rc 0 _ rfl; rw [Nat.add_zero] at h1; exact h1, rlt⟩
   clear rc rlt
   obtain ⟨b, off, hA, _, hc⟩ := Rd.at_ (enc := nmV) nmV_len (HRL.out.2.1.next HB.out) hx
   subst hA
   have p0 := hc 0 _ rfl
   have p1 := hc 1 _ rfl
   have p2 := hc 2 _ rfl
   have p3 := hc 3 _ rfl
   have p4 := hc 4 _ rfl
   rw [Nat.add_zero] at p0
   rw [← Nat.add_assoc] at p1 p2 p3 p4
   obtain ⟨xi, xr, xa⟩ := x
   dsimp only at p0 p1 p2 p3 p4
   rw [Nat.mul_one] at HV
   dsimp only at HV hxr
   have HTK : Hid ((((l.take (k + 1)).map clN).flatMap clV) = (((l.take k).map clN).flatMap clV) ++ clV (clN ⟨xi, xr, xa⟩)) := by show _ = _; rw [take_mapD hx, List.flatMap_append]; simp
   have hcl : clV (clN ⟨xi, xr, xa⟩) = [.int .i64 (-1), .int .i64 xr, .bool (rneg xa), .string (rnum xa), .string (rden xa)] := by unfold clV clN; dsimp only; rw [Int.toNat_of_nonneg hxr]
   rw [hcl] at HTK
   clear hc hx hxr hcl
   subst hA2
   go_upto_region 5 with fail
   clear p0 p1 p2 p3 p4
   obtain ⟨gx, hg_gx⟩ : ∃ g, g = wo.heap.size := ⟨_, rfl⟩
   obtain ⟨x_1, hw_x_1⟩ : ∃ W, W = wo.alloc (.cells #[.string xi, .int .i64 xr, .bool (rneg xa), .string (rnum xa), .string (rden xa)] 73) := ⟨_, rfl⟩
   have HL_gx := Lib.hid (And.intro (by have := HB.out.size; omega : w.heap.size ≤ gx) (And.intro (by have := blk_lt HE.out; omega : ge < gx) (And.intro (by have := blk_lt HP.out; omega : gp < gx) ((by have := blk_lt HZ.out; omega : gz < gx)))))
   have HB1 := bea HB hw_x_1
   have HE1 := bka HE hw_x_1
   have HP1 := bka HP hw_x_1
   have HZ1 := bka HZ hw_x_1
   have HO1 : Hid (x_1.ownsRow w.heap.size 40 5 (.slice A' k c') k (((l.take k).map clN).flatMap clV)) := by rw [hw_x_1]; exact own_belowQ HO.out (bel_alloc _ _)
   have HX1 : Hid (Bk gx (.cells #[.string xi, .int .i64 xr, .bool (rneg xa), .string (rnum xa), .string (rden xa)] 73) x_1) := by rw [hw_x_1, hg_gx]; exact blk_new _ _
   rw [← hw_x_1]
   (try rw [← hg_gx])
   clear hw_x_1 hg_gx HB HE HP HZ HO
   have c0 := blk_at (j := 0) HP1.out rfl
   have cf0 := frozen_of_row _ _ 0 _ _ HP1.out
   have cfz := blk_lt HP1.out
   go_upto_region 6 with fail
   clear cfz c0 cf0
   have HVa : Hid (VC rb (ro + k) (.int .i64 xr) x_1) := HV.out.next HB1.out
   obtain ⟨x_2, hw_x_2⟩ : ∃ W, W = x_1.drew := ⟨_, rfl⟩
   have HB2 := bed HB1 hw_x_2
   have HE2 := bkd HE1 hw_x_2
   have HP2 := bkd HP1 hw_x_2
   have HZ2 := bkd HZ1 hw_x_2
   have HO2 : Hid (x_2.ownsRow w.heap.size 40 5 (.slice A' k c') k (((l.take k).map clN).flatMap clV)) := by rw [hw_x_2]; exact HO1.out
   have HX2 := bkd HX1 hw_x_2
   have HV2 : Hid (VC rb (ro + k) (.int .i64 xr) x_2) := by rw [hw_x_2]; exact HVa.out.drew
   have hS1 := And.intro HP2.out (And.intro HX2.out HV2.out)
   refine wp_region_held_drew (S := (AndW (Bk gp (.cells #[.slice (some ⟨rb, ro, none⟩) n c2, .slice none 0 0] 77)) (AndW (Bk gx (.cells #[.string xi, .int .i64 xr, .bool (rneg xa), .string (rnum xa), .string (rden xa)] 73)) (VC rb (ro + k) (.int .i64 xr))))) (by kernel_rfl) (by rw [← hw_x_2]; exact hS1) ?_
   rw [← hw_x_2]
   intro _
   clear hw_x_2 HB1 HE1 HP1 HZ1 HO1 HX1 HVa
   refine tk 0 hS1 ?_
   go_simp
   refine tk 2 hS1 ?_
   go_simp
   refine tv 3 (.slice (some ⟨rb, ro, none⟩) n c2) rfl (by intro w' hw'; have k0 := blk_at (j := 0) hw'.1 rfl; go_simp) hS1 ?_
   go_simp
   refine tk 4 hS1 ?_
   go_simp
   refine tk 5 hS1 ?_
   go_simp
   refine tv 6 (.int .i64 xr) rfl (by intro w' hw'; have k0 := hw'.2.2.1; go_simp) hS1 ?_
   go_simp
   refine tk 7 hS1 ?_
   go_simp
   refine tv 8 (.agg #[.bool (rneg xa), .string (rnum xa), .string (rden xa)]) rfl (by intro w' hw'; have k2 := blk_at (j := 2) hw'.2.1 rfl; have k3 := blk_at (j := 3) hw'.2.1 rfl; have k4 := blk_at (j := 4) hw'.2.1 rfl; go_simp) hS1 ?_
   go_simp
   refine tk 9 hS1 ?_
   go_simp
   refine wpAnyH_ready (rs := [1, 10]) (by kernel_rfl) (by simp) ?_
   refine AllReadyH.cons rfl (fun K hK => ?_) (AllReadyH.cons rfl (fun K hK => ?_) AllReadyH.nil)
   ·
    have l3 := blk_at (j := 3) HE2.out rfl
    go_simp
    clear l3
    have hS2 := And.intro HP2.out (And.intro HX2.out HV2.out)
    refine hK.out _ _ hS2 (fun _ => ?_)
    clear hK K
    refine tr 10 (fun K hK => ?_)
    go_simp
    obtain ⟨gq, hg_gq⟩ : ∃ g, g = x_2.heap.size := ⟨_, rfl⟩
    obtain ⟨x_3, hw_x_3⟩ : ∃ W, W = x_2.alloc (.cells #[.int .i64 (-1), .int .i64 xr, .bool (rneg xa), .string (rnum xa), .string (rden xa)] 40) := ⟨_, rfl⟩
    have HL_gq := Lib.hid (And.intro (by have := HB2.out.size; omega : w.heap.size ≤ gq) (And.intro (by have := blk_lt HE2.out; omega : ge < gq) (And.intro (by have := blk_lt HP2.out; omega : gp < gq) (And.intro (by have := blk_lt HZ2.out; omega : gz < gq) ((by have := blk_lt HX2.out; omega : gx < gq))))))
    have HB3 := bea HB2 hw_x_3
    have HE3 := bka HE2 hw_x_3
    have HP3 := bka HP2 hw_x_3
    have HZ3 := bka HZ2 hw_x_3
    have HO3 : Hid (x_3.ownsRow w.heap.size 40 5 (.slice A' k c') k (((l.take k).map clN).flatMap clV)) := by rw [hw_x_3]; exact own_belowQ HO2.out (bel_alloc _ _)
    have HX3 := bka HX2 hw_x_3
    have HV3 : Hid (VC rb (ro + k) (.int .i64 xr) x_3) := by rw [hw_x_3]; exact HV2.out.next (bel_alloc _ _)
    have HN3 : Hid (Bk gq (.cells #[.int .i64 (-1), .int .i64 xr, .bool (rneg xa), .string (rnum xa), .string (rden xa)] 40) x_3) := by rw [hw_x_3, hg_gq]; exact blk_new _ _
    rw [← hw_x_3]
    (try rw [← hg_gq])
    clear hw_x_3 hg_gq HB2 HE2 HP2 HZ2 HO2 HX2 HV2
    have hS3 := And.intro HP3.out (And.intro HX3.out HV3.out)
    refine hK.out _ _ hS3 (fun _ => ?_)
    clear hK K
    refine tr 11 (fun K hK => ?_)
    refine step_append_lies _ rfl (.tmp 24) (.tmp 33) 34 rfl w.heap.size 40 iq _ 5 56 Tryz.underlying34 HIQ.out.1 HIQ.out.2.1 HIQ.out.2.2.1 HIQ.out.2.2.2 rfl (by decide) (.slice A' k c') k (((l.take k).map clN).flatMap clV) (by simp [Act.eval, Act.put]) HO3.out ⟨gq, 0, none⟩ 1 1 [.int .i64 (-1), .int .i64 xr, .bool (rneg xa), .string (rnum xa), .string (rden xa)] (by simp [Act.eval, Act.put]) rfl (World.news_of_block HN3.out) (by simp [Value.oneCell']) (by decide) (by simp only [maxLen]; omega) (by omega) HB3.out.size _ rfl ?_
    intro g' cap wp hown hgr hor hlt3
    have HEp : Hid (Bk ge (.cells #[.bool false, .string ⟨#[]⟩, .string ⟨#[]⟩, .slice A' k c', .slice none 0 0] 37) wp) := blk_grownT HO3.out HE3.out (by decide) hgr
    have HPp : Hid (Bk gp (.cells #[.slice (some ⟨rb, ro, none⟩) n c2, .slice none 0 0] 77) wp) := blk_grownT HO3.out HP3.out (by decide) hgr
    have HZp : Hid (Bk gz (.cells #[.bool false, .string ⟨#[]⟩, .string ⟨#[]⟩, .slice none 0 0, .slice none 0 0] 37) wp) := blk_grownT HO3.out HZ3.out (by decide) hgr
    have HXp : Hid (Bk gx (.cells #[.string xi, .int .i64 xr, .bool (rneg xa), .string (rnum xa), .string (rden xa)] 73) wp) := blk_grownT HO3.out HX3.out (by decide) hgr
    have HBp : Hid (Below w.heap.size w wp) := HB3.out.grown hgr HB3.out.size (fun j hj => (HO3.out.lt j hj).1)
    have HVp : Hid (VC rb (ro + k) (.int .i64 xr) wp) := HV.out.next HBp.out
    have HOp : Hid (wp.ownsRow w.heap.size 40 5 (.slice (some ⟨g', 0, none⟩) (k + 1) cap) (k + 1) (((l.take (k + 1)).map clN).flatMap clV)) := by rw [HTK.out]; exact hown
    clear hown hgr hor hlt3 HB3 HE3 HP3 HZ3 HO3 HX3 HV3 HN3
    have hS4 := And.intro HPp.out (And.intro HXp.out HVp.out)
    refine hK.out _ _ hS4 (fun _ => ?_)
    clear hK K
    refine tk 12 hS4 ?_
    go_simp
    refine tr 13 (fun K hK => ?_)
    have l3 := blk_at (j := 3) HEp.out rfl
    have lf3 := frozen_of_row _ _ 3 _ _ HEp.out
    have lfz := blk_lt HEp.out
    go_simp
    clear lfz l3 lf3
    obtain ⟨wz, hwz⟩ : ∃ W, W = wp.setCell ⟨ge, 3, none⟩ (.slice (some ⟨g', 0, none⟩) (k + 1) cap) := ⟨_, rfl⟩
    have ho : Only ge wp wz := by rw [hwz]; exact (Only.refl _ _).setC _ _
    have HEz : Hid (Bk ge (.cells #[.bool false, .string ⟨#[]⟩, .string ⟨#[]⟩, .slice (some ⟨g', 0, none⟩) (k + 1) cap, .slice none 0 0] 37) wz) := by rw [hwz]; exact heap_setCell_same _ ge 3 _ _ _ HEp.out
    have HOz : Hid (wz.ownsRow w.heap.size 40 5 (.slice (some ⟨g', 0, none⟩) (k + 1) cap) (k + 1) (((l.take (k + 1)).map clN).flatMap clV)) := own_onlyT HOp.out ho HEp.out (by decide)
    have HBz := beo HBp ho (by have := HL_0.out; have := HL_ge.out; have := HL_gx.out; have := HL_gq.out; omega)
    have HPz := bko HPp ho (by have := HL_0.out; have := HL_ge.out; have := HL_gx.out; have := HL_gq.out; omega)
    have HZz := bko HZp ho (by have := HL_0.out; have := HL_ge.out; have := HL_gx.out; have := HL_gq.out; omega)
    have HXz := bko HXp ho (by have := HL_0.out; have := HL_ge.out; have := HL_gx.out; have := HL_gq.out; omega)
    have HVz : Hid (VC rb (ro + k) (.int .i64 xr) wz) := HV.out.next HBz.out
    rw [← hwz]
    clear hwz ho HEp HOp HBp HPp HZp HXp HVp
    have hS5 := And.intro HPz.out (And.intro HXz.out HVz.out)
    refine hK.out _ _ hS5 (fun _ => ?_)
    clear hK K
    refine wpAnyH_done (by kernel_rfl) ?_ _
    (try go_wp2_with fail)
    go_roundw
    case measure => simp [intOf] <;> omega
    case rel => exact ⟨k + 1, _, _, by omega, by go_num, HOz, HEz, HPz, HZz, HBz⟩
   ·
    go_simp
    obtain ⟨gq, hg_gq⟩ : ∃ g, g = x_2.heap.size := ⟨_, rfl⟩
    obtain ⟨x_3, hw_x_3⟩ : ∃ W, W = x_2.alloc (.cells #[.int .i64 (-1), .int .i64 xr, .bool (rneg xa), .string (rnum xa), .string (rden xa)] 40) := ⟨_, rfl⟩
    have HL_gq := Lib.hid (And.intro (by have := HB2.out.size; omega : w.heap.size ≤ gq) (And.intro (by have := blk_lt HE2.out; omega : ge < gq) (And.intro (by have := blk_lt HP2.out; omega : gp < gq) (And.intro (by have := blk_lt HZ2.out; omega : gz < gq) ((by have := blk_lt HX2.out; omega : gx < gq))))))
    have HB3 := bea HB2 hw_x_3
    have HE3 := bka HE2 hw_x_3
    have HP3 := bka HP2 hw_x_3
    have HZ3 := bka HZ2 hw_x_3
    have HO3 : Hid (x_3.ownsRow w.heap.size 40 5 (.slice A' k c') k (((l.take k).map clN).flatMap clV)) := by rw [hw_x_3]; exact own_belowQ HO2.out (bel_alloc _ _)
    have HX3 := bka HX2 hw_x_3
    have HV3 : Hid (VC rb (ro + k) (.int .i64 xr) x_3) := by rw [hw_x_3]; exact HV2.out.next (bel_alloc _ _)
    have HN3 : Hid (Bk gq (.cells #[.int .i64 (-1), .int .i64 xr, .bool (rneg xa), .string (rnum xa), .string (rden xa)] 40) x_3) := by rw [hw_x_3, hg_gq]; exact blk_new _ _
    rw [← hw_x_3]
    (try rw [← hg_gq])
    clear hw_x_3 hg_gq HB2 HE2 HP2 HZ2 HO2 HX2 HV2
    have hS2 := And.intro HP3.out (And.intro HX3.out HV3.out)
    refine hK.out _ _ hS2 (fun _ => ?_)
    clear hK K
    refine tr 1 (fun K hK => ?_)
    have l3 := blk_at (j := 3) HE3.out rfl
    go_simp
    clear l3
    have hS3 := And.intro HP3.out (And.intro HX3.out HV3.out)
    refine hK.out _ _ hS3 (fun _ => ?_)
    clear hK K
    refine tr 11 (fun K hK => ?_)
    refine step_append_lies _ rfl (.tmp 24) (.tmp 33) 34 rfl w.heap.size 40 iq _ 5 56 Tryz.underlying34 HIQ.out.1 HIQ.out.2.1 HIQ.out.2.2.1 HIQ.out.2.2.2 rfl (by decide) (.slice A' k c') k (((l.take k).map clN).flatMap clV) (by simp [Act.eval, Act.put]) HO3.out ⟨gq, 0, none⟩ 1 1 [.int .i64 (-1), .int .i64 xr, .bool (rneg xa), .string (rnum xa), .string (rden xa)] (by simp [Act.eval, Act.put]) rfl (World.news_of_block HN3.out) (by simp [Value.oneCell']) (by decide) (by simp only [maxLen]; omega) (by omega) HB3.out.size _ rfl ?_
    intro g' cap wp hown hgr hor hlt3
    have HEp : Hid (Bk ge (.cells #[.bool false, .string ⟨#[]⟩, .string ⟨#[]⟩, .slice A' k c', .slice none 0 0] 37) wp) := blk_grownT HO3.out HE3.out (by decide) hgr
    have HPp : Hid (Bk gp (.cells #[.slice (some ⟨rb, ro, none⟩) n c2, .slice none 0 0] 77) wp) := blk_grownT HO3.out HP3.out (by decide) hgr
    have HZp : Hid (Bk gz (.cells #[.bool false, .string ⟨#[]⟩, .string ⟨#[]⟩, .slice none 0 0, .slice none 0 0] 37) wp) := blk_grownT HO3.out HZ3.out (by decide) hgr
    have HXp : Hid (Bk gx (.cells #[.string xi, .int .i64 xr, .bool (rneg xa), .string (rnum xa), .string (rden xa)] 73) wp) := blk_grownT HO3.out HX3.out (by decide) hgr
    have HBp : Hid (Below w.heap.size w wp) := HB3.out.grown hgr HB3.out.size (fun j hj => (HO3.out.lt j hj).1)
    have HVp : Hid (VC rb (ro + k) (.int .i64 xr) wp) := HV.out.next HBp.out
    have HOp : Hid (wp.ownsRow w.heap.size 40 5 (.slice (some ⟨g', 0, none⟩) (k + 1) cap) (k + 1) (((l.take (k + 1)).map clN).flatMap clV)) := by rw [HTK.out]; exact hown
    clear hown hgr hor hlt3 HB3 HE3 HP3 HZ3 HO3 HX3 HV3 HN3
    have hS4 := And.intro HPp.out (And.intro HXp.out HVp.out)
    refine hK.out _ _ hS4 (fun _ => ?_)
    clear hK K
    refine tk 12 hS4 ?_
    go_simp
    refine tr 13 (fun K hK => ?_)
    have l3 := blk_at (j := 3) HEp.out rfl
    have lf3 := frozen_of_row _ _ 3 _ _ HEp.out
    have lfz := blk_lt HEp.out
    go_simp
    clear lfz l3 lf3
    obtain ⟨wz, hwz⟩ : ∃ W, W = wp.setCell ⟨ge, 3, none⟩ (.slice (some ⟨g', 0, none⟩) (k + 1) cap) := ⟨_, rfl⟩
    have ho : Only ge wp wz := by rw [hwz]; exact (Only.refl _ _).setC _ _
    have HEz : Hid (Bk ge (.cells #[.bool false, .string ⟨#[]⟩, .string ⟨#[]⟩, .slice (some ⟨g', 0, none⟩) (k + 1) cap, .slice none 0 0] 37) wz) := by rw [hwz]; exact heap_setCell_same _ ge 3 _ _ _ HEp.out
    have HOz : Hid (wz.ownsRow w.heap.size 40 5 (.slice (some ⟨g', 0, none⟩) (k + 1) cap) (k + 1) (((l.take (k + 1)).map clN).flatMap clV)) := own_onlyT HOp.out ho HEp.out (by decide)
    have HBz := beo HBp ho (by have := HL_0.out; have := HL_ge.out; have := HL_gx.out; have := HL_gq.out; omega)
    have HPz := bko HPp ho (by have := HL_0.out; have := HL_ge.out; have := HL_gx.out; have := HL_gq.out; omega)
    have HZz := bko HZp ho (by have := HL_0.out; have := HL_ge.out; have := HL_gx.out; have := HL_gq.out; omega)
    have HXz := bko HXp ho (by have := HL_0.out; have := HL_ge.out; have := HL_gx.out; have := HL_gq.out; omega)
    have HVz : Hid (VC rb (ro + k) (.int .i64 xr) wz) := HV.out.next HBz.out
    rw [← hwz]
    clear hwz ho HEp HOp HBp HPp HZp HXp HVp
    have hS5 := And.intro HPz.out (And.intro HXz.out HVz.out)
    refine hK.out _ _ hS5 (fun _ => ?_)
    clear hK K
    refine wpAnyH_done (by kernel_rfl) ?_ _
    (try go_wp2_with fail)
    go_roundw
    case measure => simp [intOf] <;> omega
    case rel => exact ⟨k + 1, _, _, by omega, by go_num, HOz, HEz, HPz, HZz, HBz⟩
  ·
   have hge : ¬ (k : Int) < (n : Int) := by omega
   have hkn : k = n := by omega
   subst hkn
   have p0 := blk_at (j := 0) HE.out rfl
   have p1 := blk_at (j := 1) HE.out rfl
   have p2 := blk_at (j := 2) HE.out rfl
   have p3 := blk_at (j := 3) HE.out rfl
   have p4 := blk_at (j := 4) HE.out rfl
   have pf0 := frozen_of_row _ _ 0 _ _ HE.out
   have pf1 := frozen_of_row _ _ 1 _ _ HE.out
   have pf2 := frozen_of_row _ _ 2 _ _ HE.out
   have pf3 := frozen_of_row _ _ 3 _ _ HE.out
   have pf4 := frozen_of_row _ _ 4 _ _ HE.out
   have pfz := blk_lt HE.out
   have z0 := blk_at (j := 0) HZ.out rfl
   have z1 := blk_at (j := 1) HZ.out rfl
   have z2 := blk_at (j := 2) HZ.out rfl
   have z3 := blk_at (j := 3) HZ.out rfl
   have z4 := blk_at (j := 4) HZ.out rfl
   have zf0 := frozen_of_row _ _ 0 _ _ HZ.out
   have zf1 := frozen_of_row _ _ 1 _ _ HZ.out
   have zf2 := frozen_of_row _ _ 2 _ _ HZ.out
   have zf3 := frozen_of_row _ _ 3 _ _ HZ.out
   have zf4 := frozen_of_row _ _ 4 _ _ HZ.out
   have zfz := blk_lt HZ.out
   go_wp2_with fail
   clear pfz p0 pf0 p1 pf1 p2 pf2 p3 pf3 p4 pf4
   clear zfz z0 zf0 z1 zf1 z2 zf2 z3 zf3 z4 zf4
   have HBLK := HZ
   obtain ⟨y_1, hw_y_1⟩ : ∃ W, W = (((((wo.setCell ⟨gz, 0, none⟩ (.bool false)).setCell ⟨gz, 1, none⟩ (.string ⟨#[]⟩)).setCell ⟨gz, 2, none⟩ (.string ⟨#[]⟩)).setCell ⟨gz, 3, none⟩ (.slice A' k c')).setCell ⟨gz, 4, none⟩ (.slice none 0 0)) := ⟨_, rfl⟩
   have ho : Only gz wo y_1 := by rw [hw_y_1]; exact (((((Only.refl _ _).setC _ _).setC _ _).setC _ _).setC _ _).setC _ _
   have HB1 := beo HB ho (by have := HL_0.out; have := HL_ge.out; omega)
   have HO1 : Hid (y_1.ownsRow w.heap.size 40 5 (.slice A' k c') k (((l.take k).map clN).flatMap clV)) := own_onlyT HO.out ho HBLK.out (by decide)
   have HZ1 : Hid (Bk gz (.cells #[.bool false, .string ⟨#[]⟩, .string ⟨#[]⟩, .slice A' k c', .slice none 0 0] 37) y_1) := by rw [hw_y_1]; exact heap_setCell_same _ gz 4 _ _ (.slice none 0 0) (heap_setCell_same _ gz 3 _ _ (.slice A' k c') (heap_setCell_same _ gz 2 _ _ (.string ⟨#[]⟩) (heap_setCell_same _ gz 1 _ _ (.string ⟨#[]⟩) (heap_setCell_same _ gz 0 _ _ (.bool false) (HZ.out)))))
   rw [← hw_y_1]
   clear hw_y_1 ho HZ HB HO
   clear HBLK
   have z0 := blk_at (j := 0) HZ1.out rfl
   have z1 := blk_at (j := 1) HZ1.out rfl
   have z2 := blk_at (j := 2) HZ1.out rfl
   have z3 := blk_at (j := 3) HZ1.out rfl
   have z4 := blk_at (j := 4) HZ1.out rfl
   have zf0 := frozen_of_row _ _ 0 _ _ HZ1.out
   have zf1 := frozen_of_row _ _ 1 _ _ HZ1.out
   have zf2 := frozen_of_row _ _ 2 _ _ HZ1.out
   have zf3 := frozen_of_row _ _ 3 _ _ HZ1.out
   have zf4 := frozen_of_row _ _ 4 _ _ HZ1.out
   have zfz := blk_lt HZ1.out
   exact bodyPost_ret (v := estV A' k c') (by simp [results, Tryz.results23, go_sem, z0, z1, z2, z3, z4]) rfl ⟨A', c', rfl, by have h1 := Rd.of_own HO1.out; rw [List.take_of_length_le (by rw [← HRL.out.1]; exact Nat.le_refl _)] at h1; exact h1, HB1.out⟩

end Go.Proofs.YtjlicnhkemfmiaaGreatDoor

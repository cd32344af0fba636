/- interest.Simple of one step; register.Value. -/
import Derived.Test.YtjlicnhkemfmiaaGreatDoorSq
import Derived.Test.YtjlicnhkemfmiaaGreatDoorTInt
set_option linter.unusedVariables false
set_option linter.unusedSimpArgs false
set_option maxHeartbeats 8000000
set_option maxRecDepth 100000
namespace Go.Proofs.YtjlicnhkemfmiaaGreatDoor
open Go.RowKit

theorem iSimple_calls (b c : Nat) (f : Int) (r x : Rat) (k : Nat) (tt : Int) (w : World) (hs : StB b f (rneg r) (rnum r) (rden r) w) (hf : 0 ≤ f ∧ f ≤ tt) (ht : tt ≤ 1048576) (hr : 0 ≤ r) (hz : Sz 8 r) (hx : 0 ≤ x) (hxz : Sz k x) (hk : k ≤ 1000) :
 Calls Tryz.prog 111 #[ratV x, .slice (some ⟨b, 0, none⟩) 1 c, .int .i64 f, .int .i64 tt, .int .i64 365] w fun e w' => e = .returned (.tuple #[ratV (x * (r * ((tt - f : Int) : Rat) / ((365 : Int) : Rat))), .int .i64 0]) ∧ Below w.heap.size w w' := by
 obtain ⟨dd, hdd⟩ : ∃ m : Nat, tt - f = (m : Int) := ⟨(tt - f).toNat, by omega⟩
 have hdz : Sz 3 ((tt - f : Int) : Rat) := by rw [hdd]; exact sz_nat (by omega)
 have hsz : Sz 14 (r * ((tt - f : Int) : Rat) / ((365 : Int) : Rat)) := (hz.mul hdz).div (k := 11) (m := 3) (sz_nat (n := 365) (by omega)) (by decide)
 have HK := Lib.hid (fun W (h : StB b f (rneg r) (rnum r) (rden r) W) => icheck_calls b c f r x k tt W h hf ht hr hz hx hxz hk)
 have HC' := fun W (h : StB b f (rneg r) (rnum r) (rden r) W) => simple_calls b c f r tt W h hf ht hz
 have HM' := fun W => pMulQ_calls x (r * ((tt - f : Int) : Rat) / ((365 : Int) : Rat)) k 14 W hxz hsz (by omega)
 have HT := Lib.hid hs
 clear hs hf ht hr hz hx hxz hk hdz hsz hdd
 obtain ⟨sm, hsm⟩ : ∃ z, z = r * ((tt - f : Int) : Rat) / ((365 : Int) : Rat) := ⟨_, rfl⟩
 rw [← hsm] at HC' HM' ⊢
 clear hsm
 obtain ⟨v1, v2, v3, hv1⟩ : ∃ a b c, ratV (x * sm) = .agg #[.bool a, .string b, .string c] := ⟨_, _, _, rfl⟩
 rw [hv1] at HM' ⊢
 obtain ⟨vs, hvs⟩ : ∃ v, v = ratV sm := ⟨_, rfl⟩
 rw [← hvs] at HC' HM'
 obtain ⟨sa, na, da, hsa⟩ : ∃ a b c, ratV x = .agg #[.bool a, .string b, .string c] := ⟨_, _, _, rfl⟩
 rw [hsa] at HM' ⊢
 have HK2 := HK.out
 rw [hsa] at HK2
 have HKK := Lib.hid HK2
 have HC := Lib.hid HC'
 have HM := Lib.hid HM'
 clear HC' HM' HK HK2 hv1 hvs hsa
 go_enter Tryz.func111, Tryz.ntmps111
 go_wp2_with fail
 obtain ⟨w0, hw0⟩ : ∃ W, W = (w.alloc (.cells #[.bool sa, .string na, .string da] 33)).alloc (.cells #[.bool false, .string ⟨#[]⟩, .string ⟨#[]⟩] 33) := ⟨_, rfl⟩
 have HA0 : Hid (RB w.heap.size sa na da w0) := by rw [hw0]; exact blk_alloc (blk_new _ _)
 have HG0 : Hid (RB (w.heap.size + 1) false ⟨#[]⟩ ⟨#[]⟩ w0) := by
  have := blk_new (w.alloc (.cells #[.bool sa, .string na, .string da] 33)) (.cells #[.bool false, .string ⟨#[]⟩, .string ⟨#[]⟩] 33)
  rw [World.size_alloc] at this
  rw [hw0]; exact this
 have HT0 : Hid (StB b f (rneg r) (rnum r) (rden r) w0) := by rw [hw0]; exact (HT.out.next (bel_alloc _ _)).next (bel_alloc _ _)
 have HB0 : Hid (Below w.heap.size w w0) := by rw [hw0]; exact (bel_alloc _ _).alloc (by simp) _
 have hbl := HT.out.lt
 rw [← hw0]
 clear hw0 HT
 refine (HKK.out _ HT0.out).mono ?_
 rintro e w1 ⟨rfl, hb⟩
 have HB1 := ben HB0 hb
 have hS1 : S2 w.heap.size sa na da b f (rneg r) (rnum r) (rden r) w1 := ⟨HA0.out.next hb, HT0.out.next hb⟩
 have HG1 := Lib.hid (HG0.out.next hb)
 clear hb HA0 HG0 HT0 HB0
 go_upto_region 4 with fail
 obtain ⟨W0, hW0⟩ : ∃ W, W = w1 := ⟨_, rfl⟩
 have hS0 : S2 w.heap.size sa na da b f (rneg r) (rnum r) (rden r) W0 := by rw [hW0]; exact hS1
 have HB0 : Hid (Below w.heap.size w W0) := by rw [hW0]; exact HB1.out
 have HG0 : Hid (RB (w.heap.size + 1) false ⟨#[]⟩ ⟨#[]⟩ W0) := by rw [hW0]; exact HG1.out
 rw [← hW0]
 clear hW0 hS1 HB1 HG1
 obtain ⟨W1, hW1⟩ : ∃ W, W = W0.drew := ⟨_, rfl⟩
 have hS1 : S2 w.heap.size sa na da b f (rneg r) (rnum r) (rden r) W1 := by rw [hW1]; exact ⟨hS0.a, hS0.t⟩
 have HB1 := bed HB0 hW1
 have HG1 : Hid (RB (w.heap.size + 1) false ⟨#[]⟩ ⟨#[]⟩ W1) := by rw [hW1]; exact HG0.out
 refine wp_region_held_drew (S := S2 w.heap.size sa na da b f (rneg r) (rnum r) (rden r)) (by kernel_rfl) (by rw [← hW1]; exact hS1) ?_
 rw [← hW1]
 intro _
 clear hW1 hS0 HB0 HG0
 refine tv 0 (.agg #[.bool sa, .string na, .string da]) rfl (by intro w' hw'; obtain ⟨k0, k1, k2, k3, k4, k5, k6⟩ := three_of hw'.a; go_simp) hS1 ?_
 go_simp
 refine tk 1 hS1 ?_
 go_simp
 refine tk 2 hS1 ?_
 go_simp
 refine tk 3 hS1 ?_
 go_simp
 refine tk 4 hS1 ?_
 go_simp
 refine tr 5 (fun K hK => ?_)
 go_simp
 refine (HC.out _ hS1.t).mono ?_
 rintro e W2 ⟨rfl, hb⟩
 have hS2 := hS1.next hb
 have HB2 := ben HB1 hb
 have HG2 := Lib.hid (HG1.out.next hb)
 clear hb hS1 HB1 HG1
 refine hK.out _ _ hS2 (fun _ => ?_)
 clear hK K
 refine tr 6 (fun K hK => ?_)
 go_simp
 refine (HM.out _).mono ?_
 rintro e W3 ⟨rfl, hb⟩
 have hS3 := hS2.next hb
 have HB3 := ben HB2 hb
 have HG3 := Lib.hid (HG2.out.next hb)
 clear hb hS2 HB2 HG2
 refine hK.out _ _ hS3 (fun _ => ?_)
 clear hK K
 refine tr 7 (fun K hK => ?_)
 obtain ⟨c0, c1, c2, f0, f1, f2, hz⟩ := three_of HG3.out
 go_simp
 obtain ⟨wz, hwz⟩ : ∃ W, W = ((W3.setCell ⟨w.heap.size + 1, 0, none⟩ (.bool v1)).setCell ⟨w.heap.size + 1, 1, none⟩ (.string v2)).setCell ⟨w.heap.size + 1, 2, none⟩ (.string v3) := ⟨_, rfl⟩
 have hSz : S2 w.heap.size sa na da b f (rneg r) (rnum r) (rden r) wz := by rw [hwz]; exact hS3.other (by omega) (by omega) _ _ _
 have HGz : Hid (RB (w.heap.size + 1) v1 v2 v3 wz) := by rw [hwz]; exact HG3.out.set v1 v2 v3
 have HBz : Hid (Below w.heap.size w wz) := by rw [hwz]; exact bel_set3Q HB3.out (w.heap.size + 1) (by omega) _ _ _
 rw [← hwz]
 clear c0 c1 c2 f0 f1 f2 hz hwz hS3 HB3 HG3
 refine hK.out _ _ hSz (fun _ => ?_)
 clear hK K
 refine tr 8 (fun K hK => ?_)
 go_simp
 refine hK.out _ _ hSz (fun _ => ?_)
 clear hK K hSz
 refine wpAnyH_done (by kernel_rfl) ?_ _
 obtain ⟨c0, c1, c2, f0, f1, f2, hz⟩ := three_of HGz.out
 go_wp2_with fail
 exact bodyPost_ret (v := .tuple #[.agg #[.bool v1, .string v2, .string v3], .int .i64 0]) (by simp [results, Tryz.results111, go_sem, c0, c1, c2]) rfl ⟨rfl, HBz.out⟩

theorem value_late (d : Dc) (k : Nat) (A : Option Addr) (n c : Nat) (l : List Qt) (cut : Int) (w : World) (hd : d.Ok k) (hk : k ≤ 900) (hn : n = l.length) (hr : Rd w w.heap.size 5 A l.length (l.flatMap Qt.cells)) (hl : QtsOk l) (hc : 0 ≤ cut ∧ cut ≤ 1048576) (hlt : cut < d.inc) :
 Calls Tryz.prog 79 #[dcV d, .int .i64 cut, .slice A n c] w fun e w' => e = .returned (.tuple #[ratV (d.amt * (factD d l cut).1), .int .i64 (factD d l cut).2]) ∧ Below w.heap.size w w' := by
 have HCK' := fun W => pfCheck_calls d k W hd (by omega)
 have HDY := Lib.hid (fun W => registerDay_calls cut W hc.1 hc.2)
 have hQ : factD d l cut = (0, 16) := by unfold factD; rw [if_pos hlt]
 rw [hQ, Rat.mul_zero, ratV_zero]
 clear hQ hd hk hn hr hl hc
 obtain ⟨i, es, cr, co, amt, nc, rk, rate, fr, se⟩ := d
 dsimp only at hlt
 have e1 : decide (cut < nc) = true := decide_eq_true hlt
 unfold dcV at HCK' ⊢
 dsimp only at HCK' ⊢
 obtain ⟨sa, hsa⟩ : ∃ x, x = rneg amt := ⟨_, rfl⟩
 obtain ⟨na, hna⟩ : ∃ x, x = rnum amt := ⟨_, rfl⟩
 obtain ⟨da, hda⟩ : ∃ x, x = rden amt := ⟨_, rfl⟩
 obtain ⟨sr, hsr⟩ : ∃ x, x = rneg rate := ⟨_, rfl⟩
 obtain ⟨nr, hnr⟩ : ∃ x, x = rnum rate := ⟨_, rfl⟩
 obtain ⟨dr, hdr⟩ : ∃ x, x = rden rate := ⟨_, rfl⟩
 rw [← hsa, ← hna, ← hda, ← hsr, ← hnr, ← hdr] at HCK' ⊢
 have HCK := Lib.hid HCK'
 clear HCK' hsa hna hda hsr hnr hdr hlt
 go_enter Tryz.func79, Tryz.ntmps79
 go_wp2_with fail
 obtain ⟨w0, hw0⟩ : ∃ W, W = (w.alloc (.cells #[.string i, .int .i64 es, .int .i64 cr, .string co, .bool sa, .string na, .string da, .int .i64 nc, .int .i64 rk, .bool sr, .string nr, .string dr, .int .i64 fr, .int .i64 se] 63)).alloc (.cells #[.bool false, .string ⟨#[]⟩, .string ⟨#[]⟩] 33) := ⟨_, rfl⟩
 have HD0 : Hid (DBox w.heap.size i es cr co sa na da nc rk sr nr dr fr se w0) := by rw [hw0]; exact blk_alloc (blk_new _ _)
 have HG0 : Hid (RB (w.heap.size + 1) false ⟨#[]⟩ ⟨#[]⟩ w0) := by
  have := blk_new (w.alloc (.cells #[.string i, .int .i64 es, .int .i64 cr, .string co, .bool sa, .string na, .string da, .int .i64 nc, .int .i64 rk, .bool sr, .string nr, .string dr, .int .i64 fr, .int .i64 se] 63)) (.cells #[.bool false, .string ⟨#[]⟩, .string ⟨#[]⟩] 33)
  rw [World.size_alloc] at this
  rw [hw0]; exact this
 have HB0 : Hid (Below w.heap.size w w0) := by rw [hw0]; exact (bel_alloc _ _).alloc (by simp) _
 rw [← hw0]
 clear hw0
 refine (HCK.out _).mono ?_
 rintro e w1 ⟨rfl, hb⟩
 have HD1 := Lib.hid (HD0.out.next hb)
 have HG1 := Lib.hid (HG0.out.next hb)
 have HB1 := ben HB0 hb
 clear hb HD0 HG0 HB0 
 clear HCK
 go_wp2_with fail
 refine (HDY.out _).mono ?_
 rintro e w1 ⟨rfl, rfl⟩
 obtain ⟨c0, c1, c2, c3, c4, c5, c6, c7, c8, c9, c10, c11, c12, c13⟩ := HD1.out.cells
 obtain ⟨g0, g1, g2, f0, f1, f2, hz⟩ := three_of HG1.out
 go_wp2_with fail
 exact bodyPost_ret (v := .tuple #[.agg #[.bool false, .string ⟨#[]⟩, .string ⟨#[]⟩], .int .i64 16]) (by simp [results, Tryz.results79, go_sem, g0, g1, g2]) rfl ⟨rfl, ((HB1.out.setCell (by simp <;> omega) _).setCell (by simp <;> omega) _).setCell (by simp <;> omega) _⟩

theorem value_bad (d : Dc) (k : Nat) (A : Option Addr) (n c : Nat) (l : List Qt) (cut : Int) (w : World) (hd : d.Ok k) (hk : k ≤ 900) (hn : n = l.length) (hr : Rd w w.heap.size 5 A l.length (l.flatMap Qt.cells)) (hl : QtsOk l) (hc : 0 ≤ cut ∧ cut ≤ 1048576) (hlt : ¬ cut < d.inc) (h0 : (rateQ l d.code cut).2 ≠ 0) :
 Calls Tryz.prog 79 #[dcV d, .int .i64 cut, .slice A n c] w fun e w' => e = .returned (.tuple #[ratV (d.amt * (factD d l cut).1), .int .i64 (factD d l cut).2]) ∧ Below w.heap.size w w' := by
 have HCK' := fun W => pfCheck_calls d k W hd (by omega)
 have HDY := Lib.hid (fun W => registerDay_calls cut W hc.1 hc.2)
 have HCV' := fun W (hw : Below w.heap.size w W) => conv_calls A n c l d.amt k d.code cut W hn (hr.next hw) hl hc hd.asz (by omega)
 unfold eurB at HCV'
 have hQ : factD d l cut = (0, (rateQ l d.code cut).2) := by unfold factD; rw [if_neg hlt, if_pos h0]
 rw [hQ]
 dsimp only
 rw [Rat.mul_zero, ratV_zero]
 clear hQ
 obtain ⟨z, hz⟩ : ∃ z, z = rateQ l d.code cut := ⟨_, rfl⟩
 rw [← hz] at h0 HCV' ⊢
 obtain ⟨r, er⟩ := z
 dsimp only at h0 HCV' ⊢
 have e2 : (er != 0) = true := by simpa using h0
 clear hz h0 hd hk hn hr hl hc
 obtain ⟨i, es, cr, co, amt, nc, rk, rate, fr, se⟩ := d
 dsimp only at hlt HCV' 
 have e1 : decide (cut < nc) = false := decide_eq_false hlt
 unfold dcV at HCK' ⊢
 dsimp only at HCK' ⊢
 obtain ⟨sy, ny, dy, hy⟩ : ∃ a b c, ratV (amt * r) = .agg #[.bool a, .string b, .string c] := ⟨_, _, _, rfl⟩
 have hra : ratV amt = .agg #[.bool (rneg amt), .string (rnum amt), .string (rden amt)] := rfl
 rw [hra] at HCV'
 obtain ⟨sa, hsa⟩ : ∃ x, x = rneg amt := ⟨_, rfl⟩
 obtain ⟨na, hna⟩ : ∃ x, x = rnum amt := ⟨_, rfl⟩
 obtain ⟨da, hda⟩ : ∃ x, x = rden amt := ⟨_, rfl⟩
 obtain ⟨sr, hsr⟩ : ∃ x, x = rneg rate := ⟨_, rfl⟩
 obtain ⟨nr, hnr⟩ : ∃ x, x = rnum rate := ⟨_, rfl⟩
 obtain ⟨dr, hdr⟩ : ∃ x, x = rden rate := ⟨_, rfl⟩
 rw [← hsa, ← hna, ← hda, ← hsr, ← hnr, ← hdr] at HCK' ⊢
 rw [← hsa, ← hna, ← hda] at HCV'
 have HCK := Lib.hid HCK'
 have HCV := Lib.hid HCV'
 clear HCK' HCV' hsa hna hda hsr hnr hdr hlt hra
 go_enter Tryz.func79, Tryz.ntmps79
 go_wp2_with fail
 obtain ⟨w0, hw0⟩ : ∃ W, W = (w.alloc (.cells #[.string i, .int .i64 es, .int .i64 cr, .string co, .bool sa, .string na, .string da, .int .i64 nc, .int .i64 rk, .bool sr, .string nr, .string dr, .int .i64 fr, .int .i64 se] 63)).alloc (.cells #[.bool false, .string ⟨#[]⟩, .string ⟨#[]⟩] 33) := ⟨_, rfl⟩
 have HD0 : Hid (DBox w.heap.size i es cr co sa na da nc rk sr nr dr fr se w0) := by rw [hw0]; exact blk_alloc (blk_new _ _)
 have HG0 : Hid (RB (w.heap.size + 1) false ⟨#[]⟩ ⟨#[]⟩ w0) := by
  have := blk_new (w.alloc (.cells #[.string i, .int .i64 es, .int .i64 cr, .string co, .bool sa, .string na, .string da, .int .i64 nc, .int .i64 rk, .bool sr, .string nr, .string dr, .int .i64 fr, .int .i64 se] 63)) (.cells #[.bool false, .string ⟨#[]⟩, .string ⟨#[]⟩] 33)
  rw [World.size_alloc] at this
  rw [hw0]; exact this
 have HB0 : Hid (Below w.heap.size w w0) := by rw [hw0]; exact (bel_alloc _ _).alloc (by simp) _
 rw [← hw0]
 clear hw0
 refine (HCK.out _).mono ?_
 rintro e w1 ⟨rfl, hb⟩
 have HD1 := Lib.hid (HD0.out.next hb)
 have HG1 := Lib.hid (HG0.out.next hb)
 have HB1 := ben HB0 hb
 clear hb HD0 HG0 HB0 
 clear HCK
 go_wp2_with fail
 refine (HDY.out _).mono ?_
 rintro e w1 ⟨rfl, rfl⟩
 obtain ⟨c0, c1, c2, c3, c4, c5, c6, c7, c8, c9, c10, c11, c12, c13⟩ := HD1.out.cells
 go_wp2_with fail
 clear c0 c1 c2 c3 c4 c5 c6 c7 c8 c9 c10 c11 c12 c13
 refine (HCV.out _ HB1.out).mono ?_
 rintro e w2 ⟨rfl, hb⟩
 have HD2 := Lib.hid (HD1.out.next hb)
 have HG2 := Lib.hid (HG1.out.next hb)
 have HB2 := ben HB1 hb
 clear hb HD1 HG1 HB1 
 rw [hy]
 obtain ⟨g0, g1, g2, f0, f1, f2, hz⟩ := three_of (HG2.out.next (bel_alloc w2 (.cells #[.bool sy, .string ny, .string dy] 33)))
 have HB3 : Hid (Below w.heap.size w (w2.alloc (.cells #[.bool sy, .string ny, .string dy] 33))) := HB2.out.alloc HB2.out.size _
 clear HD2 HG2 HB2
 go_wp2_with fail
 exact bodyPost_ret (v := .tuple #[.agg #[.bool false, .string ⟨#[]⟩, .string ⟨#[]⟩], .int .i64 er]) (by simp [results, Tryz.results79, go_sem, g0, g1, g2]) rfl ⟨rfl, ((HB3.out.setCell (by simp <;> omega) _).setCell (by simp <;> omega) _).setCell (by simp <;> omega) _⟩

theorem value_plain (d : Dc) (k : Nat) (A : Option Addr) (n c : Nat) (l : List Qt) (cut : Int) (w : World) (hd : d.Ok k) (hk : k ≤ 900) (hn : n = l.length) (hr : Rd w w.heap.size 5 A l.length (l.flatMap Qt.cells)) (hl : QtsOk l) (hc : 0 ≤ cut ∧ cut ≤ 1048576) (hlt : ¬ cut < d.inc) (h0 : (rateQ l d.code cut).2 = 0) (h1 : d.rate = 0 ∨ cut < d.frm) :
 Calls Tryz.prog 79 #[dcV d, .int .i64 cut, .slice A n c] w fun e w' => e = .returned (.tuple #[ratV (d.amt * (factD d l cut).1), .int .i64 (factD d l cut).2]) ∧ Below w.heap.size w w' := by
 have HCK' := fun W => pfCheck_calls d k W hd (by omega)
 have HDY := Lib.hid (fun W => registerDay_calls cut W hc.1 hc.2)
 have HCV' := fun W (hw : Below w.heap.size w W) => conv_calls A n c l d.amt k d.code cut W hn (hr.next hw) hl hc hd.asz (by omega)
 unfold eurB at HCV'
 have HSR' := fun W => pSignQ_calls d.rate 8 W hd.rsz (by omega)
 have hsg : d.rate = 0 → sgnR d.rate = 0 := fun e => by unfold sgnR; rw [if_pos e]
 have hQ : factD d l cut = ((rateQ l d.code cut).1, 0) := by unfold factD; rw [if_neg hlt, if_neg (fun e => e h0), if_pos h1]
 rw [hQ]
 clear hQ
 obtain ⟨z, hz⟩ : ∃ z, z = rateQ l d.code cut := ⟨_, rfl⟩
 rw [← hz] at h0 HCV' ⊢
 obtain ⟨r, er⟩ := z
 dsimp only at h0 HCV' ⊢
 subst h0
 clear hz
 obtain ⟨sg, hsg2⟩ : ∃ x, x = sgnR d.rate := ⟨_, rfl⟩
 rw [← hsg2] at HSR' hsg
 have hg0 : d.rate ≠ 0 → sg ≠ 0 := fun e => by rw [hsg2]; unfold sgnR; rw [if_neg e]; split <;> decide
 clear hsg2 hd hk hn hr hl hc
 obtain ⟨i, es, cr, co, amt, nc, rk, rate, fr, se⟩ := d
 dsimp only at hlt HCV' HSR' h1 hsg hg0
 have e1 : decide (cut < nc) = false := decide_eq_false hlt
 unfold dcV at HCK' ⊢
 dsimp only at HCK' ⊢
 obtain ⟨sy, ny, dy, hy⟩ : ∃ a b c, ratV (amt * r) = .agg #[.bool a, .string b, .string c] := ⟨_, _, _, rfl⟩
 have hra : ratV amt = .agg #[.bool (rneg amt), .string (rnum amt), .string (rden amt)] := rfl
 have hrt : ratV rate = .agg #[.bool (rneg rate), .string (rnum rate), .string (rden rate)] := rfl
 rw [hra] at HCV'
 rw [hrt] at HSR'
 rw [hy]
 obtain ⟨sa, hsa⟩ : ∃ x, x = rneg amt := ⟨_, rfl⟩
 obtain ⟨na, hna⟩ : ∃ x, x = rnum amt := ⟨_, rfl⟩
 obtain ⟨da, hda⟩ : ∃ x, x = rden amt := ⟨_, rfl⟩
 obtain ⟨sr, hsr⟩ : ∃ x, x = rneg rate := ⟨_, rfl⟩
 obtain ⟨nr, hnr⟩ : ∃ x, x = rnum rate := ⟨_, rfl⟩
 obtain ⟨dr, hdr⟩ : ∃ x, x = rden rate := ⟨_, rfl⟩
 rw [← hsa, ← hna, ← hda, ← hsr, ← hnr, ← hdr] at HCK' ⊢
 rw [← hsa, ← hna, ← hda] at HCV'
 rw [← hsr, ← hnr, ← hdr] at HSR'
 have HCK := Lib.hid HCK'
 have HCV := Lib.hid HCV'
 have HSR := Lib.hid HSR'
 clear HCK' HCV' HSR' hsa hna hda hsr hnr hdr hlt hra hrt
 by_cases hr0 : rate = 0
 ·
  have e2 : (sg == 0) = true := by rw [hsg hr0]; rfl
  clear hr0 hsg hg0 h1
  go_enter Tryz.func79, Tryz.ntmps79
  go_wp2_with fail
  obtain ⟨w0, hw0⟩ : ∃ W, W = (w.alloc (.cells #[.string i, .int .i64 es, .int .i64 cr, .string co, .bool sa, .string na, .string da, .int .i64 nc, .int .i64 rk, .bool sr, .string nr, .string dr, .int .i64 fr, .int .i64 se] 63)).alloc (.cells #[.bool false, .string ⟨#[]⟩, .string ⟨#[]⟩] 33) := ⟨_, rfl⟩
  have HD0 : Hid (DBox w.heap.size i es cr co sa na da nc rk sr nr dr fr se w0) := by rw [hw0]; exact blk_alloc (blk_new _ _)
  have HG0 : Hid (RB (w.heap.size + 1) false ⟨#[]⟩ ⟨#[]⟩ w0) := by
   have := blk_new (w.alloc (.cells #[.string i, .int .i64 es, .int .i64 cr, .string co, .bool sa, .string na, .string da, .int .i64 nc, .int .i64 rk, .bool sr, .string nr, .string dr, .int .i64 fr, .int .i64 se] 63)) (.cells #[.bool false, .string ⟨#[]⟩, .string ⟨#[]⟩] 33)
   rw [World.size_alloc] at this
   rw [hw0]; exact this
  have HB0 : Hid (Below w.heap.size w w0) := by rw [hw0]; exact (bel_alloc _ _).alloc (by simp) _
  rw [← hw0]
  clear hw0
  refine (HCK.out _).mono ?_
  rintro e w1 ⟨rfl, hb⟩
  have HD1 := Lib.hid (HD0.out.next hb)
  have HG1 := Lib.hid (HG0.out.next hb)
  have HB1 := ben HB0 hb
  clear hb HD0 HG0 HB0 
  clear HCK
  go_wp2_with fail
  refine (HDY.out _).mono ?_
  rintro e w1 ⟨rfl, rfl⟩
  obtain ⟨c0, c1, c2, c3, c4, c5, c6, c7, c8, c9, c10, c11, c12, c13⟩ := HD1.out.cells
  go_wp2_with fail
  clear c0 c1 c2 c3 c4 c5 c6 c7 c8 c9 c10 c11 c12 c13
  refine (HCV.out _ HB1.out).mono ?_
  rintro e w2 ⟨rfl, hb⟩
  have HD2 := Lib.hid (HD1.out.next hb)
  have HG2 := Lib.hid (HG1.out.next hb)
  have HB2 := ben HB1 hb
  clear hb HD1 HG1 HB1 
  rw [hy]
  obtain ⟨c0, c1, c2, c3, c4, c5, c6, c7, c8, c9, c10, c11, c12, c13⟩ := (HD2.out.next (bel_alloc w2 (.cells #[.bool sy, .string ny, .string dy] 33))).cells
  go_wp2_with fail
  clear c0 c1 c2 c3 c4 c5 c6 c7 c8 c9 c10 c11 c12 c13
  obtain ⟨gy, hgy⟩ : ∃ g, g = w2.heap.size := ⟨_, rfl⟩
  have hgl : w.heap.size + 1 < gy := by rw [hgy]; exact HG2.out.lt
  obtain ⟨w3, hw3⟩ : ∃ W, W = w2.alloc (.cells #[.bool sy, .string ny, .string dy] 33) := ⟨_, rfl⟩
  have HD3 : Hid (DBox w.heap.size i es cr co sa na da nc rk sr nr dr fr se w3) := by rw [hw3]; exact HD2.out.next (bel_alloc _ _)
  have HG3 : Hid (RB (w.heap.size + 1) false ⟨#[]⟩ ⟨#[]⟩ w3) := by rw [hw3]; exact HG2.out.next (bel_alloc _ _)
  have HB3 := bea HB2 hw3
  have HY3 : Hid (RB gy sy ny dy w3) := by rw [hw3, hgy]; exact blk_new _ _
  rw [← hw3]
  (try rw [← hgy])
  clear hw3 hgy HD2 HG2 HB2
  refine (HSR.out _).mono ?_
  rintro e w4 ⟨rfl, hb⟩
  have HD4 := Lib.hid (HD3.out.next hb)
  have HG4 := Lib.hid (HG3.out.next hb)
  have HB4 := ben HB3 hb
  have HY4 := Lib.hid (HY3.out.next hb)
  clear hb HD3 HG3 HB3 HY3
  obtain ⟨c0, c1, c2, c3, c4, c5, c6, c7, c8, c9, c10, c11, c12, c13⟩ := HD4.out.cells
  obtain ⟨y0, y1, y2, _, _, _, hz2⟩ := three_of HY4.out
  obtain ⟨g0, g1, g2, f0, f1, f2, hz⟩ := three_of HG4.out
  go_wp2_with fail
  exact bodyPost_ret (v := .tuple #[.agg #[.bool sy, .string ny, .string dy], .int .i64 0]) (by simp [results, Tryz.results79, go_sem, g0, g1, g2]) rfl ⟨rfl, ((HB4.out.setCell (by simp <;> omega) _).setCell (by simp <;> omega) _).setCell (by simp <;> omega) _⟩
 ·
  have e2 : (sg == 0) = false := beq_eq_false_iff_ne.2 (hg0 hr0)
  have e3 : decide (cut < fr) = true := decide_eq_true (h1.resolve_left hr0)
  clear hr0 hsg hg0 h1
  go_enter Tryz.func79, Tryz.ntmps79
  go_wp2_with fail
  obtain ⟨w0, hw0⟩ : ∃ W, W = (w.alloc (.cells #[.string i, .int .i64 es, .int .i64 cr, .string co, .bool sa, .string na, .string da, .int .i64 nc, .int .i64 rk, .bool sr, .string nr, .string dr, .int .i64 fr, .int .i64 se] 63)).alloc (.cells #[.bool false, .string ⟨#[]⟩, .string ⟨#[]⟩] 33) := ⟨_, rfl⟩
  have HD0 : Hid (DBox w.heap.size i es cr co sa na da nc rk sr nr dr fr se w0) := by rw [hw0]; exact blk_alloc (blk_new _ _)
  have HG0 : Hid (RB (w.heap.size + 1) false ⟨#[]⟩ ⟨#[]⟩ w0) := by
   have := blk_new (w.alloc (.cells #[.string i, .int .i64 es, .int .i64 cr, .string co, .bool sa, .string na, .string da, .int .i64 nc, .int .i64 rk, .bool sr, .string nr, .string dr, .int .i64 fr, .int .i64 se] 63)) (.cells #[.bool false, .string ⟨#[]⟩, .string ⟨#[]⟩] 33)
   rw [World.size_alloc] at this
   rw [hw0]; exact this
  have HB0 : Hid (Below w.heap.size w w0) := by rw [hw0]; exact (bel_alloc _ _).alloc (by simp) _
  rw [← hw0]
  clear hw0
  refine (HCK.out _).mono ?_
  rintro e w1 ⟨rfl, hb⟩
  have HD1 := Lib.hid (HD0.out.next hb)
  have HG1 := Lib.hid (HG0.out.next hb)
  have HB1 := ben HB0 hb
  clear hb HD0 HG0 HB0 
  clear HCK
  go_wp2_with fail
  refine (HDY.out _).mono ?_
  rintro e w1 ⟨rfl, rfl⟩
  obtain ⟨c0, c1, c2, c3, c4, c5, c6, c7, c8, c9, c10, c11, c12, c13⟩ := HD1.out.cells
  go_wp2_with fail
  clear c0 c1 c2 c3 c4 c5 c6 c7 c8 c9 c10 c11 c12 c13
  refine (HCV.out _ HB1.out).mono ?_
  rintro e w2 ⟨rfl, hb⟩
  have HD2 := Lib.hid (HD1.out.next hb)
  have HG2 := Lib.hid (HG1.out.next hb)
  have HB2 := ben HB1 hb
  clear hb HD1 HG1 HB1 
  rw [hy]
  obtain ⟨c0, c1, c2, c3, c4, c5, c6, c7, c8, c9, c10, c11, c12, c13⟩ := (HD2.out.next (bel_alloc w2 (.cells #[.bool sy, .string ny, .string dy] 33))).cells
  go_wp2_with fail
  clear c0 c1 c2 c3 c4 c5 c6 c7 c8 c9 c10 c11 c12 c13
  obtain ⟨gy, hgy⟩ : ∃ g, g = w2.heap.size := ⟨_, rfl⟩
  have hgl : w.heap.size + 1 < gy := by rw [hgy]; exact HG2.out.lt
  obtain ⟨w3, hw3⟩ : ∃ W, W = w2.alloc (.cells #[.bool sy, .string ny, .string dy] 33) := ⟨_, rfl⟩
  have HD3 : Hid (DBox w.heap.size i es cr co sa na da nc rk sr nr dr fr se w3) := by rw [hw3]; exact HD2.out.next (bel_alloc _ _)
  have HG3 : Hid (RB (w.heap.size + 1) false ⟨#[]⟩ ⟨#[]⟩ w3) := by rw [hw3]; exact HG2.out.next (bel_alloc _ _)
  have HB3 := bea HB2 hw3
  have HY3 : Hid (RB gy sy ny dy w3) := by rw [hw3, hgy]; exact blk_new _ _
  rw [← hw3]
  (try rw [← hgy])
  clear hw3 hgy HD2 HG2 HB2
  refine (HSR.out _).mono ?_
  rintro e w4 ⟨rfl, hb⟩
  have HD4 := Lib.hid (HD3.out.next hb)
  have HG4 := Lib.hid (HG3.out.next hb)
  have HB4 := ben HB3 hb
  have HY4 := Lib.hid (HY3.out.next hb)
  clear hb HD3 HG3 HB3 HY3
  obtain ⟨c0, c1, c2, c3, c4, c5, c6, c7, c8, c9, c10, c11, c12, c13⟩ := HD4.out.cells
  obtain ⟨y0, y1, y2, _, _, _, hz2⟩ := three_of HY4.out
  obtain ⟨g0, g1, g2, f0, f1, f2, hz⟩ := three_of HG4.out
  go_wp2_with fail
  exact bodyPost_ret (v := .tuple #[.agg #[.bool sy, .string ny, .string dy], .int .i64 0]) (by simp [results, Tryz.results79, go_sem, g0, g1, g2]) rfl ⟨rfl, ((HB4.out.setCell (by simp <;> omega) _).setCell (by simp <;> omega) _).setCell (by simp <;> omega) _⟩

theorem value_interest (d : Dc) (k : Nat) (A : Option Addr) (n c : Nat) (l : List Qt) (cut : Int) (w : World) (hd : d.Ok k) (hk : k ≤ 900) (hn : n = l.length) (hr : Rd w w.heap.size 5 A l.length (l.flatMap Qt.cells)) (hl : QtsOk l) (hc : 0 ≤ cut ∧ cut ≤ 1048576) (hlt : ¬ cut < d.inc) (h0 : (rateQ l d.code cut).2 = 0) (h1 : d.rate ≠ 0) (h2 : ¬ cut < d.frm) :
 Calls Tryz.prog 79 #[dcV d, .int .i64 cut, .slice A n c] w fun e w' => e = .returned (.tuple #[ratV (d.amt * (factD d l cut).1), .int .i64 (factD d l cut).2]) ∧ Below w.heap.size w w' := by
 have HCK' := fun W => pfCheck_calls d k W hd (by omega)
 have HDY := Lib.hid (fun W => registerDay_calls cut W hc.1 hc.2)
 have HCV' := fun W (hw : Below w.heap.size w W) => conv_calls A n c l d.amt k d.code cut W hn (hr.next hw) hl hc hd.asz (by omega)
 unfold eurB at HCV'
 have hrr := rateQ_sz hl d.code cut
 have hrn := rateQ_nn hl d.code cut
 have HSR' := fun W => pSignQ_calls d.rate 8 W hd.rsz (by omega)
 have hfc : d.frm ≤ cut := by omega
 have hQ : factD d l cut = ((rateQ l d.code cut).1 * (1 + d.rate * ((cut - d.frm : Int) : Rat) / ((365 : Int) : Rat)), 0) := by unfold factD; rw [if_neg hlt, if_neg (fun e => e h0), if_neg (fun e => e.elim h1 h2)]
 rw [hQ]
 clear hQ
 obtain ⟨z, hz⟩ : ∃ z, z = rateQ l d.code cut := ⟨_, rfl⟩
 rw [← hz] at h0 HCV' hrr hrn ⊢
 obtain ⟨r, er⟩ := z
 dsimp only at h0 HCV' hrr hrn ⊢
 subst h0
 clear hz
 have hyz : Sz (k + 8) (d.amt * r) := hd.asz.mul hrr
 have hyn : 0 ≤ d.amt * r := Rat.mul_nonneg hd.amt hrn
 have HSM' := fun b c W (h : StB b d.frm (rneg d.rate) (rnum d.rate) (rden d.rate) W) => iSimple_calls b c d.frm d.rate (d.amt * r) (k + 8) cut W h ⟨hd.frm.1, hfc⟩ hc.2 hd.rate hd.rsz hyn hyz (by omega)
 obtain ⟨dd, hdd⟩ : ∃ m : Nat, cut - d.frm = (m : Int) := ⟨(cut - d.frm).toNat, by omega⟩
 have hsz : Sz 14 (d.rate * ((cut - d.frm : Int) : Rat) / ((365 : Int) : Rat)) := by rw [hdd]; exact (hd.rsz.mul (k := 8) (m := 3) (sz_nat (by have := hc.2; have := hd.frm.1; omega))).div (k := 11) (m := 3) (sz_nat (n := 365) (by omega)) (by decide)
 obtain ⟨sm, hsm⟩ : ∃ z, z = d.rate * ((cut - d.frm : Int) : Rat) / ((365 : Int) : Rat) := ⟨_, rfl⟩
 rw [← hsm] at HSM' hsz ⊢
 have HAD' := fun W => pAddQ_calls (d.amt * r) (d.amt * r * sm) (k + 8) (k + 8 + 14) W hyz (hyz.mul hsz) (by omega) (by omega) (by omega)
 have hal : d.amt * (r * (1 + sm)) = d.amt * r + d.amt * r * sm := by grind
 rw [hal]
 clear hal hsm hsz hdd hyz hyn hrr hrn
 have hg0 : sgnR d.rate ≠ 0 := by unfold sgnR; rw [if_neg h1]; split <;> decide
 obtain ⟨sg, hsg2⟩ : ∃ x, x = sgnR d.rate := ⟨_, rfl⟩
 rw [← hsg2] at HSR' hg0
 have e2 : (sg == 0) = false := beq_eq_false_iff_ne.2 hg0
 clear hsg2 hg0 hfc hd hk hn hr hl hc h1
 obtain ⟨i, es, cr, co, amt, nc, rk, rate, fr, se⟩ := d
 dsimp only at hlt HCV' HSR' h2 HSM' HAD'
 have e1 : decide (cut < nc) = false := decide_eq_false hlt
 unfold dcV at HCK' ⊢
 dsimp only at HCK' ⊢
 have e3 : decide (cut < fr) = false := decide_eq_false h2
 obtain ⟨sy, ny, dy, hy⟩ : ∃ a b c, ratV (amt * r) = .agg #[.bool a, .string b, .string c] := ⟨_, _, _, rfl⟩
 obtain ⟨s2, n2, d2, hm2⟩ : ∃ a b c, ratV (amt * r * sm) = .agg #[.bool a, .string b, .string c] := ⟨_, _, _, rfl⟩
 obtain ⟨v1, v2, v3, hv⟩ : ∃ a b c, ratV (amt * r + amt * r * sm) = .agg #[.bool a, .string b, .string c] := ⟨_, _, _, rfl⟩
 have hra : ratV amt = .agg #[.bool (rneg amt), .string (rnum amt), .string (rden amt)] := rfl
 have hrt : ratV rate = .agg #[.bool (rneg rate), .string (rnum rate), .string (rden rate)] := rfl
 rw [hra] at HCV'
 rw [hrt] at HSR'
 rw [hy] at HSM' HAD'
 rw [hm2] at HAD'
 rw [hv]
 obtain ⟨sa, hsa⟩ : ∃ x, x = rneg amt := ⟨_, rfl⟩
 obtain ⟨na, hna⟩ : ∃ x, x = rnum amt := ⟨_, rfl⟩
 obtain ⟨da, hda⟩ : ∃ x, x = rden amt := ⟨_, rfl⟩
 obtain ⟨sr, hsr⟩ : ∃ x, x = rneg rate := ⟨_, rfl⟩
 obtain ⟨nr, hnr⟩ : ∃ x, x = rnum rate := ⟨_, rfl⟩
 obtain ⟨dr, hdr⟩ : ∃ x, x = rden rate := ⟨_, rfl⟩
 rw [← hsa, ← hna, ← hda, ← hsr, ← hnr, ← hdr] at HCK' ⊢
 rw [← hsa, ← hna, ← hda] at HCV'
 rw [← hsr, ← hnr, ← hdr] at HSR' HSM'
 have HCK := Lib.hid HCK'
 have HCV := Lib.hid HCV'
 have HSR := Lib.hid HSR'
 have HSM := Lib.hid HSM'
 have HAD := Lib.hid HAD'
 clear HCK' HCV' HSR' HSM' HAD' hsa hna hda hsr hnr hdr hlt hra hrt h2
 go_enter Tryz.func79, Tryz.ntmps79
 go_wp2_with fail
 obtain ⟨w0, hw0⟩ : ∃ W, W = (w.alloc (.cells #[.string i, .int .i64 es, .int .i64 cr, .string co, .bool sa, .string na, .string da, .int .i64 nc, .int .i64 rk, .bool sr, .string nr, .string dr, .int .i64 fr, .int .i64 se] 63)).alloc (.cells #[.bool false, .string ⟨#[]⟩, .string ⟨#[]⟩] 33) := ⟨_, rfl⟩
 have HD0 : Hid (DBox w.heap.size i es cr co sa na da nc rk sr nr dr fr se w0) := by rw [hw0]; exact blk_alloc (blk_new _ _)
 have HG0 : Hid (RB (w.heap.size + 1) false ⟨#[]⟩ ⟨#[]⟩ w0) := by
  have := blk_new (w.alloc (.cells #[.string i, .int .i64 es, .int .i64 cr, .string co, .bool sa, .string na, .string da, .int .i64 nc, .int .i64 rk, .bool sr, .string nr, .string dr, .int .i64 fr, .int .i64 se] 63)) (.cells #[.bool false, .string ⟨#[]⟩, .string ⟨#[]⟩] 33)
  rw [World.size_alloc] at this
  rw [hw0]; exact this
 have HB0 : Hid (Below w.heap.size w w0) := by rw [hw0]; exact (bel_alloc _ _).alloc (by simp) _
 rw [← hw0]
 clear hw0
 refine (HCK.out _).mono ?_
 rintro e w1 ⟨rfl, hb⟩
 have HD1 := Lib.hid (HD0.out.next hb)
 have HG1 := Lib.hid (HG0.out.next hb)
 have HB1 := ben HB0 hb
 clear hb HD0 HG0 HB0 
 clear HCK
 go_wp2_with fail
 refine (HDY.out _).mono ?_
 rintro e w1 ⟨rfl, rfl⟩
 obtain ⟨c0, c1, c2, c3, c4, c5, c6, c7, c8, c9, c10, c11, c12, c13⟩ := HD1.out.cells
 go_wp2_with fail
 clear c0 c1 c2 c3 c4 c5 c6 c7 c8 c9 c10 c11 c12 c13
 refine (HCV.out _ HB1.out).mono ?_
 rintro e w2 ⟨rfl, hb⟩
 have HD2 := Lib.hid (HD1.out.next hb)
 have HG2 := Lib.hid (HG1.out.next hb)
 have HB2 := ben HB1 hb
 clear hb HD1 HG1 HB1 
 rw [hy]
 obtain ⟨c0, c1, c2, c3, c4, c5, c6, c7, c8, c9, c10, c11, c12, c13⟩ := (HD2.out.next (bel_alloc w2 (.cells #[.bool sy, .string ny, .string dy] 33))).cells
 go_wp2_with fail
 clear c0 c1 c2 c3 c4 c5 c6 c7 c8 c9 c10 c11 c12 c13
 obtain ⟨gy, hgy⟩ : ∃ g, g = w2.heap.size := ⟨_, rfl⟩
 have hgl : w.heap.size + 1 < gy := by rw [hgy]; exact HG2.out.lt
 obtain ⟨w3, hw3⟩ : ∃ W, W = w2.alloc (.cells #[.bool sy, .string ny, .string dy] 33) := ⟨_, rfl⟩
 have HD3 : Hid (DBox w.heap.size i es cr co sa na da nc rk sr nr dr fr se w3) := by rw [hw3]; exact HD2.out.next (bel_alloc _ _)
 have HG3 : Hid (RB (w.heap.size + 1) false ⟨#[]⟩ ⟨#[]⟩ w3) := by rw [hw3]; exact HG2.out.next (bel_alloc _ _)
 have HB3 := bea HB2 hw3
 have HY3 : Hid (RB gy sy ny dy w3) := by rw [hw3, hgy]; exact blk_new _ _
 rw [← hw3]
 (try rw [← hgy])
 clear hw3 hgy HD2 HG2 HB2
 refine (HSR.out _).mono ?_
 rintro e w4 ⟨rfl, hb⟩
 have HD4 := Lib.hid (HD3.out.next hb)
 have HG4 := Lib.hid (HG3.out.next hb)
 have HB4 := ben HB3 hb
 have HY4 := Lib.hid (HY3.out.next hb)
 clear hb HD3 HG3 HB3 HY3
 obtain ⟨c0, c1, c2, c3, c4, c5, c6, c7, c8, c9, c10, c11, c12, c13⟩ := HD4.out.cells
 obtain ⟨y0, y1, y2, _, _, _, hz2⟩ := three_of (HY4.out.next (bel_alloc w4 (.cells #[.int .i64 fr, .bool sr, .string nr, .string dr] 194)))
 obtain ⟨d0, d1, d2', d3, d4, d5, d6, d7, d8, d9, d10, d11, d12, d13⟩ := (HD4.out.next (bel_alloc w4 (.cells #[.int .i64 fr, .bool sr, .string nr, .string dr] 194))).cells
 go_wp2_with fail
 clear c0 c1 c2 c3 c4 c5 c6 c7 c8 c9 c10 c11 c12 c13
 clear y0 y1 y2 hz2 d0 d1 d2' d3 d4 d5 d6 d7 d8 d9 d10 d11 d12 d13
 obtain ⟨gs, hgs⟩ : ∃ g, g = w4.heap.size := ⟨_, rfl⟩
 obtain ⟨w5, hw5⟩ : ∃ W, W = w4.alloc (.cells #[.int .i64 fr, .bool sr, .string nr, .string dr] 194) := ⟨_, rfl⟩
 have HD5 : Hid (DBox w.heap.size i es cr co sa na da nc rk sr nr dr fr se w5) := by rw [hw5]; exact HD4.out.next (bel_alloc _ _)
 have HG5 : Hid (RB (w.heap.size + 1) false ⟨#[]⟩ ⟨#[]⟩ w5) := by rw [hw5]; exact HG4.out.next (bel_alloc _ _)
 have HB5 := bea HB4 hw5
 have HY5 : Hid (RB gy sy ny dy w5) := by rw [hw5]; exact HY4.out.next (bel_alloc _ _)
 have HST5 : Hid (StB gs fr sr nr dr w5) := by rw [hw5, hgs]; exact blk_new _ _
 rw [← hw5]
 (try rw [← hgs])
 clear hw5 hgs HD4 HG4 HB4 HY4
 refine (HSM.out gs 1 _ HST5.out).mono ?_
 rintro e w6 ⟨rfl, hb⟩
 have HD6 := Lib.hid (HD5.out.next hb)
 have HG6 := Lib.hid (HG5.out.next hb)
 have HB6 := ben HB5 hb
 have HY6 := Lib.hid (HY5.out.next hb)
 clear hb HD5 HG5 HB5 HY5
 rw [hm2]
 obtain ⟨y0, y1, y2, _, _, _, hz2⟩ := three_of (HY6.out.next (bel_alloc w6 (.cells #[.bool s2, .string n2, .string d2] 33)))
 go_wp2_with fail
 clear y0 y1 y2 hz2
 obtain ⟨w7, hw7⟩ : ∃ W, W = w6.alloc (.cells #[.bool s2, .string n2, .string d2] 33) := ⟨_, rfl⟩
 have HD7 : Hid (DBox w.heap.size i es cr co sa na da nc rk sr nr dr fr se w7) := by rw [hw7]; exact HD6.out.next (bel_alloc _ _)
 have HG7 : Hid (RB (w.heap.size + 1) false ⟨#[]⟩ ⟨#[]⟩ w7) := by rw [hw7]; exact HG6.out.next (bel_alloc _ _)
 have HB7 := bea HB6 hw7
 rw [← hw7]
 clear hw7 HD6 HG6 HB6 HY6
 refine (HAD.out _).mono ?_
 rintro e w8 ⟨rfl, hb⟩
 have HD8 := Lib.hid (HD7.out.next hb)
 have HG8 := Lib.hid (HG7.out.next hb)
 have HB8 := ben HB7 hb
 clear hb HD7 HG7 HB7 
 rw [hv]
 obtain ⟨g0, g1, g2, f0, f1, f2, hz⟩ := three_of HG8.out
 go_wp2_with fail
 exact bodyPost_ret (v := .tuple #[.agg #[.bool v1, .string v2, .string v3], .int .i64 0]) (by simp [results, Tryz.results79, go_sem, g0, g1, g2]) rfl ⟨rfl, ((HB8.out.setCell (by simp <;> omega) _).setCell (by simp <;> omega) _).setCell (by simp <;> omega) _⟩

theorem value_calls (d : Dc) (k : Nat) (A : Option Addr) (n c : Nat) (l : List Qt) (cut : Int) (w : World) (hd : d.Ok k) (hk : k ≤ 900) (hn : n = l.length) (hr : Rd w w.heap.size 5 A l.length (l.flatMap Qt.cells)) (hl : QtsOk l) (hc : 0 ≤ cut ∧ cut ≤ 1048576) :
 Calls Tryz.prog 79 #[dcV d, .int .i64 cut, .slice A n c] w fun e w' => e = .returned (.tuple #[ratV (d.amt * (factD d l cut).1), .int .i64 (factD d l cut).2]) ∧ Below w.heap.size w w' := by
 by_cases hlt : cut < d.inc
 ·
  exact value_late d k A n c l cut w hd hk hn hr hl hc hlt
 ·
  by_cases h0 : (rateQ l d.code cut).2 = 0
  ·
   by_cases h1 : d.rate = 0 ∨ cut < d.frm
   ·
    exact value_plain d k A n c l cut w hd hk hn hr hl hc hlt h0 h1
   ·
    exact value_interest d k A n c l cut w hd hk hn hr hl hc hlt h0 (fun e => h1 (Or.inl e)) (fun e => h1 (Or.inr e))
  ·
   exact value_bad d k A n c l cut w hd hk hn hr hl hc hlt h0

end Go.Proofs.YtjlicnhkemfmiaaGreatDoor

/- currency.Convert; interest.Check, check, simple, Simple of one step. -/
import Derived.Test.YtjlicnhkemfmiaaGreatDoorSq
import Derived.Test.YtjlicnhkemfmiaaGreatDoorTCur
set_option linter.unusedVariables false
set_option linter.unusedSimpArgs false
set_option maxHeartbeats 8000000
set_option maxRecDepth 100000
namespace Go.Proofs.YtjlicnhkemfmiaaGreatDoor
open Go.RowKit

/-- a number's box -/
def RB (g : Nat) (s : Bool) (n d : ByteArray) (W : World) : Prop := W.heap[g]? = some (.cells #[.bool s, .string n, .string d] 33 (0, 0))
theorem RB.next {g : Nat} {s : Bool} {n d : ByteArray} {W W' : World} (h : RB g s n d W) (hb : Below W.heap.size W W') : RB g s n d W' := blk_next h hb
theorem RB.set {g : Nat} {s : Bool} {n d : ByteArray} {W : World} (h : RB g s n d W) (s' : Bool) (n' d' : ByteArray) : RB g s' n' d' (((W.setCell ⟨g, 0, none⟩ (.bool s')).setCell ⟨g, 1, none⟩ (.string n')).setCell ⟨g, 2, none⟩ (.string d')) := by
 have e0 := heap_setCell_same W g 0 _ _ (.bool s') h
 have e1 := heap_setCell_same _ g 1 _ _ (.string n') e0
 exact heap_setCell_same _ g 2 _ _ (.string d') e1
theorem RB.other {g r : Nat} {s : Bool} {n d : ByteArray} {W : World} (h : RB r s n d W) (hne : g ≠ r) (a b c : Value) : RB r s n d (((W.setCell ⟨g, 0, none⟩ a).setCell ⟨g, 1, none⟩ b).setCell ⟨g, 2, none⟩ c) := blk_set3Q h hne a b c
theorem RB.lt {g : Nat} {s : Bool} {n d : ByteArray} {W : World} (h : RB g s n d W) : g < W.heap.size := (Array.getElem?_eq_some_iff.1 h).1
/-- three numbers' boxes -/
structure S3 (ga : Nat) (sa : Bool) (na da : ByteArray) (gb : Nat) (sb : Bool) (nb db : ByteArray) (gc : Nat) (sc : Bool) (nc dc : ByteArray) (W : World) : Prop where
 a : RB ga sa na da W
 b : RB gb sb nb db W
 c : RB gc sc nc dc W
section
variable {ga : Nat} {sa : Bool} {na da : ByteArray} {gb : Nat} {sb : Bool} {nb db : ByteArray} {gc : Nat} {sc : Bool} {nc dc : ByteArray} {W W' : World}
theorem S3.next (h : S3 ga sa na da gb sb nb db gc sc nc dc W) (hb : Below W.heap.size W W') : S3 ga sa na da gb sb nb db gc sc nc dc W' := ⟨h.a.next hb, h.b.next hb, h.c.next hb⟩
theorem S3.other {g : Nat} (h : S3 ga sa na da gb sb nb db gc sc nc dc W) (h1 : g ≠ ga) (h2 : g ≠ gb) (h3 : g ≠ gc) (x y z : Value) : S3 ga sa na da gb sb nb db gc sc nc dc (((W.setCell ⟨g, 0, none⟩ x).setCell ⟨g, 1, none⟩ y).setCell ⟨g, 2, none⟩ z) := ⟨h.a.other h1 _ _ _, h.b.other h2 _ _ _, h.c.other h3 _ _ _⟩
end
theorem Sz.div {k m : Nat} {p q : Rat} (hp : Sz k p) (hq : Sz m q) (hq0 : q ≠ 0) : Sz (k + m) (p / q) := by
 rw [rv_div p q hq0]
 exact Sz.rv (Nat.mul_ne_zero p.den_nz (natAbs_ne hq0)) (pow_mul_lt hp.1 hq.2) (pow_mul_lt hp.2 hq.1)
theorem sz_nat {n : Nat} (h : n < 16777216) : Sz 3 (((n : Int)) : Rat) := ⟨by show ((n : Int)).natAbs < 256 ^ 3; rw [Int.natAbs_natCast]; omega, by show 1 < 256 ^ 3; decide⟩
theorem ratV_eq {q : Rat} {s : Bool} {n d : ByteArray} (h : ratV q = .agg #[.bool s, .string n, .string d]) : rneg q = s ∧ rnum q = n ∧ rden q = d := by
 unfold ratV at h
 simp only [Value.agg.injEq] at h
 have h3 := congrArg Array.toList h
 simp only [List.cons.injEq, Value.bool.injEq, Value.string.injEq, and_true] at h3
 exact h3

theorem conv_calls (A : Option Addr) (n c : Nat) (l : List Qt) (x : Rat) (k : Nat) (code : ByteArray) (day : Int) (w : World) (hn : n = l.length) (hr : Rd w w.heap.size 5 A l.length (l.flatMap Qt.cells)) (hl : QtsOk l) (hd : 0 ≤ day ∧ day ≤ 1048576) (hx : Sz k x) (hk : k ≤ 1000) :
 Calls Tryz.prog 110 #[.slice A n c, ratV x, .string code, .string eurB, .int .i64 day] w fun e w' => e = .returned (.tuple #[ratV (x * (rateQ l code day).1), .int .i64 (rateQ l code day).2]) ∧ Below w.heap.size w w' := by
 have HF := Lib.hid (fun W (hw : Below w.heap.size w W) => rate_calls A n c l code day W hn (hr.next hw) hl hd)
 have HT' := fun W (hw : Below w.heap.size w W) => rate_calls A n c l eurB day W hn (hr.next hw) hl hd
 have he : rateQ l eurB day = (1, 0) := by unfold rateQ; rw [if_pos rfl]
 rw [he] at HT'
 dsimp only at HT'
 have hrs := rateQ_sz hl code day
 have hre := @rateQ_err l code day
 obtain ⟨⟨r, er⟩, hre0⟩ : ∃ z, z = rateQ l code day := ⟨_, rfl⟩
 rw [← hre0] at HF hrs hre ⊢
 dsimp only at HF hrs hre ⊢
 clear hre0 he hn hr hl hd
 by_cases h0 : er = 0
 ·
  subst h0
  have HT := Lib.hid HT'
  have HM' := fun W => pMulQ_calls x r k 8 W hx hrs (by omega)
  have HD' := fun W => pDivQ_calls (x * r) 1 (k + 8) 8 W (hx.mul hrs) sz_one (by decide) (by omega)
  rw [show x * r / 1 = x * r by grind] at HD'
  clear HT' hre hx hrs hk
  obtain ⟨sa, na, da, hsa⟩ : ∃ a b c, ratV x = .agg #[.bool a, .string b, .string c] := ⟨_, _, _, rfl⟩
  obtain ⟨sb, nb, db, hsb⟩ : ∃ a b c, ratV r = .agg #[.bool a, .string b, .string c] := ⟨_, _, _, rfl⟩
  obtain ⟨sc, nc, dc, hsc⟩ : ∃ a b c, ratV 1 = .agg #[.bool a, .string b, .string c] := ⟨_, _, _, rfl⟩
  obtain ⟨v1, v2, v3, hv1⟩ : ∃ a b c, ratV (x * r) = .agg #[.bool a, .string b, .string c] := ⟨_, _, _, rfl⟩
  rw [hsa, hsb] at HM'
  rw [hv1] at HM' HD' ⊢
  rw [hsc] at HD' HT
  rw [hsa]
  have HM := Lib.hid HM'
  have HD := Lib.hid HD'
  clear HM' HD' hsa hsc hv1
  go_enter Tryz.func110, Tryz.ntmps110
  go_wp2_with fail
  obtain ⟨w0, hw0⟩ : ∃ W, W = (w.alloc (.cells #[.bool sa, .string na, .string da] 33)).alloc (.cells #[.bool false, .string ⟨#[]⟩, .string ⟨#[]⟩] 33) := ⟨_, rfl⟩
  have HA0 : Hid (RB w.heap.size sa na da w0) := by rw [hw0]; exact blk_alloc (blk_new _ _)
  have HG0 : Hid (RB (w.heap.size + 1) false ⟨#[]⟩ ⟨#[]⟩ w0) := by
   have := blk_new (w.alloc (.cells #[.bool sa, .string na, .string da] 33)) (.cells #[.bool false, .string ⟨#[]⟩, .string ⟨#[]⟩] 33)
   rw [World.size_alloc] at this
   rw [hw0]; exact this
  have HB0 : Hid (Below w.heap.size w w0) := by rw [hw0]; exact (bel_alloc _ _).alloc (by simp) _
  rw [← hw0]
  clear hw0
  refine (HF.out _ HB0.out).mono ?_
  rintro e w1 ⟨rfl, hb⟩
  have HA1 := Lib.hid (HA0.out.next hb)
  have HG1 := Lib.hid (HG0.out.next hb)
  have HB1 := ben HB0 hb
  clear hb HA0 HG0 HB0 HF
  rw [hsb]
  clear hsb
  go_wp2_with fail
  obtain ⟨gb, hgb⟩ : ∃ g, g = w1.heap.size := ⟨_, rfl⟩
  obtain ⟨w2, hw2⟩ : ∃ W, W = w1.alloc (.cells #[.bool sb, .string nb, .string db] 33) := ⟨_, rfl⟩
  have HA2 : Hid (RB w.heap.size sa na da w2) := by rw [hw2]; exact HA1.out.next (bel_alloc _ _)
  have HQ2 : Hid (RB gb sb nb db w2) := by rw [hw2, hgb]; exact blk_new _ _
  have HG2 : Hid (RB (w.heap.size + 1) false ⟨#[]⟩ ⟨#[]⟩ w2) := by rw [hw2]; exact HG1.out.next (bel_alloc _ _)
  have HB2 := bea HB1 hw2
  have hgb2 : w.heap.size + 1 < gb := by have := HG1.out.lt; omega
  rw [← hw2, ← hgb]
  clear hw2 hgb HA1 HG1 HB1
  refine (HT.out _ HB2.out).mono ?_
  rintro e w3 ⟨rfl, hb⟩
  have HA3 := Lib.hid (HA2.out.next hb)
  have HQ3 := Lib.hid (HQ2.out.next hb)
  have HG3 := Lib.hid (HG2.out.next hb)
  have HB3 := ben HB2 hb
  clear hb HA2 HQ2 HG2 HB2 HT
  go_upto_region 7 with fail
  obtain ⟨gc, hgc⟩ : ∃ g, g = w3.heap.size := ⟨_, rfl⟩
  have hgc2 : gb < gc := by have := HQ3.out.lt; omega
  obtain ⟨W0, hW0⟩ : ∃ W, W = w3.alloc (.cells #[.bool sc, .string nc, .string dc] 33) := ⟨_, rfl⟩
  have hS0 : S3 w.heap.size sa na da gb sb nb db gc sc nc dc W0 := by rw [hW0, hgc]; exact ⟨HA3.out.next (bel_alloc _ _), HQ3.out.next (bel_alloc _ _), blk_new _ _⟩
  have HB0 : Hid (Below w.heap.size w W0) := by rw [hW0]; exact HB3.out.alloc HB3.out.size _
  have HG0 : Hid (RB (w.heap.size + 1) false ⟨#[]⟩ ⟨#[]⟩ W0) := by rw [hW0]; exact HG3.out.next (bel_alloc _ _)
  rw [← hW0, ← hgc]
  clear hW0 hgc HA3 HQ3 HG3 HB3
  obtain ⟨W1, hW1⟩ : ∃ W, W = W0.drew := ⟨_, rfl⟩
  have hS1 : S3 w.heap.size sa na da gb sb nb db gc sc nc dc W1 := by rw [hW1]; exact ⟨hS0.a, hS0.b, hS0.c⟩
  have HB1 := bed HB0 hW1
  have HG1 : Hid (RB (w.heap.size + 1) false ⟨#[]⟩ ⟨#[]⟩ W1) := by rw [hW1]; exact HG0.out
  refine wp_region_held_drew (S := S3 w.heap.size sa na da gb sb nb db gc sc nc dc) (by kernel_rfl) (by rw [← hW1]; exact hS1) ?_
  rw [← hW1]
  intro _
  clear hW1 hS0 HB0 HG0
  refine tv 0 (.agg #[.bool sa, .string na, .string da]) rfl (by intro w' hw'; obtain ⟨k0, k1, k2, k3, k4, k5, k6⟩ := three_of hw'.a; go_simp) hS1 ?_
  go_simp
  refine tv 1 (.agg #[.bool sb, .string nb, .string db]) rfl (by intro w' hw'; obtain ⟨k0, k1, k2, k3, k4, k5, k6⟩ := three_of hw'.b; go_simp) hS1 ?_
  go_simp
  refine tv 3 (.agg #[.bool sc, .string nc, .string dc]) rfl (by intro w' hw'; obtain ⟨k0, k1, k2, k3, k4, k5, k6⟩ := three_of hw'.c; go_simp) hS1 ?_
  go_simp
  refine wpAnyH_ready (rs := [2, 8]) (by kernel_rfl) (by simp) ?_
  refine AllReadyH.cons rfl (fun K hK => ?_) (AllReadyH.cons rfl (fun K hK => ?_) AllReadyH.nil)
  ·
   go_simp
   refine (HM.out _).mono ?_
   rintro e W2 ⟨rfl, hb⟩
   have hS2 := hS1.next hb
   have HB2 := ben HB1 hb
   have HG2 := Lib.hid (HG1.out.next hb)
   clear hb hS1 HB1 HG1
   refine hK.out _ _ hS2 (fun _ => ?_)
   clear hK K
   refine wpAnyH_ready (rs := [4, 8]) (by kernel_rfl) (by simp) ?_
   refine AllReadyH.cons rfl (fun K hK => ?_) (AllReadyH.cons rfl (fun K hK => ?_) AllReadyH.nil)
   ·
    go_simp
    refine (HD.out _).mono ?_
    rintro e W3 ⟨rfl, hb⟩
    have hS3 := hS2.next hb
    have HB3 := ben HB2 hb
    have HG3 := Lib.hid (HG2.out.next hb)
    clear hb hS2 HB2 HG2
    refine hK.out _ _ hS3 (fun _ => ?_)
    clear hK K
    refine tk 5 hS3 ?_
    go_simp
    refine tk 6 hS3 ?_
    go_simp
    refine tk 7 hS3 ?_
    go_simp
    refine tr 8 (fun K hK => ?_)
    obtain ⟨gr, hgr⟩ : ∃ g, g = W3.heap.size := ⟨_, rfl⟩
    have hne := And.intro hS3.a.lt (And.intro hS3.b.lt (And.intro hS3.c.lt HG3.out.lt))
    rw [← hgr] at hne
    go_simp
    obtain ⟨W4, hW4⟩ : ∃ W, W = W3.alloc (.cells #[.bool false, .string ⟨#[]⟩, .string ⟨#[]⟩] 33) := ⟨_, rfl⟩
    have hS4 := hS3.next (bel_alloc W3 (.cells #[.bool false, .string ⟨#[]⟩, .string ⟨#[]⟩] 33))
    rw [← hW4] at hS4
    have HB4 : Hid (Below w.heap.size w W4) := by rw [hW4]; exact HB3.out.alloc HB3.out.size _
    have HG4 : Hid (RB (w.heap.size + 1) false ⟨#[]⟩ ⟨#[]⟩ W4) := by rw [hW4]; exact HG3.out.next (bel_alloc _ _)
    have HR4 : Hid (RB gr false ⟨#[]⟩ ⟨#[]⟩ W4) := by rw [hW4, hgr]; exact blk_new _ _
    rw [← hW4]
    rw [← hgr]
    clear hW4 hgr hS3 HB3 HG3
    refine hK.out _ _ hS4 (fun _ => ?_)
    clear hK K
    refine tr 9 (fun K hK => ?_)
    obtain ⟨c0, c1, c2, f0, f1, f2, hz⟩ := three_of HR4.out
    go_simp
    obtain ⟨W5, hW5⟩ : ∃ W, W = ((W4.setCell ⟨gr, 0, none⟩ (.bool v1)).setCell ⟨gr, 1, none⟩ (.string v2)).setCell ⟨gr, 2, none⟩ (.string v3) := ⟨_, rfl⟩
    have hS5 := hS4.other (g := gr) (by omega) (by omega) (by omega) (.bool v1) (.string v2) (.string v3)
    rw [← hW5] at hS5
    have HB5 : Hid (Below w.heap.size w W5) := by rw [hW5]; exact bel_set3Q HB4.out gr (by omega) _ _ _
    have HG5 : Hid (RB (w.heap.size + 1) false ⟨#[]⟩ ⟨#[]⟩ W5) := by rw [hW5]; exact HG4.out.other (by omega) _ _ _
    have HR5 : Hid (RB gr v1 v2 v3 W5) := by rw [hW5]; exact HR4.out.set v1 v2 v3
    rw [← hW5]
    clear c0 c1 c2 f0 f1 f2 hz hW5 hS4 HB4 HG4 HR4
    refine hK.out _ _ hS5 (fun _ => ?_)
    clear hK K
    refine tr 10 (fun K hK => ?_)
    go_simp
    refine hK.out _ _ hS5 (fun _ => ?_)
    clear hK K
    refine wpAnyH_done (by kernel_rfl) ?_ _
    obtain ⟨c0, c1, c2, _, _, _, hz⟩ := three_of HR5.out
    obtain ⟨g0, g1, g2, f0, f1, f2, hz2⟩ := three_of HG5.out
    go_wp2_with fail
    exact bodyPost_ret (v := .tuple #[.agg #[.bool v1, .string v2, .string v3], .int .i64 0]) (by simp [results, Tryz.results110, go_sem, g0, g1, g2]) rfl ⟨rfl, ((HB5.out.setCell (by simp <;> omega) _).setCell (by simp <;> omega) _).setCell (by simp <;> omega) _⟩
   ·
    obtain ⟨gr, hgr⟩ : ∃ g, g = W2.heap.size := ⟨_, rfl⟩
    have hne := And.intro hS2.a.lt (And.intro hS2.b.lt (And.intro hS2.c.lt HG2.out.lt))
    rw [← hgr] at hne
    go_simp
    obtain ⟨W3, hW3⟩ : ∃ W, W = W2.alloc (.cells #[.bool false, .string ⟨#[]⟩, .string ⟨#[]⟩] 33) := ⟨_, rfl⟩
    have hS3 := hS2.next (bel_alloc W2 (.cells #[.bool false, .string ⟨#[]⟩, .string ⟨#[]⟩] 33))
    rw [← hW3] at hS3
    have HB3 : Hid (Below w.heap.size w W3) := by rw [hW3]; exact HB2.out.alloc HB2.out.size _
    have HG3 : Hid (RB (w.heap.size + 1) false ⟨#[]⟩ ⟨#[]⟩ W3) := by rw [hW3]; exact HG2.out.next (bel_alloc _ _)
    have HR3 : Hid (RB gr false ⟨#[]⟩ ⟨#[]⟩ W3) := by rw [hW3, hgr]; exact blk_new _ _
    rw [← hW3]
    rw [← hgr]
    clear hW3 hgr hS2 HB2 HG2
    refine hK.out _ _ hS3 (fun _ => ?_)
    clear hK K
    refine tr 4 (fun K hK => ?_)
    go_simp
    refine (HD.out _).mono ?_
    rintro e W4 ⟨rfl, hb⟩
    have hS4 := hS3.next hb
    have HB4 := ben HB3 hb
    have HG4 := Lib.hid (HG3.out.next hb)
    have HR4 := Lib.hid (HR3.out.next hb)
    clear hb hS3 HB3 HG3 HR3
    refine hK.out _ _ hS4 (fun _ => ?_)
    clear hK K
    refine tk 5 hS4 ?_
    go_simp
    refine tk 6 hS4 ?_
    go_simp
    refine tk 7 hS4 ?_
    go_simp
    refine tr 9 (fun K hK => ?_)
    obtain ⟨c0, c1, c2, f0, f1, f2, hz⟩ := three_of HR4.out
    go_simp
    obtain ⟨W5, hW5⟩ : ∃ W, W = ((W4.setCell ⟨gr, 0, none⟩ (.bool v1)).setCell ⟨gr, 1, none⟩ (.string v2)).setCell ⟨gr, 2, none⟩ (.string v3) := ⟨_, rfl⟩
    have hS5 := hS4.other (g := gr) (by omega) (by omega) (by omega) (.bool v1) (.string v2) (.string v3)
    rw [← hW5] at hS5
    have HB5 : Hid (Below w.heap.size w W5) := by rw [hW5]; exact bel_set3Q HB4.out gr (by omega) _ _ _
    have HG5 : Hid (RB (w.heap.size + 1) false ⟨#[]⟩ ⟨#[]⟩ W5) := by rw [hW5]; exact HG4.out.other (by omega) _ _ _
    have HR5 : Hid (RB gr v1 v2 v3 W5) := by rw [hW5]; exact HR4.out.set v1 v2 v3
    rw [← hW5]
    clear c0 c1 c2 f0 f1 f2 hz hW5 hS4 HB4 HG4 HR4
    refine hK.out _ _ hS5 (fun _ => ?_)
    clear hK K
    refine tr 10 (fun K hK => ?_)
    go_simp
    refine hK.out _ _ hS5 (fun _ => ?_)
    clear hK K
    refine wpAnyH_done (by kernel_rfl) ?_ _
    obtain ⟨c0, c1, c2, _, _, _, hz⟩ := three_of HR5.out
    obtain ⟨g0, g1, g2, f0, f1, f2, hz2⟩ := three_of HG5.out
    go_wp2_with fail
    exact bodyPost_ret (v := .tuple #[.agg #[.bool v1, .string v2, .string v3], .int .i64 0]) (by simp [results, Tryz.results110, go_sem, g0, g1, g2]) rfl ⟨rfl, ((HB5.out.setCell (by simp <;> omega) _).setCell (by simp <;> omega) _).setCell (by simp <;> omega) _⟩
  ·
   obtain ⟨gr, hgr⟩ : ∃ g, g = W1.heap.size := ⟨_, rfl⟩
   have hne := And.intro hS1.a.lt (And.intro hS1.b.lt (And.intro hS1.c.lt HG1.out.lt))
   rw [← hgr] at hne
   go_simp
   obtain ⟨W2, hW2⟩ : ∃ W, W = W1.alloc (.cells #[.bool false, .string ⟨#[]⟩, .string ⟨#[]⟩] 33) := ⟨_, rfl⟩
   have hS2 := hS1.next (bel_alloc W1 (.cells #[.bool false, .string ⟨#[]⟩, .string ⟨#[]⟩] 33))
   rw [← hW2] at hS2
   have HB2 : Hid (Below w.heap.size w W2) := by rw [hW2]; exact HB1.out.alloc HB1.out.size _
   have HG2 : Hid (RB (w.heap.size + 1) false ⟨#[]⟩ ⟨#[]⟩ W2) := by rw [hW2]; exact HG1.out.next (bel_alloc _ _)
   have HR2 : Hid (RB gr false ⟨#[]⟩ ⟨#[]⟩ W2) := by rw [hW2, hgr]; exact blk_new _ _
   rw [← hW2]
   rw [← hgr]
   clear hW2 hgr hS1 HB1 HG1
   refine hK.out _ _ hS2 (fun _ => ?_)
   clear hK K
   refine tr 2 (fun K hK => ?_)
   go_simp
   refine (HM.out _).mono ?_
   rintro e W3 ⟨rfl, hb⟩
   have hS3 := hS2.next hb
   have HB3 := ben HB2 hb
   have HG3 := Lib.hid (HG2.out.next hb)
   have HR3 := Lib.hid (HR2.out.next hb)
   clear hb hS2 HB2 HG2 HR2
   refine hK.out _ _ hS3 (fun _ => ?_)
   clear hK K
   refine tr 4 (fun K hK => ?_)
   go_simp
   refine (HD.out _).mono ?_
   rintro e W4 ⟨rfl, hb⟩
   have hS4 := hS3.next hb
   have HB4 := ben HB3 hb
   have HG4 := Lib.hid (HG3.out.next hb)
   have HR4 := Lib.hid (HR3.out.next hb)
   clear hb hS3 HB3 HG3 HR3
   refine hK.out _ _ hS4 (fun _ => ?_)
   clear hK K
   refine tk 5 hS4 ?_
   go_simp
   refine tk 6 hS4 ?_
   go_simp
   refine tk 7 hS4 ?_
   go_simp
   refine tr 9 (fun K hK => ?_)
   obtain ⟨c0, c1, c2, f0, f1, f2, hz⟩ := three_of HR4.out
   go_simp
   obtain ⟨W5, hW5⟩ : ∃ W, W = ((W4.setCell ⟨gr, 0, none⟩ (.bool v1)).setCell ⟨gr, 1, none⟩ (.string v2)).setCell ⟨gr, 2, none⟩ (.string v3) := ⟨_, rfl⟩
   have hS5 := hS4.other (g := gr) (by omega) (by omega) (by omega) (.bool v1) (.string v2) (.string v3)
   rw [← hW5] at hS5
   have HB5 : Hid (Below w.heap.size w W5) := by rw [hW5]; exact bel_set3Q HB4.out gr (by omega) _ _ _
   have HG5 : Hid (RB (w.heap.size + 1) false ⟨#[]⟩ ⟨#[]⟩ W5) := by rw [hW5]; exact HG4.out.other (by omega) _ _ _
   have HR5 : Hid (RB gr v1 v2 v3 W5) := by rw [hW5]; exact HR4.out.set v1 v2 v3
   rw [← hW5]
   clear c0 c1 c2 f0 f1 f2 hz hW5 hS4 HB4 HG4 HR4
   refine hK.out _ _ hS5 (fun _ => ?_)
   clear hK K
   refine tr 10 (fun K hK => ?_)
   go_simp
   refine hK.out _ _ hS5 (fun _ => ?_)
   clear hK K
   refine wpAnyH_done (by kernel_rfl) ?_ _
   obtain ⟨c0, c1, c2, _, _, _, hz⟩ := three_of HR5.out
   obtain ⟨g0, g1, g2, f0, f1, f2, hz2⟩ := three_of HG5.out
   go_wp2_with fail
   exact bodyPost_ret (v := .tuple #[.agg #[.bool v1, .string v2, .string v3], .int .i64 0]) (by simp [results, Tryz.results110, go_sem, g0, g1, g2]) rfl ⟨rfl, ((HB5.out.setCell (by simp <;> omega) _).setCell (by simp <;> omega) _).setCell (by simp <;> omega) _⟩
 ·
  have hz : x * r = 0 := by rw [hre h0, Rat.mul_zero]
  rw [hz, ratV_zero]
  have e1 : (er != 0) = true := by simpa using h0
  obtain ⟨sa, na, da, hsa⟩ : ∃ a b c, ratV x = .agg #[.bool a, .string b, .string c] := ⟨_, _, _, rfl⟩
  obtain ⟨sb, nb, db, hsb⟩ : ∃ a b c, ratV r = .agg #[.bool a, .string b, .string c] := ⟨_, _, _, rfl⟩
  rw [hsa]
  clear HT' hrs hre hx hk hz h0
  go_enter Tryz.func110, Tryz.ntmps110
  go_wp2_with fail
  obtain ⟨w0, hw0⟩ : ∃ W, W = (w.alloc (.cells #[.bool sa, .string na, .string da] 33)).alloc (.cells #[.bool false, .string ⟨#[]⟩, .string ⟨#[]⟩] 33) := ⟨_, rfl⟩
  have HA0 : Hid (RB w.heap.size sa na da w0) := by rw [hw0]; exact blk_alloc (blk_new _ _)
  have HG0 : Hid (RB (w.heap.size + 1) false ⟨#[]⟩ ⟨#[]⟩ w0) := by
   have := blk_new (w.alloc (.cells #[.bool sa, .string na, .string da] 33)) (.cells #[.bool false, .string ⟨#[]⟩, .string ⟨#[]⟩] 33)
   rw [World.size_alloc] at this
   rw [hw0]; exact this
  have HB0 : Hid (Below w.heap.size w w0) := by rw [hw0]; exact (bel_alloc _ _).alloc (by simp) _
  rw [← hw0]
  clear hw0
  refine (HF.out _ HB0.out).mono ?_
  rintro e w1 ⟨rfl, hb⟩
  have HA1 := Lib.hid (HA0.out.next hb)
  have HG1 := Lib.hid (HG0.out.next hb)
  have HB1 := ben HB0 hb
  clear hb HA0 HG0 HB0 HF
  rw [hsb]
  clear hsa hsb
  obtain ⟨c0, c1, c2, f0, f1, f2, hz⟩ := three_of (HG1.out.next (bel_alloc w1 (.cells #[.bool sb, .string nb, .string db] 33)))
  have HB2 : Hid (Below w.heap.size w (w1.alloc (.cells #[.bool sb, .string nb, .string db] 33))) := HB1.out.alloc HB1.out.size _
  clear HA1 HB1 HG1
  go_wp2_with fail
  exact bodyPost_ret (v := .tuple #[.agg #[.bool false, .string ⟨#[]⟩, .string ⟨#[]⟩], .int .i64 er]) (by simp [results, Tryz.results110, go_sem, c0, c1, c2]) rfl ⟨rfl, ((HB2.out.setCell (by simp <;> omega) _).setCell (by simp <;> omega) _).setCell (by simp <;> omega) _⟩

/-- one step of a rate -/
def StB (b : Nat) (f : Int) (sr : Bool) (nr dr : ByteArray) (W : World) : Prop := W.heap[b]? = some (.cells #[.int .i64 f, .bool sr, .string nr, .string dr] 194 (0, 0))
theorem StB.next {b : Nat} {f : Int} {sr : Bool} {nr dr : ByteArray} {W W' : World} (h : StB b f sr nr dr W) (hb : Below W.heap.size W W') : StB b f sr nr dr W' := blk_next h hb
theorem StB.lt {b : Nat} {f : Int} {sr : Bool} {nr dr : ByteArray} {W : World} (h : StB b f sr nr dr W) : b < W.heap.size := (Array.getElem?_eq_some_iff.1 h).1
theorem StB.cells {b : Nat} {f : Int} {sr : Bool} {nr dr : ByteArray} {W : World} (h : StB b f sr nr dr W) : W.cell? ⟨b, 0, none⟩ = some (.int .i64 f) ∧ W.cell? ⟨b, 1, none⟩ = some (.bool sr) ∧ W.cell? ⟨b, 2, none⟩ = some (.string nr) ∧ W.cell? ⟨b, 3, none⟩ = some (.string dr) := by
 refine ⟨?_, ?_, ?_, ?_⟩
 ·
  rw [cell_of_row W b 0 _ _ (0, 0) h]; rfl
 ·
  rw [cell_of_row W b 1 _ _ (0, 0) h]; rfl
 ·
  rw [cell_of_row W b 2 _ _ (0, 0) h]; rfl
 ·
  rw [cell_of_row W b 3 _ _ (0, 0) h]; rfl
theorem StB.other {b g : Nat} {f : Int} {sr : Bool} {nr dr : ByteArray} {W : World} (h : StB b f sr nr dr W) (hne : g ≠ b) (x y z : Value) : StB b f sr nr dr (((W.setCell ⟨g, 0, none⟩ x).setCell ⟨g, 1, none⟩ y).setCell ⟨g, 2, none⟩ z) := blk_set3Q h hne x y z
theorem iCheck_calls (b c : Nat) (f : Int) (r : Rat) (w : World) (hs : StB b f (rneg r) (rnum r) (rden r) w) (hf : 0 ≤ f ∧ f ≤ 1048576) (hr : 0 ≤ r) (hz : Sz 8 r) :
 Calls Tryz.prog 163 #[.slice (some ⟨b, 0, none⟩) 1 c] w fun e w' => e = .returned (.int .i64 0) ∧ Below w.heap.size w w' := by
 have HY := Lib.hid (fun W => interestDay_calls f W hf.1 hf.2)
 have HS' := fun W => pSignQ_calls r 8 W hz (by omega)
 have g1 := sgn_nn hr
 obtain ⟨x, hx⟩ : ∃ x, x = sgnR r := ⟨_, rfl⟩
 rw [← hx] at HS' g1
 have d1 : decide (x < 0) = false := decide_eq_false (by omega)
 unfold ratV at HS'
 obtain ⟨sr, hsr⟩ : ∃ x, x = rneg r := ⟨_, rfl⟩
 obtain ⟨nr, hnr⟩ : ∃ x, x = rnum r := ⟨_, rfl⟩
 obtain ⟨dr, hdr⟩ : ∃ x, x = rden r := ⟨_, rfl⟩
 rw [← hsr, ← hnr, ← hdr] at HS' hs
 have HS := Lib.hid HS'
 have HT := Lib.hid hs
 clear HS' hs hf hr hz hx g1 hsr hnr hdr
 go_enter Tryz.func163, Tryz.ntmps163
 go_wp2_with fail
 go_loopw [10] (fun i wr => ∃ k : Nat, k ≤ 1 ∧ i = .int .i64 (k : Int) ∧ Hid (StB b f sr nr dr wr) ∧ Hid (Below w.heap.size w wr)) (fun i _ => 1 - (intOf i).toNat)
 case atStart => exact ⟨0, by omega, rfl, HT, (Below.refl _ _)⟩
 case round =>
  clear HT
  obtain ⟨k, hk, rfl, HT, HB⟩ := hrel
  rename World => wo
  rcases k with _ | k
  ·
   obtain ⟨p0, p1, p2, p3⟩ := HT.out.cells
   go_wp2_with fail
   clear p0 p1 p2 p3
   obtain ⟨w5, hw5⟩ : ∃ W, W = wo.alloc (.cells #[.int .i64 f, .bool sr, .string nr, .string dr] 194) := ⟨_, rfl⟩
   have HS5 : Hid (StB (wo.heap.size) f sr nr dr w5) := by rw [hw5]; exact blk_new _ _
   have HT5 : Hid (StB b f sr nr dr w5) := by rw [hw5]; exact HT.out.next (bel_alloc _ _)
   have HB5 := bea HB hw5
   (try rw [← hw5])
   clear hw5 HT HB
   refine (HY.out _).mono ?_
   rintro e w5 ⟨rfl, rfl⟩
   obtain ⟨q0, q1, q2, q3⟩ := HS5.out.cells
   go_wp2_with fail
   obtain ⟨w6, hw6⟩ : ∃ W, W = w5.drew := ⟨_, rfl⟩
   have HS6 : Hid (StB (wo.heap.size) f sr nr dr w6) := by rw [hw6]; exact HS5.out
   have HB6 := bed HB5 hw6
   have HT6' : Hid (StB b f sr nr dr w6) := by rw [hw6]; exact HT5.out
   have hS : (fun _ : World => True) w6 := trivial
   refine wp_region_held_drew (S := fun _ => True) (by kernel_rfl) trivial ?_
   rw [← hw6]
   intro _
   clear hw6
   refine tk 0 hS ?_
   go_simp
   refine tk 1 hS ?_
   go_simp
   refine tk 2 hS ?_
   go_simp
   refine tu 3 hS ?_
   go_simp
   refine tu 4 hS ?_
   go_simp
   refine tu 5 hS ?_
   go_simp
   refine tu 6 hS ?_
   go_simp
   refine tu 7 hS ?_
   go_simp
   refine tu 8 hS ?_
   go_simp
   refine tu 9 hS ?_
   go_simp
   refine tu 10 hS ?_
   go_simp
   refine tu 11 hS ?_
   go_simp
   refine tk 12 hS ?_
   go_simp
   refine tk 13 hS ?_
   go_simp
   refine wpAnyH_done (by kernel_rfl) ?_ _
   clear hS
   have HT6 : Hid (StB b f sr nr dr w6) := HT6'
   clear HS5 HB5 HT5 q0 q1 q2 q3 HT6'
   obtain ⟨q0, q1, q2, q3⟩ := HS6.out.cells
   go_wp2_with fail
   refine (HS.out _).mono ?_
   rintro e w7 ⟨rfl, hb⟩
   have HT7 := Lib.hid (HT6.out.next hb)
   have HB7 := ben HB6 hb
   clear hb HT6 HB6 HS6 q0 q1 q2 q3
   go_wp2_with fail
   go_roundw
   case measure => simp [intOf] <;> omega
   case rel => exact ⟨1, by omega, by go_num, HT7, HB7⟩
  ·
   obtain rfl : k = 0 := by omega
   go_wp2_with fail
   go_ret
   exact ⟨rfl, HB.out⟩
theorem icheck_calls (b c : Nat) (f : Int) (r x : Rat) (k : Nat) (tt : Int) (w : World) (hs : StB b f (rneg r) (rnum r) (rden r) w) (hf : 0 ≤ f ∧ f ≤ tt) (ht : tt ≤ 1048576) (hr : 0 ≤ r) (hz : Sz 8 r) (hx : 0 ≤ x) (hxz : Sz k x) (hk : k ≤ 1000) :
 Calls Tryz.prog 133 #[ratV x, .slice (some ⟨b, 0, none⟩) 1 c, .int .i64 f, .int .i64 tt, .int .i64 365, .int .i64 1] w fun e w' => e = .returned (.int .i64 0) ∧ Below w.heap.size w w' := by
 have HK := Lib.hid (fun W (h : StB b f (rneg r) (rnum r) (rden r) W) => iCheck_calls b c f r W h ⟨hf.1, by omega⟩ hr hz)
 have HY1 := Lib.hid (fun W => interestDay_calls f W hf.1 (by omega))
 have HY2 := Lib.hid (fun W => interestDay_calls tt W (by omega) ht)
 have HS' := fun W => pSignQ_calls x k W hxz (by omega)
 have g1 := sgn_nn hx
 have d0 : decide (tt < f) = false := decide_eq_false (by omega)
 obtain ⟨y, hy⟩ : ∃ y, y = sgnR x := ⟨_, rfl⟩
 rw [← hy] at HS' g1
 have d1 : decide (y < 0) = false := decide_eq_false (by omega)
 have HT := Lib.hid hs
 clear hs hf ht hr hz hx hxz hk hy g1
 obtain ⟨sa, na, da, hsa⟩ : ∃ a b c, ratV x = .agg #[.bool a, .string b, .string c] := ⟨_, _, _, rfl⟩
 rw [hsa] at HS' ⊢
 have HS := Lib.hid HS'
 clear HS' hsa
 go_enter Tryz.func133, Tryz.ntmps133
 go_wp2_with fail
 obtain ⟨w0, hw0⟩ : ∃ W, W = w.alloc (.cells #[.bool sa, .string na, .string da] 33) := ⟨_, rfl⟩
 have HA0 : Hid (RB w.heap.size sa na da w0) := by rw [hw0]; exact blk_new _ _
 have HT0 : Hid (StB b f (rneg r) (rnum r) (rden r) w0) := by rw [hw0]; exact HT.out.next (bel_alloc _ _)
 have HB0 : Hid (Below w.heap.size w w0) := by rw [hw0]; exact bel_alloc _ _
 rw [← hw0]
 clear hw0 HT
 refine (HK.out _ HT0.out).mono ?_
 rintro e w1 ⟨rfl, hb⟩
 have HA1 := Lib.hid (HA0.out.next hb)
 have HB1 := ben HB0 hb
 clear hb HA0 HT0 HB0
 obtain ⟨c0, c1, c2, _, _, _, hz⟩ := three_of HA1.out
 go_wp2_with fail
 refine (HY1.out _).mono ?_
 rintro e w2 ⟨rfl, rfl⟩
 go_wp2_with fail
 refine (HY2.out _).mono ?_
 rintro e w2 ⟨rfl, rfl⟩
 go_wp2_with fail
 refine (HS.out _).mono ?_
 rintro e w3 ⟨rfl, hb⟩
 have HB3 := ben HB1 hb
 clear hb c0 c1 c2 hz HB1 HA1
 go_wp2_with fail
 go_ret
 exact ⟨rfl, HB3.out⟩

structure S2 (ga : Nat) (sa : Bool) (na da : ByteArray) (b : Nat) (f : Int) (sr : Bool) (nr dr : ByteArray) (W : World) : Prop where
 a : RB ga sa na da W
 t : StB b f sr nr dr W
section
variable {ga : Nat} {sa : Bool} {na da : ByteArray} {b : Nat} {f : Int} {sr : Bool} {nr dr : ByteArray} {W W' : World}
theorem S2.next (h : S2 ga sa na da b f sr nr dr W) (hb : Below W.heap.size W W') : S2 ga sa na da b f sr nr dr W' := ⟨h.a.next hb, h.t.next hb⟩
theorem S2.other {g : Nat} (h : S2 ga sa na da b f sr nr dr W) (h1 : g ≠ ga) (h2 : g ≠ b) (x y z : Value) : S2 ga sa na da b f sr nr dr (((W.setCell ⟨g, 0, none⟩ x).setCell ⟨g, 1, none⟩ y).setCell ⟨g, 2, none⟩ z) := ⟨h.a.other h1 _ _ _, h.t.other h2 _ _ _⟩
theorem S2.setA (h : S2 ga sa na da b f sr nr dr W) (h2 : ga ≠ b) (s : Bool) (n d : ByteArray) : S2 ga s n d b f sr nr dr (((W.setCell ⟨ga, 0, none⟩ (.bool s)).setCell ⟨ga, 1, none⟩ (.string n)).setCell ⟨ga, 2, none⟩ (.string d)) := ⟨h.a.set _ _ _, h.t.other h2 _ _ _⟩
end
theorem simple_calls (b c : Nat) (f : Int) (r : Rat) (tt : Int) (w : World) (hs : StB b f (rneg r) (rnum r) (rden r) w) (hf : 0 ≤ f ∧ f ≤ tt) (ht : tt ≤ 1048576) (hz : Sz 8 r) :
 Calls Tryz.prog 134 #[.slice (some ⟨b, 0, none⟩) 1 c, .int .i64 f, .int .i64 tt, .int .i64 365] w fun e w' => e = .returned (ratV (r * ((tt - f : Int) : Rat) / ((365 : Int) : Rat))) ∧ Below w.heap.size w w' := by
 obtain ⟨dd, hdd⟩ : ∃ m : Nat, tt - f = (m : Int) := ⟨(tt - f).toNat, by omega⟩
 have hdz : Sz 3 (((dd : Int)) : Rat) := sz_nat (by omega)
 have hw1 : IntKind.i64.wrap (tt - f) = (dd : Int) := by rw [IntWalk.i64_in _ (by omega)]; exact hdd
 have HI := Lib.hid (fun W => pIntQ_calls dd W (by omega))
 have HI5 := Lib.hid (fun W => pIntQ_calls 365 W (by omega))
 have HM' := fun W => pMulQ_calls r ((dd : Int) : Rat) 8 3 W hz hdz (by omega)
 have hsz : Sz 11 (r * ((dd : Int) : Rat)) := hz.mul hdz
 have HA' := fun W => pAddQ_calls 0 (r * ((dd : Int) : Rat)) 8 11 W sz_zero hsz (by omega) (by omega) (by omega)
 have HD' := fun W => pDivQ_calls (r * ((dd : Int) : Rat)) ((365 : Nat) : Int) 11 3 W hsz (sz_nat (by omega)) (by decide) (by omega)
 rw [Rat.zero_add, ratV_zero] at HA'
 have hzero : f = tt → ratV (r * ((dd : Int) : Rat)) = .agg #[.bool false, .string ⟨#[]⟩, .string ⟨#[]⟩] := fun e => by
  have : dd = 0 := by omega
  rw [this, show (((0 : Nat) : Int) : Rat) = 0 from rfl, Rat.mul_zero, ratV_zero]
 rw [hdd]
 have h365 : (((365 : Nat) : Int) : Rat) = ((365 : Int) : Rat) := rfl
 rw [h365] at HD'
 obtain ⟨v1, v2, v3, hv1⟩ : ∃ a b c, ratV (r * ((dd : Int) : Rat) / ((365 : Int) : Rat)) = .agg #[.bool a, .string b, .string c] := ⟨_, _, _, rfl⟩
 rw [hv1] at HD' ⊢
 obtain ⟨s1, n1, d1, hs1⟩ : ∃ a b c, ratV (r * ((dd : Int) : Rat)) = .agg #[.bool a, .string b, .string c] := ⟨_, _, _, rfl⟩
 rw [hs1] at HM' HA' HD' hzero
 have HM2 := HM'
 have hrr : ratV r = .agg #[.bool (rneg r), .string (rnum r), .string (rden r)] := rfl
 rw [hrr] at HM2
 obtain ⟨sr, hsr⟩ : ∃ x, x = rneg r := ⟨_, rfl⟩
 obtain ⟨nr, hnr⟩ : ∃ x, x = rnum r := ⟨_, rfl⟩
 obtain ⟨dr, hdr⟩ : ∃ x, x = rden r := ⟨_, rfl⟩
 rw [← hsr, ← hnr, ← hdr] at HM2 hs
 have HM := Lib.hid HM2
 have HA := Lib.hid HA'
 have HD := Lib.hid HD'
 have HT := Lib.hid hs
 have HFT := Lib.hid hf
 have HZR := Lib.hid hzero
 clear HM' HM2 HA' HD' hs hf ht hz hdz hsz hdd hv1 hs1 hrr hsr hnr hdr hzero h365
 go_enter Tryz.func134, Tryz.ntmps134
 go_wp2_with fail
 obtain ⟨w0, hw0⟩ : ∃ W, W = (w.alloc (.cells #[.bool false, .string ⟨#[]⟩, .string ⟨#[]⟩] 33)).alloc (.cells #[.bool false, .string ⟨#[]⟩, .string ⟨#[]⟩] 33) := ⟨_, rfl⟩
 have HG0 : Hid (RB w.heap.size false ⟨#[]⟩ ⟨#[]⟩ w0) := by rw [hw0]; exact blk_alloc (blk_new _ _)
 have HZ0 : Hid ((0 = 0 → RB (w.heap.size + 1) false ⟨#[]⟩ ⟨#[]⟩ w0 ∧ StB b f sr nr dr w0) ∧ (0 = 1 → RB (w.heap.size + 1) s1 n1 d1 w0)) := by
  refine ⟨fun _ => ⟨?_, ?_⟩, fun h => absurd h (by decide)⟩
  ·
   have := blk_new (w.alloc (.cells #[.bool false, .string ⟨#[]⟩, .string ⟨#[]⟩] 33)) (.cells #[.bool false, .string ⟨#[]⟩, .string ⟨#[]⟩] 33)
   rw [World.size_alloc] at this
   rw [hw0]; exact this
  ·
   rw [hw0]; exact (HT.out.next (bel_alloc _ _)).next (bel_alloc _ _)
 have HB0 : Hid (Below w.heap.size w w0) := by rw [hw0]; exact (bel_alloc _ _).alloc (by simp) _
 (try rw [← hw0])
 clear hw0 HT
 go_loopw [19] (fun i wr => ∃ k : Nat, k ≤ 1 ∧ i = .int .i64 (k : Int) ∧ Hid ((k = 0 → RB (w.heap.size + 1) false ⟨#[]⟩ ⟨#[]⟩ wr ∧ StB b f sr nr dr wr) ∧ (k = 1 → RB (w.heap.size + 1) s1 n1 d1 wr)) ∧ Hid (RB w.heap.size false ⟨#[]⟩ ⟨#[]⟩ wr) ∧ Hid (Below w.heap.size w wr)) (fun i _ => 1 - (intOf i).toNat)
 case atStart => exact ⟨0, by omega, rfl, HZ0, HG0, HB0⟩
 case round =>
  clear HZ0 HG0 HB0
  obtain ⟨k, hk, rfl, HZ, HG, HB⟩ := hrel
  rename World => wo
  rcases k with _ | k
  ·
   by_cases hlt : f < tt
   ·
    have e1 : decide (f < tt) = true := decide_eq_true hlt
    clear HZR
    obtain ⟨p0, p1, p2, p3⟩ := (HZ.out.1 (by trivial)).2.cells
    go_wp2_with fail
    clear p0 p1 p2 p3
    obtain ⟨g, hg⟩ : ∃ g, g = wo.heap.size := ⟨_, rfl⟩
    have hgl : w.heap.size + 1 < g := by rw [hg]; exact (HZ.out.1 (by trivial)).1.lt
    obtain ⟨W0, hW0⟩ : ∃ W, W = wo.alloc (.cells #[.int .i64 f, .bool sr, .string nr, .string dr] 194) := ⟨_, rfl⟩
    have hS0 : StB g f sr nr dr W0 := by rw [hW0, hg]; exact blk_new _ _
    have HZ0 : Hid (RB (w.heap.size + 1) false ⟨#[]⟩ ⟨#[]⟩ W0) := by rw [hW0]; exact (HZ.out.1 (by trivial)).1.next (bel_alloc _ _)
    have HB0 : Hid (Below w.heap.size w W0) := by rw [hW0]; exact HB.out.alloc HB.out.size _
    have HG0 : Hid (RB w.heap.size false ⟨#[]⟩ ⟨#[]⟩ W0) := by rw [hW0]; exact HG.out.next (bel_alloc _ _)
    (try rw [← hW0])
    (try rw [← hg])
    clear hW0 hg HZ HB HG
    obtain ⟨W1, hW1⟩ : ∃ W, W = W0.drew := ⟨_, rfl⟩
    have hS1 : StB g f sr nr dr W1 := by rw [hW1]; exact hS0
    have HZ1 : Hid (RB (w.heap.size + 1) false ⟨#[]⟩ ⟨#[]⟩ W1) := by rw [hW1]; exact HZ0.out
    have HB1 := bed HB0 hW1
    have HG1 : Hid (RB w.heap.size false ⟨#[]⟩ ⟨#[]⟩ W1) := by rw [hW1]; exact HG0.out
    refine wp_region_held_drew (S := StB g f sr nr dr) (by kernel_rfl) (by rw [← hW1]; exact hS1) ?_
    rw [← hW1]
    intro _
    clear hW1 hS0 HZ0 HB0 HG0
    refine tk 1 hS1 ?_
    go_simp
    refine tv 2 (.agg #[.bool sr, .string nr, .string dr]) rfl (by intro w' hw'; obtain ⟨k0, k1, k2, k3⟩ := StB.cells hw'; go_simp) hS1 ?_
    go_simp
    refine tk 3 hS1 ?_
    go_simp
    refine tk 4 hS1 ?_
    go_simp
    refine tk 5 hS1 ?_
    go_simp
    refine wpAnyH_ready (rs := [0, 6]) (by kernel_rfl) (by simp) ?_
    refine AllReadyH.cons rfl (fun K hK => ?_) (AllReadyH.cons rfl (fun K hK => ?_) AllReadyH.nil)
    ·
     obtain ⟨c0, c1, c2, f0, f1, f2, hz⟩ := three_of HZ1.out
     go_simp
     clear c0 c1 c2 f0 f1 f2 hz
     refine hK.out _ _ hS1 (fun _ => ?_)
     clear hK K
     refine tr 6 (fun K hK => ?_)
     go_simp
     refine (HI.out _).mono ?_
     rintro e W2 ⟨rfl, hb⟩
     have hS2 := hS1.next hb
     have HZ2 := Lib.hid (HZ1.out.next hb)
     have HB2 := ben HB1 hb
     have HG2 := Lib.hid (HG1.out.next hb)
     clear hb hS1 HZ1 HB1 HG1
     refine hK.out _ _ hS2 (fun _ => ?_)
     clear hK K
     refine tr 7 (fun K hK => ?_)
     go_simp
     refine (HM.out _).mono ?_
     rintro e W3 ⟨rfl, hb⟩
     have hS3 := hS2.next hb
     have HZ3 := Lib.hid (HZ2.out.next hb)
     have HB3 := ben HB2 hb
     have HG3 := Lib.hid (HG2.out.next hb)
     clear hb hS2 HZ2 HB2 HG2
     refine hK.out _ _ hS3 (fun _ => ?_)
     clear hK K
     refine tr 8 (fun K hK => ?_)
     go_simp
     refine (HA.out _).mono ?_
     rintro e W4 ⟨rfl, hb⟩
     have hS4 := hS3.next hb
     have HZ4 := Lib.hid (HZ3.out.next hb)
     have HB4 := ben HB3 hb
     have HG4 := Lib.hid (HG3.out.next hb)
     clear hb hS3 HZ3 HB3 HG3
     refine hK.out _ _ hS4 (fun _ => ?_)
     clear hK K
     refine tr 9 (fun K hK => ?_)
     obtain ⟨c0, c1, c2, f0, f1, f2, hz⟩ := three_of HZ4.out
     go_simp
     obtain ⟨wz, hwz⟩ : ∃ W, W = ((W4.setCell ⟨w.heap.size + 1, 0, none⟩ (.bool s1)).setCell ⟨w.heap.size + 1, 1, none⟩ (.string n1)).setCell ⟨w.heap.size + 1, 2, none⟩ (.string d1) := ⟨_, rfl⟩
     have hSz : StB g f sr nr dr wz := by rw [hwz]; exact hS4.other (by omega) _ _ _
     have HZz : Hid (RB (w.heap.size + 1) s1 n1 d1 wz) := by rw [hwz]; exact HZ4.out.set s1 n1 d1
     have HBz : Hid (Below w.heap.size w wz) := by rw [hwz]; exact bel_set3Q HB4.out (w.heap.size + 1) (by omega) _ _ _
     have HGz : Hid (RB w.heap.size false ⟨#[]⟩ ⟨#[]⟩ wz) := by rw [hwz]; exact HG4.out.other (by omega) _ _ _
     rw [← hwz]
     clear c0 c1 c2 f0 f1 f2 hz hwz hS4 HZ4 HB4 HG4
     refine hK.out _ _ hSz (fun _ => ?_)
     clear hK K hSz
     refine wpAnyH_done (by kernel_rfl) ?_ _
     go_wp2_with fail
     go_roundw
     case measure => simp [intOf] <;> omega
     case rel => exact ⟨1, by omega, by go_num, ⟨fun h => absurd h (by decide), fun _ => HZz.out⟩, HGz, HBz⟩
    ·
     go_simp
     refine (HI.out _).mono ?_
     rintro e W2 ⟨rfl, hb⟩
     have hS2 := hS1.next hb
     have HZ2 := Lib.hid (HZ1.out.next hb)
     have HB2 := ben HB1 hb
     have HG2 := Lib.hid (HG1.out.next hb)
     clear hb hS1 HZ1 HB1 HG1
     refine hK.out _ _ hS2 (fun _ => ?_)
     clear hK K
     refine wpAnyH_ready (rs := [0, 7]) (by kernel_rfl) (by simp) ?_
     refine AllReadyH.cons rfl (fun K hK => ?_) (AllReadyH.cons rfl (fun K hK => ?_) AllReadyH.nil)
     ·
      obtain ⟨c0, c1, c2, f0, f1, f2, hz⟩ := three_of HZ2.out
      go_simp
      clear c0 c1 c2 f0 f1 f2 hz
      refine hK.out _ _ hS2 (fun _ => ?_)
      clear hK K
      refine tr 7 (fun K hK => ?_)
      go_simp
      refine (HM.out _).mono ?_
      rintro e W3 ⟨rfl, hb⟩
      have hS3 := hS2.next hb
      have HZ3 := Lib.hid (HZ2.out.next hb)
      have HB3 := ben HB2 hb
      have HG3 := Lib.hid (HG2.out.next hb)
      clear hb hS2 HZ2 HB2 HG2
      refine hK.out _ _ hS3 (fun _ => ?_)
      clear hK K
      refine tr 8 (fun K hK => ?_)
      go_simp
      refine (HA.out _).mono ?_
      rintro e W4 ⟨rfl, hb⟩
      have hS4 := hS3.next hb
      have HZ4 := Lib.hid (HZ3.out.next hb)
      have HB4 := ben HB3 hb
      have HG4 := Lib.hid (HG3.out.next hb)
      clear hb hS3 HZ3 HB3 HG3
      refine hK.out _ _ hS4 (fun _ => ?_)
      clear hK K
      refine tr 9 (fun K hK => ?_)
      obtain ⟨c0, c1, c2, f0, f1, f2, hz⟩ := three_of HZ4.out
      go_simp
      obtain ⟨wz, hwz⟩ : ∃ W, W = ((W4.setCell ⟨w.heap.size + 1, 0, none⟩ (.bool s1)).setCell ⟨w.heap.size + 1, 1, none⟩ (.string n1)).setCell ⟨w.heap.size + 1, 2, none⟩ (.string d1) := ⟨_, rfl⟩
      have hSz : StB g f sr nr dr wz := by rw [hwz]; exact hS4.other (by omega) _ _ _
      have HZz : Hid (RB (w.heap.size + 1) s1 n1 d1 wz) := by rw [hwz]; exact HZ4.out.set s1 n1 d1
      have HBz : Hid (Below w.heap.size w wz) := by rw [hwz]; exact bel_set3Q HB4.out (w.heap.size + 1) (by omega) _ _ _
      have HGz : Hid (RB w.heap.size false ⟨#[]⟩ ⟨#[]⟩ wz) := by rw [hwz]; exact HG4.out.other (by omega) _ _ _
      rw [← hwz]
      clear c0 c1 c2 f0 f1 f2 hz hwz hS4 HZ4 HB4 HG4
      refine hK.out _ _ hSz (fun _ => ?_)
      clear hK K hSz
      refine wpAnyH_done (by kernel_rfl) ?_ _
      go_wp2_with fail
      go_roundw
      case measure => simp [intOf] <;> omega
      case rel => exact ⟨1, by omega, by go_num, ⟨fun h => absurd h (by decide), fun _ => HZz.out⟩, HGz, HBz⟩
     ·
      go_simp
      refine (HM.out _).mono ?_
      rintro e W3 ⟨rfl, hb⟩
      have hS3 := hS2.next hb
      have HZ3 := Lib.hid (HZ2.out.next hb)
      have HB3 := ben HB2 hb
      have HG3 := Lib.hid (HG2.out.next hb)
      clear hb hS2 HZ2 HB2 HG2
      refine hK.out _ _ hS3 (fun _ => ?_)
      clear hK K
      refine tr 0 (fun K hK => ?_)
      obtain ⟨c0, c1, c2, f0, f1, f2, hz⟩ := three_of HZ3.out
      go_simp
      clear c0 c1 c2 f0 f1 f2 hz
      refine hK.out _ _ hS3 (fun _ => ?_)
      clear hK K
      refine tr 8 (fun K hK => ?_)
      go_simp
      refine (HA.out _).mono ?_
      rintro e W4 ⟨rfl, hb⟩
      have hS4 := hS3.next hb
      have HZ4 := Lib.hid (HZ3.out.next hb)
      have HB4 := ben HB3 hb
      have HG4 := Lib.hid (HG3.out.next hb)
      clear hb hS3 HZ3 HB3 HG3
      refine hK.out _ _ hS4 (fun _ => ?_)
      clear hK K
      refine tr 9 (fun K hK => ?_)
      obtain ⟨c0, c1, c2, f0, f1, f2, hz⟩ := three_of HZ4.out
      go_simp
      obtain ⟨wz, hwz⟩ : ∃ W, W = ((W4.setCell ⟨w.heap.size + 1, 0, none⟩ (.bool s1)).setCell ⟨w.heap.size + 1, 1, none⟩ (.string n1)).setCell ⟨w.heap.size + 1, 2, none⟩ (.string d1) := ⟨_, rfl⟩
      have hSz : StB g f sr nr dr wz := by rw [hwz]; exact hS4.other (by omega) _ _ _
      have HZz : Hid (RB (w.heap.size + 1) s1 n1 d1 wz) := by rw [hwz]; exact HZ4.out.set s1 n1 d1
      have HBz : Hid (Below w.heap.size w wz) := by rw [hwz]; exact bel_set3Q HB4.out (w.heap.size + 1) (by omega) _ _ _
      have HGz : Hid (RB w.heap.size false ⟨#[]⟩ ⟨#[]⟩ wz) := by rw [hwz]; exact HG4.out.other (by omega) _ _ _
      rw [← hwz]
      clear c0 c1 c2 f0 f1 f2 hz hwz hS4 HZ4 HB4 HG4
      refine hK.out _ _ hSz (fun _ => ?_)
      clear hK K hSz
      refine wpAnyH_done (by kernel_rfl) ?_ _
      go_wp2_with fail
      go_roundw
      case measure => simp [intOf] <;> omega
      case rel => exact ⟨1, by omega, by go_num, ⟨fun h => absurd h (by decide), fun _ => HZz.out⟩, HGz, HBz⟩
   ·
    have e1 : decide (f < tt) = false := decide_eq_false hlt
    obtain rfl : f = tt := by have := HFT.out; omega
    have HZ1 : Hid (RB (w.heap.size + 1) s1 n1 d1 (wo.alloc (.cells #[.int .i64 f, .bool sr, .string nr, .string dr] 194))) := by
     have h := (HZ.out.1 (by trivial)).1.next (bel_alloc wo (.cells #[.int .i64 f, .bool sr, .string nr, .string dr] 194))
     have e := HZR.out rfl
     simp only [Value.agg.injEq] at e
     have e2 := congrArg Array.toList e
     simp only [List.cons.injEq, Value.bool.injEq, Value.string.injEq, and_true] at e2
     rw [e2.1, e2.2.1, e2.2.2]
     exact h
    have HG1 : Hid (RB w.heap.size false ⟨#[]⟩ ⟨#[]⟩ (wo.alloc (.cells #[.int .i64 f, .bool sr, .string nr, .string dr] 194))) := HG.out.next (bel_alloc _ _)
    have HB1 : Hid (Below w.heap.size w (wo.alloc (.cells #[.int .i64 f, .bool sr, .string nr, .string dr] 194))) := HB.out.alloc HB.out.size _
    obtain ⟨p0, p1, p2, p3⟩ := (HZ.out.1 (by trivial)).2.cells
    clear HZ HG HB HZR
    go_wp2_with fail
    go_roundw
    case measure => simp [intOf] <;> omega
    case rel => exact ⟨1, by omega, by go_num, ⟨fun h => absurd h (by decide), fun _ => HZ1.out⟩, HG1, HB1⟩
  ·
   obtain rfl : k = 0 := by omega
   go_upto_region 11 with fail
   obtain ⟨W0, hW0⟩ : ∃ W, W = wo := ⟨_, rfl⟩
   have hS0 : S3 (w.heap.size + 1) s1 n1 d1 (w.heap.size + 1) s1 n1 d1 (w.heap.size + 1) s1 n1 d1 W0 := by rw [hW0]; exact ⟨HZ.out.2 rfl, HZ.out.2 rfl, HZ.out.2 rfl⟩
   have HB0 : Hid (Below w.heap.size w W0) := by rw [hW0]; exact HB.out
   have HG0 : Hid (RB (w.heap.size) false ⟨#[]⟩ ⟨#[]⟩ W0) := by rw [hW0]; exact HG.out
   rw [← hW0]
   clear hW0 HZ HB HG HZR
   obtain ⟨W1, hW1⟩ : ∃ W, W = W0.drew := ⟨_, rfl⟩
   have hS1 : S3 (w.heap.size + 1) s1 n1 d1 (w.heap.size + 1) s1 n1 d1 (w.heap.size + 1) s1 n1 d1 W1 := by rw [hW1]; exact ⟨hS0.a, hS0.b, hS0.c⟩
   have HB1 := bed HB0 hW1
   have HG1 : Hid (RB (w.heap.size) false ⟨#[]⟩ ⟨#[]⟩ W1) := by rw [hW1]; exact HG0.out
   refine wp_region_held_drew (S := S3 (w.heap.size + 1) s1 n1 d1 (w.heap.size + 1) s1 n1 d1 (w.heap.size + 1) s1 n1 d1) (by kernel_rfl) (by rw [← hW1]; exact hS1) ?_
   rw [← hW1]
   intro _
   clear hW1 hS0 HB0 HG0
   refine tv 0 (.agg #[.bool s1, .string n1, .string d1]) rfl (by intro w' hw'; obtain ⟨k0, k1, k2, k3, k4, k5, k6⟩ := three_of hw'.a; go_simp) hS1 ?_
   go_simp
   refine tk 1 hS1 ?_
   go_simp
   refine wpAnyH_ready (rs := [2, 7]) (by kernel_rfl) (by simp) ?_
   refine AllReadyH.cons rfl (fun K hK => ?_) (AllReadyH.cons rfl (fun K hK => ?_) AllReadyH.nil)
   ·
    go_simp
    refine (HI5.out _).mono ?_
    rintro e W2 ⟨rfl, hb⟩
    have hS2 := hS1.next hb
    have HB2 := ben HB1 hb
    have HG2 := Lib.hid (HG1.out.next hb)
    clear hb hS1 HB1 HG1
    refine hK.out _ _ hS2 (fun _ => ?_)
    clear hK K
    refine wpAnyH_ready (rs := [3, 7]) (by kernel_rfl) (by simp) ?_
    refine AllReadyH.cons rfl (fun K hK => ?_) (AllReadyH.cons rfl (fun K hK => ?_) AllReadyH.nil)
    ·
     go_simp
     refine (HD.out _).mono ?_
     rintro e W3 ⟨rfl, hb⟩
     have hS3 := hS2.next hb
     have HB3 := ben HB2 hb
     have HG3 := Lib.hid (HG2.out.next hb)
     clear hb hS2 HB2 HG2
     refine hK.out _ _ hS3 (fun _ => ?_)
     clear hK K
     refine tk 4 hS3 ?_
     go_simp
     refine tk 5 hS3 ?_
     go_simp
     refine tk 6 hS3 ?_
     go_simp
     refine tr 7 (fun K hK => ?_)
     obtain ⟨gr, hgr⟩ : ∃ g, g = W3.heap.size := ⟨_, rfl⟩
     have hne := And.intro hS3.a.lt (And.intro hS3.b.lt (And.intro hS3.c.lt HG3.out.lt))
     rw [← hgr] at hne
     go_simp
     obtain ⟨W4, hW4⟩ : ∃ W, W = W3.alloc (.cells #[.bool false, .string ⟨#[]⟩, .string ⟨#[]⟩] 33) := ⟨_, rfl⟩
     have hS4 := hS3.next (bel_alloc W3 (.cells #[.bool false, .string ⟨#[]⟩, .string ⟨#[]⟩] 33))
     rw [← hW4] at hS4
     have HB4 : Hid (Below w.heap.size w W4) := by rw [hW4]; exact HB3.out.alloc HB3.out.size _
     have HG4 : Hid (RB (w.heap.size) false ⟨#[]⟩ ⟨#[]⟩ W4) := by rw [hW4]; exact HG3.out.next (bel_alloc _ _)
     have HR4 : Hid (RB gr false ⟨#[]⟩ ⟨#[]⟩ W4) := by rw [hW4, hgr]; exact blk_new _ _
     rw [← hW4]
     rw [← hgr]
     clear hW4 hgr hS3 HB3 HG3
     refine hK.out _ _ hS4 (fun _ => ?_)
     clear hK K
     refine tr 8 (fun K hK => ?_)
     obtain ⟨c0, c1, c2, f0, f1, f2, hz⟩ := three_of HR4.out
     go_simp
     obtain ⟨W5, hW5⟩ : ∃ W, W = ((W4.setCell ⟨gr, 0, none⟩ (.bool v1)).setCell ⟨gr, 1, none⟩ (.string v2)).setCell ⟨gr, 2, none⟩ (.string v3) := ⟨_, rfl⟩
     have hS5 := hS4.other (g := gr) (by omega) (by omega) (by omega) (.bool v1) (.string v2) (.string v3)
     rw [← hW5] at hS5
     have HB5 : Hid (Below w.heap.size w W5) := by rw [hW5]; exact bel_set3Q HB4.out gr (by omega) _ _ _
     have HG5 : Hid (RB (w.heap.size) false ⟨#[]⟩ ⟨#[]⟩ W5) := by rw [hW5]; exact HG4.out.other (by omega) _ _ _
     have HR5 : Hid (RB gr v1 v2 v3 W5) := by rw [hW5]; exact HR4.out.set v1 v2 v3
     rw [← hW5]
     clear c0 c1 c2 f0 f1 f2 hz hW5 hS4 HB4 HG4 HR4
     refine hK.out _ _ hS5 (fun _ => ?_)
     clear hK K
     refine tr 9 (fun K hK => ?_)
     go_simp
     refine hK.out _ _ hS5 (fun _ => ?_)
     clear hK K
     refine wpAnyH_done (by kernel_rfl) ?_ _
     obtain ⟨c0, c1, c2, _, _, _, hz⟩ := three_of HR5.out
     obtain ⟨g0, g1, g2, f0, f1, f2, hz2⟩ := three_of HG5.out
     go_wp2_with fail
     exact bodyPost_ret (v := .agg #[.bool v1, .string v2, .string v3]) (by simp [results, Tryz.results134, go_sem, g0, g1, g2]) rfl ⟨rfl, ((HB5.out.setCell (by simp <;> omega) _).setCell (by simp <;> omega) _).setCell (by simp <;> omega) _⟩
    ·
     obtain ⟨gr, hgr⟩ : ∃ g, g = W2.heap.size := ⟨_, rfl⟩
     have hne := And.intro hS2.a.lt (And.intro hS2.b.lt (And.intro hS2.c.lt HG2.out.lt))
     rw [← hgr] at hne
     go_simp
     obtain ⟨W3, hW3⟩ : ∃ W, W = W2.alloc (.cells #[.bool false, .string ⟨#[]⟩, .string ⟨#[]⟩] 33) := ⟨_, rfl⟩
     have hS3 := hS2.next (bel_alloc W2 (.cells #[.bool false, .string ⟨#[]⟩, .string ⟨#[]⟩] 33))
     rw [← hW3] at hS3
     have HB3 : Hid (Below w.heap.size w W3) := by rw [hW3]; exact HB2.out.alloc HB2.out.size _
     have HG3 : Hid (RB (w.heap.size) false ⟨#[]⟩ ⟨#[]⟩ W3) := by rw [hW3]; exact HG2.out.next (bel_alloc _ _)
     have HR3 : Hid (RB gr false ⟨#[]⟩ ⟨#[]⟩ W3) := by rw [hW3, hgr]; exact blk_new _ _
     rw [← hW3]
     rw [← hgr]
     clear hW3 hgr hS2 HB2 HG2
     refine hK.out _ _ hS3 (fun _ => ?_)
     clear hK K
     refine tr 3 (fun K hK => ?_)
     go_simp
     refine (HD.out _).mono ?_
     rintro e W4 ⟨rfl, hb⟩
     have hS4 := hS3.next hb
     have HB4 := ben HB3 hb
     have HG4 := Lib.hid (HG3.out.next hb)
     have HR4 := Lib.hid (HR3.out.next hb)
     clear hb hS3 HB3 HG3 HR3
     refine hK.out _ _ hS4 (fun _ => ?_)
     clear hK K
     refine tk 4 hS4 ?_
     go_simp
     refine tk 5 hS4 ?_
     go_simp
     refine tk 6 hS4 ?_
     go_simp
     refine tr 8 (fun K hK => ?_)
     obtain ⟨c0, c1, c2, f0, f1, f2, hz⟩ := three_of HR4.out
     go_simp
     obtain ⟨W5, hW5⟩ : ∃ W, W = ((W4.setCell ⟨gr, 0, none⟩ (.bool v1)).setCell ⟨gr, 1, none⟩ (.string v2)).setCell ⟨gr, 2, none⟩ (.string v3) := ⟨_, rfl⟩
     have hS5 := hS4.other (g := gr) (by omega) (by omega) (by omega) (.bool v1) (.string v2) (.string v3)
     rw [← hW5] at hS5
     have HB5 : Hid (Below w.heap.size w W5) := by rw [hW5]; exact bel_set3Q HB4.out gr (by omega) _ _ _
     have HG5 : Hid (RB (w.heap.size) false ⟨#[]⟩ ⟨#[]⟩ W5) := by rw [hW5]; exact HG4.out.other (by omega) _ _ _
     have HR5 : Hid (RB gr v1 v2 v3 W5) := by rw [hW5]; exact HR4.out.set v1 v2 v3
     rw [← hW5]
     clear c0 c1 c2 f0 f1 f2 hz hW5 hS4 HB4 HG4 HR4
     refine hK.out _ _ hS5 (fun _ => ?_)
     clear hK K
     refine tr 9 (fun K hK => ?_)
     go_simp
     refine hK.out _ _ hS5 (fun _ => ?_)
     clear hK K
     refine wpAnyH_done (by kernel_rfl) ?_ _
     obtain ⟨c0, c1, c2, _, _, _, hz⟩ := three_of HR5.out
     obtain ⟨g0, g1, g2, f0, f1, f2, hz2⟩ := three_of HG5.out
     go_wp2_with fail
     exact bodyPost_ret (v := .agg #[.bool v1, .string v2, .string v3]) (by simp [results, Tryz.results134, go_sem, g0, g1, g2]) rfl ⟨rfl, ((HB5.out.setCell (by simp <;> omega) _).setCell (by simp <;> omega) _).setCell (by simp <;> omega) _⟩
   ·
    obtain ⟨gr, hgr⟩ : ∃ g, g = W1.heap.size := ⟨_, rfl⟩
    have hne := And.intro hS1.a.lt (And.intro hS1.b.lt (And.intro hS1.c.lt HG1.out.lt))
    rw [← hgr] at hne
    go_simp
    obtain ⟨W2, hW2⟩ : ∃ W, W = W1.alloc (.cells #[.bool false, .string ⟨#[]⟩, .string ⟨#[]⟩] 33) := ⟨_, rfl⟩
    have hS2 := hS1.next (bel_alloc W1 (.cells #[.bool false, .string ⟨#[]⟩, .string ⟨#[]⟩] 33))
    rw [← hW2] at hS2
    have HB2 : Hid (Below w.heap.size w W2) := by rw [hW2]; exact HB1.out.alloc HB1.out.size _
    have HG2 : Hid (RB (w.heap.size) false ⟨#[]⟩ ⟨#[]⟩ W2) := by rw [hW2]; exact HG1.out.next (bel_alloc _ _)
    have HR2 : Hid (RB gr false ⟨#[]⟩ ⟨#[]⟩ W2) := by rw [hW2, hgr]; exact blk_new _ _
    rw [← hW2]
    rw [← hgr]
    clear hW2 hgr hS1 HB1 HG1
    refine hK.out _ _ hS2 (fun _ => ?_)
    clear hK K
    refine tr 2 (fun K hK => ?_)
    go_simp
    refine (HI5.out _).mono ?_
    rintro e W3 ⟨rfl, hb⟩
    have hS3 := hS2.next hb
    have HB3 := ben HB2 hb
    have HG3 := Lib.hid (HG2.out.next hb)
    have HR3 := Lib.hid (HR2.out.next hb)
    clear hb hS2 HB2 HG2 HR2
    refine hK.out _ _ hS3 (fun _ => ?_)
    clear hK K
    refine tr 3 (fun K hK => ?_)
    go_simp
    refine (HD.out _).mono ?_
    rintro e W4 ⟨rfl, hb⟩
    have hS4 := hS3.next hb
    have HB4 := ben HB3 hb
    have HG4 := Lib.hid (HG3.out.next hb)
    have HR4 := Lib.hid (HR3.out.next hb)
    clear hb hS3 HB3 HG3 HR3
    refine hK.out _ _ hS4 (fun _ => ?_)
    clear hK K
    refine tk 4 hS4 ?_
    go_simp
    refine tk 5 hS4 ?_
    go_simp
    refine tk 6 hS4 ?_
    go_simp
    refine tr 8 (fun K hK => ?_)
    obtain ⟨c0, c1, c2, f0, f1, f2, hz⟩ := three_of HR4.out
    go_simp
    obtain ⟨W5, hW5⟩ : ∃ W, W = ((W4.setCell ⟨gr, 0, none⟩ (.bool v1)).setCell ⟨gr, 1, none⟩ (.string v2)).setCell ⟨gr, 2, none⟩ (.string v3) := ⟨_, rfl⟩
    have hS5 := hS4.other (g := gr) (by omega) (by omega) (by omega) (.bool v1) (.string v2) (.string v3)
    rw [← hW5] at hS5
    have HB5 : Hid (Below w.heap.size w W5) := by rw [hW5]; exact bel_set3Q HB4.out gr (by omega) _ _ _
    have HG5 : Hid (RB (w.heap.size) false ⟨#[]⟩ ⟨#[]⟩ W5) := by rw [hW5]; exact HG4.out.other (by omega) _ _ _
    have HR5 : Hid (RB gr v1 v2 v3 W5) := by rw [hW5]; exact HR4.out.set v1 v2 v3
    rw [← hW5]
    clear c0 c1 c2 f0 f1 f2 hz hW5 hS4 HB4 HG4 HR4
    refine hK.out _ _ hS5 (fun _ => ?_)
    clear hK K
    refine tr 9 (fun K hK => ?_)
    go_simp
    refine hK.out _ _ hS5 (fun _ => ?_)
    clear hK K
    refine wpAnyH_done (by kernel_rfl) ?_ _
    obtain ⟨c0, c1, c2, _, _, _, hz⟩ := three_of HR5.out
    obtain ⟨g0, g1, g2, f0, f1, f2, hz2⟩ := three_of HG5.out
    go_wp2_with fail
    exact bodyPost_ret (v := .agg #[.bool v1, .string v2, .string v3]) (by simp [results, Tryz.results134, go_sem, g0, g1, g2]) rfl ⟨rfl, ((HB5.out.setCell (by simp <;> omega) _).setCell (by simp <;> omega) _).setCell (by simp <;> omega) _⟩

end Go.Proofs.YtjlicnhkemfmiaaGreatDoor

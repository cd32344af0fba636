/- The law TopInterest. -/
import Derived.Test.YtjlicnhkemfmiaaDoorTPrf
import Derived.Test.YtjlicnhkemfmiaaDoorTQts
import Derived.Test.YtjlicnhkemfmiaaDoorTAwk
set_option linter.unusedVariables false
set_option linter.unusedSimpArgs false
namespace Go.Proofs.YtjlicnhkemfmiaaDoor
open Go.RowKit

theorem dbox_amt {q : Nat} {i : ByteArray} {es cr : Int} {co : ByteArray} {sa : Bool} {na da : ByteArray} {nc rk : Int} {sr : Bool} {nr dr : ByteArray} {fr se : Int} {W : World} (h : DBox q i es cr co sa na da nc rk sr nr dr fr se W) (s : Bool) (n d : ByteArray) :
    DBox q i es cr co s n d nc rk sr nr dr fr se (((W.setCell ⟨q, 4, none⟩ (.bool s)).setCell ⟨q, 5, none⟩ (.string n)).setCell ⟨q, 6, none⟩ (.string d)) := by
  have e0 : DBox q i es cr co s na da nc rk sr nr dr fr se (W.setCell ⟨q, 4, none⟩ (.bool s)) := heap_setCell_same W q 4 _ _ (.bool s) h
  have e1 : DBox q i es cr co s n da nc rk sr nr dr fr se ((W.setCell ⟨q, 4, none⟩ (.bool s)).setCell ⟨q, 5, none⟩ (.string n)) := heap_setCell_same _ q 5 _ _ (.string n) e0
  exact heap_setCell_same _ q 6 _ _ (.string d) e1
set_option maxHeartbeats 8000000 in
set_option maxRecDepth 100000 in
theorem topInterestLaw (x0 x1 x2 x3 x4 x5 a1 : Int) (A2 : Option Addr) (n2' c2 : Nat) (l2 : List W3) (a3 : Int) (w : World) (h0 : 0 ≤ x0 ∧ x0 ≤ 65535) (h1 : 0 ≤ x1 ∧ x1 ≤ 65535) (h2 : 0 ≤ x2 ∧ x2 ≤ 65535) (h3 : 0 ≤ x3 ∧ x3 ≤ 65535) (h4 : 0 ≤ x4 ∧ x4 ≤ 65535) (h5 : 0 ≤ x5 ∧ x5 ≤ 65535) (b1 : 0 ≤ a1 ∧ a1 ≤ 255)
    (hn2 : n2' = l2.length) (r2 : Rd w w.heap.size 3 A2 l2.length (l2.flatMap u16V3)) (o2 : ∀ a ∈ l2, u16ok3 a) (g2 : n2' ≤ maxLen) (b3 : 0 ≤ a3 ∧ a3 ≤ 255) :
    Calls Tryd.prog 3 #[.agg #[.int .u16 x0, .int .u16 x1, .int .u16 x2, .int .u16 x3, .int .u16 x4, .int .u16 x5], .int .u8 a1, .slice A2 n2' c2, .int .u8 a3] w fun e w' => e = .returned (.bool true) ∧ Below w.heap.size w w' := by
  obtain ⟨x0, rfl⟩ : ∃ m : Nat, x0 = (m : Int) := ⟨x0.toNat, by omega⟩
  obtain ⟨x1, rfl⟩ : ∃ m : Nat, x1 = (m : Int) := ⟨x1.toNat, by omega⟩
  obtain ⟨x2, rfl⟩ : ∃ m : Nat, x2 = (m : Int) := ⟨x2.toNat, by omega⟩
  obtain ⟨x3, rfl⟩ : ∃ m : Nat, x3 = (m : Int) := ⟨x3.toNat, by omega⟩
  obtain ⟨x4, rfl⟩ : ∃ m : Nat, x4 = (m : Int) := ⟨x4.toNat, by omega⟩
  obtain ⟨x5, rfl⟩ : ∃ m : Nat, x5 = (m : Int) := ⟨x5.toNat, by omega⟩
  obtain ⟨cc, rfl⟩ : ∃ m : Nat, a3 = (m : Int) := ⟨a3.toNat, by omega⟩
  have HPF := Lib.hid (fun W => proof_calls x0 x1 x2 x3 x4 x5 W (by omega) (by omega) (by omega) (by omega) (by omega) (by omega))
  have HQF := Lib.hid (fun W (hw : Below w.heap.size w W) => quotes_calls A2 n2' c2 l2 W hn2 (r2.next hw) o2 g2)
  have HAW := Lib.hid awakeV_calls
  obtain ⟨ak, e1, bk⟩ : ∃ a : Nat, a1.tmod 9 = (a : Int) ∧ a < 9 := ⟨(a1 % 9).toNat, by rw [Int.tmod_eq_emod_of_nonneg b1.1]; omega, by omega⟩
  have v1 : IntKind.i64.wrap (ak : Int) = (ak : Int) := IntWalk.i64_in _ (by omega)
  have vc : IntKind.i64.wrap (cc : Int) = (cc : Int) := IntWalk.i64_in _ (by omega)
  obtain ⟨q8, hq8⟩ : ∃ q, quoQ (ak : Int) 8 = q := ⟨_, rfl⟩
  have hq8s : Sz 8 q8 := by rw [← hq8]; exact sz_quo (by omega) (by omega) (by omega) (by omega)
  have hq8n : 0 ≤ q8 ∧ 0 ≤ 1 - q8 := by rw [← hq8]; exact eighth bk
  have HRT' := fun W => ratio_calls (ak : Int) 8 W (by omega) (by omega) (by omega) (by omega) (by omega) q8 hq8
  have hcc : (cc : Int) ≤ 255 := b3.2
  clear hn2 r2 o2 g2 h0 h1 h2 h3 h4 h5 hq8
  go_enter Tryd.func3, Tryd.ntmps3
  go_wp2_with fail
  refine (HPF.out _).mono ?_
  rintro e w1 ⟨d, hd, rfl, hb⟩
  have HB1 : Hid (Below w.heap.size w w1) := (bel_alloc _ _).trans (hb.mono (by simp))
  have HOK := Lib.hid hd
  clear hb HPF hd
  obtain ⟨i, es, cr, co, amt, nc, rk, rate, fr, se⟩ := d
  unfold dcV
  dsimp only
  obtain ⟨sa, hsa⟩ : ∃ x, rneg amt = x := ⟨_, rfl⟩
  obtain ⟨na, hna⟩ : ∃ x, rnum amt = x := ⟨_, rfl⟩
  obtain ⟨da, hda⟩ : ∃ x, rden amt = x := ⟨_, rfl⟩
  obtain ⟨sr, hsr⟩ : ∃ x, rneg rate = x := ⟨_, rfl⟩
  obtain ⟨nr, hnr⟩ : ∃ x, rnum rate = x := ⟨_, rfl⟩
  obtain ⟨dr, hdr⟩ : ∃ x, rden rate = x := ⟨_, rfl⟩
  rw [hsa, hna, hda, hsr, hnr, hdr]
  have hra : ratV amt = .agg #[.bool sa, .string na, .string da] := by rw [ratV, hsa, hna, hda]
  have hasz : Sz 8 amt := HOK.out.asz
  have hann : 0 ≤ amt := HOK.out.amt
  have HML' := fun W => pMulQ_calls amt q8 8 8 W hasz hq8s (by decide)
  have hxas : Sz 16 (amt * q8) := hasz.mul hq8s
  have HSB' := fun W => pSubQ_calls amt (amt * q8) 8 16 W hasz hxas (by decide)
  have hxbs : Sz 25 (amt - amt * q8) := hasz.sub hxas
  have hxan : 0 ≤ amt * q8 := Rat.mul_nonneg hann hq8n.1
  have hxbn : 0 ≤ amt - amt * q8 := by
    have h := Rat.mul_nonneg hann hq8n.2
    rw [show amt * (1 - q8) = amt - amt * q8 by grind] at h
    exact h
  have hxs : amt * q8 + (amt - amt * q8) = amt := by grind
  obtain ⟨xa, hxa⟩ : ∃ z, z = amt * q8 := ⟨_, rfl⟩
  rw [← hxa] at HML' HSB' hxas hxbs hxan hxbn hxs
  obtain ⟨xb, hxb⟩ : ∃ z, z = amt - xa := ⟨_, rfl⟩
  rw [← hxb] at HSB' hxbs hxbn hxs
  have HXA := Lib.hid (And.intro hxan hxas)
  have HXB := Lib.hid (And.intro hxbn hxbs)
  have HXS := Lib.hid hxs
  obtain ⟨s8, n8, e8, h8⟩ : ∃ a b c, ratV q8 = .agg #[.bool a, .string b, .string c] := ⟨_, _, _, rfl⟩
  obtain ⟨s1, n1, d1, hx1⟩ : ∃ a b c, ratV xa = .agg #[.bool a, .string b, .string c] := ⟨_, _, _, rfl⟩
  obtain ⟨s2, n2, d2, hx2⟩ : ∃ a b c, ratV xb = .agg #[.bool a, .string b, .string c] := ⟨_, _, _, rfl⟩
  rw [h8] at HRT' HML'
  rw [hra] at HML' HSB'
  rw [hx1] at HML' HSB'
  rw [hx2] at HSB'
  have HRT := Lib.hid HRT'
  have HML := Lib.hid HML'
  have HSB := Lib.hid HSB'
  have HX1 := Lib.hid hx1
  have HX2 := Lib.hid hx2
  clear HRT' HML' HSB' hx1 hx2 h8 hra hxa hxb hxas hxbs hxan hxbn hxs hasz hann hq8s hq8n
  go_upto_region 2 with fail
  obtain ⟨gp, hgp⟩ : ∃ g, g = w1.heap.size := ⟨_, rfl⟩
  obtain ⟨w2, hw2⟩ : ∃ W, W = w1.alloc (.cells #[.string i, .int .i64 es, .int .i64 cr, .string co, .bool sa, .string na, .string da, .int .i64 nc, .int .i64 rk, .bool sr, .string nr, .string dr, .int .i64 fr, .int .i64 se] 28) := ⟨_, rfl⟩
  have HP2 : Hid (DBox gp i es cr co sa na da nc rk sr nr dr fr se w2) := by rw [hw2, hgp]; exact blk_new _ _
  have HB2 : Hid (Below w.heap.size w w2) := by rw [hw2]; exact HB1.out.alloc HB1.out.size _
  rw [← hw2, ← hgp]
  clear hw2 hgp HB1
  go_cut [10, 11] from 21 to 22 (fun s10 s11 wx => ∃ ga gb : Nat, s10 = .pointer (some ⟨ga, 0, none⟩) ∧ s11 = .pointer (some ⟨gb, 0, none⟩) ∧ ga ≠ gb ∧ (gp < ga ∧ w.heap.size ≤ ga) ∧ (gp < gb ∧ w.heap.size ≤ gb) ∧ DBox gp i es cr co sa na da nc rk sr nr dr fr se wx ∧ DBox ga i es cr co sa na da nc rk sr nr dr fr se wx ∧ DBox gb i es cr co sa na da nc rk sr nr dr fr se wx ∧ Below w.heap.size w wx)
  case first =>
    obtain ⟨W1, hW1⟩ : ∃ W, W = w2.drew := ⟨_, rfl⟩
    have hS1 : DBox gp i es cr co sa na da nc rk sr nr dr fr se W1 := by rw [hW1]; exact HP2.out
    have HB1 : Hid (Below w.heap.size w W1) := by rw [hW1]; exact HB2.out.drew
    refine wp_region_held_drew (S := DBox gp i es cr co sa na da nc rk sr nr dr fr se) (by kernel_rfl) (by rw [← hW1]; exact hS1) ?_
    rw [← hW1]
    intro _
    clear hW1 HP2 HB2
    refine wpAnyH_take (i := 0) (v := .agg #[.string i, .int .i64 es, .int .i64 cr, .string co, .bool sa, .string na, .string da, .int .i64 nc, .int .i64 rk, .bool sr, .string nr, .string dr, .int .i64 fr, .int .i64 se]) rfl (by kernel_rfl) (by kernel_rfl) (by kernel_rfl) (fun _ _ _ h => h) (Or.inl ⟨by kernel_rfl, (by intro w' hw'; obtain ⟨c0, c1, c2, c3, c4, c5, c6, c7, c8, c9, c10, c11, c12, c13⟩ := hw'.cells; go_simp)⟩) hS1 ?_
    go_simp
    refine wpAnyH_take (i := 1) (v := .agg #[.string i, .int .i64 es, .int .i64 cr, .string co, .bool sa, .string na, .string da, .int .i64 nc, .int .i64 rk, .bool sr, .string nr, .string dr, .int .i64 fr, .int .i64 se]) rfl (by kernel_rfl) (by kernel_rfl) (by kernel_rfl) (fun _ _ _ h => h) (Or.inl ⟨by kernel_rfl, (by intro w' hw'; obtain ⟨c0, c1, c2, c3, c4, c5, c6, c7, c8, c9, c10, c11, c12, c13⟩ := hw'.cells; go_simp)⟩) hS1 ?_
    go_simp
    refine wpAnyH_ready (rs := [2, 3]) (by kernel_rfl) (by simp) ?_
    refine AllReadyH.cons rfl (fun K hK => ?_) (AllReadyH.cons rfl (fun K hK => ?_) AllReadyH.nil)
    · obtain ⟨ga, hg⟩ : ∃ g, g = W1.heap.size := ⟨_, rfl⟩
      have hpga : gp < ga ∧ w.heap.size ≤ ga := by rw [hg]; exact ⟨hS1.lt, HB1.out.size⟩
      go_simp
      obtain ⟨W2, hW2⟩ : ∃ W, W = W1.alloc (.cells #[.string ⟨#[]⟩, .int .i64 0, .int .i64 0, .string ⟨#[]⟩, .bool false, .string ⟨#[]⟩, .string ⟨#[]⟩, .int .i64 0, .int .i64 0, .bool false, .string ⟨#[]⟩, .string ⟨#[]⟩, .int .i64 0, .int .i64 0] 28) := ⟨_, rfl⟩
      have hb : Below W1.heap.size W1 W2 := by rw [hW2]; exact bel_alloc _ _
      have HA2 : Hid (DBox ga ⟨#[]⟩ 0 0 ⟨#[]⟩ false ⟨#[]⟩ ⟨#[]⟩ 0 0 false ⟨#[]⟩ ⟨#[]⟩ 0 0 W2) := by rw [hW2, hg]; exact blk_new _ _
      have hS2 := hS1.next hb
      have HB2 : Hid (Below w.heap.size w W2) := HB1.out.trans (hb.mono HB1.out.size)
      clear hb hS1 HB1
      rw [← hW2]
      (try rw [← hg])
      clear hW2 hg
      refine hK.out _ _ hS2 (fun _ => ?_)
      clear hK K
      refine wpAnyH_ready (rs := [3]) (by kernel_rfl) (by simp) ?_
      refine AllReadyH.cons rfl (fun K hK => ?_) AllReadyH.nil
      obtain ⟨gb, hg⟩ : ∃ g, g = W2.heap.size := ⟨_, rfl⟩
      have hpgb : gp < gb ∧ w.heap.size ≤ gb := by rw [hg]; exact ⟨hS2.lt, HB2.out.size⟩
      have hab : ga < gb := by rw [hg]; exact HA2.out.lt
      go_simp
      obtain ⟨W3, hW3⟩ : ∃ W, W = W2.alloc (.cells #[.string ⟨#[]⟩, .int .i64 0, .int .i64 0, .string ⟨#[]⟩, .bool false, .string ⟨#[]⟩, .string ⟨#[]⟩, .int .i64 0, .int .i64 0, .bool false, .string ⟨#[]⟩, .string ⟨#[]⟩, .int .i64 0, .int .i64 0] 28) := ⟨_, rfl⟩
      have hb : Below W2.heap.size W2 W3 := by rw [hW3]; exact bel_alloc _ _
      have HC3 : Hid (DBox gb ⟨#[]⟩ 0 0 ⟨#[]⟩ false ⟨#[]⟩ ⟨#[]⟩ 0 0 false ⟨#[]⟩ ⟨#[]⟩ 0 0 W3) := by rw [hW3, hg]; exact blk_new _ _
      have hS3 := hS2.next hb
      have HB3 : Hid (Below w.heap.size w W3) := HB2.out.trans (hb.mono HB2.out.size)
      have HA3 := Lib.hid (HA2.out.next hb)
      clear hb hS2 HB2 HA2
      rw [← hW3]
      (try rw [← hg])
      clear hW3 hg
      refine hK.out _ _ hS3 (fun _ => ?_)
      clear hK K
      refine wpAnyH_ready (rs := [4]) (by kernel_rfl) (by simp) ?_
      refine AllReadyH.cons rfl (fun K hK => ?_) AllReadyH.nil
      obtain ⟨f0, f1, f2, f3, f4, f5, f6, f7, f8, f9, f10, f11, f12, f13, fz⟩ := HA3.out.free
      obtain ⟨c0, c1, c2, c3, c4, c5, c6, c7, c8, c9, c10, c11, c12, c13⟩ := HA3.out.cells
      go_simp
      clear f0 f1 f2 f3 f4 f5 f6 f7 f8 f9 f10 f11 f12 f13 fz
      clear c0 c1 c2 c3 c4 c5 c6 c7 c8 c9 c10 c11 c12 c13
      obtain ⟨W4, hW4⟩ : ∃ W, W = ((((((((((((((W3.setCell ⟨ga, 0, none⟩ (.string i)).setCell ⟨ga, 1, none⟩ (.int .i64 es)).setCell ⟨ga, 2, none⟩ (.int .i64 cr)).setCell ⟨ga, 3, none⟩ (.string co)).setCell ⟨ga, 4, none⟩ (.bool sa)).setCell ⟨ga, 5, none⟩ (.string na)).setCell ⟨ga, 6, none⟩ (.string da)).setCell ⟨ga, 7, none⟩ (.int .i64 nc)).setCell ⟨ga, 8, none⟩ (.int .i64 rk)).setCell ⟨ga, 9, none⟩ (.bool sr)).setCell ⟨ga, 10, none⟩ (.string nr)).setCell ⟨ga, 11, none⟩ (.string dr)).setCell ⟨ga, 12, none⟩ (.int .i64 fr)).setCell ⟨ga, 13, none⟩ (.int .i64 se)) := ⟨_, rfl⟩
      have hS4 : DBox gp i es cr co sa na da nc rk sr nr dr fr se W4 := by rw [hW4]; exact ((((((((((((((hS3.other (by omega)).other (by omega)).other (by omega)).other (by omega)).other (by omega)).other (by omega)).other (by omega)).other (by omega)).other (by omega)).other (by omega)).other (by omega)).other (by omega)).other (by omega)).other (by omega))
      have HB4 : Hid (Below w.heap.size w W4) := by rw [hW4]; exact ((((((((((((((HB3.out.setCell (by simp <;> omega) _).setCell (by simp <;> omega) _).setCell (by simp <;> omega) _).setCell (by simp <;> omega) _).setCell (by simp <;> omega) _).setCell (by simp <;> omega) _).setCell (by simp <;> omega) _).setCell (by simp <;> omega) _).setCell (by simp <;> omega) _).setCell (by simp <;> omega) _).setCell (by simp <;> omega) _).setCell (by simp <;> omega) _).setCell (by simp <;> omega) _).setCell (by simp <;> omega) _)
      have HA4 : Hid (DBox ga i es cr co sa na da nc rk sr nr dr fr se W4) := by rw [hW4]; exact HA3.out.set i es cr co sa na da nc rk sr nr dr fr se
      have HC4 : Hid (DBox gb ⟨#[]⟩ 0 0 ⟨#[]⟩ false ⟨#[]⟩ ⟨#[]⟩ 0 0 false ⟨#[]⟩ ⟨#[]⟩ 0 0 W4) := by rw [hW4]; exact ((((((((((((((HC3.out.other (by omega)).other (by omega)).other (by omega)).other (by omega)).other (by omega)).other (by omega)).other (by omega)).other (by omega)).other (by omega)).other (by omega)).other (by omega)).other (by omega)).other (by omega)).other (by omega))
      rw [← hW4]
      clear hW4 hS3 HB3 HA3 HC3
      refine hK.out _ _ hS4 (fun _ => ?_)
      clear hK K
      refine wpAnyH_ready (rs := [5]) (by kernel_rfl) (by simp) ?_
      refine AllReadyH.cons rfl (fun K hK => ?_) AllReadyH.nil
      obtain ⟨f0, f1, f2, f3, f4, f5, f6, f7, f8, f9, f10, f11, f12, f13, fz⟩ := HC4.out.free
      obtain ⟨c0, c1, c2, c3, c4, c5, c6, c7, c8, c9, c10, c11, c12, c13⟩ := HC4.out.cells
      go_simp
      clear f0 f1 f2 f3 f4 f5 f6 f7 f8 f9 f10 f11 f12 f13 fz
      clear c0 c1 c2 c3 c4 c5 c6 c7 c8 c9 c10 c11 c12 c13
      obtain ⟨W5, hW5⟩ : ∃ W, W = ((((((((((((((W4.setCell ⟨gb, 0, none⟩ (.string i)).setCell ⟨gb, 1, none⟩ (.int .i64 es)).setCell ⟨gb, 2, none⟩ (.int .i64 cr)).setCell ⟨gb, 3, none⟩ (.string co)).setCell ⟨gb, 4, none⟩ (.bool sa)).setCell ⟨gb, 5, none⟩ (.string na)).setCell ⟨gb, 6, none⟩ (.string da)).setCell ⟨gb, 7, none⟩ (.int .i64 nc)).setCell ⟨gb, 8, none⟩ (.int .i64 rk)).setCell ⟨gb, 9, none⟩ (.bool sr)).setCell ⟨gb, 10, none⟩ (.string nr)).setCell ⟨gb, 11, none⟩ (.string dr)).setCell ⟨gb, 12, none⟩ (.int .i64 fr)).setCell ⟨gb, 13, none⟩ (.int .i64 se)) := ⟨_, rfl⟩
      have hS5 : DBox gp i es cr co sa na da nc rk sr nr dr fr se W5 := by rw [hW5]; exact ((((((((((((((hS4.other (by omega)).other (by omega)).other (by omega)).other (by omega)).other (by omega)).other (by omega)).other (by omega)).other (by omega)).other (by omega)).other (by omega)).other (by omega)).other (by omega)).other (by omega)).other (by omega))
      have HB5 : Hid (Below w.heap.size w W5) := by rw [hW5]; exact ((((((((((((((HB4.out.setCell (by simp <;> omega) _).setCell (by simp <;> omega) _).setCell (by simp <;> omega) _).setCell (by simp <;> omega) _).setCell (by simp <;> omega) _).setCell (by simp <;> omega) _).setCell (by simp <;> omega) _).setCell (by simp <;> omega) _).setCell (by simp <;> omega) _).setCell (by simp <;> omega) _).setCell (by simp <;> omega) _).setCell (by simp <;> omega) _).setCell (by simp <;> omega) _).setCell (by simp <;> omega) _)
      have HC5 : Hid (DBox gb i es cr co sa na da nc rk sr nr dr fr se W5) := by rw [hW5]; exact HC4.out.set i es cr co sa na da nc rk sr nr dr fr se
      have HA5 : Hid (DBox ga i es cr co sa na da nc rk sr nr dr fr se W5) := by rw [hW5]; exact ((((((((((((((HA4.out.other (by omega)).other (by omega)).other (by omega)).other (by omega)).other (by omega)).other (by omega)).other (by omega)).other (by omega)).other (by omega)).other (by omega)).other (by omega)).other (by omega)).other (by omega)).other (by omega))
      rw [← hW5]
      clear hW5 hS4 HB4 HA4 HC4
      refine hK.out _ _ hS5 (fun _ => ?_)
      clear hK K
      refine wpAnyH_done (by kernel_rfl) ?_ _
      (try go_wp2_with fail)
      go_meet
      exact ⟨ga, gb, rfl, rfl, by omega, hpga, hpgb, hS5, HA5.out, HC5.out, HB5.out⟩
    · obtain ⟨gb, hg⟩ : ∃ g, g = W1.heap.size := ⟨_, rfl⟩
      have hpgb : gp < gb ∧ w.heap.size ≤ gb := by rw [hg]; exact ⟨hS1.lt, HB1.out.size⟩
      go_simp
      obtain ⟨W2, hW2⟩ : ∃ W, W = W1.alloc (.cells #[.string ⟨#[]⟩, .int .i64 0, .int .i64 0, .string ⟨#[]⟩, .bool false, .string ⟨#[]⟩, .string ⟨#[]⟩, .int .i64 0, .int .i64 0, .bool false, .string ⟨#[]⟩, .string ⟨#[]⟩, .int .i64 0, .int .i64 0] 28) := ⟨_, rfl⟩
      have hb : Below W1.heap.size W1 W2 := by rw [hW2]; exact bel_alloc _ _
      have HC2 : Hid (DBox gb ⟨#[]⟩ 0 0 ⟨#[]⟩ false ⟨#[]⟩ ⟨#[]⟩ 0 0 false ⟨#[]⟩ ⟨#[]⟩ 0 0 W2) := by rw [hW2, hg]; exact blk_new _ _
      have hS2 := hS1.next hb
      have HB2 : Hid (Below w.heap.size w W2) := HB1.out.trans (hb.mono HB1.out.size)
      clear hb hS1 HB1
      rw [← hW2]
      (try rw [← hg])
      clear hW2 hg
      refine hK.out _ _ hS2 (fun _ => ?_)
      clear hK K
      refine wpAnyH_ready (rs := [2]) (by kernel_rfl) (by simp) ?_
      refine AllReadyH.cons rfl (fun K hK => ?_) AllReadyH.nil
      obtain ⟨ga, hg⟩ : ∃ g, g = W2.heap.size := ⟨_, rfl⟩
      have hpga : gp < ga ∧ w.heap.size ≤ ga := by rw [hg]; exact ⟨hS2.lt, HB2.out.size⟩
      have hab : gb < ga := by rw [hg]; exact HC2.out.lt
      go_simp
      obtain ⟨W3, hW3⟩ : ∃ W, W = W2.alloc (.cells #[.string ⟨#[]⟩, .int .i64 0, .int .i64 0, .string ⟨#[]⟩, .bool false, .string ⟨#[]⟩, .string ⟨#[]⟩, .int .i64 0, .int .i64 0, .bool false, .string ⟨#[]⟩, .string ⟨#[]⟩, .int .i64 0, .int .i64 0] 28) := ⟨_, rfl⟩
      have hb : Below W2.heap.size W2 W3 := by rw [hW3]; exact bel_alloc _ _
      have HA3 : Hid (DBox ga ⟨#[]⟩ 0 0 ⟨#[]⟩ false ⟨#[]⟩ ⟨#[]⟩ 0 0 false ⟨#[]⟩ ⟨#[]⟩ 0 0 W3) := by rw [hW3, hg]; exact blk_new _ _
      have hS3 := hS2.next hb
      have HB3 : Hid (Below w.heap.size w W3) := HB2.out.trans (hb.mono HB2.out.size)
      have HC3 := Lib.hid (HC2.out.next hb)
      clear hb hS2 HB2 HC2
      rw [← hW3]
      (try rw [← hg])
      clear hW3 hg
      refine hK.out _ _ hS3 (fun _ => ?_)
      clear hK K
      refine wpAnyH_ready (rs := [4]) (by kernel_rfl) (by simp) ?_
      refine AllReadyH.cons rfl (fun K hK => ?_) AllReadyH.nil
      obtain ⟨f0, f1, f2, f3, f4, f5, f6, f7, f8, f9, f10, f11, f12, f13, fz⟩ := HA3.out.free
      obtain ⟨c0, c1, c2, c3, c4, c5, c6, c7, c8, c9, c10, c11, c12, c13⟩ := HA3.out.cells
      go_simp
      clear f0 f1 f2 f3 f4 f5 f6 f7 f8 f9 f10 f11 f12 f13 fz
      clear c0 c1 c2 c3 c4 c5 c6 c7 c8 c9 c10 c11 c12 c13
      obtain ⟨W4, hW4⟩ : ∃ W, W = ((((((((((((((W3.setCell ⟨ga, 0, none⟩ (.string i)).setCell ⟨ga, 1, none⟩ (.int .i64 es)).setCell ⟨ga, 2, none⟩ (.int .i64 cr)).setCell ⟨ga, 3, none⟩ (.string co)).setCell ⟨ga, 4, none⟩ (.bool sa)).setCell ⟨ga, 5, none⟩ (.string na)).setCell ⟨ga, 6, none⟩ (.string da)).setCell ⟨ga, 7, none⟩ (.int .i64 nc)).setCell ⟨ga, 8, none⟩ (.int .i64 rk)).setCell ⟨ga, 9, none⟩ (.bool sr)).setCell ⟨ga, 10, none⟩ (.string nr)).setCell ⟨ga, 11, none⟩ (.string dr)).setCell ⟨ga, 12, none⟩ (.int .i64 fr)).setCell ⟨ga, 13, none⟩ (.int .i64 se)) := ⟨_, rfl⟩
      have hS4 : DBox gp i es cr co sa na da nc rk sr nr dr fr se W4 := by rw [hW4]; exact ((((((((((((((hS3.other (by omega)).other (by omega)).other (by omega)).other (by omega)).other (by omega)).other (by omega)).other (by omega)).other (by omega)).other (by omega)).other (by omega)).other (by omega)).other (by omega)).other (by omega)).other (by omega))
      have HB4 : Hid (Below w.heap.size w W4) := by rw [hW4]; exact ((((((((((((((HB3.out.setCell (by simp <;> omega) _).setCell (by simp <;> omega) _).setCell (by simp <;> omega) _).setCell (by simp <;> omega) _).setCell (by simp <;> omega) _).setCell (by simp <;> omega) _).setCell (by simp <;> omega) _).setCell (by simp <;> omega) _).setCell (by simp <;> omega) _).setCell (by simp <;> omega) _).setCell (by simp <;> omega) _).setCell (by simp <;> omega) _).setCell (by simp <;> omega) _).setCell (by simp <;> omega) _)
      have HA4 : Hid (DBox ga i es cr co sa na da nc rk sr nr dr fr se W4) := by rw [hW4]; exact HA3.out.set i es cr co sa na da nc rk sr nr dr fr se
      have HC4 : Hid (DBox gb ⟨#[]⟩ 0 0 ⟨#[]⟩ false ⟨#[]⟩ ⟨#[]⟩ 0 0 false ⟨#[]⟩ ⟨#[]⟩ 0 0 W4) := by rw [hW4]; exact ((((((((((((((HC3.out.other (by omega)).other (by omega)).other (by omega)).other (by omega)).other (by omega)).other (by omega)).other (by omega)).other (by omega)).other (by omega)).other (by omega)).other (by omega)).other (by omega)).other (by omega)).other (by omega))
      rw [← hW4]
      clear hW4 hS3 HB3 HA3 HC3
      refine hK.out _ _ hS4 (fun _ => ?_)
      clear hK K
      refine wpAnyH_ready (rs := [5]) (by kernel_rfl) (by simp) ?_
      refine AllReadyH.cons rfl (fun K hK => ?_) AllReadyH.nil
      obtain ⟨f0, f1, f2, f3, f4, f5, f6, f7, f8, f9, f10, f11, f12, f13, fz⟩ := HC4.out.free
      obtain ⟨c0, c1, c2, c3, c4, c5, c6, c7, c8, c9, c10, c11, c12, c13⟩ := HC4.out.cells
      go_simp
      clear f0 f1 f2 f3 f4 f5 f6 f7 f8 f9 f10 f11 f12 f13 fz
      clear c0 c1 c2 c3 c4 c5 c6 c7 c8 c9 c10 c11 c12 c13
      obtain ⟨W5, hW5⟩ : ∃ W, W = ((((((((((((((W4.setCell ⟨gb, 0, none⟩ (.string i)).setCell ⟨gb, 1, none⟩ (.int .i64 es)).setCell ⟨gb, 2, none⟩ (.int .i64 cr)).setCell ⟨gb, 3, none⟩ (.string co)).setCell ⟨gb, 4, none⟩ (.bool sa)).setCell ⟨gb, 5, none⟩ (.string na)).setCell ⟨gb, 6, none⟩ (.string da)).setCell ⟨gb, 7, none⟩ (.int .i64 nc)).setCell ⟨gb, 8, none⟩ (.int .i64 rk)).setCell ⟨gb, 9, none⟩ (.bool sr)).setCell ⟨gb, 10, none⟩ (.string nr)).setCell ⟨gb, 11, none⟩ (.string dr)).setCell ⟨gb, 12, none⟩ (.int .i64 fr)).setCell ⟨gb, 13, none⟩ (.int .i64 se)) := ⟨_, rfl⟩
      have hS5 : DBox gp i es cr co sa na da nc rk sr nr dr fr se W5 := by rw [hW5]; exact ((((((((((((((hS4.other (by omega)).other (by omega)).other (by omega)).other (by omega)).other (by omega)).other (by omega)).other (by omega)).other (by omega)).other (by omega)).other (by omega)).other (by omega)).other (by omega)).other (by omega)).other (by omega))
      have HB5 : Hid (Below w.heap.size w W5) := by rw [hW5]; exact ((((((((((((((HB4.out.setCell (by simp <;> omega) _).setCell (by simp <;> omega) _).setCell (by simp <;> omega) _).setCell (by simp <;> omega) _).setCell (by simp <;> omega) _).setCell (by simp <;> omega) _).setCell (by simp <;> omega) _).setCell (by simp <;> omega) _).setCell (by simp <;> omega) _).setCell (by simp <;> omega) _).setCell (by simp <;> omega) _).setCell (by simp <;> omega) _).setCell (by simp <;> omega) _).setCell (by simp <;> omega) _)
      have HC5 : Hid (DBox gb i es cr co sa na da nc rk sr nr dr fr se W5) := by rw [hW5]; exact HC4.out.set i es cr co sa na da nc rk sr nr dr fr se
      have HA5 : Hid (DBox ga i es cr co sa na da nc rk sr nr dr fr se W5) := by rw [hW5]; exact ((((((((((((((HA4.out.other (by omega)).other (by omega)).other (by omega)).other (by omega)).other (by omega)).other (by omega)).other (by omega)).other (by omega)).other (by omega)).other (by omega)).other (by omega)).other (by omega)).other (by omega)).other (by omega))
      rw [← hW5]
      clear hW5 hS4 HB4 HA4 HC4
      refine hK.out _ _ hS5 (fun _ => ?_)
      clear hK K
      refine wpAnyH_done (by kernel_rfl) ?_ _
      (try go_wp2_with fail)
      go_meet
      exact ⟨ga, gb, rfl, rfl, by omega, hpga, hpgb, hS5, HA5.out, HC5.out, HB5.out⟩
  case rest =>
    clear HP2 HB2
    obtain ⟨ga, gb, rfl, rfl, hab, hpga, hpgb, hP, hA, hC, hB⟩ := hcut
    rename World => wc
    go_upto_region 3 with fail
    obtain ⟨W1, hW1⟩ : ∃ W, W = wc.drew := ⟨_, rfl⟩
    have hS1 : DBox gp i es cr co sa na da nc rk sr nr dr fr se W1 := by rw [hW1]; exact hP
    have HA1 : Hid (DBox ga i es cr co sa na da nc rk sr nr dr fr se W1) := by rw [hW1]; exact hA
    have HC1 : Hid (DBox gb i es cr co sa na da nc rk sr nr dr fr se W1) := by rw [hW1]; exact hC
    have HB1 : Hid (Below w.heap.size w W1) := by rw [hW1]; exact hB.drew
    refine wp_region_held_drew (S := DBox gp i es cr co sa na da nc rk sr nr dr fr se) (by kernel_rfl) (by rw [← hW1]; exact hS1) ?_
    rw [← hW1]
    intro _
    clear hW1 hP hA hC hB
    refine wpAnyH_take (i := 0) rfl (by kernel_rfl) (by kernel_rfl) (by kernel_rfl) (fun _ _ _ h => h) (Or.inl ⟨by kernel_rfl, (by intro w' _; go_simp; with_reducible rfl)⟩) hS1 ?_
    go_simp
    refine wpAnyH_take (i := 1) (v := .agg #[.bool sa, .string na, .string da]) rfl (by kernel_rfl) (by kernel_rfl) (by kernel_rfl) (fun _ _ _ h => h) (Or.inl ⟨by kernel_rfl, (by intro w' hw'; obtain ⟨c0, c1, c2, c3, c4, c5, c6, c7, c8, c9, c10, c11, c12, c13⟩ := hw'.cells; go_simp)⟩) hS1 ?_
    go_simp
    refine wpAnyH_take (i := 2) rfl (by kernel_rfl) (by kernel_rfl) (by kernel_rfl) (fun _ _ _ h => h) (Or.inl ⟨by kernel_rfl, (by intro w' _; go_simp; with_reducible rfl)⟩) hS1 ?_
    go_simp
    refine wpAnyH_take (i := 3) rfl (by kernel_rfl) (by kernel_rfl) (by kernel_rfl) (fun _ _ _ h => h) (Or.inl ⟨by kernel_rfl, (by intro w' _; go_simp; with_reducible rfl)⟩) hS1 ?_
    go_simp
    refine wpAnyH_take (i := 4) rfl (by kernel_rfl) (by kernel_rfl) (by kernel_rfl) (fun _ _ _ h => h) (Or.inl ⟨by kernel_rfl, (by intro w' _; go_simp; with_reducible rfl)⟩) hS1 ?_
    go_simp
    refine wpAnyH_ready (rs := [5]) (by kernel_rfl) (by simp) ?_
    refine AllReadyH.cons rfl (fun K hK => ?_) AllReadyH.nil
    go_simp
    refine (HRT.out _).mono ?_
    rintro e W2 ⟨rfl, hb⟩
    have hS2 := hS1.next hb
    have HB2 : Hid (Below w.heap.size w W2) := HB1.out.trans (hb.mono HB1.out.size)
    have HA2 := Lib.hid (HA1.out.next hb)
    have HC2 := Lib.hid (HC1.out.next hb)
    clear hb hS1 HB1 HA1 HC1
    refine hK.out _ _ hS2 (fun _ => ?_)
    clear hK K
    refine wpAnyH_ready (rs := [6]) (by kernel_rfl) (by simp) ?_
    refine AllReadyH.cons rfl (fun K hK => ?_) AllReadyH.nil
    go_simp
    refine (HML.out _).mono ?_
    rintro e W3 ⟨rfl, hb⟩
    have hS3 := hS2.next hb
    have HB3 : Hid (Below w.heap.size w W3) := HB2.out.trans (hb.mono HB2.out.size)
    have HA3 := Lib.hid (HA2.out.next hb)
    have HC3 := Lib.hid (HC2.out.next hb)
    clear hb hS2 HB2 HA2 HC2
    refine hK.out _ _ hS3 (fun _ => ?_)
    clear hK K
    refine wpAnyH_take (i := 7) rfl (by kernel_rfl) (by kernel_rfl) (by kernel_rfl) (fun _ _ _ h => h) (Or.inl ⟨by kernel_rfl, (by intro w' _; go_simp; with_reducible rfl)⟩) hS3 ?_
    go_simp
    refine wpAnyH_ready (rs := [8]) (by kernel_rfl) (by simp) ?_
    refine AllReadyH.cons rfl (fun K hK => ?_) AllReadyH.nil
    obtain ⟨f0, f1, f2, f3, f4, f5, f6, f7, f8, f9, f10, f11, f12, f13, fz⟩ := HA3.out.free
    obtain ⟨c0, c1, c2, c3, c4, c5, c6, c7, c8, c9, c10, c11, c12, c13⟩ := HA3.out.cells
    go_simp
    clear f0 f1 f2 f3 f4 f5 f6 f7 f8 f9 f10 f11 f12 f13 fz
    clear c0 c1 c2 c3 c4 c5 c6 c7 c8 c9 c10 c11 c12 c13
    obtain ⟨wz, hwz⟩ : ∃ W, W = ((W3.setCell ⟨ga, 4, none⟩ (.bool s1)).setCell ⟨ga, 5, none⟩ (.string n1)).setCell ⟨ga, 6, none⟩ (.string d1) := ⟨_, rfl⟩
    have hSz : DBox gp i es cr co sa na da nc rk sr nr dr fr se wz := by rw [hwz]; exact (((hS3.other (by omega)).other (by omega)).other (by omega))
    have HBz : Hid (Below w.heap.size w wz) := by rw [hwz]; exact (((HB3.out.setCell (by simp <;> omega) _).setCell (by simp <;> omega) _).setCell (by simp <;> omega) _)
    have HCz : Hid (DBox gb i es cr co sa na da nc rk sr nr dr fr se wz) := by rw [hwz]; exact (((HC3.out.other (by omega)).other (by omega)).other (by omega))
    have HAz : Hid (DBox ga i es cr co s1 n1 d1 nc rk sr nr dr fr se wz) := by rw [hwz]; exact dbox_amt HA3.out s1 n1 d1
    rw [← hwz]
    clear hwz hS3 HB3 HA3 HC3
    refine hK.out _ _ hSz (fun _ => ?_)
    clear hK K
    refine wpAnyH_done (by kernel_rfl) ?_ _
    have HPz : Hid (DBox gp i es cr co sa na da nc rk sr nr dr fr se wz) := hSz
    clear hSz
    obtain ⟨p0, p1, p2, p3, p4, p5, p6, p7, p8, p9, p10, p11, p12, p13⟩ := HPz.out.cells
    obtain ⟨q0, q1, q2, q3, q4, q5, q6, q7, q8, q9, q10, q11, q12, q13⟩ := HAz.out.cells
    go_wp2_with fail
    clear p0 p1 p2 p3 p4 p5 p6 p7 p8 p9 p10 p11 p12 p13 q0 q1 q2 q3 q4 q5 q6 q7 q8 q9 q10 q11 q12 q13
    refine (HSB.out _).mono ?_
    rintro e w3 ⟨rfl, hb⟩
    have HP3 := Lib.hid (HPz.out.next hb)
    have HA3 := Lib.hid (HAz.out.next hb)
    have HC3 := Lib.hid (HCz.out.next hb)
    have HB3 : Hid (Below w.heap.size w w3) := HBz.out.trans (hb.mono HBz.out.size)
    clear hb HPz HAz HCz HBz
    obtain ⟨q0, q1, q2, q3, q4, q5, q6, q7, q8, q9, q10, q11, q12, q13⟩ := HC3.out.cells
    obtain ⟨f0, f1, f2, f3, f4, f5, f6, f7, f8, f9, f10, f11, f12, f13, fz⟩ := HC3.out.free
    go_wp2_with fail
    clear q0 q1 q2 q3 q4 q5 q6 q7 q8 q9 q10 q11 q12 q13
    clear f0 f1 f2 f3 f4 f5 f6 f7 f8 f9 f10 f11 f12 f13 fz
    obtain ⟨w4, hw4⟩ : ∃ W, W = ((w3.setCell ⟨gb, 4, none⟩ (.bool s2)).setCell ⟨gb, 5, none⟩ (.string n2)).setCell ⟨gb, 6, none⟩ (.string d2) := ⟨_, rfl⟩
    have HP4 : Hid (DBox gp i es cr co sa na da nc rk sr nr dr fr se w4) := by rw [hw4]; exact (((HP3.out.other (by omega)).other (by omega)).other (by omega))
    have HA4 : Hid (DBox ga i es cr co s1 n1 d1 nc rk sr nr dr fr se w4) := by rw [hw4]; exact (((HA3.out.other (by omega)).other (by omega)).other (by omega))
    have HC4 : Hid (DBox gb i es cr co s2 n2 d2 nc rk sr nr dr fr se w4) := by rw [hw4]; exact dbox_amt HC3.out s2 n2 d2
    have HB4 : Hid (Below w.heap.size w w4) := by rw [hw4]; exact (((HB3.out.setCell (by simp <;> omega) _).setCell (by simp <;> omega) _).setCell (by simp <;> omega) _)
    rw [← hw4]
    clear hw4 HP3 HA3 HC3 HB3
    refine (HQF.out _ HB4.out).mono ?_
    rintro e w5 ⟨A', c', qs, rfl, hqk, hqr, hb⟩
    have HP5 := Lib.hid (HP4.out.next hb)
    have HA5 := Lib.hid (HA4.out.next hb)
    have HC5 := Lib.hid (HC4.out.next hb)
    have HB5 : Hid (Below w.heap.size w w5) := HB4.out.trans (hb.mono HB4.out.size)
    clear hb HP4 HA4 HC4 HB4 HQF
    have HFS := Lib.hid (factD_sz HOK.out hqk (cut := (cc : Int)) (by omega))
    have HV0' := fun W (hw : Below w5.heap.size w5 W) => value_calls ⟨i, es, cr, co, amt, nc, rk, rate, fr, se⟩ 8 A' qs.length c' qs cc W HOK.out (by decide) rfl (hqr.next hw) hqk (by omega)
    have HV1' := fun W (hw : Below w5.heap.size w5 W) => value_calls (Dc.setA ⟨i, es, cr, co, amt, nc, rk, rate, fr, se⟩ xa) 16 A' qs.length c' qs cc W (HOK.out.setA HXA.out.1 HXA.out.2) (by decide) rfl (hqr.next hw) hqk (by omega)
    have HV2' := fun W (hw : Below w5.heap.size w5 W) => value_calls (Dc.setA ⟨i, es, cr, co, amt, nc, rk, rate, fr, se⟩ xb) 25 A' qs.length c' qs cc W (HOK.out.setA HXB.out.1 HXB.out.2) (by decide) rfl (hqr.next hw) hqk (by omega)
    rw [factD_setA] at HV1' HV2'
    obtain ⟨⟨F, er⟩, hFe⟩ : ∃ z, z = factD ⟨i, es, cr, co, amt, nc, rk, rate, fr, se⟩ qs (cc : Int) := ⟨_, rfl⟩
    have HFS2 := HFS.out
    rw [← hFe] at HV0' HV1' HV2' HFS2
    unfold dcV at HV0' HV1' HV2'
    dsimp only [Dc.setA] at HV0' HV1' HV2' HFS2
    clear hFe HFS hqk
    have HAD' := fun W => pAddQ_calls (xa * F) (xb * F) 47 56 W (HXA.out.2.mul HFS2) (HXB.out.2.mul HFS2) (by decide) (by decide) (by decide)
    rw [show xa * F + xb * F = amt * F by rw [← HXS.out]; grind] at HAD'
    obtain ⟨su, nu, du, hsu⟩ : ∃ a b c, ratV (amt * F) = .agg #[.bool a, .string b, .string c] := ⟨_, _, _, rfl⟩
    obtain ⟨sv, nv, dv, hsv⟩ : ∃ a b c, ratV (xa * F) = .agg #[.bool a, .string b, .string c] := ⟨_, _, _, rfl⟩
    obtain ⟨sw, nw, dw, hsw⟩ : ∃ a b c, ratV (xb * F) = .agg #[.bool a, .string b, .string c] := ⟨_, _, _, rfl⟩
    rw [hsu] at HV0' HAD'
    rw [hsv] at HV1' HAD'
    rw [hsw] at HV2' HAD'
    rw [hsr, hnr, hdr] at HV0' HV1' HV2'
    rw [hsa, hna, hda] at HV0'
    rw [(ratV_eq HX1.out).1, (ratV_eq HX1.out).2.1, (ratV_eq HX1.out).2.2] at HV1'
    rw [(ratV_eq HX2.out).1, (ratV_eq HX2.out).2.1, (ratV_eq HX2.out).2.2] at HV2'
    have HV0 := Lib.hid HV0'
    have HV1 := Lib.hid HV1'
    have HV2 := Lib.hid HV2'
    have HAD := Lib.hid HAD'
    clear HV0' HV1' HV2' HAD' HFS2 hsu hsv hsw hqr
    have HO5 : Hid (Below w5.heap.size w5 w5) := Below.refl _ _
    obtain ⟨p0, p1, p2, p3, p4, p5, p6, p7, p8, p9, p10, p11, p12, p13⟩ := HP5.out.cells
    go_wp2_with fail
    clear p0 p1 p2 p3 p4 p5 p6 p7 p8 p9 p10 p11 p12 p13
    refine (HV0.out _ HO5.out).mono ?_
    rintro e w6 ⟨rfl, hb⟩
    have HP6 := Lib.hid (HP5.out.next hb)
    have HA6 := Lib.hid (HA5.out.next hb)
    have HC6 := Lib.hid (HC5.out.next hb)
    have HB6 : Hid (Below w.heap.size w w6) := HB5.out.trans (hb.mono HB5.out.size)
    have HO6 : Hid (Below w5.heap.size w5 w6) := hb
    clear hb HP5 HA5 HC5 HB5 
    obtain ⟨p0, p1, p2, p3, p4, p5, p6, p7, p8, p9, p10, p11, p12, p13⟩ := (HA6.out.next (bel_alloc w6 (.cells #[.bool su, .string nu, .string du] 26))).cells
    go_wp2_with fail
    clear p0 p1 p2 p3 p4 p5 p6 p7 p8 p9 p10 p11 p12 p13
    obtain ⟨g13, hg13⟩ : ∃ g, g = w6.heap.size := ⟨_, rfl⟩
    obtain ⟨w7, hw7⟩ : ∃ W, W = w6.alloc (.cells #[.bool su, .string nu, .string du] 26) := ⟨_, rfl⟩
    have HP7 : Hid (DBox gp i es cr co sa na da nc rk sr nr dr fr se w7) := by rw [hw7]; exact HP6.out.next (bel_alloc _ _)
    have HA7 : Hid (DBox ga i es cr co s1 n1 d1 nc rk sr nr dr fr se w7) := by rw [hw7]; exact HA6.out.next (bel_alloc _ _)
    have HC7 : Hid (DBox gb i es cr co s2 n2 d2 nc rk sr nr dr fr se w7) := by rw [hw7]; exact HC6.out.next (bel_alloc _ _)
    have HB7 : Hid (Below w.heap.size w w7) := by rw [hw7]; exact HB6.out.alloc HB6.out.size _
    have HO7 : Hid (Below w5.heap.size w5 w7) := by rw [hw7]; exact HO6.out.alloc HO6.out.size _
    have HU7 : Hid (RB g13 su nu du w7) := by rw [hw7, hg13]; exact blk_new _ _
    rw [← hw7, ← hg13]
    clear hw7 hg13 HP6 HA6 HC6 HB6 HO6 
    refine (HV1.out _ HO7.out).mono ?_
    rintro e w8 ⟨rfl, hb⟩
    have HP8 := Lib.hid (HP7.out.next hb)
    have HA8 := Lib.hid (HA7.out.next hb)
    have HC8 := Lib.hid (HC7.out.next hb)
    have HB8 : Hid (Below w.heap.size w w8) := HB7.out.trans (hb.mono HB7.out.size)
    have HO8 : Hid (Below w5.heap.size w5 w8) := HO7.out.trans (hb.mono HO7.out.size)
    have HU8 := Lib.hid (HU7.out.next hb)
    clear hb HP7 HA7 HC7 HB7 HO7 HU7
    obtain ⟨p0, p1, p2, p3, p4, p5, p6, p7, p8, p9, p10, p11, p12, p13⟩ := (HC8.out.next (bel_alloc w8 (.cells #[.bool sv, .string nv, .string dv] 26))).cells
    go_wp2_with fail
    clear p0 p1 p2 p3 p4 p5 p6 p7 p8 p9 p10 p11 p12 p13
    obtain ⟨g15, hg15⟩ : ∃ g, g = w8.heap.size := ⟨_, rfl⟩
    obtain ⟨w9, hw9⟩ : ∃ W, W = w8.alloc (.cells #[.bool sv, .string nv, .string dv] 26) := ⟨_, rfl⟩
    have HP9 : Hid (DBox gp i es cr co sa na da nc rk sr nr dr fr se w9) := by rw [hw9]; exact HP8.out.next (bel_alloc _ _)
    have HA9 : Hid (DBox ga i es cr co s1 n1 d1 nc rk sr nr dr fr se w9) := by rw [hw9]; exact HA8.out.next (bel_alloc _ _)
    have HC9 : Hid (DBox gb i es cr co s2 n2 d2 nc rk sr nr dr fr se w9) := by rw [hw9]; exact HC8.out.next (bel_alloc _ _)
    have HB9 : Hid (Below w.heap.size w w9) := by rw [hw9]; exact HB8.out.alloc HB8.out.size _
    have HO9 : Hid (Below w5.heap.size w5 w9) := by rw [hw9]; exact HO8.out.alloc HO8.out.size _
    have HU9 : Hid (RB g13 su nu du w9) := by rw [hw9]; exact HU8.out.next (bel_alloc _ _)
    have HW59 : Hid (RB g15 sv nv dv w9) := by rw [hw9, hg15]; exact blk_new _ _
    rw [← hw9, ← hg15]
    clear hw9 hg15 HP8 HA8 HC8 HB8 HO8 HU8
    refine (HV2.out _ HO9.out).mono ?_
    rintro e w10 ⟨rfl, hb⟩
    have HP10 := Lib.hid (HP9.out.next hb)
    have HA10 := Lib.hid (HA9.out.next hb)
    have HC10 := Lib.hid (HC9.out.next hb)
    have HB10 : Hid (Below w.heap.size w w10) := HB9.out.trans (hb.mono HB9.out.size)
    have HO10 : Hid (Below w5.heap.size w5 w10) := HO9.out.trans (hb.mono HO9.out.size)
    have HU10 := Lib.hid (HU9.out.next hb)
    have HW510 := Lib.hid (HW59.out.next hb)
    clear hb HP9 HA9 HC9 HB9 HO9 HU9 HW59
    go_upto_region 9 with fail
    obtain ⟨g17, hg17⟩ : ∃ g, g = w10.heap.size := ⟨_, rfl⟩
    obtain ⟨w11, hw11⟩ : ∃ W, W = w10.alloc (.cells #[.bool sw, .string nw, .string dw] 26) := ⟨_, rfl⟩
    have HP11 : Hid (DBox gp i es cr co sa na da nc rk sr nr dr fr se w11) := by rw [hw11]; exact HP10.out.next (bel_alloc _ _)
    have HA11 : Hid (DBox ga i es cr co s1 n1 d1 nc rk sr nr dr fr se w11) := by rw [hw11]; exact HA10.out.next (bel_alloc _ _)
    have HC11 : Hid (DBox gb i es cr co s2 n2 d2 nc rk sr nr dr fr se w11) := by rw [hw11]; exact HC10.out.next (bel_alloc _ _)
    have HB11 : Hid (Below w.heap.size w w11) := by rw [hw11]; exact HB10.out.alloc HB10.out.size _
    have HO11 : Hid (Below w5.heap.size w5 w11) := by rw [hw11]; exact HO10.out.alloc HO10.out.size _
    have HU11 : Hid (RB g13 su nu du w11) := by rw [hw11]; exact HU10.out.next (bel_alloc _ _)
    have HW511 : Hid (RB g15 sv nv dv w11) := by rw [hw11]; exact HW510.out.next (bel_alloc _ _)
    have HW711 : Hid (RB g17 sw nw dw w11) := by rw [hw11, hg17]; exact blk_new _ _
    rw [← hw11, ← hg17]
    clear hw11 hg17 HP10 HA10 HC10 HB10 HO10 HU10 HW510
    obtain ⟨W1, hW1⟩ : ∃ W, W = w11.drew := ⟨_, rfl⟩
    have hS1 : S3 g13 su nu du g15 sv nv dv g17 sw nw dw W1 := by rw [hW1]; exact ⟨HU11.out, HW511.out, HW711.out⟩
    have HB1 : Hid (Below w.heap.size w W1) := by rw [hW1]; exact HB11.out.drew
    refine wp_region_held_drew (S := S3 g13 su nu du g15 sv nv dv g17 sw nw dw) (by kernel_rfl) (by rw [← hW1]; exact hS1) ?_
    rw [← hW1]
    intro _
    clear hW1 HP11 HA11 HC11 HB11 HO11 HU11 HW511 HW711
    refine wpAnyH_ready (rs := [0]) (by kernel_rfl) (by simp) ?_
    refine AllReadyH.cons rfl (fun K hK => ?_) AllReadyH.nil
    go_simp
    refine (HAW.out _).mono ?_
    rintro e W2 ⟨rfl, hb⟩
    have hS2 := hS1.next hb
    have HB2 : Hid (Below w.heap.size w W2) := HB1.out.trans (hb.mono HB1.out.size)
    clear hb hS1 HB1
    refine hK.out _ _ hS2 (fun _ => ?_)
    clear hK K
    refine wpAnyH_take (i := 1) rfl (by kernel_rfl) (by kernel_rfl) (by kernel_rfl) (fun _ _ _ h => h) (Or.inl ⟨by kernel_rfl, (by intro w' _; go_simp; with_reducible rfl)⟩) hS2 ?_
    go_simp
    refine wpAnyH_take (i := 2) rfl (by kernel_rfl) (by kernel_rfl) (by kernel_rfl) (fun _ _ _ h => h) (Or.inl ⟨by kernel_rfl, (by intro w' _; go_simp; with_reducible rfl)⟩) hS2 ?_
    go_simp
    refine wpAnyH_take (i := 3) rfl (by kernel_rfl) (by kernel_rfl) (by kernel_rfl) (fun _ _ _ h => h) (Or.inl ⟨by kernel_rfl, (by intro w' _; go_simp; with_reducible rfl)⟩) hS2 ?_
    go_simp
    refine wpAnyH_take (i := 4) rfl (by kernel_rfl) (by kernel_rfl) (by kernel_rfl) (fun _ _ _ h => h) (Or.inl ⟨by kernel_rfl, (by intro w' _; go_simp; with_reducible rfl)⟩) hS2 ?_
    go_simp
    refine wpAnyH_take (i := 5) rfl (by kernel_rfl) (by kernel_rfl) (by kernel_rfl) (fun _ _ _ h => h) (Or.inl ⟨by kernel_rfl, (by intro w' _; go_simp; with_reducible rfl)⟩) hS2 ?_
    go_simp
    refine wpAnyH_take (i := 6) rfl (by kernel_rfl) (by kernel_rfl) (by kernel_rfl) (fun _ _ _ h => h) (Or.inl ⟨by kernel_rfl, (by intro w' _; go_simp; with_reducible rfl)⟩) hS2 ?_
    go_simp
    refine wpAnyH_take (i := 7) rfl (by kernel_rfl) (by kernel_rfl) (by kernel_rfl) (fun _ _ _ h => h) (Or.inl ⟨by kernel_rfl, (by intro w' _; go_simp; with_reducible rfl)⟩) hS2 ?_
    go_simp
    refine wpAnyH_take (i := 8) rfl (by kernel_rfl) (by kernel_rfl) (by kernel_rfl) (fun _ _ _ h => h) (Or.inl ⟨by kernel_rfl, (by intro w' _; go_simp; with_reducible rfl)⟩) hS2 ?_
    go_simp
    refine wpAnyH_take (i := 9) rfl (by kernel_rfl) (by kernel_rfl) (by kernel_rfl) (fun _ _ _ h => h) (Or.inl ⟨by kernel_rfl, (by intro w' _; go_simp; with_reducible rfl)⟩) hS2 ?_
    go_simp
    refine wpAnyH_take (i := 10) rfl (by kernel_rfl) (by kernel_rfl) (by kernel_rfl) (fun _ _ _ h => h) (Or.inl ⟨by kernel_rfl, (by intro w' _; go_simp; with_reducible rfl)⟩) hS2 ?_
    go_simp
    refine wpAnyH_take (i := 11) rfl (by kernel_rfl) (by kernel_rfl) (by kernel_rfl) (fun _ _ _ h => h) (Or.inl ⟨by kernel_rfl, (by intro w' _; go_simp; with_reducible rfl)⟩) hS2 ?_
    go_simp
    refine wpAnyH_take (i := 12) (v := .agg #[.bool sv, .string nv, .string dv]) rfl (by kernel_rfl) (by kernel_rfl) (by kernel_rfl) (fun _ _ _ h => h) (Or.inl ⟨by kernel_rfl, (by intro w' hw'; obtain ⟨k0, k1, k2, k3, k4, k5, k6⟩ := three_of hw'.b; go_simp)⟩) hS2 ?_
    go_simp
    refine wpAnyH_take (i := 13) (v := .agg #[.bool sw, .string nw, .string dw]) rfl (by kernel_rfl) (by kernel_rfl) (by kernel_rfl) (fun _ _ _ h => h) (Or.inl ⟨by kernel_rfl, (by intro w' hw'; obtain ⟨k0, k1, k2, k3, k4, k5, k6⟩ := three_of hw'.c; go_simp)⟩) hS2 ?_
    go_simp
    refine wpAnyH_take (i := 15) (v := .agg #[.bool su, .string nu, .string du]) rfl (by kernel_rfl) (by kernel_rfl) (by kernel_rfl) (fun _ _ _ h => h) (Or.inl ⟨by kernel_rfl, (by intro w' hw'; obtain ⟨k0, k1, k2, k3, k4, k5, k6⟩ := three_of hw'.a; go_simp)⟩) hS2 ?_
    go_simp
    refine wpAnyH_ready (rs := [14]) (by kernel_rfl) (by simp) ?_
    refine AllReadyH.cons rfl (fun K hK => ?_) AllReadyH.nil
    go_simp
    refine (HAD.out _).mono ?_
    rintro e W3 ⟨rfl, hb⟩
    have hS3 := hS2.next hb
    have HB3 : Hid (Below w.heap.size w W3) := HB2.out.trans (hb.mono HB2.out.size)
    clear hb hS2 HB2
    refine hK.out _ _ hS3 (fun _ => ?_)
    clear hK K
    refine wpAnyH_take (i := 16) rfl (by kernel_rfl) (by kernel_rfl) (by kernel_rfl) (fun _ _ _ h => h) (Or.inl ⟨by kernel_rfl, (by intro w' _; go_simp; with_reducible rfl)⟩) hS3 ?_
    go_simp
    refine wpAnyH_take (i := 17) rfl (by kernel_rfl) (by kernel_rfl) (by kernel_rfl) (fun _ _ _ h => h) (Or.inl ⟨by kernel_rfl, (by intro w' _; go_simp; with_reducible rfl)⟩) hS3 ?_
    go_simp
    refine wpAnyH_take (i := 18) rfl (by kernel_rfl) (by kernel_rfl) (by kernel_rfl) (fun _ _ _ h => h) (Or.inl ⟨by kernel_rfl, (by intro w' _; go_simp; with_reducible rfl)⟩) hS3 ?_
    go_simp
    refine wpAnyH_done (by kernel_rfl) ?_ _
    go_wp2_with fail
    go_ret
    exact ⟨rfl, HB3.out⟩

end Go.Proofs.YtjlicnhkemfmiaaDoor

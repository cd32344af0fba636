/- insolvencylaw0.Proof. -/
import Derived.Test.YtjlicnhkemfmiaaGreatDoorSq
import Derived.Test.YtjlicnhkemfmiaaGreatDoorM23
set_option linter.unusedVariables false
set_option linter.unusedSimpArgs false
set_option maxHeartbeats 8000000
set_option maxRecDepth 100000
namespace Go.Proofs.YtjlicnhkemfmiaaGreatDoor
open Go.RowKit

def DBD (g : Nat) (d : Dc) (W : World) : Prop := DBox g d.id d.est d.cred d.code (rneg d.amt) (rnum d.amt) (rden d.amt) d.inc d.rank (rneg d.rate) (rnum d.rate) (rden d.rate) d.frm d.sec W
/-- behind the first statement -/
def PrfR (x0 x1 x2 x3 x4 x5 : Nat) (w : World) (s3 : Value) (wx : World) : Prop :=
 ∃ (gr : Nat) (d : Dc), s3 = .pointer (some ⟨gr, 0, none⟩) ∧ (d.Ok 8 ∧ d.inc ≤ 49) ∧ d.rate = 0 ∧ d.frm = 0 ∧ DBD gr d wx ∧ XB w.heap.size x0 x1 x2 x3 x4 x5 wx ∧ DBox (w.heap.size + 1) ⟨#[]⟩ 0 0 ⟨#[]⟩ false ⟨#[]⟩ ⟨#[]⟩ 0 0 false ⟨#[]⟩ ⟨#[]⟩ 0 0 wx ∧ Below w.heap.size w wx ∧ w.heap.size + 1 < gr
theorem codes (m : Nat) (hm : m < 4) : ∃ cs : ByteArray, codeOk cs ∧ ∀ W : World, (W.alloc (.cells #[.string ⟨#[69, 85, 82]⟩, .string ⟨#[69, 85, 82]⟩, .string ⟨#[85, 83, 68]⟩, .string ⟨#[71, 66, 80]⟩] 9)).cell? ⟨W.heap.size, m, none⟩ = some (.string cs) := by
 rcases (by omega : m = 0 ∨ m = 1 ∨ m = 2 ∨ m = 3) with rfl | rfl | rfl | rfl
 ·
  exact ⟨⟨#[69, 85, 82]⟩, code_ok 69 85 82 (by decide), fun W => by rw [cell_of_row _ W.heap.size 0 _ _ (0, 0) (blk_new _ _)]; rfl⟩
 ·
  exact ⟨⟨#[69, 85, 82]⟩, code_ok 69 85 82 (by decide), fun W => by rw [cell_of_row _ W.heap.size 1 _ _ (0, 0) (blk_new _ _)]; rfl⟩
 ·
  exact ⟨⟨#[85, 83, 68]⟩, code_ok 85 83 68 (by decide), fun W => by rw [cell_of_row _ W.heap.size 2 _ _ (0, 0) (blk_new _ _)]; rfl⟩
 ·
  exact ⟨⟨#[71, 66, 80]⟩, code_ok 71 66 80 (by decide), fun W => by rw [cell_of_row _ W.heap.size 3 _ _ (0, 0) (blk_new _ _)]; rfl⟩
theorem sx14 {g x0 x1 x2 x3 x4 x5 l m r : Nat} {s : ByteArray} {W : World} (h : SX g x0 x1 x2 x3 x4 x5 l m s W) (h1 : r ≠ g) (h2 : r ≠ l) (v0 v1 v2 v3 v4 v5 v6 v7 v8 v9 v10 v11 v12 v13 : Value) : SX g x0 x1 x2 x3 x4 x5 l m s ((((((((((((((W.setCell ⟨r, 0, none⟩ v0).setCell ⟨r, 1, none⟩ v1).setCell ⟨r, 2, none⟩ v2).setCell ⟨r, 3, none⟩ v3).setCell ⟨r, 4, none⟩ v4).setCell ⟨r, 5, none⟩ v5).setCell ⟨r, 6, none⟩ v6).setCell ⟨r, 7, none⟩ v7).setCell ⟨r, 8, none⟩ v8).setCell ⟨r, 9, none⟩ v9).setCell ⟨r, 10, none⟩ v10).setCell ⟨r, 11, none⟩ v11).setCell ⟨r, 12, none⟩ v12).setCell ⟨r, 13, none⟩ v13) := ((((((((((((((h.set h1 h2).set h1 h2).set h1 h2).set h1 h2).set h1 h2).set h1 h2).set h1 h2).set h1 h2).set h1 h2).set h1 h2).set h1 h2).set h1 h2).set h1 h2).set h1 h2)
theorem db14 {q r : Nat} {i : ByteArray} {es cr : Int} {co : ByteArray} {sa : Bool} {na da : ByteArray} {nc rk : Int} {sr : Bool} {nr dr : ByteArray} {fr se : Int} {W : World} (h : DBox q i es cr co sa na da nc rk sr nr dr fr se W) (hne : r ≠ q) (v0 v1 v2 v3 v4 v5 v6 v7 v8 v9 v10 v11 v12 v13 : Value) : DBox q i es cr co sa na da nc rk sr nr dr fr se ((((((((((((((W.setCell ⟨r, 0, none⟩ v0).setCell ⟨r, 1, none⟩ v1).setCell ⟨r, 2, none⟩ v2).setCell ⟨r, 3, none⟩ v3).setCell ⟨r, 4, none⟩ v4).setCell ⟨r, 5, none⟩ v5).setCell ⟨r, 6, none⟩ v6).setCell ⟨r, 7, none⟩ v7).setCell ⟨r, 8, none⟩ v8).setCell ⟨r, 9, none⟩ v9).setCell ⟨r, 10, none⟩ v10).setCell ⟨r, 11, none⟩ v11).setCell ⟨r, 12, none⟩ v12).setCell ⟨r, 13, none⟩ v13) := ((((((((((((((h.other hne).other hne).other hne).other hne).other hne).other hne).other hne).other hne).other hne).other hne).other hne).other hne).other hne).other hne)
theorem be14 {B r : Nat} {w W : World} (h : Below B w W) (hr : B ≤ r) (v0 v1 v2 v3 v4 v5 v6 v7 v8 v9 v10 v11 v12 v13 : Value) : Below B w ((((((((((((((W.setCell ⟨r, 0, none⟩ v0).setCell ⟨r, 1, none⟩ v1).setCell ⟨r, 2, none⟩ v2).setCell ⟨r, 3, none⟩ v3).setCell ⟨r, 4, none⟩ v4).setCell ⟨r, 5, none⟩ v5).setCell ⟨r, 6, none⟩ v6).setCell ⟨r, 7, none⟩ v7).setCell ⟨r, 8, none⟩ v8).setCell ⟨r, 9, none⟩ v9).setCell ⟨r, 10, none⟩ v10).setCell ⟨r, 11, none⟩ v11).setCell ⟨r, 12, none⟩ v12).setCell ⟨r, 13, none⟩ v13) := ((((((((((((((h.setCell hr _).setCell hr _).setCell hr _).setCell hr _).setCell hr _).setCell hr _).setCell hr _).setCell hr _).setCell hr _).setCell hr _).setCell hr _).setCell hr _).setCell hr _).setCell hr _)
theorem proofI_calls (x0 x1 x2 x3 x4 x5 : Nat) (w : World) (h0 : x0 ≤ 65535) (h1 : x1 ≤ 65535) (h2 : x2 ≤ 65535) (h3 : x3 ≤ 65535) (h4 : x4 ≤ 65535) (h5 : x5 ≤ 65535) :
 Calls Tryz.prog 43 #[.agg #[.int .u16 (x0 : Int), .int .u16 (x1 : Int), .int .u16 (x2 : Int), .int .u16 (x3 : Int), .int .u16 (x4 : Int), .int .u16 (x5 : Int)]] w fun e w' => ∃ d : Dc, (d.Ok 8 ∧ d.inc ≤ 49) ∧ e = .returned (dcV d) ∧ Below w.heap.size w w' := by
 have HNM := Lib.hid (fun W => name_calls x0 W h0)
 have HAM := Lib.hid (fun W => amountN_calls x3 W h3)
 obtain ⟨a1, e1, b1⟩ : ∃ a : Nat, (x1 : Int).tmod 4 = (a : Int) ∧ a < 4 := ⟨x1 % 4, by rw [Int.tmod_eq_emod_of_nonneg (by omega)]; omega, by omega⟩
 obtain ⟨y1, q1, hy1⟩ : ∃ a : Nat, IntKind.u16.wrap ((x1 : Int) / 4) = (a : Int) ∧ a = x1 / 4 := ⟨x1 / 4, by rw [IntWalk.u16_in _ (by omega)]; omega, rfl⟩
 obtain ⟨a2, e2, b2⟩ : ∃ a : Nat, (y1 : Int).tmod 9 = (a : Int) ∧ a < 9 := ⟨y1 % 9, by rw [Int.tmod_eq_emod_of_nonneg (by omega)]; omega, by omega⟩
 obtain ⟨m, e3, b3⟩ : ∃ a : Nat, (x2 : Int).tmod 4 = (a : Int) ∧ a < 4 := ⟨x2 % 4, by rw [Int.tmod_eq_emod_of_nonneg (by omega)]; omega, by omega⟩
 obtain ⟨a4, e4, b4⟩ : ∃ a : Nat, (x4 : Int).tmod 50 = (a : Int) ∧ a < 50 := ⟨x4 % 50, by rw [Int.tmod_eq_emod_of_nonneg (by omega)]; omega, by omega⟩
 obtain ⟨a5, e5, b5⟩ : ∃ a : Nat, (x5 : Int).tmod 5 = (a : Int) ∧ a < 5 := ⟨x5 % 5, by rw [Int.tmod_eq_emod_of_nonneg (by omega)]; omega, by omega⟩
 obtain ⟨y5, q5, hy5⟩ : ∃ a : Nat, IntKind.u16.wrap ((x5 : Int) / 5) = (a : Int) ∧ a = x5 / 5 := ⟨x5 / 5, by rw [IntWalk.u16_in _ (by omega)]; omega, rfl⟩
 obtain ⟨a6, e6, b6⟩ : ∃ a : Nat, (y5 : Int).tmod 4 = (a : Int) ∧ a < 4 := ⟨y5 % 4, by rw [Int.tmod_eq_emod_of_nonneg (by omega)]; omega, by omega⟩
 have v1 : IntKind.i64.wrap (a1 : Int) = (a1 : Int) := IntWalk.i64_in _ (by omega)
 have v2 : IntKind.i64.wrap (a2 : Int) = (a2 : Int) := IntWalk.i64_in _ (by omega)
 have v4 : IntKind.i64.wrap (a4 : Int) = (a4 : Int) := IntWalk.i64_in _ (by omega)
 have v5 : IntKind.i64.wrap (a5 : Int) = (a5 : Int) := IntWalk.i64_in _ (by omega)
 have v6 : IntKind.i64.wrap (a6 : Int) = (a6 : Int) := IntWalk.i64_in _ (by omega)
 have v7 : IntKind.i64.wrap ((a6 : Int) - 1) = (a6 : Int) - 1 := IntWalk.i64_in _ (by omega)
 clear hy1 hy5
 have b3i : (m : Int) < 4 := by omega
 obtain ⟨cs, hco, hcs⟩ := codes m b3
 have HCO := Lib.hid hco
 have HCS := Lib.hid hcs
 clear hco hcs
 go_enter Tryz.func43, Tryz.ntmps43
 go_upto_region 1 with fail
 go_cut [3] from 4 to 39 (fun s3 wx => PrfR x0 x1 x2 x3 x4 x5 w s3 wx)
 case first =>
  obtain ⟨W0, hW0⟩ : ∃ W, W = (w.alloc (.cells #[.int .u16 (x0 : Int), .int .u16 (x1 : Int), .int .u16 (x2 : Int), .int .u16 (x3 : Int), .int .u16 (x4 : Int), .int .u16 (x5 : Int)] 81)).alloc (.cells #[.string ⟨#[]⟩, .int .i64 0, .int .i64 0, .string ⟨#[]⟩, .bool false, .string ⟨#[]⟩, .string ⟨#[]⟩, .int .i64 0, .int .i64 0, .bool false, .string ⟨#[]⟩, .string ⟨#[]⟩, .int .i64 0, .int .i64 0] 63) := ⟨_, rfl⟩
  have hS0 : XB w.heap.size x0 x1 x2 x3 x4 x5 W0 := by rw [hW0]; exact XB.next (blk_new _ _) (bel_alloc _ _)
  have HB0 : Hid (Below w.heap.size w W0) := by rw [hW0]; exact (bel_alloc _ _).alloc (by simp) _
  have HG0 : Hid (DBox (w.heap.size + 1) ⟨#[]⟩ 0 0 ⟨#[]⟩ false ⟨#[]⟩ ⟨#[]⟩ 0 0 false ⟨#[]⟩ ⟨#[]⟩ 0 0 W0) := by
   have := blk_new (w.alloc (.cells #[.int .u16 (x0 : Int), .int .u16 (x1 : Int), .int .u16 (x2 : Int), .int .u16 (x3 : Int), .int .u16 (x4 : Int), .int .u16 (x5 : Int)] 81)) (.cells #[.string ⟨#[]⟩, .int .i64 0, .int .i64 0, .string ⟨#[]⟩, .bool false, .string ⟨#[]⟩, .string ⟨#[]⟩, .int .i64 0, .int .i64 0, .bool false, .string ⟨#[]⟩, .string ⟨#[]⟩, .int .i64 0, .int .i64 0] 63)
   rw [World.size_alloc] at this
   rw [hW0]; exact this
  rw [← hW0]
  clear hW0
  obtain ⟨W1, hW1⟩ : ∃ W, W = W0.drew := ⟨_, rfl⟩
  have hS1 : XB w.heap.size x0 x1 x2 x3 x4 x5 W1 := by rw [hW1]; exact hS0
  have HB1 := bed HB0 hW1
  have HG1 : Hid (DBox (w.heap.size + 1) ⟨#[]⟩ 0 0 ⟨#[]⟩ false ⟨#[]⟩ ⟨#[]⟩ 0 0 false ⟨#[]⟩ ⟨#[]⟩ 0 0 W1) := by rw [hW1]; exact HG0.out
  refine wp_region_held_drew (S := XB w.heap.size x0 x1 x2 x3 x4 x5) (by kernel_rfl) (by rw [← hW1]; exact hS1) ?_
  rw [← hW1]
  intro _
  clear hW1 hS0 HB0 HG0
  refine tka 0 hS1 ?_
  go_simp
  refine tva 1 (.int .u16 (x0 : Int)) rfl (by intro w' hw'; obtain ⟨k0, k1, k2, k3, k4, k5⟩ := XB.cells hw'; go_simp) hS1 ?_
  go_simp
  refine tka 3 hS1 ?_
  go_simp
  refine tva 4 (.int .u16 (x1 : Int)) rfl (by intro w' hw'; obtain ⟨k0, k1, k2, k3, k4, k5⟩ := XB.cells hw'; go_simp) hS1 ?_
  go_simp
  refine tka 5 hS1 ?_
  go_simp
  refine tka 6 hS1 ?_
  go_simp
  refine tka 7 hS1 ?_
  go_simp
  refine tva 8 (.int .u16 (x1 : Int)) rfl (by intro w' hw'; obtain ⟨k0, k1, k2, k3, k4, k5⟩ := XB.cells hw'; go_simp) hS1 ?_
  go_simp
  refine tka 9 hS1 ?_
  go_simp
  refine tka 10 hS1 ?_
  go_simp
  refine tka 11 hS1 ?_
  go_simp
  refine tka 13 hS1 ?_
  go_simp
  refine tva 14 (.int .u16 (x2 : Int)) rfl (by intro w' hw'; obtain ⟨k0, k1, k2, k3, k4, k5⟩ := XB.cells hw'; go_simp) hS1 ?_
  go_simp
  refine tka 15 hS1 ?_
  go_simp
  refine tka 18 hS1 ?_
  go_simp
  refine tva 19 (.int .u16 (x3 : Int)) rfl (by intro w' hw'; obtain ⟨k0, k1, k2, k3, k4, k5⟩ := XB.cells hw'; go_simp) hS1 ?_
  go_simp
  refine tka 21 hS1 ?_
  go_simp
  refine tva 22 (.int .u16 (x4 : Int)) rfl (by intro w' hw'; obtain ⟨k0, k1, k2, k3, k4, k5⟩ := XB.cells hw'; go_simp) hS1 ?_
  go_simp
  refine tka 23 hS1 ?_
  go_simp
  refine tka 24 hS1 ?_
  go_simp
  refine tka 25 hS1 ?_
  go_simp
  refine tva 26 (.int .u16 (x5 : Int)) rfl (by intro w' hw'; obtain ⟨k0, k1, k2, k3, k4, k5⟩ := XB.cells hw'; go_simp) hS1 ?_
  go_simp
  refine tka 27 hS1 ?_
  go_simp
  refine tka 28 hS1 ?_
  go_simp
  refine tka 29 hS1 ?_
  go_simp
  refine tva 30 (.int .u16 (x5 : Int)) rfl (by intro w' hw'; obtain ⟨k0, k1, k2, k3, k4, k5⟩ := XB.cells hw'; go_simp) hS1 ?_
  go_simp
  refine tka 31 hS1 ?_
  go_simp
  refine tka 32 hS1 ?_
  go_simp
  refine tka 33 hS1 ?_
  go_simp
  refine tka 34 hS1 ?_
  go_simp
  refine wpAnyH_ready (rs := [2, 12, 36]) (by as_aux_lemma => kernel_rfl) (by simp) ?_
  refine AllReadyH.cons rfl (fun K hK => ?_) (AllReadyH.cons rfl (fun K hK => ?_) (AllReadyH.cons rfl (fun K hK => ?_) AllReadyH.nil))
  ·
   go_simp
   refine (HNM.out _).mono ?_
   rintro e W2 ⟨nm, rfl, hnm, hb⟩
   have HNO := Lib.hid hnm
   have hS2 := hS1.next hb
   have HB2 := ben HB1 hb
   have HG2 := Lib.hid (HG1.out.next hb)
   clear hb hS1 HB1 HG1
   clear hnm
   refine hK.out _ _ hS2 (fun _ => ?_)
   clear hK K
   refine wpAnyH_ready (rs := [12, 20, 36]) (by as_aux_lemma => kernel_rfl) (by simp) ?_
   refine AllReadyH.cons rfl (fun K hK => ?_) (AllReadyH.cons rfl (fun K hK => ?_) (AllReadyH.cons rfl (fun K hK => ?_) AllReadyH.nil))
   ·
    obtain ⟨gl, hgl⟩ : ∃ g, g = W2.heap.size := ⟨_, rfl⟩
    have hl12 : w.heap.size + 1 < gl := by rw [hgl]; exact HG2.out.lt
    go_simp
    obtain ⟨W3, hW3⟩ : ∃ W, W = W2.alloc (.cells #[.string ⟨#[69, 85, 82]⟩, .string ⟨#[69, 85, 82]⟩, .string ⟨#[85, 83, 68]⟩, .string ⟨#[71, 66, 80]⟩] 9) := ⟨_, rfl⟩
    have hb : Below W2.heap.size W2 W3 := by rw [hW3]; exact bel_alloc _ _
    have HLS : Hid (LS gl m cs W3) := by rw [hW3, hgl]; exact ⟨HCS.out _, by simp⟩
    have hS3 := hS2.next hb
    have HB3 := ben HB2 hb
    have HG3 := Lib.hid (HG2.out.next hb)
    clear hb hS2 HB2 HG2
    rw [← hW3]
    (try rw [← hgl])
    clear hW3 hgl
    refine hK.out _ _ hS3 (fun _ => ?_)
    clear hK K
    have hS3 : SX w.heap.size x0 x1 x2 x3 x4 x5 gl m cs W3 := ⟨hS3, HLS.out⟩
    clear HLS
    refine wpAnyH_more (S' := SX w.heap.size x0 x1 x2 x3 x4 x5 gl m cs) (fun _ h => h.x) _ _ _ _ ?_
    refine tka 16 hS3 ?_
    go_simp
    refine tva 17 (.string cs) rfl (by intro w' hw'; have k0 := hw'.l.1; go_simp) hS3 ?_
    go_simp
    refine wpAnyH_ready (rs := [20, 36]) (by as_aux_lemma => kernel_rfl) (by simp) ?_
    refine AllReadyH.cons rfl (fun K hK => ?_) (AllReadyH.cons rfl (fun K hK => ?_) AllReadyH.nil)
    ·
     go_simp
     refine (HAM.out _).mono ?_
     rintro e W4 ⟨am, rfl, hsz, hb⟩
     have HSZ := Lib.hid hsz
     have hS4 := hS3.next hb
     have HB4 := ben HB3 hb
     have HG4 := Lib.hid (HG3.out.next hb)
     clear hb hS3 HB3 HG3
     obtain ⟨sa, na, da, ham⟩ : ∃ a b c, ratV am = .agg #[.bool a, .string b, .string c] := ⟨_, _, _, rfl⟩
     rw [ham]
     have HAV := Lib.hid ham
     clear hsz ham
     refine hK.out _ _ hS4 (fun _ => ?_)
     clear hK K
     refine tka 35 hS4 ?_
     go_simp
     refine tra 36 (fun K hK => ?_)
     obtain ⟨gr, hgr⟩ : ∃ g, g = W4.heap.size := ⟨_, rfl⟩
     have hr36 : w.heap.size + 1 < gr := by rw [hgr]; exact HG4.out.lt
     have hl36 : gl < gr := by rw [hgr]; exact hS4.l.2
     go_simp
     obtain ⟨W5, hW5⟩ : ∃ W, W = W4.alloc (.cells #[.string ⟨#[]⟩, .int .i64 0, .int .i64 0, .string ⟨#[]⟩, .bool false, .string ⟨#[]⟩, .string ⟨#[]⟩, .int .i64 0, .int .i64 0, .bool false, .string ⟨#[]⟩, .string ⟨#[]⟩, .int .i64 0, .int .i64 0] 63) := ⟨_, rfl⟩
     have hb : Below W4.heap.size W4 W5 := by rw [hW5]; exact bel_alloc _ _
     have HR5 : Hid (DBox gr ⟨#[]⟩ 0 0 ⟨#[]⟩ false ⟨#[]⟩ ⟨#[]⟩ 0 0 false ⟨#[]⟩ ⟨#[]⟩ 0 0 W5) := by rw [hW5, hgr]; exact blk_new _ _
     have hS5 := hS4.next hb
     have HB5 := ben HB4 hb
     have HG5 := Lib.hid (HG4.out.next hb)
     clear hb hS4 HB4 HG4
     rw [← hW5]
     (try rw [← hgr])
     clear hW5 hgr
     refine hK.out _ _ hS5 (fun _ => ?_)
     clear hK K
     refine tra 37 (fun K hK => ?_)
     obtain ⟨f0, f1, f2, f3, f4, f5, f6, f7, f8, f9, f10, f11, f12, f13, fz⟩ := HR5.out.free
     obtain ⟨c0, c1, c2, c3, c4, c5, c6, c7, c8, c9, c10, c11, c12, c13⟩ := HR5.out.cells
     go_simp
     clear f0 f1 f2 f3 f4 f5 f6 f7 f8 f9 f10 f11 f12 f13 fz c0 c1 c2 c3 c4 c5 c6 c7 c8 c9 c10 c11 c12 c13
     obtain ⟨wz, hwz⟩ : ∃ W, W = ((((((((((((((W5.setCell ⟨gr, 0, none⟩ (.string nm)).setCell ⟨gr, 1, none⟩ (.int .i64 (a1 : Int))).setCell ⟨gr, 2, none⟩ (.int .i64 (a2 : Int))).setCell ⟨gr, 3, none⟩ (.string cs)).setCell ⟨gr, 4, none⟩ (.bool sa)).setCell ⟨gr, 5, none⟩ (.string na)).setCell ⟨gr, 6, none⟩ (.string da)).setCell ⟨gr, 7, none⟩ (.int .i64 (a4 : Int))).setCell ⟨gr, 8, none⟩ (.int .i64 (a5 : Int))).setCell ⟨gr, 9, none⟩ (.bool false)).setCell ⟨gr, 10, none⟩ (.string ⟨#[]⟩)).setCell ⟨gr, 11, none⟩ (.string ⟨#[]⟩)).setCell ⟨gr, 12, none⟩ (.int .i64 0)).setCell ⟨gr, 13, none⟩ (.int .i64 ((a6 : Int) - 1))) := ⟨_, rfl⟩
     have hSz : SX w.heap.size x0 x1 x2 x3 x4 x5 gl m cs wz := by rw [hwz]; exact sx14 hS5 (by omega) (by omega) _ _ _ _ _ _ _ _ _ _ _ _ _ _
     have HGz : Hid (DBox (w.heap.size + 1) ⟨#[]⟩ 0 0 ⟨#[]⟩ false ⟨#[]⟩ ⟨#[]⟩ 0 0 false ⟨#[]⟩ ⟨#[]⟩ 0 0 wz) := by rw [hwz]; exact db14 HG5.out (by omega) _ _ _ _ _ _ _ _ _ _ _ _ _ _
     have HBz : Hid (Below w.heap.size w wz) := by rw [hwz]; exact be14 HB5.out (by omega) _ _ _ _ _ _ _ _ _ _ _ _ _ _
     have HRz : Hid (DBox gr nm a1 a2 cs sa na da a4 a5 false ⟨#[]⟩ ⟨#[]⟩ 0 ((a6 : Int) - 1) wz) := by rw [hwz]; exact HR5.out.set nm a1 a2 cs sa na da a4 a5 false ⟨#[]⟩ ⟨#[]⟩ 0 ((a6 : Int) - 1)
     rw [← hwz]
     clear hwz hS5 HG5 HB5 HR5
     refine hK.out _ _ hSz (fun _ => ?_)
     clear hK K
     refine wpAnyH_done (by as_aux_lemma => kernel_rfl) ?_ _
     (try go_wp2_with fail)
     go_meet
     exact ⟨gr, ⟨nm, a1, a2, cs, am, a4, a5, 0, 0, (a6 : Int) - 1⟩, rfl, ⟨⟨HNO.out, ⟨by show (0 : Int) ≤ (a1 : Int); omega, by show (a1 : Int) ≤ (7 : Int); omega⟩, ⟨by show (0 : Int) ≤ (a2 : Int); omega, by show (a2 : Int) ≤ (31 : Int); omega⟩, HCO.out, HSZ.out.2, HSZ.out.1, ⟨by show (0 : Int) ≤ (a4 : Int); omega, by show (a4 : Int) ≤ (1048576 : Int); omega⟩, ⟨by show (0 : Int) ≤ (a5 : Int); omega, by show (a5 : Int) ≤ (7 : Int); omega⟩, Rat.le_refl, sz_zero, ⟨by show (0 : Int) ≤ 0; decide, by show (0 : Int) ≤ 1048576; decide⟩, fun _ => rfl, ⟨by show (-1 : Int) ≤ (a6 : Int) - 1; omega, by show (a6 : Int) - 1 ≤ (7 : Int); omega⟩⟩, by show (a4 : Int) ≤ 49; omega⟩, rfl, rfl, by unfold DBD; dsimp only; rw [(ratV_eq HAV.out).1, (ratV_eq HAV.out).2.1, (ratV_eq HAV.out).2.2, rneg_zero, rnum_zero, rden_zero]; exact HRz.out, hSz.x, HGz.out, HBz.out, hr36⟩
    ·
     obtain ⟨gr, hgr⟩ : ∃ g, g = W3.heap.size := ⟨_, rfl⟩
     have hr36 : w.heap.size + 1 < gr := by rw [hgr]; exact HG3.out.lt
     have hl36 : gl < gr := by rw [hgr]; exact hS3.l.2
     go_simp
     obtain ⟨W4, hW4⟩ : ∃ W, W = W3.alloc (.cells #[.string ⟨#[]⟩, .int .i64 0, .int .i64 0, .string ⟨#[]⟩, .bool false, .string ⟨#[]⟩, .string ⟨#[]⟩, .int .i64 0, .int .i64 0, .bool false, .string ⟨#[]⟩, .string ⟨#[]⟩, .int .i64 0, .int .i64 0] 63) := ⟨_, rfl⟩
     have hb : Below W3.heap.size W3 W4 := by rw [hW4]; exact bel_alloc _ _
     have HR4 : Hid (DBox gr ⟨#[]⟩ 0 0 ⟨#[]⟩ false ⟨#[]⟩ ⟨#[]⟩ 0 0 false ⟨#[]⟩ ⟨#[]⟩ 0 0 W4) := by rw [hW4, hgr]; exact blk_new _ _
     have hS4 := hS3.next hb
     have HB4 := ben HB3 hb
     have HG4 := Lib.hid (HG3.out.next hb)
     clear hb hS3 HB3 HG3
     rw [← hW4]
     (try rw [← hgr])
     clear hW4 hgr
     refine hK.out _ _ hS4 (fun _ => ?_)
     clear hK K
     refine tra 20 (fun K hK => ?_)
     go_simp
     refine (HAM.out _).mono ?_
     rintro e W5 ⟨am, rfl, hsz, hb⟩
     have HSZ := Lib.hid hsz
     have hS5 := hS4.next hb
     have HB5 := ben HB4 hb
     have HG5 := Lib.hid (HG4.out.next hb)
     have HR5 := Lib.hid (HR4.out.next hb)
     clear hb hS4 HB4 HG4 HR4
     obtain ⟨sa, na, da, ham⟩ : ∃ a b c, ratV am = .agg #[.bool a, .string b, .string c] := ⟨_, _, _, rfl⟩
     rw [ham]
     have HAV := Lib.hid ham
     clear hsz ham
     refine hK.out _ _ hS5 (fun _ => ?_)
     clear hK K
     refine tka 35 hS5 ?_
     go_simp
     refine tra 37 (fun K hK => ?_)
     obtain ⟨f0, f1, f2, f3, f4, f5, f6, f7, f8, f9, f10, f11, f12, f13, fz⟩ := HR5.out.free
     obtain ⟨c0, c1, c2, c3, c4, c5, c6, c7, c8, c9, c10, c11, c12, c13⟩ := HR5.out.cells
     go_simp
     clear f0 f1 f2 f3 f4 f5 f6 f7 f8 f9 f10 f11 f12 f13 fz c0 c1 c2 c3 c4 c5 c6 c7 c8 c9 c10 c11 c12 c13
     obtain ⟨wz, hwz⟩ : ∃ W, W = ((((((((((((((W5.setCell ⟨gr, 0, none⟩ (.string nm)).setCell ⟨gr, 1, none⟩ (.int .i64 (a1 : Int))).setCell ⟨gr, 2, none⟩ (.int .i64 (a2 : Int))).setCell ⟨gr, 3, none⟩ (.string cs)).setCell ⟨gr, 4, none⟩ (.bool sa)).setCell ⟨gr, 5, none⟩ (.string na)).setCell ⟨gr, 6, none⟩ (.string da)).setCell ⟨gr, 7, none⟩ (.int .i64 (a4 : Int))).setCell ⟨gr, 8, none⟩ (.int .i64 (a5 : Int))).setCell ⟨gr, 9, none⟩ (.bool false)).setCell ⟨gr, 10, none⟩ (.string ⟨#[]⟩)).setCell ⟨gr, 11, none⟩ (.string ⟨#[]⟩)).setCell ⟨gr, 12, none⟩ (.int .i64 0)).setCell ⟨gr, 13, none⟩ (.int .i64 ((a6 : Int) - 1))) := ⟨_, rfl⟩
     have hSz : SX w.heap.size x0 x1 x2 x3 x4 x5 gl m cs wz := by rw [hwz]; exact sx14 hS5 (by omega) (by omega) _ _ _ _ _ _ _ _ _ _ _ _ _ _
     have HGz : Hid (DBox (w.heap.size + 1) ⟨#[]⟩ 0 0 ⟨#[]⟩ false ⟨#[]⟩ ⟨#[]⟩ 0 0 false ⟨#[]⟩ ⟨#[]⟩ 0 0 wz) := by rw [hwz]; exact db14 HG5.out (by omega) _ _ _ _ _ _ _ _ _ _ _ _ _ _
     have HBz : Hid (Below w.heap.size w wz) := by rw [hwz]; exact be14 HB5.out (by omega) _ _ _ _ _ _ _ _ _ _ _ _ _ _
     have HRz : Hid (DBox gr nm a1 a2 cs sa na da a4 a5 false ⟨#[]⟩ ⟨#[]⟩ 0 ((a6 : Int) - 1) wz) := by rw [hwz]; exact HR5.out.set nm a1 a2 cs sa na da a4 a5 false ⟨#[]⟩ ⟨#[]⟩ 0 ((a6 : Int) - 1)
     rw [← hwz]
     clear hwz hS5 HG5 HB5 HR5
     refine hK.out _ _ hSz (fun _ => ?_)
     clear hK K
     refine wpAnyH_done (by as_aux_lemma => kernel_rfl) ?_ _
     (try go_wp2_with fail)
     go_meet
     exact ⟨gr, ⟨nm, a1, a2, cs, am, a4, a5, 0, 0, (a6 : Int) - 1⟩, rfl, ⟨⟨HNO.out, ⟨by show (0 : Int) ≤ (a1 : Int); omega, by show (a1 : Int) ≤ (7 : Int); omega⟩, ⟨by show (0 : Int) ≤ (a2 : Int); omega, by show (a2 : Int) ≤ (31 : Int); omega⟩, HCO.out, HSZ.out.2, HSZ.out.1, ⟨by show (0 : Int) ≤ (a4 : Int); omega, by show (a4 : Int) ≤ (1048576 : Int); omega⟩, ⟨by show (0 : Int) ≤ (a5 : Int); omega, by show (a5 : Int) ≤ (7 : Int); omega⟩, Rat.le_refl, sz_zero, ⟨by show (0 : Int) ≤ 0; decide, by show (0 : Int) ≤ 1048576; decide⟩, fun _ => rfl, ⟨by show (-1 : Int) ≤ (a6 : Int) - 1; omega, by show (a6 : Int) - 1 ≤ (7 : Int); omega⟩⟩, by show (a4 : Int) ≤ 49; omega⟩, rfl, rfl, by unfold DBD; dsimp only; rw [(ratV_eq HAV.out).1, (ratV_eq HAV.out).2.1, (ratV_eq HAV.out).2.2, rneg_zero, rnum_zero, rden_zero]; exact HRz.out, hSz.x, HGz.out, HBz.out, hr36⟩
   ·
    go_simp
    refine (HAM.out _).mono ?_
    rintro e W3 ⟨am, rfl, hsz, hb⟩
    have HSZ := Lib.hid hsz
    have hS3 := hS2.next hb
    have HB3 := ben HB2 hb
    have HG3 := Lib.hid (HG2.out.next hb)
    clear hb hS2 HB2 HG2
    obtain ⟨sa, na, da, ham⟩ : ∃ a b c, ratV am = .agg #[.bool a, .string b, .string c] := ⟨_, _, _, rfl⟩
    rw [ham]
    have HAV := Lib.hid ham
    clear hsz ham
    refine hK.out _ _ hS3 (fun _ => ?_)
    clear hK K
    refine wpAnyH_ready (rs := [12, 36]) (by as_aux_lemma => kernel_rfl) (by simp) ?_
    refine AllReadyH.cons rfl (fun K hK => ?_) (AllReadyH.cons rfl (fun K hK => ?_) AllReadyH.nil)
    ·
     obtain ⟨gl, hgl⟩ : ∃ g, g = W3.heap.size := ⟨_, rfl⟩
     have hl12 : w.heap.size + 1 < gl := by rw [hgl]; exact HG3.out.lt
     go_simp
     obtain ⟨W4, hW4⟩ : ∃ W, W = W3.alloc (.cells #[.string ⟨#[69, 85, 82]⟩, .string ⟨#[69, 85, 82]⟩, .string ⟨#[85, 83, 68]⟩, .string ⟨#[71, 66, 80]⟩] 9) := ⟨_, rfl⟩
     have hb : Below W3.heap.size W3 W4 := by rw [hW4]; exact bel_alloc _ _
     have HLS : Hid (LS gl m cs W4) := by rw [hW4, hgl]; exact ⟨HCS.out _, by simp⟩
     have hS4 := hS3.next hb
     have HB4 := ben HB3 hb
     have HG4 := Lib.hid (HG3.out.next hb)
     clear hb hS3 HB3 HG3
     rw [← hW4]
     (try rw [← hgl])
     clear hW4 hgl
     refine hK.out _ _ hS4 (fun _ => ?_)
     clear hK K
     have hS4 : SX w.heap.size x0 x1 x2 x3 x4 x5 gl m cs W4 := ⟨hS4, HLS.out⟩
     clear HLS
     refine wpAnyH_more (S' := SX w.heap.size x0 x1 x2 x3 x4 x5 gl m cs) (fun _ h => h.x) _ _ _ _ ?_
     refine tka 16 hS4 ?_
     go_simp
     refine tva 17 (.string cs) rfl (by intro w' hw'; have k0 := hw'.l.1; go_simp) hS4 ?_
     go_simp
     refine tka 35 hS4 ?_
     go_simp
     refine tra 36 (fun K hK => ?_)
     obtain ⟨gr, hgr⟩ : ∃ g, g = W4.heap.size := ⟨_, rfl⟩
     have hr36 : w.heap.size + 1 < gr := by rw [hgr]; exact HG4.out.lt
     have hl36 : gl < gr := by rw [hgr]; exact hS4.l.2
     go_simp
     obtain ⟨W5, hW5⟩ : ∃ W, W = W4.alloc (.cells #[.string ⟨#[]⟩, .int .i64 0, .int .i64 0, .string ⟨#[]⟩, .bool false, .string ⟨#[]⟩, .string ⟨#[]⟩, .int .i64 0, .int .i64 0, .bool false, .string ⟨#[]⟩, .string ⟨#[]⟩, .int .i64 0, .int .i64 0] 63) := ⟨_, rfl⟩
     have hb : Below W4.heap.size W4 W5 := by rw [hW5]; exact bel_alloc _ _
     have HR5 : Hid (DBox gr ⟨#[]⟩ 0 0 ⟨#[]⟩ false ⟨#[]⟩ ⟨#[]⟩ 0 0 false ⟨#[]⟩ ⟨#[]⟩ 0 0 W5) := by rw [hW5, hgr]; exact blk_new _ _
     have hS5 := hS4.next hb
     have HB5 := ben HB4 hb
     have HG5 := Lib.hid (HG4.out.next hb)
     clear hb hS4 HB4 HG4
     rw [← hW5]
     (try rw [← hgr])
     clear hW5 hgr
     refine hK.out _ _ hS5 (fun _ => ?_)
     clear hK K
     refine tra 37 (fun K hK => ?_)
     obtain ⟨f0, f1, f2, f3, f4, f5, f6, f7, f8, f9, f10, f11, f12, f13, fz⟩ := HR5.out.free
     obtain ⟨c0, c1, c2, c3, c4, c5, c6, c7, c8, c9, c10, c11, c12, c13⟩ := HR5.out.cells
     go_simp
     clear f0 f1 f2 f3 f4 f5 f6 f7 f8 f9 f10 f11 f12 f13 fz c0 c1 c2 c3 c4 c5 c6 c7 c8 c9 c10 c11 c12 c13
     obtain ⟨wz, hwz⟩ : ∃ W, W = ((((((((((((((W5.setCell ⟨gr, 0, none⟩ (.string nm)).setCell ⟨gr, 1, none⟩ (.int .i64 (a1 : Int))).setCell ⟨gr, 2, none⟩ (.int .i64 (a2 : Int))).setCell ⟨gr, 3, none⟩ (.string cs)).setCell ⟨gr, 4, none⟩ (.bool sa)).setCell ⟨gr, 5, none⟩ (.string na)).setCell ⟨gr, 6, none⟩ (.string da)).setCell ⟨gr, 7, none⟩ (.int .i64 (a4 : Int))).setCell ⟨gr, 8, none⟩ (.int .i64 (a5 : Int))).setCell ⟨gr, 9, none⟩ (.bool false)).setCell ⟨gr, 10, none⟩ (.string ⟨#[]⟩)).setCell ⟨gr, 11, none⟩ (.string ⟨#[]⟩)).setCell ⟨gr, 12, none⟩ (.int .i64 0)).setCell ⟨gr, 13, none⟩ (.int .i64 ((a6 : Int) - 1))) := ⟨_, rfl⟩
     have hSz : SX w.heap.size x0 x1 x2 x3 x4 x5 gl m cs wz := by rw [hwz]; exact sx14 hS5 (by omega) (by omega) _ _ _ _ _ _ _ _ _ _ _ _ _ _
     have HGz : Hid (DBox (w.heap.size + 1) ⟨#[]⟩ 0 0 ⟨#[]⟩ false ⟨#[]⟩ ⟨#[]⟩ 0 0 false ⟨#[]⟩ ⟨#[]⟩ 0 0 wz) := by rw [hwz]; exact db14 HG5.out (by omega) _ _ _ _ _ _ _ _ _ _ _ _ _ _
     have HBz : Hid (Below w.heap.size w wz) := by rw [hwz]; exact be14 HB5.out (by omega) _ _ _ _ _ _ _ _ _ _ _ _ _ _
     have HRz : Hid (DBox gr nm a1 a2 cs sa na da a4 a5 false ⟨#[]⟩ ⟨#[]⟩ 0 ((a6 : Int) - 1) wz) := by rw [hwz]; exact HR5.out.set nm a1 a2 cs sa na da a4 a5 false ⟨#[]⟩ ⟨#[]⟩ 0 ((a6 : Int) - 1)
     rw [← hwz]
     clear hwz hS5 HG5 HB5 HR5
     refine hK.out _ _ hSz (fun _ => ?_)
     clear hK K
     refine wpAnyH_done (by as_aux_lemma => kernel_rfl) ?_ _
     (try go_wp2_with fail)
     go_meet
     exact ⟨gr, ⟨nm, a1, a2, cs, am, a4, a5, 0, 0, (a6 : Int) - 1⟩, rfl, ⟨⟨HNO.out, ⟨by show (0 : Int) ≤ (a1 : Int); omega, by show (a1 : Int) ≤ (7 : Int); omega⟩, ⟨by show (0 : Int) ≤ (a2 : Int); omega, by show (a2 : Int) ≤ (31 : Int); omega⟩, HCO.out, HSZ.out.2, HSZ.out.1, ⟨by show (0 : Int) ≤ (a4 : Int); omega, by show (a4 : Int) ≤ (1048576 : Int); omega⟩, ⟨by show (0 : Int) ≤ (a5 : Int); omega, by show (a5 : Int) ≤ (7 : Int); omega⟩, Rat.le_refl, sz_zero, ⟨by show (0 : Int) ≤ 0; decide, by show (0 : Int) ≤ 1048576; decide⟩, fun _ => rfl, ⟨by show (-1 : Int) ≤ (a6 : Int) - 1; omega, by show (a6 : Int) - 1 ≤ (7 : Int); omega⟩⟩, by show (a4 : Int) ≤ 49; omega⟩, rfl, rfl, by unfold DBD; dsimp only; rw [(ratV_eq HAV.out).1, (ratV_eq HAV.out).2.1, (ratV_eq HAV.out).2.2, rneg_zero, rnum_zero, rden_zero]; exact HRz.out, hSz.x, HGz.out, HBz.out, hr36⟩
    ·
     obtain ⟨gr, hgr⟩ : ∃ g, g = W3.heap.size := ⟨_, rfl⟩
     have hr36 : w.heap.size + 1 < gr := by rw [hgr]; exact HG3.out.lt
     go_simp
     obtain ⟨W4, hW4⟩ : ∃ W, W = W3.alloc (.cells #[.string ⟨#[]⟩, .int .i64 0, .int .i64 0, .string ⟨#[]⟩, .bool false, .string ⟨#[]⟩, .string ⟨#[]⟩, .int .i64 0, .int .i64 0, .bool false, .string ⟨#[]⟩, .string ⟨#[]⟩, .int .i64 0, .int .i64 0] 63) := ⟨_, rfl⟩
     have hb : Below W3.heap.size W3 W4 := by rw [hW4]; exact bel_alloc _ _
     have HR4 : Hid (DBox gr ⟨#[]⟩ 0 0 ⟨#[]⟩ false ⟨#[]⟩ ⟨#[]⟩ 0 0 false ⟨#[]⟩ ⟨#[]⟩ 0 0 W4) := by rw [hW4, hgr]; exact blk_new _ _
     have hS4 := hS3.next hb
     have HB4 := ben HB3 hb
     have HG4 := Lib.hid (HG3.out.next hb)
     clear hb hS3 HB3 HG3
     rw [← hW4]
     (try rw [← hgr])
     clear hW4 hgr
     refine hK.out _ _ hS4 (fun _ => ?_)
     clear hK K
     refine tra 12 (fun K hK => ?_)
     obtain ⟨gl, hgl⟩ : ∃ g, g = W4.heap.size := ⟨_, rfl⟩
     have hl12 : w.heap.size + 1 < gl := by rw [hgl]; exact HG4.out.lt
     have hl36 : gr < gl := by rw [hgl]; exact HR4.out.lt
     go_simp
     obtain ⟨W5, hW5⟩ : ∃ W, W = W4.alloc (.cells #[.string ⟨#[69, 85, 82]⟩, .string ⟨#[69, 85, 82]⟩, .string ⟨#[85, 83, 68]⟩, .string ⟨#[71, 66, 80]⟩] 9) := ⟨_, rfl⟩
     have hb : Below W4.heap.size W4 W5 := by rw [hW5]; exact bel_alloc _ _
     have HLS : Hid (LS gl m cs W5) := by rw [hW5, hgl]; exact ⟨HCS.out _, by simp⟩
     have hS5 := hS4.next hb
     have HB5 := ben HB4 hb
     have HG5 := Lib.hid (HG4.out.next hb)
     have HR5 := Lib.hid (HR4.out.next hb)
     clear hb hS4 HB4 HG4 HR4
     rw [← hW5]
     (try rw [← hgl])
     clear hW5 hgl
     refine hK.out _ _ hS5 (fun _ => ?_)
     clear hK K
     have hS5 : SX w.heap.size x0 x1 x2 x3 x4 x5 gl m cs W5 := ⟨hS5, HLS.out⟩
     clear HLS
     refine wpAnyH_more (S' := SX w.heap.size x0 x1 x2 x3 x4 x5 gl m cs) (fun _ h => h.x) _ _ _ _ ?_
     refine tka 16 hS5 ?_
     go_simp
     refine tva 17 (.string cs) rfl (by intro w' hw'; have k0 := hw'.l.1; go_simp) hS5 ?_
     go_simp
     refine tka 35 hS5 ?_
     go_simp
     refine tra 37 (fun K hK => ?_)
     obtain ⟨f0, f1, f2, f3, f4, f5, f6, f7, f8, f9, f10, f11, f12, f13, fz⟩ := HR5.out.free
     obtain ⟨c0, c1, c2, c3, c4, c5, c6, c7, c8, c9, c10, c11, c12, c13⟩ := HR5.out.cells
     go_simp
     clear f0 f1 f2 f3 f4 f5 f6 f7 f8 f9 f10 f11 f12 f13 fz c0 c1 c2 c3 c4 c5 c6 c7 c8 c9 c10 c11 c12 c13
     obtain ⟨wz, hwz⟩ : ∃ W, W = ((((((((((((((W5.setCell ⟨gr, 0, none⟩ (.string nm)).setCell ⟨gr, 1, none⟩ (.int .i64 (a1 : Int))).setCell ⟨gr, 2, none⟩ (.int .i64 (a2 : Int))).setCell ⟨gr, 3, none⟩ (.string cs)).setCell ⟨gr, 4, none⟩ (.bool sa)).setCell ⟨gr, 5, none⟩ (.string na)).setCell ⟨gr, 6, none⟩ (.string da)).setCell ⟨gr, 7, none⟩ (.int .i64 (a4 : Int))).setCell ⟨gr, 8, none⟩ (.int .i64 (a5 : Int))).setCell ⟨gr, 9, none⟩ (.bool false)).setCell ⟨gr, 10, none⟩ (.string ⟨#[]⟩)).setCell ⟨gr, 11, none⟩ (.string ⟨#[]⟩)).setCell ⟨gr, 12, none⟩ (.int .i64 0)).setCell ⟨gr, 13, none⟩ (.int .i64 ((a6 : Int) - 1))) := ⟨_, rfl⟩
     have hSz : SX w.heap.size x0 x1 x2 x3 x4 x5 gl m cs wz := by rw [hwz]; exact sx14 hS5 (by omega) (by omega) _ _ _ _ _ _ _ _ _ _ _ _ _ _
     have HGz : Hid (DBox (w.heap.size + 1) ⟨#[]⟩ 0 0 ⟨#[]⟩ false ⟨#[]⟩ ⟨#[]⟩ 0 0 false ⟨#[]⟩ ⟨#[]⟩ 0 0 wz) := by rw [hwz]; exact db14 HG5.out (by omega) _ _ _ _ _ _ _ _ _ _ _ _ _ _
     have HBz : Hid (Below w.heap.size w wz) := by rw [hwz]; exact be14 HB5.out (by omega) _ _ _ _ _ _ _ _ _ _ _ _ _ _
     have HRz : Hid (DBox gr nm a1 a2 cs sa na da a4 a5 false ⟨#[]⟩ ⟨#[]⟩ 0 ((a6 : Int) - 1) wz) := by rw [hwz]; exact HR5.out.set nm a1 a2 cs sa na da a4 a5 false ⟨#[]⟩ ⟨#[]⟩ 0 ((a6 : Int) - 1)
     rw [← hwz]
     clear hwz hS5 HG5 HB5 HR5
     refine hK.out _ _ hSz (fun _ => ?_)
     clear hK K
     refine wpAnyH_done (by as_aux_lemma => kernel_rfl) ?_ _
     (try go_wp2_with fail)
     go_meet
     exact ⟨gr, ⟨nm, a1, a2, cs, am, a4, a5, 0, 0, (a6 : Int) - 1⟩, rfl, ⟨⟨HNO.out, ⟨by show (0 : Int) ≤ (a1 : Int); omega, by show (a1 : Int) ≤ (7 : Int); omega⟩, ⟨by show (0 : Int) ≤ (a2 : Int); omega, by show (a2 : Int) ≤ (31 : Int); omega⟩, HCO.out, HSZ.out.2, HSZ.out.1, ⟨by show (0 : Int) ≤ (a4 : Int); omega, by show (a4 : Int) ≤ (1048576 : Int); omega⟩, ⟨by show (0 : Int) ≤ (a5 : Int); omega, by show (a5 : Int) ≤ (7 : Int); omega⟩, Rat.le_refl, sz_zero, ⟨by show (0 : Int) ≤ 0; decide, by show (0 : Int) ≤ 1048576; decide⟩, fun _ => rfl, ⟨by show (-1 : Int) ≤ (a6 : Int) - 1; omega, by show (a6 : Int) - 1 ≤ (7 : Int); omega⟩⟩, by show (a4 : Int) ≤ 49; omega⟩, rfl, rfl, by unfold DBD; dsimp only; rw [(ratV_eq HAV.out).1, (ratV_eq HAV.out).2.1, (ratV_eq HAV.out).2.2, rneg_zero, rnum_zero, rden_zero]; exact HRz.out, hSz.x, HGz.out, HBz.out, hr36⟩
   ·
    obtain ⟨gr, hgr⟩ : ∃ g, g = W2.heap.size := ⟨_, rfl⟩
    have hr36 : w.heap.size + 1 < gr := by rw [hgr]; exact HG2.out.lt
    go_simp
    obtain ⟨W3, hW3⟩ : ∃ W, W = W2.alloc (.cells #[.string ⟨#[]⟩, .int .i64 0, .int .i64 0, .string ⟨#[]⟩, .bool false, .string ⟨#[]⟩, .string ⟨#[]⟩, .int .i64 0, .int .i64 0, .bool false, .string ⟨#[]⟩, .string ⟨#[]⟩, .int .i64 0, .int .i64 0] 63) := ⟨_, rfl⟩
    have hb : Below W2.heap.size W2 W3 := by rw [hW3]; exact bel_alloc _ _
    have HR3 : Hid (DBox gr ⟨#[]⟩ 0 0 ⟨#[]⟩ false ⟨#[]⟩ ⟨#[]⟩ 0 0 false ⟨#[]⟩ ⟨#[]⟩ 0 0 W3) := by rw [hW3, hgr]; exact blk_new _ _
    have hS3 := hS2.next hb
    have HB3 := ben HB2 hb
    have HG3 := Lib.hid (HG2.out.next hb)
    clear hb hS2 HB2 HG2
    rw [← hW3]
    (try rw [← hgr])
    clear hW3 hgr
    refine hK.out _ _ hS3 (fun _ => ?_)
    clear hK K
    refine wpAnyH_ready (rs := [12, 20]) (by as_aux_lemma => kernel_rfl) (by simp) ?_
    refine AllReadyH.cons rfl (fun K hK => ?_) (AllReadyH.cons rfl (fun K hK => ?_) AllReadyH.nil)
    ·
     obtain ⟨gl, hgl⟩ : ∃ g, g = W3.heap.size := ⟨_, rfl⟩
     have hl12 : w.heap.size + 1 < gl := by rw [hgl]; exact HG3.out.lt
     have hl36 : gr < gl := by rw [hgl]; exact HR3.out.lt
     go_simp
     obtain ⟨W4, hW4⟩ : ∃ W, W = W3.alloc (.cells #[.string ⟨#[69, 85, 82]⟩, .string ⟨#[69, 85, 82]⟩, .string ⟨#[85, 83, 68]⟩, .string ⟨#[71, 66, 80]⟩] 9) := ⟨_, rfl⟩
     have hb : Below W3.heap.size W3 W4 := by rw [hW4]; exact bel_alloc _ _
     have HLS : Hid (LS gl m cs W4) := by rw [hW4, hgl]; exact ⟨HCS.out _, by simp⟩
     have hS4 := hS3.next hb
     have HB4 := ben HB3 hb
     have HG4 := Lib.hid (HG3.out.next hb)
     have HR4 := Lib.hid (HR3.out.next hb)
     clear hb hS3 HB3 HG3 HR3
     rw [← hW4]
     (try rw [← hgl])
     clear hW4 hgl
     refine hK.out _ _ hS4 (fun _ => ?_)
     clear hK K
     have hS4 : SX w.heap.size x0 x1 x2 x3 x4 x5 gl m cs W4 := ⟨hS4, HLS.out⟩
     clear HLS
     refine wpAnyH_more (S' := SX w.heap.size x0 x1 x2 x3 x4 x5 gl m cs) (fun _ h => h.x) _ _ _ _ ?_
     refine tka 16 hS4 ?_
     go_simp
     refine tva 17 (.string cs) rfl (by intro w' hw'; have k0 := hw'.l.1; go_simp) hS4 ?_
     go_simp
     refine tra 20 (fun K hK => ?_)
     go_simp
     refine (HAM.out _).mono ?_
     rintro e W5 ⟨am, rfl, hsz, hb⟩
     have HSZ := Lib.hid hsz
     have hS5 := hS4.next hb
     have HB5 := ben HB4 hb
     have HG5 := Lib.hid (HG4.out.next hb)
     have HR5 := Lib.hid (HR4.out.next hb)
     clear hb hS4 HB4 HG4 HR4
     obtain ⟨sa, na, da, ham⟩ : ∃ a b c, ratV am = .agg #[.bool a, .string b, .string c] := ⟨_, _, _, rfl⟩
     rw [ham]
     have HAV := Lib.hid ham
     clear hsz ham
     refine hK.out _ _ hS5 (fun _ => ?_)
     clear hK K
     refine tka 35 hS5 ?_
     go_simp
     refine tra 37 (fun K hK => ?_)
     obtain ⟨f0, f1, f2, f3, f4, f5, f6, f7, f8, f9, f10, f11, f12, f13, fz⟩ := HR5.out.free
     obtain ⟨c0, c1, c2, c3, c4, c5, c6, c7, c8, c9, c10, c11, c12, c13⟩ := HR5.out.cells
     go_simp
     clear f0 f1 f2 f3 f4 f5 f6 f7 f8 f9 f10 f11 f12 f13 fz c0 c1 c2 c3 c4 c5 c6 c7 c8 c9 c10 c11 c12 c13
     obtain ⟨wz, hwz⟩ : ∃ W, W = ((((((((((((((W5.setCell ⟨gr, 0, none⟩ (.string nm)).setCell ⟨gr, 1, none⟩ (.int .i64 (a1 : Int))).setCell ⟨gr, 2, none⟩ (.int .i64 (a2 : Int))).setCell ⟨gr, 3, none⟩ (.string cs)).setCell ⟨gr, 4, none⟩ (.bool sa)).setCell ⟨gr, 5, none⟩ (.string na)).setCell ⟨gr, 6, none⟩ (.string da)).setCell ⟨gr, 7, none⟩ (.int .i64 (a4 : Int))).setCell ⟨gr, 8, none⟩ (.int .i64 (a5 : Int))).setCell ⟨gr, 9, none⟩ (.bool false)).setCell ⟨gr, 10, none⟩ (.string ⟨#[]⟩)).setCell ⟨gr, 11, none⟩ (.string ⟨#[]⟩)).setCell ⟨gr, 12, none⟩ (.int .i64 0)).setCell ⟨gr, 13, none⟩ (.int .i64 ((a6 : Int) - 1))) := ⟨_, rfl⟩
     have hSz : SX w.heap.size x0 x1 x2 x3 x4 x5 gl m cs wz := by rw [hwz]; exact sx14 hS5 (by omega) (by omega) _ _ _ _ _ _ _ _ _ _ _ _ _ _
     have HGz : Hid (DBox (w.heap.size + 1) ⟨#[]⟩ 0 0 ⟨#[]⟩ false ⟨#[]⟩ ⟨#[]⟩ 0 0 false ⟨#[]⟩ ⟨#[]⟩ 0 0 wz) := by rw [hwz]; exact db14 HG5.out (by omega) _ _ _ _ _ _ _ _ _ _ _ _ _ _
     have HBz : Hid (Below w.heap.size w wz) := by rw [hwz]; exact be14 HB5.out (by omega) _ _ _ _ _ _ _ _ _ _ _ _ _ _
     have HRz : Hid (DBox gr nm a1 a2 cs sa na da a4 a5 false ⟨#[]⟩ ⟨#[]⟩ 0 ((a6 : Int) - 1) wz) := by rw [hwz]; exact HR5.out.set nm a1 a2 cs sa na da a4 a5 false ⟨#[]⟩ ⟨#[]⟩ 0 ((a6 : Int) - 1)
     rw [← hwz]
     clear hwz hS5 HG5 HB5 HR5
     refine hK.out _ _ hSz (fun _ => ?_)
     clear hK K
     refine wpAnyH_done (by as_aux_lemma => kernel_rfl) ?_ _
     (try go_wp2_with fail)
     go_meet
     exact ⟨gr, ⟨nm, a1, a2, cs, am, a4, a5, 0, 0, (a6 : Int) - 1⟩, rfl, ⟨⟨HNO.out, ⟨by show (0 : Int) ≤ (a1 : Int); omega, by show (a1 : Int) ≤ (7 : Int); omega⟩, ⟨by show (0 : Int) ≤ (a2 : Int); omega, by show (a2 : Int) ≤ (31 : Int); omega⟩, HCO.out, HSZ.out.2, HSZ.out.1, ⟨by show (0 : Int) ≤ (a4 : Int); omega, by show (a4 : Int) ≤ (1048576 : Int); omega⟩, ⟨by show (0 : Int) ≤ (a5 : Int); omega, by show (a5 : Int) ≤ (7 : Int); omega⟩, Rat.le_refl, sz_zero, ⟨by show (0 : Int) ≤ 0; decide, by show (0 : Int) ≤ 1048576; decide⟩, fun _ => rfl, ⟨by show (-1 : Int) ≤ (a6 : Int) - 1; omega, by show (a6 : Int) - 1 ≤ (7 : Int); omega⟩⟩, by show (a4 : Int) ≤ 49; omega⟩, rfl, rfl, by unfold DBD; dsimp only; rw [(ratV_eq HAV.out).1, (ratV_eq HAV.out).2.1, (ratV_eq HAV.out).2.2, rneg_zero, rnum_zero, rden_zero]; exact HRz.out, hSz.x, HGz.out, HBz.out, hr36⟩
    ·
     go_simp
     refine (HAM.out _).mono ?_
     rintro e W4 ⟨am, rfl, hsz, hb⟩
     have HSZ := Lib.hid hsz
     have hS4 := hS3.next hb
     have HB4 := ben HB3 hb
     have HG4 := Lib.hid (HG3.out.next hb)
     have HR4 := Lib.hid (HR3.out.next hb)
     clear hb hS3 HB3 HG3 HR3
     obtain ⟨sa, na, da, ham⟩ : ∃ a b c, ratV am = .agg #[.bool a, .string b, .string c] := ⟨_, _, _, rfl⟩
     rw [ham]
     have HAV := Lib.hid ham
     clear hsz ham
     refine hK.out _ _ hS4 (fun _ => ?_)
     clear hK K
     refine tra 12 (fun K hK => ?_)
     obtain ⟨gl, hgl⟩ : ∃ g, g = W4.heap.size := ⟨_, rfl⟩
     have hl12 : w.heap.size + 1 < gl := by rw [hgl]; exact HG4.out.lt
     have hl36 : gr < gl := by rw [hgl]; exact HR4.out.lt
     go_simp
     obtain ⟨W5, hW5⟩ : ∃ W, W = W4.alloc (.cells #[.string ⟨#[69, 85, 82]⟩, .string ⟨#[69, 85, 82]⟩, .string ⟨#[85, 83, 68]⟩, .string ⟨#[71, 66, 80]⟩] 9) := ⟨_, rfl⟩
     have hb : Below W4.heap.size W4 W5 := by rw [hW5]; exact bel_alloc _ _
     have HLS : Hid (LS gl m cs W5) := by rw [hW5, hgl]; exact ⟨HCS.out _, by simp⟩
     have hS5 := hS4.next hb
     have HB5 := ben HB4 hb
     have HG5 := Lib.hid (HG4.out.next hb)
     have HR5 := Lib.hid (HR4.out.next hb)
     clear hb hS4 HB4 HG4 HR4
     rw [← hW5]
     (try rw [← hgl])
     clear hW5 hgl
     refine hK.out _ _ hS5 (fun _ => ?_)
     clear hK K
     have hS5 : SX w.heap.size x0 x1 x2 x3 x4 x5 gl m cs W5 := ⟨hS5, HLS.out⟩
     clear HLS
     refine wpAnyH_more (S' := SX w.heap.size x0 x1 x2 x3 x4 x5 gl m cs) (fun _ h => h.x) _ _ _ _ ?_
     refine tka 16 hS5 ?_
     go_simp
     refine tva 17 (.string cs) rfl (by intro w' hw'; have k0 := hw'.l.1; go_simp) hS5 ?_
     go_simp
     refine tka 35 hS5 ?_
     go_simp
     refine tra 37 (fun K hK => ?_)
     obtain ⟨f0, f1, f2, f3, f4, f5, f6, f7, f8, f9, f10, f11, f12, f13, fz⟩ := HR5.out.free
     obtain ⟨c0, c1, c2, c3, c4, c5, c6, c7, c8, c9, c10, c11, c12, c13⟩ := HR5.out.cells
     go_simp
     clear f0 f1 f2 f3 f4 f5 f6 f7 f8 f9 f10 f11 f12 f13 fz c0 c1 c2 c3 c4 c5 c6 c7 c8 c9 c10 c11 c12 c13
     obtain ⟨wz, hwz⟩ : ∃ W, W = ((((((((((((((W5.setCell ⟨gr, 0, none⟩ (.string nm)).setCell ⟨gr, 1, none⟩ (.int .i64 (a1 : Int))).setCell ⟨gr, 2, none⟩ (.int .i64 (a2 : Int))).setCell ⟨gr, 3, none⟩ (.string cs)).setCell ⟨gr, 4, none⟩ (.bool sa)).setCell ⟨gr, 5, none⟩ (.string na)).setCell ⟨gr, 6, none⟩ (.string da)).setCell ⟨gr, 7, none⟩ (.int .i64 (a4 : Int))).setCell ⟨gr, 8, none⟩ (.int .i64 (a5 : Int))).setCell ⟨gr, 9, none⟩ (.bool false)).setCell ⟨gr, 10, none⟩ (.string ⟨#[]⟩)).setCell ⟨gr, 11, none⟩ (.string ⟨#[]⟩)).setCell ⟨gr, 12, none⟩ (.int .i64 0)).setCell ⟨gr, 13, none⟩ (.int .i64 ((a6 : Int) - 1))) := ⟨_, rfl⟩
     have hSz : SX w.heap.size x0 x1 x2 x3 x4 x5 gl m cs wz := by rw [hwz]; exact sx14 hS5 (by omega) (by omega) _ _ _ _ _ _ _ _ _ _ _ _ _ _
     have HGz : Hid (DBox (w.heap.size + 1) ⟨#[]⟩ 0 0 ⟨#[]⟩ false ⟨#[]⟩ ⟨#[]⟩ 0 0 false ⟨#[]⟩ ⟨#[]⟩ 0 0 wz) := by rw [hwz]; exact db14 HG5.out (by omega) _ _ _ _ _ _ _ _ _ _ _ _ _ _
     have HBz : Hid (Below w.heap.size w wz) := by rw [hwz]; exact be14 HB5.out (by omega) _ _ _ _ _ _ _ _ _ _ _ _ _ _
     have HRz : Hid (DBox gr nm a1 a2 cs sa na da a4 a5 false ⟨#[]⟩ ⟨#[]⟩ 0 ((a6 : Int) - 1) wz) := by rw [hwz]; exact HR5.out.set nm a1 a2 cs sa na da a4 a5 false ⟨#[]⟩ ⟨#[]⟩ 0 ((a6 : Int) - 1)
     rw [← hwz]
     clear hwz hS5 HG5 HB5 HR5
     refine hK.out _ _ hSz (fun _ => ?_)
     clear hK K
     refine wpAnyH_done (by as_aux_lemma => kernel_rfl) ?_ _
     (try go_wp2_with fail)
     go_meet
     exact ⟨gr, ⟨nm, a1, a2, cs, am, a4, a5, 0, 0, (a6 : Int) - 1⟩, rfl, ⟨⟨HNO.out, ⟨by show (0 : Int) ≤ (a1 : Int); omega, by show (a1 : Int) ≤ (7 : Int); omega⟩, ⟨by show (0 : Int) ≤ (a2 : Int); omega, by show (a2 : Int) ≤ (31 : Int); omega⟩, HCO.out, HSZ.out.2, HSZ.out.1, ⟨by show (0 : Int) ≤ (a4 : Int); omega, by show (a4 : Int) ≤ (1048576 : Int); omega⟩, ⟨by show (0 : Int) ≤ (a5 : Int); omega, by show (a5 : Int) ≤ (7 : Int); omega⟩, Rat.le_refl, sz_zero, ⟨by show (0 : Int) ≤ 0; decide, by show (0 : Int) ≤ 1048576; decide⟩, fun _ => rfl, ⟨by show (-1 : Int) ≤ (a6 : Int) - 1; omega, by show (a6 : Int) - 1 ≤ (7 : Int); omega⟩⟩, by show (a4 : Int) ≤ 49; omega⟩, rfl, rfl, by unfold DBD; dsimp only; rw [(ratV_eq HAV.out).1, (ratV_eq HAV.out).2.1, (ratV_eq HAV.out).2.2, rneg_zero, rnum_zero, rden_zero]; exact HRz.out, hSz.x, HGz.out, HBz.out, hr36⟩
  ·
   obtain ⟨gl, hgl⟩ : ∃ g, g = W1.heap.size := ⟨_, rfl⟩
   have hl12 : w.heap.size + 1 < gl := by rw [hgl]; exact HG1.out.lt
   go_simp
   obtain ⟨W2, hW2⟩ : ∃ W, W = W1.alloc (.cells #[.string ⟨#[69, 85, 82]⟩, .string ⟨#[69, 85, 82]⟩, .string ⟨#[85, 83, 68]⟩, .string ⟨#[71, 66, 80]⟩] 9) := ⟨_, rfl⟩
   have hb : Below W1.heap.size W1 W2 := by rw [hW2]; exact bel_alloc _ _
   have HLS : Hid (LS gl m cs W2) := by rw [hW2, hgl]; exact ⟨HCS.out _, by simp⟩
   have hS2 := hS1.next hb
   have HB2 := ben HB1 hb
   have HG2 := Lib.hid (HG1.out.next hb)
   clear hb hS1 HB1 HG1
   rw [← hW2]
   (try rw [← hgl])
   clear hW2 hgl
   refine hK.out _ _ hS2 (fun _ => ?_)
   clear hK K
   have hS2 : SX w.heap.size x0 x1 x2 x3 x4 x5 gl m cs W2 := ⟨hS2, HLS.out⟩
   clear HLS
   refine wpAnyH_more (S' := SX w.heap.size x0 x1 x2 x3 x4 x5 gl m cs) (fun _ h => h.x) _ _ _ _ ?_
   refine tka 16 hS2 ?_
   go_simp
   refine tva 17 (.string cs) rfl (by intro w' hw'; have k0 := hw'.l.1; go_simp) hS2 ?_
   go_simp
   refine wpAnyH_ready (rs := [2, 36]) (by as_aux_lemma => kernel_rfl) (by simp) ?_
   refine AllReadyH.cons rfl (fun K hK => ?_) (AllReadyH.cons rfl (fun K hK => ?_) AllReadyH.nil)
   ·
    go_simp
    refine (HNM.out _).mono ?_
    rintro e W3 ⟨nm, rfl, hnm, hb⟩
    have HNO := Lib.hid hnm
    have hS3 := hS2.next hb
    have HB3 := ben HB2 hb
    have HG3 := Lib.hid (HG2.out.next hb)
    clear hb hS2 HB2 HG2
    clear hnm
    refine hK.out _ _ hS3 (fun _ => ?_)
    clear hK K
    refine wpAnyH_ready (rs := [20, 36]) (by as_aux_lemma => kernel_rfl) (by simp) ?_
    refine AllReadyH.cons rfl (fun K hK => ?_) (AllReadyH.cons rfl (fun K hK => ?_) AllReadyH.nil)
    ·
     go_simp
     refine (HAM.out _).mono ?_
     rintro e W4 ⟨am, rfl, hsz, hb⟩
     have HSZ := Lib.hid hsz
     have hS4 := hS3.next hb
     have HB4 := ben HB3 hb
     have HG4 := Lib.hid (HG3.out.next hb)
     clear hb hS3 HB3 HG3
     obtain ⟨sa, na, da, ham⟩ : ∃ a b c, ratV am = .agg #[.bool a, .string b, .string c] := ⟨_, _, _, rfl⟩
     rw [ham]
     have HAV := Lib.hid ham
     clear hsz ham
     refine hK.out _ _ hS4 (fun _ => ?_)
     clear hK K
     refine tka 35 hS4 ?_
     go_simp
     refine tra 36 (fun K hK => ?_)
     obtain ⟨gr, hgr⟩ : ∃ g, g = W4.heap.size := ⟨_, rfl⟩
     have hr36 : w.heap.size + 1 < gr := by rw [hgr]; exact HG4.out.lt
     have hl36 : gl < gr := by rw [hgr]; exact hS4.l.2
     go_simp
     obtain ⟨W5, hW5⟩ : ∃ W, W = W4.alloc (.cells #[.string ⟨#[]⟩, .int .i64 0, .int .i64 0, .string ⟨#[]⟩, .bool false, .string ⟨#[]⟩, .string ⟨#[]⟩, .int .i64 0, .int .i64 0, .bool false, .string ⟨#[]⟩, .string ⟨#[]⟩, .int .i64 0, .int .i64 0] 63) := ⟨_, rfl⟩
     have hb : Below W4.heap.size W4 W5 := by rw [hW5]; exact bel_alloc _ _
     have HR5 : Hid (DBox gr ⟨#[]⟩ 0 0 ⟨#[]⟩ false ⟨#[]⟩ ⟨#[]⟩ 0 0 false ⟨#[]⟩ ⟨#[]⟩ 0 0 W5) := by rw [hW5, hgr]; exact blk_new _ _
     have hS5 := hS4.next hb
     have HB5 := ben HB4 hb
     have HG5 := Lib.hid (HG4.out.next hb)
     clear hb hS4 HB4 HG4
     rw [← hW5]
     (try rw [← hgr])
     clear hW5 hgr
     refine hK.out _ _ hS5 (fun _ => ?_)
     clear hK K
     refine tra 37 (fun K hK => ?_)
     obtain ⟨f0, f1, f2, f3, f4, f5, f6, f7, f8, f9, f10, f11, f12, f13, fz⟩ := HR5.out.free
     obtain ⟨c0, c1, c2, c3, c4, c5, c6, c7, c8, c9, c10, c11, c12, c13⟩ := HR5.out.cells
     go_simp
     clear f0 f1 f2 f3 f4 f5 f6 f7 f8 f9 f10 f11 f12 f13 fz c0 c1 c2 c3 c4 c5 c6 c7 c8 c9 c10 c11 c12 c13
     obtain ⟨wz, hwz⟩ : ∃ W, W = ((((((((((((((W5.setCell ⟨gr, 0, none⟩ (.string nm)).setCell ⟨gr, 1, none⟩ (.int .i64 (a1 : Int))).setCell ⟨gr, 2, none⟩ (.int .i64 (a2 : Int))).setCell ⟨gr, 3, none⟩ (.string cs)).setCell ⟨gr, 4, none⟩ (.bool sa)).setCell ⟨gr, 5, none⟩ (.string na)).setCell ⟨gr, 6, none⟩ (.string da)).setCell ⟨gr, 7, none⟩ (.int .i64 (a4 : Int))).setCell ⟨gr, 8, none⟩ (.int .i64 (a5 : Int))).setCell ⟨gr, 9, none⟩ (.bool false)).setCell ⟨gr, 10, none⟩ (.string ⟨#[]⟩)).setCell ⟨gr, 11, none⟩ (.string ⟨#[]⟩)).setCell ⟨gr, 12, none⟩ (.int .i64 0)).setCell ⟨gr, 13, none⟩ (.int .i64 ((a6 : Int) - 1))) := ⟨_, rfl⟩
     have hSz : SX w.heap.size x0 x1 x2 x3 x4 x5 gl m cs wz := by rw [hwz]; exact sx14 hS5 (by omega) (by omega) _ _ _ _ _ _ _ _ _ _ _ _ _ _
     have HGz : Hid (DBox (w.heap.size + 1) ⟨#[]⟩ 0 0 ⟨#[]⟩ false ⟨#[]⟩ ⟨#[]⟩ 0 0 false ⟨#[]⟩ ⟨#[]⟩ 0 0 wz) := by rw [hwz]; exact db14 HG5.out (by omega) _ _ _ _ _ _ _ _ _ _ _ _ _ _
     have HBz : Hid (Below w.heap.size w wz) := by rw [hwz]; exact be14 HB5.out (by omega) _ _ _ _ _ _ _ _ _ _ _ _ _ _
     have HRz : Hid (DBox gr nm a1 a2 cs sa na da a4 a5 false ⟨#[]⟩ ⟨#[]⟩ 0 ((a6 : Int) - 1) wz) := by rw [hwz]; exact HR5.out.set nm a1 a2 cs sa na da a4 a5 false ⟨#[]⟩ ⟨#[]⟩ 0 ((a6 : Int) - 1)
     rw [← hwz]
     clear hwz hS5 HG5 HB5 HR5
     refine hK.out _ _ hSz (fun _ => ?_)
     clear hK K
     refine wpAnyH_done (by as_aux_lemma => kernel_rfl) ?_ _
     (try go_wp2_with fail)
     go_meet
     exact ⟨gr, ⟨nm, a1, a2, cs, am, a4, a5, 0, 0, (a6 : Int) - 1⟩, rfl, ⟨⟨HNO.out, ⟨by show (0 : Int) ≤ (a1 : Int); omega, by show (a1 : Int) ≤ (7 : Int); omega⟩, ⟨by show (0 : Int) ≤ (a2 : Int); omega, by show (a2 : Int) ≤ (31 : Int); omega⟩, HCO.out, HSZ.out.2, HSZ.out.1, ⟨by show (0 : Int) ≤ (a4 : Int); omega, by show (a4 : Int) ≤ (1048576 : Int); omega⟩, ⟨by show (0 : Int) ≤ (a5 : Int); omega, by show (a5 : Int) ≤ (7 : Int); omega⟩, Rat.le_refl, sz_zero, ⟨by show (0 : Int) ≤ 0; decide, by show (0 : Int) ≤ 1048576; decide⟩, fun _ => rfl, ⟨by show (-1 : Int) ≤ (a6 : Int) - 1; omega, by show (a6 : Int) - 1 ≤ (7 : Int); omega⟩⟩, by show (a4 : Int) ≤ 49; omega⟩, rfl, rfl, by unfold DBD; dsimp only; rw [(ratV_eq HAV.out).1, (ratV_eq HAV.out).2.1, (ratV_eq HAV.out).2.2, rneg_zero, rnum_zero, rden_zero]; exact HRz.out, hSz.x, HGz.out, HBz.out, hr36⟩
    ·
     obtain ⟨gr, hgr⟩ : ∃ g, g = W3.heap.size := ⟨_, rfl⟩
     have hr36 : w.heap.size + 1 < gr := by rw [hgr]; exact HG3.out.lt
     have hl36 : gl < gr := by rw [hgr]; exact hS3.l.2
     go_simp
     obtain ⟨W4, hW4⟩ : ∃ W, W = W3.alloc (.cells #[.string ⟨#[]⟩, .int .i64 0, .int .i64 0, .string ⟨#[]⟩, .bool false, .string ⟨#[]⟩, .string ⟨#[]⟩, .int .i64 0, .int .i64 0, .bool false, .string ⟨#[]⟩, .string ⟨#[]⟩, .int .i64 0, .int .i64 0] 63) := ⟨_, rfl⟩
     have hb : Below W3.heap.size W3 W4 := by rw [hW4]; exact bel_alloc _ _
     have HR4 : Hid (DBox gr ⟨#[]⟩ 0 0 ⟨#[]⟩ false ⟨#[]⟩ ⟨#[]⟩ 0 0 false ⟨#[]⟩ ⟨#[]⟩ 0 0 W4) := by rw [hW4, hgr]; exact blk_new _ _
     have hS4 := hS3.next hb
     have HB4 := ben HB3 hb
     have HG4 := Lib.hid (HG3.out.next hb)
     clear hb hS3 HB3 HG3
     rw [← hW4]
     (try rw [← hgr])
     clear hW4 hgr
     refine hK.out _ _ hS4 (fun _ => ?_)
     clear hK K
     refine tra 20 (fun K hK => ?_)
     go_simp
     refine (HAM.out _).mono ?_
     rintro e W5 ⟨am, rfl, hsz, hb⟩
     have HSZ := Lib.hid hsz
     have hS5 := hS4.next hb
     have HB5 := ben HB4 hb
     have HG5 := Lib.hid (HG4.out.next hb)
     have HR5 := Lib.hid (HR4.out.next hb)
     clear hb hS4 HB4 HG4 HR4
     obtain ⟨sa, na, da, ham⟩ : ∃ a b c, ratV am = .agg #[.bool a, .string b, .string c] := ⟨_, _, _, rfl⟩
     rw [ham]
     have HAV := Lib.hid ham
     clear hsz ham
     refine hK.out _ _ hS5 (fun _ => ?_)
     clear hK K
     refine tka 35 hS5 ?_
     go_simp
     refine tra 37 (fun K hK => ?_)
     obtain ⟨f0, f1, f2, f3, f4, f5, f6, f7, f8, f9, f10, f11, f12, f13, fz⟩ := HR5.out.free
     obtain ⟨c0, c1, c2, c3, c4, c5, c6, c7, c8, c9, c10, c11, c12, c13⟩ := HR5.out.cells
     go_simp
     clear f0 f1 f2 f3 f4 f5 f6 f7 f8 f9 f10 f11 f12 f13 fz c0 c1 c2 c3 c4 c5 c6 c7 c8 c9 c10 c11 c12 c13
     obtain ⟨wz, hwz⟩ : ∃ W, W = ((((((((((((((W5.setCell ⟨gr, 0, none⟩ (.string nm)).setCell ⟨gr, 1, none⟩ (.int .i64 (a1 : Int))).setCell ⟨gr, 2, none⟩ (.int .i64 (a2 : Int))).setCell ⟨gr, 3, none⟩ (.string cs)).setCell ⟨gr, 4, none⟩ (.bool sa)).setCell ⟨gr, 5, none⟩ (.string na)).setCell ⟨gr, 6, none⟩ (.string da)).setCell ⟨gr, 7, none⟩ (.int .i64 (a4 : Int))).setCell ⟨gr, 8, none⟩ (.int .i64 (a5 : Int))).setCell ⟨gr, 9, none⟩ (.bool false)).setCell ⟨gr, 10, none⟩ (.string ⟨#[]⟩)).setCell ⟨gr, 11, none⟩ (.string ⟨#[]⟩)).setCell ⟨gr, 12, none⟩ (.int .i64 0)).setCell ⟨gr, 13, none⟩ (.int .i64 ((a6 : Int) - 1))) := ⟨_, rfl⟩
     have hSz : SX w.heap.size x0 x1 x2 x3 x4 x5 gl m cs wz := by rw [hwz]; exact sx14 hS5 (by omega) (by omega) _ _ _ _ _ _ _ _ _ _ _ _ _ _
     have HGz : Hid (DBox (w.heap.size + 1) ⟨#[]⟩ 0 0 ⟨#[]⟩ false ⟨#[]⟩ ⟨#[]⟩ 0 0 false ⟨#[]⟩ ⟨#[]⟩ 0 0 wz) := by rw [hwz]; exact db14 HG5.out (by omega) _ _ _ _ _ _ _ _ _ _ _ _ _ _
     have HBz : Hid (Below w.heap.size w wz) := by rw [hwz]; exact be14 HB5.out (by omega) _ _ _ _ _ _ _ _ _ _ _ _ _ _
     have HRz : Hid (DBox gr nm a1 a2 cs sa na da a4 a5 false ⟨#[]⟩ ⟨#[]⟩ 0 ((a6 : Int) - 1) wz) := by rw [hwz]; exact HR5.out.set nm a1 a2 cs sa na da a4 a5 false ⟨#[]⟩ ⟨#[]⟩ 0 ((a6 : Int) - 1)
     rw [← hwz]
     clear hwz hS5 HG5 HB5 HR5
     refine hK.out _ _ hSz (fun _ => ?_)
     clear hK K
     refine wpAnyH_done (by as_aux_lemma => kernel_rfl) ?_ _
     (try go_wp2_with fail)
     go_meet
     exact ⟨gr, ⟨nm, a1, a2, cs, am, a4, a5, 0, 0, (a6 : Int) - 1⟩, rfl, ⟨⟨HNO.out, ⟨by show (0 : Int) ≤ (a1 : Int); omega, by show (a1 : Int) ≤ (7 : Int); omega⟩, ⟨by show (0 : Int) ≤ (a2 : Int); omega, by show (a2 : Int) ≤ (31 : Int); omega⟩, HCO.out, HSZ.out.2, HSZ.out.1, ⟨by show (0 : Int) ≤ (a4 : Int); omega, by show (a4 : Int) ≤ (1048576 : Int); omega⟩, ⟨by show (0 : Int) ≤ (a5 : Int); omega, by show (a5 : Int) ≤ (7 : Int); omega⟩, Rat.le_refl, sz_zero, ⟨by show (0 : Int) ≤ 0; decide, by show (0 : Int) ≤ 1048576; decide⟩, fun _ => rfl, ⟨by show (-1 : Int) ≤ (a6 : Int) - 1; omega, by show (a6 : Int) - 1 ≤ (7 : Int); omega⟩⟩, by show (a4 : Int) ≤ 49; omega⟩, rfl, rfl, by unfold DBD; dsimp only; rw [(ratV_eq HAV.out).1, (ratV_eq HAV.out).2.1, (ratV_eq HAV.out).2.2, rneg_zero, rnum_zero, rden_zero]; exact HRz.out, hSz.x, HGz.out, HBz.out, hr36⟩
   ·
    obtain ⟨gr, hgr⟩ : ∃ g, g = W2.heap.size := ⟨_, rfl⟩
    have hr36 : w.heap.size + 1 < gr := by rw [hgr]; exact HG2.out.lt
    have hl36 : gl < gr := by rw [hgr]; exact hS2.l.2
    go_simp
    obtain ⟨W3, hW3⟩ : ∃ W, W = W2.alloc (.cells #[.string ⟨#[]⟩, .int .i64 0, .int .i64 0, .string ⟨#[]⟩, .bool false, .string ⟨#[]⟩, .string ⟨#[]⟩, .int .i64 0, .int .i64 0, .bool false, .string ⟨#[]⟩, .string ⟨#[]⟩, .int .i64 0, .int .i64 0] 63) := ⟨_, rfl⟩
    have hb : Below W2.heap.size W2 W3 := by rw [hW3]; exact bel_alloc _ _
    have HR3 : Hid (DBox gr ⟨#[]⟩ 0 0 ⟨#[]⟩ false ⟨#[]⟩ ⟨#[]⟩ 0 0 false ⟨#[]⟩ ⟨#[]⟩ 0 0 W3) := by rw [hW3, hgr]; exact blk_new _ _
    have hS3 := hS2.next hb
    have HB3 := ben HB2 hb
    have HG3 := Lib.hid (HG2.out.next hb)
    clear hb hS2 HB2 HG2
    rw [← hW3]
    (try rw [← hgr])
    clear hW3 hgr
    refine hK.out _ _ hS3 (fun _ => ?_)
    clear hK K
    refine tra 2 (fun K hK => ?_)
    go_simp
    refine (HNM.out _).mono ?_
    rintro e W4 ⟨nm, rfl, hnm, hb⟩
    have HNO := Lib.hid hnm
    have hS4 := hS3.next hb
    have HB4 := ben HB3 hb
    have HG4 := Lib.hid (HG3.out.next hb)
    have HR4 := Lib.hid (HR3.out.next hb)
    clear hb hS3 HB3 HG3 HR3
    clear hnm
    refine hK.out _ _ hS4 (fun _ => ?_)
    clear hK K
    refine tra 20 (fun K hK => ?_)
    go_simp
    refine (HAM.out _).mono ?_
    rintro e W5 ⟨am, rfl, hsz, hb⟩
    have HSZ := Lib.hid hsz
    have hS5 := hS4.next hb
    have HB5 := ben HB4 hb
    have HG5 := Lib.hid (HG4.out.next hb)
    have HR5 := Lib.hid (HR4.out.next hb)
    clear hb hS4 HB4 HG4 HR4
    obtain ⟨sa, na, da, ham⟩ : ∃ a b c, ratV am = .agg #[.bool a, .string b, .string c] := ⟨_, _, _, rfl⟩
    rw [ham]
    have HAV := Lib.hid ham
    clear hsz ham
    refine hK.out _ _ hS5 (fun _ => ?_)
    clear hK K
    refine tka 35 hS5 ?_
    go_simp
    refine tra 37 (fun K hK => ?_)
    obtain ⟨f0, f1, f2, f3, f4, f5, f6, f7, f8, f9, f10, f11, f12, f13, fz⟩ := HR5.out.free
    obtain ⟨c0, c1, c2, c3, c4, c5, c6, c7, c8, c9, c10, c11, c12, c13⟩ := HR5.out.cells
    go_simp
    clear f0 f1 f2 f3 f4 f5 f6 f7 f8 f9 f10 f11 f12 f13 fz c0 c1 c2 c3 c4 c5 c6 c7 c8 c9 c10 c11 c12 c13
    obtain ⟨wz, hwz⟩ : ∃ W, W = ((((((((((((((W5.setCell ⟨gr, 0, none⟩ (.string nm)).setCell ⟨gr, 1, none⟩ (.int .i64 (a1 : Int))).setCell ⟨gr, 2, none⟩ (.int .i64 (a2 : Int))).setCell ⟨gr, 3, none⟩ (.string cs)).setCell ⟨gr, 4, none⟩ (.bool sa)).setCell ⟨gr, 5, none⟩ (.string na)).setCell ⟨gr, 6, none⟩ (.string da)).setCell ⟨gr, 7, none⟩ (.int .i64 (a4 : Int))).setCell ⟨gr, 8, none⟩ (.int .i64 (a5 : Int))).setCell ⟨gr, 9, none⟩ (.bool false)).setCell ⟨gr, 10, none⟩ (.string ⟨#[]⟩)).setCell ⟨gr, 11, none⟩ (.string ⟨#[]⟩)).setCell ⟨gr, 12, none⟩ (.int .i64 0)).setCell ⟨gr, 13, none⟩ (.int .i64 ((a6 : Int) - 1))) := ⟨_, rfl⟩
    have hSz : SX w.heap.size x0 x1 x2 x3 x4 x5 gl m cs wz := by rw [hwz]; exact sx14 hS5 (by omega) (by omega) _ _ _ _ _ _ _ _ _ _ _ _ _ _
    have HGz : Hid (DBox (w.heap.size + 1) ⟨#[]⟩ 0 0 ⟨#[]⟩ false ⟨#[]⟩ ⟨#[]⟩ 0 0 false ⟨#[]⟩ ⟨#[]⟩ 0 0 wz) := by rw [hwz]; exact db14 HG5.out (by omega) _ _ _ _ _ _ _ _ _ _ _ _ _ _
    have HBz : Hid (Below w.heap.size w wz) := by rw [hwz]; exact be14 HB5.out (by omega) _ _ _ _ _ _ _ _ _ _ _ _ _ _
    have HRz : Hid (DBox gr nm a1 a2 cs sa na da a4 a5 false ⟨#[]⟩ ⟨#[]⟩ 0 ((a6 : Int) - 1) wz) := by rw [hwz]; exact HR5.out.set nm a1 a2 cs sa na da a4 a5 false ⟨#[]⟩ ⟨#[]⟩ 0 ((a6 : Int) - 1)
    rw [← hwz]
    clear hwz hS5 HG5 HB5 HR5
    refine hK.out _ _ hSz (fun _ => ?_)
    clear hK K
    refine wpAnyH_done (by as_aux_lemma => kernel_rfl) ?_ _
    (try go_wp2_with fail)
    go_meet
    exact ⟨gr, ⟨nm, a1, a2, cs, am, a4, a5, 0, 0, (a6 : Int) - 1⟩, rfl, ⟨⟨HNO.out, ⟨by show (0 : Int) ≤ (a1 : Int); omega, by show (a1 : Int) ≤ (7 : Int); omega⟩, ⟨by show (0 : Int) ≤ (a2 : Int); omega, by show (a2 : Int) ≤ (31 : Int); omega⟩, HCO.out, HSZ.out.2, HSZ.out.1, ⟨by show (0 : Int) ≤ (a4 : Int); omega, by show (a4 : Int) ≤ (1048576 : Int); omega⟩, ⟨by show (0 : Int) ≤ (a5 : Int); omega, by show (a5 : Int) ≤ (7 : Int); omega⟩, Rat.le_refl, sz_zero, ⟨by show (0 : Int) ≤ 0; decide, by show (0 : Int) ≤ 1048576; decide⟩, fun _ => rfl, ⟨by show (-1 : Int) ≤ (a6 : Int) - 1; omega, by show (a6 : Int) - 1 ≤ (7 : Int); omega⟩⟩, by show (a4 : Int) ≤ 49; omega⟩, rfl, rfl, by unfold DBD; dsimp only; rw [(ratV_eq HAV.out).1, (ratV_eq HAV.out).2.1, (ratV_eq HAV.out).2.2, rneg_zero, rnum_zero, rden_zero]; exact HRz.out, hSz.x, HGz.out, HBz.out, hr36⟩
  ·
   obtain ⟨gr, hgr⟩ : ∃ g, g = W1.heap.size := ⟨_, rfl⟩
   have hr36 : w.heap.size + 1 < gr := by rw [hgr]; exact HG1.out.lt
   go_simp
   obtain ⟨W2, hW2⟩ : ∃ W, W = W1.alloc (.cells #[.string ⟨#[]⟩, .int .i64 0, .int .i64 0, .string ⟨#[]⟩, .bool false, .string ⟨#[]⟩, .string ⟨#[]⟩, .int .i64 0, .int .i64 0, .bool false, .string ⟨#[]⟩, .string ⟨#[]⟩, .int .i64 0, .int .i64 0] 63) := ⟨_, rfl⟩
   have hb : Below W1.heap.size W1 W2 := by rw [hW2]; exact bel_alloc _ _
   have HR2 : Hid (DBox gr ⟨#[]⟩ 0 0 ⟨#[]⟩ false ⟨#[]⟩ ⟨#[]⟩ 0 0 false ⟨#[]⟩ ⟨#[]⟩ 0 0 W2) := by rw [hW2, hgr]; exact blk_new _ _
   have hS2 := hS1.next hb
   have HB2 := ben HB1 hb
   have HG2 := Lib.hid (HG1.out.next hb)
   clear hb hS1 HB1 HG1
   rw [← hW2]
   (try rw [← hgr])
   clear hW2 hgr
   refine hK.out _ _ hS2 (fun _ => ?_)
   clear hK K
   refine wpAnyH_ready (rs := [2, 12]) (by as_aux_lemma => kernel_rfl) (by simp) ?_
   refine AllReadyH.cons rfl (fun K hK => ?_) (AllReadyH.cons rfl (fun K hK => ?_) AllReadyH.nil)
   ·
    go_simp
    refine (HNM.out _).mono ?_
    rintro e W3 ⟨nm, rfl, hnm, hb⟩
    have HNO := Lib.hid hnm
    have hS3 := hS2.next hb
    have HB3 := ben HB2 hb
    have HG3 := Lib.hid (HG2.out.next hb)
    have HR3 := Lib.hid (HR2.out.next hb)
    clear hb hS2 HB2 HG2 HR2
    clear hnm
    refine hK.out _ _ hS3 (fun _ => ?_)
    clear hK K
    refine wpAnyH_ready (rs := [12, 20]) (by as_aux_lemma => kernel_rfl) (by simp) ?_
    refine AllReadyH.cons rfl (fun K hK => ?_) (AllReadyH.cons rfl (fun K hK => ?_) AllReadyH.nil)
    ·
     obtain ⟨gl, hgl⟩ : ∃ g, g = W3.heap.size := ⟨_, rfl⟩
     have hl12 : w.heap.size + 1 < gl := by rw [hgl]; exact HG3.out.lt
     have hl36 : gr < gl := by rw [hgl]; exact HR3.out.lt
     go_simp
     obtain ⟨W4, hW4⟩ : ∃ W, W = W3.alloc (.cells #[.string ⟨#[69, 85, 82]⟩, .string ⟨#[69, 85, 82]⟩, .string ⟨#[85, 83, 68]⟩, .string ⟨#[71, 66, 80]⟩] 9) := ⟨_, rfl⟩
     have hb : Below W3.heap.size W3 W4 := by rw [hW4]; exact bel_alloc _ _
     have HLS : Hid (LS gl m cs W4) := by rw [hW4, hgl]; exact ⟨HCS.out _, by simp⟩
     have hS4 := hS3.next hb
     have HB4 := ben HB3 hb
     have HG4 := Lib.hid (HG3.out.next hb)
     have HR4 := Lib.hid (HR3.out.next hb)
     clear hb hS3 HB3 HG3 HR3
     rw [← hW4]
     (try rw [← hgl])
     clear hW4 hgl
     refine hK.out _ _ hS4 (fun _ => ?_)
     clear hK K
     have hS4 : SX w.heap.size x0 x1 x2 x3 x4 x5 gl m cs W4 := ⟨hS4, HLS.out⟩
     clear HLS
     refine wpAnyH_more (S' := SX w.heap.size x0 x1 x2 x3 x4 x5 gl m cs) (fun _ h => h.x) _ _ _ _ ?_
     refine tka 16 hS4 ?_
     go_simp
     refine tva 17 (.string cs) rfl (by intro w' hw'; have k0 := hw'.l.1; go_simp) hS4 ?_
     go_simp
     refine tra 20 (fun K hK => ?_)
     go_simp
     refine (HAM.out _).mono ?_
     rintro e W5 ⟨am, rfl, hsz, hb⟩
     have HSZ := Lib.hid hsz
     have hS5 := hS4.next hb
     have HB5 := ben HB4 hb
     have HG5 := Lib.hid (HG4.out.next hb)
     have HR5 := Lib.hid (HR4.out.next hb)
     clear hb hS4 HB4 HG4 HR4
     obtain ⟨sa, na, da, ham⟩ : ∃ a b c, ratV am = .agg #[.bool a, .string b, .string c] := ⟨_, _, _, rfl⟩
     rw [ham]
     have HAV := Lib.hid ham
     clear hsz ham
     refine hK.out _ _ hS5 (fun _ => ?_)
     clear hK K
     refine tka 35 hS5 ?_
     go_simp
     refine tra 37 (fun K hK => ?_)
     obtain ⟨f0, f1, f2, f3, f4, f5, f6, f7, f8, f9, f10, f11, f12, f13, fz⟩ := HR5.out.free
     obtain ⟨c0, c1, c2, c3, c4, c5, c6, c7, c8, c9, c10, c11, c12, c13⟩ := HR5.out.cells
     go_simp
     clear f0 f1 f2 f3 f4 f5 f6 f7 f8 f9 f10 f11 f12 f13 fz c0 c1 c2 c3 c4 c5 c6 c7 c8 c9 c10 c11 c12 c13
     obtain ⟨wz, hwz⟩ : ∃ W, W = ((((((((((((((W5.setCell ⟨gr, 0, none⟩ (.string nm)).setCell ⟨gr, 1, none⟩ (.int .i64 (a1 : Int))).setCell ⟨gr, 2, none⟩ (.int .i64 (a2 : Int))).setCell ⟨gr, 3, none⟩ (.string cs)).setCell ⟨gr, 4, none⟩ (.bool sa)).setCell ⟨gr, 5, none⟩ (.string na)).setCell ⟨gr, 6, none⟩ (.string da)).setCell ⟨gr, 7, none⟩ (.int .i64 (a4 : Int))).setCell ⟨gr, 8, none⟩ (.int .i64 (a5 : Int))).setCell ⟨gr, 9, none⟩ (.bool false)).setCell ⟨gr, 10, none⟩ (.string ⟨#[]⟩)).setCell ⟨gr, 11, none⟩ (.string ⟨#[]⟩)).setCell ⟨gr, 12, none⟩ (.int .i64 0)).setCell ⟨gr, 13, none⟩ (.int .i64 ((a6 : Int) - 1))) := ⟨_, rfl⟩
     have hSz : SX w.heap.size x0 x1 x2 x3 x4 x5 gl m cs wz := by rw [hwz]; exact sx14 hS5 (by omega) (by omega) _ _ _ _ _ _ _ _ _ _ _ _ _ _
     have HGz : Hid (DBox (w.heap.size + 1) ⟨#[]⟩ 0 0 ⟨#[]⟩ false ⟨#[]⟩ ⟨#[]⟩ 0 0 false ⟨#[]⟩ ⟨#[]⟩ 0 0 wz) := by rw [hwz]; exact db14 HG5.out (by omega) _ _ _ _ _ _ _ _ _ _ _ _ _ _
     have HBz : Hid (Below w.heap.size w wz) := by rw [hwz]; exact be14 HB5.out (by omega) _ _ _ _ _ _ _ _ _ _ _ _ _ _
     have HRz : Hid (DBox gr nm a1 a2 cs sa na da a4 a5 false ⟨#[]⟩ ⟨#[]⟩ 0 ((a6 : Int) - 1) wz) := by rw [hwz]; exact HR5.out.set nm a1 a2 cs sa na da a4 a5 false ⟨#[]⟩ ⟨#[]⟩ 0 ((a6 : Int) - 1)
     rw [← hwz]
     clear hwz hS5 HG5 HB5 HR5
     refine hK.out _ _ hSz (fun _ => ?_)
     clear hK K
     refine wpAnyH_done (by as_aux_lemma => kernel_rfl) ?_ _
     (try go_wp2_with fail)
     go_meet
     exact ⟨gr, ⟨nm, a1, a2, cs, am, a4, a5, 0, 0, (a6 : Int) - 1⟩, rfl, ⟨⟨HNO.out, ⟨by show (0 : Int) ≤ (a1 : Int); omega, by show (a1 : Int) ≤ (7 : Int); omega⟩, ⟨by show (0 : Int) ≤ (a2 : Int); omega, by show (a2 : Int) ≤ (31 : Int); omega⟩, HCO.out, HSZ.out.2, HSZ.out.1, ⟨by show (0 : Int) ≤ (a4 : Int); omega, by show (a4 : Int) ≤ (1048576 : Int); omega⟩, ⟨by show (0 : Int) ≤ (a5 : Int); omega, by show (a5 : Int) ≤ (7 : Int); omega⟩, Rat.le_refl, sz_zero, ⟨by show (0 : Int) ≤ 0; decide, by show (0 : Int) ≤ 1048576; decide⟩, fun _ => rfl, ⟨by show (-1 : Int) ≤ (a6 : Int) - 1; omega, by show (a6 : Int) - 1 ≤ (7 : Int); omega⟩⟩, by show (a4 : Int) ≤ 49; omega⟩, rfl, rfl, by unfold DBD; dsimp only; rw [(ratV_eq HAV.out).1, (ratV_eq HAV.out).2.1, (ratV_eq HAV.out).2.2, rneg_zero, rnum_zero, rden_zero]; exact HRz.out, hSz.x, HGz.out, HBz.out, hr36⟩
    ·
     go_simp
     refine (HAM.out _).mono ?_
     rintro e W4 ⟨am, rfl, hsz, hb⟩
     have HSZ := Lib.hid hsz
     have hS4 := hS3.next hb
     have HB4 := ben HB3 hb
     have HG4 := Lib.hid (HG3.out.next hb)
     have HR4 := Lib.hid (HR3.out.next hb)
     clear hb hS3 HB3 HG3 HR3
     obtain ⟨sa, na, da, ham⟩ : ∃ a b c, ratV am = .agg #[.bool a, .string b, .string c] := ⟨_, _, _, rfl⟩
     rw [ham]
     have HAV := Lib.hid ham
     clear hsz ham
     refine hK.out _ _ hS4 (fun _ => ?_)
     clear hK K
     refine tra 12 (fun K hK => ?_)
     obtain ⟨gl, hgl⟩ : ∃ g, g = W4.heap.size := ⟨_, rfl⟩
     have hl12 : w.heap.size + 1 < gl := by rw [hgl]; exact HG4.out.lt
     have hl36 : gr < gl := by rw [hgl]; exact HR4.out.lt
     go_simp
     obtain ⟨W5, hW5⟩ : ∃ W, W = W4.alloc (.cells #[.string ⟨#[69, 85, 82]⟩, .string ⟨#[69, 85, 82]⟩, .string ⟨#[85, 83, 68]⟩, .string ⟨#[71, 66, 80]⟩] 9) := ⟨_, rfl⟩
     have hb : Below W4.heap.size W4 W5 := by rw [hW5]; exact bel_alloc _ _
     have HLS : Hid (LS gl m cs W5) := by rw [hW5, hgl]; exact ⟨HCS.out _, by simp⟩
     have hS5 := hS4.next hb
     have HB5 := ben HB4 hb
     have HG5 := Lib.hid (HG4.out.next hb)
     have HR5 := Lib.hid (HR4.out.next hb)
     clear hb hS4 HB4 HG4 HR4
     rw [← hW5]
     (try rw [← hgl])
     clear hW5 hgl
     refine hK.out _ _ hS5 (fun _ => ?_)
     clear hK K
     have hS5 : SX w.heap.size x0 x1 x2 x3 x4 x5 gl m cs W5 := ⟨hS5, HLS.out⟩
     clear HLS
     refine wpAnyH_more (S' := SX w.heap.size x0 x1 x2 x3 x4 x5 gl m cs) (fun _ h => h.x) _ _ _ _ ?_
     refine tka 16 hS5 ?_
     go_simp
     refine tva 17 (.string cs) rfl (by intro w' hw'; have k0 := hw'.l.1; go_simp) hS5 ?_
     go_simp
     refine tka 35 hS5 ?_
     go_simp
     refine tra 37 (fun K hK => ?_)
     obtain ⟨f0, f1, f2, f3, f4, f5, f6, f7, f8, f9, f10, f11, f12, f13, fz⟩ := HR5.out.free
     obtain ⟨c0, c1, c2, c3, c4, c5, c6, c7, c8, c9, c10, c11, c12, c13⟩ := HR5.out.cells
     go_simp
     clear f0 f1 f2 f3 f4 f5 f6 f7 f8 f9 f10 f11 f12 f13 fz c0 c1 c2 c3 c4 c5 c6 c7 c8 c9 c10 c11 c12 c13
     obtain ⟨wz, hwz⟩ : ∃ W, W = ((((((((((((((W5.setCell ⟨gr, 0, none⟩ (.string nm)).setCell ⟨gr, 1, none⟩ (.int .i64 (a1 : Int))).setCell ⟨gr, 2, none⟩ (.int .i64 (a2 : Int))).setCell ⟨gr, 3, none⟩ (.string cs)).setCell ⟨gr, 4, none⟩ (.bool sa)).setCell ⟨gr, 5, none⟩ (.string na)).setCell ⟨gr, 6, none⟩ (.string da)).setCell ⟨gr, 7, none⟩ (.int .i64 (a4 : Int))).setCell ⟨gr, 8, none⟩ (.int .i64 (a5 : Int))).setCell ⟨gr, 9, none⟩ (.bool false)).setCell ⟨gr, 10, none⟩ (.string ⟨#[]⟩)).setCell ⟨gr, 11, none⟩ (.string ⟨#[]⟩)).setCell ⟨gr, 12, none⟩ (.int .i64 0)).setCell ⟨gr, 13, none⟩ (.int .i64 ((a6 : Int) - 1))) := ⟨_, rfl⟩
     have hSz : SX w.heap.size x0 x1 x2 x3 x4 x5 gl m cs wz := by rw [hwz]; exact sx14 hS5 (by omega) (by omega) _ _ _ _ _ _ _ _ _ _ _ _ _ _
     have HGz : Hid (DBox (w.heap.size + 1) ⟨#[]⟩ 0 0 ⟨#[]⟩ false ⟨#[]⟩ ⟨#[]⟩ 0 0 false ⟨#[]⟩ ⟨#[]⟩ 0 0 wz) := by rw [hwz]; exact db14 HG5.out (by omega) _ _ _ _ _ _ _ _ _ _ _ _ _ _
     have HBz : Hid (Below w.heap.size w wz) := by rw [hwz]; exact be14 HB5.out (by omega) _ _ _ _ _ _ _ _ _ _ _ _ _ _
     have HRz : Hid (DBox gr nm a1 a2 cs sa na da a4 a5 false ⟨#[]⟩ ⟨#[]⟩ 0 ((a6 : Int) - 1) wz) := by rw [hwz]; exact HR5.out.set nm a1 a2 cs sa na da a4 a5 false ⟨#[]⟩ ⟨#[]⟩ 0 ((a6 : Int) - 1)
     rw [← hwz]
     clear hwz hS5 HG5 HB5 HR5
     refine hK.out _ _ hSz (fun _ => ?_)
     clear hK K
     refine wpAnyH_done (by as_aux_lemma => kernel_rfl) ?_ _
     (try go_wp2_with fail)
     go_meet
     exact ⟨gr, ⟨nm, a1, a2, cs, am, a4, a5, 0, 0, (a6 : Int) - 1⟩, rfl, ⟨⟨HNO.out, ⟨by show (0 : Int) ≤ (a1 : Int); omega, by show (a1 : Int) ≤ (7 : Int); omega⟩, ⟨by show (0 : Int) ≤ (a2 : Int); omega, by show (a2 : Int) ≤ (31 : Int); omega⟩, HCO.out, HSZ.out.2, HSZ.out.1, ⟨by show (0 : Int) ≤ (a4 : Int); omega, by show (a4 : Int) ≤ (1048576 : Int); omega⟩, ⟨by show (0 : Int) ≤ (a5 : Int); omega, by show (a5 : Int) ≤ (7 : Int); omega⟩, Rat.le_refl, sz_zero, ⟨by show (0 : Int) ≤ 0; decide, by show (0 : Int) ≤ 1048576; decide⟩, fun _ => rfl, ⟨by show (-1 : Int) ≤ (a6 : Int) - 1; omega, by show (a6 : Int) - 1 ≤ (7 : Int); omega⟩⟩, by show (a4 : Int) ≤ 49; omega⟩, rfl, rfl, by unfold DBD; dsimp only; rw [(ratV_eq HAV.out).1, (ratV_eq HAV.out).2.1, (ratV_eq HAV.out).2.2, rneg_zero, rnum_zero, rden_zero]; exact HRz.out, hSz.x, HGz.out, HBz.out, hr36⟩
   ·
    obtain ⟨gl, hgl⟩ : ∃ g, g = W2.heap.size := ⟨_, rfl⟩
    have hl12 : w.heap.size + 1 < gl := by rw [hgl]; exact HG2.out.lt
    have hl36 : gr < gl := by rw [hgl]; exact HR2.out.lt
    go_simp
    obtain ⟨W3, hW3⟩ : ∃ W, W = W2.alloc (.cells #[.string ⟨#[69, 85, 82]⟩, .string ⟨#[69, 85, 82]⟩, .string ⟨#[85, 83, 68]⟩, .string ⟨#[71, 66, 80]⟩] 9) := ⟨_, rfl⟩
    have hb : Below W2.heap.size W2 W3 := by rw [hW3]; exact bel_alloc _ _
    have HLS : Hid (LS gl m cs W3) := by rw [hW3, hgl]; exact ⟨HCS.out _, by simp⟩
    have hS3 := hS2.next hb
    have HB3 := ben HB2 hb
    have HG3 := Lib.hid (HG2.out.next hb)
    have HR3 := Lib.hid (HR2.out.next hb)
    clear hb hS2 HB2 HG2 HR2
    rw [← hW3]
    (try rw [← hgl])
    clear hW3 hgl
    refine hK.out _ _ hS3 (fun _ => ?_)
    clear hK K
    have hS3 : SX w.heap.size x0 x1 x2 x3 x4 x5 gl m cs W3 := ⟨hS3, HLS.out⟩
    clear HLS
    refine wpAnyH_more (S' := SX w.heap.size x0 x1 x2 x3 x4 x5 gl m cs) (fun _ h => h.x) _ _ _ _ ?_
    refine tka 16 hS3 ?_
    go_simp
    refine tva 17 (.string cs) rfl (by intro w' hw'; have k0 := hw'.l.1; go_simp) hS3 ?_
    go_simp
    refine tra 2 (fun K hK => ?_)
    go_simp
    refine (HNM.out _).mono ?_
    rintro e W4 ⟨nm, rfl, hnm, hb⟩
    have HNO := Lib.hid hnm
    have hS4 := hS3.next hb
    have HB4 := ben HB3 hb
    have HG4 := Lib.hid (HG3.out.next hb)
    have HR4 := Lib.hid (HR3.out.next hb)
    clear hb hS3 HB3 HG3 HR3
    clear hnm
    refine hK.out _ _ hS4 (fun _ => ?_)
    clear hK K
    refine tra 20 (fun K hK => ?_)
    go_simp
    refine (HAM.out _).mono ?_
    rintro e W5 ⟨am, rfl, hsz, hb⟩
    have HSZ := Lib.hid hsz
    have hS5 := hS4.next hb
    have HB5 := ben HB4 hb
    have HG5 := Lib.hid (HG4.out.next hb)
    have HR5 := Lib.hid (HR4.out.next hb)
    clear hb hS4 HB4 HG4 HR4
    obtain ⟨sa, na, da, ham⟩ : ∃ a b c, ratV am = .agg #[.bool a, .string b, .string c] := ⟨_, _, _, rfl⟩
    rw [ham]
    have HAV := Lib.hid ham
    clear hsz ham
    refine hK.out _ _ hS5 (fun _ => ?_)
    clear hK K
    refine tka 35 hS5 ?_
    go_simp
    refine tra 37 (fun K hK => ?_)
    obtain ⟨f0, f1, f2, f3, f4, f5, f6, f7, f8, f9, f10, f11, f12, f13, fz⟩ := HR5.out.free
    obtain ⟨c0, c1, c2, c3, c4, c5, c6, c7, c8, c9, c10, c11, c12, c13⟩ := HR5.out.cells
    go_simp
    clear f0 f1 f2 f3 f4 f5 f6 f7 f8 f9 f10 f11 f12 f13 fz c0 c1 c2 c3 c4 c5 c6 c7 c8 c9 c10 c11 c12 c13
    obtain ⟨wz, hwz⟩ : ∃ W, W = ((((((((((((((W5.setCell ⟨gr, 0, none⟩ (.string nm)).setCell ⟨gr, 1, none⟩ (.int .i64 (a1 : Int))).setCell ⟨gr, 2, none⟩ (.int .i64 (a2 : Int))).setCell ⟨gr, 3, none⟩ (.string cs)).setCell ⟨gr, 4, none⟩ (.bool sa)).setCell ⟨gr, 5, none⟩ (.string na)).setCell ⟨gr, 6, none⟩ (.string da)).setCell ⟨gr, 7, none⟩ (.int .i64 (a4 : Int))).setCell ⟨gr, 8, none⟩ (.int .i64 (a5 : Int))).setCell ⟨gr, 9, none⟩ (.bool false)).setCell ⟨gr, 10, none⟩ (.string ⟨#[]⟩)).setCell ⟨gr, 11, none⟩ (.string ⟨#[]⟩)).setCell ⟨gr, 12, none⟩ (.int .i64 0)).setCell ⟨gr, 13, none⟩ (.int .i64 ((a6 : Int) - 1))) := ⟨_, rfl⟩
    have hSz : SX w.heap.size x0 x1 x2 x3 x4 x5 gl m cs wz := by rw [hwz]; exact sx14 hS5 (by omega) (by omega) _ _ _ _ _ _ _ _ _ _ _ _ _ _
    have HGz : Hid (DBox (w.heap.size + 1) ⟨#[]⟩ 0 0 ⟨#[]⟩ false ⟨#[]⟩ ⟨#[]⟩ 0 0 false ⟨#[]⟩ ⟨#[]⟩ 0 0 wz) := by rw [hwz]; exact db14 HG5.out (by omega) _ _ _ _ _ _ _ _ _ _ _ _ _ _
    have HBz : Hid (Below w.heap.size w wz) := by rw [hwz]; exact be14 HB5.out (by omega) _ _ _ _ _ _ _ _ _ _ _ _ _ _
    have HRz : Hid (DBox gr nm a1 a2 cs sa na da a4 a5 false ⟨#[]⟩ ⟨#[]⟩ 0 ((a6 : Int) - 1) wz) := by rw [hwz]; exact HR5.out.set nm a1 a2 cs sa na da a4 a5 false ⟨#[]⟩ ⟨#[]⟩ 0 ((a6 : Int) - 1)
    rw [← hwz]
    clear hwz hS5 HG5 HB5 HR5
    refine hK.out _ _ hSz (fun _ => ?_)
    clear hK K
    refine wpAnyH_done (by as_aux_lemma => kernel_rfl) ?_ _
    (try go_wp2_with fail)
    go_meet
    exact ⟨gr, ⟨nm, a1, a2, cs, am, a4, a5, 0, 0, (a6 : Int) - 1⟩, rfl, ⟨⟨HNO.out, ⟨by show (0 : Int) ≤ (a1 : Int); omega, by show (a1 : Int) ≤ (7 : Int); omega⟩, ⟨by show (0 : Int) ≤ (a2 : Int); omega, by show (a2 : Int) ≤ (31 : Int); omega⟩, HCO.out, HSZ.out.2, HSZ.out.1, ⟨by show (0 : Int) ≤ (a4 : Int); omega, by show (a4 : Int) ≤ (1048576 : Int); omega⟩, ⟨by show (0 : Int) ≤ (a5 : Int); omega, by show (a5 : Int) ≤ (7 : Int); omega⟩, Rat.le_refl, sz_zero, ⟨by show (0 : Int) ≤ 0; decide, by show (0 : Int) ≤ 1048576; decide⟩, fun _ => rfl, ⟨by show (-1 : Int) ≤ (a6 : Int) - 1; omega, by show (a6 : Int) - 1 ≤ (7 : Int); omega⟩⟩, by show (a4 : Int) ≤ 49; omega⟩, rfl, rfl, by unfold DBD; dsimp only; rw [(ratV_eq HAV.out).1, (ratV_eq HAV.out).2.1, (ratV_eq HAV.out).2.2, rneg_zero, rnum_zero, rden_zero]; exact HRz.out, hSz.x, HGz.out, HBz.out, hr36⟩
 case rest =>
  obtain ⟨gr, d, rfl, hd, hr0, hf0, hD, hX, hG, hB, hlt⟩ := hcut
  rename World => wc
  clear HNM HAM HCO HCS e1 e2 e3 e4 e5 e6 b1 b2 b3 b3i b4 b5 b6 q1 q5 v1 v2 v4 v5 v6 v7
  have HOK := Lib.hid hd.1
  have HNC := Lib.hid hd.2
  have HX := Lib.hid hX
  have HG := Lib.hid hG
  have HB := Lib.hid hB
  clear hd hX hG hB
  obtain ⟨nm, es, cr, co, am, nc, rk, rt, fr, se⟩ := d
  dsimp only at hr0 hf0
  subst hr0 hf0
  unfold DBD at hD
  dsimp only at hD
  rw [rneg_zero, rnum_zero, rden_zero] at hD
  obtain ⟨sa, hsa⟩ : ∃ x, x = rneg am := ⟨_, rfl⟩
  obtain ⟨na, hna⟩ : ∃ x, x = rnum am := ⟨_, rfl⟩
  obtain ⟨da, hda⟩ : ∃ x, x = rden am := ⟨_, rfl⟩
  rw [← hsa, ← hna, ← hda] at hD
  have HD := Lib.hid hD
  have HAV := Lib.hid (And.intro hsa (And.intro hna hda))
  clear hD hsa hna hda
  obtain ⟨k0, k1, k2, k3, k4, k5⟩ := HX.out.cells
  by_cases h30 : (x2 : Int) % 3 = 0
  ·
   obtain ⟨kk, e7, b7⟩ : ∃ a : Nat, (x2 : Int) / 4 % 9 = (a : Int) ∧ a < 9 := ⟨x2 / 4 % 9, by omega, by omega⟩
   obtain ⟨ff, e8, b8⟩ : ∃ a : Nat, (x4 : Int) / 50 % 60 = (a : Int) ∧ a < 60 := ⟨x4 / 50 % 60, by omega, by omega⟩
   obtain ⟨qq, hqq⟩ : ∃ q, quoQ (1 + (kk : Int)) 100 = q := ⟨_, rfl⟩
   have hqs : SzN qq := by rw [← hqq]; exact szn_quo (by omega) (by omega) (by omega) (by omega)
   have hqp : 0 < qq := by rw [← hqq]; exact quo_pos (by omega) (by omega)
   have HRA' := fun W => ratio_calls (1 + (kk : Int)) 100 W (by omega) (by omega) (by omega) (by omega) (by omega) qq hqq
   obtain ⟨sr, nr, dr, hqv⟩ : ∃ a b c, ratV qq = .agg #[.bool a, .string b, .string c] := ⟨_, _, _, rfl⟩
   rw [hqv] at HRA'
   have HRA := Lib.hid HRA'
   have HQV := Lib.hid hqv
   have HQS := Lib.hid (And.intro hqs hqp)
   clear HRA' hqv hqs hqp hqq
   go_wp2_with fail
   clear k0 k1 k2 k3 k4 k5
   refine (HRA.out _).mono ?_
   rintro e w2 ⟨rfl, hb⟩
   have HD2 := Lib.hid (HD.out.next hb)
   have HG2 := Lib.hid (HG.out.next hb)
   have HX2 := Lib.hid (HX.out.next hb)
   have HB2 := ben HB hb
   clear hb HD HG HX HB
   obtain ⟨k0, k1, k2, k3, k4, k5⟩ := HX2.out.cells
   obtain ⟨c0, c1, c2, c3, c4, c5, c6, c7, c8, c9, c10, c11, c12, c13⟩ := HD2.out.cells
   obtain ⟨f0, f1, f2, f3, f4, f5, f6, f7, f8, f9, f10, f11, f12, f13, fz⟩ := HD2.out.free
   obtain ⟨g0, g1, g2, g3, g4, g5, g6, g7, g8, g9, g10, g11, g12, g13, gz⟩ := HG2.out.free
   obtain ⟨r0, r1, r2, r3, r4, r5, r6, r7, r8, r9, r10, r11, r12, r13⟩ := HG2.out.cells
   go_wp2_with fail
   exact bodyPost_ret (v := .agg #[.string nm, .int .i64 es, .int .i64 cr, .string co, .bool sa, .string na, .string da, .int .i64 nc, .int .i64 rk, .bool sr, .string nr, .string dr, .int .i64 (ff : Int), .int .i64 se]) (by simp [results, Tryz.results43, go_sem, r0, r1, r2, r3, r4, r5, r6, r7, r8, r9, r10, r11, r12, r13]) rfl
    ⟨⟨nm, es, cr, co, am, nc, rk, qq, (ff : Int), se⟩, ⟨⟨HOK.out.id, HOK.out.est, HOK.out.cred, HOK.out.code, HOK.out.amt, HOK.out.asz, HOK.out.inc, HOK.out.rank, HQS.out.1.2, HQS.out.1.1, ⟨by show (0 : Int) ≤ (ff : Int); omega, by show (ff : Int) ≤ 1048576; omega⟩, fun e => absurd HQS.out.2 (by rw [show qq = 0 from e]; decide), HOK.out.sec⟩, HNC.out⟩, by unfold dcV; dsimp only; rw [← HAV.out.1, ← HAV.out.2.1, ← HAV.out.2.2, (ratV_eq HQV.out).1, (ratV_eq HQV.out).2.1, (ratV_eq HQV.out).2.2], ((((((((((((((((((HB2.out.setCell (by simp <;> omega) _).setCell (by simp <;> omega) _).setCell (by simp <;> omega) _).setCell (by simp <;> omega) _).setCell (by simp <;> omega) _).setCell (by simp <;> omega) _).setCell (by simp <;> omega) _).setCell (by simp <;> omega) _).setCell (by simp <;> omega) _).setCell (by simp <;> omega) _).setCell (by simp <;> omega) _).setCell (by simp <;> omega) _).setCell (by simp <;> omega) _).setCell (by simp <;> omega) _).setCell (by simp <;> omega) _).setCell (by simp <;> omega) _).setCell (by simp <;> omega) _).setCell (by simp <;> omega) _)⟩
  ·
   obtain ⟨c0, c1, c2, c3, c4, c5, c6, c7, c8, c9, c10, c11, c12, c13⟩ := HD.out.cells
   obtain ⟨g0, g1, g2, g3, g4, g5, g6, g7, g8, g9, g10, g11, g12, g13, gz⟩ := HG.out.free
   obtain ⟨r0, r1, r2, r3, r4, r5, r6, r7, r8, r9, r10, r11, r12, r13⟩ := HG.out.cells
   have h3b : ((x2 : Int) % 3 == 0) = false := beq_eq_false_iff_ne.2 h30
   clear h30
   go_wp2_with fail
   exact bodyPost_ret (v := .agg #[.string nm, .int .i64 es, .int .i64 cr, .string co, .bool sa, .string na, .string da, .int .i64 nc, .int .i64 rk, .bool false, .string ⟨#[]⟩, .string ⟨#[]⟩, .int .i64 0, .int .i64 se]) (by simp [results, Tryz.results43, go_sem, r0, r1, r2, r3, r4, r5, r6, r7, r8, r9, r10, r11, r12, r13]) rfl
    ⟨⟨nm, es, cr, co, am, nc, rk, 0, 0, se⟩, ⟨HOK.out, HNC.out⟩, by unfold dcV; dsimp only; rw [← HAV.out.1, ← HAV.out.2.1, ← HAV.out.2.2, rneg_zero, rnum_zero, rden_zero], ((((((((((((((HB.out.setCell (by simp <;> omega) _).setCell (by simp <;> omega) _).setCell (by simp <;> omega) _).setCell (by simp <;> omega) _).setCell (by simp <;> omega) _).setCell (by simp <;> omega) _).setCell (by simp <;> omega) _).setCell (by simp <;> omega) _).setCell (by simp <;> omega) _).setCell (by simp <;> omega) _).setCell (by simp <;> omega) _).setCell (by simp <;> omega) _).setCell (by simp <;> omega) _).setCell (by simp <;> omega) _)⟩
end Go.Proofs.YtjlicnhkemfmiaaGreatDoor

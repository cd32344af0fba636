/- waterfall.Check of an estate without cash and agreements, whose claims are good. -/
import Derived.Test.YtjlicnhkemfmiaaGreatDoorSq
import Derived.Test.YtjlicnhkemfmiaaGreatDoorM17
import Derived.Test.YtjlicnhkemfmiaaGreatDoorTMul
import Derived.Test.YtjlicnhkemfmiaaGreatDoorTDay
set_option linter.unusedVariables false
set_option linter.unusedSimpArgs false
set_option maxHeartbeats 8000000
set_option maxRecDepth 100000
namespace Go.Proofs.YtjlicnhkemfmiaaGreatDoor
open Go.RowKit

def clV (c : Cl) : List Value := [.int .i64 (-1), .int .i64 (c.rank : Int), .bool (rneg c.amt), .string (rnum c.amt), .string (rden c.amt)]
abbrev estV (A : Option Addr) (n c : Nat) : Value := .agg #[.bool false, .string ⟨#[]⟩, .string ⟨#[]⟩, .slice A n c, .slice none 0 0]
def EBox (q : Nat) (A : Option Addr) (n c : Nat) (W : World) : Prop := W.heap[q]? = some (.cells #[.bool false, .string ⟨#[]⟩, .string ⟨#[]⟩, .slice A n c, .slice none 0 0] 37 (0, 0))
theorem EBox.next {q : Nat} {A : Option Addr} {n c : Nat} {W W' : World} (h : EBox q A n c W) (hb : Below W.heap.size W W') : EBox q A n c W' := blk_next h hb
theorem EBox.cells {q : Nat} {A : Option Addr} {n c : Nat} {W : World} (h : EBox q A n c W) : W.cell? ⟨q, 0, none⟩ = some (.bool false) ∧ W.cell? ⟨q, 1, none⟩ = some (.string ⟨#[]⟩) ∧ W.cell? ⟨q, 2, none⟩ = some (.string ⟨#[]⟩) ∧ W.cell? ⟨q, 3, none⟩ = some (.slice A n c) ∧ W.cell? ⟨q, 4, none⟩ = some (.slice none 0 0) := by
 refine ⟨?_, ?_, ?_, ?_, ?_⟩
 ·
  rw [cell_of_row W q 0 _ _ (0, 0) h]; rfl
 ·
  rw [cell_of_row W q 1 _ _ (0, 0) h]; rfl
 ·
  rw [cell_of_row W q 2 _ _ (0, 0) h]; rfl
 ·
  rw [cell_of_row W q 3 _ _ (0, 0) h]; rfl
 ·
  rw [cell_of_row W q 4 _ _ (0, 0) h]; rfl
/-- a claim's box -/
def CBox (g : Nat) (rk : Int) (sa : Bool) (na da : ByteArray) (W : World) : Prop := W.heap[g]? = some (.cells #[.int .i64 (-1), .int .i64 rk, .bool sa, .string na, .string da] 40 (0, 0))
theorem CBox.next {g : Nat} {rk : Int} {sa : Bool} {na da : ByteArray} {W W' : World} (h : CBox g rk sa na da W) (hb : Below W.heap.size W W') : CBox g rk sa na da W' := blk_next h hb
theorem CBox.cells {g : Nat} {rk : Int} {sa : Bool} {na da : ByteArray} {W : World} (h : CBox g rk sa na da W) : W.cell? ⟨g, 0, none⟩ = some (.int .i64 (-1)) ∧ W.cell? ⟨g, 1, none⟩ = some (.int .i64 rk) ∧ W.cell? ⟨g, 2, none⟩ = some (.bool sa) ∧ W.cell? ⟨g, 3, none⟩ = some (.string na) ∧ W.cell? ⟨g, 4, none⟩ = some (.string da) := by
 refine ⟨?_, ?_, ?_, ?_, ?_⟩
 ·
  rw [cell_of_row W g 0 _ _ (0, 0) h]; rfl
 ·
  rw [cell_of_row W g 1 _ _ (0, 0) h]; rfl
 ·
  rw [cell_of_row W g 2 _ _ (0, 0) h]; rfl
 ·
  rw [cell_of_row W g 3 _ _ (0, 0) h]; rfl
 ·
  rw [cell_of_row W g 4 _ _ (0, 0) h]; rfl
theorem Tryz.info_boolQ : (Tryz.prog.info? 4).map (fun i => (i.zero, i.size, i.bytes)) = some (some (.bool false), 1, 1) := by kernel_rfl
theorem make_boolsQ (m : Nat) (hm : m ≤ 1000) (W : World) : (Instr.makeSlice 128 (.int .i64 (m : Int)) (.int .i64 (m : Int))).run Tryz.prog W = .ok (.slice (some ⟨W.heap.size, 0, none⟩) m m) (W.alloc (.cells (madeCells #[.bool false] m) 4)) := by
 obtain ⟨i, hi, hz, hs, hb⟩ := info_parts Tryz.info_boolQ
 have := run_make (P := Tryz.prog) W 128 4 i _ Tryz.underlying128 hi hz .i64 .i64 m m (by omega) (Int.le_refl _) (by rw [hb]; omega) (by omega)
 simp only [Int.toNat_natCast, hs, Nat.mul_one] at this
 exact this

theorem wChk_calls (A : Option Addr) (n c : Nat) (l : List Cl) (z : Nat) (w : World) (hn : n = l.length) (h24 : n ≤ 24) (hr : Rd w w.heap.size 5 A l.length (l.flatMap clV)) (hok : ClsOk l) (hz : ∀ c ∈ l, Sz z c.amt) (hzz : z ≤ 1000) :
 Calls Tryz.prog 33 #[estV A n c] w fun e w' => e = .returned (.int .i64 0) ∧ Below w.heap.size w w' := by
 have HS0' := fun W => pSignQ_calls 0 8 W ⟨by decide, by decide⟩ (by omega)
 rw [ratV_zero, show sgnR 0 = 0 from rfl] at HS0'
 have HS0 := Lib.hid HS0'
 have HSC := Lib.hid (fun (c : Cl) (hc : c ∈ l) W => pSignQ_calls c.amt z W (hz c hc) (by omega))
 have HL := Lib.hid (And.intro hn (And.intro hr hok))
 have d0 : decide (24 < (n : Int)) = false := decide_eq_false (by omega)
 have hmk' := fun W => make_boolsQ n (by omega) W
 have HMK := Lib.hid hmk'
 clear hmk' HS0' hn hr hok hz hzz
 go_enter Tryz.func33, Tryz.ntmps33
 go_wp2_with fail
 obtain ⟨q, hq⟩ : ∃ q, q = w.heap.size := ⟨_, rfl⟩
 obtain ⟨w0, hw0⟩ : ∃ W, W = w.alloc (.cells #[.bool false, .string ⟨#[]⟩, .string ⟨#[]⟩, .slice A n c, .slice none 0 0] 37) := ⟨_, rfl⟩
 have HE0 : Hid (EBox q A n c w0) := by rw [hw0, hq]; exact blk_new _ _
 have HB0 : Hid (Below w.heap.size w w0) := by rw [hw0]; exact bel_alloc _ _
 rw [← hw0, ← hq]
 clear hw0 hq
 refine (HS0.out _).mono ?_
 rintro e w1 ⟨rfl, hb⟩
 have HE1 := Lib.hid (HE0.out.next hb)
 have HB1 := ben HB0 hb
 clear hb HE0 HB0 HS0
 obtain ⟨c0, c1, c2, c3, c4⟩ := HE1.out.cells
 go_wp2_with fail
 clear c0 c1 c2 c3 c4
 go_loopw [30] (fun i wr => ∃ k : Nat, k ≤ n ∧ i = .int .i64 (k : Int) ∧ Hid (EBox q A n c wr) ∧ Hid (Below w.heap.size w wr)) (fun i _ => n - (intOf i).toNat)
 case atStart => exact ⟨0, Nat.zero_le _, rfl, HE1, HB1⟩
 case round =>
  clear HE1 HB1
  obtain ⟨k, hk, rfl, HE, HB⟩ := hrel
  rename World => wo
  by_cases hlt : k < n
  ·
   have hlt2 : (k : Int) < (n : Int) := by omega
   obtain ⟨x, hx⟩ := getElem?_of_lt (l := l) (k := k) (by rw [← HL.out.1]; exact hlt)
   have hxo := HL.out.2.2.each x (List.mem_of_getElem? hx)
   have HS' := HSC.out x (List.mem_of_getElem? hx)
   obtain ⟨b, off, hA, _, hc⟩ := Rd.at_ (enc := clV) (fun _ => rfl) (HL.out.2.1.next HB.out) hx
   subst hA
   have p0 := hc 0 _ rfl
   have p1 := hc 1 _ rfl
   have p2 := hc 2 _ rfl
   have p3 := hc 3 _ rfl
   have p4 := hc 4 _ rfl
   rw [Nat.add_zero] at p0
   rw [← Nat.add_assoc] at p1 p2 p3 p4
   clear hc hx
   have g1 := sgn_nn hxo.2
   have hrk := hxo.1
   obtain ⟨rk, am⟩ := x
   dsimp only at p1 p2 p3 p4 HS' g1 hrk
   obtain ⟨y, hy⟩ : ∃ y, y = sgnR am := ⟨_, rfl⟩
   rw [← hy] at HS' g1
   have d1 : decide (y < 0) = false := decide_eq_false (by omega)
   have d2 : decide ((rk : Int) < 0) = false := decide_eq_false (by omega)
   have d3 : decide (7 < (rk : Int)) = false := decide_eq_false (by omega)
   unfold ratV at HS'
   obtain ⟨sa, hsa⟩ : ∃ x, x = rneg am := ⟨_, rfl⟩
   obtain ⟨na, hna⟩ : ∃ x, x = rnum am := ⟨_, rfl⟩
   obtain ⟨da, hda⟩ : ∃ x, x = rden am := ⟨_, rfl⟩
   rw [← hsa] at p2 HS'
   rw [← hna] at p3 HS'
   rw [← hda] at p4 HS'
   have HS := Lib.hid HS'
   clear HS' hsa hna hda hy hxo g1
   go_wp2_with fail
   clear p0 p1 p2 p3 p4
   obtain ⟨w5, hw5⟩ : ∃ W, W = wo.alloc (.cells #[.int .i64 (-1), .int .i64 (rk : Int), .bool sa, .string na, .string da] 40) := ⟨_, rfl⟩
   have HE5 : Hid (EBox q (some ⟨b, off, none⟩) n c w5) := by rw [hw5]; exact HE.out.next (bel_alloc _ _)
   have HB5 := bea HB hw5
   rw [← hw5]
   clear hw5 HE HB
   refine (HS.out _).mono ?_
   rintro e w6 ⟨rfl, hb⟩
   have HE6 := Lib.hid (HE5.out.next hb)
   have HB6 := ben HB5 hb
   clear hb HE5 HB5
   go_wp2_with fail
   go_roundw
   case measure => simp [intOf] <;> omega
   case rel => exact ⟨k + 1, by omega, by go_num, HE6, HB6⟩
  ·
   have hlt2 : ¬ (k : Int) < (n : Int) := by omega
   obtain ⟨c0, c1, c2, c3, c4⟩ := HE.out.cells
   have hmk := HMK.out wo
   obtain ⟨d0, d1, d2, d3, d4⟩ := (HE.out.next (bel_alloc wo (.cells (madeCells #[.bool false] n) 4))).cells
   have HB5 : Hid (Below w.heap.size w (wo.alloc (.cells (madeCells #[.bool false] n) 4))) := HB.out.alloc HB.out.size _
   clear HE HB
   go_wp2_with fail
   clear hmk
   clear d0 d1 d2 d3 d4 c0 c1 c2 c3 c4
   go_loopw [65] (fun i wr => i = .int .i64 0 ∧ Hid (Below w.heap.size w wr)) (fun _ _ => 0)
   case atStart => exact ⟨rfl, HB5⟩
   case round =>
    obtain ⟨rfl, HB⟩ := hrel
    go_wp2_with fail
    go_ret
    exact ⟨rfl, HB.out⟩

end Go.Proofs.YtjlicnhkemfmiaaGreatDoor

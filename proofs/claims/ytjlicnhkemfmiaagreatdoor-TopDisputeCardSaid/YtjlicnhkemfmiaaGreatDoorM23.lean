/- Merged of TBld TAwk. -/
import Derived.Test.YtjlicnhkemfmiaaGreatDoorTVal
import Derived.Test.YtjlicnhkemfmiaaGreatDoorM16
/- insolvencylaw0.Amount (not negative), Name, Proof. -/
set_option linter.unusedVariables false
set_option linter.unusedSimpArgs false
set_option maxHeartbeats 8000000
set_option maxRecDepth 100000
namespace Go.Proofs.YtjlicnhkemfmiaaGreatDoor
open Go.RowKit

theorem rv_nn (n : Nat) {d : Nat} (hd : d ≠ 0) : 0 ≤ rv false n d := by
 by_cases h : n = 0
 ·
  rw [h, rv_zero]; exact Rat.le_refl
 ·
  have h1 := rv_neg (b := false) h hd
  rw [rneg_lt] at h1
  exact Rat.not_lt.1 (of_decide_eq_false h1)
theorem rv_ps {n d : Nat} (hn : n ≠ 0) (hd : d ≠ 0) : 0 < rv false n d := by
 refine Rat.lt_of_le_of_ne (rv_nn n hd) fun e => ?_
 have h1 : (0 : Rat).num.natAbs = (rv false n d).num.natAbs := by rw [← e]
 have h2 : (rv false n d).num.natAbs = n / Nat.gcd n d := rv_num hd
 have h3 : n / Nat.gcd n d ≠ 0 := by
  have hg : 0 < Nat.gcd n d := Nat.gcd_pos_of_pos_left _ (Nat.pos_of_ne_zero hn)
  have := Nat.div_pos (Nat.gcd_le_left d (Nat.pos_of_ne_zero hn)) hg
  omega
 rw [h2] at h1
 exact h3 h1.symm
def SzN (q : Rat) : Prop := Sz 8 q ∧ 0 ≤ q
theorem szn_int {n : Int} (h0 : 0 ≤ n) (h : n < 256) : SzN (n : Rat) := by
 refine ⟨sz_int h0 h, ?_⟩
 obtain ⟨m, rfl⟩ : ∃ m : Nat, n = (m : Int) := ⟨n.toNat, by omega⟩
 have e : ((m : Int) : Rat) = rv false m 1 := by rw [rv]; exact (Rat.mkRat_one _).symm
 rw [e]; exact rv_nn m (by decide)
theorem quo_rv {a b : Int} (ha : 0 ≤ a) (hb : 0 < b) : quoQ a b = rv false a.natAbs b.natAbs := by
 rw [quoQ, decide_eq_false (show ¬ a < 0 by omega), decide_eq_false (show ¬ b < 0 by omega)]; rfl
theorem szn_quo {a b : Int} (ha : 0 ≤ a) (ha2 : a < 256) (hb : 0 < b) (hb2 : b < 256) : SzN (quoQ a b) := ⟨sz_quo ha ha2 hb hb2, by rw [quo_rv ha hb]; exact rv_nn _ (by omega)⟩
theorem quo_pos {a b : Int} (ha : 0 < a) (hb : 0 < b) : 0 < quoQ a b := by rw [quo_rv (by omega) hb]; exact rv_ps (by omega) (by omega)
/-- a small number that is not negative is returned -/
def AmtNN (w : World) (e : Ending) (w' : World) : Prop := ∃ q : Rat, e = .returned (ratV q) ∧ SzN q ∧ Below w.heap.size w w'

theorem amountN_calls (x : Nat) (w : World) (hx : x ≤ 65535) : Calls Tryz.prog 9 #[.int .u16 (x : Int)] w (AmtNN w) := by
 have fin : ∀ (q : Rat) (w2 : World) (hb : Below w.heap.size w w2), SzN q → AmtNN w (.returned (ratV q)) w2 := fun q w2 hb h => ⟨q, rfl, h, hb⟩
 have HFIN := Lib.hid fin
 clear fin
 by_cases h0 : x % 5 = 0
 ·
  have hm : (x : Int) % 5 = 0 := by omega
  obtain ⟨a, ha⟩ : ∃ a, a = x / 5 % 23 := ⟨_, rfl⟩
  obtain ⟨b, hb⟩ : ∃ b, b = 1 + x / 115 % 6 := ⟨_, rfl⟩
  have hai : (x : Int) / 5 % 23 = (a : Int) := by omega
  have hbi : (1 : Int) + (x : Int) / 115 % 6 = (b : Int) := by omega
  have hal : a < 23 := by omega
  have hbl : b < 7 := by omega
  have hb1 : 1 ≤ b := by omega
  obtain ⟨q, hq⟩ : ∃ q, quoQ (a : Int) (b : Int) = q := ⟨_, rfl⟩
  have HS : Hid (SzN q) := by rw [← hq]; exact szn_quo (by omega) (by omega) (by omega) (by omega)
  have H1 := Lib.hid (fun w => ratio_calls (a : Int) (b : Int) w (by omega) (by omega) (by omega) (by omega) (by omega) q hq)
  obtain ⟨sq, hsq⟩ : ∃ b, rneg q = b := ⟨_, rfl⟩
  obtain ⟨nq, hnq⟩ : ∃ b, rnum q = b := ⟨_, rfl⟩
  obtain ⟨dq, hdq⟩ : ∃ b, rden q = b := ⟨_, rfl⟩
  have HV := Lib.hid (ratV_def q hsq hnq hdq)
  clear ha hb hq h0 hsq hnq hdq
  go_enter Tryz.func9, Tryz.ntmps9
  go_wp2_with fail
  refine (H1.out _).mono ?_
  rintro e w2 ⟨rfl, hb2⟩
  obtain ⟨c0, c1, c2, f0, f1, f2, hz⟩ := three_of (blk_next (blk_new w (.cells #[.bool false, .string ⟨#[]⟩, .string ⟨#[]⟩] 33)) hb2)
  have HB2 : Hid (Below w.heap.size w w2) := (bel_alloc _ _).trans (hb2.mono (by simp))
  rw [HV.out]
  clear hb2
  go_wp2_with fail
  exact bodyPost_ret (v := .agg #[.bool sq, .string nq, .string dq]) (by simp [results, Tryz.results9, go_sem, c0, c1, c2]) rfl (by rw [← HV.out]; exact HFIN.out q _ (((HB2.out.setCell (by simp) _).setCell (by simp) _).setCell (by simp) _) HS.out)
 ·
  have hm0 : ((x : Int) % 5 == 0) = false := by simp; omega
  have main : ∀ (n : Int) (h0 : 0 ≤ n) (h1 : n < 256), ∃ q : Rat, SzN q ∧ ∀ w, Calls Tryz.prog 26 #[.int .i64 n] w fun e w' => e = .returned (ratV q) ∧ Below w.heap.size w w' := fun n h0 h1 => ⟨(n : Rat), szn_int h0 h1, fun w => whole_calls n w (by omega) (by omega)⟩
  by_cases h1 : x % 5 = 1
  ·
   have hm : (x : Int) % 5 = 1 := by omega
   obtain ⟨a, ha⟩ : ∃ a, a = x / 5 % 4 := ⟨_, rfl⟩
   have hai : (x : Int) / 5 % 4 = (a : Int) := by omega
   obtain ⟨b, hb⟩ : ∃ b, b = 10 * a := ⟨_, rfl⟩
   have hbi : (10 : Int) * (a : Int) = (b : Int) := by omega
   have hal : a < 4 := by omega
   obtain ⟨q, hsz, hcl⟩ := main (b : Int) (by omega) (by omega)
   have HS := Lib.hid hsz
   have H1 := Lib.hid hcl
   obtain ⟨sq, hsq⟩ : ∃ b, rneg q = b := ⟨_, rfl⟩
   obtain ⟨nq, hnq⟩ : ∃ b, rnum q = b := ⟨_, rfl⟩
   obtain ⟨dq, hdq⟩ : ∃ b, rden q = b := ⟨_, rfl⟩
   have HV := Lib.hid (ratV_def q hsq hnq hdq)
   clear ha hb h0 h1 hsq hnq hdq hm0 hsz hcl main
   go_enter Tryz.func9, Tryz.ntmps9
   go_wp2_with fail
   refine (H1.out _).mono ?_
   rintro e w2 ⟨rfl, hb2⟩
   obtain ⟨c0, c1, c2, f0, f1, f2, hz⟩ := three_of (blk_next (blk_new w (.cells #[.bool false, .string ⟨#[]⟩, .string ⟨#[]⟩] 33)) hb2)
   have HB2 : Hid (Below w.heap.size w w2) := (bel_alloc _ _).trans (hb2.mono (by simp))
   rw [HV.out]
   clear hb2
   go_wp2_with fail
   exact bodyPost_ret (v := .agg #[.bool sq, .string nq, .string dq]) (by simp [results, Tryz.results9, go_sem, c0, c1, c2]) rfl (by rw [← HV.out]; exact HFIN.out q _ (((HB2.out.setCell (by simp) _).setCell (by simp) _).setCell (by simp) _) HS.out)
  ·
   have hm1 : ((x : Int) % 5 == 1) = false := by simp; omega
   obtain ⟨a, ha⟩ : ∃ a, a = x / 5 % 13 := ⟨_, rfl⟩
   have hai : (x : Int) / 5 % 13 = (a : Int) := by omega
   have hal : a < 13 := by omega
   obtain ⟨q, hsz, hcl⟩ := main (a : Int) (by omega) (by omega)
   have HS := Lib.hid hsz
   have H1 := Lib.hid hcl
   obtain ⟨sq, hsq⟩ : ∃ b, rneg q = b := ⟨_, rfl⟩
   obtain ⟨nq, hnq⟩ : ∃ b, rnum q = b := ⟨_, rfl⟩
   obtain ⟨dq, hdq⟩ : ∃ b, rden q = b := ⟨_, rfl⟩
   have HV := Lib.hid (ratV_def q hsq hnq hdq)
   clear ha h0 h1 hsq hnq hdq hsz hcl main
   go_enter Tryz.func9, Tryz.ntmps9
   go_wp2_with fail
   refine (H1.out _).mono ?_
   rintro e w2 ⟨rfl, hb2⟩
   obtain ⟨c0, c1, c2, f0, f1, f2, hz⟩ := three_of (blk_next (blk_new w (.cells #[.bool false, .string ⟨#[]⟩, .string ⟨#[]⟩] 33)) hb2)
   have HB2 : Hid (Below w.heap.size w w2) := (bel_alloc _ _).trans (hb2.mono (by simp))
   rw [HV.out]
   clear hb2
   go_wp2_with fail
   exact bodyPost_ret (v := .agg #[.bool sq, .string nq, .string dq]) (by simp [results, Tryz.results9, go_sem, c0, c1, c2]) rfl (by rw [← HV.out]; exact HFIN.out q _ (((HB2.out.setCell (by simp) _).setCell (by simp) _).setCell (by simp) _) HS.out)


theorem nameOk1 {a : UInt8} (h : isLet a.toNat = true) : nameOk ⟨#[a]⟩ := ⟨by show 0 < 1; decide, by show 1 ≤ 32; decide, h, fun i hi => by
 have : i < 1 := hi
 obtain rfl : i = 0 := by omega
 exact Or.inl h⟩
theorem name_s1 : nameOk ⟨#[115, 49]⟩ := ⟨by decide, by decide, by decide, fun i hi => by
 have : i < 2 := hi
 rcases i with _ | _ | i
 ·
  exact Or.inl (show isLet 115 = true by decide)
 ·
  exact Or.inr (Or.inl (show isDig 49 = true by decide))
 ·
  omega⟩
theorem name_s2 : nameOk ⟨#[115, 45, 50]⟩ := ⟨by decide, by decide, by decide, fun i hi => by
 have : i < 3 := hi
 rcases i with _ | _ | _ | i
 ·
  exact Or.inl (show isLet 115 = true by decide)
 ·
  exact Or.inr (Or.inr (Or.inl (show (45 : Nat) = 45 by decide)))
 ·
  exact Or.inr (Or.inl (show isDig 50 = true by decide))
 ·
  omega⟩
theorem name_t3 : nameOk ⟨#[116, 95, 51]⟩ := ⟨by decide, by decide, by decide, fun i hi => by
 have : i < 3 := hi
 rcases i with _ | _ | _ | i
 ·
  exact Or.inl (show isLet 116 = true by decide)
 ·
  exact Or.inr (Or.inr (Or.inr (show (95 : Nat) = 95 by decide)))
 ·
  exact Or.inr (Or.inl (show isDig 51 = true by decide))
 ·
  omega⟩
theorem code_ok (a b c : UInt8) (h : (65 ≤ a.toNat ∧ a.toNat ≤ 90) ∧ (65 ≤ b.toNat ∧ b.toNat ≤ 90) ∧ (65 ≤ c.toNat ∧ c.toNat ≤ 90)) : codeOk ⟨#[a, b, c]⟩ := ⟨rfl, fun i hi => by
 have : i < 3 := hi
 rcases i with _ | _ | _ | i
 ·
  exact h.1
 ·
  exact h.2.1
 ·
  exact h.2.2
 ·
  omega⟩
theorem name_calls (x : Nat) (w : World) (hx : x ≤ 65535) : Calls Tryz.prog 44 #[.int .u16 (x : Int)] w fun e w' => ∃ s : ByteArray, e = .returned (.string s) ∧ nameOk s ∧ Below w.heap.size w w' := by
 have h12 : (x : Int) % 12 = 0 ∨ (x : Int) % 12 = 1 ∨ (x : Int) % 12 = 2 ∨ (x : Int) % 12 = 3 ∨ (x : Int) % 12 = 4 ∨ (x : Int) % 12 = 5 ∨ (x : Int) % 12 = 6 ∨ (x : Int) % 12 = 7 ∨ (x : Int) % 12 = 8 ∨ (x : Int) % 12 = 9 ∨ (x : Int) % 12 = 10 ∨ (x : Int) % 12 = 11 := by omega
 rcases h12 with hm | hm | hm | hm | hm | hm | hm | hm | hm | hm | hm | hm
 ·
  go_enter Tryz.func44, Tryz.ntmps44
  go_wp2_with fail
  go_ret
  exact ⟨_, rfl, nameOk1 (by decide), bel_alloc _ _⟩
 ·
  go_enter Tryz.func44, Tryz.ntmps44
  go_wp2_with fail
  go_ret
  exact ⟨_, rfl, nameOk1 (by decide), bel_alloc _ _⟩
 ·
  go_enter Tryz.func44, Tryz.ntmps44
  go_wp2_with fail
  go_ret
  exact ⟨_, rfl, nameOk1 (by decide), bel_alloc _ _⟩
 ·
  go_enter Tryz.func44, Tryz.ntmps44
  go_wp2_with fail
  go_ret
  exact ⟨_, rfl, nameOk1 (by decide), bel_alloc _ _⟩
 ·
  go_enter Tryz.func44, Tryz.ntmps44
  go_wp2_with fail
  go_ret
  exact ⟨_, rfl, nameOk1 (by decide), bel_alloc _ _⟩
 ·
  go_enter Tryz.func44, Tryz.ntmps44
  go_wp2_with fail
  go_ret
  exact ⟨_, rfl, nameOk1 (by decide), bel_alloc _ _⟩
 ·
  go_enter Tryz.func44, Tryz.ntmps44
  go_wp2_with fail
  go_ret
  exact ⟨_, rfl, nameOk1 (by decide), bel_alloc _ _⟩
 ·
  go_enter Tryz.func44, Tryz.ntmps44
  go_wp2_with fail
  go_ret
  exact ⟨_, rfl, nameOk1 (by decide), bel_alloc _ _⟩
 ·
  go_enter Tryz.func44, Tryz.ntmps44
  go_wp2_with fail
  go_ret
  exact ⟨_, rfl, name_s1, bel_alloc _ _⟩
 ·
  go_enter Tryz.func44, Tryz.ntmps44
  go_wp2_with fail
  go_ret
  exact ⟨_, rfl, name_s2, bel_alloc _ _⟩
 ·
  go_enter Tryz.func44, Tryz.ntmps44
  go_wp2_with fail
  go_ret
  exact ⟨_, rfl, name_t3, bel_alloc _ _⟩
 ·
  go_enter Tryz.func44, Tryz.ntmps44
  go_wp2_with fail
  go_ret
  exact ⟨_, rfl, nameOk1 (by decide), bel_alloc _ _⟩

theorem wpAnyH_more {P : Program} {ops : Array Oper} {Q : Exit → Act → World → Prop} {md : Region.Mode} {S S' : World → Prop} (hs : ∀ w, S' w → S w) : ∀ (fuel : Nat) (listed : Array Bool) (a : Act) (w : World), wpAnyH P md ops Q S' fuel listed a w → wpAnyH P md ops Q S fuel listed a w
 | 0, _, _, _, h => h
 | fuel + 1, _, _, _, h => ⟨h.1, fun i hi => wpOp_mono (fun a' w' h' => ⟨hs _ h'.1, wpAnyH_more hs fuel _ a' w' h'.2⟩) (h.2 i hi)⟩
/-- six numbers' box -/
def XB (g : Nat) (x0 x1 x2 x3 x4 x5 : Nat) (W : World) : Prop := W.heap[g]? = some (.cells #[.int .u16 (x0 : Int), .int .u16 (x1 : Int), .int .u16 (x2 : Int), .int .u16 (x3 : Int), .int .u16 (x4 : Int), .int .u16 (x5 : Int)] 81 (0, 0))
theorem XB.next {g x0 x1 x2 x3 x4 x5 : Nat} {W W' : World} (h : XB g x0 x1 x2 x3 x4 x5 W) (hb : Below W.heap.size W W') : XB g x0 x1 x2 x3 x4 x5 W' := blk_next h hb
theorem XB.lt {g x0 x1 x2 x3 x4 x5 : Nat} {W : World} (h : XB g x0 x1 x2 x3 x4 x5 W) : g < W.heap.size := (Array.getElem?_eq_some_iff.1 h).1
theorem XB.cells {g x0 x1 x2 x3 x4 x5 : Nat} {W : World} (h : XB g x0 x1 x2 x3 x4 x5 W) : W.cell? ⟨g, 0, none⟩ = some (.int .u16 (x0 : Int)) ∧ W.cell? ⟨g, 1, none⟩ = some (.int .u16 (x1 : Int)) ∧ W.cell? ⟨g, 2, none⟩ = some (.int .u16 (x2 : Int)) ∧
 W.cell? ⟨g, 3, none⟩ = some (.int .u16 (x3 : Int)) ∧ W.cell? ⟨g, 4, none⟩ = some (.int .u16 (x4 : Int)) ∧ W.cell? ⟨g, 5, none⟩ = some (.int .u16 (x5 : Int)) := by
 refine ⟨?_, ?_, ?_, ?_, ?_, ?_⟩
 ·
  rw [cell_of_row W g 0 _ _ (0, 0) h]; rfl
 ·
  rw [cell_of_row W g 1 _ _ (0, 0) h]; rfl
 ·
  rw [cell_of_row W g 2 _ _ (0, 0) h]; rfl
 ·
  rw [cell_of_row W g 3 _ _ (0, 0) h]; rfl
 ·
  rw [cell_of_row W g 4 _ _ (0, 0) h]; rfl
 ·
  rw [cell_of_row W g 5 _ _ (0, 0) h]; rfl
/-- a string at a place of a list -/
def LS (g m : Nat) (s : ByteArray) (W : World) : Prop := W.cell? ⟨g, m, none⟩ = some (.string s) ∧ g < W.heap.size
theorem LS.next {g m : Nat} {s : ByteArray} {W W' : World} (h : LS g m s W) (hb : Below W.heap.size W W') : LS g m s W' := ⟨(hb.cell h.2).trans h.1, Nat.lt_of_lt_of_le h.2 hb.size⟩
structure SX (g x0 x1 x2 x3 x4 x5 : Nat) (l m : Nat) (s : ByteArray) (W : World) : Prop where
 x : XB g x0 x1 x2 x3 x4 x5 W
 l : LS l m s W
theorem SX.next {g x0 x1 x2 x3 x4 x5 l m : Nat} {s : ByteArray} {W W' : World} (h : SX g x0 x1 x2 x3 x4 x5 l m s W) (hb : Below W.heap.size W W') : SX g x0 x1 x2 x3 x4 x5 l m s W' := ⟨h.x.next hb, h.l.next hb⟩
section
variable {q : Nat} {i : ByteArray} {es cr : Int} {co : ByteArray} {sa : Bool} {na da : ByteArray} {nc rk : Int} {sr : Bool} {nr dr : ByteArray} {fr se : Int} {W : World}
theorem DBox.free (h : DBox q i es cr co sa na da nc rk sr nr dr fr se W) : W.frozen? ⟨q, 0, none⟩ = false ∧ W.frozen? ⟨q, 1, none⟩ = false ∧ W.frozen? ⟨q, 2, none⟩ = false ∧ W.frozen? ⟨q, 3, none⟩ = false ∧ W.frozen? ⟨q, 4, none⟩ = false ∧ W.frozen? ⟨q, 5, none⟩ = false ∧ W.frozen? ⟨q, 6, none⟩ = false ∧ W.frozen? ⟨q, 7, none⟩ = false ∧ W.frozen? ⟨q, 8, none⟩ = false ∧ W.frozen? ⟨q, 9, none⟩ = false ∧ W.frozen? ⟨q, 10, none⟩ = false ∧ W.frozen? ⟨q, 11, none⟩ = false ∧ W.frozen? ⟨q, 12, none⟩ = false ∧ W.frozen? ⟨q, 13, none⟩ = false ∧ q < W.heap.size :=
 ⟨frozen_of_row W _ 0 _ _ h, frozen_of_row W _ 1 _ _ h, frozen_of_row W _ 2 _ _ h, frozen_of_row W _ 3 _ _ h, frozen_of_row W _ 4 _ _ h, frozen_of_row W _ 5 _ _ h, frozen_of_row W _ 6 _ _ h, frozen_of_row W _ 7 _ _ h, frozen_of_row W _ 8 _ _ h, frozen_of_row W _ 9 _ _ h, frozen_of_row W _ 10 _ _ h, frozen_of_row W _ 11 _ _ h, frozen_of_row W _ 12 _ _ h, frozen_of_row W _ 13 _ _ h, (Array.getElem?_eq_some_iff.1 h).1⟩
theorem DBox.set (h : DBox q i es cr co sa na da nc rk sr nr dr fr se W) (i' : ByteArray) (es' cr' : Int) (co' : ByteArray) (sa' : Bool) (na' da' : ByteArray) (nc' rk' : Int) (sr' : Bool) (nr' dr' : ByteArray) (fr' se' : Int) :
 DBox q i' es' cr' co' sa' na' da' nc' rk' sr' nr' dr' fr' se' (((((((((((((((W.setCell ⟨q, 0, none⟩ (.string i')).setCell ⟨q, 1, none⟩ (.int .i64 es')).setCell ⟨q, 2, none⟩ (.int .i64 cr')).setCell ⟨q, 3, none⟩ (.string co')).setCell ⟨q, 4, none⟩ (.bool sa')).setCell ⟨q, 5, none⟩ (.string na')).setCell ⟨q, 6, none⟩ (.string da')).setCell ⟨q, 7, none⟩ (.int .i64 nc')).setCell ⟨q, 8, none⟩ (.int .i64 rk')).setCell ⟨q, 9, none⟩ (.bool sr')).setCell ⟨q, 10, none⟩ (.string nr')).setCell ⟨q, 11, none⟩ (.string dr')).setCell ⟨q, 12, none⟩ (.int .i64 fr')).setCell ⟨q, 13, none⟩ (.int .i64 se'))) := by
 have e0 : DBox q i' es cr co sa na da nc rk sr nr dr fr se (W.setCell ⟨q, 0, none⟩ (.string i')) := heap_setCell_same _ q 0 _ _ (.string i') h
 have e1 : DBox q i' es' cr co sa na da nc rk sr nr dr fr se ((W.setCell ⟨q, 0, none⟩ (.string i')).setCell ⟨q, 1, none⟩ (.int .i64 es')) := heap_setCell_same _ q 1 _ _ (.int .i64 es') e0
 have e2 : DBox q i' es' cr' co sa na da nc rk sr nr dr fr se (((W.setCell ⟨q, 0, none⟩ (.string i')).setCell ⟨q, 1, none⟩ (.int .i64 es')).setCell ⟨q, 2, none⟩ (.int .i64 cr')) := heap_setCell_same _ q 2 _ _ (.int .i64 cr') e1
 have e3 : DBox q i' es' cr' co' sa na da nc rk sr nr dr fr se ((((W.setCell ⟨q, 0, none⟩ (.string i')).setCell ⟨q, 1, none⟩ (.int .i64 es')).setCell ⟨q, 2, none⟩ (.int .i64 cr')).setCell ⟨q, 3, none⟩ (.string co')) := heap_setCell_same _ q 3 _ _ (.string co') e2
 have e4 : DBox q i' es' cr' co' sa' na da nc rk sr nr dr fr se (((((W.setCell ⟨q, 0, none⟩ (.string i')).setCell ⟨q, 1, none⟩ (.int .i64 es')).setCell ⟨q, 2, none⟩ (.int .i64 cr')).setCell ⟨q, 3, none⟩ (.string co')).setCell ⟨q, 4, none⟩ (.bool sa')) := heap_setCell_same _ q 4 _ _ (.bool sa') e3
 have e5 : DBox q i' es' cr' co' sa' na' da nc rk sr nr dr fr se ((((((W.setCell ⟨q, 0, none⟩ (.string i')).setCell ⟨q, 1, none⟩ (.int .i64 es')).setCell ⟨q, 2, none⟩ (.int .i64 cr')).setCell ⟨q, 3, none⟩ (.string co')).setCell ⟨q, 4, none⟩ (.bool sa')).setCell ⟨q, 5, none⟩ (.string na')) := heap_setCell_same _ q 5 _ _ (.string na') e4
 have e6 : DBox q i' es' cr' co' sa' na' da' nc rk sr nr dr fr se (((((((W.setCell ⟨q, 0, none⟩ (.string i')).setCell ⟨q, 1, none⟩ (.int .i64 es')).setCell ⟨q, 2, none⟩ (.int .i64 cr')).setCell ⟨q, 3, none⟩ (.string co')).setCell ⟨q, 4, none⟩ (.bool sa')).setCell ⟨q, 5, none⟩ (.string na')).setCell ⟨q, 6, none⟩ (.string da')) := heap_setCell_same _ q 6 _ _ (.string da') e5
 have e7 : DBox q i' es' cr' co' sa' na' da' nc' rk sr nr dr fr se ((((((((W.setCell ⟨q, 0, none⟩ (.string i')).setCell ⟨q, 1, none⟩ (.int .i64 es')).setCell ⟨q, 2, none⟩ (.int .i64 cr')).setCell ⟨q, 3, none⟩ (.string co')).setCell ⟨q, 4, none⟩ (.bool sa')).setCell ⟨q, 5, none⟩ (.string na')).setCell ⟨q, 6, none⟩ (.string da')).setCell ⟨q, 7, none⟩ (.int .i64 nc')) := heap_setCell_same _ q 7 _ _ (.int .i64 nc') e6
 have e8 : DBox q i' es' cr' co' sa' na' da' nc' rk' sr nr dr fr se (((((((((W.setCell ⟨q, 0, none⟩ (.string i')).setCell ⟨q, 1, none⟩ (.int .i64 es')).setCell ⟨q, 2, none⟩ (.int .i64 cr')).setCell ⟨q, 3, none⟩ (.string co')).setCell ⟨q, 4, none⟩ (.bool sa')).setCell ⟨q, 5, none⟩ (.string na')).setCell ⟨q, 6, none⟩ (.string da')).setCell ⟨q, 7, none⟩ (.int .i64 nc')).setCell ⟨q, 8, none⟩ (.int .i64 rk')) := heap_setCell_same _ q 8 _ _ (.int .i64 rk') e7
 have e9 : DBox q i' es' cr' co' sa' na' da' nc' rk' sr' nr dr fr se ((((((((((W.setCell ⟨q, 0, none⟩ (.string i')).setCell ⟨q, 1, none⟩ (.int .i64 es')).setCell ⟨q, 2, none⟩ (.int .i64 cr')).setCell ⟨q, 3, none⟩ (.string co')).setCell ⟨q, 4, none⟩ (.bool sa')).setCell ⟨q, 5, none⟩ (.string na')).setCell ⟨q, 6, none⟩ (.string da')).setCell ⟨q, 7, none⟩ (.int .i64 nc')).setCell ⟨q, 8, none⟩ (.int .i64 rk')).setCell ⟨q, 9, none⟩ (.bool sr')) := heap_setCell_same _ q 9 _ _ (.bool sr') e8
 have e10 : DBox q i' es' cr' co' sa' na' da' nc' rk' sr' nr' dr fr se (((((((((((W.setCell ⟨q, 0, none⟩ (.string i')).setCell ⟨q, 1, none⟩ (.int .i64 es')).setCell ⟨q, 2, none⟩ (.int .i64 cr')).setCell ⟨q, 3, none⟩ (.string co')).setCell ⟨q, 4, none⟩ (.bool sa')).setCell ⟨q, 5, none⟩ (.string na')).setCell ⟨q, 6, none⟩ (.string da')).setCell ⟨q, 7, none⟩ (.int .i64 nc')).setCell ⟨q, 8, none⟩ (.int .i64 rk')).setCell ⟨q, 9, none⟩ (.bool sr')).setCell ⟨q, 10, none⟩ (.string nr')) := heap_setCell_same _ q 10 _ _ (.string nr') e9
 have e11 : DBox q i' es' cr' co' sa' na' da' nc' rk' sr' nr' dr' fr se ((((((((((((W.setCell ⟨q, 0, none⟩ (.string i')).setCell ⟨q, 1, none⟩ (.int .i64 es')).setCell ⟨q, 2, none⟩ (.int .i64 cr')).setCell ⟨q, 3, none⟩ (.string co')).setCell ⟨q, 4, none⟩ (.bool sa')).setCell ⟨q, 5, none⟩ (.string na')).setCell ⟨q, 6, none⟩ (.string da')).setCell ⟨q, 7, none⟩ (.int .i64 nc')).setCell ⟨q, 8, none⟩ (.int .i64 rk')).setCell ⟨q, 9, none⟩ (.bool sr')).setCell ⟨q, 10, none⟩ (.string nr')).setCell ⟨q, 11, none⟩ (.string dr')) := heap_setCell_same _ q 11 _ _ (.string dr') e10
 have e12 : DBox q i' es' cr' co' sa' na' da' nc' rk' sr' nr' dr' fr' se (((((((((((((W.setCell ⟨q, 0, none⟩ (.string i')).setCell ⟨q, 1, none⟩ (.int .i64 es')).setCell ⟨q, 2, none⟩ (.int .i64 cr')).setCell ⟨q, 3, none⟩ (.string co')).setCell ⟨q, 4, none⟩ (.bool sa')).setCell ⟨q, 5, none⟩ (.string na')).setCell ⟨q, 6, none⟩ (.string da')).setCell ⟨q, 7, none⟩ (.int .i64 nc')).setCell ⟨q, 8, none⟩ (.int .i64 rk')).setCell ⟨q, 9, none⟩ (.bool sr')).setCell ⟨q, 10, none⟩ (.string nr')).setCell ⟨q, 11, none⟩ (.string dr')).setCell ⟨q, 12, none⟩ (.int .i64 fr')) := heap_setCell_same _ q 12 _ _ (.int .i64 fr') e11
 have e13 : DBox q i' es' cr' co' sa' na' da' nc' rk' sr' nr' dr' fr' se' ((((((((((((((W.setCell ⟨q, 0, none⟩ (.string i')).setCell ⟨q, 1, none⟩ (.int .i64 es')).setCell ⟨q, 2, none⟩ (.int .i64 cr')).setCell ⟨q, 3, none⟩ (.string co')).setCell ⟨q, 4, none⟩ (.bool sa')).setCell ⟨q, 5, none⟩ (.string na')).setCell ⟨q, 6, none⟩ (.string da')).setCell ⟨q, 7, none⟩ (.int .i64 nc')).setCell ⟨q, 8, none⟩ (.int .i64 rk')).setCell ⟨q, 9, none⟩ (.bool sr')).setCell ⟨q, 10, none⟩ (.string nr')).setCell ⟨q, 11, none⟩ (.string dr')).setCell ⟨q, 12, none⟩ (.int .i64 fr')).setCell ⟨q, 13, none⟩ (.int .i64 se')) := heap_setCell_same _ q 13 _ _ (.int .i64 se') e12
 exact e13
theorem DBox.lt (h : DBox q i es cr co sa na da nc rk sr nr dr fr se W) : q < W.heap.size := (Array.getElem?_eq_some_iff.1 h).1
end
theorem XB.set {g x0 x1 x2 x3 x4 x5 r j : Nat} {W : World} {v : Value} (h : XB g x0 x1 x2 x3 x4 x5 W) (hne : r ≠ g) : XB g x0 x1 x2 x3 x4 x5 (W.setCell ⟨r, j, none⟩ v) := (heap_setCell_other _ ⟨r, j, none⟩ g _ (Ne.symm hne)).trans h
theorem LS.set {l m r j : Nat} {s : ByteArray} {W : World} {v : Value} (h : LS l m s W) (hne : r ≠ l) : LS l m s (W.setCell ⟨r, j, none⟩ v) := ⟨(World.cell?_setCell_far W ⟨r, j, none⟩ ⟨l, m, none⟩ v hne).trans h.1, by rw [World.size_setCell]; exact h.2⟩
theorem SX.set {g x0 x1 x2 x3 x4 x5 l m r j : Nat} {s : ByteArray} {W : World} {v : Value} (h : SX g x0 x1 x2 x3 x4 x5 l m s W) (h1 : r ≠ g) (h2 : r ≠ l) : SX g x0 x1 x2 x3 x4 x5 l m s (W.setCell ⟨r, j, none⟩ v) := ⟨h.x.set h1, h.l.set h2⟩
theorem DBox.other {q r j : Nat} {i : ByteArray} {es cr : Int} {co : ByteArray} {sa : Bool} {na da : ByteArray} {nc rk : Int} {sr : Bool} {nr dr : ByteArray} {fr se : Int} {W : World} {v : Value} (h : DBox q i es cr co sa na da nc rk sr nr dr fr se W) (hne : r ≠ q) : DBox q i es cr co sa na da nc rk sr nr dr fr se (W.setCell ⟨r, j, none⟩ v) := (heap_setCell_other _ ⟨r, j, none⟩ q _ (Ne.symm hne)).trans h

end Go.Proofs.YtjlicnhkemfmiaaGreatDoor

/- insolvencytop.awakeValue; what the law TopInterest uses. -/
namespace Go.Proofs.YtjlicnhkemfmiaaGreatDoor
open Go.RowKit

theorem factD_sz {d : Dc} {k : Nat} (h : d.Ok k) {l : List Qt} (hl : QtsOk l) {cut : Int} (hc : cut ≤ 1048576) : Sz 31 (factD d l cut).1 := by
 have hr := rateQ_sz hl d.code cut
 unfold factD
 split
 ·
  exact sz_zero.mono (by decide)
 ·
  split
  ·
   exact sz_zero.mono (by decide)
  ·
   split
   ·
    exact hr.mono (by decide)
   ·
    rename_i h1 h2 h3
    have hf : d.frm ≤ cut := by
     by_cases hx : cut < d.frm
     ·
      exact absurd (Or.inr hx) h3
     ·
      omega
    obtain ⟨dd, hdd⟩ : ∃ m : Nat, cut - d.frm = (m : Int) := ⟨(cut - d.frm).toNat, by omega⟩
    have h4 : Sz 14 (d.rate * ((cut - d.frm : Int) : Rat) / ((365 : Int) : Rat)) := by
     rw [hdd]; exact (h.rsz.mul (k := 8) (m := 3) (sz_nat (by have := h.frm.1; omega))).div (k := 11) (m := 3) (sz_nat (n := 365) (by omega)) (by decide)
    exact hr.mul (sz_one.add h4)
def d7 : Dc := ⟨⟨#[97]⟩, 0, 0, eurB, ((7 : Int) : Rat), 0, 0, 0, 0, -1⟩
end Go.Proofs.YtjlicnhkemfmiaaGreatDoor

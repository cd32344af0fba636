/- The days' tests, names and codes; proof.Check of a good document. -/
import Derived.Test.YtjlicnhkemfmiaaGreatDoorSq
import Derived.Test.YtjlicnhkemfmiaaGreatDoorTMul
import Derived.Test.YtjlicnhkemfmiaaGreatDoorM21
set_option linter.unusedVariables false
set_option linter.unusedSimpArgs false
set_option maxHeartbeats 8000000
set_option maxRecDepth 100000
namespace Go.Proofs.YtjlicnhkemfmiaaGreatDoor
open Go.RowKit

theorem registerDay_calls (n : Int) (w : World) (h0 : 0 ≤ n) (h1 : n ≤ 1048576) : Calls Tryz.prog 46 #[.int .i64 n] w fun e w' => e = .returned (.bool true) ∧ w' = w := by
 have d0 : decide (0 ≤ n) = true := decide_eq_true h0
 have d1 : decide (n ≤ 1048576) = true := decide_eq_true h1
 clear h0 h1
 go_enter Tryz.func46, Tryz.ntmps46
 go_wp2_with fail
 go_ret
 exact ⟨rfl, rfl⟩
theorem currencyDay_calls (n : Int) (w : World) (h0 : 0 ≤ n) (h1 : n ≤ 1048576) : Calls Tryz.prog 162 #[.int .i64 n] w fun e w' => e = .returned (.bool true) ∧ w' = w := by
 have d0 : decide (0 ≤ n) = true := decide_eq_true h0
 have d1 : decide (n ≤ 1048576) = true := decide_eq_true h1
 clear h0 h1
 go_enter Tryz.func162, Tryz.ntmps162
 go_wp2_with fail
 go_ret
 exact ⟨rfl, rfl⟩
theorem interestDay_calls (n : Int) (w : World) (h0 : 0 ≤ n) (h1 : n ≤ 1048576) : Calls Tryz.prog 164 #[.int .i64 n] w fun e w' => e = .returned (.bool true) ∧ w' = w := by
 have d0 : decide (0 ≤ n) = true := decide_eq_true h0
 have d1 : decide (n ≤ 1048576) = true := decide_eq_true h1
 clear h0 h1
 go_enter Tryz.func164, Tryz.ntmps164
 go_wp2_with fail
 go_ret
 exact ⟨rfl, rfl⟩
theorem within_calls (n m : Int) (w : World) (h0 : 0 ≤ n) (h1 : n ≤ m) : Calls Tryz.prog 130 #[.int .i64 n, .int .i64 m] w fun e w' => e = .returned (.bool true) ∧ w' = w := by
 have d0 : decide (0 ≤ n) = true := decide_eq_true h0
 have d1 : decide (n ≤ m) = true := decide_eq_true h1
 clear h0 h1
 go_enter Tryz.func130, Tryz.ntmps130
 go_wp2_with fail
 go_ret
 exact ⟨rfl, rfl⟩
theorem isLetter_calls (c : Nat) (w : World) (b : Bool) (hb : isLet c = b) : Calls Tryz.prog 159 #[.int .u8 (c : Int)] w fun e w' => e = .returned (.bool b) ∧ w' = w := by
 subst hb
 unfold isLet
 by_cases h1 : 97 ≤ c <;> by_cases h2 : c ≤ 122 <;> by_cases h3 : 65 ≤ c <;> by_cases h4 : c ≤ 90 <;> first | (exfalso; omega) | skip
 all_goals
  have g1 : decide ((97 : Int) ≤ (c : Int)) = decide (97 ≤ c) := by simp; omega
  have g2 : decide ((c : Int) ≤ 122) = decide (c ≤ 122) := by simp; omega
  have g3 : decide ((65 : Int) ≤ (c : Int)) = decide (65 ≤ c) := by simp; omega
  have g4 : decide ((c : Int) ≤ 90) = decide (c ≤ 90) := by simp; omega
  simp only [h1, h2, h3, h4, decide_true, decide_false] at g1 g2 g3 g4 ⊢
  clear h1 h2 h3 h4
  go_enter Tryz.func159, Tryz.ntmps159
  go_wp2_with fail
  go_ret
  exact ⟨rfl, rfl⟩
theorem isDigit_calls (c : Nat) (w : World) (b : Bool) (hb : isDig c = b) : Calls Tryz.prog 160 #[.int .u8 (c : Int)] w fun e w' => e = .returned (.bool b) ∧ w' = w := by
 subst hb
 unfold isDig
 by_cases h1 : 48 ≤ c <;> by_cases h2 : c ≤ 57 <;> first | (exfalso; omega) | skip
 all_goals
  have g1 : decide ((48 : Int) ≤ (c : Int)) = decide (48 ≤ c) := by simp; omega
  have g2 : decide ((c : Int) ≤ 57) = decide (c ≤ 57) := by simp; omega
  simp only [h1, h2, decide_true, decide_false] at g1 g2 ⊢
  clear h1 h2
  go_enter Tryz.func160, Tryz.ntmps160
  go_wp2_with fail
  go_ret
  exact ⟨rfl, rfl⟩
theorem proofCode_calls (s : ByteArray) (w : World) (h : codeOk s) : Calls Tryz.prog 131 #[.string s] w fun e w' => e = .returned (.bool true) ∧ w' = w := by
 obtain ⟨hs, hc⟩ := h
 have hs3 : ((s.size : Int) == 3) = true := by rw [hs]; rfl
 have HC := Lib.hid hc
 clear hc
 go_enter Tryz.func131, Tryz.ntmps131
 go_wp2_with fail
 go_loopw [6] (fun i wr => ∃ k : Nat, k ≤ s.size ∧ i = .int .i64 (k : Int) ∧ wr = w) (fun i _ => s.size - (intOf i).toNat)
 case atStart => exact ⟨0, Nat.zero_le _, rfl, rfl⟩
 case round =>
  obtain ⟨k, hk, rfl, rfl⟩ := hrel
  by_cases hlt : k < s.size
  ·
   have hlt2 : (k : Int) < (s.size : Int) := by omega
   have hck := HC.out k hlt
   obtain ⟨c, hcc⟩ : ∃ c : Nat, c = s[k].toNat := ⟨_, rfl⟩
   rw [← hcc] at hck
   have d1 : decide ((c : Int) < 65) = false := decide_eq_false (by omega)
   have d2 : decide (90 < (c : Int)) = false := decide_eq_false (by omega)
   rw [hcc] at d1 d2
   clear hck hcc c
   go_wp2_with fail
   go_roundw
   case measure => simp [intOf] <;> omega
   case rel => exact ⟨k + 1, by omega, by go_num, trivial⟩
  ·
   have hlt2 : ¬ (k : Int) < (s.size : Int) := by omega
   go_wp2_with fail
   go_ret
   exact ⟨rfl, rfl⟩
theorem currencyCode_calls (s : ByteArray) (w : World) (h : codeOk s) : Calls Tryz.prog 176 #[.string s] w fun e w' => e = .returned (.bool true) ∧ w' = w := by
 obtain ⟨hs, hc⟩ := h
 have hs3 : ((s.size : Int) == 3) = true := by rw [hs]; rfl
 have HC := Lib.hid hc
 clear hc
 go_enter Tryz.func176, Tryz.ntmps176
 go_wp2_with fail
 go_loopw [6] (fun i wr => ∃ k : Nat, k ≤ s.size ∧ i = .int .i64 (k : Int) ∧ wr = w) (fun i _ => s.size - (intOf i).toNat)
 case atStart => exact ⟨0, Nat.zero_le _, rfl, rfl⟩
 case round =>
  obtain ⟨k, hk, rfl, rfl⟩ := hrel
  by_cases hlt : k < s.size
  ·
   have hlt2 : (k : Int) < (s.size : Int) := by omega
   have hck := HC.out k hlt
   obtain ⟨c, hcc⟩ : ∃ c : Nat, c = s[k].toNat := ⟨_, rfl⟩
   rw [← hcc] at hck
   have d1 : decide ((c : Int) < 65) = false := decide_eq_false (by omega)
   have d2 : decide (90 < (c : Int)) = false := decide_eq_false (by omega)
   rw [hcc] at d1 d2
   clear hck hcc c
   go_wp2_with fail
   go_roundw
   case measure => simp [intOf] <;> omega
   case rel => exact ⟨k + 1, by omega, by go_num, trivial⟩
  ·
   have hlt2 : ¬ (k : Int) < (s.size : Int) := by omega
   go_wp2_with fail
   go_ret
   exact ⟨rfl, rfl⟩
theorem isName_calls (s : ByteArray) (w : World) (h : nameOk s) : Calls Tryz.prog 129 #[.string s] w fun e w' => e = .returned (.bool true) ∧ w' = w := by
 have hp := h.pos
 have hl := h.len
 have t0 : s.toList.isEmpty = false := by
  rcases hl : s.toList with _ | ⟨a, l⟩
  ·
   have : s.toList.length = s.size := by rw [ByteArray.toList_eq]; exact Array.length_toList
   rw [hl] at this; simp at this; omega
  ·
   rfl
 have t1 : decide (32 < (s.size : Int)) = false := decide_eq_false (by omega)
 have HH := Lib.hid (fun W => isLetter_calls (s[0]'hp).toNat W true h.head)
 have HC := Lib.hid h.each
 clear h
 go_enter Tryz.func129, Tryz.ntmps129
 go_wp2_with fail
 refine (HH.out _).mono ?_
 rintro e w ⟨rfl, rfl⟩
 go_wp2_with fail
 clear HH
 go_loopw [19] (fun i wr => ∃ k : Nat, k ≤ s.size ∧ i = .int .i64 (k : Int) ∧ wr = w) (fun i _ => s.size - (intOf i).toNat)
 case atStart => exact ⟨0, Nat.zero_le _, rfl, rfl⟩
 case round =>
  obtain ⟨k, hk, rfl, rfl⟩ := hrel
  by_cases hlt : k < s.size
  ·
   have hlt2 : (k : Int) < (s.size : Int) := by omega
   have hck := HC.out k hlt
   obtain ⟨c, hcc⟩ : ∃ c : Nat, c = s[k].toNat := ⟨_, rfl⟩
   rw [← hcc] at hck
   rcases hL : isLet c with _ | _
   ·
    have HL := Lib.hid (fun W => isLetter_calls c W false hL)
    rw [hcc] at HL
    rcases hD : isDig c with _ | _
    ·
     have HD := Lib.hid (fun W => isDigit_calls c W false hD)
     rw [hcc] at HD
     by_cases h45 : c = 45
     ·
      have e1 : ((c : Int) != 45) = false := by rw [h45]; rfl
      rw [hcc] at e1
      clear hck hcc hL hD h45 c
      go_wp2_with fail
      refine (HL.out _).mono ?_
      rintro e w1 ⟨rfl, rfl⟩
      go_wp2_with fail
      refine (HD.out _).mono ?_
      rintro e w1 ⟨rfl, rfl⟩
      go_wp2_with fail
      go_roundw
      case measure => simp [intOf] <;> omega
      case rel => exact ⟨k + 1, by omega, by go_num, trivial⟩
     ·
      have h95 : c = 95 := by
       rcases hck with h | h | h | h
       ·
        rw [hL] at h; cases h
       ·
        rw [hD] at h; cases h
       ·
        exact absurd h h45
       ·
        exact h
      have e1 : ((c : Int) != 45) = true := by rw [h95]; rfl
      have e2 : ((c : Int) != 95) = false := by rw [h95]; rfl
      rw [hcc] at e1 e2
      clear hck hcc hL hD h45 h95 c
      go_wp2_with fail
      refine (HL.out _).mono ?_
      rintro e w1 ⟨rfl, rfl⟩
      go_wp2_with fail
      refine (HD.out _).mono ?_
      rintro e w1 ⟨rfl, rfl⟩
      go_wp2_with fail
      go_roundw
      case measure => simp [intOf] <;> omega
      case rel => exact ⟨k + 1, by omega, by go_num, trivial⟩
    ·
     have HD := Lib.hid (fun W => isDigit_calls c W true hD)
     rw [hcc] at HD
     clear hck hcc hL hD c
     go_wp2_with fail
     refine (HL.out _).mono ?_
     rintro e w1 ⟨rfl, rfl⟩
     go_wp2_with fail
     refine (HD.out _).mono ?_
     rintro e w1 ⟨rfl, rfl⟩
     go_wp2_with fail
     go_roundw
     case measure => simp [intOf] <;> omega
     case rel => exact ⟨k + 1, by omega, by go_num, trivial⟩
   ·
    have HL := Lib.hid (fun W => isLetter_calls c W true hL)
    rw [hcc] at HL
    clear hck hcc hL c
    go_wp2_with fail
    refine (HL.out _).mono ?_
    rintro e w1 ⟨rfl, rfl⟩
    go_wp2_with fail
    go_roundw
    case measure => simp [intOf] <;> omega
    case rel => exact ⟨k + 1, by omega, by go_num, trivial⟩
  ·
   have hlt2 : ¬ (k : Int) < (s.size : Int) := by omega
   go_wp2_with fail
   go_ret
   exact ⟨rfl, rfl⟩

/-- a document's box -/
def DBox (q : Nat) (i : ByteArray) (es cr : Int) (co : ByteArray) (sa : Bool) (na da : ByteArray) (nc rk : Int) (sr : Bool) (nr dr : ByteArray) (fr se : Int) (W : World) : Prop :=
 W.heap[q]? = some (.cells #[.string i, .int .i64 es, .int .i64 cr, .string co, .bool sa, .string na, .string da, .int .i64 nc, .int .i64 rk, .bool sr, .string nr, .string dr, .int .i64 fr, .int .i64 se] 63 (0, 0))
section
variable {q : Nat} {i : ByteArray} {es cr : Int} {co : ByteArray} {sa : Bool} {na da : ByteArray} {nc rk : Int} {sr : Bool} {nr dr : ByteArray} {fr se : Int} {W W' : World}
theorem DBox.next (h : DBox q i es cr co sa na da nc rk sr nr dr fr se W) (hb : Below W.heap.size W W') : DBox q i es cr co sa na da nc rk sr nr dr fr se W' := blk_next h hb
theorem DBox.cells (h : DBox q i es cr co sa na da nc rk sr nr dr fr se W) :
 W.cell? ⟨q, 0, none⟩ = some (.string i) ∧ W.cell? ⟨q, 1, none⟩ = some (.int .i64 es) ∧ W.cell? ⟨q, 2, none⟩ = some (.int .i64 cr) ∧ W.cell? ⟨q, 3, none⟩ = some (.string co) ∧
 W.cell? ⟨q, 4, none⟩ = some (.bool sa) ∧ W.cell? ⟨q, 5, none⟩ = some (.string na) ∧ W.cell? ⟨q, 6, none⟩ = some (.string da) ∧ W.cell? ⟨q, 7, none⟩ = some (.int .i64 nc) ∧ W.cell? ⟨q, 8, none⟩ = some (.int .i64 rk) ∧
 W.cell? ⟨q, 9, none⟩ = some (.bool sr) ∧ W.cell? ⟨q, 10, none⟩ = some (.string nr) ∧ W.cell? ⟨q, 11, none⟩ = some (.string dr) ∧ W.cell? ⟨q, 12, none⟩ = some (.int .i64 fr) ∧ W.cell? ⟨q, 13, none⟩ = some (.int .i64 se) := by
 refine ⟨?_, ?_, ?_, ?_, ?_, ?_, ?_, ?_, ?_, ?_, ?_, ?_, ?_, ?_⟩
 ·
  rw [cell_of_row W q 0 _ _ (0, 0) h]; rfl
 ·
  rw [cell_of_row W q 1 _ _ (0, 0) h]; rfl
 ·
  rw [cell_of_row W q 2 _ _ (0, 0) h]; rfl
 ·
  rw [cell_of_row W q 3 _ _ (0, 0) h]; rfl
 ·
  rw [cell_of_row W q 4 _ _ (0, 0) h]; rfl
 ·
  rw [cell_of_row W q 5 _ _ (0, 0) h]; rfl
 ·
  rw [cell_of_row W q 6 _ _ (0, 0) h]; rfl
 ·
  rw [cell_of_row W q 7 _ _ (0, 0) h]; rfl
 ·
  rw [cell_of_row W q 8 _ _ (0, 0) h]; rfl
 ·
  rw [cell_of_row W q 9 _ _ (0, 0) h]; rfl
 ·
  rw [cell_of_row W q 10 _ _ (0, 0) h]; rfl
 ·
  rw [cell_of_row W q 11 _ _ (0, 0) h]; rfl
 ·
  rw [cell_of_row W q 12 _ _ (0, 0) h]; rfl
 ·
  rw [cell_of_row W q 13 _ _ (0, 0) h]; rfl
end
abbrev dcV (d : Dc) : Value := .agg #[.string d.id, .int .i64 d.est, .int .i64 d.cred, .string d.code, .bool (rneg d.amt), .string (rnum d.amt), .string (rden d.amt), .int .i64 d.inc, .int .i64 d.rank, .bool (rneg d.rate), .string (rnum d.rate), .string (rden d.rate), .int .i64 d.frm, .int .i64 d.sec]
theorem sgn_nn {q : Rat} (h : 0 ≤ q) : 0 ≤ sgnR q := by
 unfold sgnR
 split
 ·
  omega
 ·
  rw [rneg_lt, decide_eq_false (Rat.not_lt.2 h)]; simp
theorem pfCheck_calls (d : Dc) (k : Nat) (w : World) (h : d.Ok k) (hk : k ≤ 99999) : Calls Tryz.prog 109 #[dcV d] w fun e w' => e = .returned (.int .i64 0) ∧ Below w.heap.size w w' := by
 have HN := Lib.hid (fun W => isName_calls d.id W h.id)
 have HE := Lib.hid (fun W => within_calls d.est 7 W h.est.1 h.est.2)
 have HC := Lib.hid (fun W => within_calls d.cred 31 W h.cred.1 h.cred.2)
 have HO := Lib.hid (fun W => proofCode_calls d.code W h.code)
 have HSA' := fun W => pSignQ_calls d.amt k W h.asz (by omega)
 have HI := Lib.hid (fun W => within_calls d.inc 1048576 W h.inc.1 h.inc.2)
 have HK := Lib.hid (fun W => within_calls d.rank 7 W h.rank.1 h.rank.2)
 have HSR' := fun W => pSignQ_calls d.rate 8 W h.rsz (by omega)
 have HF := Lib.hid (fun W => within_calls d.frm 1048576 W h.frm.1 h.frm.2)
 have HSE := Lib.hid (fun W => within_calls (d.sec + 1) 8 W (by have := h.sec; omega) (by have := h.sec; omega))
 have g1 := sgn_nn h.amt
 have g2 := sgn_nn h.rate
 have hz : sgnR d.rate = 0 → d.frm = 0 := fun e => h.nofrm (by unfold sgnR at e; split at e; assumption; split at e <;> omega)
 have hw1 : IntKind.i64.wrap (d.sec + 1) = d.sec + 1 := IntWalk.i64_in _ (by have := h.sec; omega)
 obtain ⟨x, hx⟩ : ∃ x, x = sgnR d.amt := ⟨_, rfl⟩
 obtain ⟨y, hy⟩ : ∃ y, y = sgnR d.rate := ⟨_, rfl⟩
 rw [← hx] at HSA' g1
 rw [← hy] at HSR' g2 hz
 have d1 : decide (x < 0) = false := decide_eq_false (by omega)
 have d2 : decide (y < 0) = false := decide_eq_false (by omega)
 unfold ratV at HSA' HSR'
 have HSA := Lib.hid HSA'
 have HSR := Lib.hid HSR'
 clear HSA' HSR' h hk hx hy g1
 obtain ⟨i, es, cr, co, amt, nc, rk, rate, fr, se⟩ := d
 unfold dcV
 dsimp only at HN HE HC HO HSA HI HK HSR HF HSE hz hw1 ⊢
 obtain ⟨sa, hsa⟩ : ∃ x, x = rneg amt := ⟨_, rfl⟩
 obtain ⟨na, hna⟩ : ∃ x, x = rnum amt := ⟨_, rfl⟩
 obtain ⟨da, hda⟩ : ∃ x, x = rden amt := ⟨_, rfl⟩
 obtain ⟨sr, hsr⟩ : ∃ x, x = rneg rate := ⟨_, rfl⟩
 obtain ⟨nr, hnr⟩ : ∃ x, x = rnum rate := ⟨_, rfl⟩
 obtain ⟨dr, hdr⟩ : ∃ x, x = rden rate := ⟨_, rfl⟩
 rw [← hsa, ← hna, ← hda] at HSA ⊢
 rw [← hsr, ← hnr, ← hdr] at HSR ⊢
 clear hsa hna hda hsr hnr hdr
 by_cases h0 : y = 0
 ·
  obtain rfl : fr = 0 := hz h0
  subst h0
  clear hz
  go_enter Tryz.func109, Tryz.ntmps109
  go_upto_region 1 with fail
  obtain ⟨w10, hw10⟩ : ∃ W, W = w.alloc (.cells #[.string i, .int .i64 es, .int .i64 cr, .string co, .bool sa, .string na, .string da, .int .i64 nc, .int .i64 rk, .bool sr, .string nr, .string dr, .int .i64 0, .int .i64 se] 63) := ⟨_, rfl⟩
  obtain ⟨q, hq⟩ : ∃ q, q = w.heap.size := ⟨_, rfl⟩
  have HD0 : Hid (DBox q i es cr co sa na da nc rk sr nr dr 0 se w10) := by rw [hw10, hq]; exact blk_new _ _
  have HB0 : Hid (Below w.heap.size w w10) := by rw [hw10]; exact bel_alloc _ _
  rw [← hw10, ← hq]
  clear hw10 hq
  obtain ⟨c0, c1, c2, c3, c4, c5, c6, c7, c8, c9, c10, c11, c12, c13⟩ := HD0.out.cells
  go_wp2_with fail
  refine (HN.out _).mono ?_
  rintro e w1 ⟨rfl, rfl⟩
  go_wp2_with fail
  refine (HE.out _).mono ?_
  rintro e w1 ⟨rfl, rfl⟩
  go_wp2_with fail
  refine (HC.out _).mono ?_
  rintro e w1 ⟨rfl, rfl⟩
  go_wp2_with fail
  refine (HO.out _).mono ?_
  rintro e w1 ⟨rfl, rfl⟩
  go_wp2_with fail
  clear c0 c1 c2 c3 c4 c5 c6 c7 c8 c9 c10 c11 c12 c13
  refine (HSA.out _).mono ?_
  rintro e w11 ⟨rfl, hb⟩
  have HD1 := Lib.hid (HD0.out.next hb)
  have HB1 := ben HB0 hb
  clear hb HD0 HB0
  obtain ⟨c0, c1, c2, c3, c4, c5, c6, c7, c8, c9, c10, c11, c12, c13⟩ := HD1.out.cells
  go_wp2_with fail
  refine (HI.out _).mono ?_
  rintro e w1 ⟨rfl, rfl⟩
  go_wp2_with fail
  refine (HK.out _).mono ?_
  rintro e w1 ⟨rfl, rfl⟩
  go_wp2_with fail
  clear c0 c1 c2 c3 c4 c5 c6 c7 c8 c9 c10 c11 c12 c13
  refine (HSR.out _).mono ?_
  rintro e w12 ⟨rfl, hb⟩
  have HD2 := Lib.hid (HD1.out.next hb)
  have HB2 := ben HB1 hb
  clear hb HD1 HB1
  obtain ⟨c0, c1, c2, c3, c4, c5, c6, c7, c8, c9, c10, c11, c12, c13⟩ := HD2.out.cells
  go_wp2_with fail
  refine (HF.out _).mono ?_
  rintro e w1 ⟨rfl, rfl⟩
  go_wp2_with fail
  clear c0 c1 c2 c3 c4 c5 c6 c7 c8 c9 c10 c11 c12 c13
  refine (HSR.out _).mono ?_
  rintro e w13 ⟨rfl, hb⟩
  have HD3 := Lib.hid (HD2.out.next hb)
  have HB3 := ben HB2 hb
  clear hb HD2 HB2
  obtain ⟨c0, c1, c2, c3, c4, c5, c6, c7, c8, c9, c10, c11, c12, c13⟩ := HD3.out.cells
  go_wp2_with fail
  refine (HSE.out _).mono ?_
  rintro e w1 ⟨rfl, rfl⟩
  go_wp2_with fail
  go_ret
  exact ⟨rfl, HB3.out⟩
 ·
  have e0 : (y == 0) = false := beq_eq_false_iff_ne.2 h0
  clear hz h0
  go_enter Tryz.func109, Tryz.ntmps109
  go_upto_region 1 with fail
  obtain ⟨w10, hw10⟩ : ∃ W, W = w.alloc (.cells #[.string i, .int .i64 es, .int .i64 cr, .string co, .bool sa, .string na, .string da, .int .i64 nc, .int .i64 rk, .bool sr, .string nr, .string dr, .int .i64 fr, .int .i64 se] 63) := ⟨_, rfl⟩
  obtain ⟨q, hq⟩ : ∃ q, q = w.heap.size := ⟨_, rfl⟩
  have HD0 : Hid (DBox q i es cr co sa na da nc rk sr nr dr fr se w10) := by rw [hw10, hq]; exact blk_new _ _
  have HB0 : Hid (Below w.heap.size w w10) := by rw [hw10]; exact bel_alloc _ _
  rw [← hw10, ← hq]
  clear hw10 hq
  obtain ⟨c0, c1, c2, c3, c4, c5, c6, c7, c8, c9, c10, c11, c12, c13⟩ := HD0.out.cells
  go_wp2_with fail
  refine (HN.out _).mono ?_
  rintro e w1 ⟨rfl, rfl⟩
  go_wp2_with fail
  refine (HE.out _).mono ?_
  rintro e w1 ⟨rfl, rfl⟩
  go_wp2_with fail
  refine (HC.out _).mono ?_
  rintro e w1 ⟨rfl, rfl⟩
  go_wp2_with fail
  refine (HO.out _).mono ?_
  rintro e w1 ⟨rfl, rfl⟩
  go_wp2_with fail
  clear c0 c1 c2 c3 c4 c5 c6 c7 c8 c9 c10 c11 c12 c13
  refine (HSA.out _).mono ?_
  rintro e w11 ⟨rfl, hb⟩
  have HD1 := Lib.hid (HD0.out.next hb)
  have HB1 := ben HB0 hb
  clear hb HD0 HB0
  obtain ⟨c0, c1, c2, c3, c4, c5, c6, c7, c8, c9, c10, c11, c12, c13⟩ := HD1.out.cells
  go_wp2_with fail
  refine (HI.out _).mono ?_
  rintro e w1 ⟨rfl, rfl⟩
  go_wp2_with fail
  refine (HK.out _).mono ?_
  rintro e w1 ⟨rfl, rfl⟩
  go_wp2_with fail
  clear c0 c1 c2 c3 c4 c5 c6 c7 c8 c9 c10 c11 c12 c13
  refine (HSR.out _).mono ?_
  rintro e w12 ⟨rfl, hb⟩
  have HD2 := Lib.hid (HD1.out.next hb)
  have HB2 := ben HB1 hb
  clear hb HD1 HB1
  obtain ⟨c0, c1, c2, c3, c4, c5, c6, c7, c8, c9, c10, c11, c12, c13⟩ := HD2.out.cells
  go_wp2_with fail
  refine (HF.out _).mono ?_
  rintro e w1 ⟨rfl, rfl⟩
  go_wp2_with fail
  clear c0 c1 c2 c3 c4 c5 c6 c7 c8 c9 c10 c11 c12 c13
  refine (HSR.out _).mono ?_
  rintro e w13 ⟨rfl, hb⟩
  have HD3 := Lib.hid (HD2.out.next hb)
  have HB3 := ben HB2 hb
  clear hb HD2 HB2
  obtain ⟨c0, c1, c2, c3, c4, c5, c6, c7, c8, c9, c10, c11, c12, c13⟩ := HD3.out.cells
  go_wp2_with fail
  refine (HSE.out _).mono ?_
  rintro e w1 ⟨rfl, rfl⟩
  go_wp2_with fail
  go_ret
  exact ⟨rfl, HB3.out⟩

end Go.Proofs.YtjlicnhkemfmiaaGreatDoor

/- Merged of QTrMove QTraceW QTrace QAw27. -/
import Derived.Test.YtomfcmlomfcghaaGreatDoorM34
import Derived.Test.YtomfcmlomfcghaaGreatDoorM21
import Derived.Deep.RegionLaw
import Derived.Test.YtomfcmlomfcghaaGreatDoorQTrSpend
import Derived.Deep.RegionLawGrows
import Derived.Deep.OwnRows
import Derived.Deep.DeepCutAuto
import Derived.BigQuiet
import Derived.Deep.QuietTactic
import Derived.Test.YtomfcmlomfcghaaGreatDoorM23
/- (*tracer).move -/
set_option linter.unusedVariables false
set_option linter.unusedSimpArgs false
namespace Go.Proofs.YtomfcmlomfcghaaGreatDoor
open Go.RowKit

set_option maxHeartbeats 1000000 in
set_option maxRecDepth 100000 in
theorem move_calls (p gb gt n cb ct : Nat) (bal tr : List Int) (lost : Int) (r : Row) (x y : Nat) (w : World) (h : Trc w p gb gt n cb ct bal tr lost)
    (hx : r.frm = x) (hy : r.to = y) (hxn : x < n) (hyn : y < n) :
    Calls Tryz.prog 82 #[.pointer (some ⟨p, 0, none⟩), .agg #[.int .i64 r.day, .int .i64 r.kind, .int .i64 r.frm, .int .i64 r.to, .int .i64 r.amount, .int .i64 r.worth]] w fun e w' =>
      e = .returned (.tuple #[]) ∧ Trc w' p gb gt n cb ct ((bal.set x (wrap64 (bal.getD x 0 + moneyOf r r.frm))).set y (wrap64 ((bal.set x (wrap64 (bal.getD x 0 + moneyOf r r.frm))).getD y 0 + moneyOf r r.to))) tr lost ∧ Deep p gb gt w w' := by
  obtain ⟨d, k, f, t, a, wo⟩ := r
  dsimp only at hx hy ⊢
  subst hx hy
  have c0 := h.c0
  have hp := h.plt
  have hgb := h.b.lt
  have cx := h.b.getD (k := x) (by rw [h.lb]; exact hxn)
  have fx := h.b.frozen x
  have i0 : ∀ w, (Instr.index 148 (.agg #[.int .i64 (x : Int), .int .i64 (y : Int)]) (.int .i64 0)).run Tryz.prog w = .ok (.int .i64 (x : Int)) w := fun _ => by kernel_rfl
  have i1 : ∀ w, (Instr.index 148 (.agg #[.int .i64 (x : Int), .int .i64 (y : Int)]) (.int .i64 1)).run Tryz.prog w = .ok (.int .i64 (y : Int)) w := fun _ => by kernel_rfl
  go_enter Tryz.func82, Tryz.ntmps82
  go_wp2_with fail
  have HX : Hid (∀ m : Int, m = moneyOf ⟨d, k, x, y, a, wo⟩ x → bal.set x (wrap64 (bal.getD x 0 + m)) = bal.set x (wrap64 (bal.getD x 0 + moneyOf ⟨d, k, x, y, a, wo⟩ x))) := fun m hm => by rw [hm]
  go_loopw [11] (fun i wr => ∃ (q : Nat) (bb : List Int), q ≤ 2 ∧ i = .int .i64 q ∧ Trc wr p gb gt n cb ct bb tr lost ∧
      Hid (bb = if q = 0 then bal else if q = 1 then bal.set x (wrap64 (bal.getD x 0 + moneyOf ⟨d, k, x, y, a, wo⟩ x)) else
        (bal.set x (wrap64 (bal.getD x 0 + moneyOf ⟨d, k, x, y, a, wo⟩ x))).set y (wrap64 ((bal.set x (wrap64 (bal.getD x 0 + moneyOf ⟨d, k, x, y, a, wo⟩ x))).getD y 0 + moneyOf ⟨d, k, x, y, a, wo⟩ y))) ∧
      wr.heap[w.heap.size]? = some (.cells #[.int .i64 d, .int .i64 k, .int .i64 (x : Int), .int .i64 (y : Int), .int .i64 a, .int .i64 wo] 94 (0, 0)) ∧ Hid (gb < w.heap.size ∧ gt < w.heap.size ∧ p < w.heap.size) ∧ Deep p gb gt w wr) (fun i _ => 2 - (intOf i).toNat)
  case atStart => exact ⟨0, bal, by omega, rfl, h.alloc _, by simp [Hid], heap_alloc_new _ _, ⟨h.b.lt, h.t.lt, h.plt⟩, (Deep.refl _ _ _ _).alloc _⟩
  case round =>
    clear cx fx c0 h
    obtain ⟨q, bb, hq, rfl, h, HB, hbx, HL, hD⟩ := hrel
    have c0 := h.c0
    have hp := h.plt
    have hgb := h.b.lt
    have e0 : wr.cell? ⟨w.heap.size, 0, none⟩ = some (.int .i64 d) := by rw [cell_of_row _ _ _ _ _ _ hbx]; rfl
    have e1 : wr.cell? ⟨w.heap.size, 1, none⟩ = some (.int .i64 k) := by rw [cell_of_row _ _ _ _ _ _ hbx]; rfl
    have e2 : wr.cell? ⟨w.heap.size, 2, none⟩ = some (.int .i64 (x : Int)) := by rw [cell_of_row _ _ _ _ _ _ hbx]; rfl
    have e3 : wr.cell? ⟨w.heap.size, 3, none⟩ = some (.int .i64 (y : Int)) := by rw [cell_of_row _ _ _ _ _ _ hbx]; rfl
    have e4 : wr.cell? ⟨w.heap.size, 4, none⟩ = some (.int .i64 a) := by rw [cell_of_row _ _ _ _ _ _ hbx]; rfl
    have e5 : wr.cell? ⟨w.heap.size, 5, none⟩ = some (.int .i64 wo) := by rw [cell_of_row _ _ _ _ _ _ hbx]; rfl
    have hbl : w.heap.size < wr.heap.size := (Array.getElem?_eq_some_iff.1 hbx).1
    have HBX := Lib.hid hbx
    clear hbx
    by_cases hq2 : q = 2
    · have hq3 : 2 ≤ q := by omega
      have HF : Hid (bb = (bal.set x (wrap64 (bal.getD x 0 + moneyOf ⟨d, k, x, y, a, wo⟩ x))).set y (wrap64 ((bal.set x (wrap64 (bal.getD x 0 + moneyOf ⟨d, k, x, y, a, wo⟩ x))).getD y 0 + moneyOf ⟨d, k, x, y, a, wo⟩ y))) := by
        have := HB.out
        rw [hq2] at this
        simpa [Hid] using this
      clear hq2 HB
      go_wp2_with fail
      go_end0
      exact ⟨rfl, by rw [← HF.out]; exact h, hD⟩
    · have hz : ∃ z : Nat, z < n ∧ (∀ w, (Instr.index 148 (.agg #[.int .i64 (x : Int), .int .i64 (y : Int)]) (.int .i64 q)).run Tryz.prog w = .ok (.int .i64 (z : Int)) w) ∧
          Hid (∀ m, m = moneyOf ⟨d, k, x, y, a, wo⟩ z → bb.set z (wrap64 (bb.getD z 0 + m)) = if q + 1 = 0 then bal else if q + 1 = 1 then bal.set x (wrap64 (bal.getD x 0 + moneyOf ⟨d, k, x, y, a, wo⟩ x)) else
        (bal.set x (wrap64 (bal.getD x 0 + moneyOf ⟨d, k, x, y, a, wo⟩ x))).set y (wrap64 ((bal.set x (wrap64 (bal.getD x 0 + moneyOf ⟨d, k, x, y, a, wo⟩ x))).getD y 0 + moneyOf ⟨d, k, x, y, a, wo⟩ y))) := by
        have hb := HB.out
        rcases q with _ | _ | q
        · exact ⟨x, hxn, i0, fun m hm => by simp at hb; rw [hm, hb]; rfl⟩
        · exact ⟨y, hyn, i1, fun m hm => by simp at hb; rw [hm, hb]; rfl⟩
        · omega
      obtain ⟨z, hzn, iz, HZ⟩ := hz
      have cx := h.b.getD (k := z) (by rw [h.lb]; exact hzn)
      have fx := h.b.frozen z
      have hq3 : q < 2 := by omega
      clear hq2 HB i0 i1 HX
      go_wp2_with fail
      go_region_law (go_simp; go_at_call 109; refine (money_calls ⟨d, k, x, y, a, wo⟩ _ _).mono ?_; rintro e w1 ⟨rfl, hb1⟩; have h1 : Trc w1 p gb gt n cb ct bb tr lost := (h.drew).next hb1; have c01 := h1.c0; have cx1 := h1.b.getD (k := z) (by rw [h1.lb]; exact hzn); have fx1 := h1.b.frozen z; have hx1 : w1.heap[w.heap.size]? = wr.heap[w.heap.size]? := hb1.block _ hbl; have hD1 := (hD.drew).next hb1)
      all_goals go_wp2_with fail
      all_goals
        go_roundw
        case measure => simp [intOf] <;> omega
        case rel =>
          refine ⟨q + 1, _, by omega, by go_num, h1.setB _ _, HZ.out _ rfl, ?_, HL, hD1.setB _ _⟩
          rw [heap_setCell_other _ _ _ _ (by have := HL.out.1; simp; omega), hx1]
          exact HBX.out

end Go.Proofs.YtomfcmlomfcghaaGreatDoor

/- undervalue.Trace: errors, and the run with its wraps. Plain definitions. -/
set_option linter.unusedVariables false
set_option linter.unusedSimpArgs false
namespace Go.Proofs.YtomfcmlomfcghaaGreatDoor
open Go.RowKit

def IntsRd (w : World) (B : Nat) (A : Option Addr) (xs : List Int) : Prop := Rd w B 1 A xs.length (xs.map (Value.int .i64))
theorem IntsRd.next {w w' : World} {A : Option Addr} {xs : List Int} (h : IntsRd w w.heap.size A xs) (hb : Below w.heap.size w w') : IntsRd w' w'.heap.size A xs := Rd.next h hb
theorem IntsRd.below {w w' : World} {B : Nat} {A : Option Addr} {xs : List Int} (h : IntsRd w B A xs) (hb : Below B w w') : IntsRd w' B A xs := Rd.below h hb
theorem IntsRd.at_ {w : World} {B : Nat} {A : Option Addr} {xs : List Int} (h : IntsRd w B A xs) {k : Nat} {x : Int} (hk : xs[k]? = some x) :
    ∃ b off, A = some ⟨b, off, none⟩ ∧ b < B ∧ w.cell? ⟨b, off + k, none⟩ = some (.int .i64 x) := by
  have hlt : k < xs.length := (List.getElem?_eq_some_iff.1 hk).1
  obtain ⟨b, off, e, hb, hc⟩ := h.2 (by omega)
  exact ⟨b, off, e, hb, hc k _ (by simp [hk])⟩

def outOf (x : Int) : Bool := decide (x < -1125899906842624 ∨ 1125899906842624 < x)
def kindAtQ (rows : List Row) (at_ : Int) : Int := match rows[at_.toNat]? with | some r => r.kind | none => 0
def traceErr (rows : List Row) (os : List Int) (at_ : Int) : Int :=
  if hcheck os.length rows ≠ 0 then hcheck os.length rows
  else if os.any outOf then 1
  else if at_ < 0 ∨ (rows.length : Int) ≤ at_ then 1
  else if kindAtQ rows at_ ≠ 1 then 13 else 0

structure WSt where
  bal : List Int
  tr : List Int
  lost : Int

def moveBal (bal : List Int) (r : Row) : List Int :=
  (bal.set r.frm.toNat (wrap64 (bal.getD r.frm.toNat 0 + moneyOf r r.frm))).set r.to.toNat (wrap64 ((bal.set r.frm.toNat (wrap64 (bal.getD r.frm.toNat 0 + moneyOf r r.frm))).getD r.to.toNat 0 + moneyOf r r.to))
def spentAt (s : WSt) (r : Row) : Int := spentW (s.bal.getD (payer r).toNat 0) (s.tr.getD (payer r).toNat 0) r.amount
/-- one row, with the program's wraps -/
def stepW (at_ : Int) (k : Nat) (s : WSt) (r : Row) : WSt :=
  let s1 : WSt := if (k : Int) = at_ then { s with tr := s.tr.set r.to.toNat r.amount } else s
  let s2 : WSt := if at_ < k ∧ r.kind ≠ 2 then { s1 with tr := spendTr s1.tr (payer r).toNat (payee r).toNat (spentAt s1 r) r.kind, lost := spendLost s1.lost (spentAt s1 r) r.kind } else s1
  let s3 : WSt := { s2 with bal := moveBal s2.bal r }
  if at_ ≤ k then { s3 with tr := (clipToW s3.bal s3.bal.length (s3.tr, s3.lost)).1, lost := (clipToW s3.bal s3.bal.length (s3.tr, s3.lost)).2 } else s3
def runW (rows : List Row) (at_ : Int) (s : WSt) : Nat → WSt
  | 0 => s
  | k + 1 => match rows[k]? with | some r => stepW at_ k (runW rows at_ s k) r | none => runW rows at_ s k
def initW (os : List Int) : WSt := { bal := os, tr := List.replicate os.length 0, lost := 0 }

theorem runW_succ {rows : List Row} {at_ : Int} {s : WSt} {k : Nat} {r : Row} (h : rows[k]? = some r) : runW rows at_ s (k + 1) = stepW at_ k (runW rows at_ s k) r := by
  show (match rows[k]? with | some r => stepW at_ k (runW rows at_ s k) r | none => runW rows at_ s k) = _
  rw [h]

def TracePost (w : World) (rows : List Row) (os : List Int) (at_ : Int) (e : Ending) (w' : World) : Prop :=
  Below w.heap.size w w' ∧
  (traceErr rows os at_ ≠ 0 → e = .returned (.tuple #[.slice none 0 0, .int .i64 0, .int .i64 (traceErr rows os at_)])) ∧
  (traceErr rows os at_ = 0 → ∃ g, w.heap.size ≤ g ∧ e = .returned (.tuple #[.slice (some ⟨g, 0, none⟩) os.length os.length, .int .i64 (runW rows at_ (initW os) rows.length).lost, .int .i64 0]) ∧
    IRow w' g (runW rows at_ (initW os) rows.length).tr)

end Go.Proofs.YtomfcmlomfcghaaGreatDoor

/- undervalue.Trace -/
set_option linter.unusedVariables false
set_option linter.unusedSimpArgs false
namespace Go.Proofs.YtomfcmlomfcghaaGreatDoor
open Go.RowKit

theorem Tryz.info2 : (Tryz.prog.info? 2).map (fun i => (i.zero, i.size, i.bytes)) = some (some (.int .i64 0), 1, 8) := by kernel_rfl

theorem IRow.of_own {w : World} {base g n cap : Nat} {xs : List Int} (h : w.ownsRow base 2 1 (.slice (some ⟨g, 0, none⟩) n cap) n (xs.map (Value.int .i64))) : IRow w g xs := by
 have hl : xs.length = n := by simpa using h.1
 rcases h.2 with ⟨h', _⟩ | ⟨g', cap', cur, h', _, hg, hnc, _, hcs, htake⟩
 ·
  simp at h'
 ·
  simp only [Value.slice.injEq, Option.some.injEq, Addr.mk.injEq, and_true, true_and] at h'
  obtain ⟨rfl, rfl⟩ := h'
  exact ⟨cur, hg, by rw [hl]; simpa using htake, by omega⟩
theorem heap_alloc_at (w : World) (o : Obj) (N : Nat) (hN : N = w.heap.size) : (w.alloc o).heap[N]? = some o := by subst hN; exact heap_alloc_new w o
theorem World.heap_drew' (w : World) : w.drew.heap.size = w.heap.size := rfl
theorem World.size_alloc' (w : World) (o : Obj) : (w.alloc o).heap.size = w.heap.size + 1 := by simp
theorem IRow.made (w : World) (n N : Nat) (hN : N = w.heap.size) : IRow (w.alloc (.cells (madeCells #[.int .i64 0] n) 2)) N (List.replicate n 0) := by
 subst hN
 refine ⟨_, heap_alloc_new _ _, ?_, by simp [size_madeCells]⟩
 rw [toList_madeCells_one, List.map_replicate, List.length_replicate, List.take_of_length_le (by simp)]

set_option maxHeartbeats 4000000 in
set_option maxRecDepth 100000 in
theorem trace_calls (A : Option Addr) (c : Nat) (rows : List Row) (A1 : Option Addr) (c1 : Nat) (os : List Int) (at_ : Int) (w : World) (hr : RowsRd w w.heap.size A rows) (ho : IntsRd w w.heap.size A1 os) (hn : os.length ≤ 1000000) :
 Calls Tryz.prog 59 #[.slice A rows.length c, .slice A1 os.length c1, .int .i64 at_] w (TracePost w rows os at_) := by
 obtain ⟨i0, hi, hz0, hz1, hz2⟩ := info_parts Tryz.info2
 have hmk := run_make_row' (P := Tryz.prog) 104 2 (.int .i64 0) 8 Tryz.underlying104 Tryz.info2 rfl .i64 .i64 os.length (by omega) (by omega)
 obtain ⟨E, hE⟩ : ∃ E, E = hcheck os.length rows := ⟨_, rfl⟩
 have HE := Lib.hid hE
 clear hE
 go_enter Tryz.func59, Tryz.ntmps59
 go_wp2_with fail
 refine (hcheck_calls A c rows os.length w hr).mono ?_
 rintro e w1 ⟨rfl, hb1⟩
 rw [← HE.out]
 have HR0 := Lib.hid hr
 have HR := Lib.hid (hr.next hb1)
 have HO := Lib.hid (ho.next hb1)
 clear hr ho
 by_cases he : E = 0
 ·
  subst he
  go_wp2_with fail
  go_loopw [24] (fun i wr => ∃ k : Nat, k ≤ os.length ∧ i = .int .i64 k ∧ Hid (∀ x ∈ os.take k, outOf x = false) ∧ wr = w1) (fun i _ => os.length - (intOf i).toNat)
  case atStart => exact ⟨0, by omega, rfl, by simp [Hid], rfl⟩
  case round =>
   obtain ⟨k, hk, rfl, HK, rfl⟩ := hrel
   by_cases hlt : k < os.length
   ·
    obtain ⟨x, hxk⟩ := getElem?_of_lt hlt
    obtain ⟨b, off, rfl, hbl, cx⟩ := HO.out.at_ hxk
    by_cases hx : outOf x = true
    ·
     have HF : Hid (traceErr rows os at_ = 1) := by
      show _ = _
      unfold traceErr
      rw [← HE.out, if_neg (by simp), if_pos (List.any_eq_true.2 ⟨x, List.mem_of_getElem? hxk, hx⟩)]
     have hx2 : x < -1125899906842624 ∨ 1125899906842624 < x := by simpa [outOf] using hx
     clear hx hxk
     rcases hx2 with hx2 | hx2
     ·
      go_wp2_with fail
      go_ret3
      exact ⟨hb1, fun _ => by rw [HF.out]; rfl, fun h => by rw [HF.out] at h; omega⟩
     ·
      have hx3 : ¬ x < -1125899906842624 := by omega
      go_wp2_with fail
      go_ret3
      exact ⟨hb1, fun _ => by rw [HF.out]; rfl, fun h => by rw [HF.out] at h; omega⟩
    ·
     have hx2 : ¬ x < -1125899906842624 ∧ ¬ 1125899906842624 < x := by simpa [outOf] using hx
     obtain ⟨hx3, hx4⟩ := hx2
     have HN : Hid (∀ y ∈ os.take (k+1), outOf y = false) := by
      intro y hy
      rw [List.take_add_one, hxk] at hy
      rcases List.mem_append.1 hy with hy | hy
      ·
       exact HK.out y hy
      ·
       simp at hy; subst hy; simpa using hx
     clear hx hxk
     go_wp2_with fail
     go_roundw
     case measure => simp [intOf] <;> omega
     case rel => first | exact ⟨k + 1, by omega, by go_num, HN, trivial⟩ | exact ⟨k + 1, by omega, by go_num, HN, rfl⟩
   ·
    have HOut : Hid (os.any outOf = false) := by
     show _ = _
     have hkk : k = os.length := by omega
     have := HK.out
     rw [hkk, List.take_length] at this
     rw [List.any_eq_false]
     intro x hx
     simp [this x hx]
    clear HK
    by_cases hat : 0 ≤ at_ ∧ at_ < (rows.length : Int)
    ·
     obtain ⟨hat0, hat1⟩ := hat
     obtain ⟨q, rfl⟩ := Int.eq_ofNat_of_zero_le hat0
     have hql : q < rows.length := by omega
     obtain ⟨rq, hrq⟩ := getElem?_of_lt hql
     obtain ⟨br, offr, rfl, hbr, e0, e1, e2, e3, e4, e5⟩ := HR.out.at_ hrq
     by_cases hk1 : rq.kind = 1
     ·
      have hE0 := HE.out
      have hall : ∀ r ∈ rows, rowRange r = true ∧ rowParty os.length r = true := by
       have : hchk os.length 0 rows = 0 := by
        unfold hcheck at hE0
        split at hE0
        ·
         omega
        ·
         exact hE0.symm
       exact hchk_ok _ _ _ this
      have hn1 : 0 < os.length := by
       have := (hall rq (List.mem_of_getElem? hrq)).2
       simp [rowParty] at this
       omega
      obtain ⟨x0, hx0⟩ := getElem?_of_lt hn1
      obtain ⟨bo, oo, hA1, hbo, _⟩ := HO.out.at_ hx0
      subst hA1
      have hcs : ∀ j u, (os.map (Value.int .i64))[j]? = some u → ∀ W : World, Below wr.heap.size wr W → W.cell? ((⟨bo, oo, none⟩ : Addr).add j) = some u := by
       intro j u hu W hW
       obtain ⟨b', o', hA', _, hc'⟩ := HO.out.2 hn1
       simp only [Option.some.injEq, Addr.mk.injEq, and_true] at hA'
       obtain ⟨rfl, rfl⟩ := hA'
       rw [Addr.add_lit, hW.cell (p := ⟨bo, oo + j, none⟩) hbo]
       exact hc' j u hu
      have HC := Lib.hid hcs
      have HALL := Lib.hid hall
      have HRQ := Lib.hid hrq
      have hkk1 : (rq.kind != 1) = false := by simp [hk1]
      clear hE0 hall hcs hx0 hrq hk1
      go_upto_region 14 with fail
      go_cut [12] (fun s12 wx => ∃ p g gt cap : Nat, s12 = .pointer (some ⟨p, 0, none⟩) ∧ Trc wx p g gt os.length cap os.length os (List.replicate os.length 0) 0 ∧ Hid (w.heap.size ≤ p ∧ w.heap.size ≤ g ∧ w.heap.size ≤ gt) ∧ Below w.heap.size w wx)
      case first =>
       go_region_law (refine step_append_grows rfl (.tmp 49) (.tmp 50) 104 rfl 2 i0 (.int .i64 0) 1 8 Tryz.underlying104 hi hz0 hz1 hz2 rfl (by decide) _ 0 0 [] (by simp [Act.eval, Act.put]; rfl) (by simp) rfl (by simp) ⟨bo, oo, none⟩ os.length c1 (os.map (Value.int .i64)) (by simp [Act.eval, Act.put]) (by simp) (fun j u hu => HC.out j u hu _ (by repeat (first | exact Below.refl _ _ | apply Below.drew | refine Below.alloc ?_ (by simp <;> omega) _))) (ints_oneCell _ _) (by omega) (by simp only [maxLen]; omega) (by omega) ?_; intro v' w' hown hgr; obtain ⟨g, cap, hv, hge, hlt2⟩ := hown.form (by omega); subst hv)
       all_goals
        go_wp2_with fail
        go_meet
        have HO1 := IRow.of_own hown
        have hsz := hb1.size
        have hgs := hgr.size
        have hbw : Below w.heap.size w w' := by
         refine Below.grown ?_ hgr (by simp <;> omega) (by simp)
         first
          | exact (hb1.alloc hsz _).drew
          | exact ((hb1.alloc hsz _).alloc (by simp <;> omega) _).drew
        simp only [World.heap_drew', World.size_alloc'] at hge hgs
        refine ⟨_, g, _, cap, rfl, ⟨heap_alloc_at _ _ _ (by simp), ?_, ?_, rfl, by simp, by omega⟩, ⟨by omega, by omega, by omega⟩, ?_⟩
        ·
         first | exact HO1.alloc _ | exact (HO1.alloc _).alloc _
        ·
         first
          | exact (IRow.made _ _ _ (by simp)).alloc _
          | exact (((IRow.made _ _ _ (by simp)).drew).same (hgr.block _ (by simp <;> omega) (by simp))).alloc _
          | exact ((((IRow.made _ _ _ (by simp)).alloc _).drew).same (hgr.block _ (by simp <;> omega) (by simp))).alloc _
        ·
         have hbs := hbw.size
         first
          | exact hbw.alloc hbs _
          | exact (hbw.alloc hbs _).alloc (by simp <;> omega) _
      case rest =>
       obtain ⟨p, g, gt, cap, rfl, hTr, HL, hbw⟩ := hcut
       have HNe : Hid (traceErr rows os q = 0) := by
        show _ = _
        unfold traceErr
        rw [← HE.out, if_neg (by simp), HOut.out, if_neg (by simp), if_neg (by omega), if_neg (by unfold kindAtQ; simp only [Int.toNat_natCast, HRQ.out]; simpa using hkk1)]
       have hrl : rows.length ≤ 9223372036854775807 := by
        have := HE.out
        unfold hcheck at this
        split at this <;> omega
       clear HR HO HC HE HOut HRQ hkk1 e0 e1 e2 e3 e4 e5 hb1
       have HT0 := Lib.hid hTr
       clear hTr
       go_wp2_with fail
       go_loopw [59] (fun i wz => ∃ (k : Nat) (s : WSt), k ≤ rows.length ∧ i = .int .i64 k ∧ Trc wz p g gt os.length cap os.length s.bal s.tr s.lost ∧ Hid (s = runW rows q (initW os) k) ∧ Below w.heap.size w wz) (fun i _ => rows.length - (intOf i).toNat)
       case atStart => exact ⟨0, initW os, by omega, rfl, HT0.out, rfl, hbw⟩
       case round =>
        clear HT0 hbw
        obtain ⟨k, s, hk, rfl, hT, HS, hbz⟩ := hrel
        by_cases hlt : k < rows.length
        ·
         obtain ⟨r, hrk⟩ := getElem?_of_lt hlt
         obtain ⟨_, hval⟩ := HALL.out r (List.mem_of_getElem? hrk)
         have hrng := (HALL.out r (List.mem_of_getElem? hrk)).1
         obtain ⟨b', o', hA', hbr', e0, e1, e2, e3, e4, e5⟩ := (HR0.out.below hbz).at_ hrk
         simp only [Option.some.injEq, Addr.mk.injEq, and_true] at hA'
         obtain ⟨rfl, rfl⟩ := hA'
         have hbs : br < wr.heap.size := by have := hbz.size; omega
         have HN : Hid (runW rows q (initW os) (k+1) = stepW q k s r) := by
          rw [HS.out]; exact runW_succ hrk
         clear HS hrk
         obtain ⟨d, kd, f, t, am, wo⟩ := r
         simp only [rowParty, rowRange, decide_eq_true_eq] at hval hrng
         obtain ⟨x, rfl⟩ := Int.eq_ofNat_of_zero_le hval.1
         obtain ⟨y, rfl⟩ := Int.eq_ofNat_of_zero_le hval.2.2.1
         have hxn : x < os.length := by omega
         have hyn : y < os.length := by omega
         have hxy : x ≠ y := by omega
         have hkd : 1 ≤ kd ∧ kd ≤ 3 := by omega
         clear hval hrng
         dsimp only at e0 e1 e2 e3 e4 e5
         have k1 := hT.c1
         have hp := hT.plt
         have hgt := hT.t.lt
         have ky := hT.t.getD (k := y) (by rw [hT.lt]; exact hyn)
         have fy := hT.t.frozen y
         have hbz1 := hbz.alloc hbz.size (.cells #[.int .i64 d, .int .i64 kd, .int .i64 (x : Int), .int .i64 (y : Int), .int .i64 am, .int .i64 wo] 94)
         have hbsz := hbz.size
         rcases Nat.lt_trichotomy k q with hkq | hkq | hkq
         ·
          have hne : ((k : Int) == (q : Int)) = false := by simp; omega
          have HS1 : Hid (stepW q k s ⟨d, kd, x, y, am, wo⟩ = { s with bal := moveBal s.bal ⟨d, kd, x, y, am, wo⟩ }) := by
           show _ = _
           unfold stepW
           rw [if_neg (by omega), if_neg (by omega), if_neg (by omega)]
          go_wp2_with fail
          refine (move_calls p g gt os.length cap os.length s.bal s.tr s.lost ⟨d, kd, x, y, am, wo⟩ x y _ (hT.alloc _) rfl rfl hxn hyn).mono ?_
          rintro e w2 ⟨rfl, hT2, hD2⟩
          have hT3 : Trc w2 p g gt os.length cap os.length (moveBal s.bal ⟨d, kd, x, y, am, wo⟩) s.tr s.lost := hT2
          have hb2 := hbz1.trans (hD2.at_ w.heap.size (by simp <;> omega) HL.out.1 HL.out.2.1 HL.out.2.2)
          clear hT2 hD2
          go_wp2_with fail
          go_roundw
          case measure => simp [intOf] <;> omega
          case rel => exact ⟨k + 1, _, by omega, by go_num, hT3, (HN.out.trans HS1.out).symm, hb2⟩
         ·
          subst hkq
          have HS1 : Hid (∃ bb tt ll, (bb, tt, ll) = ((moveBal s.bal ⟨d, kd, x, y, am, wo⟩), (clipToW (moveBal s.bal ⟨d, kd, x, y, am, wo⟩) os.length (s.tr.set y am, s.lost))) ∧ stepW k k s ⟨d, kd, x, y, am, wo⟩ = ⟨bb, tt, ll⟩) := by
           refine ⟨_, _, _, rfl, ?_⟩
           have hA : ¬ ((k : Int) < (k : Int) ∧ kd ≠ 2) := by omega
           have hB : (k : Int) ≤ (k : Int) := by omega
           have hl : (moveBal s.bal ⟨d, kd, x, y, am, wo⟩).length = os.length := by simp [moveBal, hT.lb]
           simp only [stepW, if_true, if_neg hA, if_pos hB, Int.toNat_natCast, hl]
          go_wp2_with fail
          go_region
          all_goals go_wp2_with fail
          all_goals
           refine (move_calls p g gt os.length cap os.length s.bal (s.tr.set y am) s.lost ⟨d, kd, x, y, am, wo⟩ x y _ ?_ rfl rfl hxn hyn).mono ?_
           ·
            first
             | exact ((hT.setT _ _).alloc _).drew
             | exact ((hT.alloc _).setT _ _).drew
           rintro e w2 ⟨rfl, hT2, hD2⟩
           have hT3 : Trc w2 p g gt os.length cap os.length (moveBal s.bal ⟨d, kd, x, y, am, wo⟩) (s.tr.set y am) s.lost := hT2
           have hb2 : Below w.heap.size w w2 := by
            refine Below.trans ?_ (hD2.at_ w.heap.size (by simp <;> omega) HL.out.1 HL.out.2.1 HL.out.2.2)
            first
             | exact ((hbz.setCell (p := ⟨gt, y, none⟩) HL.out.2.2 _).alloc (by simp [World.setCell]; omega) _).drew
             | exact (hbz1.setCell (p := ⟨gt, y, none⟩) HL.out.2.2 _).drew
           clear hT2 hD2
           go_wp2_with fail
           refine (clip_calls p g gt os.length cap os.length _ _ _ _ hT3 (by omega)).mono ?_
           rintro e w3 ⟨rfl, hT4, hD4⟩
           have hb3 := hb2.trans (hD4.at_ w.heap.size hb2.size HL.out.1 HL.out.2.1 HL.out.2.2)
           clear hD4
           go_wp2_with fail
           go_roundw
           case measure => simp [intOf] <;> omega
           case rel =>
            obtain ⟨bb, tt, ll, heq, hst⟩ := HS1.out
            refine ⟨k + 1, _, by omega, by go_num, ?_, (HN.out.trans hst).symm, hb3⟩
            simp only [Prod.mk.injEq] at heq
            obtain ⟨rfl, h5⟩ := heq
            have h6 : tt = (clipToW (moveBal s.bal ⟨d, kd, x, y, am, wo⟩) os.length (s.tr.set y am, s.lost)).1 := by rw [← h5]
            have h7 : ll = (clipToW (moveBal s.bal ⟨d, kd, x, y, am, wo⟩) os.length (s.tr.set y am, s.lost)).2 := by rw [← h5]
            subst h6 h7
            exact hT4
         ·
          have hne : ((k : Int) == (q : Int)) = false := by simp; omega
          have hl : ∀ bb : List Int, bb.length = os.length → (moveBal bb ⟨d, kd, x, y, am, wo⟩).length = os.length := fun bb hbb => by simp [moveBal, hbb]
          have HLm := Lib.hid hl
          clear hl
          by_cases hk2 : kd = 2
          ·
           have hk2' : (kd != 2) = false := by simp [hk2]
           have HS1 : Hid (stepW q k s ⟨d, kd, x, y, am, wo⟩ = ⟨moveBal s.bal ⟨d, kd, x, y, am, wo⟩, (clipToW (moveBal s.bal ⟨d, kd, x, y, am, wo⟩) os.length (s.tr, s.lost)).1, (clipToW (moveBal s.bal ⟨d, kd, x, y, am, wo⟩) os.length (s.tr, s.lost)).2⟩) := by
            show _ = _
            have hA : ¬ ((k : Int) = (q : Int)) := by omega
            have hB : (q : Int) ≤ (k : Int) := by omega
            have hC : ¬ ((q : Int) < (k : Int) ∧ kd ≠ 2) := by omega
            simp only [stepW, if_neg hA, if_neg hC, if_pos hB, HLm.out s.bal hT.lb]
           clear hk2
           go_wp2_with fail
           refine (move_calls p g gt os.length cap os.length s.bal s.tr s.lost ⟨d, kd, x, y, am, wo⟩ x y _ (hT.alloc _) rfl rfl hxn hyn).mono ?_
           rintro e w2 ⟨rfl, hT2, hD2⟩
           have hT3 : Trc w2 p g gt os.length cap os.length (moveBal s.bal ⟨d, kd, x, y, am, wo⟩) s.tr s.lost := hT2
           have hb2 := hbz1.trans (hD2.at_ w.heap.size (by simp <;> omega) HL.out.1 HL.out.2.1 HL.out.2.2)
           clear hT2 hD2
           go_wp2_with fail
           refine (clip_calls p g gt os.length cap os.length _ _ _ _ hT3 (by omega)).mono ?_
           rintro e w3 ⟨rfl, hT4, hD4⟩
           have hb3 := hb2.trans (hD4.at_ w.heap.size hb2.size HL.out.1 HL.out.2.1 HL.out.2.2)
           clear hD4
           go_wp2_with fail
           go_roundw
           case measure => simp [intOf] <;> omega
           case rel => exact ⟨k + 1, _, by omega, by go_num, hT4, (HN.out.trans HS1.out).symm, hb3⟩
          ·
           have hk2' : (kd != 2) = true := by simp [hk2]
           have hkk : (kd == 3) = true ∨ (kd == 3) = false ∧ (kd == 1) = true := by
            by_cases h3 : kd = 3
            ·
             exact .inl (by simp [h3])
            ·
             exact .inr ⟨by simp [h3], by simp; omega⟩
           obtain ⟨pp, hpp⟩ : ∃ pp, pp = if kd = 3 then y else x := ⟨_, rfl⟩
           obtain ⟨qq, hqq⟩ : ∃ qq, qq = if kd = 3 then x else y := ⟨_, rfl⟩
           have hP : payer ⟨d, kd, x, y, am, wo⟩ = pp := by rw [hpp]; unfold payer; dsimp only; split <;> rfl
           have hQ : payee ⟨d, kd, x, y, am, wo⟩ = qq := by rw [hqq]; unfold payee; dsimp only; split <;> rfl
           have hppn : pp < os.length := by rw [hpp]; split <;> assumption
           have hqqn : qq < os.length := by rw [hqq]; split <;> assumption
           have hpq : pp ≠ qq := by rw [hpp, hqq]; split <;> omega
           have HPQ : Hid (payer ⟨d, kd, x, y, am, wo⟩ = pp ∧ payee ⟨d, kd, x, y, am, wo⟩ = qq) := ⟨hP, hQ⟩
           have HKK := Lib.hid hkk
           have HS1 : Hid (∃ nn, nn = spentW (s.bal.getD pp 0) (s.tr.getD pp 0) am ∧ stepW q k s ⟨d, kd, x, y, am, wo⟩ = ⟨moveBal s.bal ⟨d, kd, x, y, am, wo⟩, (clipToW (moveBal s.bal ⟨d, kd, x, y, am, wo⟩) os.length (spendTr s.tr pp qq nn kd, spendLost s.lost nn kd)).1, (clipToW (moveBal s.bal ⟨d, kd, x, y, am, wo⟩) os.length (spendTr s.tr pp qq nn kd, spendLost s.lost nn kd)).2⟩) := by
            refine ⟨_, rfl, ?_⟩
            have hA : ¬ ((k : Int) = (q : Int)) := by omega
            have hB : (q : Int) ≤ (k : Int) := by omega
            have hC : (q : Int) < (k : Int) ∧ kd ≠ 2 := ⟨by omega, hk2⟩
            simp only [stepW, if_neg hA, if_pos hC, if_pos hB, HLm.out s.bal hT.lb, spentAt, hP, hQ, Int.toNat_natCast]
           clear hk2 hkk hP hQ hpp hqq
           go_wp2_with fail
           refine (spend_calls p g gt os.length cap os.length s.bal s.tr s.lost ⟨d, kd, x, y, am, wo⟩ pp qq _ (hT.alloc _) HPQ.out.1 HPQ.out.2 hppn hqqn hpq HKK.out).mono ?_
           rintro e w2 ⟨rfl, hT2, hD2⟩
           have hb2 := hbz1.trans (hD2.at_ w.heap.size (by simp <;> omega) HL.out.1 HL.out.2.1 HL.out.2.2)
           have hx2 : w2.heap[wr.heap.size]? = some (.cells #[.int .i64 d, .int .i64 kd, .int .i64 (x : Int), .int .i64 (y : Int), .int .i64 am, .int .i64 wo] 94 (0, 0)) := by
            rw [hD2.block wr.heap.size (by simp) (by omega) (by have := hT.b.lt; omega) (by omega)]
            exact heap_alloc_new _ _
           have d0 : w2.cell? ⟨wr.heap.size, 0, none⟩ = some (.int .i64 d) := by rw [cell_of_row _ _ _ _ _ _ hx2]; rfl
           have d1 : w2.cell? ⟨wr.heap.size, 1, none⟩ = some (.int .i64 kd) := by rw [cell_of_row _ _ _ _ _ _ hx2]; rfl
           have d2 : w2.cell? ⟨wr.heap.size, 2, none⟩ = some (.int .i64 (x : Int)) := by rw [cell_of_row _ _ _ _ _ _ hx2]; rfl
           have d3 : w2.cell? ⟨wr.heap.size, 3, none⟩ = some (.int .i64 (y : Int)) := by rw [cell_of_row _ _ _ _ _ _ hx2]; rfl
           have d4 : w2.cell? ⟨wr.heap.size, 4, none⟩ = some (.int .i64 am) := by rw [cell_of_row _ _ _ _ _ _ hx2]; rfl
           have d5 : w2.cell? ⟨wr.heap.size, 5, none⟩ = some (.int .i64 wo) := by rw [cell_of_row _ _ _ _ _ _ hx2]; rfl
           clear hD2 hx2
           go_wp2_with fail
           refine (move_calls p g gt os.length cap os.length _ _ _ ⟨d, kd, x, y, am, wo⟩ x y _ hT2 rfl rfl hxn hyn).mono ?_
           rintro e w3 ⟨rfl, hT4, hD4⟩
           have hb3 := hb2.trans (hD4.at_ w.heap.size hb2.size HL.out.1 HL.out.2.1 HL.out.2.2)
           obtain ⟨tt, htt⟩ : ∃ tt, tt = spendTr s.tr pp qq (spentW (s.bal.getD pp 0) (s.tr.getD pp 0) am) kd := ⟨_, rfl⟩
           obtain ⟨ll, hll⟩ : ∃ ll, ll = spendLost s.lost (spentW (s.bal.getD pp 0) (s.tr.getD pp 0) am) kd := ⟨_, rfl⟩
           have hT5 : Trc w3 p g gt os.length cap os.length (moveBal s.bal ⟨d, kd, x, y, am, wo⟩) tt ll := by rw [htt, hll]; exact hT4
           have HTT := Lib.hid htt
           have HLL := Lib.hid hll
           clear hT2 hT4 hD4 htt hll
           go_wp2_with fail
           refine (clip_calls p g gt os.length cap os.length _ _ _ _ hT5 (by omega)).mono ?_
           rintro e w4 ⟨rfl, hT6, hD6⟩
           have hb4 := hb3.trans (hD6.at_ w.heap.size hb3.size HL.out.1 HL.out.2.1 HL.out.2.2)
           clear hD6
           go_wp2_with fail
           go_roundw
           case measure => simp [intOf] <;> omega
           case rel =>
            obtain ⟨nn, hnn, hst⟩ := HS1.out
            refine ⟨k + 1, _, by omega, by go_num, ?_, (HN.out.trans hst).symm, hb4⟩
            subst hnn
            rw [← HTT.out, ← HLL.out]
            exact hT6
        ·
         have hkk : k = rows.length := by omega
         have k1 := hT.c1
         have k2 := hT.c2
         have hp := hT.plt
         have HS2 := HS.out
         rw [hkk] at HS2
         have HS3 := Lib.hid HS2
         clear HS2 HS hkk
         go_wp2_with fail
         go_quiet (fail)
         go_wp2_with fail
         go_ret3
         refine ⟨hbz.drewN _, fun h => absurd HNe.out h, fun _ => ⟨gt, HL.out.2.2, ?_, ?_⟩⟩
         ·
          rw [← HS3.out]; rfl
         ·
          rw [← HS3.out]; exact hT.t.drewN _
     ·
      have HF : Hid (traceErr rows os q = 13) := by
       show _ = _
       unfold traceErr
       rw [← HE.out, if_neg (by simp), HOut.out, if_neg (by simp), if_neg (by omega), if_pos (by unfold kindAtQ; simp only [Int.toNat_natCast, hrq]; exact hk1)]
      have hk2 : (rq.kind != 1) = true := by simpa using hk1
      clear hk1 hrq
      go_wp2_with fail
      go_ret3
      exact ⟨hb1, fun _ => by rw [HF.out]; rfl, fun h => by rw [HF.out] at h; omega⟩
    ·
     have HF : Hid (traceErr rows os at_ = 1) := by
      show _ = _
      unfold traceErr
      rw [← HE.out, if_neg (by simp), HOut.out, if_neg (by simp), if_pos (by omega)]
     by_cases hneg : at_ < 0
     ·
      clear hat
      go_wp2_with fail
      go_ret3
      exact ⟨hb1, fun _ => by rw [HF.out]; rfl, fun h => by rw [HF.out] at h; omega⟩
     ·
      have hge : (rows.length : Int) ≤ at_ := by omega
      clear hat
      go_wp2_with fail
      go_ret3
      exact ⟨hb1, fun _ => by rw [HF.out]; rfl, fun h => by rw [HF.out] at h; omega⟩
 ·
  have HF : Hid (traceErr rows os at_ = E) := by
   show _ = _
   unfold traceErr
   rw [← HE.out, if_pos he]
  have he2 : (E != 0) = true := by simpa using he
  have HN := Lib.hid he
  clear he
  go_wp2_with fail
  go_ret3
  exact ⟨hb1, fun _ => by rw [HF.out]; rfl, fun h => by rw [HF.out] at h; exact absurd h HN.out⟩

end Go.Proofs.YtomfcmlomfcghaaGreatDoor

/- insolvencylaw27.awake. -/
set_option linter.unusedVariables false
set_option linter.unusedSimpArgs false
namespace Go.Proofs.YtomfcmlomfcghaaGreatDoor
open Go.RowKit

def awRows : List Row := [⟨0, 1, 0, 1, 100, 0⟩, ⟨0, 1, 1, 2, 50, 0⟩, ⟨0, 3, 3, 1, 40, 0⟩]
theorem aw_err : traceErr awRows [0, 30, 0, 0] 0 = 0 := by decide +kernel
theorem aw_tr : (runW awRows 0 (initW [0, 30, 0, 0]) 3).tr = [0, 40, 20, 0] := by decide +kernel
theorem aw_lost : (runW awRows 0 (initW [0, 30, 0, 0]) 3).lost = 40 := by decide +kernel

set_option maxHeartbeats 1000000 in
theorem awake27_calls (w : World) : Calls Tryz.prog 35 #[] w fun e w' => e = .returned (.bool true) ∧ Below w.heap.size w w' := by
  go_enter Tryz.func35, Tryz.ntmps35
  go_wp2_with fail
  refine (trace_calls _ _ awRows _ _ [0, 30, 0, 0] 0 _ (Rd.next (rd_new _ _ _ 6 3 _ rfl rfl) ((Below.refl _ _).alloc (Nat.le_refl _) _)) (rd_new _ _ _ 1 4 _ (by simp) rfl) (by simp)).mono ?_
  rintro e w1 ⟨hb, _, hok⟩
  obtain ⟨g, hg, rfl, hrow⟩ := hok aw_err
  have e1 : (runW awRows 0 (initW [0, 30, 0, 0]) awRows.length) = runW awRows 0 (initW [0, 30, 0, 0]) 3 := rfl
  rw [e1] at hrow ⊢
  rw [aw_tr] at hrow
  rw [aw_lost]
  have k1 := hrow.cell (k := 1) rfl
  have k2 := hrow.cell (k := 2) rfl
  clear e1
  have HB : Below w.heap.size w w1 := ((((Below.refl _ _).alloc (Nat.le_refl _) _).alloc (by simp) _).trans (hb.mono (by simp <;> omega)))
  go_wp2_with fail
  go_ret
  exact ⟨rfl, HB⟩


end Go.Proofs.YtomfcmlomfcghaaGreatDoor

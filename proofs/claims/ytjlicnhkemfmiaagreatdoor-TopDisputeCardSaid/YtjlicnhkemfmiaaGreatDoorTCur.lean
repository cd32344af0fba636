/- currency.Check of good quotes (a map of the keys that were seen), Rate, Convert. -/
import Derived.Test.YtjlicnhkemfmiaaGreatDoorSq
import Derived.Test.YtjlicnhkemfmiaaGreatDoorTDay
import Derived.Maps.OwnOps
import Derived.Maps.Views
import Derived.DeepKeys4
set_option linter.unusedVariables false
set_option linter.unusedSimpArgs false
set_option maxHeartbeats 8000000
set_option maxRecDepth 100000
namespace Go.Proofs.YtjlicnhkemfmiaaGreatDoor
open Go.RowKit Go.Maps

theorem topLaid : laidOutB Tryz.prog = true := by kernel_rfl
theorem keyRow : (257 : TypeId) < Tryz.prog.types.size := of_decide_eq_true (by kernel_rfl)
theorem keyWide : (match Tryz.prog.underlying 257 with | some (.array _ _) | some (.struct _) => true | _ => false) = true := by kernel_rfl
theorem keyAt3 : Tryz.prog.keyTypeAt 3 257 = true := by kernel_rfl
theorem three_le : 3 + 1 ≤ 10000 := by decide
theorem keyLaw : Keyed Tryz.prog 257 := Keyed.of_law (deep_law_laid topLaid three_le keyRow keyAt3 keyWide)
theorem zeroBool (w : World) : (zeroValue 4).run Tryz.prog w = .ok (.bool false) w := by kernel_rfl
theorem keyType' : Tryz.prog.keyType 257 = true := by kernel_rfl
theorem keyCells : Tryz.prog.cellsOf 257 = 2 := by kernel_rfl
theorem strCells : Tryz.prog.cellsOf 9 = 1 := by kernel_rfl
theorem intCells : Tryz.prog.cellsOf 3 = 1 := by kernel_rfl
theorem nTypes : ∃ m, Tryz.prog.types.size = m + 1 := by
 have h : 0 < Tryz.prog.types.size := Nat.lt_of_le_of_lt (Nat.zero_le _) keyRow
 generalize Tryz.prog.types.size = n at h ⊢
 exact ⟨n - 1, by omega⟩
abbrev kyV (s : ByteArray) (d : Int) : Value := .agg #[.string s, .int .i64 d]
noncomputable def klQ (s : ByteArray) (d : Int) : Lit := (keyOf Tryz.prog 257 (kyV s d)).getD (.bool false)
theorem klQ_some {s : ByteArray} {d : Int} (hs : s.size ≤ maxLen) (hd : 0 ≤ d ∧ d ≤ 1048576) : keyOf Tryz.prog 257 (kyV s d) = some (klQ s d) := by
 have hf : (kyV s d).formed Tryz.prog 257 = true := by simp [Value.formed, Tryz.underlying257, keyCells]
 have hw : (Lit.int .i64 d).wf = true := WalkArith.wf_i64 (by omega)
 obtain ⟨m, hm⟩ := nTypes
 have hl : ∃ ls, Tryz.prog.keyLits (Tryz.prog.types.size + 1) 257 (kyV s d).cells.toList = some ls := by
  rw [hm]
  refine ⟨[.string s.data.toList, .int .i64 d], ?_⟩
  simp [Program.keyLits, Tryz.underlying257, Tryz.underlying9, Tryz.underlying3, keyCells, strCells, intCells, Value.cells, hs, hw]
 obtain ⟨ls, hl⟩ := hl
 have he : keyOf Tryz.prog 257 (kyV s d) = some (.string (keyBytes ls)) := by
  unfold keyOf
  rw [Tryz.underlying257]
  simp only [keyType', hf, hl]
  rfl
 unfold klQ
 rw [he]; rfl
theorem klQ_inj {s s' : ByteArray} {d d' : Int} (hs : s.size ≤ maxLen) (hd : 0 ≤ d ∧ d ≤ 1048576) (hs' : s'.size ≤ maxLen) (hd' : 0 ≤ d' ∧ d' ≤ 1048576) (h : klQ s d = klQ s' d') : s = s' ∧ d = d' := by
 have h1 := klQ_some hs hd
 rw [h] at h1
 have h2 := keyLaw.inj h1 (klQ_some hs' hd')
 simp only [Value.agg.injEq] at h2
 have h3 := congrArg Array.toList h2
 simp only [List.cons.injEq, Value.int.injEq, Value.string.injEq, true_and, and_true] at h3
 exact h3
/-- what the map reads as after k rounds -/
noncomputable def mD (l : List Qt) (k : Nat) : DataW Unit := (l.take k).foldl (fun m q => m.put (klQ q.code q.day) (.lit (.bool true))) (.map [])
theorem mD_succ {l : List Qt} {k : Nat} {q : Qt} (h : l[k]? = some q) : mD l (k + 1) = (mD l k).put (klQ q.code q.day) (.lit (.bool true)) := by
 unfold mD
 rw [List.take_add_one, h, List.foldl_append]; rfl
theorem Qt.Ok.small {q : Qt} (h : q.Ok) : q.code.size ≤ maxLen := by have := h.code.1; unfold maxLen; omega
theorem mD_fresh {l : List Qt} (hl : QtsOk l) {k : Nat} {q : Qt} (h : l[k]? = some q) (z : DataW Unit) : (mD l k).atKey (klQ q.code q.day) z = z := by
 have hq := hl.each q (List.mem_of_getElem? h)
 have hk := (List.getElem?_eq_some_iff.1 h).1
 suffices ∀ j, j ≤ k → (mD l j).atKey (klQ q.code q.day) z = z from this k (Nat.le_refl _)
 intro j
 induction j with
 | zero => intro _; rfl
 | succ j ih =>
  intro hj
  obtain ⟨p, hp⟩ := getElem?_of_lt (l := l) (k := j) (by omega)
  have hpo := hl.each p (List.mem_of_getElem? hp)
  rw [mD_succ hp, atKey_put_other ?_, ih (by omega)]
  intro e
  have e2 := klQ_inj hq.small hq.day hpo.small hpo.day e
  have h3 := (List.pairwise_iff_getElem.1 hl.apart) j k (by omega) hk (by omega)
  rw [(List.getElem?_eq_some_iff.1 hp).2, (List.getElem?_eq_some_iff.1 h).2] at h3
  exact h3 ⟨e2.1.symm, e2.2.symm⟩
theorem plainElem_bool_inv {H : Type} {P : Program} {e : TypeId} (he : P.underlying e = some .bool) {v : Value} {z : DataW H × List MemPlace} (h : plainElem P e v = some z) : ∃ x, v = .bool x ∧ z = (.lit (.bool x), []) := by
 unfold plainElem at h
 rw [he] at h
 cases v <;> simp at h
 exact ⟨_, rfl, h.symm⟩
theorem lit_false {c : Bool} (h : (DataW.lit (.bool false) : DataW Unit) = .lit (.bool c)) : c = false := by
 simp only [DataW.lit.injEq, Lit.bool.injEq] at h
 exact h.symm
theorem wpList_lookup_own_fresh {P : Program} (w : World) {ops : Array Oper} {rest : List Oper} {o : Oper} {a : Act} {Q : Exit → Act → World → Prop}
 (hg : o.guard = none) (m x : Operand) (t : TypeId) (hop : o.op = Op.lookup t m x false)
 (k e : TypeId) (K : Keyed P k) (ht : P.underlying t = some (.map k e)) (he : P.underlying e = some .bool) (hz : (zeroValue e).run P w = .ok (.bool false) w) (b n : Nat) (D : DataW Unit)
 (hm : a.eval m = .map (some b)) (hown : w.ownsMap P k (plainElem P e) b n D) (key : Value) (kl : Lit) (hx : a.eval x = key) (hkey : keyOf P k key = some kl)
 (hfr : D.atKey kl (.lit (.bool false)) = .lit (.bool false))
 (hK : wpList P ops Q rest (a.put o.dst (.bool false)) w) :
 wpList P ops Q (o :: rest) a w := by
 refine wpList_plain hg fun K' hK' => ?_
 obtain ⟨v, ps, hrun, hv⟩ := hown.lookup K ht hz (plainElem_bool he false) hkey
 obtain ⟨c, rfl, hc⟩ := plainElem_bool_inv he hv
 simp only [Prod.mk.injEq] at hc
 obtain rfl : c = false := lit_false (hfr.symm.trans hc.1)
 unfold Oper.wp
 simp [execOp, hop, hm, hx, hrun, Result.andThen]
 exact hK' _ _ hK
theorem sgnQ_pos {q : Rat} (h : 0 < q) : 0 < sgnR q := sgnR_pos.2 h

def QBox (g : Nat) (co : ByteArray) (dy : Int) (sr : Bool) (nr dr : ByteArray) (W : World) : Prop := W.heap[g]? = some (.cells #[.string co, .int .i64 dy, .bool sr, .string nr, .string dr] 243 (0, 0))
def KBox (g : Nat) (co : ByteArray) (dy : Int) (W : World) : Prop := W.heap[g]? = some (.cells #[.string co, .int .i64 dy] 257 (0, 0))
theorem QBox.cells {g : Nat} {co : ByteArray} {dy : Int} {sr : Bool} {nr dr : ByteArray} {W : World} (h : QBox g co dy sr nr dr W) :
 W.cell? ⟨g, 0, none⟩ = some (.string co) ∧ W.cell? ⟨g, 1, none⟩ = some (.int .i64 dy) ∧ W.cell? ⟨g, 2, none⟩ = some (.bool sr) ∧ W.cell? ⟨g, 3, none⟩ = some (.string nr) ∧ W.cell? ⟨g, 4, none⟩ = some (.string dr) := by
 refine ⟨?_, ?_, ?_, ?_, ?_⟩
 ·
  rw [cell_of_row W g 0 _ _ (0, 0) h]; rfl
 ·
  rw [cell_of_row W g 1 _ _ (0, 0) h]; rfl
 ·
  rw [cell_of_row W g 2 _ _ (0, 0) h]; rfl
 ·
  rw [cell_of_row W g 3 _ _ (0, 0) h]; rfl
 ·
  rw [cell_of_row W g 4 _ _ (0, 0) h]; rfl
theorem KBox.cells {g : Nat} {co : ByteArray} {dy : Int} {W : World} (h : KBox g co dy W) : W.cell? ⟨g, 0, none⟩ = some (.string co) ∧ W.cell? ⟨g, 1, none⟩ = some (.int .i64 dy) := by
 refine ⟨?_, ?_⟩
 ·
  rw [cell_of_row W g 0 _ _ (0, 0) h]; rfl
 ·
  rw [cell_of_row W g 1 _ _ (0, 0) h]; rfl
theorem QBox.next {g : Nat} {co : ByteArray} {dy : Int} {sr : Bool} {nr dr : ByteArray} {W W' : World} (h : QBox g co dy sr nr dr W) (hb : Below W.heap.size W W') : QBox g co dy sr nr dr W' := blk_next h hb
theorem KBox.next {g : Nat} {co : ByteArray} {dy : Int} {W W' : World} (h : KBox g co dy W) (hb : Below W.heap.size W W') : KBox g co dy W' := blk_next h hb
theorem ownsMap_below {H : Type} {P : Program} {k : TypeId} {R : Value → Option (DataW H × List MemPlace)} {b n : Nat} {D : DataW H} {w w' : World} (h : w.ownsMap P k R b n D) (hb : Below w.heap.size w w') : w'.ownsMap P k R b n D := by
 have hlt := h.lt
 obtain ⟨es, clock, h1, h2⟩ := h
 exact ⟨es, clock, (hb.block b hlt).trans h1, h2⟩

theorem quotesChk_calls (A : Option Addr) (n c : Nat) (l : List Qt) (w : World) (hn : n = l.length) (hr : Rd w w.heap.size 5 A l.length (l.flatMap Qt.cells)) (hl : QtsOk l) :
 Calls Tryz.prog 161 #[.slice A n c] w fun e w' => e = .returned (.int .i64 0) ∧ Below w.heap.size w w' := by
 have hmm := @run_makeMap Tryz.prog
 have hn8 : n ≤ 8 := by rw [hn]; exact hl.len
 have d0 : decide (256 < (n : Int)) = false := decide_eq_false (by omega)
 have HL := Lib.hid (And.intro hn (And.intro hr hl))
 clear hn hr hl
 go_enter Tryz.func161, Tryz.ntmps161
 go_wp2_with fail
 obtain ⟨M, hM⟩ : ∃ M, M = w.heap.size := ⟨_, rfl⟩
 obtain ⟨wm, hwm⟩ : ∃ W, W = w.alloc (.map #[] 0) := ⟨_, rfl⟩
 have HO0 : Hid (wm.ownsMap Tryz.prog 257 (plainElem (H := Unit) Tryz.prog 4) M 0 (mD l 0)) := by rw [hwm, hM]; exact World.ownsMap_made _ _ _ _
 have HB0 : Hid (Below w.heap.size w wm) := by rw [hwm]; exact bel_alloc _ _
 have HM := Lib.hid hM
 (try rw [← hwm])
 (try rw [← hM])
 clear hM hwm hmm
 go_loopw [13] (fun i wr => ∃ k : Nat, k ≤ n ∧ i = .int .i64 (k : Int) ∧ Hid (wr.ownsMap Tryz.prog 257 (plainElem (H := Unit) Tryz.prog 4) M k (mD l k)) ∧ Hid (Below w.heap.size w wr)) (fun i _ => n - (intOf i).toNat)
 case atStart => exact ⟨0, Nat.zero_le _, rfl, HO0, HB0⟩
 case round =>
  clear HO0 HB0
  obtain ⟨k, hk, rfl, HO, HB⟩ := hrel
  rename World => wo
  by_cases hlt : k < n
  ·
   have hlt2 : (k : Int) < (n : Int) := by omega
   obtain ⟨q, hq⟩ := getElem?_of_lt (l := l) (k := k) (by rw [← HL.out.1]; exact hlt)
   have hqo := HL.out.2.2.each q (List.mem_of_getElem? hq)
   obtain ⟨b, off, hA, _, hc⟩ := Rd.at_ (enc := Qt.cells) (fun _ => rfl) (HL.out.2.1.next HB.out) hq
   subst hA
   have p0 := hc 0 _ rfl
   have p1 := hc 1 _ rfl
   have p2 := hc 2 _ rfl
   have p3 := hc 3 _ rfl
   have p4 := hc 4 _ rfl
   rw [Nat.add_zero] at p0
   rw [← Nat.add_assoc] at p1 p2 p3 p4
   clear hc
   have HC := Lib.hid (fun W => currencyCode_calls q.code W hqo.code)
   have HY := Lib.hid (fun W => currencyDay_calls q.day W hqo.day.1 hqo.day.2)
   have HS' := fun W => pSignQ_calls q.rate 8 W hqo.sz (by omega)
   have hsp := sgnQ_pos hqo.rate
   have t1 : (q.code.toList == [69, 85, 82]) = false := by
    refine beq_eq_false_iff_ne.2 fun e => hqo.eur ?_
    have e2 : q.code.data.toList = [69, 85, 82] := by rw [← e]; exact (ByteArray.toList_eq _).symm
    exact congrArg ByteArray.mk (Array.toList_inj.1 e2)
   have HKY := Lib.hid (klQ_some hqo.small hqo.day)
   have HFR := Lib.hid (mD_fresh HL.out.2.2 hq (.lit (.bool false)))
   have HSU := Lib.hid (mD_succ hq)
   obtain ⟨sg, hsg⟩ : ∃ x, x = sgnR q.rate := ⟨_, rfl⟩
   rw [← hsg] at HS' hsp
   have d1 : decide (sg ≤ 0) = false := decide_eq_false (by omega)
   unfold ratV at HS'
   obtain ⟨co, dy, rt⟩ := q
   dsimp only at p0 p1 p2 p3 p4 HC HY HS' t1 HKY HFR HSU
   obtain ⟨sr, hsr⟩ : ∃ x, x = rneg rt := ⟨_, rfl⟩
   obtain ⟨nr, hnr⟩ : ∃ x, x = rnum rt := ⟨_, rfl⟩
   obtain ⟨dr, hdr⟩ : ∃ x, x = rden rt := ⟨_, rfl⟩
   rw [← hsr] at p2 HS'
   rw [← hnr] at p3 HS'
   rw [← hdr] at p4 HS'
   have HS := Lib.hid HS'
   clear HS' hsr hnr hdr hsg hsp hqo hq
   obtain ⟨kl, hkl⟩ : ∃ x, x = klQ co dy := ⟨_, rfl⟩
   rw [← hkl] at HKY HFR HSU
   clear hkl
   go_wp2_with fail
   clear p0 p1 p2 p3 p4
   obtain ⟨g, hg⟩ : ∃ g, g = wo.heap.size := ⟨_, rfl⟩
   obtain ⟨w2, hw2⟩ : ∃ W, W = (wo.alloc (.cells #[.string co, .int .i64 dy, .bool sr, .string nr, .string dr] 243)).alloc (.cells #[.string co, .int .i64 dy] 257) := ⟨_, rfl⟩
   have HQ2 : Hid (QBox g co dy sr nr dr w2) := by rw [hw2, hg]; exact blk_alloc (blk_new _ _)
   have HK2 : Hid (KBox (g + 1) co dy w2) := by
    have := blk_new (wo.alloc (.cells #[.string co, .int .i64 dy, .bool sr, .string nr, .string dr] 243)) (.cells #[.string co, .int .i64 dy] 257)
    rw [World.size_alloc] at this
    rw [hw2, hg]; exact this
   have HB2 : Hid (Below w.heap.size w w2) := by rw [hw2]; exact (HB.out.alloc HB.out.size _).alloc (by have := HB.out.size; simp; omega) _
   have HO2 : Hid (w2.ownsMap Tryz.prog 257 (plainElem (H := Unit) Tryz.prog 4) M k (mD l k)) := by rw [hw2]; exact (HO.out.alloc _).alloc _
   rw [← hw2, ← hg]
   clear hw2 hg HB HO
   obtain ⟨a0, a1, a2, a3, a4⟩ := HQ2.out.cells
   obtain ⟨b0, b1⟩ := HK2.out.cells
   refine (HC.out _).mono ?_
   rintro e w3 ⟨rfl, rfl⟩
   go_wp2_with fail
   refine (HY.out _).mono ?_
   rintro e w3 ⟨rfl, rfl⟩
   go_wp2_with fail
   refine (HS.out _).mono ?_
   rintro e w3 ⟨rfl, hb⟩
   have HQ3 := Lib.hid (HQ2.out.next hb)
   have HK3 := Lib.hid (HK2.out.next hb)
   have HB3 := ben HB2 hb
   have HO3 := Lib.hid (ownsMap_below HO2.out hb)
   clear a0 a1 a2 a3 a4 b0 b1 hb HQ2 HK2 HB2 HO2
   obtain ⟨b0, b1⟩ := HK3.out.cells
   go_wp2_with (first | (at_lookup; refine wpList_lookup_own_fresh _ rfl _ _ 255 rfl 257 4 keyLaw Tryz.underlying255 Tryz.underlying4 (zeroBool _) M k (mD l k) rfl HO3.out _ kl rfl HKY.out HFR.out ?_) | (at_mapUpdate; refine wpList_mapUpdate_own _ rfl _ _ _ 255 rfl 257 4 keyLaw Tryz.underlying255 _ M k (mD l k) rfl HO3.out (by unfold maxLen; omega) _ _ kl rfl rfl HKY.out (.lit (.bool true)) [] (plainElem_bool Tryz.underlying4 true) ?_) | fail)
   intro w4 hown4 hgr4
   have HO4 : Hid (w4.ownsMap Tryz.prog 257 (plainElem (H := Unit) Tryz.prog 4) M (k + 1) (mD l (k + 1))) := by show World.ownsMap _ _ _ _ _ _ _; rw [HSU.out]; exact hown4
   have HB4 : Hid (Below w.heap.size w w4) := HB3.out.grown hgr4 HB3.out.size (fun j hj => by cases hj; rw [HM.out]; exact Nat.le_refl _)
   clear hown4 hgr4 b0 b1 HQ3 HK3 HB3 HO3
   go_wp2_with fail
   go_roundw
   case measure => simp [intOf] <;> omega
   case rel => exact ⟨k + 1, by omega, by go_num, HO4, HB4⟩
  ·
   have hlt2 : ¬ (k : Int) < (n : Int) := by omega
   go_wp2_with fail
   go_ret
   exact ⟨rfl, HB.out⟩

theorem one_calls (w : World) : Calls Tryz.prog 42 #[.int .i64 1] w fun e w' => e = .returned (ratV 1) ∧ Below w.heap.size w w' := pIntQ_calls 1 w (by decide)
/-- the program's choice, a round further -/
theorem bst_skip {l : List Qt} {code : ByteArray} {day : Int} {k : Nat} {q : Qt} (h : l[k]? = some q) (hn : ¬ (q.code = code ∧ q.day ≤ day ∧ (bst l code day k < 0 ∨ dayAt l (bst l code day k) < q.day))) : bst l code day (k + 1) = bst l code day k := by
 rw [bst, h]; exact if_neg hn
theorem bst_take {l : List Qt} {code : ByteArray} {day : Int} {k : Nat} {q : Qt} (h : l[k]? = some q) (hn : q.code = code ∧ q.day ≤ day ∧ (bst l code day k < 0 ∨ dayAt l (bst l code day k) < q.day)) : bst l code day (k + 1) = k := by
 rw [bst, h]; exact if_pos hn
theorem known_next {l : List Qt} {code : ByteArray} {k : Nat} {q : Qt} (h : l[k]? = some q) : knownQ l code (k + 1) = (knownQ l code k || decide (q.code = code)) := by
 unfold knownQ
 rw [List.take_add_one, h, List.any_append]; simp
theorem bytes_ne {a b : ByteArray} (h : a ≠ b) : (a.toList == b.toList) = false := by
 refine beq_eq_false_iff_ne.2 fun e => h ?_
 rw [ByteArray.toList_eq, ByteArray.toList_eq] at e
 exact congrArg ByteArray.mk (Array.toList_inj.1 e)
theorem eur_list : eurB.toList = [69, 85, 82] := by rw [ByteArray.toList_eq]; rfl
def RBox (g : Nat) (W : World) : Prop := W.heap[g]? = some (.cells #[.bool false, .string ⟨#[]⟩, .string ⟨#[]⟩] 33)
theorem RBox.next {g : Nat} {W W' : World} (h : RBox g W) (hb : Below W.heap.size W W') : RBox g W' := blk_next h hb
/-- a quote's box, and the day of the one that was chosen -/
def QtS (g : Nat) (co : ByteArray) (dy : Int) (sr : Bool) (nr dr : ByteArray) (a : Addr) (v : Int) (u : Bool) (W : World) : Prop := QBox g co dy sr nr dr W ∧ (u = true → W.cell? a = some (.int .i64 v))

theorem rate_eur (A : Option Addr) (n c : Nat) (l : List Qt) (code : ByteArray) (day : Int) (w : World) (hn : n = l.length) (hr : Rd w w.heap.size 5 A l.length (l.flatMap Qt.cells)) (hl : QtsOk l) (hd : 0 ≤ day ∧ day ≤ 1048576) (hc : code = eurB) :
 Calls Tryz.prog 132 #[.slice A n c, .string code, .int .i64 day] w fun e w' => e = .returned (.tuple #[ratV (rateQ l code day).1, .int .i64 (rateQ l code day).2]) ∧ Below w.heap.size w w' := by
 subst hc
 have HQ : Hid (rateQ l eurB day = (1, 0)) := by show _ = _; unfold rateQ; rw [if_pos rfl]
 have HK := Lib.hid (fun W (hw : Below w.heap.size w W) => quotesChk_calls A n c l W hn (hr.next hw) hl)
 have HY := Lib.hid (fun W => currencyDay_calls day W hd.1 hd.2)
 have hn8 : n ≤ 8 := by rw [hn]; exact hl.len
 have HI := Lib.hid one_calls
 rw [HQ.out]
 dsimp only
 unfold eurB
 obtain ⟨v1, v2, v3, hv⟩ : ∃ v1 v2 v3, ratV 1 = .agg #[.bool v1, .string v2, .string v3] := ⟨_, _, _, rfl⟩
 rw [hv] at HI ⊢
 clear hv hn hr hl hd HQ
 go_enter Tryz.func132, Tryz.ntmps132
 go_wp2_with fail
 refine (HK.out _ (bel_alloc _ _)).mono ?_
 rintro e w1 ⟨rfl, hb⟩
 have HB1 : Hid (Below w.heap.size w w1) := (bel_alloc _ _).trans (hb.mono (by simp))
 have HR1 : Hid (RBox w.heap.size w1) := blk_next (blk_new w (.cells #[.bool false, .string ⟨#[]⟩, .string ⟨#[]⟩] 33)) hb
 clear hb HK
 go_wp2_with fail
 refine (HY.out _).mono ?_
 rintro e w2 ⟨rfl, rfl⟩
 clear HY
 go_wp2_with fail
 refine (HI.out _).mono ?_
 rintro e w3 ⟨rfl, hb⟩
 have HB3 := ben HB1 hb
 obtain ⟨c0, c1, c2, f0, f1, f2, hz⟩ := three_of (HR1.out.next hb)
 clear hb
 go_wp2_with fail
 exact bodyPost_ret (v := .tuple #[.agg #[.bool v1, .string v2, .string v3], .int .i64 0]) (by simp [results, Tryz.results132, go_sem, c0, c1, c2]) rfl ⟨rfl, ((HB3.out.setCell (by simp <;> omega) _).setCell (by simp <;> omega) _).setCell (by simp <;> omega) _⟩
theorem rate_other (A : Option Addr) (n c : Nat) (l : List Qt) (code : ByteArray) (day : Int) (w : World) (hn : n = l.length) (hr : Rd w w.heap.size 5 A l.length (l.flatMap Qt.cells)) (hl : QtsOk l) (hd : 0 ≤ day ∧ day ≤ 1048576) (hc : code ≠ eurB) :
 Calls Tryz.prog 132 #[.slice A n c, .string code, .int .i64 day] w fun e w' => e = .returned (.tuple #[ratV (rateQ l code day).1, .int .i64 (rateQ l code day).2]) ∧ Below w.heap.size w w' := by
 have HK := Lib.hid (fun W (hw : Below w.heap.size w W) => quotesChk_calls A n c l W hn (hr.next hw) hl)
 have HY := Lib.hid (fun W => currencyDay_calls day W hd.1 hd.2)
 have hn8 : n ≤ 8 := by rw [hn]; exact hl.len
 have t1 : (code.toList == [69, 85, 82]) = false := by rw [← eur_list]; exact bytes_ne hc
 have HNE := Lib.hid hc
 have HL := Lib.hid (And.intro hn hr)
 clear hn hr hl hd hc
 go_enter Tryz.func132, Tryz.ntmps132
 go_wp2_with fail
 refine (HK.out _ (bel_alloc _ _)).mono ?_
 rintro e w1 ⟨rfl, hb⟩
 have HB1 : Hid (Below w.heap.size w w1) := (bel_alloc _ _).trans (hb.mono (by simp))
 have HR1 : Hid (RBox w.heap.size w1) := blk_next (blk_new w (.cells #[.bool false, .string ⟨#[]⟩, .string ⟨#[]⟩] 33)) hb
 clear hb HK
 go_wp2_with fail
 refine (HY.out _).mono ?_
 rintro e w2 ⟨rfl, rfl⟩
 clear HY
 go_wp2_with fail
 go_loopw [9, 10, 28] (fun kn be i wr => ∃ k : Nat, k ≤ n ∧ i = .int .i64 (k : Int) ∧ kn = .bool (knownQ l code k) ∧ be = .int .i64 (bst l code day k) ∧ Hid (RBox w.heap.size wr) ∧ Hid (Below w.heap.size w wr)) (fun _ _ i _ => n - (intOf i).toNat)
 case atStart => exact ⟨0, Nat.zero_le _, rfl, rfl, rfl, HR1, HB1⟩
 case round =>
  clear HR1 HB1
  obtain ⟨k, hk, rfl, rfl, rfl, HR, HB⟩ := hrel
  rename World => wo
  by_cases hlt : k < n
  ·
   have hlt2 : (k : Int) < (n : Int) := by omega
   obtain ⟨q, hq⟩ := getElem?_of_lt (l := l) (k := k) (by rw [← HL.out.1]; exact hlt)
   have hbd := bst_bd l code day k
   obtain ⟨b, off, hA, _, hc⟩ := Rd.at_ (enc := Qt.cells) (fun _ => rfl) (HL.out.2.next HB.out) hq
   have hcs := fun j p (hj : l[j]? = some p) => Rd.at_ (enc := Qt.cells) (fun _ => rfl) (HL.out.2.next HB.out) hj
   subst hA
   have p0 := hc 0 _ rfl
   have p1 := hc 1 _ rfl
   have p2 := hc 2 _ rfl
   have p3 := hc 3 _ rfl
   have p4 := hc 4 _ rfl
   rw [Nat.add_zero] at p0
   rw [← Nat.add_assoc] at p1 p2 p3 p4
   clear hc
   have HKN := Lib.hid (known_next (code := code) hq)
   have HSK := Lib.hid (bst_skip (code := code) (day := day) hq)
   have HTK := Lib.hid (bst_take (code := code) (day := day) hq)
   have HBD := Lib.hid hbd
   have HCS := Lib.hid hcs
   clear hbd hcs hq
   obtain ⟨kn, hkn⟩ : ∃ x, x = knownQ l code k := ⟨_, rfl⟩
   obtain ⟨be, hbe⟩ : ∃ x, x = bst l code day k := ⟨_, rfl⟩
   rw [← hkn] at HKN ⊢
   rw [← hbe] at HSK HTK HBD ⊢
   obtain ⟨co, dy, rt⟩ := q
   dsimp only at p0 p1 p2 p3 p4 HKN HSK HTK
   obtain ⟨sr, hsr⟩ : ∃ x, x = rneg rt := ⟨_, rfl⟩
   obtain ⟨nr, hnr⟩ : ∃ x, x = rnum rt := ⟨_, rfl⟩
   obtain ⟨dr, hdr⟩ : ∃ x, x = rden rt := ⟨_, rfl⟩
   rw [← hsr] at p2
   rw [← hnr] at p3
   rw [← hdr] at p4
   clear hsr hnr hdr hkn hbe
   by_cases hco2 : code = co
   ·
    subst hco2
    by_cases hdy : dy ≤ day
    ·
     by_cases hbe : be < 0
     ·
      have d1 : decide (dy ≤ day) = true := decide_eq_true hdy
      have d2 : decide (be < 0) = true := decide_eq_true hbe
      have HK2 : Hid (knownQ l code (k + 1) = true) := HKN.out.trans (by simp)
      have HE2 : Hid (bst l code day (k + 1) = (k : Int)) := HTK.out ⟨rfl, hdy, Or.inl hbe⟩
      go_wp2_with fail
      obtain ⟨g, hg⟩ : ∃ g, g = wo.heap.size := ⟨_, rfl⟩
      obtain ⟨w5, hw5⟩ : ∃ W, W = wo.alloc (.cells #[.string code, .int .i64 dy, .bool sr, .string nr, .string dr] 243) := ⟨_, rfl⟩
      have HQ5 : Hid (QBox g code dy sr nr dr w5) := by rw [hw5, hg]; exact blk_new _ _
      have HR5 : Hid (RBox w.heap.size w5) := by rw [hw5]; exact HR.out.next (bel_alloc _ _)
      have HB5 := bea HB hw5
      (try rw [← hw5])
      (try rw [← hg])
      clear hw5 hg HR HB p0 p1 p2 p3 p4
      clear HKN HSK HTK HBD HCS
      obtain ⟨w6, hw6⟩ : ∃ W, W = w5.drew := ⟨_, rfl⟩
      have hS : QtS g code dy sr nr dr ⟨0, 0, none⟩ 0 false w6 := by rw [hw6]; exact ⟨HQ5.out, fun h => by cases h⟩
      have HR6 : Hid (RBox w.heap.size w6) := by rw [hw6]; exact HR5.out
      have HB6 := bed HB5 hw6
      refine wp_region_held_drew (S := QtS g code dy sr nr dr ⟨0, 0, none⟩ 0 false) (by kernel_rfl) (by rw [← hw6]; exact hS) ?_
      rw [← hw6]
      intro _
      clear hw6 HQ5 HR5 HB5
      refine tk 0 hS ?_
      go_simp
      refine tv 1 (.int .i64 dy) rfl (by intro w' hw'; obtain ⟨k0, k1, k2, k3, k4⟩ := hw'.1.cells; go_simp) hS ?_
      go_simp
      refine tk 2 hS ?_
      go_simp
      refine tk 3 hS ?_
      go_simp
      refine tk 4 hS ?_
      go_simp
      refine tk 5 hS ?_
      go_simp
      refine tk 6 hS ?_
      go_simp
      refine tk 7 hS ?_
      go_simp
      refine tu 8 hS ?_
      go_simp
      refine tu 9 hS ?_
      go_simp
      refine tu 10 hS ?_
      go_simp
      refine tu 11 hS ?_
      go_simp
      refine tu 12 hS ?_
      go_simp
      refine tu 13 hS ?_
      go_simp
      refine tu 14 hS ?_
      go_simp
      refine tu 15 hS ?_
      go_simp
      refine tk 16 hS ?_
      go_simp
      refine tk 17 hS ?_
      go_simp
      refine wpAnyH_done (by kernel_rfl) ?_ _
      clear hS
      go_wp2_with fail
      go_roundw
      case measure => simp [intOf] <;> omega
      case rel => exact ⟨k + 1, by omega, by go_num, by rw [HK2.out], by rw [HE2.out], HR6, HB6⟩
     ·
      have d1 : decide (dy ≤ day) = true := decide_eq_true hdy
      obtain ⟨bi, rfl⟩ : ∃ m : Nat, be = (m : Int) := ⟨be.toNat, by omega⟩
      have hbn : bi < n := by have := HBD.out; omega
      have hbn2 : (bi : Int) < (n : Int) := by omega
      have d2 : decide ((bi : Int) < 0) = false := decide_eq_false hbe
      obtain ⟨p, hp⟩ := getElem?_of_lt (l := l) (k := bi) (by rw [← HL.out.1]; exact hbn)
      obtain ⟨b', off', hA', hbw, hc⟩ := HCS.out bi p hp
      obtain ⟨rfl, rfl⟩ : b = b' ∧ off = off' := by simpa using hA'
      have pv := hc 1 _ rfl
      rw [← Nat.add_assoc] at pv
      clear hc hA'
      obtain ⟨dv, hdv⟩ : ∃ x, x = p.day := ⟨_, rfl⟩
      have hda : dayAt l (bi : Int) = dv := by unfold dayAt; rw [Int.toNat_natCast, hp, hdv]
      rw [← hdv] at pv
      rw [hda] at HSK HTK
      clear hp hdv hda
      by_cases hdd : dv < dy
      ·
       have d3 : decide (dv < dy) = true := decide_eq_true hdd
       have HK2 : Hid (knownQ l code (k + 1) = true) := HKN.out.trans (by simp)
       have HE2 : Hid (bst l code day (k + 1) = (k : Int)) := HTK.out ⟨rfl, hdy, Or.inr hdd⟩
       go_wp2_with fail
       obtain ⟨g, hg⟩ : ∃ g, g = wo.heap.size := ⟨_, rfl⟩
       obtain ⟨w5, hw5⟩ : ∃ W, W = wo.alloc (.cells #[.string code, .int .i64 dy, .bool sr, .string nr, .string dr] 243) := ⟨_, rfl⟩
       have HQ5 : Hid (QBox g code dy sr nr dr w5) := by rw [hw5, hg]; exact blk_new _ _
       have HR5 : Hid (RBox w.heap.size w5) := by rw [hw5]; exact HR.out.next (bel_alloc _ _)
       have HB5 := bea HB hw5
       have HCB : Hid (w5.cell? ⟨b, off + bi * 5 + 1, none⟩ = some (.int .i64 dv)) := by rw [hw5]; exact ((bel_alloc wo _).cell hbw).trans pv
       clear hbw pv
       (try rw [← hw5])
       (try rw [← hg])
       clear hw5 hg HR HB p0 p1 p2 p3 p4
       clear HKN HSK HTK HBD HCS
       obtain ⟨w6, hw6⟩ : ∃ W, W = w5.drew := ⟨_, rfl⟩
       have hS : QtS g code dy sr nr dr ⟨b, off + bi * 5 + 1, none⟩ dv true w6 := by rw [hw6]; exact ⟨HQ5.out, fun _ => HCB.out⟩
       have HR6 : Hid (RBox w.heap.size w6) := by rw [hw6]; exact HR5.out
       have HB6 := bed HB5 hw6
       refine wp_region_held_drew (S := QtS g code dy sr nr dr ⟨b, off + bi * 5 + 1, none⟩ dv true) (by kernel_rfl) (by rw [← hw6]; exact hS) ?_
       rw [← hw6]
       intro _
       clear hw6 HQ5 HR5 HB5
       refine tk 0 hS ?_
       go_simp
       refine tv 1 (.int .i64 dy) rfl (by intro w' hw'; obtain ⟨k0, k1, k2, k3, k4⟩ := hw'.1.cells; go_simp) hS ?_
       go_simp
       refine tk 2 hS ?_
       go_simp
       refine tk 3 hS ?_
       go_simp
       refine tk 4 hS ?_
       go_simp
       refine tk 5 hS ?_
       go_simp
       refine tk 6 hS ?_
       go_simp
       refine tk 7 hS ?_
       go_simp
       refine tk 8 hS ?_
       go_simp
       refine tv 9 (.int .i64 dy) rfl (by intro w' hw'; obtain ⟨k0, k1, k2, k3, k4⟩ := hw'.1.cells; go_simp) hS ?_
       go_simp
       refine tk 10 hS ?_
       go_simp
       refine tk 11 hS ?_
       go_simp
       refine tk 12 hS ?_
       go_simp
       refine tk 13 hS ?_
       go_simp
       refine tv 14 (.int .i64 dv) rfl (by intro w' hw'; have k5 := hw'.2 rfl; go_simp) hS ?_
       go_simp
       refine tk 15 hS ?_
       go_simp
       refine tk 16 hS ?_
       go_simp
       refine tk 17 hS ?_
       go_simp
       refine wpAnyH_done (by kernel_rfl) ?_ _
       clear hS
       go_wp2_with fail
       go_roundw
       case measure => simp [intOf] <;> omega
       case rel => exact ⟨k + 1, by omega, by go_num, by rw [HK2.out], by rw [HE2.out], HR6, HB6⟩
      ·
       have d3 : decide (dv < dy) = false := decide_eq_false hdd
       have HK2 : Hid (knownQ l code (k + 1) = true) := HKN.out.trans (by simp)
       have HE2 : Hid (bst l code day (k + 1) = (bi : Int)) := HSK.out (fun h => h.2.2.elim hbe hdd)
       go_wp2_with fail
       obtain ⟨g, hg⟩ : ∃ g, g = wo.heap.size := ⟨_, rfl⟩
       obtain ⟨w5, hw5⟩ : ∃ W, W = wo.alloc (.cells #[.string code, .int .i64 dy, .bool sr, .string nr, .string dr] 243) := ⟨_, rfl⟩
       have HQ5 : Hid (QBox g code dy sr nr dr w5) := by rw [hw5, hg]; exact blk_new _ _
       have HR5 : Hid (RBox w.heap.size w5) := by rw [hw5]; exact HR.out.next (bel_alloc _ _)
       have HB5 := bea HB hw5
       have HCB : Hid (w5.cell? ⟨b, off + bi * 5 + 1, none⟩ = some (.int .i64 dv)) := by rw [hw5]; exact ((bel_alloc wo _).cell hbw).trans pv
       clear hbw pv
       (try rw [← hw5])
       (try rw [← hg])
       clear hw5 hg HR HB p0 p1 p2 p3 p4
       clear HKN HSK HTK HBD HCS
       obtain ⟨w6, hw6⟩ : ∃ W, W = w5.drew := ⟨_, rfl⟩
       have hS : QtS g code dy sr nr dr ⟨b, off + bi * 5 + 1, none⟩ dv true w6 := by rw [hw6]; exact ⟨HQ5.out, fun _ => HCB.out⟩
       have HR6 : Hid (RBox w.heap.size w6) := by rw [hw6]; exact HR5.out
       have HB6 := bed HB5 hw6
       refine wp_region_held_drew (S := QtS g code dy sr nr dr ⟨b, off + bi * 5 + 1, none⟩ dv true) (by kernel_rfl) (by rw [← hw6]; exact hS) ?_
       rw [← hw6]
       intro _
       clear hw6 HQ5 HR5 HB5
       refine tk 0 hS ?_
       go_simp
       refine tv 1 (.int .i64 dy) rfl (by intro w' hw'; obtain ⟨k0, k1, k2, k3, k4⟩ := hw'.1.cells; go_simp) hS ?_
       go_simp
       refine tk 2 hS ?_
       go_simp
       refine tk 3 hS ?_
       go_simp
       refine tk 4 hS ?_
       go_simp
       refine tk 5 hS ?_
       go_simp
       refine tk 6 hS ?_
       go_simp
       refine tk 7 hS ?_
       go_simp
       refine tk 8 hS ?_
       go_simp
       refine tv 9 (.int .i64 dy) rfl (by intro w' hw'; obtain ⟨k0, k1, k2, k3, k4⟩ := hw'.1.cells; go_simp) hS ?_
       go_simp
       refine tk 10 hS ?_
       go_simp
       refine tk 11 hS ?_
       go_simp
       refine tk 12 hS ?_
       go_simp
       refine tk 13 hS ?_
       go_simp
       refine tv 14 (.int .i64 dv) rfl (by intro w' hw'; have k5 := hw'.2 rfl; go_simp) hS ?_
       go_simp
       refine tk 15 hS ?_
       go_simp
       refine tk 16 hS ?_
       go_simp
       refine tk 17 hS ?_
       go_simp
       refine wpAnyH_done (by kernel_rfl) ?_ _
       clear hS
       go_wp2_with fail
       go_roundw
       case measure => simp [intOf] <;> omega
       case rel => exact ⟨k + 1, by omega, by go_num, by rw [HK2.out], by rw [HE2.out], HR6, HB6⟩
    ·
     have d1 : decide (dy ≤ day) = false := decide_eq_false hdy
     have HK2 : Hid (knownQ l code (k + 1) = true) := HKN.out.trans (by simp)
     have HE2 : Hid (bst l code day (k + 1) = be) := HSK.out (fun h => hdy h.2.1)
     go_wp2_with fail
     obtain ⟨g, hg⟩ : ∃ g, g = wo.heap.size := ⟨_, rfl⟩
     obtain ⟨w5, hw5⟩ : ∃ W, W = wo.alloc (.cells #[.string code, .int .i64 dy, .bool sr, .string nr, .string dr] 243) := ⟨_, rfl⟩
     have HQ5 : Hid (QBox g code dy sr nr dr w5) := by rw [hw5, hg]; exact blk_new _ _
     have HR5 : Hid (RBox w.heap.size w5) := by rw [hw5]; exact HR.out.next (bel_alloc _ _)
     have HB5 := bea HB hw5
     (try rw [← hw5])
     (try rw [← hg])
     clear hw5 hg HR HB p0 p1 p2 p3 p4
     clear HKN HSK HTK HBD HCS
     obtain ⟨w6, hw6⟩ : ∃ W, W = w5.drew := ⟨_, rfl⟩
     have hS : QtS g code dy sr nr dr ⟨0, 0, none⟩ 0 false w6 := by rw [hw6]; exact ⟨HQ5.out, fun h => by cases h⟩
     have HR6 : Hid (RBox w.heap.size w6) := by rw [hw6]; exact HR5.out
     have HB6 := bed HB5 hw6
     refine wp_region_held_drew (S := QtS g code dy sr nr dr ⟨0, 0, none⟩ 0 false) (by kernel_rfl) (by rw [← hw6]; exact hS) ?_
     rw [← hw6]
     intro _
     clear hw6 HQ5 HR5 HB5
     refine tk 0 hS ?_
     go_simp
     refine tv 1 (.int .i64 dy) rfl (by intro w' hw'; obtain ⟨k0, k1, k2, k3, k4⟩ := hw'.1.cells; go_simp) hS ?_
     go_simp
     refine tk 2 hS ?_
     go_simp
     refine tk 3 hS ?_
     go_simp
     refine tk 4 hS ?_
     go_simp
     refine tu 5 hS ?_
     go_simp
     refine tu 6 hS ?_
     go_simp
     refine tu 7 hS ?_
     go_simp
     refine tu 8 hS ?_
     go_simp
     refine tu 9 hS ?_
     go_simp
     refine tu 10 hS ?_
     go_simp
     refine tu 11 hS ?_
     go_simp
     refine tu 12 hS ?_
     go_simp
     refine tu 13 hS ?_
     go_simp
     refine tu 14 hS ?_
     go_simp
     refine tu 15 hS ?_
     go_simp
     refine tu 16 hS ?_
     go_simp
     refine tk 17 hS ?_
     go_simp
     refine wpAnyH_done (by kernel_rfl) ?_ _
     clear hS
     go_wp2_with fail
     go_roundw
     case measure => simp [intOf] <;> omega
     case rel => exact ⟨k + 1, by omega, by go_num, by rw [HK2.out], by rw [HE2.out], HR6, HB6⟩
   ·
    have hco : ¬ co = code := fun e => hco2 e.symm
    clear hco2
    have t2 : (co.toList == code.toList) = false := bytes_ne hco
    have HK2 : Hid (knownQ l code (k + 1) = kn) := HKN.out.trans (by rw [decide_eq_false hco, Bool.or_false])
    have HE2 : Hid (bst l code day (k + 1) = be) := HSK.out (fun h => hco h.1)
    have HR5 : Hid (RBox w.heap.size (wo.alloc (.cells #[.string co, .int .i64 dy, .bool sr, .string nr, .string dr] 243))) := HR.out.next (bel_alloc _ _)
    have HB5 : Hid (Below w.heap.size w (wo.alloc (.cells #[.string co, .int .i64 dy, .bool sr, .string nr, .string dr] 243))) := HB.out.alloc HB.out.size _
    clear hco HKN HSK HTK HBD HCS HR HB
    go_wp2_with fail
    go_roundw
    case measure => simp [intOf] <;> omega
    case rel => exact ⟨k + 1, by omega, by go_num, by rw [HK2.out], by rw [HE2.out], HR5, HB5⟩
  ·
   obtain rfl : k = n := by omega
   have hlt2 : ¬ (k : Int) < (k : Int) := by omega
   have hbd := bst_bd l code day k
   have hq0 : rateQ l code day = if knownQ l code k = false then (0, 8) else if bst l code day k < 0 then (0, 9) else (rateAt l (bst l code day k), 0) := by unfold rateQ; rw [if_neg HNE.out, HL.out.1]
   have hcs := fun j p (hj : l[j]? = some p) => Rd.at_ (enc := Qt.cells) (fun _ => rfl) (HL.out.2.next HB.out) hj
   obtain ⟨kn, hkn⟩ : ∃ x, x = knownQ l code k := ⟨_, rfl⟩
   obtain ⟨be, hbe⟩ : ∃ x, x = bst l code day k := ⟨_, rfl⟩
   rw [← hkn] at hq0 ⊢
   rw [← hbe] at hbd hq0 ⊢
   clear hkn hbe
   obtain ⟨c0, c1, c2, f0, f1, f2, hz⟩ := three_of HR.out
   cases kn
   ·
    have HQ : Hid (ratV (rateQ l code day).1 = .agg #[.bool false, .string ⟨#[]⟩, .string ⟨#[]⟩] ∧ (rateQ l code day).2 = 8) := by show _ ∧ _; rw [hq0]; exact ⟨ratV_zero, rfl⟩
    clear hq0 hcs hbd
    go_wp2_with fail
    exact bodyPost_ret (v := .tuple #[.agg #[.bool false, .string ⟨#[]⟩, .string ⟨#[]⟩], .int .i64 8]) (by simp [results, Tryz.results132, go_sem, c0, c1, c2]) rfl ⟨by rw [HQ.out.1, HQ.out.2], ((HB.out.setCell (by simp <;> omega) _).setCell (by simp <;> omega) _).setCell (by simp <;> omega) _⟩
   ·
    by_cases hb0 : be < 0
    ·
     have HQ : Hid (ratV (rateQ l code day).1 = .agg #[.bool false, .string ⟨#[]⟩, .string ⟨#[]⟩] ∧ (rateQ l code day).2 = 9) := by show _ ∧ _; rw [hq0, if_neg (by decide), if_pos hb0]; exact ⟨ratV_zero, rfl⟩
     have d2 : decide (be < 0) = true := decide_eq_true hb0
     clear hq0 hcs hbd
     go_wp2_with fail
     exact bodyPost_ret (v := .tuple #[.agg #[.bool false, .string ⟨#[]⟩, .string ⟨#[]⟩], .int .i64 9]) (by simp [results, Tryz.results132, go_sem, c0, c1, c2]) rfl ⟨by rw [HQ.out.1, HQ.out.2], ((HB.out.setCell (by simp <;> omega) _).setCell (by simp <;> omega) _).setCell (by simp <;> omega) _⟩
    ·
     obtain ⟨bi, rfl⟩ : ∃ m : Nat, be = (m : Int) := ⟨be.toNat, by omega⟩
     have hbn : bi < k := by omega
     have hbn2 : (bi : Int) < (k : Int) := by omega
     have d2 : decide ((bi : Int) < 0) = false := decide_eq_false hb0
     obtain ⟨p, hp⟩ := getElem?_of_lt (l := l) (k := bi) (by rw [← HL.out.1]; exact hbn)
     obtain ⟨b, off, hA, _, hc⟩ := hcs bi p hp
     subst hA
     have p2 := hc 2 _ rfl
     have p3 := hc 3 _ rfl
     have p4 := hc 4 _ rfl
     rw [← Nat.add_assoc] at p2 p3 p4
     have hra : rateAt l (bi : Int) = p.rate := by unfold rateAt; rw [Int.toNat_natCast, hp]
     obtain ⟨sr, hsr⟩ : ∃ x, x = rneg p.rate := ⟨_, rfl⟩
     obtain ⟨nr, hnr⟩ : ∃ x, x = rnum p.rate := ⟨_, rfl⟩
     obtain ⟨dr, hdr⟩ : ∃ x, x = rden p.rate := ⟨_, rfl⟩
     have HQ : Hid (ratV (rateQ l code day).1 = .agg #[.bool sr, .string nr, .string dr] ∧ (rateQ l code day).2 = 0) := by show _ ∧ _; rw [hq0, if_neg (by decide), if_neg hb0]; exact ⟨by rw [hra, ratV, hsr, hnr, hdr], rfl⟩
     rw [← hsr] at p2
     rw [← hnr] at p3
     rw [← hdr] at p4
     clear hq0 hcs hbd hc hp hra hsr hnr hdr
     go_wp2_with fail
     exact bodyPost_ret (v := .tuple #[.agg #[.bool sr, .string nr, .string dr], .int .i64 0]) (by simp [results, Tryz.results132, go_sem, c0, c1, c2]) rfl ⟨by rw [HQ.out.1, HQ.out.2], ((HB.out.setCell (by simp <;> omega) _).setCell (by simp <;> omega) _).setCell (by simp <;> omega) _⟩
theorem rate_calls (A : Option Addr) (n c : Nat) (l : List Qt) (code : ByteArray) (day : Int) (w : World) (hn : n = l.length) (hr : Rd w w.heap.size 5 A l.length (l.flatMap Qt.cells)) (hl : QtsOk l) (hd : 0 ≤ day ∧ day ≤ 1048576) :
 Calls Tryz.prog 132 #[.slice A n c, .string code, .int .i64 day] w fun e w' => e = .returned (.tuple #[ratV (rateQ l code day).1, .int .i64 (rateQ l code day).2]) ∧ Below w.heap.size w w' := by
 by_cases hc : code = eurB
 ·
  exact rate_eur A n c l code day w hn hr hl hd hc
 ·
  exact rate_other A n c l code day w hn hr hl hd hc

end Go.Proofs.YtjlicnhkemfmiaaGreatDoor

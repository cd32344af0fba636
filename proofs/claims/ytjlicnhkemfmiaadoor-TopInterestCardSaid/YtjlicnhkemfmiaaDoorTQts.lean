/- insolvencylaw0.Quotes. -/
import Derived.Test.YtjlicnhkemfmiaaDoorTBld
import Derived.Test.YtjlicnhkemfmiaaDoorDecPty
import Derived.OwnWalk
import Derived.Laws.AppendOwn
set_option linter.unusedVariables false
set_option linter.unusedSimpArgs false
namespace Go.Proofs.YtjlicnhkemfmiaaDoor
open Go.RowKit

theorem Tryd.info_quote : (Tryd.prog.info? 50).map (fun i => (i.zero, i.size, i.bytes)) = some (some (.agg #[.string ⟨#[]⟩, .int .i64 0, .bool false, .string ⟨#[]⟩, .string ⟨#[]⟩]), 5, 64) := by kernel_rfl
theorem own_belowQ {w w' : World} {base e size n : Nat} {v : Value} {xs : List Value} (h : w.ownsRow base e size v n xs) (hb : Below w.heap.size w w') : w'.ownsRow base e size v n xs := by
  refine ⟨h.1, ?_⟩
  rcases h.2 with hn | ⟨g, cap, cur, rfl, hb2, hgg, rest⟩
  · exact .inl hn
  · refine .inr ⟨g, cap, cur, rfl, hb2, ?_, rest⟩
    rw [hb.block g (Array.getElem?_eq_some_iff.1 hgg).1]; exact hgg
theorem codes3 (m : Nat) (hm : m < 3) : ∃ cs : ByteArray, codeOk cs ∧ cs ≠ eurB ∧ ∀ W : World, (W.alloc (.cells #[.string ⟨#[85, 83, 68]⟩, .string ⟨#[71, 66, 80]⟩, .string ⟨#[74, 80, 89]⟩] 9)).cell? ⟨W.heap.size, m, none⟩ = some (.string cs) := by
  rcases (by omega : m = 0 ∨ m = 1 ∨ m = 2) with rfl | rfl | rfl
  · exact ⟨⟨#[85, 83, 68]⟩, code_ok 85 83 68 (by decide), by decide, fun W => by rw [cell_of_row _ W.heap.size 0 _ _ (0, 0) (blk_new _ _)]; rfl⟩
  · exact ⟨⟨#[71, 66, 80]⟩, code_ok 71 66 80 (by decide), by decide, fun W => by rw [cell_of_row _ W.heap.size 1 _ _ (0, 0) (blk_new _ _)]; rfl⟩
  · exact ⟨⟨#[74, 80, 89]⟩, code_ok 74 80 89 (by decide), by decide, fun W => by rw [cell_of_row _ W.heap.size 2 _ _ (0, 0) (blk_new _ _)]; rfl⟩
structure QtsK (k : Nat) (l : List Qt) : Prop where
  len : l.length ≤ k
  each : ∀ q ∈ l, q.Ok
  apart : l.Pairwise (fun a b => ¬ (a.code = b.code ∧ a.day = b.day))
def sameQ (q p : Qt) : Bool := decide (p.code = q.code) && decide (p.day = q.day)
theorem QtsK.snoc {k : Nat} {l : List Qt} {q : Qt} (h : QtsK k l) (hq : q.Ok) (ha : l.any (sameQ q) = false) : QtsK (k + 1) (l ++ [q]) := by
  refine ⟨by rw [List.length_append]; have := h.len; simp; omega, ?_, ?_⟩
  · intro p hp
    rcases List.mem_append.1 hp with hp | hp
    · exact h.each p hp
    · rw [List.mem_singleton.1 hp]; exact hq
  · refine List.pairwise_append.2 ⟨h.apart, List.pairwise_singleton _ _, fun a ha2 b hb => ?_⟩
    rw [List.mem_singleton.1 hb]
    intro e
    have := List.any_eq_false.1 ha a ha2
    refine this ?_
    unfold sameQ
    rw [decide_eq_true e.1, decide_eq_true e.2]; rfl
theorem QtsK.mono {k k' : Nat} {l : List Qt} (h : QtsK k l) (hk : k ≤ k') : QtsK k' l := ⟨Nat.le_trans h.len hk, h.each, h.apart⟩
theorem any_next {l : List Qt} {f : Qt → Bool} {k : Nat} {q : Qt} (h : l[k]? = some q) : (l.take (k + 1)).any f = ((l.take k).any f || f q) := by
  rw [List.take_add_one, h, List.any_append]; simp
def QBD (g : Nat) (q : Qt) (W : World) : Prop := QBox g q.code q.day (rneg q.rate) (rnum q.rate) (rden q.rate) W
/-- three numbers of the argument -/
def PS (b o : Nat) (x0 x1 x2 : Int) (W : World) : Prop := W.cell? ⟨b, o, none⟩ = some (.int .u16 x0) ∧ W.cell? ⟨b, o + 1, none⟩ = some (.int .u16 x1) ∧ W.cell? ⟨b, o + 2, none⟩ = some (.int .u16 x2) ∧ b < W.heap.size
theorem PS.next {b o : Nat} {x0 x1 x2 : Int} {W W' : World} (h : PS b o x0 x1 x2 W) (hb : Below W.heap.size W W') : PS b o x0 x1 x2 W' := ⟨(hb.cell h.2.2.2).trans h.1, (hb.cell h.2.2.2).trans h.2.1, (hb.cell h.2.2.2).trans h.2.2.1, Nat.lt_of_lt_of_le h.2.2.2 hb.size⟩
theorem PS.set {b o r j : Nat} {x0 x1 x2 : Int} {W : World} {v : Value} (h : PS b o x0 x1 x2 W) (hne : r ≠ b) : PS b o x0 x1 x2 (W.setCell ⟨r, j, none⟩ v) :=
  ⟨(World.cell?_setCell_far W ⟨r, j, none⟩ ⟨b, o, none⟩ v hne).trans h.1, (World.cell?_setCell_far W ⟨r, j, none⟩ ⟨b, o + 1, none⟩ v hne).trans h.2.1, (World.cell?_setCell_far W ⟨r, j, none⟩ ⟨b, o + 2, none⟩ v hne).trans h.2.2.1, by rw [World.size_setCell]; exact h.2.2.2⟩
structure PX (b o : Nat) (x0 x1 x2 : Int) (l m : Nat) (s : ByteArray) (W : World) : Prop where
  x : PS b o x0 x1 x2 W
  l : LS l m s W
theorem PX.next {b o l m : Nat} {x0 x1 x2 : Int} {s : ByteArray} {W W' : World} (h : PX b o x0 x1 x2 l m s W) (hb : Below W.heap.size W W') : PX b o x0 x1 x2 l m s W' := ⟨h.x.next hb, h.l.next hb⟩
theorem PX.set {b o l m r j : Nat} {x0 x1 x2 : Int} {s : ByteArray} {W : World} {v : Value} (h : PX b o x0 x1 x2 l m s W) (h1 : r ≠ b) (h2 : r ≠ l) : PX b o x0 x1 x2 l m s (W.setCell ⟨r, j, none⟩ v) := ⟨h.x.set h1, h.l.set h2⟩
theorem QBox.set {g : Nat} {co : ByteArray} {dy : Int} {sr : Bool} {nr dr : ByteArray} {W : World} (h : QBox g co dy sr nr dr W) (co' : ByteArray) (dy' : Int) (sr' : Bool) (nr' dr' : ByteArray) : QBox g co' dy' sr' nr' dr' (((((W.setCell ⟨g, 0, none⟩ (.string co')).setCell ⟨g, 1, none⟩ (.int .i64 dy')).setCell ⟨g, 2, none⟩ (.bool sr')).setCell ⟨g, 3, none⟩ (.string nr')).setCell ⟨g, 4, none⟩ (.string dr')) := by
  have e0 : QBox g co' dy sr nr dr (W.setCell ⟨g, 0, none⟩ (.string co')) := heap_setCell_same _ g 0 _ _ (.string co') h
  have e1 : QBox g co' dy' sr nr dr _ := heap_setCell_same _ g 1 _ _ (.int .i64 dy') e0
  have e2 : QBox g co' dy' sr' nr dr _ := heap_setCell_same _ g 2 _ _ (.bool sr') e1
  have e3 : QBox g co' dy' sr' nr' dr _ := heap_setCell_same _ g 3 _ _ (.string nr') e2
  exact heap_setCell_same _ g 4 _ _ (.string dr') e3
theorem QBox.free {g : Nat} {co : ByteArray} {dy : Int} {sr : Bool} {nr dr : ByteArray} {W : World} (h : QBox g co dy sr nr dr W) : W.frozen? ⟨g, 0, none⟩ = false ∧ W.frozen? ⟨g, 1, none⟩ = false ∧ W.frozen? ⟨g, 2, none⟩ = false ∧ W.frozen? ⟨g, 3, none⟩ = false ∧ W.frozen? ⟨g, 4, none⟩ = false ∧ g < W.heap.size :=
  ⟨frozen_of_row W _ 0 _ _ h, frozen_of_row W _ 1 _ _ h, frozen_of_row W _ 2 _ _ h, frozen_of_row W _ 3 _ _ h, frozen_of_row W _ 4 _ _ h, (Array.getElem?_eq_some_iff.1 h).1⟩
def QtR (wo : World) (s5 : Value) (wx : World) : Prop := ∃ (gq : Nat) (q : Qt), s5 = .pointer (some ⟨gq, 0, none⟩) ∧ q.Ok ∧ QBD gq q wx ∧ Below wo.heap.size wo wx ∧ wo.heap.size ≤ gq
def QtsPost (w : World) (e : Ending) (w' : World) : Prop := ∃ (A' : Option Addr) (c' : Nat) (qs : List Qt), e = .returned (.slice A' qs.length c') ∧ QtsOk qs ∧ Rd w' w'.heap.size 5 A' qs.length (qs.flatMap Qt.cells) ∧ Below w.heap.size w w'
set_option maxHeartbeats 8000000 in
set_option maxRecDepth 100000 in
theorem quotes_calls (A : Option Addr) (n c : Nat) (l : List W3) (w : World) (hn : n = l.length) (hr : Rd w w.heap.size 3 A l.length (l.flatMap u16V3)) (ho : ∀ a ∈ l, u16ok3 a) (hg : n ≤ maxLen) :
    Calls Tryd.prog 8 #[.slice A n c] w (QtsPost w) := by
  have HL := Lib.hid (And.intro hn (And.intro hr ho))
  unfold maxLen at hg
  clear hn hr ho
  obtain ⟨iq, hi, hz0, hz1, hz2⟩ := info_parts Tryd.info_quote
  have HIQ := Lib.hid (And.intro hi (And.intro hz0 (And.intro hz1 hz2)))
  clear hi hz0 hz1 hz2
  go_enter Tryd.func8, Tryd.ntmps8
  go_wp2_with fail
  go_loopw [3, 4] (fun o i wr => ∃ (k : Nat) (A' : Option Addr) (c' : Nat) (qs : List Qt), k ≤ n ∧ k ≤ 8 ∧ i = .int .i64 (k : Int) ∧ o = .slice A' qs.length c' ∧ Hid (QtsK k qs) ∧ Hid (wr.ownsRow w.heap.size 50 5 (.slice A' qs.length c') qs.length (qs.flatMap Qt.cells)) ∧ Hid (Below w.heap.size w wr)) (fun _ i _ => n - (intOf i).toNat)
  case atStart => exact ⟨0, none, 0, [], Nat.zero_le _, by omega, rfl, rfl, ⟨by simp, (fun q h => by cases h), List.Pairwise.nil⟩, World.ownsRow_nil _ _ _ _, Below.refl _ _⟩
  case round =>
    obtain ⟨k, A', c', qs, hk, hk8, rfl, rfl, HK, HO, HB⟩ := hrel
    rename World => wo
    by_cases hlt : k < n ∧ k < 8
    · have hlt2 : (k : Int) < (n : Int) := by omega
      have hlt3 : (k : Int) < 8 := by omega
      obtain ⟨x, hx⟩ := getElem?_of_lt (l := l) (k := k) (by rw [← HL.out.1]; exact hlt.1)
      have hok := HL.out.2.2 x (List.mem_of_getElem? hx)
      obtain ⟨b, off, hA, _, hc⟩ := Rd.at_ (enc := u16V3) (fun _ => rfl) (HL.out.2.1.next HB.out) hx
      subst hA
      have p0 := hc 0 _ rfl
      have p1 := hc 1 _ rfl
      have p2 := hc 2 _ rfl
      rw [Nat.add_zero] at p0
      rw [← Nat.add_assoc] at p1 p2
      obtain ⟨x0, x1, x2⟩ := x
      unfold u16ok3 at hok
      dsimp only at p0 p1 p2 hok
      obtain ⟨⟨oa1, oa2⟩, ⟨ob1, ob2⟩, oc1, oc2⟩ := hok
      have hS00 : PS b (off + k * 3) x0 x1 x2 wo := ⟨p0, p1, p2, by assumption⟩
      clear hc hx p0 p1 p2
      obtain ⟨x0, rfl⟩ : ∃ a : Nat, x0 = (a : Int) := ⟨x0.toNat, by omega⟩
      obtain ⟨x1, rfl⟩ : ∃ a : Nat, x1 = (a : Int) := ⟨x1.toNat, by omega⟩
      obtain ⟨x2, rfl⟩ : ∃ a : Nat, x2 = (a : Int) := ⟨x2.toNat, by omega⟩
      obtain ⟨m, e0, b0⟩ : ∃ a : Nat, (x0 : Int).tmod 3 = (a : Int) ∧ a < 3 := ⟨x0 % 3, by rw [Int.tmod_eq_emod_of_nonneg (by omega)]; omega, by omega⟩
      obtain ⟨dd, e1, b1⟩ : ∃ a : Nat, (x1 : Int).tmod 40 = (a : Int) ∧ a < 40 := ⟨x1 % 40, by rw [Int.tmod_eq_emod_of_nonneg (by omega)]; omega, by omega⟩
      obtain ⟨r1, e2, b2⟩ : ∃ a : Nat, (x2 : Int).tmod 30 = (a : Int) ∧ a < 30 := ⟨x2 % 30, by rw [Int.tmod_eq_emod_of_nonneg (by omega)]; omega, by omega⟩
      obtain ⟨y2, q2, hy2⟩ : ∃ a : Nat, IntKind.u16.wrap ((x2 : Int) / 30) = (a : Int) ∧ a = x2 / 30 := ⟨x2 / 30, by rw [IntWalk.u16_in _ (by omega)]; omega, rfl⟩
      obtain ⟨r2, e3, b3⟩ : ∃ a : Nat, (y2 : Int).tmod 9 = (a : Int) ∧ a < 9 := ⟨y2 % 9, by rw [Int.tmod_eq_emod_of_nonneg (by omega)]; omega, by omega⟩
      have v1 : IntKind.i64.wrap (dd : Int) = (dd : Int) := IntWalk.i64_in _ (by omega)
      have v2 : IntKind.i64.wrap (r1 : Int) = (r1 : Int) := IntWalk.i64_in _ (by omega)
      have v3 : IntKind.i64.wrap (r2 : Int) = (r2 : Int) := IntWalk.i64_in _ (by omega)
      have v4 : IntKind.i64.wrap (1 + (r1 : Int)) = 1 + (r1 : Int) := IntWalk.i64_in _ (by omega)
      have v5 : IntKind.i64.wrap (1 + (r2 : Int)) = 1 + (r2 : Int) := IntWalk.i64_in _ (by omega)
      clear hy2
      have b0i : (m : Int) < 3 := by omega
      obtain ⟨cs, hco, hne, hcs⟩ := codes3 m b0
      have HCO := Lib.hid (And.intro hco hne)
      have HCS := Lib.hid hcs
      obtain ⟨qq, hqq⟩ : ∃ q, quoQ (1 + (r1 : Int)) (1 + (r2 : Int)) = q := ⟨_, rfl⟩
      have hqs : SzN qq := by rw [← hqq]; exact szn_quo (by omega) (by omega) (by omega) (by omega)
      have hqp : 0 < qq := by rw [← hqq]; exact quo_pos (by omega) (by omega)
      have HRT' := fun W => ratio_calls (1 + (r1 : Int)) (1 + (r2 : Int)) W (by omega) (by omega) (by omega) (by omega) (by omega) qq hqq
      obtain ⟨sr, nr, dr, hqv⟩ : ∃ a b c, ratV qq = .agg #[.bool a, .string b, .string c] := ⟨_, _, _, rfl⟩
      rw [hqv] at HRT'
      have HRT := Lib.hid HRT'
      have HQV := Lib.hid hqv
      have HQS := Lib.hid (And.intro hqs hqp)
      clear HRT' hqv hqs hqp hqq hco hne hcs
      go_upto_region 5 with fail
      go_cut [5] from 19 to 53 (fun s5 wx => QtR wo s5 wx)
      case first =>
        obtain ⟨W1, hW1⟩ : ∃ W, W = wo.drew := ⟨_, rfl⟩
        have hS1 : PS b (off + k * 3) x0 x1 x2 W1 := by rw [hW1]; exact hS00
        have HB1 : Hid (Below wo.heap.size wo W1) := by rw [hW1]; exact (Below.refl _ _).drew
        refine wp_region_held_drew (S := PS b (off + k * 3) x0 x1 x2) (by kernel_rfl) (by rw [← hW1]; exact hS1) ?_
        rw [← hW1]
        intro _
        clear hW1 hS00
        refine wpAnyH_take (i := 1) rfl (by kernel_rfl) (by kernel_rfl) (by kernel_rfl) (fun _ _ _ h => h) (Or.inl ⟨by kernel_rfl, (by intro w' _; go_simp; with_reducible rfl)⟩) hS1 ?_
        go_simp
        refine wpAnyH_take (i := 2) rfl (by kernel_rfl) (by kernel_rfl) (by kernel_rfl) (fun _ _ _ h => h) (Or.inl ⟨by kernel_rfl, (by intro w' _; go_simp; with_reducible rfl)⟩) hS1 ?_
        go_simp
        refine wpAnyH_take (i := 3) rfl (by kernel_rfl) (by kernel_rfl) (by kernel_rfl) (fun _ _ _ h => h) (Or.inl ⟨by kernel_rfl, (by intro w' _; go_simp; with_reducible rfl)⟩) hS1 ?_
        go_simp
        refine wpAnyH_take (i := 4) rfl (by kernel_rfl) (by kernel_rfl) (by kernel_rfl) (fun _ _ _ h => h) (Or.inl ⟨by kernel_rfl, (by intro w' _; go_simp; with_reducible rfl)⟩) hS1 ?_
        go_simp
        refine wpAnyH_take (i := 5) (v := .int .u16 x0) rfl (by kernel_rfl) (by kernel_rfl) (by kernel_rfl) (fun _ _ _ h => h) (Or.inl ⟨by kernel_rfl, (by intro w' hw'; obtain ⟨k0, k1, k2, k3⟩ := hw'; go_simp)⟩) hS1 ?_
        go_simp
        refine wpAnyH_take (i := 6) rfl (by kernel_rfl) (by kernel_rfl) (by kernel_rfl) (fun _ _ _ h => h) (Or.inl ⟨by kernel_rfl, (by intro w' _; go_simp; with_reducible rfl)⟩) hS1 ?_
        go_simp
        refine wpAnyH_take (i := 9) rfl (by kernel_rfl) (by kernel_rfl) (by kernel_rfl) (fun _ _ _ h => h) (Or.inl ⟨by kernel_rfl, (by intro w' _; go_simp; with_reducible rfl)⟩) hS1 ?_
        go_simp
        refine wpAnyH_take (i := 10) rfl (by kernel_rfl) (by kernel_rfl) (by kernel_rfl) (fun _ _ _ h => h) (Or.inl ⟨by kernel_rfl, (by intro w' _; go_simp; with_reducible rfl)⟩) hS1 ?_
        go_simp
        refine wpAnyH_take (i := 11) rfl (by kernel_rfl) (by kernel_rfl) (by kernel_rfl) (fun _ _ _ h => h) (Or.inl ⟨by kernel_rfl, (by intro w' _; go_simp; with_reducible rfl)⟩) hS1 ?_
        go_simp
        refine wpAnyH_take (i := 12) rfl (by kernel_rfl) (by kernel_rfl) (by kernel_rfl) (fun _ _ _ h => h) (Or.inl ⟨by kernel_rfl, (by intro w' _; go_simp; with_reducible rfl)⟩) hS1 ?_
        go_simp
        refine wpAnyH_take (i := 13) (v := .int .u16 x1) rfl (by kernel_rfl) (by kernel_rfl) (by kernel_rfl) (fun _ _ _ h => h) (Or.inl ⟨by kernel_rfl, (by intro w' hw'; obtain ⟨k0, k1, k2, k3⟩ := hw'; go_simp)⟩) hS1 ?_
        go_simp
        refine wpAnyH_take (i := 14) rfl (by kernel_rfl) (by kernel_rfl) (by kernel_rfl) (fun _ _ _ h => h) (Or.inl ⟨by kernel_rfl, (by intro w' _; go_simp; with_reducible rfl)⟩) hS1 ?_
        go_simp
        refine wpAnyH_take (i := 15) rfl (by kernel_rfl) (by kernel_rfl) (by kernel_rfl) (fun _ _ _ h => h) (Or.inl ⟨by kernel_rfl, (by intro w' _; go_simp; with_reducible rfl)⟩) hS1 ?_
        go_simp
        refine wpAnyH_take (i := 16) rfl (by kernel_rfl) (by kernel_rfl) (by kernel_rfl) (fun _ _ _ h => h) (Or.inl ⟨by kernel_rfl, (by intro w' _; go_simp; with_reducible rfl)⟩) hS1 ?_
        go_simp
        refine wpAnyH_take (i := 17) rfl (by kernel_rfl) (by kernel_rfl) (by kernel_rfl) (fun _ _ _ h => h) (Or.inl ⟨by kernel_rfl, (by intro w' _; go_simp; with_reducible rfl)⟩) hS1 ?_
        go_simp
        refine wpAnyH_take (i := 18) rfl (by kernel_rfl) (by kernel_rfl) (by kernel_rfl) (fun _ _ _ h => h) (Or.inl ⟨by kernel_rfl, (by intro w' _; go_simp; with_reducible rfl)⟩) hS1 ?_
        go_simp
        refine wpAnyH_take (i := 19) rfl (by kernel_rfl) (by kernel_rfl) (by kernel_rfl) (fun _ _ _ h => h) (Or.inl ⟨by kernel_rfl, (by intro w' _; go_simp; with_reducible rfl)⟩) hS1 ?_
        go_simp
        refine wpAnyH_take (i := 20) (v := .int .u16 x2) rfl (by kernel_rfl) (by kernel_rfl) (by kernel_rfl) (fun _ _ _ h => h) (Or.inl ⟨by kernel_rfl, (by intro w' hw'; obtain ⟨k0, k1, k2, k3⟩ := hw'; go_simp)⟩) hS1 ?_
        go_simp
        refine wpAnyH_take (i := 21) rfl (by kernel_rfl) (by kernel_rfl) (by kernel_rfl) (fun _ _ _ h => h) (Or.inl ⟨by kernel_rfl, (by intro w' _; go_simp; with_reducible rfl)⟩) hS1 ?_
        go_simp
        refine wpAnyH_take (i := 22) rfl (by kernel_rfl) (by kernel_rfl) (by kernel_rfl) (fun _ _ _ h => h) (Or.inl ⟨by kernel_rfl, (by intro w' _; go_simp; with_reducible rfl)⟩) hS1 ?_
        go_simp
        refine wpAnyH_take (i := 23) rfl (by kernel_rfl) (by kernel_rfl) (by kernel_rfl) (fun _ _ _ h => h) (Or.inl ⟨by kernel_rfl, (by intro w' _; go_simp; with_reducible rfl)⟩) hS1 ?_
        go_simp
        refine wpAnyH_take (i := 24) rfl (by kernel_rfl) (by kernel_rfl) (by kernel_rfl) (fun _ _ _ h => h) (Or.inl ⟨by kernel_rfl, (by intro w' _; go_simp; with_reducible rfl)⟩) hS1 ?_
        go_simp
        refine wpAnyH_take (i := 25) rfl (by kernel_rfl) (by kernel_rfl) (by kernel_rfl) (fun _ _ _ h => h) (Or.inl ⟨by kernel_rfl, (by intro w' _; go_simp; with_reducible rfl)⟩) hS1 ?_
        go_simp
        refine wpAnyH_take (i := 26) rfl (by kernel_rfl) (by kernel_rfl) (by kernel_rfl) (fun _ _ _ h => h) (Or.inl ⟨by kernel_rfl, (by intro w' _; go_simp; with_reducible rfl)⟩) hS1 ?_
        go_simp
        refine wpAnyH_take (i := 27) rfl (by kernel_rfl) (by kernel_rfl) (by kernel_rfl) (fun _ _ _ h => h) (Or.inl ⟨by kernel_rfl, (by intro w' _; go_simp; with_reducible rfl)⟩) hS1 ?_
        go_simp
        refine wpAnyH_take (i := 28) (v := .int .u16 x2) rfl (by kernel_rfl) (by kernel_rfl) (by kernel_rfl) (fun _ _ _ h => h) (Or.inl ⟨by kernel_rfl, (by intro w' hw'; obtain ⟨k0, k1, k2, k3⟩ := hw'; go_simp)⟩) hS1 ?_
        go_simp
        refine wpAnyH_take (i := 29) rfl (by kernel_rfl) (by kernel_rfl) (by kernel_rfl) (fun _ _ _ h => h) (Or.inl ⟨by kernel_rfl, (by intro w' _; go_simp; with_reducible rfl)⟩) hS1 ?_
        go_simp
        refine wpAnyH_take (i := 30) rfl (by kernel_rfl) (by kernel_rfl) (by kernel_rfl) (fun _ _ _ h => h) (Or.inl ⟨by kernel_rfl, (by intro w' _; go_simp; with_reducible rfl)⟩) hS1 ?_
        go_simp
        refine wpAnyH_take (i := 31) rfl (by kernel_rfl) (by kernel_rfl) (by kernel_rfl) (fun _ _ _ h => h) (Or.inl ⟨by kernel_rfl, (by intro w' _; go_simp; with_reducible rfl)⟩) hS1 ?_
        go_simp
        refine wpAnyH_take (i := 32) rfl (by kernel_rfl) (by kernel_rfl) (by kernel_rfl) (fun _ _ _ h => h) (Or.inl ⟨by kernel_rfl, (by intro w' _; go_simp; with_reducible rfl)⟩) hS1 ?_
        go_simp
        refine wpAnyH_ready (rs := [0, 33, 35]) (by kernel_rfl) (by simp) ?_
        refine AllReadyH.cons rfl (fun K hK => ?_) (AllReadyH.cons rfl (fun K hK => ?_) (AllReadyH.cons rfl (fun K hK => ?_) AllReadyH.nil))
        · obtain ⟨gl, hgl⟩ : ∃ g, g = W1.heap.size := ⟨_, rfl⟩
          go_simp
          obtain ⟨W2, hW2⟩ : ∃ W, W = W1.alloc (.cells #[.string ⟨#[85, 83, 68]⟩, .string ⟨#[71, 66, 80]⟩, .string ⟨#[74, 80, 89]⟩] 9) := ⟨_, rfl⟩
          have hb : Below W1.heap.size W1 W2 := by rw [hW2]; exact bel_alloc _ _
          have HLS : Hid (LS gl m cs W2) := by rw [hW2, hgl]; exact ⟨HCS.out _, by simp⟩
          have hS2 := hS1.next hb
          have HB2 : Hid (Below wo.heap.size wo W2) := HB1.out.trans (hb.mono HB1.out.size)
          clear hb hS1 HB1
          rw [← hW2]
          (try rw [← hgl])
          clear hW2 hgl
          refine hK.out _ _ hS2 (fun _ => ?_)
          clear hK K
          have hS2 : PX b (off + k * 3) x0 x1 x2 gl m cs W2 := ⟨hS2, HLS.out⟩
          clear HLS
          refine wpAnyH_more (S' := PX b (off + k * 3) x0 x1 x2 gl m cs) (fun _ h => h.x) _ _ _ _ ?_
          refine wpAnyH_take (i := 7) rfl (by kernel_rfl) (by kernel_rfl) (by kernel_rfl) (fun _ _ _ h => h) (Or.inl ⟨by kernel_rfl, (by intro w' _; go_simp; with_reducible rfl)⟩) hS2 ?_
          go_simp
          refine wpAnyH_take (i := 8) (v := .string cs) rfl (by kernel_rfl) (by kernel_rfl) (by kernel_rfl) (fun _ _ _ h => h) (Or.inl ⟨by kernel_rfl, (by intro w' hw'; have k0 := hw'.l.1; go_simp)⟩) hS2 ?_
          go_simp
          refine wpAnyH_ready (rs := [33, 35]) (by kernel_rfl) (by simp) ?_
          refine AllReadyH.cons rfl (fun K hK => ?_) (AllReadyH.cons rfl (fun K hK => ?_) AllReadyH.nil)
          · go_simp
            refine (HRT.out _).mono ?_
            rintro e W3 ⟨rfl, hb⟩
            have hS3 := hS2.next hb
            have HB3 : Hid (Below wo.heap.size wo W3) := HB2.out.trans (hb.mono HB2.out.size)
            clear hb hS2 HB2
            refine hK.out _ _ hS3 (fun _ => ?_)
            clear hK K
            refine wpAnyH_take (i := 34) rfl (by kernel_rfl) (by kernel_rfl) (by kernel_rfl) (fun _ _ _ h => h) (Or.inl ⟨by kernel_rfl, (by intro w' _; go_simp; with_reducible rfl)⟩) hS3 ?_
            go_simp
            refine wpAnyH_ready (rs := [35]) (by kernel_rfl) (by simp) ?_
            refine AllReadyH.cons rfl (fun K hK => ?_) AllReadyH.nil
            obtain ⟨gq, hgq⟩ : ∃ g, g = W3.heap.size := ⟨_, rfl⟩
            have hq35 : b < gq ∧ wo.heap.size ≤ gq := by rw [hgq]; exact ⟨hS3.x.2.2.2, HB3.out.size⟩
            have hl35 : gl < gq := by rw [hgq]; exact hS3.l.2
            go_simp
            obtain ⟨W4, hW4⟩ : ∃ W, W = W3.alloc (.cells #[.string ⟨#[]⟩, .int .i64 0, .bool false, .string ⟨#[]⟩, .string ⟨#[]⟩] 50) := ⟨_, rfl⟩
            have hb : Below W3.heap.size W3 W4 := by rw [hW4]; exact bel_alloc _ _
            have HR4 : Hid (QBox gq ⟨#[]⟩ 0 false ⟨#[]⟩ ⟨#[]⟩ W4) := by rw [hW4, hgq]; exact blk_new _ _
            have hS4 := hS3.next hb
            have HB4 : Hid (Below wo.heap.size wo W4) := HB3.out.trans (hb.mono HB3.out.size)
            clear hb hS3 HB3
            rw [← hW4]
            (try rw [← hgq])
            clear hW4 hgq
            refine hK.out _ _ hS4 (fun _ => ?_)
            clear hK K
            refine wpAnyH_ready (rs := [36]) (by kernel_rfl) (by simp) ?_
            refine AllReadyH.cons rfl (fun K hK => ?_) AllReadyH.nil
            obtain ⟨f0, f1, f2, f3, f4, fz⟩ := HR4.out.free
            obtain ⟨c0, c1, c2, c3, c4⟩ := HR4.out.cells
            go_simp
            clear f0 f1 f2 f3 f4 fz c0 c1 c2 c3 c4
            obtain ⟨wz, hwz⟩ : ∃ W, W = (((((W4.setCell ⟨gq, 0, none⟩ (.string cs)).setCell ⟨gq, 1, none⟩ (.int .i64 (dd : Int))).setCell ⟨gq, 2, none⟩ (.bool sr)).setCell ⟨gq, 3, none⟩ (.string nr)).setCell ⟨gq, 4, none⟩ (.string dr)) := ⟨_, rfl⟩
            have hSz : PX b (off + k * 3) x0 x1 x2 gl m cs wz := by rw [hwz]; exact (((((hS4.set (by omega) (by omega)).set (by omega) (by omega)).set (by omega) (by omega)).set (by omega) (by omega)).set (by omega) (by omega))
            have HBz : Hid (Below wo.heap.size wo wz) := by rw [hwz]; exact (((((HB4.out.setCell (by simp <;> omega) _).setCell (by simp <;> omega) _).setCell (by simp <;> omega) _).setCell (by simp <;> omega) _).setCell (by simp <;> omega) _)
            have HRz : Hid (QBox gq cs dd sr nr dr wz) := by rw [hwz]; exact HR4.out.set cs dd sr nr dr
            rw [← hwz]
            clear hwz hS4 HB4 HR4
            refine hK.out _ _ hSz (fun _ => ?_)
            clear hK K
            refine wpAnyH_done (by kernel_rfl) ?_ _
            (try go_wp2_with fail)
            go_meet
            exact ⟨gq, ⟨cs, dd, qq⟩, rfl, ⟨HCO.out.1, HCO.out.2, ⟨by show (0 : Int) ≤ (dd : Int); omega, by show (dd : Int) ≤ 1048576; omega⟩, HQS.out.2, HQS.out.1.1⟩, by unfold QBD; dsimp only; rw [(ratV_eq HQV.out).1, (ratV_eq HQV.out).2.1, (ratV_eq HQV.out).2.2]; exact HRz.out, HBz.out, hq35.2⟩
          · obtain ⟨gq, hgq⟩ : ∃ g, g = W2.heap.size := ⟨_, rfl⟩
            have hq35 : b < gq ∧ wo.heap.size ≤ gq := by rw [hgq]; exact ⟨hS2.x.2.2.2, HB2.out.size⟩
            have hl35 : gl < gq := by rw [hgq]; exact hS2.l.2
            go_simp
            obtain ⟨W3, hW3⟩ : ∃ W, W = W2.alloc (.cells #[.string ⟨#[]⟩, .int .i64 0, .bool false, .string ⟨#[]⟩, .string ⟨#[]⟩] 50) := ⟨_, rfl⟩
            have hb : Below W2.heap.size W2 W3 := by rw [hW3]; exact bel_alloc _ _
            have HR3 : Hid (QBox gq ⟨#[]⟩ 0 false ⟨#[]⟩ ⟨#[]⟩ W3) := by rw [hW3, hgq]; exact blk_new _ _
            have hS3 := hS2.next hb
            have HB3 : Hid (Below wo.heap.size wo W3) := HB2.out.trans (hb.mono HB2.out.size)
            clear hb hS2 HB2
            rw [← hW3]
            (try rw [← hgq])
            clear hW3 hgq
            refine hK.out _ _ hS3 (fun _ => ?_)
            clear hK K
            refine wpAnyH_ready (rs := [33]) (by kernel_rfl) (by simp) ?_
            refine AllReadyH.cons rfl (fun K hK => ?_) AllReadyH.nil
            go_simp
            refine (HRT.out _).mono ?_
            rintro e W4 ⟨rfl, hb⟩
            have hS4 := hS3.next hb
            have HB4 : Hid (Below wo.heap.size wo W4) := HB3.out.trans (hb.mono HB3.out.size)
            have HR4 := Lib.hid (HR3.out.next hb)
            clear hb hS3 HB3 HR3
            refine hK.out _ _ hS4 (fun _ => ?_)
            clear hK K
            refine wpAnyH_take (i := 34) rfl (by kernel_rfl) (by kernel_rfl) (by kernel_rfl) (fun _ _ _ h => h) (Or.inl ⟨by kernel_rfl, (by intro w' _; go_simp; with_reducible rfl)⟩) hS4 ?_
            go_simp
            refine wpAnyH_ready (rs := [36]) (by kernel_rfl) (by simp) ?_
            refine AllReadyH.cons rfl (fun K hK => ?_) AllReadyH.nil
            obtain ⟨f0, f1, f2, f3, f4, fz⟩ := HR4.out.free
            obtain ⟨c0, c1, c2, c3, c4⟩ := HR4.out.cells
            go_simp
            clear f0 f1 f2 f3 f4 fz c0 c1 c2 c3 c4
            obtain ⟨wz, hwz⟩ : ∃ W, W = (((((W4.setCell ⟨gq, 0, none⟩ (.string cs)).setCell ⟨gq, 1, none⟩ (.int .i64 (dd : Int))).setCell ⟨gq, 2, none⟩ (.bool sr)).setCell ⟨gq, 3, none⟩ (.string nr)).setCell ⟨gq, 4, none⟩ (.string dr)) := ⟨_, rfl⟩
            have hSz : PX b (off + k * 3) x0 x1 x2 gl m cs wz := by rw [hwz]; exact (((((hS4.set (by omega) (by omega)).set (by omega) (by omega)).set (by omega) (by omega)).set (by omega) (by omega)).set (by omega) (by omega))
            have HBz : Hid (Below wo.heap.size wo wz) := by rw [hwz]; exact (((((HB4.out.setCell (by simp <;> omega) _).setCell (by simp <;> omega) _).setCell (by simp <;> omega) _).setCell (by simp <;> omega) _).setCell (by simp <;> omega) _)
            have HRz : Hid (QBox gq cs dd sr nr dr wz) := by rw [hwz]; exact HR4.out.set cs dd sr nr dr
            rw [← hwz]
            clear hwz hS4 HB4 HR4
            refine hK.out _ _ hSz (fun _ => ?_)
            clear hK K
            refine wpAnyH_done (by kernel_rfl) ?_ _
            (try go_wp2_with fail)
            go_meet
            exact ⟨gq, ⟨cs, dd, qq⟩, rfl, ⟨HCO.out.1, HCO.out.2, ⟨by show (0 : Int) ≤ (dd : Int); omega, by show (dd : Int) ≤ 1048576; omega⟩, HQS.out.2, HQS.out.1.1⟩, by unfold QBD; dsimp only; rw [(ratV_eq HQV.out).1, (ratV_eq HQV.out).2.1, (ratV_eq HQV.out).2.2]; exact HRz.out, HBz.out, hq35.2⟩
        · go_simp
          refine (HRT.out _).mono ?_
          rintro e W2 ⟨rfl, hb⟩
          have hS2 := hS1.next hb
          have HB2 : Hid (Below wo.heap.size wo W2) := HB1.out.trans (hb.mono HB1.out.size)
          clear hb hS1 HB1
          refine hK.out _ _ hS2 (fun _ => ?_)
          clear hK K
          refine wpAnyH_ready (rs := [0, 35]) (by kernel_rfl) (by simp) ?_
          refine AllReadyH.cons rfl (fun K hK => ?_) (AllReadyH.cons rfl (fun K hK => ?_) AllReadyH.nil)
          · obtain ⟨gl, hgl⟩ : ∃ g, g = W2.heap.size := ⟨_, rfl⟩
            go_simp
            obtain ⟨W3, hW3⟩ : ∃ W, W = W2.alloc (.cells #[.string ⟨#[85, 83, 68]⟩, .string ⟨#[71, 66, 80]⟩, .string ⟨#[74, 80, 89]⟩] 9) := ⟨_, rfl⟩
            have hb : Below W2.heap.size W2 W3 := by rw [hW3]; exact bel_alloc _ _
            have HLS : Hid (LS gl m cs W3) := by rw [hW3, hgl]; exact ⟨HCS.out _, by simp⟩
            have hS3 := hS2.next hb
            have HB3 : Hid (Below wo.heap.size wo W3) := HB2.out.trans (hb.mono HB2.out.size)
            clear hb hS2 HB2
            rw [← hW3]
            (try rw [← hgl])
            clear hW3 hgl
            refine hK.out _ _ hS3 (fun _ => ?_)
            clear hK K
            have hS3 : PX b (off + k * 3) x0 x1 x2 gl m cs W3 := ⟨hS3, HLS.out⟩
            clear HLS
            refine wpAnyH_more (S' := PX b (off + k * 3) x0 x1 x2 gl m cs) (fun _ h => h.x) _ _ _ _ ?_
            refine wpAnyH_take (i := 7) rfl (by kernel_rfl) (by kernel_rfl) (by kernel_rfl) (fun _ _ _ h => h) (Or.inl ⟨by kernel_rfl, (by intro w' _; go_simp; with_reducible rfl)⟩) hS3 ?_
            go_simp
            refine wpAnyH_take (i := 8) (v := .string cs) rfl (by kernel_rfl) (by kernel_rfl) (by kernel_rfl) (fun _ _ _ h => h) (Or.inl ⟨by kernel_rfl, (by intro w' hw'; have k0 := hw'.l.1; go_simp)⟩) hS3 ?_
            go_simp
            refine wpAnyH_take (i := 34) rfl (by kernel_rfl) (by kernel_rfl) (by kernel_rfl) (fun _ _ _ h => h) (Or.inl ⟨by kernel_rfl, (by intro w' _; go_simp; with_reducible rfl)⟩) hS3 ?_
            go_simp
            refine wpAnyH_ready (rs := [35]) (by kernel_rfl) (by simp) ?_
            refine AllReadyH.cons rfl (fun K hK => ?_) AllReadyH.nil
            obtain ⟨gq, hgq⟩ : ∃ g, g = W3.heap.size := ⟨_, rfl⟩
            have hq35 : b < gq ∧ wo.heap.size ≤ gq := by rw [hgq]; exact ⟨hS3.x.2.2.2, HB3.out.size⟩
            have hl35 : gl < gq := by rw [hgq]; exact hS3.l.2
            go_simp
            obtain ⟨W4, hW4⟩ : ∃ W, W = W3.alloc (.cells #[.string ⟨#[]⟩, .int .i64 0, .bool false, .string ⟨#[]⟩, .string ⟨#[]⟩] 50) := ⟨_, rfl⟩
            have hb : Below W3.heap.size W3 W4 := by rw [hW4]; exact bel_alloc _ _
            have HR4 : Hid (QBox gq ⟨#[]⟩ 0 false ⟨#[]⟩ ⟨#[]⟩ W4) := by rw [hW4, hgq]; exact blk_new _ _
            have hS4 := hS3.next hb
            have HB4 : Hid (Below wo.heap.size wo W4) := HB3.out.trans (hb.mono HB3.out.size)
            clear hb hS3 HB3
            rw [← hW4]
            (try rw [← hgq])
            clear hW4 hgq
            refine hK.out _ _ hS4 (fun _ => ?_)
            clear hK K
            refine wpAnyH_ready (rs := [36]) (by kernel_rfl) (by simp) ?_
            refine AllReadyH.cons rfl (fun K hK => ?_) AllReadyH.nil
            obtain ⟨f0, f1, f2, f3, f4, fz⟩ := HR4.out.free
            obtain ⟨c0, c1, c2, c3, c4⟩ := HR4.out.cells
            go_simp
            clear f0 f1 f2 f3 f4 fz c0 c1 c2 c3 c4
            obtain ⟨wz, hwz⟩ : ∃ W, W = (((((W4.setCell ⟨gq, 0, none⟩ (.string cs)).setCell ⟨gq, 1, none⟩ (.int .i64 (dd : Int))).setCell ⟨gq, 2, none⟩ (.bool sr)).setCell ⟨gq, 3, none⟩ (.string nr)).setCell ⟨gq, 4, none⟩ (.string dr)) := ⟨_, rfl⟩
            have hSz : PX b (off + k * 3) x0 x1 x2 gl m cs wz := by rw [hwz]; exact (((((hS4.set (by omega) (by omega)).set (by omega) (by omega)).set (by omega) (by omega)).set (by omega) (by omega)).set (by omega) (by omega))
            have HBz : Hid (Below wo.heap.size wo wz) := by rw [hwz]; exact (((((HB4.out.setCell (by simp <;> omega) _).setCell (by simp <;> omega) _).setCell (by simp <;> omega) _).setCell (by simp <;> omega) _).setCell (by simp <;> omega) _)
            have HRz : Hid (QBox gq cs dd sr nr dr wz) := by rw [hwz]; exact HR4.out.set cs dd sr nr dr
            rw [← hwz]
            clear hwz hS4 HB4 HR4
            refine hK.out _ _ hSz (fun _ => ?_)
            clear hK K
            refine wpAnyH_done (by kernel_rfl) ?_ _
            (try go_wp2_with fail)
            go_meet
            exact ⟨gq, ⟨cs, dd, qq⟩, rfl, ⟨HCO.out.1, HCO.out.2, ⟨by show (0 : Int) ≤ (dd : Int); omega, by show (dd : Int) ≤ 1048576; omega⟩, HQS.out.2, HQS.out.1.1⟩, by unfold QBD; dsimp only; rw [(ratV_eq HQV.out).1, (ratV_eq HQV.out).2.1, (ratV_eq HQV.out).2.2]; exact HRz.out, HBz.out, hq35.2⟩
          · obtain ⟨gq, hgq⟩ : ∃ g, g = W2.heap.size := ⟨_, rfl⟩
            have hq35 : b < gq ∧ wo.heap.size ≤ gq := by rw [hgq]; exact ⟨hS2.2.2.2, HB2.out.size⟩
            go_simp
            obtain ⟨W3, hW3⟩ : ∃ W, W = W2.alloc (.cells #[.string ⟨#[]⟩, .int .i64 0, .bool false, .string ⟨#[]⟩, .string ⟨#[]⟩] 50) := ⟨_, rfl⟩
            have hb : Below W2.heap.size W2 W3 := by rw [hW3]; exact bel_alloc _ _
            have HR3 : Hid (QBox gq ⟨#[]⟩ 0 false ⟨#[]⟩ ⟨#[]⟩ W3) := by rw [hW3, hgq]; exact blk_new _ _
            have hS3 := hS2.next hb
            have HB3 : Hid (Below wo.heap.size wo W3) := HB2.out.trans (hb.mono HB2.out.size)
            clear hb hS2 HB2
            rw [← hW3]
            (try rw [← hgq])
            clear hW3 hgq
            refine hK.out _ _ hS3 (fun _ => ?_)
            clear hK K
            refine wpAnyH_ready (rs := [0]) (by kernel_rfl) (by simp) ?_
            refine AllReadyH.cons rfl (fun K hK => ?_) AllReadyH.nil
            obtain ⟨gl, hgl⟩ : ∃ g, g = W3.heap.size := ⟨_, rfl⟩
            have hl35 : gq < gl := by rw [hgl]; exact HR3.out.free.2.2.2.2.2
            go_simp
            obtain ⟨W4, hW4⟩ : ∃ W, W = W3.alloc (.cells #[.string ⟨#[85, 83, 68]⟩, .string ⟨#[71, 66, 80]⟩, .string ⟨#[74, 80, 89]⟩] 9) := ⟨_, rfl⟩
            have hb : Below W3.heap.size W3 W4 := by rw [hW4]; exact bel_alloc _ _
            have HLS : Hid (LS gl m cs W4) := by rw [hW4, hgl]; exact ⟨HCS.out _, by simp⟩
            have hS4 := hS3.next hb
            have HB4 : Hid (Below wo.heap.size wo W4) := HB3.out.trans (hb.mono HB3.out.size)
            have HR4 := Lib.hid (HR3.out.next hb)
            clear hb hS3 HB3 HR3
            rw [← hW4]
            (try rw [← hgl])
            clear hW4 hgl
            refine hK.out _ _ hS4 (fun _ => ?_)
            clear hK K
            have hS4 : PX b (off + k * 3) x0 x1 x2 gl m cs W4 := ⟨hS4, HLS.out⟩
            clear HLS
            refine wpAnyH_more (S' := PX b (off + k * 3) x0 x1 x2 gl m cs) (fun _ h => h.x) _ _ _ _ ?_
            refine wpAnyH_take (i := 7) rfl (by kernel_rfl) (by kernel_rfl) (by kernel_rfl) (fun _ _ _ h => h) (Or.inl ⟨by kernel_rfl, (by intro w' _; go_simp; with_reducible rfl)⟩) hS4 ?_
            go_simp
            refine wpAnyH_take (i := 8) (v := .string cs) rfl (by kernel_rfl) (by kernel_rfl) (by kernel_rfl) (fun _ _ _ h => h) (Or.inl ⟨by kernel_rfl, (by intro w' hw'; have k0 := hw'.l.1; go_simp)⟩) hS4 ?_
            go_simp
            refine wpAnyH_take (i := 34) rfl (by kernel_rfl) (by kernel_rfl) (by kernel_rfl) (fun _ _ _ h => h) (Or.inl ⟨by kernel_rfl, (by intro w' _; go_simp; with_reducible rfl)⟩) hS4 ?_
            go_simp
            refine wpAnyH_ready (rs := [36]) (by kernel_rfl) (by simp) ?_
            refine AllReadyH.cons rfl (fun K hK => ?_) AllReadyH.nil
            obtain ⟨f0, f1, f2, f3, f4, fz⟩ := HR4.out.free
            obtain ⟨c0, c1, c2, c3, c4⟩ := HR4.out.cells
            go_simp
            clear f0 f1 f2 f3 f4 fz c0 c1 c2 c3 c4
            obtain ⟨wz, hwz⟩ : ∃ W, W = (((((W4.setCell ⟨gq, 0, none⟩ (.string cs)).setCell ⟨gq, 1, none⟩ (.int .i64 (dd : Int))).setCell ⟨gq, 2, none⟩ (.bool sr)).setCell ⟨gq, 3, none⟩ (.string nr)).setCell ⟨gq, 4, none⟩ (.string dr)) := ⟨_, rfl⟩
            have hSz : PX b (off + k * 3) x0 x1 x2 gl m cs wz := by rw [hwz]; exact (((((hS4.set (by omega) (by omega)).set (by omega) (by omega)).set (by omega) (by omega)).set (by omega) (by omega)).set (by omega) (by omega))
            have HBz : Hid (Below wo.heap.size wo wz) := by rw [hwz]; exact (((((HB4.out.setCell (by simp <;> omega) _).setCell (by simp <;> omega) _).setCell (by simp <;> omega) _).setCell (by simp <;> omega) _).setCell (by simp <;> omega) _)
            have HRz : Hid (QBox gq cs dd sr nr dr wz) := by rw [hwz]; exact HR4.out.set cs dd sr nr dr
            rw [← hwz]
            clear hwz hS4 HB4 HR4
            refine hK.out _ _ hSz (fun _ => ?_)
            clear hK K
            refine wpAnyH_done (by kernel_rfl) ?_ _
            (try go_wp2_with fail)
            go_meet
            exact ⟨gq, ⟨cs, dd, qq⟩, rfl, ⟨HCO.out.1, HCO.out.2, ⟨by show (0 : Int) ≤ (dd : Int); omega, by show (dd : Int) ≤ 1048576; omega⟩, HQS.out.2, HQS.out.1.1⟩, by unfold QBD; dsimp only; rw [(ratV_eq HQV.out).1, (ratV_eq HQV.out).2.1, (ratV_eq HQV.out).2.2]; exact HRz.out, HBz.out, hq35.2⟩
        · obtain ⟨gq, hgq⟩ : ∃ g, g = W1.heap.size := ⟨_, rfl⟩
          have hq35 : b < gq ∧ wo.heap.size ≤ gq := by rw [hgq]; exact ⟨hS1.2.2.2, HB1.out.size⟩
          go_simp
          obtain ⟨W2, hW2⟩ : ∃ W, W = W1.alloc (.cells #[.string ⟨#[]⟩, .int .i64 0, .bool false, .string ⟨#[]⟩, .string ⟨#[]⟩] 50) := ⟨_, rfl⟩
          have hb : Below W1.heap.size W1 W2 := by rw [hW2]; exact bel_alloc _ _
          have HR2 : Hid (QBox gq ⟨#[]⟩ 0 false ⟨#[]⟩ ⟨#[]⟩ W2) := by rw [hW2, hgq]; exact blk_new _ _
          have hS2 := hS1.next hb
          have HB2 : Hid (Below wo.heap.size wo W2) := HB1.out.trans (hb.mono HB1.out.size)
          clear hb hS1 HB1
          rw [← hW2]
          (try rw [← hgq])
          clear hW2 hgq
          refine hK.out _ _ hS2 (fun _ => ?_)
          clear hK K
          refine wpAnyH_ready (rs := [0, 33]) (by kernel_rfl) (by simp) ?_
          refine AllReadyH.cons rfl (fun K hK => ?_) (AllReadyH.cons rfl (fun K hK => ?_) AllReadyH.nil)
          · obtain ⟨gl, hgl⟩ : ∃ g, g = W2.heap.size := ⟨_, rfl⟩
            have hl35 : gq < gl := by rw [hgl]; exact HR2.out.free.2.2.2.2.2
            go_simp
            obtain ⟨W3, hW3⟩ : ∃ W, W = W2.alloc (.cells #[.string ⟨#[85, 83, 68]⟩, .string ⟨#[71, 66, 80]⟩, .string ⟨#[74, 80, 89]⟩] 9) := ⟨_, rfl⟩
            have hb : Below W2.heap.size W2 W3 := by rw [hW3]; exact bel_alloc _ _
            have HLS : Hid (LS gl m cs W3) := by rw [hW3, hgl]; exact ⟨HCS.out _, by simp⟩
            have hS3 := hS2.next hb
            have HB3 : Hid (Below wo.heap.size wo W3) := HB2.out.trans (hb.mono HB2.out.size)
            have HR3 := Lib.hid (HR2.out.next hb)
            clear hb hS2 HB2 HR2
            rw [← hW3]
            (try rw [← hgl])
            clear hW3 hgl
            refine hK.out _ _ hS3 (fun _ => ?_)
            clear hK K
            have hS3 : PX b (off + k * 3) x0 x1 x2 gl m cs W3 := ⟨hS3, HLS.out⟩
            clear HLS
            refine wpAnyH_more (S' := PX b (off + k * 3) x0 x1 x2 gl m cs) (fun _ h => h.x) _ _ _ _ ?_
            refine wpAnyH_take (i := 7) rfl (by kernel_rfl) (by kernel_rfl) (by kernel_rfl) (fun _ _ _ h => h) (Or.inl ⟨by kernel_rfl, (by intro w' _; go_simp; with_reducible rfl)⟩) hS3 ?_
            go_simp
            refine wpAnyH_take (i := 8) (v := .string cs) rfl (by kernel_rfl) (by kernel_rfl) (by kernel_rfl) (fun _ _ _ h => h) (Or.inl ⟨by kernel_rfl, (by intro w' hw'; have k0 := hw'.l.1; go_simp)⟩) hS3 ?_
            go_simp
            refine wpAnyH_ready (rs := [33]) (by kernel_rfl) (by simp) ?_
            refine AllReadyH.cons rfl (fun K hK => ?_) AllReadyH.nil
            go_simp
            refine (HRT.out _).mono ?_
            rintro e W4 ⟨rfl, hb⟩
            have hS4 := hS3.next hb
            have HB4 : Hid (Below wo.heap.size wo W4) := HB3.out.trans (hb.mono HB3.out.size)
            have HR4 := Lib.hid (HR3.out.next hb)
            clear hb hS3 HB3 HR3
            refine hK.out _ _ hS4 (fun _ => ?_)
            clear hK K
            refine wpAnyH_take (i := 34) rfl (by kernel_rfl) (by kernel_rfl) (by kernel_rfl) (fun _ _ _ h => h) (Or.inl ⟨by kernel_rfl, (by intro w' _; go_simp; with_reducible rfl)⟩) hS4 ?_
            go_simp
            refine wpAnyH_ready (rs := [36]) (by kernel_rfl) (by simp) ?_
            refine AllReadyH.cons rfl (fun K hK => ?_) AllReadyH.nil
            obtain ⟨f0, f1, f2, f3, f4, fz⟩ := HR4.out.free
            obtain ⟨c0, c1, c2, c3, c4⟩ := HR4.out.cells
            go_simp
            clear f0 f1 f2 f3 f4 fz c0 c1 c2 c3 c4
            obtain ⟨wz, hwz⟩ : ∃ W, W = (((((W4.setCell ⟨gq, 0, none⟩ (.string cs)).setCell ⟨gq, 1, none⟩ (.int .i64 (dd : Int))).setCell ⟨gq, 2, none⟩ (.bool sr)).setCell ⟨gq, 3, none⟩ (.string nr)).setCell ⟨gq, 4, none⟩ (.string dr)) := ⟨_, rfl⟩
            have hSz : PX b (off + k * 3) x0 x1 x2 gl m cs wz := by rw [hwz]; exact (((((hS4.set (by omega) (by omega)).set (by omega) (by omega)).set (by omega) (by omega)).set (by omega) (by omega)).set (by omega) (by omega))
            have HBz : Hid (Below wo.heap.size wo wz) := by rw [hwz]; exact (((((HB4.out.setCell (by simp <;> omega) _).setCell (by simp <;> omega) _).setCell (by simp <;> omega) _).setCell (by simp <;> omega) _).setCell (by simp <;> omega) _)
            have HRz : Hid (QBox gq cs dd sr nr dr wz) := by rw [hwz]; exact HR4.out.set cs dd sr nr dr
            rw [← hwz]
            clear hwz hS4 HB4 HR4
            refine hK.out _ _ hSz (fun _ => ?_)
            clear hK K
            refine wpAnyH_done (by kernel_rfl) ?_ _
            (try go_wp2_with fail)
            go_meet
            exact ⟨gq, ⟨cs, dd, qq⟩, rfl, ⟨HCO.out.1, HCO.out.2, ⟨by show (0 : Int) ≤ (dd : Int); omega, by show (dd : Int) ≤ 1048576; omega⟩, HQS.out.2, HQS.out.1.1⟩, by unfold QBD; dsimp only; rw [(ratV_eq HQV.out).1, (ratV_eq HQV.out).2.1, (ratV_eq HQV.out).2.2]; exact HRz.out, HBz.out, hq35.2⟩
          · go_simp
            refine (HRT.out _).mono ?_
            rintro e W3 ⟨rfl, hb⟩
            have hS3 := hS2.next hb
            have HB3 : Hid (Below wo.heap.size wo W3) := HB2.out.trans (hb.mono HB2.out.size)
            have HR3 := Lib.hid (HR2.out.next hb)
            clear hb hS2 HB2 HR2
            refine hK.out _ _ hS3 (fun _ => ?_)
            clear hK K
            refine wpAnyH_ready (rs := [0]) (by kernel_rfl) (by simp) ?_
            refine AllReadyH.cons rfl (fun K hK => ?_) AllReadyH.nil
            obtain ⟨gl, hgl⟩ : ∃ g, g = W3.heap.size := ⟨_, rfl⟩
            have hl35 : gq < gl := by rw [hgl]; exact HR3.out.free.2.2.2.2.2
            go_simp
            obtain ⟨W4, hW4⟩ : ∃ W, W = W3.alloc (.cells #[.string ⟨#[85, 83, 68]⟩, .string ⟨#[71, 66, 80]⟩, .string ⟨#[74, 80, 89]⟩] 9) := ⟨_, rfl⟩
            have hb : Below W3.heap.size W3 W4 := by rw [hW4]; exact bel_alloc _ _
            have HLS : Hid (LS gl m cs W4) := by rw [hW4, hgl]; exact ⟨HCS.out _, by simp⟩
            have hS4 := hS3.next hb
            have HB4 : Hid (Below wo.heap.size wo W4) := HB3.out.trans (hb.mono HB3.out.size)
            have HR4 := Lib.hid (HR3.out.next hb)
            clear hb hS3 HB3 HR3
            rw [← hW4]
            (try rw [← hgl])
            clear hW4 hgl
            refine hK.out _ _ hS4 (fun _ => ?_)
            clear hK K
            have hS4 : PX b (off + k * 3) x0 x1 x2 gl m cs W4 := ⟨hS4, HLS.out⟩
            clear HLS
            refine wpAnyH_more (S' := PX b (off + k * 3) x0 x1 x2 gl m cs) (fun _ h => h.x) _ _ _ _ ?_
            refine wpAnyH_take (i := 7) rfl (by kernel_rfl) (by kernel_rfl) (by kernel_rfl) (fun _ _ _ h => h) (Or.inl ⟨by kernel_rfl, (by intro w' _; go_simp; with_reducible rfl)⟩) hS4 ?_
            go_simp
            refine wpAnyH_take (i := 8) (v := .string cs) rfl (by kernel_rfl) (by kernel_rfl) (by kernel_rfl) (fun _ _ _ h => h) (Or.inl ⟨by kernel_rfl, (by intro w' hw'; have k0 := hw'.l.1; go_simp)⟩) hS4 ?_
            go_simp
            refine wpAnyH_take (i := 34) rfl (by kernel_rfl) (by kernel_rfl) (by kernel_rfl) (fun _ _ _ h => h) (Or.inl ⟨by kernel_rfl, (by intro w' _; go_simp; with_reducible rfl)⟩) hS4 ?_
            go_simp
            refine wpAnyH_ready (rs := [36]) (by kernel_rfl) (by simp) ?_
            refine AllReadyH.cons rfl (fun K hK => ?_) AllReadyH.nil
            obtain ⟨f0, f1, f2, f3, f4, fz⟩ := HR4.out.free
            obtain ⟨c0, c1, c2, c3, c4⟩ := HR4.out.cells
            go_simp
            clear f0 f1 f2 f3 f4 fz c0 c1 c2 c3 c4
            obtain ⟨wz, hwz⟩ : ∃ W, W = (((((W4.setCell ⟨gq, 0, none⟩ (.string cs)).setCell ⟨gq, 1, none⟩ (.int .i64 (dd : Int))).setCell ⟨gq, 2, none⟩ (.bool sr)).setCell ⟨gq, 3, none⟩ (.string nr)).setCell ⟨gq, 4, none⟩ (.string dr)) := ⟨_, rfl⟩
            have hSz : PX b (off + k * 3) x0 x1 x2 gl m cs wz := by rw [hwz]; exact (((((hS4.set (by omega) (by omega)).set (by omega) (by omega)).set (by omega) (by omega)).set (by omega) (by omega)).set (by omega) (by omega))
            have HBz : Hid (Below wo.heap.size wo wz) := by rw [hwz]; exact (((((HB4.out.setCell (by simp <;> omega) _).setCell (by simp <;> omega) _).setCell (by simp <;> omega) _).setCell (by simp <;> omega) _).setCell (by simp <;> omega) _)
            have HRz : Hid (QBox gq cs dd sr nr dr wz) := by rw [hwz]; exact HR4.out.set cs dd sr nr dr
            rw [← hwz]
            clear hwz hS4 HB4 HR4
            refine hK.out _ _ hSz (fun _ => ?_)
            clear hK K
            refine wpAnyH_done (by kernel_rfl) ?_ _
            (try go_wp2_with fail)
            go_meet
            exact ⟨gq, ⟨cs, dd, qq⟩, rfl, ⟨HCO.out.1, HCO.out.2, ⟨by show (0 : Int) ≤ (dd : Int); omega, by show (dd : Int) ≤ 1048576; omega⟩, HQS.out.2, HQS.out.1.1⟩, by unfold QBD; dsimp only; rw [(ratV_eq HQV.out).1, (ratV_eq HQV.out).2.1, (ratV_eq HQV.out).2.2]; exact HRz.out, HBz.out, hq35.2⟩
      case rest =>
        clear HCO HCS HRT HQV HQS e0 e1 e2 e3 b0 b0i b1 b2 b3 hS00 q2 v1 v2 v3 v4 v5
        obtain ⟨gq, q, rfl, hqo, hqb, hbo, hgq⟩ := hcut
        rename World => wc
        have HQO := Lib.hid hqo
        have HQ0 : Hid (QBD gq q wc) := hqb
        have HB0 : Hid (Below wo.heap.size wo wc) := hbo
        clear hqo hqb hbo
        have hqk : qs.length ≤ 8 := Nat.le_trans HK.out.len hk8
        go_wp2_with fail
        go_loopw [6, 56] (fun tw j wr => ∃ i : Nat, i ≤ qs.length ∧ j = .int .i64 (i : Int) ∧ tw = .bool ((qs.take i).any (sameQ q)) ∧ Hid (QBD gq q wr) ∧ Hid (Below wo.heap.size wo wr)) (fun _ j _ => qs.length - (intOf j).toNat)
        case atStart => exact ⟨0, Nat.zero_le _, rfl, rfl, HQ0, HB0⟩
        case round =>
          clear HQ0 HB0
          obtain ⟨i, hi, rfl, rfl, HQi, HBi⟩ := hrel
          rename World => wi
          by_cases hil : i < qs.length
          · have hlt2 : (i : Int) < (qs.length : Int) := by omega
            obtain ⟨p, hp⟩ := getElem?_of_lt (l := qs) (k := i) hil
            have HAN' := any_next (f := sameQ q) hp
            obtain ⟨b2, off2, hA2, _, hc2⟩ := Rd.at_ (enc := Qt.cells) (fun _ => rfl) (Rd.of_own (own_belowQ HO.out HBi.out)) hp
            subst hA2
            have p0 := hc2 0 _ rfl
            have p1 := hc2 1 _ rfl
            have p2 := hc2 2 _ rfl
            have p3 := hc2 3 _ rfl
            have p4 := hc2 4 _ rfl
            rw [Nat.add_zero] at p0
            rw [← Nat.add_assoc] at p1 p2 p3 p4
            clear hc2 hp
            obtain ⟨tw, htw⟩ : ∃ x, x = (qs.take i).any (sameQ q) := ⟨_, rfl⟩
            rw [← htw] at HAN' ⊢
            clear htw
            obtain ⟨pc, py, pr⟩ := p
            dsimp only at p0 p1 p2 p3 p4
            obtain ⟨ps, hps⟩ : ∃ x, x = rneg pr := ⟨_, rfl⟩
            obtain ⟨pn, hpn⟩ : ∃ x, x = rnum pr := ⟨_, rfl⟩
            obtain ⟨pd, hpd⟩ : ∃ x, x = rden pr := ⟨_, rfl⟩
            rw [← hps] at p2
            rw [← hpn] at p3
            rw [← hpd] at p4
            clear hps hpn hpd
            have HQ2 : Hid (QBD gq q (wi.alloc (.cells #[.string pc, .int .i64 py, .bool ps, .string pn, .string pd] 50))) := QBox.next HQi.out (bel_alloc _ _)
            have HB2 : Hid (Below wo.heap.size wo (wi.alloc (.cells #[.string pc, .int .i64 py, .bool ps, .string pn, .string pd] 50))) := HBi.out.alloc HBi.out.size _
            have hq2 := HQ2.out
            unfold QBD at hq2
            obtain ⟨q0, q1, q2, q3, q4⟩ := hq2.cells
            clear hq2 HQi HBi
            cases tw
            · by_cases hcc : pc = q.code
              · have e1 : (pc.toList == q.code.toList) = true := by rw [hcc]; exact beq_self_eq_true _
                by_cases hdd : py = q.day
                · have e2 : (py == q.day) = true := by rw [hdd]; exact beq_self_eq_true _
                  have HAN : Hid ((qs.take (i + 1)).any (sameQ q) = true) := HAN'.trans (by unfold sameQ; rw [decide_eq_true hcc, decide_eq_true hdd]; rfl)
                  clear HAN' hcc hdd
                  go_wp2_with fail
                  go_roundw
                  case measure => simp [intOf] <;> omega
                  case rel => exact ⟨i + 1, by omega, by go_num, by rw [HAN.out], HQ2, HB2⟩
                · have e2 : (py == q.day) = false := beq_eq_false_iff_ne.2 hdd
                  have HAN : Hid ((qs.take (i + 1)).any (sameQ q) = false) := HAN'.trans (by unfold sameQ; rw [decide_eq_false hdd, Bool.and_false]; rfl)
                  clear HAN' hcc hdd
                  go_wp2_with fail
                  go_roundw
                  case measure => simp [intOf] <;> omega
                  case rel => exact ⟨i + 1, by omega, by go_num, by rw [HAN.out], HQ2, HB2⟩
              · have e1 : (pc.toList == q.code.toList) = false := bytes_ne hcc
                have HAN : Hid ((qs.take (i + 1)).any (sameQ q) = false) := HAN'.trans (by unfold sameQ; rw [decide_eq_false hcc, Bool.false_and]; rfl)
                clear HAN' hcc
                go_wp2_with fail
                go_roundw
                case measure => simp [intOf] <;> omega
                case rel => exact ⟨i + 1, by omega, by go_num, by rw [HAN.out], HQ2, HB2⟩
            · have HAN : Hid ((qs.take (i + 1)).any (sameQ q) = true) := HAN'.trans (by simp)
              clear HAN'
              go_wp2_with fail
              go_roundw
              case measure => simp [intOf] <;> omega
              case rel => exact ⟨i + 1, by omega, by go_num, by rw [HAN.out], HQ2, HB2⟩
          · obtain rfl : i = qs.length := by omega
            have hlt2 : ¬ (qs.length : Int) < (qs.length : Int) := by omega
            rw [List.take_of_length_le (Nat.le_refl _)]
            have hq2 := HQi.out
            unfold QBD at hq2
            obtain ⟨q0, q1, q2, q3, q4⟩ := hq2.cells
            clear hq2
            have HOi := Lib.hid (own_belowQ HO.out HBi.out)
            have HBw : Hid (Below w.heap.size w wi) := HB.out.trans (HBi.out.mono HB.out.size)
            rcases htw : qs.any (sameQ q) with _ | _
            · have HTW := Lib.hid htw
              clear htw HO HB HBi
              go_wp2_with (at_builtin; refine wpList_append_own _ rfl (.tmp 78) (.tmp 80) 32 rfl w.heap.size 50 iq _ 5 64 Tryd.underlying32 HIQ.out.1 HIQ.out.2.1 HIQ.out.2.2.1 HIQ.out.2.2.2 rfl (by decide) _ _ (qs.flatMap Qt.cells) rfl (own_belowQ HOi.out (bel_alloc _ _)) _ 1 1 _ rfl rfl (rd_new_cells _ _ _ _ (by simp)) (by simp [Value.oneCell']) (by simp only [maxLen]; omega) (by omega) (by have := HBw.out.size; simp; omega) ?_)
              intro v' w' hown hgr hnil
              obtain ⟨g', cap, rfl, _, _⟩ := hown.form (by omega)
              have HO2 : Hid (w'.ownsRow w.heap.size 50 5 (.slice (some ⟨g', 0, none⟩) (qs ++ [q]).length cap) (qs ++ [q]).length ((qs ++ [q]).flatMap Qt.cells)) := by rw [List.length_append, List.flatMap_append]; exact hown
              have HB2 : Hid (Below w.heap.size w w') := (HBw.out.alloc HBw.out.size _).grown hgr (by have := HBw.out.size; simp; omega) (fun j hj => (HOi.out.lt j hj).1)
              have HK2 : Hid (QtsK (k + 1) (qs ++ [q])) := HK.out.snoc HQO.out HTW.out
              have hl2 : qs.length + 1 = (qs ++ [q]).length := by simp
              clear hown hgr hnil HOi HBw HK
              go_wp2_with fail
              go_roundw
              case measure => simp [intOf] <;> omega
              case rel => exact ⟨k + 1, _, _, qs ++ [q], by omega, by omega, by go_num, by rw [← hl2], HK2, HO2, HB2⟩
            · clear htw HO HB HBi
              have HK2 : Hid (QtsK (k + 1) qs) := HK.out.mono (by omega)
              clear HK
              go_wp2_with fail
              go_roundw
              case measure => simp [intOf] <;> omega
              case rel => exact ⟨k + 1, _, _, qs, by omega, by omega, by go_num, rfl, HK2, HOi, HBw⟩
    · have hge : ¬ ((k : Int) < (n : Int) ∧ (k : Int) < 8) := by omega
      by_cases hkn : k < n
      · have g1 : decide ((k : Int) < (n : Int)) = true := decide_eq_true (by omega)
        have g2 : decide ((k : Int) < 8) = false := decide_eq_false (by omega)
        go_wp2_with fail
        go_ret
        exact ⟨_, _, qs, rfl, ⟨Nat.le_trans HK.out.len hk8, HK.out.each, HK.out.apart⟩, Rd.of_own HO.out, HB.out⟩
      · have g1 : decide ((k : Int) < (n : Int)) = false := decide_eq_false (by omega)
        go_wp2_with fail
        go_ret
        exact ⟨_, _, qs, rfl, ⟨Nat.le_trans HK.out.len hk8, HK.out.each, HK.out.apart⟩, Rd.of_own HO.out, HB.out⟩

end Go.Proofs.YtjlicnhkemfmiaaDoor

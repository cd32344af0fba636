/- Merged of Row Gen Expo. -/
import Derived.Test.YtomfcmlomfcghaaGreatDoorM2
import Derived.Test.YtomfcmlomfcghaaGreatDoorRows
/- api.Row as a Lean structure, a slice of rows that is read. -/
set_option linter.unusedVariables false
set_option linter.unusedSimpArgs false
namespace Go.Proofs.YtomfcmlomfcghaaGreatDoor
open Go.RowKit

structure Row where
  day : Int
  kind : Int
  frm : Int
  to : Int
  amount : Int
  worth : Int

def Row.cells (r : Row) : List Value := [.int .i64 r.day, .int .i64 r.kind, .int .i64 r.frm, .int .i64 r.to, .int .i64 r.amount, .int .i64 r.worth]

theorem Row.cells_len (r : Row) : r.cells.length = 6 := rfl

def RowsRd (w : World) (B : Nat) (A : Option Addr) (rows : List Row) : Prop := Rd w B 6 A rows.length (rows.flatMap Row.cells)

theorem RowsRd.next {w w' : World} {A : Option Addr} {rows : List Row} (h : RowsRd w w.heap.size A rows) (hb : Below w.heap.size w w') : RowsRd w' w'.heap.size A rows := Rd.next h hb
theorem RowsRd.below {w w' : World} {B : Nat} {A : Option Addr} {rows : List Row} (h : RowsRd w B A rows) (hb : Below B w w') : RowsRd w' B A rows := Rd.below h hb

theorem RowsRd.at_ {w : World} {B : Nat} {A : Option Addr} {rows : List Row} (h : RowsRd w B A rows) {k : Nat} {r : Row} (hk : rows[k]? = some r) :
    ∃ b off, A = some ⟨b, off, none⟩ ∧ b < B ∧ w.cell? ⟨b, off + k * 6, none⟩ = some (.int .i64 r.day) ∧ w.cell? ⟨b, off + k * 6 + 1, none⟩ = some (.int .i64 r.kind) ∧ w.cell? ⟨b, off + k * 6 + 2, none⟩ = some (.int .i64 r.frm) ∧
      w.cell? ⟨b, off + k * 6 + 3, none⟩ = some (.int .i64 r.to) ∧ w.cell? ⟨b, off + k * 6 + 4, none⟩ = some (.int .i64 r.amount) ∧ w.cell? ⟨b, off + k * 6 + 5, none⟩ = some (.int .i64 r.worth) := by
  obtain ⟨b, off, e, hb, hc⟩ := Rd.at_ Row.cells_len h hk
  refine ⟨b, off, e, hb, hc 0 _ rfl, ?_, ?_, ?_, ?_, ?_⟩
  · have := hc 1 _ rfl; rwa [← Nat.add_assoc] at this
  · have := hc 2 _ rfl; rwa [← Nat.add_assoc] at this
  · have := hc 3 _ rfl; rwa [← Nat.add_assoc] at this
  · have := hc 4 _ rfl; rwa [← Nat.add_assoc] at this
  · have := hc 5 _ rfl; rwa [← Nat.add_assoc] at this

end Go.Proofs.YtomfcmlomfcghaaGreatDoor

/- insolvencylaw0.Rows: some history of valid rows. -/
set_option linter.unusedVariables false
set_option linter.unusedSimpArgs false
namespace Go.Proofs.YtomfcmlomfcghaaGreatDoor
open Go.RowKit

structure W5 where
  a : Int
  b : Int
  c : Int
  d : Int
  e : Int
def W5.cells (r : W5) : List Value := [.int .u16 r.a, .int .u16 r.b, .int .u16 r.c, .int .u16 r.d, .int .u16 r.e]
theorem W5.cells_len (r : W5) : r.cells.length = 5 := rfl
def u16okZ (x : Int) : Prop := 0 ≤ x ∧ x ≤ 65535
def W5.ok (r : W5) : Prop := u16okZ r.a ∧ u16okZ r.b ∧ u16okZ r.c ∧ u16okZ r.d ∧ u16okZ r.e

def W5Rd (w : World) (B : Nat) (A : Option Addr) (l : List W5) : Prop := Rd w B 5 A l.length (l.flatMap W5.cells)

theorem W5Rd.at_ {w : World} {B : Nat} {A : Option Addr} {l : List W5} (h : W5Rd w B A l) {k : Nat} {r : W5} (hk : l[k]? = some r) :
    ∃ b off, A = some ⟨b, off, none⟩ ∧ b < B ∧ w.cell? ⟨b, off + k * 5, none⟩ = some (.int .u16 r.a) ∧ w.cell? ⟨b, off + k * 5 + 1, none⟩ = some (.int .u16 r.b) ∧ w.cell? ⟨b, off + k * 5 + 2, none⟩ = some (.int .u16 r.c) ∧
      w.cell? ⟨b, off + k * 5 + 3, none⟩ = some (.int .u16 r.d) ∧ w.cell? ⟨b, off + k * 5 + 4, none⟩ = some (.int .u16 r.e) := by
  obtain ⟨b, off, e, hb, hc⟩ := Rd.at_ W5.cells_len h hk
  refine ⟨b, off, e, hb, hc 0 _ rfl, ?_, ?_, ?_, ?_⟩
  · have := hc 1 _ rfl; rwa [← Nat.add_assoc] at this
  · have := hc 2 _ rfl; rwa [← Nat.add_assoc] at this
  · have := hc 3 _ rfl; rwa [← Nat.add_assoc] at this
  · have := hc 4 _ rfl; rwa [← Nat.add_assoc] at this

def Row.good (parties : Int) (d : Int) (r : Row) : Prop :=
  0 ≤ r.day ∧ r.day ≤ d ∧ 1 ≤ r.kind ∧ r.kind ≤ 3 ∧ 0 ≤ r.frm ∧ r.frm < parties ∧ 0 ≤ r.to ∧ r.to < parties ∧ r.frm ≠ r.to ∧ 0 ≤ r.amount ∧ r.amount < 40 ∧ 0 ≤ r.worth ∧ r.worth < 60 ∧ (r.kind ≠ 3 → r.worth = 0)

structure GoodRows (parties : Int) (d : Int) (rows : List Row) : Prop where
  good : ∀ r ∈ rows, r.good parties d
  mono : rows.Pairwise (fun a b => a.day ≤ b.day)

theorem GoodRows.nil (p d : Int) : GoodRows p d [] := ⟨by simp, List.Pairwise.nil⟩
theorem GoodRows.more {p d d' : Int} {rows : List Row} (h : GoodRows p d rows) (hd : d ≤ d') : GoodRows p d' rows :=
  ⟨fun r hr => by have := h.good r hr; unfold Row.good at *; omega, h.mono⟩
theorem own_rd {w : World} {B T : Nat} {A : Option Addr} {c : Nat} {rows : List Row} (h : w.ownsRow B T 6 (.slice A rows.length c) rows.length (rows.flatMap Row.cells)) : RowsRd w w.heap.size A rows := Rd.of_own h
theorem GoodRows.snoc {p d d' : Int} {rows : List Row} (h : GoodRows p d rows) (hd : d ≤ d') (r : Row) (hr : r.good p d') (hday : r.day = d') : GoodRows p d' (rows ++ [r]) := by
  refine ⟨?_, ?_⟩
  · intro x hx
    rcases List.mem_append.1 hx with hx | hx
    · have := h.good x hx
      unfold Row.good at *
      omega
    · simp at hx; subst hx; exact hr
  · refine List.pairwise_append.2 ⟨h.mono, by simp, ?_⟩
    intro a ha b hb
    simp at hb; subst hb
    have := (h.good a ha).2.1
    omega

theorem Tryz.info30 : (Tryz.prog.info? 94).map (fun i => (i.zero, i.size, i.bytes)) = some (some (.agg #[.int .i64 0, .int .i64 0, .int .i64 0, .int .i64 0, .int .i64 0, .int .i64 0]), 6, 48) := by kernel_rfl

theorem new_cells (w : World) (cs : List Value) (t : TypeId) (N : Nat) (hN : N = w.heap.size) : ∀ j u, cs[j]? = some u → (w.alloc (.cells cs.toArray t)).cell? ((⟨N, 0, none⟩ : Addr).add j) = some u := by
  intro j u hu
  subst hN
  rw [Addr.add_lit, cell_of_row _ _ _ cs.toArray t (0, 0) (heap_alloc_new w _)]
  simpa using hu

theorem worth_bd (x : Int) (h0 : 0 ≤ x) (h1 : x ≤ 65535) : 0 ≤ wrap64 ((IntKind.u16.wrap (x.tdiv 40)).tmod 60) ∧ wrap64 ((IntKind.u16.wrap (x.tdiv 40)).tmod 60) < 60 := by
  rw [IntWalk.u16_in _ (by rw [Int.tdiv_eq_ediv_of_nonneg h0]; omega), Int.tdiv_eq_ediv_of_nonneg h0, Int.tmod_eq_emod_of_nonneg (by omega), IntWalk.wrap64_in _ (by omega)]
  omega

theorem own_snoc {w1 : World} {B T : Nat} {v : Value} {rows : List Row} {a b c d e f : Int}
    (h : w1.ownsRow B T 6 v (rows.length + 1) (rows.flatMap Row.cells ++ [.int .i64 a, .int .i64 b, .int .i64 c, .int .i64 d, .int .i64 e, .int .i64 f])) :
    w1.ownsRow B T 6 v (rows ++ [(⟨a, b, c, d, e, f⟩ : Row)]).length ((rows ++ [(⟨a, b, c, d, e, f⟩ : Row)]).flatMap Row.cells) := by
  simpa [Row.cells] using h

set_option maxHeartbeats 4000000 in
set_option maxRecDepth 100000 in
theorem rows_calls (A : Option Addr) (c : Nat) (l : List W5) (parties most : Int) (w : World) (hp : 2 ≤ parties) (hp2 : parties ≤ 1000) (hm : 0 ≤ most) (hm2 : most ≤ 1000) (hn : l.length ≤ 9223372036854775807) (hr : W5Rd w w.heap.size A l) (hok : ∀ x ∈ l, x.ok) :
    Calls Tryz.prog 28 #[.slice A l.length c, .int .i64 parties, .int .i64 most] w fun e w' => ∃ A' c' rows, e = .returned (.slice A' rows.length c') ∧ RowsRd w' w'.heap.size A' rows ∧ (rows.length : Int) ≤ most ∧ GoodRows parties (5 * most) rows ∧ Below w.heap.size w w' := by
  obtain ⟨i0, hi, hz0, hz1, hz2⟩ := info_parts Tryz.info30
  have HR := Lib.hid hr
  clear hr
  have HO := Lib.hid hok
  clear hok
  go_enter Tryz.func28, Tryz.ntmps28
  go_wp2
  go_loopw [7, 8, 16] (fun o dd i wr => ∃ (k : Nat) (d : Int) (rows : List Row), k ≤ l.length ∧ i = .int .i64 k ∧ dd = .int .i64 d ∧ 0 ≤ d ∧ d ≤ 5 * rows.length ∧ (rows.length : Int) ≤ most ∧
      wr.ownsRow w.heap.size 94 6 o rows.length (rows.flatMap Row.cells) ∧ Hid (GoodRows parties d rows) ∧ Below w.heap.size w wr) (fun _ _ i _ => l.length - (intOf i).toNat)
  case atStart => exact ⟨0, 0, [], by omega, rfl, rfl, by omega, by simp, by simp; omega, World.ownsRow_nil _ _ _ _, GoodRows.nil _ _, Below.refl _ _⟩
  case round =>
    obtain ⟨k, d, rows, hk, rfl, rfl, hd0, hd1, hlen, hown, HG, hbel⟩ := hrel
    obtain ⟨A', c', hv, hrd, hle⟩ := own_shape hown
    subst hv
    by_cases hlt : k < l.length
    · obtain ⟨r, hrk⟩ := getElem?_of_lt hlt
      obtain ⟨⟨a0, a1⟩, ⟨b0, b1⟩, ⟨e0, e1⟩, ⟨d0, d1⟩, ⟨f0, f1⟩⟩ := HO.out r (List.mem_of_getElem? hrk)
      obtain ⟨b, off, rfl, hb, c0, c1, c2, c3, c4⟩ := W5Rd.at_ (Rd.below HR.out hbel) hrk
      have hbs : b < wr.heap.size := by have := hbel.size; omega
      clear hrk HR HO hrd
      by_cases hfull : most ≤ (rows.length : Int)
      · go_wp2
        go_ret
        exact ⟨A', c', rows, rfl, own_rd (hown.alloc _), hlen, HG.out.more (by omega), hbel.alloc hbel.size _⟩
      · have hfull' : (rows.length : Int) < most := by omega
        clear hfull
        have g0 := Int.emod_nonneg r.c (show parties ≠ 0 by omega)
        have g1 := Int.emod_lt_of_pos r.c (show 0 < parties by omega)
        have g2 := Int.emod_nonneg r.d (show parties - 1 ≠ 0 by omega)
        have g3 := Int.emod_lt_of_pos r.d (show 0 < parties - 1 by omega)
        go_wp2_with (at_builtin; refine wpList_append_own _ rfl (.tmp 72) (.tmp 74) _ rfl w.heap.size 94 i0 _ 6 48 Tryz.underlying57 hi hz0 hz1 hz2 rfl (by decide) _ _ _ rfl (by exact ((hown.alloc _).alloc _).alloc _) _ 1 1 _ rfl rfl (new_cells _ _ _ _ (by simp)) (by simp [Value.oneCell']) (by simp only [maxLen]; omega) (by omega) (by have := hbel.size; simp; omega) ?_)
        all_goals
          intro v' w1 hown' hg _
          have hb1 : Below w.heap.size w w1 := by
            refine Below.grown ?_ hg (by have := hbel.size; simp; omega) (fun q hq => (hown.lt q hq).1)
            exact ((hbel.alloc hbel.size _).alloc (by have := hbel.size; simp; omega) _).alloc (by have := hbel.size; simp; omega) _
          have h2 := own_snoc hown'
          clear hown' hg hown
          go_wp2
          go_roundw
          case measure => simp [intOf]; omega
          case rel =>
            simp only [beq_iff_eq, beq_eq_false_iff_ne] at *
            refine ⟨k + 1, _, _, by omega, by go_num, rfl, by omega, by rw [List.length_append, List.length_singleton]; omega, by rw [List.length_append, List.length_singleton]; omega, h2, HG.out.snoc (by omega) _ ?_ rfl, hb1⟩
            have hw := worth_bd r.e f0 f1
            unfold Row.good
            dsimp only
            omega
    · have hkk : k = l.length := by omega
      go_wp2
      go_ret
      exact ⟨A', c', rows, rfl, own_rd hown, hlen, HG.out.more (by omega), hbel⟩

end Go.Proofs.YtomfcmlomfcghaaGreatDoor

/- The contract of preference.Exposure and of the definition's Exposure. -/
set_option linter.unusedVariables false
set_option linter.unusedSimpArgs false
namespace Go.Proofs.YtomfcmlomfcghaaGreatDoor
open Go.RowKit

end Go.Proofs.YtomfcmlomfcghaaGreatDoor

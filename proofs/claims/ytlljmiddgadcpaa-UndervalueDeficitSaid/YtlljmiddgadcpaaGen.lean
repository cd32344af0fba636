/- insolvencylaw0.Rows: some history of valid rows. -/
import Derived.Test.YtlljmiddgadcpaaRow
import Derived.Test.YtlljmiddgadcpaaRows
set_option linter.unusedVariables false
set_option linter.unusedSimpArgs false
namespace Go.Proofs.Ytlljmiddgadcpaa
open Go.RowKit

structure W5 where
  a : Int
  b : Int
  c : Int
  d : Int
  e : Int
def W5.cells (r : W5) : List Value := [.int .u16 r.a, .int .u16 r.b, .int .u16 r.c, .int .u16 r.d, .int .u16 r.e]
theorem W5.cells_len (r : W5) : r.cells.length = 5 := rfl
def u16ok (x : Int) : Prop := 0 ≤ x ∧ x ≤ 65535
def W5.ok (r : W5) : Prop := u16ok r.a ∧ u16ok r.b ∧ u16ok r.c ∧ u16ok r.d ∧ u16ok r.e

def W5Rd (w : World) (B : Nat) (A : Option Addr) (l : List W5) : Prop := Rd w B 5 A l.length (l.flatMap W5.cells)

theorem W5Rd.at_ {w : World} {B : Nat} {A : Option Addr} {l : List W5} (h : W5Rd w B A l) {k : Nat} {r : W5} (hk : l[k]? = some r) :
    ∃ b off, A = some ⟨b, off, none⟩ ∧ b < B ∧ w.cell? ⟨b, off + k * 5, none⟩ = some (.int .u16 r.a) ∧ w.cell? ⟨b, off + k * 5 + 1, none⟩ = some (.int .u16 r.b) ∧ w.cell? ⟨b, off + k * 5 + 2, none⟩ = some (.int .u16 r.c) ∧
      w.cell? ⟨b, off + k * 5 + 3, none⟩ = some (.int .u16 r.d) ∧ w.cell? ⟨b, off + k * 5 + 4, none⟩ = some (.int .u16 r.e) := by
  obtain ⟨b, off, e, hb, hc⟩ := Rd.at_ W5.cells_len h hk
  refine ⟨b, off, e, hb, hc 0 _ rfl, ?_, ?_, ?_, ?_⟩
  · have := hc 1 _ rfl; rwa [← Nat.add_assoc] at this
  · have := hc 2 _ rfl; rwa [← Nat.add_assoc] at this
  · have := hc 3 _ rfl; rwa [← Nat.add_assoc] at this
  · have := hc 4 _ rfl; rwa [← Nat.add_assoc] at this

def Row.good (parties : Int) (d : Int) (r : Row) : Prop :=
  0 ≤ r.day ∧ r.day ≤ d ∧ 1 ≤ r.kind ∧ r.kind ≤ 3 ∧ 0 ≤ r.frm ∧ r.frm < parties ∧ 0 ≤ r.to ∧ r.to < parties ∧ r.frm ≠ r.to ∧ 0 ≤ r.amount ∧ r.amount < 40 ∧ 0 ≤ r.worth ∧ r.worth < 60 ∧ (r.kind ≠ 3 → r.worth = 0)

structure GoodRows (parties : Int) (d : Int) (rows : List Row) : Prop where
  good : ∀ r ∈ rows, r.good parties d
  mono : rows.Pairwise (fun a b => a.day ≤ b.day)

theorem GoodRows.nil (p d : Int) : GoodRows p d [] := ⟨by simp, List.Pairwise.nil⟩
theorem GoodRows.more {p d d' : Int} {rows : List Row} (h : GoodRows p d rows) (hd : d ≤ d') : GoodRows p d' rows :=
  ⟨fun r hr => by have := h.good r hr; unfold Row.good at *; omega, h.mono⟩
theorem own_rd {w : World} {B T : Nat} {A : Option Addr} {c : Nat} {rows : List Row} (h : w.ownsRow B T 6 (.slice A rows.length c) rows.length (rows.flatMap Row.cells)) : RowsRd w w.heap.size A rows := Rd.of_own h
theorem GoodRows.snoc {p d d' : Int} {rows : List Row} (h : GoodRows p d rows) (hd : d ≤ d') (r : Row) (hr : r.good p d') (hday : r.day = d') : GoodRows p d' (rows ++ [r]) := by
  refine ⟨?_, ?_⟩
  · intro x hx
    rcases List.mem_append.1 hx with hx | hx
    · have := h.good x hx
      unfold Row.good at *
      omega
    · simp at hx; subst hx; exact hr
  · refine List.pairwise_append.2 ⟨h.mono, by simp, ?_⟩
    intro a ha b hb
    simp at hb; subst hb
    have := (h.good a ha).2.1
    omega

theorem Try.info30 : (Try.prog.info? 23).map (fun i => (i.zero, i.size, i.bytes)) = some (some (.agg #[.int .i64 0, .int .i64 0, .int .i64 0, .int .i64 0, .int .i64 0, .int .i64 0]), 6, 48) := by kernel_rfl

theorem new_cells (w : World) (cs : List Value) (t : TypeId) (N : Nat) (hN : N = w.heap.size) : ∀ j u, cs[j]? = some u → (w.alloc (.cells cs.toArray t)).cell? ((⟨N, 0, none⟩ : Addr).add j) = some u := by
  intro j u hu
  subst hN
  rw [Addr.add_lit, cell_of_row _ _ _ cs.toArray t (0, 0) (heap_alloc_new w _)]
  simpa using hu

theorem worth_bd (x : Int) (h0 : 0 ≤ x) (h1 : x ≤ 65535) : 0 ≤ wrap64 ((IntKind.u16.wrap (x.tdiv 40)).tmod 60) ∧ wrap64 ((IntKind.u16.wrap (x.tdiv 40)).tmod 60) < 60 := by
  rw [IntWalk.u16_in _ (by rw [Int.tdiv_eq_ediv_of_nonneg h0]; omega), Int.tdiv_eq_ediv_of_nonneg h0, Int.tmod_eq_emod_of_nonneg (by omega), IntWalk.wrap64_in _ (by omega)]
  omega

theorem own_snoc {w1 : World} {B T : Nat} {v : Value} {rows : List Row} {a b c d e f : Int}
    (h : w1.ownsRow B T 6 v (rows.length + 1) (rows.flatMap Row.cells ++ [.int .i64 a, .int .i64 b, .int .i64 c, .int .i64 d, .int .i64 e, .int .i64 f])) :
    w1.ownsRow B T 6 v (rows ++ [(⟨a, b, c, d, e, f⟩ : Row)]).length ((rows ++ [(⟨a, b, c, d, e, f⟩ : Row)]).flatMap Row.cells) := by
  simpa [Row.cells] using h

end Go.Proofs.Ytlljmiddgadcpaa

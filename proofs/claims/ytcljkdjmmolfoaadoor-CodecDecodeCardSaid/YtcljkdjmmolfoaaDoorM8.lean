/- Merged of Var Writer WriteT WriteR WriteN. -/
import Derived.Test.YtcljkdjmmolfoaaDoorM3
import Derived.Deep.DeepCutAuto
import Derived.Lib.AppendStr
import Derived.Test.YtcljkdjmmolfoaaDoorM2
/- Numbers as the codec writes them: plain laws; a writer in memory. -/
set_option linter.unusedVariables false
set_option linter.unusedSimpArgs false
namespace Go.Proofs.YtcljkdjmmolfoaaDoor
open Go.RowKit

def vint (n : Nat) : List Nat := if n < 128 then [n] else (n % 128 + 128) :: vint (n / 128)
termination_by n
decreasing_by omega
theorem vint_small {n : Nat} (h : n < 128) : vint n = [n] := by rw [vint, if_pos h]
theorem vint_big {n : Nat} (h : ¬ n < 128) : vint n = (n % 128 + 128) :: vint (n / 128) := by rw [vint, if_neg h]
theorem vint_len (n : Nat) : ∀ k, n < 128 ^ k → (vint n).length ≤ k + 1 := by
  induction n using Nat.strongRecOn with
  | ind n ih =>
    intro k hk
    by_cases h : n < 128
    · rw [vint_small h]; simp
    · rw [vint_big h]
      cases k with
      | zero => simp at hk; omega
      | succ k =>
        have := ih (n / 128) (by omega) k (by rw [Nat.pow_succ] at hk; omega)
        simp; omega
theorem vint_len10 {n : Nat} (h : n < 18446744073709551616) : (vint n).length ≤ 11 := vint_len n 10 (Nat.lt_of_lt_of_le h (by decide))
theorem vint_pos (n : Nat) : 0 < (vint n).length := by
  by_cases h : n < 128
  · rw [vint_small h]; simp
  · rw [vint_big h]; simp
theorem vint_byt (n : Nat) : Byt (vint n) := by
  induction n using Nat.strongRecOn with
  | ind n ih =>
    by_cases h : n < 128
    · rw [vint_small h]; intro x hx; simp at hx; omega
    · rw [vint_big h]
      intro x hx
      rcases List.mem_cons.1 hx with rfl | hx
      · omega
      · exact ih (n / 128) (by omega) x hx

/-- a signed number without a sign -/
def zig (z : Int) : Nat := if z < 0 then (-2 * z - 1).toNat else (2 * z).toNat
/-- the range of numbers -/
def rngN (z : Int) : Bool := decide (-1125899906842624 ≤ z) && decide (z ≤ 1125899906842624)

theorem or128 (x : Nat) (h : x < 256) : bits .or .u8 (x : Int) 128 = ((x % 128 + 128 : Nat) : Int) := by
  have h1 := bits_or .u8 8 rfl rfl x 128 (by omega) (by omega)
  have h2 : ∀ y : Fin 256, y.val ||| 128 = y.val % 128 + 128 := by decide +kernel
  rw [show ((128 : Nat) : Int) = 128 from rfl] at h1
  rw [h1, h2 ⟨x, h⟩]

def u8s (l : List Nat) : List Value := l.map fun (x : Nat) => Value.int .u8 (x : Int)
theorem u8s_append (a b : List Nat) : u8s (a ++ b) = u8s a ++ u8s b := List.map_append
theorem u8s_len (a : List Nat) : (u8s a).length = a.length := List.length_map _

/-- a writer in block g, its bytes and its mark; what it owns lies from block B on -/
def Wr (B g : Nat) (bs : List Nat) (ok : Bool) (W : World) : Prop :=
  ∃ v, W.heap[g]? = some (.cells #[v, .bool ok] 101 (0, 0)) ∧ W.ownsRow B 5 1 v bs.length (u8s bs) ∧ B ≤ g

/-- every block of cells other than g that holds no bytes is as it was -/
def KeepT (g : Nat) (W W' : World) : Prop := ∀ q cur T f, W.heap[q]? = some (.cells cur T f) → T ≠ 5 → q ≠ g → W'.heap[q]? = some (.cells cur T f)
theorem KeepT.refl (g : Nat) (W : World) : KeepT g W W := fun _ _ _ _ h _ _ => h
theorem KeepT.trans {g : Nat} {W W' W'' : World} (h : KeepT g W W') (h2 : KeepT g W' W'') : KeepT g W W'' := fun q c T f a b d => h2 q c T f (h q c T f a b d) b d
theorem KeepT.setCell {g j : Nat} {W W' : World} {u : Value} (h : KeepT g W W') : KeepT g W (W'.setCell ⟨g, j, none⟩ u) := fun q c T f a b d => by
  rw [heap_setCell_other W' ⟨g, j, none⟩ q u d]; exact h q c T f a b d
theorem KeepT.alloc {g : Nat} {W W' : World} (h : KeepT g W W') (o : Obj) : KeepT g W (W'.alloc o) := fun q c T f a b d => by
  have h1 := h q c T f a b d
  exact (Below.heap_alloc W' o q (Array.getElem?_eq_some_iff.1 h1).1).trans h1
theorem KeepT.below {g : Nat} {W W' W'' : World} (h : KeepT g W W') (hb : Below W'.heap.size W' W'') : KeepT g W W'' := fun q c T f a b d => by
  have h1 := h q c T f a b d
  exact (hb.block q (Array.getElem?_eq_some_iff.1 h1).1).trans h1
theorem KeepT.grown {g : Nat} {W W' W'' : World} {v : Value} {n : Nat} {B : Nat} {xs : List Value} (h : KeepT g W W') (ho : W'.ownsRow B 5 1 v n xs) (hg : W'.grownBy W'' v.ownBlock) : KeepT g W W'' := fun q c T f a b d => by
  have h1 := h q c T f a b d
  refine (hg.block q (Array.getElem?_eq_some_iff.1 h1).1 fun e => ?_).trans h1
  rcases ho.2 with ⟨rfl, _⟩ | ⟨g', cap, cur, rfl, _, hgg, _⟩
  · simp [Value.ownBlock] at e
  · simp only [Value.ownBlock, Option.some.injEq] at e
    subst e
    rw [h1] at hgg
    simp only [Option.some.injEq, Obj.cells.injEq] at hgg
    exact b hgg.2.1

theorem own_other {W : World} {B n g j : Nat} {v u : Value} {xs : List Value} {T : TypeId} {c : Array Value} {f : Nat × Nat} (h : W.ownsRow B 5 1 v n xs) (hg : W.heap[g]? = some (.cells c T f)) (hT : T ≠ 5) : (W.setCell ⟨g, j, none⟩ u).ownsRow B 5 1 v n xs := by
  refine ⟨h.1, ?_⟩
  rcases h.2 with h' | ⟨g', cap, cur, e, hb, hgg, r⟩
  · exact .inl h'
  · refine .inr ⟨g', cap, cur, e, hb, ?_, r⟩
    rw [heap_setCell_other W ⟨g, j, none⟩ g' u ?_]
    · exact hgg
    · rintro rfl
      rw [hg] at hgg
      simp only [Option.some.injEq, Obj.cells.injEq] at hgg
      exact hT hgg.2.1

theorem own_tne {W : World} {B n g : Nat} {v : Value} {xs : List Value} {T : TypeId} {c : Array Value} {f : Nat × Nat} (h : W.ownsRow B 5 1 v n xs) (hg : W.heap[g]? = some (.cells c T f)) (hT : T ≠ 5) : some g ≠ v.ownBlock := by
  intro e
  rcases h.2 with ⟨rfl, _⟩ | ⟨g', cap, cur, rfl, _, hgg, _⟩
  · simp [Value.ownBlock] at e
  · simp only [Value.ownBlock, Option.some.injEq] at e
    subst e
    rw [hg] at hgg
    simp only [Option.some.injEq, Obj.cells.injEq] at hgg
    exact hT hgg.2.1

theorem own_below {w w' : World} {base e size n : Nat} {v : Value} {xs : List Value} (h : w.ownsRow base e size v n xs) (hb : Below w.heap.size w w') : w'.ownsRow base e size v n xs := by
  refine ⟨h.1, ?_⟩
  rcases h.2 with hn | ⟨g, cap, cur, rfl, hb2, hgg, rest⟩
  · exact .inl hn
  · refine .inr ⟨g, cap, cur, rfl, hb2, ?_, rest⟩
    rw [hb.block g (Array.getElem?_eq_some_iff.1 hgg).1]; exact hgg

theorem Wr.next {B g : Nat} {bs : List Nat} {ok : Bool} {W W' : World} (h : Wr B g bs ok W) (hb : Below W.heap.size W W') : Wr B g bs ok W' := by
  obtain ⟨v, hg, ho, hBg⟩ := h
  exact ⟨v, (hb.block g (Array.getElem?_eq_some_iff.1 hg).1).trans hg, own_below ho hb, hBg⟩
theorem Wr.setOk {B g : Nat} {bs : List Nat} {ok ok' : Bool} {W : World} (h : Wr B g bs ok W) : Wr B g bs ok' (W.setCell ⟨g, 1, none⟩ (.bool ok')) := by
  obtain ⟨v, hg, ho, hBg⟩ := h
  exact ⟨v, heap_setCell_same W g 1 _ _ _ hg, own_other ho hg (by decide), hBg⟩
theorem Wr.lt {B g : Nat} {bs : List Nat} {ok : Bool} {W : World} (h : Wr B g bs ok W) : g < W.heap.size := by
  obtain ⟨v, hg, _⟩ := h
  exact (Array.getElem?_eq_some_iff.1 hg).1
theorem Wr.ge {B g : Nat} {bs : List Nat} {ok : Bool} {W : World} (h : Wr B g bs ok W) : B ≤ g := by
  obtain ⟨v, hg, ho, hBg⟩ := h
  exact hBg
/-- what the walk needs of a writer -/
theorem Wr.open_ {B g : Nat} {bs : List Nat} {ok : Bool} {W : World} (h : Wr B g bs ok W) : ∃ A c, W.cell? ⟨g, 0, none⟩ = some (.slice A bs.length c) ∧ W.cell? ⟨g, 1, none⟩ = some (.bool ok) ∧ W.frozen? ⟨g, 0, none⟩ = false ∧ W.frozen? ⟨g, 1, none⟩ = false ∧
    W.heap[g]? = some (.cells #[.slice A bs.length c, .bool ok] 101 (0, 0)) ∧ W.ownsRow B 5 1 (.slice A bs.length c) bs.length (u8s bs) := by
  obtain ⟨v, hg, ho, hBg⟩ := h
  obtain ⟨A, c, rfl, _, _⟩ := own_shape ho
  refine ⟨A, c, ?_, ?_, frozen_of_row W g 0 _ _ hg, frozen_of_row W g 1 _ _ hg, hg, ho⟩
  · rw [cell_of_row W g 0 _ _ (0, 0) hg]; rfl
  · rw [cell_of_row W g 1 _ _ (0, 0) hg]; rfl
/-- behind an append: the writer's slice is stored back -/
theorem Wr.grow {B g : Nat} {bs : List Nat} {ok : Bool} {W W' : World} {v v' : Value} {n : Nat} {ys : List Value} (hg : W.heap[g]? = some (.cells #[v, .bool ok] 101 (0, 0))) (ho : W.ownsRow B 5 1 v n ys) (hBg : B ≤ g) (hgr : W.grownBy W' v.ownBlock) (h2 : W'.ownsRow B 5 1 v' bs.length (u8s bs)) :
    Wr B g bs ok (W'.setCell ⟨g, 0, none⟩ v') := by
  have h1 : W'.heap[g]? = some (.cells #[v, .bool ok] 101 (0, 0)) := by
    refine (hgr.block g (Array.getElem?_eq_some_iff.1 hg).1 fun e => ?_).trans hg
    rcases ho.2 with ⟨rfl, _⟩ | ⟨g', cap, cur, rfl, _, hgg, _⟩
    · simp [Value.ownBlock] at e
    · simp only [Value.ownBlock, Option.some.injEq] at e
      subst e
      rw [hg] at hgg
      simp only [Option.some.injEq, Obj.cells.injEq] at hgg
      exact absurd hgg.2.1 (by decide)
  exact ⟨v', heap_setCell_same W' g 0 _ _ _ h1, own_other h2 h1 (by decide), hBg⟩

end Go.Proofs.YtcljkdjmmolfoaaDoor

/- codec: (*writer).number. -/
set_option linter.unusedVariables false
set_option linter.unusedSimpArgs false
namespace Go.Proofs.YtcljkdjmmolfoaaDoor
open Go.RowKit

def WrPost (B g : Nat) (bs : List Nat) (ok : Bool) (w : World) (e : Ending) (w' : World) : Prop :=
  e = .returned (.tuple #[]) ∧ Wr B g bs ok w' ∧ Below B w w' ∧ KeepT g w w'

theorem zig_lt {n : Int} (h1 : -9223372036854775808 ≤ n) (h2 : n ≤ 9223372036854775807) : zig n < 18446744073709551616 := by
  unfold zig; split <;> omega

set_option maxHeartbeats 4000000 in
set_option maxRecDepth 100000 in
theorem number_calls (B g : Nat) (bs : List Nat) (ok : Bool) (n : Int) (w : World) (hW : Wr B g bs ok w) (hB : B ≤ w.heap.size) (hl : bs.length ≤ 1000000) (h1 : -9223372036854775808 ≤ n) (h2 : n ≤ 9223372036854775807) (ok' : Bool) (hok : ok' = (ok && rngN n)) :
    Calls Tryd.prog 46 #[.pointer (some ⟨g, 0, none⟩), .int .i64 n] w (WrPost B g (bs ++ vint (zig n)) ok' w) := by
  obtain ⟨i0, hi, hz0, hz1, hz2⟩ := info_parts Tryd.info_u8
  have HI0 : Hid (Tryd.prog.info? 5 = some i0 ∧ i0.zero = some (.int .u8 0) ∧ i0.size = 1 ∧ i0.bytes = 1) := ⟨hi, hz0, hz1, hz2⟩
  clear hi hz0 hz1 hz2
  have HW := Lib.hid hW
  have hgl := hW.lt
  obtain ⟨v, hg, hown, hBg⟩ := hW
  have c0 : w.cell? ⟨g, 0, none⟩ = some v := by rw [cell_of_row w g 0 _ _ (0, 0) hg]; rfl
  have c1 : w.cell? ⟨g, 1, none⟩ = some (.bool ok) := by rw [cell_of_row w g 1 _ _ (0, 0) hg]; rfl
  have f0 := frozen_of_row w g 0 _ _ hg
  have f1 := frozen_of_row w g 1 _ _ hg
  obtain ⟨u, hu⟩ : ∃ u, u = zig n := ⟨_, rfl⟩
  have hub : u < 18446744073709551616 := by rw [hu]; exact zig_lt h1 h2
  have HU : Hid ((n < 0 → (u : Int) = -2 * n - 1) ∧ (¬ n < 0 → (u : Int) = 2 * n)) := by
    rw [hu]; unfold zig
    refine ⟨fun h => ?_, fun h => ?_⟩
    · rw [if_pos h]; omega
    · rw [if_neg h]; omega
  rw [← hu]
  clear hu
  have HG := Lib.hid hg
  have HOWN := Lib.hid hown
  have HOK := Lib.hid hok
  clear hg hown hok
  go_enter Tryd.func46, Tryd.ntmps46
  go_upto_region 0 with fail
  go_cut [] (fun wx => wx = w.setCell ⟨g, 1, none⟩ (.bool ok'))
  case first =>
    have hr : rngN n = (decide (-1125899906842624 ≤ n) && decide (n ≤ 1125899906842624)) := rfl
    cases ok
    · obtain rfl : ok' = false := by rw [HOK.out]; rfl
      clear hr
      go_wp2_with fail
      go_meet
      rfl
    · by_cases ha : -1125899906842624 ≤ n
      · have t1 : decide (-1125899906842624 ≤ n) = true := decide_eq_true ha
        by_cases hb : n ≤ 1125899906842624
        · have t2 : decide (n ≤ 1125899906842624) = true := decide_eq_true hb
          obtain rfl : ok' = true := by rw [HOK.out, hr, t1, t2]; rfl
          clear hr
          go_wp2_with fail
          go_meet
          rfl
        · have t2 : decide (n ≤ 1125899906842624) = false := decide_eq_false hb
          obtain rfl : ok' = false := by rw [HOK.out, hr, t1, t2]; rfl
          clear hr
          go_wp2_with fail
          go_meet
          rfl
      · have t1 : decide (-1125899906842624 ≤ n) = false := decide_eq_false ha
        obtain rfl : ok' = false := by rw [HOK.out, hr, t1]; rfl
        clear hr
        go_wp2_with fail
        go_meet
        rfl
  case rest =>
    have HW1 : Hid (Wr B g bs ok' wc) := by rw [hcut]; exact HW.out.setOk
    have HB1 : Hid (Below B w wc) := by rw [hcut]; exact (Below.refl _ _).setCell hBg _
    have HK1 : Hid (KeepT g w wc) := by rw [hcut]; exact (KeepT.refl _ _).setCell
    clear hcut HW HG HOWN HOK c0 c1 f0 f1
    go_upto_if 24 with fail
    go_cut [4] (fun s4 wx => s4 = .int .u64 (u : Int) ∧ wc = wx)
    case first =>
      by_cases hn : n < 0
      · have hd : decide (n < 0) = true := decide_eq_true hn
        have hw1 : IntKind.u64.wrap (wrap64 (wrap64 (-2 * n) - 1)) = (u : Int) := by rw [IntKind.wrap_u64]; unfold wrap64; have := HU.out.1 hn; omega
        go_wp2_with fail
        go_meet
        exact ⟨rfl, rfl⟩
      · have hd : decide (n < 0) = false := decide_eq_false hn
        have hw1 : IntKind.u64.wrap (wrap64 (2 * n)) = (u : Int) := by rw [IntKind.wrap_u64]; unfold wrap64; have := HU.out.2 hn; omega
        go_wp2_with fail
        go_meet
        exact ⟨by first | rfl | rw [hw1], rfl⟩
    case rest =>
      obtain ⟨rfl, rfl⟩ := hcut
      clear h1 h2 HU
      go_wp2_with fail
      go_loopw [4] (fun s4 wr => ∃ (x : Nat) (cs : List Nat), s4 = .int .u64 (x : Int) ∧ x < 18446744073709551616 ∧ Hid (Wr B g cs ok' wr) ∧ Hid (cs ++ vint x = bs ++ vint u) ∧ cs.length ≤ 1000011 ∧ Hid (Below B w wr) ∧ Hid (KeepT g w wr)) (fun s4 _ => (intOf s4).toNat)
      case atStart => exact ⟨u, bs, rfl, hub, HW1, rfl, by omega, HB1, HK1⟩
      case round =>
        obtain ⟨x, cs, rfl, hx, HWR, HE, hcl, HB, HK⟩ := hrel
        obtain ⟨A, c, c0, c1, f0, f1, hg, hown⟩ := HWR.out.open_
        have hbs : B ≤ wr.heap.size := Nat.le_trans hB HB.out.size
        by_cases hlt : x < 128
        · have hd : decide ((128 : Int) ≤ (x : Int)) = false := decide_eq_false (by omega)
          have hm : (x : Int) % 256 = (x : Int) := by omega
          go_wp2_with (at_builtin; refine wpList_append_own _ rfl (.tmp 49) (.tmp 52) 22 rfl B 5 i0 (.int .u8 0) 1 1 Tryd.underlying22 HI0.out.1 HI0.out.2.1 HI0.out.2.2.1 HI0.out.2.2.2 rfl (by decide) _ _ _ rfl (by exact hown.alloc _) _ 1 1 _ rfl rfl (rd_new_cells _ _ _ _ (by simp)) (by simp [Value.oneCell']) (by simp only [maxLen]; omega) (by omega) (by simp <;> omega) ?_)
          intro v' w3 hown' hg3 _
          have h2 : w3.ownsRow B 5 1 v' (cs ++ [x]).length (u8s (cs ++ [x])) := by
            have e : (cs ++ [x]).length = cs.length + 1 := by simp
            rw [e, u8s_append]
            exact hown'
          obtain ⟨A', c', hv', _, _⟩ := own_shape h2
          subst hv'
          have hgA : (wr.alloc (.cells #[.int .u8 (x : Int)] 5)).heap[g]? = some (.cells #[.slice A cs.length c, .bool ok'] 101 (0, 0)) :=
            (Below.heap_alloc wr _ g (Array.getElem?_eq_some_iff.1 hg).1).trans hg
          have HWN : Hid (Wr B g (cs ++ [x]) ok' (w3.setCell ⟨g, 0, none⟩ (.slice A' (cs ++ [x]).length c'))) := Wr.grow (bs := cs ++ [x]) hgA (hown.alloc _) HWR.out.ge hg3 h2
          have hg4 : w3.heap[g]? = some (.cells #[.slice A cs.length c, .bool ok'] 101 (0, 0)) := by
            refine (hg3.block g (Array.getElem?_eq_some_iff.1 hgA).1 fun e => ?_).trans hgA
            exact own_tne (hown.alloc _) hgA (by decide) e
          have d0 : w3.cell? ⟨g, 0, none⟩ = some (.slice A cs.length c) := by rw [cell_of_row w3 g 0 _ _ (0, 0) hg4]; rfl
          have e0 := frozen_of_row w3 g 0 _ _ hg4
          have HBN : Hid (Below B w (w3.setCell ⟨g, 0, none⟩ (.slice A' (cs ++ [x]).length c'))) := (Below.grown (HB.out.alloc hbs (.cells #[.int .u8 (x : Int)] 5)) hg3 (by simp <;> omega) (fun q hq => (hown.lt q hq).1)).setCell HWR.out.ge _
          have HKN : Hid (KeepT g w (w3.setCell ⟨g, 0, none⟩ (.slice A' (cs ++ [x]).length c'))) := ((HK.out.alloc _).grown (hown.alloc _) hg3).setCell
          have el : (cs ++ [x]).length = cs.length + 1 := by simp
          rw [el] at HWN HBN HKN
          clear el
          clear hown' h2 hgA hg3 hown hg hg4 HB HK HWR c0 c1 f0 f1

          have HEN : Hid (cs ++ [x] = bs ++ vint u) := by have := HE.out; rwa [vint_small hlt] at this
          go_wp2_with fail
          go_end0
          refine ⟨rfl, ?_, HBN.out, HKN.out⟩
          rw [← HEN.out]; exact HWN.out
        · have hd : decide ((128 : Int) ≤ (x : Int)) = true := decide_eq_true (by omega)
          obtain ⟨y, hy⟩ : ∃ y, y = x % 256 := ⟨_, rfl⟩
          have hm : (x : Int) % 256 = (y : Int) := by omega
          obtain ⟨d, hdd⟩ : ∃ d, d = x % 128 + 128 := ⟨_, rfl⟩
          have hor : bits .or .u8 (y : Int) 128 = (d : Int) := by rw [or128 y (by omega), hdd, hy]; congr 1; omega
          obtain ⟨z, hz⟩ : ∃ z, z = x / 128 := ⟨_, rfl⟩
          have hsh : (x : Int) / 128 = (z : Int) := by omega
          have HEN : Hid ((cs ++ [d]) ++ vint z = bs ++ vint u) := by have := HE.out; rw [vint_big hlt, ← hdd, ← hz] at this; rw [List.append_assoc]; exact this
          have hzl : z < x := by omega
          clear hy hdd hz
          go_wp2_with (at_builtin; refine wpList_append_own _ rfl (.tmp 35) (.tmp 39) 22 rfl B 5 i0 (.int .u8 0) 1 1 Tryd.underlying22 HI0.out.1 HI0.out.2.1 HI0.out.2.2.1 HI0.out.2.2.2 rfl (by decide) _ _ _ rfl (by exact hown.alloc _) _ 1 1 _ rfl rfl (rd_new_cells _ _ _ _ (by simp)) (by simp [Value.oneCell']) (by simp only [maxLen]; omega) (by omega) (by simp <;> omega) ?_)
          intro v' w3 hown' hg3 _
          have h2 : w3.ownsRow B 5 1 v' (cs ++ [d]).length (u8s (cs ++ [d])) := by
            have e : (cs ++ [d]).length = cs.length + 1 := by simp
            rw [e, u8s_append]
            exact hown'
          obtain ⟨A', c', hv', _, _⟩ := own_shape h2
          subst hv'
          have hgA : (wr.alloc (.cells #[.int .u8 (d : Int)] 5)).heap[g]? = some (.cells #[.slice A cs.length c, .bool ok'] 101 (0, 0)) :=
            (Below.heap_alloc wr _ g (Array.getElem?_eq_some_iff.1 hg).1).trans hg
          have HWN : Hid (Wr B g (cs ++ [d]) ok' (w3.setCell ⟨g, 0, none⟩ (.slice A' (cs ++ [d]).length c'))) := Wr.grow (bs := cs ++ [d]) hgA (hown.alloc _) HWR.out.ge hg3 h2
          have hg4 : w3.heap[g]? = some (.cells #[.slice A cs.length c, .bool ok'] 101 (0, 0)) := by
            refine (hg3.block g (Array.getElem?_eq_some_iff.1 hgA).1 fun e => ?_).trans hgA
            exact own_tne (hown.alloc _) hgA (by decide) e
          have d0 : w3.cell? ⟨g, 0, none⟩ = some (.slice A cs.length c) := by rw [cell_of_row w3 g 0 _ _ (0, 0) hg4]; rfl
          have e0 := frozen_of_row w3 g 0 _ _ hg4
          have HBN : Hid (Below B w (w3.setCell ⟨g, 0, none⟩ (.slice A' (cs ++ [d]).length c'))) := (Below.grown (HB.out.alloc hbs (.cells #[.int .u8 (d : Int)] 5)) hg3 (by simp <;> omega) (fun q hq => (hown.lt q hq).1)).setCell HWR.out.ge _
          have HKN : Hid (KeepT g w (w3.setCell ⟨g, 0, none⟩ (.slice A' (cs ++ [d]).length c'))) := ((HK.out.alloc _).grown (hown.alloc _) hg3).setCell
          have el : (cs ++ [d]).length = cs.length + 1 := by simp
          rw [el] at HWN HBN HKN
          clear el
          clear hown' h2 hgA hg3 hown hg hg4 HB HK HWR c0 c1 f0 f1

          go_wp2_with fail
          go_roundw
          case measure => simp [intOf]; omega
          case rel => exact ⟨z, cs ++ [d], rfl, by omega, HWN, HEN, by have := congrArg List.length HEN.out; have := vint_len10 hub; have := vint_pos z; simp at *; omega, HBN, HKN⟩

end Go.Proofs.YtcljkdjmmolfoaaDoor

/- codec: the writer's functions on a text that is told while all is valid: number, text. -/
set_option linter.unusedVariables false
set_option linter.unusedSimpArgs false
namespace Go.Proofs.YtcljkdjmmolfoaaDoor
open Go.RowKit

/-- a writer whose bytes are T while its mark is true -/
def WrT (B g : Nat) (T : List Nat) (ok : Bool) (n : Nat) (W : World) : Prop := ∃ bs, Wr B g bs ok W ∧ bs.length ≤ n ∧ (ok = true → bs = T)
theorem WrT.next {B g n : Nat} {T : List Nat} {ok : Bool} {W W' : World} (h : WrT B g T ok n W) (hb : Below W.heap.size W W') : WrT B g T ok n W' := by
  obtain ⟨bs, h1, h2, h3⟩ := h
  exact ⟨bs, h1.next hb, h2, h3⟩
theorem WrT.lt {B g n : Nat} {T : List Nat} {ok : Bool} {W : World} (h : WrT B g T ok n W) : g < W.heap.size := by
  obtain ⟨bs, h1, _⟩ := h
  exact h1.lt
theorem WrT.ge {B g n : Nat} {T : List Nat} {ok : Bool} {W : World} (h : WrT B g T ok n W) : B ≤ g := by
  obtain ⟨bs, h1, _⟩ := h
  exact h1.ge
/-- what the writer's functions leave -/
def WPost (B g : Nat) (T : List Nat) (ok : Bool) (n : Nat) (w : World) (e : Ending) (w' : World) : Prop :=
  e = .returned (.tuple #[]) ∧ WrT B g T ok n w' ∧ Below B w w' ∧ KeepT g w w'

theorem numberT (B g n : Nat) (T : List Nat) (ok : Bool) (z : Int) (w : World) (hW : WrT B g T ok n w) (hB : B ≤ w.heap.size) (hn : n ≤ 900000) (h1 : -9223372036854775808 ≤ z) (h2 : z ≤ 9223372036854775807) (ok' : Bool) (hok : ok' = (ok && rngN z)) (T' : List Nat) (hT : T' = T ++ vint (zig z)) :
    Calls Tryd.prog 46 #[.pointer (some ⟨g, 0, none⟩), .int .i64 z] w (WPost B g T' ok' (n + 11) w) := by
  obtain ⟨bs, h3, h4, h5⟩ := hW
  refine (number_calls B g bs ok z w h3 hB (by omega) h1 h2 ok' hok).mono ?_
  rintro e w' ⟨he, hw, hb, hk⟩
  refine ⟨he, ⟨_, hw, ?_, fun h => ?_⟩, hb, hk⟩
  · have := vint_len10 (zig_lt h1 h2); simp; omega
  · rw [hok] at h
    have : ok = true := by cases ok <;> simp_all
    rw [h5 this, hT]

def byts (s : ByteArray) : List Nat := s.data.toList.map UInt8.toNat
theorem byts_len (s : ByteArray) : (byts s).length = s.size := by rw [byts, List.length_map, Lib.size_eq]
theorem strCells_u8s (s : ByteArray) : Lib.strCells s = u8s (byts s) := by
  unfold Lib.strCells u8s byts
  rw [List.map_map]; rfl
def txt (s : ByteArray) : List Nat := vint (zig s.size) ++ byts s

set_option maxHeartbeats 4000000 in
set_option maxRecDepth 100000 in
theorem textT (B g n : Nat) (T : List Nat) (ok : Bool) (s : ByteArray) (w : World) (hW : WrT B g T ok n w) (hB : B ≤ w.heap.size) (hn : n ≤ 800000) (hs : s.size ≤ maxLen) (ok' : Bool) (hok : ok' = (ok && decide (s.size ≤ 4096))) (T' : List Nat) (hT : T' = T ++ txt s) :
    Calls Tryd.prog 57 #[.pointer (some ⟨g, 0, none⟩), .string s] w (WPost B g T' ok' (n + 5000) w) := by
  unfold maxLen at hs
  by_cases hbig : s.size ≤ 4096
  · obtain ⟨i0, hi, hz0, hz1, hz2⟩ := info_parts Tryd.info_u8
    have HI0 : Hid (Tryd.prog.info? 5 = some i0 ∧ i0.zero = some (.int .u8 0) ∧ i0.size = 1 ∧ i0.bytes = 1) := ⟨hi, hz0, hz1, hz2⟩
    have hok2 : ok' = ok := by rw [hok, decide_eq_true hbig]; simp
    subst hok2
    have HN := Lib.hid (numberT B g n T ok' (s.size : Int) w hW hB (by omega) (by omega) (by omega) ok' (by unfold rngN; rw [decide_eq_true (by omega), decide_eq_true (by omega)]; simp) _ rfl)
    have HT := Lib.hid hT
    have hd : decide ((4096 : Int) < (s.size : Int)) = false := decide_eq_false (by omega)
    clear hi hz0 hz1 hz2 hW hok hT
    go_enter Tryd.func57, Tryd.ntmps57
    go_wp2_with fail
    refine HN.out.mono ?_
    rintro e w1 ⟨rfl, hw1, hb1, hk1⟩
    obtain ⟨bs, hw2, hl2, ht2⟩ := hw1
    obtain ⟨A, c, c0, c1, f0, f1, hg, hown⟩ := hw2.open_
    have hBg := hw2.ge
    have hbs : B ≤ w1.heap.size := Nat.le_trans hB hb1.size
    have HB1 := Lib.hid hb1
    have HK1 := Lib.hid hk1
    have HT2 := Lib.hid ht2
    clear hb1 hk1 ht2 hw2
    go_wp2_with (at_builtin; refine Lib.wpList_append_own_string _ rfl (.tmp 18) (.tmp 19) 22 9 rfl B 5 i0 Tryd.underlying22 Tryd.underlying9 HI0.out.1 HI0.out.2.1 HI0.out.2.2.1 HI0.out.2.2.2 _ _ _ rfl hown s rfl (by simp only [maxLen]; omega) (by omega) hbs ?_)
    intro v' w3 hown' hg3 _
    rw [strCells_u8s, ← u8s_append] at hown'
    have el : (bs ++ byts s).length = bs.length + s.size := by rw [List.length_append, byts_len]
    rw [← el] at hown'
    obtain ⟨A', c', hv', _, _⟩ := own_shape hown'
    subst hv'
    have HWN := Lib.hid (Wr.grow (bs := bs ++ byts s) hg hown hBg hg3 hown')
    have hg4 : w3.heap[g]? = some (.cells #[.slice A bs.length c, .bool ok'] 101 (0, 0)) :=
      (hg3.block g (Array.getElem?_eq_some_iff.1 hg).1 fun e => own_tne hown hg (by decide) e).trans hg
    have d0 : w3.cell? ⟨g, 0, none⟩ = some (.slice A bs.length c) := by rw [cell_of_row w3 g 0 _ _ (0, 0) hg4]; rfl
    have e0 := frozen_of_row w3 g 0 _ _ hg4
    have HBN := Lib.hid ((Below.grown HB1.out hg3 hbs (fun q hq => (hown.lt q hq).1)).setCell (p := ⟨g, 0, none⟩) hBg (.slice A' (bs ++ byts s).length c'))
    have HKN := Lib.hid ((HK1.out.grown hown hg3).setCell (j := 0) (u := .slice A' (bs ++ byts s).length c'))
    rw [List.length_append] at HWN HBN HKN
    have HEL := Lib.hid el
    clear hown' hg3 hown hg hg4 HB1 HK1 c0 c1 f0 f1 el
    go_wp2_with fail
    go_end0
    refine ⟨rfl, ⟨_, HWN.out, by have := HEL.out; omega, fun h => ?_⟩, HBN.out, HKN.out⟩
    rw [HT2.out h, HT.out, txt, List.append_assoc]
  · have hok2 : ok' = false := by rw [hok, decide_eq_false hbig]; simp
    subst hok2
    have HB := Lib.hid hB
    have HW := Lib.hid hW
    obtain ⟨bs, hw2, hl2, _⟩ := hW
    obtain ⟨A, c, c0, c1, f0, f1, hg, hown⟩ := hw2.open_
    have hd : decide ((4096 : Int) < (s.size : Int)) = true := decide_eq_true (by omega)
    have HW2 := Lib.hid hw2
    clear hok hg hown hw2 hbig hT hB
    go_enter Tryd.func57, Tryd.ntmps57
    go_wp2_with fail
    go_end0
    refine ⟨rfl, ⟨bs, HW2.out.setOk, by omega, fun h => by cases h⟩, (Below.refl _ _).setCell HW2.out.ge _, (KeepT.refl _ _).setCell⟩

end Go.Proofs.YtcljkdjmmolfoaaDoor

/- codec: the writer's rat and numbers. -/
set_option linter.unusedVariables false
set_option linter.unusedSimpArgs false
namespace Go.Proofs.YtcljkdjmmolfoaaDoor
open Go.RowKit

theorem WrT.setOk {B g n : Nat} {T : List Nat} {ok ok' : Bool} {W : World} (h : WrT B g T ok n W) (hi : ok' = true → ok = true) : WrT B g T ok' n (W.setCell ⟨g, 1, none⟩ (.bool ok')) := by
  obtain ⟨bs, h1, h2, h3⟩ := h
  exact ⟨bs, h1.setOk, h2, fun e => h3 (hi e)⟩

def ratB (neg : Bool) (num den : ByteArray) : List Nat := vint (if neg = true then 2 else 0) ++ txt num ++ txt den

/-- behind the first statement of rat -/
def RCut (B g n : Nat) (T : List Nat) (ok : Bool) (neg : Bool) (num den : ByteArray) (w wx : World) : Prop :=
  WrT B g T ok n wx ∧ Below B w wx ∧ KeepT g w wx ∧ wx.heap[w.heap.size]? = some (.cells #[.bool neg, .string num, .string den] 30 (0, 0))

set_option maxHeartbeats 4000000 in
set_option maxRecDepth 100000 in
theorem ratT (B g n : Nat) (T : List Nat) (ok neg vb : Bool) (num den : ByteArray) (w : World) (hW : WrT B g T ok n w) (hB : B ≤ w.heap.size) (hn : n ≤ 700000) (hs1 : num.size ≤ maxLen) (hs2 : den.size ≤ maxLen)
    (HV : num.size ≤ 4096 → den.size ≤ 4096 → ∀ W, Calls Tryd.prog 56 #[.agg #[.bool neg, .string num, .string den]] W fun e W' => e = .returned (.bool vb) ∧ Below W.heap.size W W')
    (ok' : Bool) (hok : ok' = (ok && (decide (num.size ≤ 4096) && (decide (den.size ≤ 4096) && vb)))) (T' : List Nat) (hT : T' = T ++ ratB neg num den) :
    Calls Tryd.prog 45 #[.pointer (some ⟨g, 0, none⟩), .agg #[.bool neg, .string num, .string den]] w (WPost B g T' ok' (n + 10100) w) := by
  have HVV := Lib.hid HV
  have hm1 : num.size ≤ 9223372036854775807 := hs1
  have hm2 : den.size ≤ 9223372036854775807 := hs2
  have HW := Lib.hid hW
  have HOK := Lib.hid hok
  have HT := Lib.hid hT
  have hgl := hW.lt
  obtain ⟨bs, hw2, hl2, ht2⟩ := hW
  obtain ⟨A, c, c0, c1, f0, f1, hg, hown⟩ := hw2.open_
  have hBg := hw2.ge
  clear HV hok hT hw2 ht2 hg hown hl2
  have hne : w.heap.size ≠ g := by omega
  go_enter Tryd.func45, Tryd.ntmps45
  go_upto_region 1 with fail
  go_cut [] (fun wx => RCut B g n T ok' neg num den w wx)
  case first =>
    have hba : Below B w (w.alloc (.cells #[.bool neg, .string num, .string den] 30)) := (Below.refl _ _).alloc hB _
    have hka : KeepT g w (w.alloc (.cells #[.bool neg, .string num, .string den] 30)) := (KeepT.refl _ _).alloc _
    have hwa : WrT B g T ok n (w.alloc (.cells #[.bool neg, .string num, .string den] 30)) := HW.out.next (bel_alloc _ _)
    have HA := Lib.hid (And.intro hba (And.intro hka hwa))
    clear hba hka hwa
    have HEND : Hid (∀ wv, Below (w.alloc (.cells #[.bool neg, .string num, .string den] 30)).heap.size (w.alloc (.cells #[.bool neg, .string num, .string den] 30)) wv → (ok' = true → ok = true) → RCut B g n T ok' neg num den w (wv.setCell ⟨g, 1, none⟩ (.bool ok'))) := by
      intro wv hv hi
      refine ⟨(HA.out.2.2.next hv).setOk hi, (HA.out.1.trans (hv.mono (Nat.le_trans hB HA.out.1.size))).setCell hBg _, (HA.out.2.1.below hv).setCell, ?_⟩
      rw [heap_setCell_other _ _ _ _ hne]
      exact blk_next (blk_new _ _) hv
    have HEND2 : Hid ((ok' = true → ok = true) → RCut B g n T ok' neg num den w ((w.setCell ⟨g, 1, none⟩ (.bool ok')).alloc (.cells #[.bool neg, .string num, .string den] 30))) := by
      intro hi
      refine ⟨(HW.out.setOk hi).next (bel_alloc _ _), ((Below.refl _ _).setCell hBg _).alloc (by simp; exact hB) _, ((KeepT.refl _ _).setCell).alloc _, ?_⟩
      have := blk_new (w.setCell ⟨g, 1, none⟩ (.bool ok')) (.cells #[.bool neg, .string num, .string den] 30)
      rwa [World.size_setCell] at this
    cases ok
    · obtain rfl : ok' = false := by rw [HOK.out]; rfl
      go_wp2_with fail
      go_meet
      exact HEND2.out (fun h => by cases h)
    · by_cases h1 : num.size ≤ 4096
      · have t1 : decide ((num.size : Int) ≤ 4096) = true := decide_eq_true (by omega)
        by_cases h2 : den.size ≤ 4096
        · have t2 : decide ((den.size : Int) ≤ 4096) = true := decide_eq_true (by omega)
          obtain rfl : ok' = vb := by rw [HOK.out, decide_eq_true h1, decide_eq_true h2]; simp
          have HV1 := Lib.hid (HVV.out h1 h2)
          clear HVV h1 h2 HOK
          go_wp2_with fail
          refine (HV1.out _).mono ?_
          rintro e wv ⟨rfl, hv⟩
          have HWV := Lib.hid (HEND.out wv hv (fun _ => by first | rfl | trivial))
          obtain ⟨bs2, hw3, _, _⟩ := HA.out.2.2.next hv
          have hgw := hw3.lt
          obtain ⟨A', c', d0, d1, e0, e1, _, _⟩ := hw3.open_
          clear hw3
          clear hv
          go_wp2_with fail
          go_meet
          exact HWV.out
        · have t2 : decide ((den.size : Int) ≤ 4096) = false := decide_eq_false (by omega)
          obtain rfl : ok' = false := by rw [HOK.out, decide_eq_false h2]; simp
          clear HVV h1 h2 HOK
          go_wp2_with fail
          go_meet
          exact HEND2.out (fun h => by cases h)
      · have t1 : decide ((num.size : Int) ≤ 4096) = false := decide_eq_false (by omega)
        obtain rfl : ok' = false := by rw [HOK.out, decide_eq_false h1]; simp
        clear HVV h1 HOK
        go_wp2_with fail
        go_meet
        exact HEND2.out (fun h => by cases h)
  case rest =>
    obtain ⟨hw1, hb1, hk1, hr1⟩ := hcut
    have hB1 : B ≤ wc.heap.size := Nat.le_trans hB hb1.size
    have HB1 := Lib.hid hb1
    have HK1 := Lib.hid hk1
    have HIMP : Hid (ok' = (ok' && decide (num.size ≤ 4096)) ∧ ok' = (ok' && decide (den.size ≤ 4096))) := by
      show _ ∧ _
      rw [HOK.out]
      cases ok <;> cases decide (num.size ≤ 4096) <;> cases decide (den.size ≤ 4096) <;> cases vb <;> decide
    clear hb1 hk1 HOK HVV HW c0 c1 f0 f1
    cases neg
    · obtain ⟨r0, r1, r2, _, _, _, hz⟩ := three_of hr1
      have HN := Lib.hid (numberT B g n T ok' 0 wc hw1 hB1 (by omega) (by omega) (by omega) ok' (by rw [show rngN 0 = true from rfl]; simp) (T ++ vint 0) (by rw [show zig 0 = 0 from rfl]))
      have HR1 := Lib.hid hr1
      clear hw1 hr1
      go_wp2_with fail
      refine HN.out.mono ?_
      rintro e w2 ⟨rfl, hw2, hb2, hk2⟩
      have hr2 := hk2 _ _ _ _ HR1.out (by decide) hne
      have HB2 : Hid (Below B w w2) := HB1.out.trans hb2
      have HK2 : Hid (KeepT g w w2) := HK1.out.trans hk2
      have hB2 : B ≤ w2.heap.size := Nat.le_trans hB1 hb2.size
      obtain ⟨s0, s1, s2, _, _, _, hz2⟩ := three_of hr2
      have HX := Lib.hid (textT B g (n + 11) _ ok' num w2 hw2 hB2 (by omega) hs1 ok' HIMP.out.1 _ rfl)
      have HR2 := Lib.hid hr2
      clear hr2 hw2 hb2 hk2 HN HR1 r0 r1 r2
      go_wp2_with fail
      refine HX.out.mono ?_
      rintro e w3 ⟨rfl, hw3, hb3, hk3⟩
      have hr3 := hk3 _ _ _ _ HR2.out (by decide) hne
      have HB3 : Hid (Below B w w3) := HB2.out.trans hb3
      have HK3 : Hid (KeepT g w w3) := HK2.out.trans hk3
      have hB3 : B ≤ w3.heap.size := Nat.le_trans hB2 hb3.size
      obtain ⟨t0, t1, t2, _, _, _, hz3⟩ := three_of hr3
      have HY := Lib.hid (textT B g (n + 11 + 5000) _ ok' den w3 hw3 hB3 (by omega) hs2 ok' HIMP.out.2 _ rfl)
      clear hr3 hw3 hb3 hk3 HX HR2 s0 s1 s2
      go_wp2_with fail
      refine HY.out.mono ?_
      rintro e w4 ⟨rfl, hw4, hb4, hk4⟩
      have HW4 : Hid (WrT B g T' ok' (n + 10100) w4) := by
        obtain ⟨bs4, g1, g2, g3⟩ := hw4
        refine ⟨bs4, g1, by omega, fun h => ?_⟩
        rw [g3 h, HT.out, ratB]; simp only [List.append_assoc]; rfl
      have HB4 : Hid (Below B w w4) := HB3.out.trans hb4
      have HK4 : Hid (KeepT g w w4) := HK3.out.trans hk4
      clear hw4 hb4 hk4 t0 t1 t2
      go_wp2_with fail
      go_end0
      exact ⟨rfl, HW4.out, HB4.out, HK4.out⟩
    · obtain ⟨r0, r1, r2, _, _, _, hz⟩ := three_of hr1
      have HN := Lib.hid (numberT B g n T ok' 1 wc hw1 hB1 (by omega) (by omega) (by omega) ok' (by rw [show rngN 1 = true from rfl]; simp) (T ++ vint 2) (by rw [show zig 1 = 2 from rfl]))
      have HR1 := Lib.hid hr1
      clear hw1 hr1
      go_wp2_with fail
      refine HN.out.mono ?_
      rintro e w2 ⟨rfl, hw2, hb2, hk2⟩
      have hr2 := hk2 _ _ _ _ HR1.out (by decide) hne
      have HB2 : Hid (Below B w w2) := HB1.out.trans hb2
      have HK2 : Hid (KeepT g w w2) := HK1.out.trans hk2
      have hB2 : B ≤ w2.heap.size := Nat.le_trans hB1 hb2.size
      obtain ⟨s0, s1, s2, _, _, _, hz2⟩ := three_of hr2
      have HX := Lib.hid (textT B g (n + 11) _ ok' num w2 hw2 hB2 (by omega) hs1 ok' HIMP.out.1 _ rfl)
      have HR2 := Lib.hid hr2
      clear hr2 hw2 hb2 hk2 HN HR1 r0 r1 r2
      go_wp2_with fail
      refine HX.out.mono ?_
      rintro e w3 ⟨rfl, hw3, hb3, hk3⟩
      have hr3 := hk3 _ _ _ _ HR2.out (by decide) hne
      have HB3 : Hid (Below B w w3) := HB2.out.trans hb3
      have HK3 : Hid (KeepT g w w3) := HK2.out.trans hk3
      have hB3 : B ≤ w3.heap.size := Nat.le_trans hB2 hb3.size
      obtain ⟨t0, t1, t2, _, _, _, hz3⟩ := three_of hr3
      have HY := Lib.hid (textT B g (n + 11 + 5000) _ ok' den w3 hw3 hB3 (by omega) hs2 ok' HIMP.out.2 _ rfl)
      clear hr3 hw3 hb3 hk3 HX HR2 s0 s1 s2
      go_wp2_with fail
      refine HY.out.mono ?_
      rintro e w4 ⟨rfl, hw4, hb4, hk4⟩
      have HW4 : Hid (WrT B g T' ok' (n + 10100) w4) := by
        obtain ⟨bs4, g1, g2, g3⟩ := hw4
        refine ⟨bs4, g1, by omega, fun h => ?_⟩
        rw [g3 h, HT.out, ratB]; simp only [List.append_assoc]; rfl
      have HB4 : Hid (Below B w w4) := HB3.out.trans hb4
      have HK4 : Hid (KeepT g w w4) := HK3.out.trans hk4
      clear hw4 hb4 hk4 t0 t1 t2
      go_wp2_with fail
      go_end0
      exact ⟨rfl, HW4.out, HB4.out, HK4.out⟩

end Go.Proofs.YtcljkdjmmolfoaaDoor

/- codec: the writer's numbers. -/
set_option linter.unusedVariables false
set_option linter.unusedSimpArgs false
namespace Go.Proofs.YtcljkdjmmolfoaaDoor
open Go.RowKit

def numsB (zs : List Int) : List Nat := zs.flatMap fun z => vint (zig z)
theorem numsB_snoc (zs : List Int) (z : Int) : numsB (zs ++ [z]) = numsB zs ++ vint (zig z) := by simp [numsB]
def i64s (zs : List Int) : Prop := ∀ z ∈ zs, -9223372036854775808 ≤ z ∧ z ≤ 9223372036854775807

set_option maxHeartbeats 4000000 in
set_option maxRecDepth 100000 in
theorem numbersT (B g n b c : Nat) (T : List Nat) (ok : Bool) (zs : List Int) (w : World) (hW : WrT B g T ok n w) (hB : B ≤ w.heap.size) (hn : n ≤ 700000) (hl : zs.length ≤ 1000) (hz : i64s zs)
    (hb : w.heap[b]? = some (.cells (zs.map (Value.int .i64)).toArray 3 (0, 0))) (hbg : b ≠ g) (ok' : Bool) (hok : ok' = (ok && zs.all rngN)) (T' : List Nat) (hT : T' = T ++ numsB zs) :
    Calls Tryd.prog 44 #[.pointer (some ⟨g, 0, none⟩), .slice (some ⟨b, 0, none⟩) zs.length c] w (WPost B g T' ok' (n + 11 * zs.length) w) := by
  have HZ := Lib.hid hz
  have HW := Lib.hid hW
  have HBK := Lib.hid hb
  have HOK := Lib.hid hok
  have HT := Lib.hid hT
  obtain ⟨m, hm⟩ : ∃ m, m = zs.length := ⟨_, rfl⟩
  rw [← hm] at hl ⊢
  have HM := Lib.hid hm
  clear hW hb hok hT hz hm
  go_enter Tryd.func44, Tryd.ntmps44
  go_wp2_with fail
  go_loopw [8] (fun i wr => ∃ k : Nat, k ≤ m ∧ i = .int .i64 (k : Int) ∧ Hid (WrT B g (T ++ numsB (zs.take k)) (ok && (zs.take k).all rngN) (n + 11 * k) wr) ∧ Hid (Below B w wr) ∧ Hid (KeepT g w wr)) (fun i _ => m - (intOf i).toNat)
  case atStart => exact ⟨0, Nat.zero_le _, rfl, (show WrT B g (T ++ numsB (zs.take 0)) (ok && (zs.take 0).all rngN) (n + 11 * 0) w by simpa [numsB] using HW.out), Below.refl _ _, KeepT.refl _ _⟩
  case round =>
    obtain ⟨k, hk, rfl, HWR, HBR, HKR⟩ := hrel
    by_cases hlt : k < m
    · have hr := HKR.out _ _ _ _ HBK.out (by decide) hbg
      obtain ⟨z, hz⟩ : ∃ z, zs[k]? = some z := getElem?_of_lt (by have := HM.out; omega)
      have hzm := HZ.out z (List.mem_of_getElem? hz)
      have c0 : wr.cell? ⟨b, k, none⟩ = some (.int .i64 z) := by
        rw [cell_of_row wr b k _ _ (0, 0) hr]; simp [hz]
      have hbl : b < wr.heap.size := (Array.getElem?_eq_some_iff.1 hr).1
      have htk : zs.take (k + 1) = zs.take k ++ [z] := by rw [List.take_add_one, hz]; rfl
      have HN := Lib.hid (numberT B g (n + 11 * k) (T ++ numsB (zs.take k)) (ok && (zs.take k).all rngN) z wr HWR.out (Nat.le_trans hB HBR.out.size) (by omega) hzm.1 hzm.2 (ok && (zs.take (k + 1)).all rngN) (by rw [htk, List.all_append]; simp [Bool.and_assoc]) (T ++ numsB (zs.take (k + 1))) (by rw [htk, numsB_snoc, List.append_assoc]))
      clear hr hz htk hzm HWR
      go_wp2_with fail
      refine HN.out.mono ?_
      rintro e w1 ⟨rfl, hw1, hb1, hk1⟩
      have HW1 := Lib.hid hw1
      have HB1 : Hid (Below B w w1) := HBR.out.trans hb1
      have HK1 : Hid (KeepT g w w1) := HKR.out.trans hk1
      clear hw1 hb1 hk1 HN c0
      go_wp2_with fail
      go_roundw
      case measure => simp [intOf]; omega
      case rel => exact ⟨k + 1, by omega, by go_num, HW1, HB1, HK1⟩
    · obtain rfl : k = m := by omega
      have HE : Hid (WrT B g T' ok' (n + 11 * k) wr) := by
        have := HWR.out
        rw [List.take_of_length_le (by have := HM.out; omega), ← HOK.out, ← HT.out] at this
        exact this
      clear HWR
      go_wp2_with fail
      go_end0
      exact ⟨rfl, HE.out, HBR.out, HKR.out⟩

end Go.Proofs.YtcljkdjmmolfoaaDoor

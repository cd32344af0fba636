/- codec: the writer's functions on a text that is told while all is valid: number, text. -/
import Derived.Test.YtcljkdjmmolfoaaDoorWriter
import Derived.Lib.AppendStr
set_option linter.unusedVariables false
set_option linter.unusedSimpArgs false
namespace Go.Proofs.YtcljkdjmmolfoaaDoor
open Go.RowKit

/-- a writer whose bytes are T while its mark is true -/
def WrT (B g : Nat) (T : List Nat) (ok : Bool) (n : Nat) (W : World) : Prop := ∃ bs, Wr B g bs ok W ∧ bs.length ≤ n ∧ (ok = true → bs = T)
theorem WrT.next {B g n : Nat} {T : List Nat} {ok : Bool} {W W' : World} (h : WrT B g T ok n W) (hb : Below W.heap.size W W') : WrT B g T ok n W' := by
  obtain ⟨bs, h1, h2, h3⟩ := h
  exact ⟨bs, h1.next hb, h2, h3⟩
theorem WrT.lt {B g n : Nat} {T : List Nat} {ok : Bool} {W : World} (h : WrT B g T ok n W) : g < W.heap.size := by
  obtain ⟨bs, h1, _⟩ := h
  exact h1.lt
theorem WrT.ge {B g n : Nat} {T : List Nat} {ok : Bool} {W : World} (h : WrT B g T ok n W) : B ≤ g := by
  obtain ⟨bs, h1, _⟩ := h
  exact h1.ge
/-- what the writer's functions leave -/
def WPost (B g : Nat) (T : List Nat) (ok : Bool) (n : Nat) (w : World) (e : Ending) (w' : World) : Prop :=
  e = .returned (.tuple #[]) ∧ WrT B g T ok n w' ∧ Below B w w' ∧ KeepT g w w'

theorem numberT (B g n : Nat) (T : List Nat) (ok : Bool) (z : Int) (w : World) (hW : WrT B g T ok n w) (hB : B ≤ w.heap.size) (hn : n ≤ 900000) (h1 : -9223372036854775808 ≤ z) (h2 : z ≤ 9223372036854775807) (ok' : Bool) (hok : ok' = (ok && rngN z)) (T' : List Nat) (hT : T' = T ++ vint (zig z)) :
    Calls Tryd.prog 46 #[.pointer (some ⟨g, 0, none⟩), .int .i64 z] w (WPost B g T' ok' (n + 11) w) := by
  obtain ⟨bs, h3, h4, h5⟩ := hW
  refine (number_calls B g bs ok z w h3 hB (by omega) h1 h2 ok' hok).mono ?_
  rintro e w' ⟨he, hw, hb, hk⟩
  refine ⟨he, ⟨_, hw, ?_, fun h => ?_⟩, hb, hk⟩
  · have := vint_len10 (zig_lt h1 h2); simp; omega
  · rw [hok] at h
    have : ok = true := by cases ok <;> simp_all
    rw [h5 this, hT]

def byts (s : ByteArray) : List Nat := s.data.toList.map UInt8.toNat
theorem byts_len (s : ByteArray) : (byts s).length = s.size := by rw [byts, List.length_map, Lib.size_eq]
theorem strCells_u8s (s : ByteArray) : Lib.strCells s = u8s (byts s) := by
  unfold Lib.strCells u8s byts
  rw [List.map_map]; rfl
def txt (s : ByteArray) : List Nat := vint (zig s.size) ++ byts s

set_option maxHeartbeats 4000000 in
set_option maxRecDepth 100000 in
theorem textT (B g n : Nat) (T : List Nat) (ok : Bool) (s : ByteArray) (w : World) (hW : WrT B g T ok n w) (hB : B ≤ w.heap.size) (hn : n ≤ 800000) (hs : s.size ≤ maxLen) (ok' : Bool) (hok : ok' = (ok && decide (s.size ≤ 4096))) (T' : List Nat) (hT : T' = T ++ txt s) :
    Calls Tryd.prog 57 #[.pointer (some ⟨g, 0, none⟩), .string s] w (WPost B g T' ok' (n + 5000) w) := by
  unfold maxLen at hs
  by_cases hbig : s.size ≤ 4096
  · obtain ⟨i0, hi, hz0, hz1, hz2⟩ := info_parts Tryd.info_u8
    have HI0 : Hid (Tryd.prog.info? 5 = some i0 ∧ i0.zero = some (.int .u8 0) ∧ i0.size = 1 ∧ i0.bytes = 1) := ⟨hi, hz0, hz1, hz2⟩
    have hok2 : ok' = ok := by rw [hok, decide_eq_true hbig]; simp
    subst hok2
    have HN := Lib.hid (numberT B g n T ok' (s.size : Int) w hW hB (by omega) (by omega) (by omega) ok' (by unfold rngN; rw [decide_eq_true (by omega), decide_eq_true (by omega)]; simp) _ rfl)
    have HT := Lib.hid hT
    have hd : decide ((4096 : Int) < (s.size : Int)) = false := decide_eq_false (by omega)
    clear hi hz0 hz1 hz2 hW hok hT
    go_enter Tryd.func57, Tryd.ntmps57
    go_wp2_with fail
    refine HN.out.mono ?_
    rintro e w1 ⟨rfl, hw1, hb1, hk1⟩
    obtain ⟨bs, hw2, hl2, ht2⟩ := hw1
    obtain ⟨A, c, c0, c1, f0, f1, hg, hown⟩ := hw2.open_
    have hBg := hw2.ge
    have hbs : B ≤ w1.heap.size := Nat.le_trans hB hb1.size
    have HB1 := Lib.hid hb1
    have HK1 := Lib.hid hk1
    have HT2 := Lib.hid ht2
    clear hb1 hk1 ht2 hw2
    go_wp2_with (at_builtin; refine Lib.wpList_append_own_string _ rfl (.tmp 18) (.tmp 19) 22 9 rfl B 5 i0 Tryd.underlying22 Tryd.underlying9 HI0.out.1 HI0.out.2.1 HI0.out.2.2.1 HI0.out.2.2.2 _ _ _ rfl hown s rfl (by simp only [maxLen]; omega) (by omega) hbs ?_)
    intro v' w3 hown' hg3 _
    rw [strCells_u8s, ← u8s_append] at hown'
    have el : (bs ++ byts s).length = bs.length + s.size := by rw [List.length_append, byts_len]
    rw [← el] at hown'
    obtain ⟨A', c', hv', _, _⟩ := own_shape hown'
    subst hv'
    have HWN := Lib.hid (Wr.grow (bs := bs ++ byts s) hg hown hBg hg3 hown')
    have hg4 : w3.heap[g]? = some (.cells #[.slice A bs.length c, .bool ok'] 101 (0, 0)) :=
      (hg3.block g (Array.getElem?_eq_some_iff.1 hg).1 fun e => own_tne hown hg (by decide) e).trans hg
    have d0 : w3.cell? ⟨g, 0, none⟩ = some (.slice A bs.length c) := by rw [cell_of_row w3 g 0 _ _ (0, 0) hg4]; rfl
    have e0 := frozen_of_row w3 g 0 _ _ hg4
    have HBN := Lib.hid ((Below.grown HB1.out hg3 hbs (fun q hq => (hown.lt q hq).1)).setCell (p := ⟨g, 0, none⟩) hBg (.slice A' (bs ++ byts s).length c'))
    have HKN := Lib.hid ((HK1.out.grown hown hg3).setCell (j := 0) (u := .slice A' (bs ++ byts s).length c'))
    rw [List.length_append] at HWN HBN HKN
    have HEL := Lib.hid el
    clear hown' hg3 hown hg hg4 HB1 HK1 c0 c1 f0 f1 el
    go_wp2_with fail
    go_end0
    refine ⟨rfl, ⟨_, HWN.out, by have := HEL.out; omega, fun h => ?_⟩, HBN.out, HKN.out⟩
    rw [HT2.out h, HT.out, txt, List.append_assoc]
  · have hok2 : ok' = false := by rw [hok, decide_eq_false hbig]; simp
    subst hok2
    have HB := Lib.hid hB
    have HW := Lib.hid hW
    obtain ⟨bs, hw2, hl2, _⟩ := hW
    obtain ⟨A, c, c0, c1, f0, f1, hg, hown⟩ := hw2.open_
    have hd : decide ((4096 : Int) < (s.size : Int)) = true := decide_eq_true (by omega)
    have HW2 := Lib.hid hw2
    clear hok hg hown hw2 hbig hT hB
    go_enter Tryd.func57, Tryd.ntmps57
    go_wp2_with fail
    go_end0
    refine ⟨rfl, ⟨bs, HW2.out.setOk, by omega, fun h => by cases h⟩, (Below.refl _ _).setCell HW2.out.ge _, (KeepT.refl _ _).setCell⟩

end Go.Proofs.YtcljkdjmmolfoaaDoor

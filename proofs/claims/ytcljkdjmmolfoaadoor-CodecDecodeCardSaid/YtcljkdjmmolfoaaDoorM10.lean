/- Merged of RefW RefW2 EncA RefInts. -/
import Derived.Test.YtcljkdjmmolfoaaDoorM8
import Derived.Laws.Bits64b
import Derived.Test.YtcljkdjmmolfoaaDoorValid
import Derived.Deep.RegionHeld3
import Derived.Deep.QuietTactic
import Derived.BigQuiet
/- insolvencyref33: varint, num. -/
set_option linter.unusedVariables false
set_option linter.unusedSimpArgs false
namespace Go.Proofs.YtcljkdjmmolfoaaDoor
open Go.RowKit

/-- every block of cells that holds no bytes is as it was -/
def KeepB (W W' : World) : Prop := ∀ (q : Nat) (cur : Array Value) (T : TypeId) (f : Nat × Nat), W.heap[q]? = some (.cells cur T f) → T ≠ 5 → W'.heap[q]? = some (.cells cur T f)
theorem KeepB.refl (W : World) : KeepB W W := fun _ _ _ _ h _ => h
theorem KeepB.trans {W W' W'' : World} (h : KeepB W W') (h2 : KeepB W' W'') : KeepB W W'' := fun q c T f a b => h2 q c T f (h q c T f a b) b
theorem KeepB.alloc {W W' : World} (h : KeepB W W') (o : Obj) : KeepB W (W'.alloc o) := fun q c T f a b => by
  have h1 := h q c T f a b
  exact (Below.heap_alloc W' o q (Array.getElem?_eq_some_iff.1 h1).1).trans h1
theorem KeepB.below {W W' W'' : World} (h : KeepB W W') (hb : Below W'.heap.size W' W'') : KeepB W W'' := fun q c T f a b => by
  have h1 := h q c T f a b
  exact (hb.block q (Array.getElem?_eq_some_iff.1 h1).1).trans h1
theorem KeepB.grown {W W' W'' : World} {v : Value} {n B : Nat} {xs : List Value} (h : KeepB W W') (ho : W'.ownsRow B 5 1 v n xs) (hg : W'.grownBy W'' v.ownBlock) : KeepB W W'' := fun q c T f a b => by
  have h1 := h q c T f a b
  exact (hg.block q (Array.getElem?_eq_some_iff.1 h1).1 fun e => own_tne ho h1 b e).trans h1

def OwnB (B : Nat) (v : Value) (bs : List Nat) (W : World) : Prop := W.ownsRow B 5 1 v bs.length (u8s bs)
theorem OwnB.next {B : Nat} {v : Value} {bs : List Nat} {W W' : World} (h : OwnB B v bs W) (hb : Below W.heap.size W W') : OwnB B v bs W' := own_below h hb
/-- what the definition's writing functions leave -/
def RPost (B : Nat) (bs : List Nat) (w : World) (e : Ending) (w' : World) : Prop :=
  ∃ A c, e = .returned (.slice A bs.length c) ∧ OwnB B (.slice A bs.length c) bs w' ∧ Below B w w' ∧ KeepB w w'

theorem and127 (x : Nat) (h : x < 18446744073709551616) : bits .and .u64 (x : Int) 127 = ((x % 128 : Nat) : Int) := by
  have h1 := bits_and_u64_nat x 127 h (by omega)
  have e : x &&& 127 = x % 128 := Nat.and_two_pow_sub_one_eq_mod x 7
  rw [e] at h1
  exact h1
theorem or128u (y : Nat) (h : y < 128) : bits .or .u64 (y : Int) 128 = ((y + 128 : Nat) : Int) := by
  have := or_u64 y 128 7 1 (by omega) (by omega) (by omega)
  rwa [show ((128 : Nat) : Int) = 128 from rfl] at this

set_option maxHeartbeats 4000000 in
set_option maxRecDepth 100000 in
theorem varint_calls (B : Nat) (A0 : Option Addr) (c0 : Nat) (bs : List Nat) (u : Nat) (w : World) (hW : OwnB B (.slice A0 bs.length c0) bs w) (hB : B ≤ w.heap.size) (hl : bs.length ≤ 1000000) (hu : u < 18446744073709551616) (bs' : List Nat) (hbs : bs' = bs ++ vint u) :
    Calls Tryd.prog 53 #[.slice A0 bs.length c0, .int .u64 (u : Int)] w (RPost B bs' w) := by
  obtain ⟨i0, hi, hz0, hz1, hz2⟩ := info_parts Tryd.info_u8
  have HI0 : Hid (Tryd.prog.info? 5 = some i0 ∧ i0.zero = some (.int .u8 0) ∧ i0.size = 1 ∧ i0.bytes = 1) := ⟨hi, hz0, hz1, hz2⟩
  have HW := Lib.hid hW
  have HBS := Lib.hid hbs
  clear hi hz0 hz1 hz2 hW hbs
  go_enter Tryd.func53, Tryd.ntmps53
  go_wp2_with fail
  go_loopw [0, 1] (fun vv uu wr => ∃ (x : Nat) (A : Option Addr) (c : Nat) (cs : List Nat), vv = .slice A cs.length c ∧ uu = .int .u64 (x : Int) ∧ x < 18446744073709551616 ∧ Hid (OwnB B (.slice A cs.length c) cs wr) ∧ Hid (cs ++ vint x = bs') ∧ cs.length ≤ 1000011 ∧ Hid (Below B w wr) ∧ Hid (KeepB w wr)) (fun _ uu _ => (intOf uu).toNat)
  case atStart => exact ⟨u, A0, c0, bs, rfl, rfl, hu, HW, HBS.out.symm, by omega, Below.refl _ _, KeepB.refl _⟩
  case round =>
    obtain ⟨x, A, c, cs, rfl, rfl, hx, HO, HE, hcl, HB, HK⟩ := hrel
    have hown := HO.out
    unfold OwnB at hown
    have hbs : B ≤ wr.heap.size := Nat.le_trans hB HB.out.size
    by_cases hlt : x < 128
    · have hd : decide ((128 : Int) ≤ (x : Int)) = false := decide_eq_false (by omega)
      have hm : (x : Int) % 256 = (x : Int) := by omega
      go_wp2_with (at_builtin; refine wpList_append_own _ rfl (.tmp 16) (.tmp 19) 22 rfl B 5 i0 (.int .u8 0) 1 1 Tryd.underlying22 HI0.out.1 HI0.out.2.1 HI0.out.2.2.1 HI0.out.2.2.2 rfl (by decide) _ _ _ rfl (by exact hown.alloc _) _ 1 1 _ rfl rfl (rd_new_cells _ _ _ _ (by simp)) (by simp [Value.oneCell']) (by simp only [maxLen]; omega) (by omega) (by simp <;> omega) ?_)
      intro v' w3 hown' hg3 _
      have h2 : w3.ownsRow B 5 1 v' (cs ++ [x]).length (u8s (cs ++ [x])) := by
        have e : (cs ++ [x]).length = cs.length + 1 := by simp
        rw [e, u8s_append]
        exact hown'
      obtain ⟨A', c', hv', _, _⟩ := own_shape h2
      subst hv'
      have HWN : Hid (OwnB B (.slice A' (cs ++ [x]).length c') (cs ++ [x]) w3) := h2
      have HBN : Hid (Below B w w3) := Below.grown (HB.out.alloc hbs (.cells #[.int .u8 (x : Int)] 5)) hg3 (by simp <;> omega) (fun q hq => (hown.lt q hq).1)
      have HKN : Hid (KeepB w w3) := (HK.out.alloc _).grown (hown.alloc _) hg3
      clear hown' h2 hg3 hown HB HK HO
      have HEN : Hid (cs ++ [x] = bs') := by have := HE.out; rwa [vint_small hlt] at this
      clear HE
      go_wp2_with fail
      go_ret
      have hE2 := HEN.out
      subst hE2
      exact ⟨A', c', by rw [List.length_append]; rfl, HWN.out, HBN.out, HKN.out⟩
    · have hd : decide ((128 : Int) ≤ (x : Int)) = true := decide_eq_true (by omega)
      obtain ⟨y, hy⟩ : ∃ y, y = x % 128 := ⟨_, rfl⟩
      have ha : bits .and .u64 (x : Int) 127 = (y : Int) := by rw [and127 x hx, hy]
      obtain ⟨d, hdd⟩ : ∃ d, d = y + 128 := ⟨_, rfl⟩
      have ho : bits .or .u64 (y : Int) 128 = (d : Int) := by rw [or128u y (by omega), hdd]
      have hm : (d : Int) % 256 = (d : Int) := by omega
      obtain ⟨z, hz⟩ : ∃ z, z = x / 128 := ⟨_, rfl⟩
      have hsh : (x : Int) / 128 = (z : Int) := by omega
      have HEN : Hid ((cs ++ [d]) ++ vint z = bs') := by have := HE.out; rw [vint_big hlt, ← hy, ← hdd, ← hz] at this; rw [List.append_assoc]; exact this
      have hzl : z < x := by omega
      have hdl : d < 256 := by omega
      have hyl : y < 128 := by omega
      clear hy hdd hz HE
      go_wp2_with (at_builtin; refine wpList_append_own _ rfl (.tmp 7) (.tmp 12) 22 rfl B 5 i0 (.int .u8 0) 1 1 Tryd.underlying22 HI0.out.1 HI0.out.2.1 HI0.out.2.2.1 HI0.out.2.2.2 rfl (by decide) _ _ _ rfl (by exact hown.alloc _) _ 1 1 _ rfl rfl (rd_new_cells _ _ _ _ (by simp)) (by simp [Value.oneCell']) (by simp only [maxLen]; omega) (by omega) (by simp <;> omega) ?_)
      intro v' w3 hown' hg3 _
      have h2 : w3.ownsRow B 5 1 v' (cs ++ [d]).length (u8s (cs ++ [d])) := by
        have e : (cs ++ [d]).length = cs.length + 1 := by simp
        rw [e, u8s_append]
        exact hown'
      obtain ⟨A', c', hv', _, _⟩ := own_shape h2
      subst hv'
      have HWN : Hid (OwnB B (.slice A' (cs ++ [d]).length c') (cs ++ [d]) w3) := h2
      have HBN : Hid (Below B w w3) := Below.grown (HB.out.alloc hbs (.cells #[.int .u8 (d : Int)] 5)) hg3 (by simp <;> omega) (fun q hq => (hown.lt q hq).1)
      have HKN : Hid (KeepB w w3) := (HK.out.alloc _).grown (hown.alloc _) hg3
      clear hown' h2 hg3 hown HB HK HO
      have HCL : Hid ((cs ++ [d]).length ≤ 1000011) := by
        have h1 := congrArg List.length HEN.out
        have h2 := congrArg List.length HBS.out
        have h3 := vint_len10 hu
        have h4 := vint_pos z
        show _ ≤ _
        simp at *
        omega
      go_wp2_with fail
      go_roundw
      case measure => simp [intOf]; omega
      case rel => exact ⟨z, A', c', cs ++ [d], by rw [List.length_append], rfl, by omega, HWN, HEN, HCL.out, HBN, HKN⟩

end Go.Proofs.YtcljkdjmmolfoaaDoor

/- insolvencyref33: num, str, rat. -/
set_option linter.unusedVariables false
set_option linter.unusedSimpArgs false
namespace Go.Proofs.YtcljkdjmmolfoaaDoor
open Go.RowKit

set_option maxHeartbeats 2000000 in
set_option maxRecDepth 100000 in
theorem rnum_calls (B : Nat) (A0 : Option Addr) (c0 : Nat) (bs : List Nat) (z : Int) (w : World) (hW : OwnB B (.slice A0 bs.length c0) bs w) (hB : B ≤ w.heap.size) (hl : bs.length ≤ 1000000) (h1 : -9223372036854775808 ≤ z) (h2 : z ≤ 9223372036854775807) (bs' : List Nat) (hbs : bs' = bs ++ vint (zig z)) :
    Calls Tryd.prog 39 #[.slice A0 bs.length c0, .int .i64 z] w (RPost B bs' w) := by
  obtain ⟨u, hu⟩ : ∃ u, u = zig z := ⟨_, rfl⟩
  have hub : u < 18446744073709551616 := by rw [hu]; exact zig_lt h1 h2
  have HU : Hid ((z < 0 → (u : Int) = -2 * z - 1) ∧ (¬ z < 0 → (u : Int) = 2 * z)) := by
    rw [hu]; unfold zig
    refine ⟨fun h => ?_, fun h => ?_⟩
    · rw [if_pos h]; omega
    · rw [if_neg h]; omega
  rw [← hu] at hbs
  have HV := Lib.hid (varint_calls B A0 c0 bs u w hW hB hl hub bs' hbs)
  clear hu hbs hW
  by_cases hn : z < 0
  · have hd : decide (z < 0) = true := decide_eq_true hn
    have hw1 : IntKind.u64.wrap (wrap64 (wrap64 (-2 * z) - 1)) = (u : Int) := by rw [IntKind.wrap_u64]; unfold wrap64; have := HU.out.1 hn; omega
    go_enter Tryd.func39, Tryd.ntmps39
    go_wp2_with fail
    refine HV.out.mono ?_
    rintro e w1 ⟨A, c, rfl, ho, hb, hk⟩
    have HO := Lib.hid (And.intro ho (And.intro hb hk))
    clear ho hb hk
    go_wp2_with fail
    go_ret
    exact ⟨A, c, rfl, HO.out⟩
  · have hd : decide (z < 0) = false := decide_eq_false hn
    have hw1 : IntKind.u64.wrap (wrap64 (2 * z)) = (u : Int) := by rw [IntKind.wrap_u64]; unfold wrap64; have := HU.out.2 hn; omega
    go_enter Tryd.func39, Tryd.ntmps39
    go_wp2_with fail
    refine HV.out.mono ?_
    rintro e w1 ⟨A, c, rfl, ho, hb, hk⟩
    have HO := Lib.hid (And.intro ho (And.intro hb hk))
    clear ho hb hk
    go_wp2_with fail
    go_ret
    exact ⟨A, c, rfl, HO.out⟩

set_option maxHeartbeats 2000000 in
set_option maxRecDepth 100000 in
theorem rstr_calls (B : Nat) (A0 : Option Addr) (c0 : Nat) (bs : List Nat) (s : ByteArray) (w : World) (hW : OwnB B (.slice A0 bs.length c0) bs w) (hB : B ≤ w.heap.size) (hl : bs.length ≤ 900000) (hs : s.size ≤ 1000000000) (bs' : List Nat) (hbs : bs' = bs ++ txt s) :
    Calls Tryd.prog 54 #[.slice A0 bs.length c0, .string s] w (RPost B bs' w) := by
  obtain ⟨i0, hi, hz0, hz1, hz2⟩ := info_parts Tryd.info_u8
  have HI0 : Hid (Tryd.prog.info? 5 = some i0 ∧ i0.zero = some (.int .u8 0) ∧ i0.size = 1 ∧ i0.bytes = 1) := ⟨hi, hz0, hz1, hz2⟩
  obtain ⟨b1, hb1⟩ : ∃ b1, b1 = bs ++ vint (zig (s.size : Int)) := ⟨_, rfl⟩
  have hl1 : b1.length ≤ 900011 := by rw [hb1]; have := vint_len10 (zig_lt (n := (s.size : Int)) (by omega) (by omega)); simp; omega
  have HV := Lib.hid (rnum_calls B A0 c0 bs (s.size : Int) w hW hB (by omega) (by omega) (by omega) b1 hb1)
  have HBS : Hid (bs' = b1 ++ byts s) := by show _ = _; rw [hbs, hb1, txt, List.append_assoc]
  clear hi hz0 hz1 hz2 hb1 hbs hW
  go_enter Tryd.func54, Tryd.ntmps54
  go_wp2_with fail
  refine HV.out.mono ?_
  rintro e w1 ⟨A, c, rfl, ho, hb, hk⟩
  have hown : w1.ownsRow B 5 1 (.slice A b1.length c) b1.length (u8s b1) := ho
  have hB1 : B ≤ w1.heap.size := Nat.le_trans hB hb.size
  have HBK := Lib.hid (And.intro hb hk)
  clear ho hb hk HV
  go_wp2_with (at_builtin; refine Lib.wpList_append_own_string _ rfl (.tmp 8) (.tmp 9) 22 9 rfl B 5 i0 Tryd.underlying22 Tryd.underlying9 HI0.out.1 HI0.out.2.1 HI0.out.2.2.1 HI0.out.2.2.2 _ _ _ rfl hown s rfl (by simp only [maxLen]; omega) (by omega) hB1 ?_)
  intro v' w3 hown' hg3 _
  rw [strCells_u8s, ← u8s_append] at hown'
  have el : (b1 ++ byts s).length = b1.length + s.size := by rw [List.length_append, byts_len]
  rw [← el, ← HBS.out] at hown'
  obtain ⟨A', c', hv', _, _⟩ := own_shape hown'
  subst hv'
  have HWN : Hid (OwnB B (.slice A' bs'.length c') bs' w3) := hown'
  have HBN : Hid (Below B w w3) := Below.grown HBK.out.1 hg3 hB1 (fun q hq => (hown.lt q hq).1)
  have HKN : Hid (KeepB w w3) := HBK.out.2.grown hown hg3
  clear hown' hg3 hown HBK el
  go_wp2_with fail
  go_ret
  exact ⟨A', c', rfl, HWN.out, HBN.out, HKN.out⟩

theorem Q3.keepB {g : Nat} {neg : Bool} {num den : ByteArray} {W W' : World} (h : Q3 g neg num den W) (hk : KeepB W W') : Q3 g neg num den W' := hk _ _ _ _ h (by decide)

set_option maxHeartbeats 4000000 in
set_option maxRecDepth 100000 in
theorem rrat_calls (B : Nat) (A0 : Option Addr) (c0 : Nat) (bs : List Nat) (neg : Bool) (num den : ByteArray) (w : World) (hW : OwnB B (.slice A0 bs.length c0) bs w) (hB : B ≤ w.heap.size) (hl : bs.length ≤ 300000) (hs1 : num.size ≤ 200000) (hs2 : den.size ≤ 200000) (bs' : List Nat) (hbs : bs' = bs ++ ratB neg num den) :
    Calls Tryd.prog 40 #[.slice A0 bs.length c0, .agg #[.bool neg, .string num, .string den]] w (RPost B bs' w) := by
  obtain ⟨b1, hb1⟩ : ∃ b1, b1 = bs ++ vint (if neg = true then 2 else 0) := ⟨_, rfl⟩
  obtain ⟨b2, hb2⟩ : ∃ b2, b2 = b1 ++ txt num := ⟨_, rfl⟩
  have HB' : Hid (bs' = b2 ++ txt den) := by show _ = _; rw [hbs, hb2, hb1, ratB]; simp only [List.append_assoc]
  have hl1 : b1.length ≤ 300011 := by rw [hb1]; have := vint_len10 (n := if neg = true then 2 else 0) (by split <;> decide); simp; omega
  have hl2 : b2.length ≤ 600000 := by rw [hb2, txt]; have := vint_len10 (zig_lt (n := (num.size : Int)) (by omega) (by omega)); simp [byts_len]; omega
  have HW := Lib.hid hW
  have HB1 := Lib.hid hb1
  have HB2 := Lib.hid hb2
  clear hb1 hb2 hbs hW
  cases neg
  · have HV := Lib.hid (rnum_calls B A0 c0 bs 0 (w.alloc (.cells #[.bool false, .string num, .string den] 30)) (HW.out.next (bel_alloc _ _)) (by simp; omega) (by omega) (by omega) (by omega) b1 (by rw [HB1.out]; rfl))
    go_enter Tryd.func40, Tryd.ntmps40
    go_wp2_with fail
    refine HV.out.mono ?_
    rintro e w1 ⟨A1, c1, rfl, ho, hb, hk⟩
    have HS1 : Hid (Q3 w.heap.size false num den w1) := Q3.keepB (blk_new _ _) hk
    have HO1 := Lib.hid ho
    have HBe1 : Hid (Below B w w1) := ((Below.refl _ _).alloc hB _).trans hb
    have HK1 : Hid (KeepB w w1) := ((KeepB.refl _).alloc _).trans hk
    have hB1 : B ≤ w1.heap.size := Nat.le_trans hB HBe1.out.size
    clear ho hb hk HV
    go_wp2_with fail
    obtain ⟨W0, hW0⟩ : ∃ W0, W0 = w1.drew := ⟨_, rfl⟩
    have hS : Q3 w.heap.size false num den W0 := by rw [hW0]; exact HS1.out
    have HO0 : Hid (OwnB B (.slice A1 b1.length c1) b1 W0) := by rw [hW0]; exact HO1.out
    have HBe0 : Hid (Below B w W0) := by rw [hW0]; exact HBe1.out.drew
    have HK0 : Hid (KeepB w W0) := by rw [hW0]; exact HK1.out
    have hB0 : B ≤ W0.heap.size := by rw [hW0]; exact hB1
    refine wp_region_held_drew (S := Q3 w.heap.size false num den) (by kernel_rfl) (by rw [← hW0]; exact hS) ?_
    rw [← hW0]
    intro _
    clear hW0 HS1 HO1 HBe1 HK1 hB1
    refine wpAnyH_take (i := 0) rfl (by kernel_rfl) (by kernel_rfl) (by kernel_rfl) (fun _ _ _ h => h) (Or.inl ⟨by kernel_rfl, (by intro w' _; go_simp; with_reducible rfl)⟩) hS ?_
    go_simp
    refine wpAnyH_take (i := 1) rfl (by kernel_rfl) (by kernel_rfl) (by kernel_rfl) (fun _ _ _ h => h) (Or.inl ⟨by kernel_rfl, (by intro w' _; go_simp; with_reducible rfl)⟩) hS ?_
    go_simp
    refine wpAnyH_take (i := 2) (v := .string num) rfl (by kernel_rfl) (by kernel_rfl) (by kernel_rfl) (fun _ _ _ h => h) (Or.inl ⟨by kernel_rfl, (by intro w' hw'; obtain ⟨q0, q1, q2⟩ := hw'.cells; go_simp)⟩) hS ?_
    go_simp
    refine wpAnyH_take (i := 4) rfl (by kernel_rfl) (by kernel_rfl) (by kernel_rfl) (fun _ _ _ h => h) (Or.inl ⟨by kernel_rfl, (by intro w' _; go_simp; with_reducible rfl)⟩) hS ?_
    go_simp
    refine wpAnyH_take (i := 5) (v := .string den) rfl (by kernel_rfl) (by kernel_rfl) (by kernel_rfl) (fun _ _ _ h => h) (Or.inl ⟨by kernel_rfl, (by intro w' hw'; obtain ⟨q0, q1, q2⟩ := hw'.cells; go_simp)⟩) hS ?_
    go_simp
    refine wpAnyH_ready (rs := [3]) (by kernel_rfl) (by simp) ?_
    refine AllReadyH.cons rfl (fun K hK => ?_) AllReadyH.nil
    go_simp
    refine (rstr_calls B A1 c1 b1 num _ HO0.out hB0 (by omega) (by omega) b2 HB2.out).mono ?_
    rintro e w2 ⟨A2, c2, rfl, ho, hb, hk⟩
    have hS2 := hS.keepB hk
    have HO2 := Lib.hid ho
    have HBe2 : Hid (Below B w w2) := HBe0.out.trans hb
    have HK2 : Hid (KeepB w w2) := HK0.out.trans hk
    have hB2 : B ≤ w2.heap.size := Nat.le_trans hB0 hb.size
    clear ho hb hk
    refine hK.out _ _ hS2 (fun _ => ?_)
    clear hK K
    refine wpAnyH_ready (rs := [6]) (by kernel_rfl) (by simp) ?_
    refine AllReadyH.cons rfl (fun K hK => ?_) AllReadyH.nil
    go_simp
    refine (rstr_calls B A2 c2 b2 den _ HO2.out hB2 (by omega) (by omega) bs' HB'.out).mono ?_
    rintro e w3 ⟨A3, c3, rfl, ho, hb, hk⟩
    have hS3 := hS2.keepB hk
    have HO3 := Lib.hid ho
    have HBe3 : Hid (Below B w w3) := HBe2.out.trans hb
    have HK3 : Hid (KeepB w w3) := HK2.out.trans hk
    clear ho hb hk
    refine hK.out _ _ hS3 (fun _ => ?_)
    clear hK K
    refine wpAnyH_take (i := 7) rfl (by kernel_rfl) (by kernel_rfl) (by kernel_rfl) (fun _ _ _ h => h) (Or.inl ⟨by kernel_rfl, (by intro w' _; go_simp; with_reducible rfl)⟩) hS3 ?_
    go_simp
    refine wpAnyH_done (by kernel_rfl) ?_ _
    go_wp2_with fail
    go_ret
    exact ⟨A3, c3, rfl, HO3.out, HBe3.out, HK3.out⟩
  · have HV := Lib.hid (rnum_calls B A0 c0 bs 1 (w.alloc (.cells #[.bool true, .string num, .string den] 30)) (HW.out.next (bel_alloc _ _)) (by simp; omega) (by omega) (by omega) (by omega) b1 (by rw [HB1.out]; rfl))
    go_enter Tryd.func40, Tryd.ntmps40
    go_wp2_with fail
    refine HV.out.mono ?_
    rintro e w1 ⟨A1, c1, rfl, ho, hb, hk⟩
    have HS1 : Hid (Q3 w.heap.size true num den w1) := Q3.keepB (blk_new _ _) hk
    have HO1 := Lib.hid ho
    have HBe1 : Hid (Below B w w1) := ((Below.refl _ _).alloc hB _).trans hb
    have HK1 : Hid (KeepB w w1) := ((KeepB.refl _).alloc _).trans hk
    have hB1 : B ≤ w1.heap.size := Nat.le_trans hB HBe1.out.size
    clear ho hb hk HV
    go_wp2_with fail
    obtain ⟨W0, hW0⟩ : ∃ W0, W0 = w1.drew := ⟨_, rfl⟩
    have hS : Q3 w.heap.size true num den W0 := by rw [hW0]; exact HS1.out
    have HO0 : Hid (OwnB B (.slice A1 b1.length c1) b1 W0) := by rw [hW0]; exact HO1.out
    have HBe0 : Hid (Below B w W0) := by rw [hW0]; exact HBe1.out.drew
    have HK0 : Hid (KeepB w W0) := by rw [hW0]; exact HK1.out
    have hB0 : B ≤ W0.heap.size := by rw [hW0]; exact hB1
    refine wp_region_held_drew (S := Q3 w.heap.size true num den) (by kernel_rfl) (by rw [← hW0]; exact hS) ?_
    rw [← hW0]
    intro _
    clear hW0 HS1 HO1 HBe1 HK1 hB1
    refine wpAnyH_take (i := 0) rfl (by kernel_rfl) (by kernel_rfl) (by kernel_rfl) (fun _ _ _ h => h) (Or.inl ⟨by kernel_rfl, (by intro w' _; go_simp; with_reducible rfl)⟩) hS ?_
    go_simp
    refine wpAnyH_take (i := 1) rfl (by kernel_rfl) (by kernel_rfl) (by kernel_rfl) (fun _ _ _ h => h) (Or.inl ⟨by kernel_rfl, (by intro w' _; go_simp; with_reducible rfl)⟩) hS ?_
    go_simp
    refine wpAnyH_take (i := 2) (v := .string num) rfl (by kernel_rfl) (by kernel_rfl) (by kernel_rfl) (fun _ _ _ h => h) (Or.inl ⟨by kernel_rfl, (by intro w' hw'; obtain ⟨q0, q1, q2⟩ := hw'.cells; go_simp)⟩) hS ?_
    go_simp
    refine wpAnyH_take (i := 4) rfl (by kernel_rfl) (by kernel_rfl) (by kernel_rfl) (fun _ _ _ h => h) (Or.inl ⟨by kernel_rfl, (by intro w' _; go_simp; with_reducible rfl)⟩) hS ?_
    go_simp
    refine wpAnyH_take (i := 5) (v := .string den) rfl (by kernel_rfl) (by kernel_rfl) (by kernel_rfl) (fun _ _ _ h => h) (Or.inl ⟨by kernel_rfl, (by intro w' hw'; obtain ⟨q0, q1, q2⟩ := hw'.cells; go_simp)⟩) hS ?_
    go_simp
    refine wpAnyH_ready (rs := [3]) (by kernel_rfl) (by simp) ?_
    refine AllReadyH.cons rfl (fun K hK => ?_) AllReadyH.nil
    go_simp
    refine (rstr_calls B A1 c1 b1 num _ HO0.out hB0 (by omega) (by omega) b2 HB2.out).mono ?_
    rintro e w2 ⟨A2, c2, rfl, ho, hb, hk⟩
    have hS2 := hS.keepB hk
    have HO2 := Lib.hid ho
    have HBe2 : Hid (Below B w w2) := HBe0.out.trans hb
    have HK2 : Hid (KeepB w w2) := HK0.out.trans hk
    have hB2 : B ≤ w2.heap.size := Nat.le_trans hB0 hb.size
    clear ho hb hk
    refine hK.out _ _ hS2 (fun _ => ?_)
    clear hK K
    refine wpAnyH_ready (rs := [6]) (by kernel_rfl) (by simp) ?_
    refine AllReadyH.cons rfl (fun K hK => ?_) AllReadyH.nil
    go_simp
    refine (rstr_calls B A2 c2 b2 den _ HO2.out hB2 (by omega) (by omega) bs' HB'.out).mono ?_
    rintro e w3 ⟨A3, c3, rfl, ho, hb, hk⟩
    have hS3 := hS2.keepB hk
    have HO3 := Lib.hid ho
    have HBe3 : Hid (Below B w w3) := HBe2.out.trans hb
    have HK3 : Hid (KeepB w w3) := HK2.out.trans hk
    clear ho hb hk
    refine hK.out _ _ hS3 (fun _ => ?_)
    clear hK K
    refine wpAnyH_take (i := 7) rfl (by kernel_rfl) (by kernel_rfl) (by kernel_rfl) (fun _ _ _ h => h) (Or.inl ⟨by kernel_rfl, (by intro w' _; go_simp; with_reducible rfl)⟩) hS3 ?_
    go_simp
    refine wpAnyH_done (by kernel_rfl) ?_ _
    go_wp2_with fail
    go_ret
    exact ⟨A3, c3, rfl, HO3.out, HBe3.out, HK3.out⟩

end Go.Proofs.YtcljkdjmmolfoaaDoor

/- codec.encode. -/
set_option linter.unusedVariables false
set_option linter.unusedSimpArgs false
namespace Go.Proofs.YtcljkdjmmolfoaaDoor
open Go.RowKit

/-- a number of three cells -/
structure RQ where
  neg : Bool
  num : ByteArray
  den : ByteArray
def RQ.cells (q : RQ) : List Value := [.bool q.neg, .string q.num, .string q.den]
def RQ.bytes (q : RQ) : List Nat := ratB q.neg q.num q.den
def RQ.ok (q : RQ) : Bool := decide (q.num.size ≤ 4096) && (decide (q.den.size ≤ 4096) && vld q.neg q.num q.den)
def RQ.fits (q : RQ) : Prop := q.num.size ≤ maxLen ∧ q.den.size ≤ maxLen
def legV (p : Int × Int) : List Value := [.int .i64 p.1, .int .i64 p.2]
def optV (p : RQ × Int) : List Value := [.bool p.1.neg, .string p.1.num, .string p.1.den, .int .i64 p.2]
structure Pay where
  debt : Int
  estate : Int
  claim : Int
  cents : Int
def payV (p : Pay) : List Value := [.int .i64 p.debt, .int .i64 p.estate, .int .i64 p.claim, .int .i64 p.cents]
def legB (p : Int × Int) : List Nat := numsB [p.1, p.2]
def legOk (p : Int × Int) : Bool := [p.1, p.2].all rngN
def optB (p : RQ × Int) : List Nat := p.1.bytes ++ numsB [p.2]
def optOk (p : RQ × Int) : Bool := p.1.ok && [p.2].all rngN
def payB (p : Pay) : List Nat := numsB [p.debt, p.estate, p.claim] ++ vint (zig p.cents)
def payOk (p : Pay) : Bool := [p.debt, p.estate, p.claim].all rngN && rngN p.cents
def i64b (x : Int) : Prop := -9223372036854775808 ≤ x ∧ x ≤ 9223372036854775807

def recObj (z1 z2 z3 z4 z5 z6 : Int) (an : Bool) (as_ ad_ : ByteArray) (cn : Bool) (cs cd : ByteArray) (A1 : Option Addr) (n1 c1 : Nat) (A2 : Option Addr) (n2 c2 : Nat) (A3 : Option Addr) (n3 c3 : Nat) : Obj := .cells #[.int .i64 z1, .int .i64 z2, .int .i64 z3, .int .i64 z4, .int .i64 z5, .int .i64 z6, .bool an, .string as_, .string ad_, .bool cn, .string cs, .string cd, .slice A1 n1 c1, .slice A2 n2 c2, .slice A3 n3 c3] 37 (0, 0)
def actObj (z1 z2 z3 z4 z5 z6 : Int) (an : Bool) (as_ ad_ : ByteArray) (cn : Bool) (cs cd : ByteArray) (A1 : Option Addr) (n1 c1 : Nat) (A2 : Option Addr) (n2 c2 : Nat) (A3 : Option Addr) (n3 c3 : Nat) : Obj := .cells #[.int .i64 z1, .int .i64 z2, .int .i64 z3, .int .i64 z4, .int .i64 z5, .int .i64 z6, .bool an, .string as_, .string ad_, .bool cn, .string cs, .string cd, .slice A1 n1 c1, .slice A2 n2 c2] 34 (0, 0)
theorem KeepT.recG {g q : Nat} {W W' : World} (z1 z2 z3 z4 z5 z6 : Int) (an : Bool) (as_ ad_ : ByteArray) (cn : Bool) (cs cd : ByteArray) (A1 : Option Addr) (n1 c1 : Nat) (A2 : Option Addr) (n2 c2 : Nat) (A3 : Option Addr) (n3 c3 : Nat) (h : KeepT g W W') (hr : W.heap[q]? = some (recObj z1 z2 z3 z4 z5 z6 an as_ ad_ cn cs cd A1 n1 c1 A2 n2 c2 A3 n3 c3)) (hq : q ≠ g) : W'.heap[q]? = some (recObj z1 z2 z3 z4 z5 z6 an as_ ad_ cn cs cd A1 n1 c1 A2 n2 c2 A3 n3 c3) := h _ _ _ _ hr (by decide) hq
theorem KeepT.actG {g q : Nat} {W W' : World} (z1 z2 z3 z4 z5 z6 : Int) (an : Bool) (as_ ad_ : ByteArray) (cn : Bool) (cs cd : ByteArray) (A1 : Option Addr) (n1 c1 : Nat) (A2 : Option Addr) (n2 c2 : Nat) (A3 : Option Addr) (n3 c3 : Nat) (h : KeepT g W W') (hr : W.heap[q]? = some (actObj z1 z2 z3 z4 z5 z6 an as_ ad_ cn cs cd A1 n1 c1 A2 n2 c2 A3 n3 c3)) (hq : q ≠ g) : W'.heap[q]? = some (actObj z1 z2 z3 z4 z5 z6 an as_ ad_ cn cs cd A1 n1 c1 A2 n2 c2 A3 n3 c3) := h _ _ _ _ hr (by decide) hq
theorem blk_allocT {w : World} {g : Nat} {o o' : Obj} (h : w.heap[g]? = some o) : (w.alloc o').heap[g]? = some o :=
  (Below.heap_alloc w o' g (Array.getElem?_eq_some_iff.1 h).1).trans h
theorem act_cellsG {W : World} {q : Nat} (z1 z2 z3 z4 z5 z6 : Int) (an : Bool) (as_ ad_ : ByteArray) (cn : Bool) (cs cd : ByteArray) (A1 : Option Addr) (n1 c1 : Nat) (A2 : Option Addr) (n2 c2 : Nat) (A3 : Option Addr) (n3 c3 : Nat) (h : W.heap[q]? = some (actObj z1 z2 z3 z4 z5 z6 an as_ ad_ cn cs cd A1 n1 c1 A2 n2 c2 A3 n3 c3)) : W.cell? ⟨q, 0, none⟩ = some (.int .i64 z1) ∧ W.cell? ⟨q, 1, none⟩ = some (.int .i64 z2) ∧ W.cell? ⟨q, 2, none⟩ = some (.int .i64 z3) ∧ W.cell? ⟨q, 3, none⟩ = some (.int .i64 z4) ∧ W.cell? ⟨q, 4, none⟩ = some (.int .i64 z5) ∧ W.cell? ⟨q, 5, none⟩ = some (.int .i64 z6) ∧ W.cell? ⟨q, 6, none⟩ = some (.bool an) ∧ W.cell? ⟨q, 7, none⟩ = some (.string as_) ∧ W.cell? ⟨q, 8, none⟩ = some (.string ad_) ∧ W.cell? ⟨q, 9, none⟩ = some (.bool cn) ∧ W.cell? ⟨q, 10, none⟩ = some (.string cs) ∧ W.cell? ⟨q, 11, none⟩ = some (.string cd) ∧ W.cell? ⟨q, 12, none⟩ = some (.slice A1 n1 c1) ∧ W.cell? ⟨q, 13, none⟩ = some (.slice A2 n2 c2) := by
  refine ⟨?_, ?_, ?_, ?_, ?_, ?_, ?_, ?_, ?_, ?_, ?_, ?_, ?_, ?_⟩
  · rw [cell_of_row W q 0 _ _ (0, 0) h]; rfl
  · rw [cell_of_row W q 1 _ _ (0, 0) h]; rfl
  · rw [cell_of_row W q 2 _ _ (0, 0) h]; rfl
  · rw [cell_of_row W q 3 _ _ (0, 0) h]; rfl
  · rw [cell_of_row W q 4 _ _ (0, 0) h]; rfl
  · rw [cell_of_row W q 5 _ _ (0, 0) h]; rfl
  · rw [cell_of_row W q 6 _ _ (0, 0) h]; rfl
  · rw [cell_of_row W q 7 _ _ (0, 0) h]; rfl
  · rw [cell_of_row W q 8 _ _ (0, 0) h]; rfl
  · rw [cell_of_row W q 9 _ _ (0, 0) h]; rfl
  · rw [cell_of_row W q 10 _ _ (0, 0) h]; rfl
  · rw [cell_of_row W q 11 _ _ (0, 0) h]; rfl
  · rw [cell_of_row W q 12 _ _ (0, 0) h]; rfl
  · rw [cell_of_row W q 13 _ _ (0, 0) h]; rfl
theorem rec_cellsG {W : World} {q : Nat} (z1 z2 z3 z4 z5 z6 : Int) (an : Bool) (as_ ad_ : ByteArray) (cn : Bool) (cs cd : ByteArray) (A1 : Option Addr) (n1 c1 : Nat) (A2 : Option Addr) (n2 c2 : Nat) (A3 : Option Addr) (n3 c3 : Nat) (h : W.heap[q]? = some (recObj z1 z2 z3 z4 z5 z6 an as_ ad_ cn cs cd A1 n1 c1 A2 n2 c2 A3 n3 c3)) : W.cell? ⟨q, 14, none⟩ = some (.slice A3 n3 c3) := by
  rw [cell_of_row W q 14 _ _ (0, 0) h]; rfl

/-- the bytes of a record -/
def encB (zs : List Int) (a c : RQ) (legs : List (Int × Int)) (opts : List (RQ × Int)) (pays : List Pay) : List Nat :=
  numsB zs ++ a.bytes ++ c.bytes ++ numsB [(legs.length : Int)] ++ legs.flatMap legB ++ numsB [(opts.length : Int)] ++ opts.flatMap optB ++ numsB [(pays.length : Int)] ++ pays.flatMap payB
/-- its numbers are valid -/
def encOk (zs : List Int) (a c : RQ) (legs : List (Int × Int)) (opts : List (RQ × Int)) (pays : List Pay) : Bool :=
  zs.all rngN && a.ok && c.ok && [(legs.length : Int)].all rngN && legs.all legOk && [(opts.length : Int)].all rngN && opts.all optOk && [(pays.length : Int)].all rngN && pays.all payOk

set_option maxHeartbeats 1000000 in
set_option maxRecDepth 100000 in
theorem encode_many (z1 z2 z3 z4 z5 z6 : Int) (an : Bool) (as_ ad_ : ByteArray) (cn : Bool) (cs cd : ByteArray) (A1 : Option Addr) (n1 c1 : Nat) (A2 : Option Addr) (n2 c2 : Nat) (A3 : Option Addr) (n3 c3 : Nat) (w : World) (h : 8 < n1 ∨ 4 < n2 ∨ 256 < n3) (h1 : n1 ≤ maxLen) (h2 : n2 ≤ maxLen) (h3 : n3 ≤ maxLen) :
    Calls Tryd.prog 27 #[.agg #[.int .i64 z1, .int .i64 z2, .int .i64 z3, .int .i64 z4, .int .i64 z5, .int .i64 z6, .bool an, .string as_, .string ad_, .bool cn, .string cs, .string cd, .slice A1 n1 c1, .slice A2 n2 c2, .slice A3 n3 c3]] w fun e w' => e = .returned (.tuple #[.slice none 0 0, .bool false]) ∧ Below w.heap.size w w' := by
  unfold maxLen at h1 h2 h3
  by_cases g1 : 8 < n1
  · have t1 : decide ((8 : Int) < (n1 : Int)) = true := decide_eq_true (by omega)
    clear h
    go_enter Tryd.func27, Tryd.ntmps27
    go_wp2_with fail
    go_ret2
    exact ⟨rfl, ((Below.refl _ _).alloc (Nat.le_refl _) _).alloc (by simp) _⟩
  · have t1 : decide ((8 : Int) < (n1 : Int)) = false := decide_eq_false (by omega)
    by_cases g2 : 4 < n2
    · have t2 : decide ((4 : Int) < (n2 : Int)) = true := decide_eq_true (by omega)
      clear h
      go_enter Tryd.func27, Tryd.ntmps27
      go_wp2_with fail
      go_ret2
      exact ⟨rfl, ((Below.refl _ _).alloc (Nat.le_refl _) _).alloc (by simp) _⟩
    · have t2 : decide ((4 : Int) < (n2 : Int)) = false := decide_eq_false (by omega)
      have t3 : decide ((256 : Int) < (n3 : Int)) = true := decide_eq_true (by omega)
      clear h
      go_enter Tryd.func27, Tryd.ntmps27
      go_wp2_with fail
      go_ret2
      exact ⟨rfl, ((Below.refl _ _).alloc (Nat.le_refl _) _).alloc (by simp) _⟩

end Go.Proofs.YtcljkdjmmolfoaaDoor

/- insolvencyref33: small, ints. -/
set_option linter.unusedVariables false
set_option linter.unusedSimpArgs false
namespace Go.Proofs.YtcljkdjmmolfoaaDoor
open Go.RowKit

set_option maxHeartbeats 1000000 in
theorem small_calls (z : Int) (w : World) : Calls Tryd.prog 35 #[.int .i64 z] w fun e w' => e = .returned (.bool (rngN z)) ∧ w' = w := by
  unfold rngN
  by_cases h1 : (-1125899906842624 : Int) ≤ z
  · have d1 : decide ((-1125899906842624 : Int) ≤ z) = true := decide_eq_true h1
    by_cases h2 : z ≤ 1125899906842624
    · have d2 : decide (z ≤ (1125899906842624 : Int)) = true := decide_eq_true h2
      go_enter Tryd.func35, Tryd.ntmps35
      go_wp2_with fail
      go_ret
      exact ⟨by simp [d1, d2], rfl⟩
    · have d2 : decide (z ≤ (1125899906842624 : Int)) = false := decide_eq_false h2
      go_enter Tryd.func35, Tryd.ntmps35
      go_wp2_with fail
      go_ret
      exact ⟨by simp [d1, d2], rfl⟩
  · have d1 : decide ((-1125899906842624 : Int) ≤ z) = false := decide_eq_false h1
    go_enter Tryd.func35, Tryd.ntmps35
    go_wp2_with fail
    go_ret
    exact ⟨by simp [d1], rfl⟩

set_option maxHeartbeats 2000000 in
set_option maxRecDepth 100000 in
theorem ints_calls (z1 z2 z3 z4 z5 z6 : Int) (an : Bool) (as_ ad_ : ByteArray) (cn : Bool) (cs cd : ByteArray) (A1 : Option Addr) (n1 c1 : Nat) (A2 : Option Addr) (n2 c2 : Nat) (w : World) :
    Calls Tryd.prog 34 #[.agg #[.int .i64 z1, .int .i64 z2, .int .i64 z3, .int .i64 z4, .int .i64 z5, .int .i64 z6, .bool an, .string as_, .string ad_, .bool cn, .string cs, .string cd, .slice A1 n1 c1, .slice A2 n2 c2]] w fun e w' =>
      e = .returned (.slice (some ⟨w.heap.size + 1, 0, none⟩) 6 6) ∧ w'.heap[w.heap.size + 1]? = some (.cells #[.int .i64 z1, .int .i64 z2, .int .i64 z3, .int .i64 z4, .int .i64 z5, .int .i64 z6] 3 (0, 0)) ∧ Below w.heap.size w w' ∧ KeepB w w' := by
  go_enter Tryd.func34, Tryd.ntmps34
  go_wp2_with fail
  go_ret
  refine ⟨by simp, ?_, ((Below.refl _ _).alloc (Nat.le_refl _) _).alloc (by simp) _, ((KeepB.refl _).alloc _).alloc _⟩
  have := blk_new (w.alloc (.cells #[.int .i64 z1, .int .i64 z2, .int .i64 z3, .int .i64 z4, .int .i64 z5, .int .i64 z6, .bool an, .string as_, .string ad_, .bool cn, .string cs, .string cd, .slice A1 n1 c1, .slice A2 n2 c2] 34)) (.cells #[.int .i64 z1, .int .i64 z2, .int .i64 z3, .int .i64 z4, .int .i64 z5, .int .i64 z6] 3)
  rw [World.size_alloc] at this
  exact this

end Go.Proofs.YtcljkdjmmolfoaaDoor

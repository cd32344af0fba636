/- CodecChange: the plain walk. -/
import Derived.Test.YtcljkdjmmolfoaaDoorM9
import Derived.Test.YtcljkdjmmolfoaaDoorM8
import Derived.Deep.QuietTactic
import Derived.StillTailTactics
set_option linter.unusedVariables false
set_option linter.unusedSimpArgs false
namespace Go.Proofs.YtcljkdjmmolfoaaDoor
open Go.RowKit

theorem bel_allocV (w : World) (o : Obj) : Below w.heap.size w (w.alloc o) := (Below.refl _ _).alloc (Nat.le_refl _) _

theorem ad_fst (l : List Nat) : (ad l).1 = (1 + l.sum) % 65521 := by
  have h : ∀ (l : List Nat) (s : Nat × Nat), s.1 < 65521 → (l.foldl adStep s).1 = (s.1 + l.sum) % 65521 := by
    intro l
    induction l with
    | nil => intro s hs; simp; omega
    | cons x l ih =>
      intro s hs
      rw [List.foldl_cons, ih _ (Nat.mod_lt _ (by decide)), List.sum_cons, adStep]
      simp only
      omega
  exact h l (1, 0) (by decide)

theorem sum_set (l : List Nat) (k x : Nat) (hk : k < l.length) : (l.set k x).sum + l.getD k 0 = l.sum + x := by
  induction l generalizing k with
  | nil => simp at hk
  | cons y l ih =>
    cases k with
    | zero => simp; omega
    | succ k =>
      have := ih k (by simpa using hk)
      simp only [List.set_cons_succ, List.sum_cons, List.getD_cons_succ]
      omega

theorem adV_change {l : List Nat} {k x : Nat} (hb : Byt l) (hk : k < l.length) (hx : x < 256) (hne : x ≠ l.getD k 0) : adV l ≠ adV (l.set k x) := by
  intro e
  have h1 := ad_lt l
  have h2 := ad_lt (l.set k x)
  have e1 : (ad l).1 = (ad (l.set k x)).1 := by
    unfold adV at e
    omega
  rw [ad_fst, ad_fst] at e1
  have h3 := sum_set l k x hk
  have h4 := byt_getD hb k
  omega

theorem xor_ne {x b : Nat} (hx : x < 256) (hb : b < 256) (h0 : b ≠ 0) : bits .xor .u8 (x : Int) (b : Int) = ((x ^^^ b : Nat) : Int) ∧ x ^^^ b ≠ x ∧ x ^^^ b < 256 := by
  have h : x ^^^ b < 2 ^ 8 := Nat.xor_lt_two_pow (by omega) (by omega)
  refine ⟨?_, fun e => h0 ?_, by omega⟩
  · simp only [bits, BitVec.toNat_xor, BitVec.toNat_ofInt]
    have e1 : ((x : Int) % ((2 ^ IntKind.u8.bits : Nat) : Int)).toNat = x := by
      rw [← Int.natCast_emod, Int.toNat_natCast]; exact Nat.mod_eq_of_lt hx
    have e2 : ((b : Int) % ((2 ^ IntKind.u8.bits : Nat) : Int)).toNat = b := by
      rw [← Int.natCast_emod, Int.toNat_natCast]; exact Nat.mod_eq_of_lt hb
    rw [e1, e2, IntKind.wrap_u8]
    omega
  · have := congrArg (x ^^^ ·) e
    simp only [← Nat.xor_assoc, Nat.xor_self, Nat.zero_xor] at this
    exact this

set_option maxHeartbeats 4000000 in
set_option maxRecDepth 100000 in
theorem codecChangeLaw (A : Option Addr) (c : Nat) (l : List Nat) (at_ by_ : Nat) (w : World) (hr : KRd .u8 w w.heap.size A l) (hb : Byt l) (hl : l.length ≤ maxLen) (hn : at_ ≤ 65535) (hy : by_ ≤ 255) :
    Calls Tryd.prog 4 #[.slice A l.length c, .int .u16 (at_ : Int), .int .u8 (by_ : Int)] w fun e w' => e = .returned (.bool true) ∧ Below w.heap.size w w' := by
  unfold maxLen at hl
  by_cases hz : l.length = 0
  · rw [hz]
    clear hr hb hl
    go_enter Tryd.func4, Tryd.ntmps4
    go_wp2_with fail
    refine (awake35_calls _).mono ?_
    rintro e w1 ⟨rfl, hb1⟩
    go_wp2_with fail
    go_ret
    exact ⟨rfl, hb1⟩
  · have hz0 : ((l.length : Int) == 0) = false := by rw [beq_eq_false_iff_ne]; omega
    by_cases hbig : 300 < l.length
    · have hd : decide ((300 : Int) < (l.length : Int)) = true := decide_eq_true (by omega)
      clear hr hb
      go_enter Tryd.func4, Tryd.ntmps4
      go_wp2_with fail
      refine (awake35_calls _).mono ?_
      rintro e w1 ⟨rfl, hb1⟩
      go_wp2_with fail
      go_ret
      exact ⟨rfl, hb1⟩
    · have hd : decide ((300 : Int) < (l.length : Int)) = false := decide_eq_false (by omega)
      by_cases hy0 : by_ = 0
      · subst hy0
        clear hr hb
        go_enter Tryd.func4, Tryd.ntmps4
        go_wp2_with fail
        refine (awake35_calls _).mono ?_
        rintro e w1 ⟨rfl, hb1⟩
        go_wp2_with fail
        go_ret
        exact ⟨rfl, hb1⟩
      · have hy1 : ((by_ : Int) == 0) = false := by rw [beq_eq_false_iff_ne]; omega
        have HR := Lib.hid hr
        have HBY := Lib.hid hb
        obtain ⟨b, off, rfl, hbl, hcell⟩ := hr.open_ (by omega)
        obtain ⟨i0, hi, hz0', hz1, hz2⟩ := info_parts Tryd.info_u8
        have HI0 : Hid (Tryd.prog.info? 5 = some i0 ∧ i0.zero = some (.int .u8 0) ∧ i0.size = 1 ∧ i0.bytes = 1) := ⟨hi, hz0', hz1, hz2⟩
        have HC := Lib.hid hcell
        obtain ⟨m, hm⟩ : ∃ m, m = l.length := ⟨_, rfl⟩
        have hown0 : (w.alloc (.cells #[] 5)).ownsRow w.heap.size 5 1 (.slice (some ⟨w.heap.size, 0, none⟩) 0 0) 0 [] :=
          ⟨rfl, .inr ⟨w.heap.size, 0, #[], rfl, Nat.le_refl _, heap_alloc_new _ _, Nat.le_refl _, by simp [maxLen], rfl, rfl⟩⟩
        have HOW := Lib.hid hown0
        clear hr hb hcell hi hz0' hz1 hz2 hown0
        rw [← hm] at hz hz0 hbig hd hl ⊢
        have HM := Lib.hid hm
        clear hm
        have HNW : Hid (∀ (j : Nat) (u : Value), (u8s l)[j]? = some u → (w.alloc (.cells #[] 5)).cell? ((⟨b, off, none⟩ : Addr).add j) = some u) := by
          intro j u hu
          rw [Addr.add_lit, World.cell?_alloc_lt _ _ _ hbl]
          unfold u8s at hu
          rw [List.getElem?_map] at hu
          rcases hj : l[j]? with _ | x
          · rw [hj] at hu; simp at hu
          · rw [hj] at hu
            simp only [Option.map_some, Option.some.injEq] at hu
            subst hu
            exact HC.out j x hj
        have HLN : Hid ((u8s l).length = m * 1) := by show _ = _; rw [u8s_len, HM.out, Nat.mul_one]
        have hk0 : (at_ : Int) % (m : Int) = ((at_ % m : Nat) : Int) := rfl
        obtain ⟨k, hk⟩ : ∃ k, k = at_ % m := ⟨_, rfl⟩
        rw [← hk] at hk0
        have hkm : k < m := by rw [hk]; exact Nat.mod_lt _ (by omega)
        clear hk HC
        have H1' := fun W (hW : Below w.heap.size w W) => sum_calls (some ⟨b, off, none⟩) c l W (HR.out.next hW) HBY.out (by rw [← HM.out]; omega)
        rw [← HM.out] at H1'
        have H1 := Lib.hid H1'
        clear H1'
        go_enter Tryd.func4, Tryd.ntmps4
        go_wp2_with (at_builtin; refine wpList_append_own _ rfl (.tmp 22) (.tmp 23) 22 rfl w.heap.size 5 i0 (.int .u8 0) 1 1 Tryd.underlying22 HI0.out.1 HI0.out.2.1 HI0.out.2.2.1 HI0.out.2.2.2 rfl (by decide) _ 0 [] rfl HOW.out ⟨b, off, none⟩ m c (u8s l) rfl HLN.out HNW.out (by intro u hu; obtain ⟨x, _, rfl⟩ := List.mem_map.1 hu; rfl) (by simp only [maxLen]; omega) (by omega) (by simp) ?_)
        intro v' w3 hown' hg3 hnil
        have hb3 : Below w.heap.size w w3 := Below.grown (bel_allocV w _) hg3 (by simp) (fun q hq => (HOW.out.lt q hq).1)
        obtain ⟨g, cap, rfl, hge, hgl⟩ := hown'.form (by omega)
        have hrow : KRow .u8 5 w3 g l := KRow.of_own hown'
        obtain ⟨x, hx⟩ : ∃ x, x = l.getD k 0 := ⟨_, rfl⟩
        have hc := hrow.getD (j := k) (by rw [← HM.out]; exact hkm)
        rw [← hx] at hc
        have hxl : x < 256 := by rw [hx]; exact byt_getD HBY.out k
        obtain ⟨xe, xn, xl⟩ := xor_ne hxl (by omega) hy0
        obtain ⟨z, hz⟩ : ∃ z, z = x ^^^ by_ := ⟨_, rfl⟩
        rw [← hz] at xe xn xl
        have HV : Hid (adV l ≠ adV (l.set k z)) := adV_change HBY.out (by rw [← HM.out]; exact hkm) xl (by rw [← hx]; exact xn)
        have hfr := hrow.frozen k
        have hsz := hrow.lt
        have HROW := Lib.hid hrow
        have HB3 := Lib.hid hb3
        clear hx hz hown' hg3 hnil hb3 hrow hxl xn
        have hrow4 : KRow .u8 5 (w3.setCell ⟨g, k, none⟩ (.int .u8 (z : Int))) g (l.set k z) := HROW.out.set_ k z
        have hb4 : Below w.heap.size w (w3.setCell ⟨g, k, none⟩ (.int .u8 (z : Int))) := HB3.out.setCell hge _
        have hbz : Byt (l.set k z) := by
          intro y hy
          rcases List.mem_or_eq_of_mem_set hy with h | h
          · exact HBY.out y h
          · omega
        have H2' := fun W (hW : Below (w3.setCell ⟨g, k, none⟩ (.int .u8 (z : Int))).heap.size (w3.setCell ⟨g, k, none⟩ (.int .u8 (z : Int))) W) => sum_calls (some ⟨g, 0, none⟩) cap (l.set k z) W (hrow4.rd.next hW) hbz (by rw [List.length_set, ← HM.out]; omega)
        rw [List.length_set, ← HM.out] at H2'
        obtain ⟨p, hp⟩ : ∃ p, p = adV l := ⟨_, rfl⟩
        obtain ⟨q, hq⟩ : ∃ q, q = adV (l.set k z) := ⟨_, rfl⟩
        have hpq : p ≠ q := by rw [hp, hq]; exact HV.out
        rw [← hq] at H2'
        rw [← hp] at H1
        have H2 := Lib.hid H2'
        have HB4 := Lib.hid hb4
        have t1 : ((p : Int) != (q : Int)) = true := by simp; omega
        have t2 : ((p : Int) == (q : Int)) = false := by rw [beq_eq_false_iff_ne]; omega
        have t3 : (p == q) = false := by rw [beq_eq_false_iff_ne]; exact hpq
        clear H2' hrow4 hb4 hbz hp hq
        go_wp2_with fail
        refine (awake35_calls _).mono ?_
        rintro e w5 ⟨rfl, hb5⟩
        have HB5 : Hid (Below w.heap.size w w5) := HB4.out.trans (hb5.mono HB4.out.size)
        have HC5 := Lib.hid hb5
        clear hb5
        go_wp2_with fail
        refine (H1.out _ HB5.out).mono ?_
        rintro e w6 ⟨rfl, rfl⟩
        go_wp2_with fail
        refine (H2.out _ HC5.out).mono ?_
        rintro e w6 ⟨rfl, rfl⟩
        go_wp2_with fail
        go_ret
        exact ⟨by first | rfl | simp [t1, t2, t3], HB5.out⟩

end Go.Proofs.YtcljkdjmmolfoaaDoor

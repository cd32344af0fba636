/- CodecSum: the plain walk. -/
import Derived.Test.YtcljkdjmmolfoaaDoorAwake35
set_option linter.unusedVariables false
set_option linter.unusedSimpArgs false
namespace Go.Proofs.YtcljkdjmmolfoaaDoor
open Go.RowKit

theorem ff_step {m k : Nat} {xs : List Nat} (hl : xs.length = m) (hk : k < m) (hp : ∀ j, j < k → xs.getD j 0 = 255) :
    (xs.set k 255).length = m ∧ ∀ j, j < k + 1 → (xs.set k 255).getD j 0 = 255 := by
  refine ⟨by simp [hl], fun j hj => ?_⟩
  by_cases e : j = k
  · subst e; simp [List.getD, List.getElem?_set, hl, hk]
  · have h1 := hp j (by omega)
    simp only [List.getD, List.getElem?_set, if_neg (Ne.symm e)] at h1 ⊢
    exact h1
theorem ff_end {m : Nat} {xs : List Nat} (hl : xs.length = m) (hp : ∀ j, j < m → xs.getD j 0 = 255) : xs = List.replicate m 255 := by
  apply List.ext_getElem
  · simp [hl]
  · intro i h1 h2
    have := hp i (by omega)
    simp only [List.getD, List.getElem?_eq_getElem h1, Option.getD_some] at this
    rw [this]; simp
theorem ff_byt (m : Nat) : Byt (List.replicate m 255) := by intro x hx; rw [(List.mem_replicate.1 hx).2]; omega

set_option maxHeartbeats 4000000 in
set_option maxRecDepth 100000 in
theorem codecSumLaw (A : Option Addr) (c : Nat) (l : List Nat) (n : Nat) (w : World) (hr : KRd .u8 w w.heap.size A l) (hb : Byt l) (hl : l.length ≤ maxLen) (hn : n ≤ 65535) :
    Calls Tryd.prog 3 #[.slice A l.length c, .int .u16 (n : Int)] w fun e w' => e = .returned (.bool true) ∧ Below w.heap.size w w' := by
  unfold maxLen at hl
  by_cases hbig : 300 < l.length
  · have hd : decide ((300 : Int) < (l.length : Int)) = true := decide_eq_true (by omega)
    clear hr hb
    go_enter Tryd.func3, Tryd.ntmps3
    go_wp2_with fail
    refine (awake35_calls _).mono ?_
    rintro e w1 ⟨rfl, hb1⟩
    go_wp2_with fail
    go_ret
    exact ⟨rfl, hb1⟩
  · have hd : decide ((300 : Int) < (l.length : Int)) = false := decide_eq_false (by omega)
    obtain ⟨m, hm⟩ : ∃ m, m = n % 3000 := ⟨_, rfl⟩
    have hmi : (n : Int) % 3000 = (m : Int) := by omega
    have hml : m < 3000 := by omega
    have hmk := run_make_row' (P := Tryd.prog) 22 5 (.int .u8 0) 1 Tryd.underlying22 Tryd.info_u8 rfl .i64 .i64 m (by omega) (by omega)
    have HR := Lib.hid hr
    have HBY := Lib.hid hb
    obtain ⟨q, hq⟩ : ∃ q, q = l.length := ⟨_, rfl⟩
    have HS1 := fun W (hW : Below w.heap.size w W) => sum_calls A c l W (hr.next hW) hb (by omega)
    have HS2 := fun W (hW : Below w.heap.size w W) => adler_calls A c l W (hr.next hW) hb (by omega)
    rw [← hq] at HS1 HS2 hbig hl hd ⊢
    have H1 := Lib.hid HS1
    have H2 := Lib.hid HS2
    obtain ⟨z, hz⟩ : ∃ z, z = adV l := ⟨_, rfl⟩
    rw [← hz] at H1 H2
    clear hm hr hb hq HS1 HS2 hz HR HBY
    go_enter Tryd.func3, Tryd.ntmps3
    go_wp2_with fail
    go_loopw [17] (fun i wr => ∃ (k : Nat) (xs : List Nat), k ≤ m ∧ i = .int .i64 (k : Int) ∧ KRow .u8 5 wr w.heap.size xs ∧ Hid (xs.length = m ∧ ∀ j, j < k → xs.getD j 0 = 255) ∧ Below w.heap.size w wr) (fun i _ => m - (intOf i).toNat)
    case atStart => exact ⟨0, List.replicate m 0, Nat.zero_le _, rfl, KRow.made _ _ _ rfl, ⟨by simp, fun j hj => by omega⟩, (Below.refl _ _).alloc (Nat.le_refl _) _⟩
    case round =>
      obtain ⟨k, xs, hk, rfl, hrow, HX, hbel⟩ := hrel
      by_cases hlt : k < m
      · have HS := Lib.hid (ff_step HX.out.1 hlt HX.out.2)
        have hfr := hrow.frozen k
        have hc := hrow.getD (j := k) (by rw [HX.out.1]; exact hlt)
        obtain ⟨old, hold⟩ : ∃ old, old = xs.getD k 0 := ⟨_, rfl⟩
        rw [← hold] at hc
        have hsz := hrow.lt
        have HROW := Lib.hid hrow
        have HBEL := Lib.hid hbel
        clear hold hrow hbel HX hmk
        go_wp2_with fail
        go_roundw
        case measure => simp [intOf]; omega
        case rel => exact ⟨k + 1, _, by omega, by go_num, HROW.out.setI k 255 rfl rfl, HS.out, HBEL.out.setCell (by simp) _⟩
      · obtain rfl : k = m := by omega
        have hxe := ff_end HX.out.1 HX.out.2
        rw [hxe] at hrow
        have HBEL := Lib.hid hbel
        have hs3 := fun W (hW : Below wr.heap.size wr W) => sum_calls (some ⟨w.heap.size, 0, none⟩) k (List.replicate k 255) W ((hrow.rd).next hW) (ff_byt k) (by simp; omega)
        have hs4 := fun W (hW : Below wr.heap.size wr W) => adler_calls (some ⟨w.heap.size, 0, none⟩) k (List.replicate k 255) W ((hrow.rd).next hW) (ff_byt k) (by simp; omega)
        rw [List.length_replicate] at hs3 hs4
        have H3 := Lib.hid hs3
        have H4 := Lib.hid hs4
        obtain ⟨y, hy⟩ : ∃ y, y = adV (List.replicate k 255) := ⟨_, rfl⟩
        rw [← hy] at H3 H4
        clear hs3 hs4 hxe hrow hbel HX hmk hy
        go_wp2_with fail
        refine (awake35_calls _).mono ?_
        rintro e w1 ⟨rfl, hb1⟩
        have HB1 : Hid (Below w.heap.size w w1) := HBEL.out.trans (hb1.mono HBEL.out.size)
        have HC1 := Lib.hid hb1
        clear hb1
        go_wp2_with fail
        refine (H1.out _ HB1.out).mono ?_
        rintro e w2 ⟨rfl, rfl⟩
        go_wp2_with fail
        refine (H2.out _ HB1.out).mono ?_
        rintro e w2 ⟨rfl, rfl⟩
        go_wp2_with fail
        refine (H3.out _ HC1.out).mono ?_
        rintro e w2 ⟨rfl, rfl⟩
        go_wp2_with fail
        refine (H4.out _ HC1.out).mono ?_
        rintro e w2 ⟨rfl, rfl⟩
        go_wp2_with fail
        go_ret
        exact ⟨rfl, HB1.out⟩

end Go.Proofs.YtcljkdjmmolfoaaDoor

/- insolvencylaw26: the sanity check and the walks of the two laws on Exposure. -/
import Derived.Test.YtdkllifoglibcaaExpo
import Derived.Test.YtdkllifoglibcaaGen
set_option linter.unusedVariables false
set_option linter.unusedSimpArgs false
namespace Go.Proofs.Ytdkllifoglibcaa
open Go.RowKit

theorem awake26_val : expo 0 1 0 0 [⟨0, 1, 0, 1, 100, 0⟩, ⟨0, 2, 1, 0, 120, 0⟩, ⟨0, 1, 0, 1, 50, 0⟩] = 50 := by decide +kernel

theorem rd_new (w : World) (cs : List Value) (t : TypeId) (S n N : Nat) (hN : N = w.heap.size) (hl : cs.length = n * S) : Rd (w.alloc (.cells cs.toArray t)) (w.alloc (.cells cs.toArray t)).heap.size S (some ⟨N, 0, none⟩) n cs := by
  subst hN
  refine ⟨hl, fun _ => ⟨_, _, rfl, by simp, fun j u hu => ?_⟩⟩
  have := new_cells w cs t _ rfl j u hu
  rwa [Addr.add_lit] at this

set_option maxHeartbeats 1000000 in
theorem awake26_calls (w : World) : Calls Try.prog 8 #[] w fun e w' => e = .returned (.bool true) ∧ Below w.heap.size w w' := by
  have HV := Lib.hid awake26_val
  go_enter Try.func8, Try.ntmps8
  go_wp2_with fail
  refine (expo_calls _ _ [⟨0, 1, 0, 1, 100, 0⟩, ⟨0, 2, 1, 0, 120, 0⟩, ⟨0, 1, 0, 1, 50, 0⟩] _ _ _ _ _ (by simp) (rd_new _ _ _ 6 3 _ rfl rfl)).mono ?_
  rintro e w1 ⟨rfl, hb⟩
  rw [HV.out]
  go_wp2
  go_ret
  exact ⟨rfl, ((Below.refl _ _).alloc (Nat.le_refl _) _).trans (hb.mono (by simp))⟩

set_option maxHeartbeats 2000000 in
theorem exposureLaw (A0 : Option Addr) (c0 : Nat) (l0 : List Row) (A1 : Option Addr) (c1 : Nat) (l1 : List W5) (a2 a3 a4 a5 : Int) (w : World) (r0 : RowsRd w w.heap.size A0 l0) (n0 : l0.length ≤ maxLen)
    (r1 : W5Rd w w.heap.size A1 l1) (o1 : ∀ r ∈ l1, r.ok) (n1 : l1.length ≤ maxLen) (b2 : -128 ≤ a2 ∧ a2 ≤ 127) (b3 : -128 ≤ a3 ∧ a3 ≤ 127) (b4 : 0 ≤ a4 ∧ a4 ≤ 255) (b5 : 0 ≤ a5 ∧ a5 ≤ 255) :
    Calls Try.prog 3 #[.slice A0 l0.length c0, .slice A1 l1.length c1, .int .i8 a2, .int .i8 a3, .int .u8 a4, .int .u8 a5] w fun e w' => e = .returned (.bool true) ∧ Below w.heap.size w w' := by
  unfold maxLen at n0 n1
  by_cases hg : l0.length > 12 ∨ l1.length > 24
  · go_enter Try.func3, Try.ntmps3
    by_cases h0 : l0.length > 12
    · go_wp2_with (go_at_call 8; refine (awake26_calls _).mono ?_; rintro e w1 ⟨rfl, hb⟩)
      go_ret
      exact ⟨rfl, hb⟩
    · have h1 : l1.length > 24 := by omega
      go_wp2_with (go_at_call 8; refine (awake26_calls _).mono ?_; rintro e w1 ⟨rfl, hb⟩)
      go_ret
      exact ⟨rfl, hb⟩
  · have h0 : l0.length ≤ 12 := by omega
    have h1 : l1.length ≤ 24 := by omega
    clear hg
    have HO := Lib.hid o1
    have HB : Below w.heap.size w w := Below.refl _ _
    clear o1
    go_enter Try.func3, Try.ntmps3
    go_wp2_with fail
    refine (rows_calls _ _ l1 _ _ _ (by omega) (by omega) (by omega) (by omega) (by omega) r1 HO.out).mono ?_
    rintro e w1 ⟨A', c', rows, rfl, rx, hlen, -, hb⟩
    replace HB := HB.trans (hb.mono HB.size)
    replace r0 := r0.next hb
    go_wp2_with (first
      | (go_at_call 8; refine (awake26_calls _).mono ?_; rintro e w1 ⟨rfl, hb⟩; replace HB := HB.trans (hb.mono HB.size); replace rx := rx.next hb; replace r0 := r0.next hb)
      | (go_at_call 10; refine (expo_calls _ _ _ _ _ _ _ _ (by omega) (by assumption)).mono ?_; rintro e w1 ⟨rfl, hb⟩; replace HB := HB.trans (hb.mono HB.size); replace rx := rx.next hb; replace r0 := r0.next hb)
      | (go_at_call 11; refine (expoRef_calls _ _ _ _ _ _ _ _ (by omega) (by assumption)).mono ?_; rintro e w1 ⟨rfl, hb⟩; replace HB := HB.trans (hb.mono HB.size); replace rx := rx.next hb; replace r0 := r0.next hb))
    go_ret
    exact ⟨rfl, HB⟩

end Go.Proofs.Ytdkllifoglibcaa

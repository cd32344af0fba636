/- (*tracer).spend -/
import Derived.Test.YtomfcmlomfcghaaGreatDoorM34
import Derived.BigQuiet
import Derived.Deep.QuietTactic
set_option linter.unusedVariables false
set_option linter.unusedSimpArgs false
namespace Go.Proofs.YtomfcmlomfcghaaGreatDoor
open Go.RowKit

def spentW (bx tx am : Int) : Int := if pos (wrap64 (am - wrap64 (pos bx - tx))) < tx then pos (wrap64 (am - wrap64 (pos bx - tx))) else tx
def spendTr (tr : List Int) (x y : Nat) (nn kind : Int) : List Int :=
  if kind = 1 then (tr.set x (wrap64 (tr.getD x 0 - nn))).set y (wrap64 (tr.getD y 0 + nn)) else tr.set x (wrap64 (tr.getD x 0 - nn))
def spendLost (lost nn kind : Int) : Int := if kind = 1 then lost else wrap64 (lost + nn)

theorem Trc.cast {w : World} {p gb gt n cb ct : Nat} {bal tr tr' : List Int} {lost lost' : Int} (h : Trc w p gb gt n cb ct bal tr lost) (h1 : tr = tr') (h2 : lost = lost') : Trc w p gb gt n cb ct bal tr' lost' := by
  subst h1 h2; exact h

set_option maxHeartbeats 2000000 in
set_option maxRecDepth 100000 in
theorem spend_calls (p gb gt n cb ct : Nat) (bal tr : List Int) (lost : Int) (r : Row) (x y : Nat) (w : World) (hTr : Trc w p gb gt n cb ct bal tr lost)
    (hx : payer r = x) (hy : payee r = y) (hxn : x < n) (hyn : y < n) (hxy : x ≠ y) (hk : (r.kind == 3) = true ∨ (r.kind == 3) = false ∧ (r.kind == 1) = true) :
    Calls Tryz.prog 81 #[.pointer (some ⟨p, 0, none⟩), .agg #[.int .i64 r.day, .int .i64 r.kind, .int .i64 r.frm, .int .i64 r.to, .int .i64 r.amount, .int .i64 r.worth]] w fun e w' =>
      e = .returned (.tuple #[]) ∧ Trc w' p gb gt n cb ct bal (spendTr tr x y (spentW (bal.getD x 0) (tr.getD x 0) r.amount) r.kind) (spendLost lost (spentW (bal.getD x 0) (tr.getD x 0) r.amount) r.kind) ∧ Deep p gb gt w w' := by
  obtain ⟨d, k, f, t, a, wo⟩ := r
  dsimp only [payer, payee] at hx hy hk ⊢
  have c0 := hTr.c0
  have c1 := hTr.c1
  have c2 := hTr.c2
  have f2 := hTr.f2 2
  have hp := hTr.plt
  have hgt := hTr.t.lt
  have hgb := hTr.b.lt
  have ktx := hTr.t.getD (k := x) (by rw [hTr.lt]; exact hxn)
  have kty := hTr.t.getD (k := y) (by rw [hTr.lt]; exact hyn)
  have kbx := hTr.b.getD (k := x) (by rw [hTr.lb]; exact hxn)
  obtain ⟨tx, htx⟩ : ∃ tv, tv = tr.getD x 0 := ⟨_, rfl⟩
  obtain ⟨ty, hty⟩ : ∃ tv, tv = tr.getD y 0 := ⟨_, rfl⟩
  obtain ⟨bx, hbx⟩ : ∃ bv, bv = bal.getD x 0 := ⟨_, rfl⟩
  rw [← htx] at ktx
  rw [← hty] at kty
  rw [← hbx] at kbx
  have HP : Hid (∀ (W : World) (t1 : List Int) (l1 : Int), Trc W p gb gt n cb ct bal t1 l1 → t1 = spendTr tr x y (spentW bx tx a) k → l1 = spendLost lost (spentW bx tx a) k →
      Trc W p gb gt n cb ct bal (spendTr tr x y (spentW (bal.getD x 0) (tr.getD x 0) a) k) (spendLost lost (spentW (bal.getD x 0) (tr.getD x 0) a) k)) := by
    intro W t1 l1 hT h1 h2
    rw [← hbx, ← htx]
    exact hT.cast h1 h2
  have HTX := Lib.hid htx
  have HTY := Lib.hid hty
  have HBX := Lib.hid hbx
  have ftx := hTr.t.frozen x
  have fty := hTr.t.frozen y
  have n1 : p ≠ gt := hTr.pt
  clear htx hty hbx
  rcases hk with hk | ⟨hk, hk1⟩
  · have hk' : k = 3 := by simpa using hk
    rw [if_pos hk'] at hx hy
    have HK := Lib.hid hk'
    have hk1 : (k == 1) = false := by simp; omega
    clear hk'
    subst hx hy
    go_enter Tryz.func81, Tryz.ntmps81
    go_wp2_with fail
    all_goals go_quiet (fail)
    all_goals go_wp2_with fail
    all_goals go_quiet (fail)
    all_goals go_wp2_with fail
    all_goals go_quiet (fail)
    all_goals go_wp2_with fail
    all_goals
      go_end0
      refine ⟨rfl, HP.out _ _ _ ((((hTr.alloc _).drewN _).setT _ _).setL _) ?_ ?_, ((((Deep.refl _ _ _ _).alloc _).drewN _).setT _ _).setP _ _⟩
      · unfold spendTr spentW pos
        rw [if_neg (by rw [HK.out]; decide), ← HTX.out]
        repeat' split
        all_goals (try simp only [Int.zero_sub, Int.sub_zero, Int.add_zero] at *)
        all_goals first | rfl | (exfalso; omega) | (simp [Int.sub_self, wrap64]; done) | (trace_state; fail)
      · unfold spendLost spentW pos
        rw [if_neg (by rw [HK.out]; decide)]
        repeat' split
        all_goals (try simp only [Int.zero_sub, Int.sub_zero, Int.add_zero] at *)
        all_goals first | rfl | (exfalso; omega) | (simp [Int.sub_self, wrap64]; done) | (trace_state; fail)
  · have hk' : ¬ k = 3 := by simpa using hk
    have hk2 : k = 1 := by simpa using hk1
    rw [if_neg hk'] at hx hy
    have HK := Lib.hid hk2
    clear hk' hk2
    subst hx hy
    go_enter Tryz.func81, Tryz.ntmps81
    go_wp2_with fail
    all_goals go_quiet (fail)
    all_goals go_wp2_with fail
    all_goals go_quiet (fail)
    all_goals go_wp2_with fail
    all_goals go_quiet (fail)
    all_goals go_wp2_with fail
    all_goals
      go_end0
      refine ⟨rfl, HP.out _ _ _ ((((hTr.alloc _).drewN _).setT _ _).setT _ _) ?_ ?_, ((((Deep.refl _ _ _ _).alloc _).drewN _).setT _ _).setT _ _⟩
      · unfold spendTr spentW pos
        rw [if_pos HK.out, ← HTX.out, ← HTY.out]
        repeat' split
        all_goals (try simp only [Int.zero_sub, Int.sub_zero, Int.add_zero] at *)
        all_goals first | rfl | (exfalso; omega) | (simp [Int.sub_self, wrap64]; done) | (trace_state; fail)
      · unfold spendLost
        rw [if_pos HK.out]

end Go.Proofs.YtomfcmlomfcghaaGreatDoor

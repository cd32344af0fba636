/- (*tracer).clip -/
import Derived.Test.YtlljmiddgadcpaaTrc
set_option linter.unusedVariables false
set_option linter.unusedSimpArgs false
namespace Go.Proofs.Ytlljmiddgadcpaa
open Go.RowKit

/-- max(n, 0) as the walk spells it -/
def pos (n : Int) : Int := if n < 0 then 0 else n
def clipOneW (bal tr : List Int) (lost : Int) (k : Nat) : List Int × Int :=
  if pos (bal.getD k 0) < tr.getD k 0 then (tr.set k (pos (bal.getD k 0)), wrap64 (lost + wrap64 (tr.getD k 0 - pos (bal.getD k 0)))) else (tr, lost)
def clipToW (bal : List Int) : Nat → List Int × Int → List Int × Int
  | 0, s => s
  | k + 1, s => let s' := clipToW bal k s; clipOneW bal s'.1 s'.2 k

theorem clipToW_len (bal : List Int) (s : List Int × Int) : ∀ k, (clipToW bal k s).1.length = s.1.length
  | 0 => rfl
  | k + 1 => by
    simp only [clipToW, clipOneW]
    split
    · simp [clipToW_len bal s k]
    · exact clipToW_len bal s k

set_option maxHeartbeats 1000000 in
set_option maxRecDepth 100000 in
theorem clip_calls (p gb gt n cb ct : Nat) (bal tr : List Int) (lost : Int) (w : World) (h : Trc w p gb gt n cb ct bal tr lost) (hn : n ≤ 9223372036854775807) :
    Calls Try.prog 15 #[.pointer (some ⟨p, 0, none⟩)] w fun e w' =>
      e = .returned (.tuple #[]) ∧ Trc w' p gb gt n cb ct bal (clipToW bal n (tr, lost)).1 (clipToW bal n (tr, lost)).2 ∧ Deep p gb gt w w' := by
  have c1 := h.c1
  have hp := h.plt
  go_enter Try.func15, Try.ntmps15
  go_wp2_with fail
  go_loopw [10] (fun i wr => ∃ (q : Nat) (tt : List Int) (ll : Int), q ≤ n ∧ i = .int .i64 q ∧ Trc wr p gb gt n cb ct bal tt ll ∧ Hid ((tt, ll) = clipToW bal q (tr, lost)) ∧ Deep p gb gt w wr) (fun i _ => n - (intOf i).toNat)
  case atStart => exact ⟨0, tr, lost, by omega, rfl, h, rfl, Deep.refl _ _ _ _⟩
  case round =>
    clear c1 h hp
    obtain ⟨q, tt, ll, hq, rfl, h, HT, hD⟩ := hrel
    by_cases hlt : q < n
    · have HN : Hid (clipToW bal (q + 1) (tr, lost) = clipOneW bal tt ll q) := by
        show clipOneW bal (clipToW bal q (tr, lost)).1 (clipToW bal q (tr, lost)).2 q = _
        rw [← HT.out]
      obtain ⟨tv, htv⟩ : ∃ tv, tv = tt.getD q 0 := ⟨_, rfl⟩
      obtain ⟨bv, hbv⟩ : ∃ bv, bv = bal.getD q 0 := ⟨_, rfl⟩
      have c0 := h.c0
      have c1 := h.c1
      have c2 := h.c2
      have f2 := h.f2 2
      have hp := h.plt
      have hgt := h.t.lt
      have hgb := h.b.lt
      have kt := h.t.getD (k := q) (by rw [h.lt]; exact hlt)
      have kb := h.b.getD (k := q) (by rw [h.lb]; exact hlt)
      have ft := h.t.frozen q
      rw [← htv] at kt
      rw [← hbv] at kb
      have HTV := Lib.hid htv
      have HBV := Lib.hid hbv
      have n1 : p ≠ gt := h.pt
      clear htv hbv HT
      go_wp2_with fail
      · have hlt2 : (if bv < 0 then 0 else bv) < tv := by assumption
        have HC : Hid (clipOneW bal tt ll q = (tt.set q (if bv < 0 then 0 else bv), wrap64 (ll + wrap64 (tv - if bv < 0 then 0 else bv)))) := by
          unfold clipOneW pos
          rw [← HBV.out, ← HTV.out, if_pos hlt2]; rfl
        go_roundw
        case measure => simp [intOf] <;> omega
        case rel =>
          exact ⟨q + 1, _, _, by omega, by go_num, (h.setL _).setT _ _, (HN.out.trans HC.out).symm, (hD.setP _ _).setT _ _⟩
      · have hge : tv ≤ (if bv < 0 then 0 else bv) := by assumption
        have HC : Hid (clipOneW bal tt ll q = (tt, ll)) := by
          unfold clipOneW pos
          rw [← HBV.out, ← HTV.out, if_neg (by omega)]; rfl
        go_roundw
        case measure => simp [intOf] <;> omega
        case rel =>
          exact ⟨q + 1, _, _, by omega, by go_num, h, (HN.out.trans HC.out).symm, hD⟩
    · have : q = n := by omega
      go_wp2_with fail
      go_end0
      have e1 := HT.out
      rw [this] at e1
      refine ⟨rfl, ?_, hD⟩
      rw [← e1]
      exact h

end Go.Proofs.Ytlljmiddgadcpaa

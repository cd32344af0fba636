/- The parties that Parties builds: what the laws use. -/
import Derived.Test.YtomfcmlomfcghaaGreatDoorParts
set_option linter.unusedVariables false
set_option linter.unusedSimpArgs false
namespace Go.Proofs.YtomfcmlomfcghaaGreatDoor
open Go.RowKit

theorem bld_pb {n : Nat} {ks : List Int} {st : List Stk} {sm : List Nat} {ts : List (Int × Int)} (h : Bld n ks st sm) (ht : ∀ t ∈ ts, tieFine n t = true) (h6 : ts.length ≤ 6) : PB 1 ⟨ks, st, ts⟩ := by
  have h7 := h.n7
  have hs := h.sl
  have hk := h.kl
  refine ⟨by decide, by decide, fun x hx => ?_, fun x hx => ?_, fun x hx => ?_, ?_, ?_, ?_⟩
  · rcases h.kb x hx with rfl | rfl <;> (unfold i64b; omega)
  · obtain ⟨h1, h2, _, _⟩ := fine_parts (h.s x hx).1
    exact ⟨by unfold i64b; omega, by unfold i64b; omega, (h.s x hx).2.2⟩
  · have := ht x hx
    simp only [tieFine, Bool.and_eq_true, decide_eq_true_eq] at this
    have h1 := inN_true this.1
    have h2 := inN_true this.2.1
    exact ⟨by unfold i64b; omega, by unfold i64b; omega⟩
  · show ks.length ≤ maxLen; unfold maxLen; omega
  · show st.length ≤ maxLen; unfold maxLen; omega
  · show ts.length ≤ maxLen; unfold maxLen; omega
/-- parties that are right, small, in memory -/
def BuiltPost (mt : Nat) (w : World) (e : Ending) (w' : World) : Prop :=
  ∃ (Ak : Option Addr) (nk ck : Nat) (As : Option Addr) (ns cs : Nat) (At : Option Addr) (nt ct : Nat) (P : Prt),
    e = .returned (ptyVal Ak nk ck As ns cs At nt ct) ∧ PRd Ak nk As ns At nt P w' ∧ PB 1 P ∧ chk P = 0 ∧ 2 ≤ nk ∧ nk ≤ 7 ∧ ns ≤ 20 ∧ nt ≤ 6 ∧ nt ≤ mt ∧ ns ≤ cs ∧ Below w.heap.size w w'
theorem built_calls (x0 x1 : Int) (A2 : Option Addr) (n2 c2 : Nat) (l2 : List W3) (A3 : Option Addr) (n3 c3 : Nat) (l3 : List (Int × Int)) (w : World) (h0 : 0 ≤ x0 ∧ x0 ≤ 255) (h1 : 0 ≤ x1 ∧ x1 ≤ 65535)
    (e2 : n2 = l2.length) (r2 : Rd w w.heap.size 3 A2 l2.length (l2.flatMap u16V3)) (o2 : ∀ a ∈ l2, u16ok3 a) (g2 : n2 ≤ maxLen) (e3 : n3 = l3.length) (r3 : Rd w w.heap.size 2 A3 l3.length (l3.flatMap u16V)) (o3 : ∀ a ∈ l3, u16ok a) (g3 : n3 ≤ maxLen) :
    Calls Tryz.prog 17 #[.int .u8 x0, .int .u16 x1, .slice A2 n2 c2, .slice A3 n3 c3] w (BuiltPost n3 w) := by
  refine (parties_calls x0 x1 A2 n2 c2 l2 A3 n3 c3 l3 w h0 h1 e2 r2 o2 g2 e3 r3 o3 g3).mono ?_
  rintro e w' ⟨Ak, ck, ks, As, cs, st, At, ct, ts, n, sm, rfl, hp, hb, ht, h6, hm, hcap, hbe⟩
  exact ⟨Ak, ks.length, ck, As, st.length, cs, At, ts.length, ct, ⟨ks, st, ts⟩, rfl, hp, bld_pb hb ht h6, hb.chk h6 ht, by rw [hb.kl]; exact hb.n2, by rw [hb.kl]; exact hb.n7, hb.sl, h6, hm, hcap, hbe⟩

end Go.Proofs.YtomfcmlomfcghaaGreatDoor

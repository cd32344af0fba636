/- The parties that the laws build: plain laws. -/
import Derived.Test.YtomfcmlomfcghaaGreatDoorM41
import Derived.Test.YtomfcmlomfcghaaGreatDoorFrac
set_option linter.unusedVariables false
set_option linter.unusedSimpArgs false
namespace Go.Proofs.YtomfcmlomfcghaaGreatDoor
open Go.RowKit

def frac (d k : Nat) : Rat := mkRat (k : Int) d
theorem frac_add {d : Nat} (hd : d ≠ 0) (a b : Nat) : frac d a + frac d b = frac d (a + b) := by
  unfold frac
  rw [Rat.mkRat_add_mkRat _ _ hd hd, show ((a : Int) * (d : Int) + (b : Int) * (d : Int)) = ((a + b : Nat) : Int) * (d : Int) by rw [← Int.add_mul]; simp, Rat.mkRat_mul_right hd]
theorem frac_zero (d : Nat) : frac d 0 = 0 := by unfold frac; exact Rat.zero_mkRat d
theorem frac_nonneg {d : Nat} (hd : d ≠ 0) (h1 : 0 ≤ frac d 1) : ∀ k, 0 ≤ frac d k
  | 0 => by rw [frac_zero]; exact Rat.le_refl
  | k + 1 => by rw [← frac_add hd]; exact Rat.add_nonneg (frac_nonneg hd h1 k) h1
theorem frac_le {d : Nat} (hd : d ≠ 0) (h1 : 0 ≤ frac d 1) {k m : Nat} (h : k ≤ m) : frac d k ≤ frac d m := by
  have e : frac d m = frac d k + frac d (m - k) := by rw [frac_add hd]; congr 1; omega
  rw [e]
  have := (Rat.add_le_add_left (c := frac d k)).2 (frac_nonneg hd h1 (m - k))
  rwa [Rat.add_zero] at this
theorem frac_pos {d : Nat} (hd : d ≠ 0) (h1 : 0 < frac d 1) {k : Nat} (h : 0 < k) : 0 < frac d k :=
  Rat.not_le.1 (fun h2 => absurd (Rat.le_trans (frac_le hd (Rat.le_of_lt h1) (show 1 ≤ k by omega)) h2) (Rat.not_le.2 h1))
theorem frac_quo (k d : Nat) : quoQ (k : Int) (d : Int) = frac d k := by
  unfold quoQ rv frac
  rw [show decide ((k : Int) < 0) = false from decide_eq_false (by omega), show decide ((d : Int) < 0) = false from decide_eq_false (by omega)]
  rfl
theorem frac_sz {d k : Nat} (hd : d ≠ 0) (h1 : d < 256) (h2 : k < 256) : Sz 1 (frac d k) := by
  have : frac d k = rv false k d := rfl
  rw [this]
  exact Sz.rv hd (by omega) (by omega)
theorem sz_fits {q : Rat} {k : Nat} (h : Sz k q) : (fqOf q).fits k := by
  refine ⟨?_, ?_⟩
  · show (ncan _).size ≤ k
    rw [ncan_size]; exact canon_len_le h.1
  · show (rden q).size ≤ k
    unfold rden
    split
    · exact Nat.zero_le _
    · rw [ncan_size]; exact canon_len_le h.2
theorem f10 : 0 ≤ frac 10 1 := by decide +kernel
theorem f10p : 0 < frac 10 1 := by decide +kernel
theorem f10one : frac 10 10 = 1 := by decide +kernel
/-- what Parties has built when its loops stand somewhere -/
structure Bld (n : Nat) (ks : List Int) (st : List Stk) (sm : List Nat) : Prop where
  n2 : 2 ≤ n
  n7 : n ≤ 7
  kl : ks.length = n
  kb : ∀ k ∈ ks, k = 1 ∨ k = 2
  sl : st.length ≤ 20
  ml : sm.length = n
  s : ∀ s ∈ st, stkFine ks s = true ∧ 0 < fixR s.v ∧ s.v.fits 1
  v : ∀ c : Nat, c < n → vs (fun s => s.c == (c : Int)) st = frac 10 (sm.getD c 0) ∧ sm.getD c 0 ≤ 10
theorem Bld.start {n : Nat} {ks : List Int} (h2 : 2 ≤ n) (h7 : n ≤ 7) (hk : ks.length = n) (hb : ∀ k ∈ ks, k = 1 ∨ k = 2) : Bld n ks [] (List.replicate n 0) :=
  ⟨h2, h7, hk, hb, Nat.zero_le _, List.length_replicate, (fun s hs => by cases hs), fun c hc => by
    have e : (List.replicate n 0).getD c 0 = 0 := by simp [List.getD, hc]
    rw [e, frac_zero]; exact ⟨rfl, by omega⟩⟩
theorem Bld.snoc {n : Nat} {ks : List Int} {st : List Stk} {sm : List Nat} (h : Bld n ks st sm) {a c v : Nat} (ha : a < n) (hc : c < n) (hac : a ≠ c) (hk : kindAt ks (c : Int) = 2) (hv0 : 0 < v) (hv : sm.getD c 0 + v ≤ 10) (hl : st.length < 20) :
    Bld n ks (st ++ [⟨(a : Int), (c : Int), fqOf (frac 10 v)⟩]) (sm.set c (sm.getD c 0 + v)) := by
  have hm := h.ml
  refine ⟨h.n2, h.n7, h.kl, h.kb, by simp; omega, by rw [List.length_set]; exact hm, fun s hs => ?_, fun d hd => ?_⟩
  · rcases List.mem_append.1 hs with hs | hs
    · exact h.s s hs
    · rw [List.mem_singleton.1 hs]
      refine ⟨?_, ?_, sz_fits (frac_sz (by decide) (by decide) (by omega))⟩
      · unfold stkFine
        dsimp only
        rw [inN_iff.2 ⟨by omega, by rw [h.kl]; omega⟩, inN_iff.2 ⟨by omega, by rw [h.kl]; omega⟩, decide_eq_true hk, decide_eq_true (by omega)]
        rfl
      · show 0 < fixR (fqOf (frac 10 v))
        rw [fixR_of]; exact frac_pos (by decide) f10p hv0
  · obtain ⟨e, hd10⟩ := h.v d hd
    rw [vs_snoc]
    dsimp only
    by_cases hdc : d = c
    · subst hdc
      have e2 : (sm.set d (sm.getD d 0 + v)).getD d 0 = sm.getD d 0 + v := by simp [List.getD, List.getElem?_set, hm, hd]
      rw [if_pos (by simp), e, fixR_of, frac_add (by decide), e2]
      exact ⟨rfl, hv⟩
    · have e2 : (sm.set c (sm.getD c 0 + v)).getD d 0 = sm.getD d 0 := by
        simp only [List.getD, List.getElem?_set]
        rw [if_neg (fun e => hdc e.symm)]
      rw [if_neg (by simp; omega), e2]
      exact ⟨e, hd10⟩
theorem Bld.chk {n : Nat} {ks : List Int} {st : List Stk} {sm : List Nat} (h : Bld n ks st sm) {ts : List (Int × Int)} (hl : ts.length ≤ 6) (ht : ∀ t ∈ ts, tieFine n t = true) : chk ⟨ks, st, ts⟩ = 0 := by
  have h7 := h.n7
  have hs := h.sl
  refine chk_of ⟨by rw [h.kl]; omega, by show st.length ≤ 64; omega, by show ts.length ≤ 64; omega⟩ ?_ (fun x hx => stkErr_of (h.s x hx).1 (h.s x hx).2.1) ?_ ?_
  · rw [List.any_eq_false]
    intro k hk
    rcases h.kb k hk with rfl | rfl <;> decide
  · rw [overs_false]
    intro c hc
    obtain ⟨e, h10⟩ := h.v c (by rw [← h.kl]; exact hc)
    show vs _ st ≤ 1
    rw [e, ← f10one]
    exact frac_le (by decide) f10 h10
  · rw [List.all_eq_true]
    intro t h1
    show tieFine ks.length t = true
    rw [h.kl]; exact ht t h1

end Go.Proofs.YtomfcmlomfcghaaGreatDoor

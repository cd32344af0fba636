/- Plain laws for UndervalueSum and UndervalueKept. -/
import Derived.Test.YtdkllifoglibcaaSame27
import Derived.Test.YtdkllifoglibcaaHelp27
set_option linter.unusedVariables false
set_option linter.unusedSimpArgs false
namespace Go.Proofs.Ytdkllifoglibcaa
open Go.RowKit

theorem good_chk {p d : Int} (hd : d ≤ 1048576) : ∀ (rows : List Row) (b : Int), GoodRows p d rows → (∀ r ∈ rows, b ≤ r.day) → chk p b rows = 0
  | [], _, _, _ => rfl
  | r :: l, b, hg, hb => by
    have h1 := hg.good r (by simp)
    have h2 := hb r (by simp)
    unfold Row.good at h1
    have hw : r.worth = 0 ∨ r.kind = 3 := by omega
    have e : rowErr p b r = 0 := by
      unfold rowErr
      rw [if_neg (by unfold rowRange; simp only [decide_eq_false_iff_not, Decidable.not_not]; omega), if_neg (by unfold rowParty; simp only [decide_eq_false_iff_not, Decidable.not_not]; omega), if_neg (by omega)]
    rw [chk, e]
    simp only [ne_eq, not_true, if_false]
    have hm := List.pairwise_cons.1 hg.mono
    exact good_chk hd l r.day ⟨fun x hx => hg.good x (by simp [hx]), hm.2⟩ hm.1

theorem good_check {rows : List Row} {d : Int} (hd : d ≤ 1048576) (hg : GoodRows 4 d rows) (hl : rows.length ≤ 256) : check 4 rows = 0 := by
  unfold check
  rw [if_neg (by omega)]
  exact good_chk hd rows 0 hg (fun r hr => (hg.good r hr).1)

theorem openF_in {x0 x1 x2 x3 : Int} (b0 : 0 ≤ x0 ∧ x0 ≤ 255) (b1 : 0 ≤ x1 ∧ x1 ≤ 255) (b2 : 0 ≤ x2 ∧ x2 ≤ 255) (b3 : 0 ≤ x3 ∧ x3 ≤ 255) : (openF x0 x1 x2 x3).any outOf = false := by
  simp only [openF, List.any_cons, List.any_nil, outOf, Bool.or_false, Bool.or_eq_false_iff, decide_eq_false_iff_not]
  omega

theorem good_trace {rows : List Row} {d : Int} {os : List Int} {k : Nat} (hd : d ≤ 1048576) (hg : GoodRows 4 d rows) (hl : rows.length ≤ 256) (ho : os.any outOf = false) (hol : os.length = 4) :
    (rows = [] → traceErr rows os k ≠ 0) ∧ (∀ r, rows[k]? = some r → r.kind ≠ 1 → traceErr rows os k ≠ 0) ∧ (∀ r, rows[k]? = some r → r.kind = 1 → traceErr rows os k = 0) := by
  have hc : check os.length rows = 0 := by rw [hol]; exact good_check hd hg hl
  have e : traceErr rows os k = if (k : Int) < 0 ∨ (rows.length : Int) ≤ k then 1 else if kindAt rows k ≠ 1 then 13 else 0 := by
    unfold traceErr
    rw [hc, if_neg (by omega), ho, if_neg (by simp)]
  refine ⟨fun h => ?_, fun r hr hk => ?_, fun r hr hk => ?_⟩
  · rw [e, if_pos (by subst h; simp)]; omega
  · have hlt := (List.getElem?_eq_some_iff.1 hr).1
    rw [e, if_neg (by omega), if_pos (by simp only [kindAt, Int.toNat_natCast, hr]; exact hk)]; omega
  · have hlt := (List.getElem?_eq_some_iff.1 hr).1
    rw [e, if_neg (by omega), if_neg (by simp only [kindAt, Int.toNat_natCast, hr]; omega)]

theorem money_ref {n : Nat} {r : Row} (hr : RowOk n r) (p : Nat) : moneyRef r p = if r.kind = 2 then 0 else if p = (payee r).toNat then r.amount else if p = (payer r).toNat then -r.amount else 0 := by
  obtain ⟨h1, h2⟩ := hr
  simp only [rowRange, rowParty, decide_eq_true_eq] at h1 h2
  have e1 : wrap64 (-r.amount) = -r.amount := w64 (by omega)
  have e2 : wrap64 (0 + -r.amount) = -r.amount := w64 (by omega) |>.trans (by omega)
  have e3 : wrap64 (0 + r.amount) = r.amount := w64 (by omega) |>.trans (by omega)
  have e4 : wrap64 (0 - -r.amount) = r.amount := w64 (by omega) |>.trans (by omega)
  have e5 : wrap64 (0 - r.amount) = -r.amount := w64 (by omega) |>.trans (by omega)
  have e6 : wrap64 r.amount = r.amount := w64 (by omega)
  have e7 : wrap64 0 = 0 := w64 (by omega)
  have hk : r.kind = 1 ∨ r.kind = 2 ∨ r.kind = 3 := by omega
  have ha : (p = r.to.toNat) = (r.to = (p : Int)) := propext (by omega)
  have hb : (p = r.frm.toNat) = (r.frm = (p : Int)) := propext (by omega)
  have hne := h2.2.2.2.2
  unfold moneyRef payer payee
  by_cases c1 : r.to = (p : Int) <;> by_cases c2 : r.frm = (p : Int) <;> first | (exfalso; omega) | skip
  all_goals
    rcases hk with k | k | k
    all_goals simp [k, c1, c2, ha, hb, e1, e2, e3, e4, e5, e6, e7]

theorem step_bal {n k : Nat} {amt at_ : Int} {s : WSt} {r : Row} (h : Inv n k amt s) (hr : RowOk n r) (hk : k ≤ 256) {p : Nat} (hp : p < n) :
    (stepR at_ k s r).bal.getD p 0 = wrap64 (s.bal.getD p 0 + moneyRef r p) := by
  have hbd : ∀ j, j < n → bnd (s.bal.getD j 0) := fun j hj => by
    have := h.bb j hj
    unfold bnd
    omega
  rw [money_ref hr p]
  obtain ⟨g1, g2⟩ := hr
  simp only [rowRange, rowParty, decide_eq_true_eq] at g1 g2
  have hq1 : (payer r).toNat < n := by unfold payer; split <;> omega
  have hq2 : (payee r).toNat < n := by unfold payee; split <;> omega
  have b := hbd p hp
  have bp := hbd _ hq1
  have bq := hbd _ hq2
  have e2 : ∀ j, (moveR s.bal (payer r).toNat (payee r).toNat r.amount).getD j 0 = _ := fun j => moveR_getD h.lb hq1 hq2 bp bq g1.2.2.2.2.1 g1.2.2.2.2.2.1 j
  unfold bnd at b bp bq
  unfold stepR
  by_cases k2 : r.kind = 2
  · rw [if_pos k2, if_pos k2, Int.add_zero, w64 (by omega)]
  · rw [if_neg k2, if_neg k2]
    show (moveR s.bal (payer r).toNat (payee r).toNat r.amount).getD p 0 = _
    rw [e2]
    by_cases e3 : p = (payee r).toNat
    · rw [if_pos e3, if_pos e3, e3, w64 (by omega)]
    · rw [if_neg e3, if_neg e3]
      by_cases e4 : p = (payer r).toNat
      · rw [if_pos e4, if_pos e4, e4, w64 (by omega)]; omega
      · rw [if_neg e4, if_neg e4, Int.add_zero, w64 (by omega)]

theorem run_bal {rows : List Row} {os : List Int} {at_ : Int} (hinv : ∀ k, k ≤ rows.length → ∃ amt, Inv os.length k amt (runR rows at_ (initW os) k)) (hok : ∀ r ∈ rows, RowOk os.length r) (hl : rows.length ≤ 256) {p : Nat} (hp : p < os.length) :
    ∀ k, k ≤ rows.length → balF (rows.take k) p 1048576 (os.getD p 0) = (runR rows at_ (initW os) k).bal.getD p 0
  | 0, _ => rfl
  | k + 1, hk => by
    obtain ⟨r, hrk⟩ := getElem?_of_lt (show k < rows.length by omega)
    obtain ⟨amt, hi⟩ := hinv k (by omega)
    have hro := hok r (List.mem_of_getElem? hrk)
    have ih := run_bal hinv hok hl hp k (by omega)
    unfold balF at ih ⊢
    rw [take_foldl _ _ _ _ _ hrk, ih, runR_succ hrk, step_bal hi hro (by omega) hp, if_pos]
    have := hro.1
    simp only [rowRange, decide_eq_true_eq] at this
    exact this.2.1

end Go.Proofs.Ytdkllifoglibcaa

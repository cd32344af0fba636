/- The plain law of PreferenceSuffix: the exposure is the greatest sum over all suffixes. -/
import Derived.Test.YtdkllifoglibcaaGen
set_option linter.unusedVariables false
set_option linter.unusedSimpArgs false
namespace Go.Proofs.Ytdkllifoglibcaa
open Go.RowKit

def cnt (f t : Int) (r : Row) : Prop := ¬ (r.day < f ∨ t < r.day ∨ r.kind = 3)
instance (f t : Int) (r : Row) : Decidable (cnt f t r) := by unfold cnt; infer_instance
def delta (r : Row) : Int := (if r.kind = 1 ∧ r.frm = 0 ∧ r.to = 1 then r.amount else 0) - (if r.frm = 1 ∧ r.to = 0 then r.amount else 0)
def tot (f t : Int) : List Row → Int
  | [] => 0
  | r :: l => tot f t l + (if cnt f t r then delta r else 0)
def bst (f t : Int) : List Row → Int
  | [] => 0
  | r :: l => if cnt f t r then max (bst f t l) (tot f t (r :: l)) else bst f t l

def small (rows : List Row) : Prop := ∀ r ∈ rows, 0 ≤ r.amount ∧ r.amount < 40 ∧ 1 ≤ r.kind ∧ r.kind ≤ 3

theorem delta_bd {r : Row} (h : 0 ≤ r.amount ∧ r.amount < 40) : -40 ≤ delta r ∧ delta r ≤ 40 := by unfold delta; split <;> split <;> omega

theorem tot_bd (f t : Int) (rows : List Row) (h : small rows) : -(40 * (rows.length : Int)) ≤ tot f t rows ∧ tot f t rows ≤ 40 * (rows.length : Int) := by
  induction rows with
  | nil => simp [tot]
  | cons r l ih =>
    have := ih (fun x hx => h x (by simp [hx]))
    have hr := delta_bd ⟨(h r (by simp)).1, (h r (by simp)).2.1⟩
    simp only [tot, List.length_cons]
    split <;> omega

theorem bst_bd (f t : Int) (rows : List Row) (h : small rows) : 0 ≤ bst f t rows ∧ bst f t rows ≤ 40 * (rows.length : Int) ∧ tot f t rows ≤ bst f t rows := by
  induction rows with
  | nil => simp [tot, bst]
  | cons r l ih =>
    have := ih (fun x hx => h x (by simp [hx]))
    have hr := delta_bd ⟨(h r (by simp)).1, (h r (by simp)).2.1⟩
    have ht := tot_bd f t (r :: l) h
    simp only [bst, List.length_cons] at *
    by_cases hc : cnt f t r
    · rw [if_pos hc]; omega
    · rw [if_neg hc]
      have : tot f t (r :: l) = tot f t l := by simp [tot, hc]
      omega

theorem expo_fold (f t : Int) : ∀ (rows : List Row) (x : Int), small rows → 0 ≤ x → x + 40 * (rows.length : Int) ≤ 1000000 →
    rows.foldl (expoStep 0 1 f t) x = max (x + tot f t rows) (bst f t rows)
  | [], x, _, h0, _ => by simp [tot, bst]; omega
  | r :: l, x, hs, h0, h1 => by
    have hsl : small l := fun y hy => hs y (by simp [hy])
    obtain ⟨ha0, ha1, hk1, hk3⟩ := hs r (by simp)
    have htl := tot_bd f t l hsl
    have hbl := bst_bd f t l hsl
    simp only [List.length_cons, Int.natCast_add] at h1
    have step : expoStep 0 1 f t x r = (if cnt f t r then (if delta r < 0 then max (x + delta r) 0 else x + delta r) else x) := by
      unfold expoStep cnt delta
      rw [IntWalk.wrap64_in (x + r.amount) (by omega), IntWalk.wrap64_in (x - r.amount) (by omega)]
      repeat' split
      all_goals omega
    rw [List.foldl_cons, step]
    have hdb := delta_bd ⟨ha0, ha1⟩
    by_cases hc : cnt f t r
    · rw [if_pos hc]
      simp only [tot, bst, if_pos hc]
      split
      · rw [expo_fold f t l _ hsl (by omega) (by omega)]; omega
      · rw [expo_fold f t l _ hsl (by omega) (by omega)]; omega
    · rw [if_neg hc]
      simp only [tot, bst, if_neg hc]
      rw [expo_fold f t l _ hsl h0 (by omega)]; omega

end Go.Proofs.Ytdkllifoglibcaa

/- Merged of Wf WfB MsP WfC MsQ. -/
import Derived.Test.YtjlicnhkemfmiaaGreatDoorFixP
import Derived.Lib.TrailingZeros
import Derived.Lib.Hide
/- What a waterfall by ranks pays: plain. wfr z S: which part of a tier of sum S is paid out of z; frs m l: of each tier of l, one after the other. -/
set_option linter.unusedVariables false
set_option linter.unusedSimpArgs false
namespace Go.Proofs.YtjlicnhkemfmiaaGreatDoor
open Go.RowKit

def wfr (z S : Rat) : Rat := if z < 0 then 0 else if S ≤ z then 1 else z / S
theorem div_nn {a b : Rat} (ha : 0 ≤ a) (hb : 0 < b) : 0 ≤ a / b := by
  rw [Rat.div_def]; exact Rat.mul_nonneg ha (Rat.le_of_lt (Rat.inv_pos.2 hb))
theorem wfr_nn {z S : Rat} : 0 ≤ wfr z S := by
  unfold wfr
  split
  · exact Rat.le_refl
  · split
    · decide
    · rename_i h1 h2
      exact div_nn (Rat.not_lt.1 h1) (by grind)
theorem div_le_one {a b : Rat} (hb : 0 < b) (h : a ≤ b) : a / b ≤ 1 := by
  have h1 := Rat.mul_le_mul_of_nonneg_right h (Rat.le_of_lt (Rat.inv_pos.2 hb))
  rw [← Rat.div_def, ← Rat.div_def, show b / b = 1 by rw [Rat.div_def]; exact Rat.mul_inv_cancel b (by grind)] at h1
  exact h1
theorem wfr_le {z S : Rat} : wfr z S ≤ 1 := by
  unfold wfr
  split
  · decide
  · split
    · exact Rat.le_refl
    · rename_i h1 h2
      exact div_le_one (by grind) (by grind)
theorem div_mono {a b c : Rat} (hc : 0 < c) (h : a ≤ b) : a / c ≤ b / c := by
  rw [Rat.div_def, Rat.div_def]
  exact Rat.mul_le_mul_of_nonneg_right h (Rat.le_of_lt (Rat.inv_pos.2 hc))
theorem mul_div_self {a b : Rat} (hb : b ≠ 0) : b * (a / b) = a := by
  rw [Rat.mul_comm]; exact Rat.div_mul_cancel hb
theorem wfr_mono {z z' S : Rat} (h : z ≤ z') : wfr z S ≤ wfr z' S := by
  by_cases h0 : z < 0
  · rw [show wfr z S = 0 by unfold wfr; rw [if_pos h0]]; exact wfr_nn
  · by_cases h1 : S ≤ z'
    · rw [show wfr z' S = 1 by unfold wfr; rw [if_neg (by grind), if_pos h1]]; exact wfr_le
    · unfold wfr
      rw [if_neg h0, if_neg (by grind), if_neg (by grind), if_neg h1]
      exact div_mono (by grind) h
/-- what a tier is paid -/
theorem wfr_part {z S : Rat} (hz : 0 ≤ z) (hS : 0 ≤ S) : S * wfr z S = if S ≤ z then S else z := by
  unfold wfr
  rw [if_neg (Rat.not_lt.2 hz)]
  split
  · rw [Rat.mul_one]
  · rename_i h; exact mul_div_self (by grind)
def frs : Rat → List Rat → List Rat
  | _, [] => []
  | m, S :: r => wfr m S :: frs (m - S) r
theorem frs_len : ∀ (l : List Rat) (m : Rat), (frs m l).length = l.length
  | [], _ => rfl
  | S :: r, m => by simp [frs, frs_len r]
theorem frs_neg : ∀ (l : List Rat) (m : Rat), m < 0 → (∀ S ∈ l, 0 ≤ S) → ∀ a ∈ frs m l, a = 0
  | [], _, _, _, a, h => by simp [frs] at h
  | S :: r, m, hm, hS, a, h => by
    simp [frs] at h
    rcases h with h | h
    · rw [h]; unfold wfr; rw [if_pos hm]
    · have := hS S (by simp)
      exact frs_neg r _ (by grind) (fun x hx => hS x (by simp [hx])) a h
def paidOf : List Rat → List Rat → Rat
  | S :: r, f :: t => S * f + paidOf r t
  | _, _ => 0
theorem paid_zero : ∀ (l t : List Rat), (∀ a ∈ t, a = 0) → paidOf l t = 0
  | [], _, _ => rfl
  | _ :: _, [], _ => rfl
  | S :: r, f :: t, h => by
    unfold paidOf
    rw [h f (by simp), paid_zero r t (fun a ha => h a (by simp [ha])), Rat.mul_zero, Rat.zero_add]
def sumR : List Rat → Rat
  | [] => 0
  | S :: r => S + sumR r
theorem sumR_nn : ∀ (l : List Rat), (∀ S ∈ l, 0 ≤ S) → 0 ≤ sumR l
  | [], _ => Rat.le_refl
  | S :: r, h => by
    have h1 := h S (by simp)
    have h2 := sumR_nn r (fun x hx => h x (by simp [hx]))
    unfold sumR; grind
/-- all that is paid: the money, or all that is owed -/
theorem paid_all : ∀ (l : List Rat) (m : Rat), 0 ≤ m → (∀ S ∈ l, 0 ≤ S) → paidOf l (frs m l) = if sumR l ≤ m then sumR l else m
  | [], m, hm, _ => by simp [frs, paidOf, sumR, hm]
  | S :: r, m, hm, hS => by
    have h0 := hS S (by simp)
    have hr := fun x hx => hS x (List.mem_cons_of_mem _ hx)
    have hn := sumR_nn r hr
    show S * wfr m S + paidOf r (frs (m - S) r) = if S + sumR r ≤ m then S + sumR r else m
    rw [wfr_part hm h0]
    by_cases h1 : S ≤ m
    · rw [if_pos h1, paid_all r (m - S) (by grind) hr]
      by_cases h2 : sumR r ≤ m - S
      · rw [if_pos h2, if_pos (by grind)]
      · rw [if_neg h2, if_neg (by grind)]; grind
    · rw [if_neg h1, paid_zero _ _ (frs_neg r (m - S) (by grind) hr), if_neg (by grind)]; grind

end Go.Proofs.YtjlicnhkemfmiaaGreatDoor

/- What is delivered on claims with ranks and no agreements: plain laws (no claim receives more than its amount; all that is delivered; a greater claim leaves less to the others). -/
set_option linter.unusedVariables false
set_option linter.unusedSimpArgs false
namespace Go.Proofs.YtjlicnhkemfmiaaGreatDoor
open Go.RowKit

structure Cl where
  rank : Nat
  amt : Rat
def addAt : Nat → Rat → List Rat → List Rat
  | _, _, [] => []
  | 0, x, S :: r => (S + x) :: r
  | n + 1, x, S :: r => S :: addAt n x r
theorem addAt_len : ∀ (n : Nat) (x : Rat) (l : List Rat), (addAt n x l).length = l.length
  | _, _, [] => by simp [addAt]
  | 0, x, S :: r => by simp [addAt]
  | n + 1, x, S :: r => by simp [addAt, addAt_len n x r]
theorem addAt_nn : ∀ (n : Nat) (x : Rat) (l : List Rat), 0 ≤ x → (∀ S ∈ l, 0 ≤ S) → ∀ S ∈ addAt n x l, 0 ≤ S
  | _, _, [], _, _, S, h => by simp [addAt] at h
  | 0, x, S :: r, hx, hl, T, h => by
    simp [addAt] at h
    rcases h with h | h
    · rw [h]; exact Rat.add_nonneg (hl S (by simp)) hx
    · exact hl T (by simp [h])
  | n + 1, x, S :: r, hx, hl, T, h => by
    simp [addAt] at h
    rcases h with h | h
    · rw [h]; exact hl S (by simp)
    · exact addAt_nn n x r hx (fun y hy => hl y (by simp [hy])) T h
theorem addAt_sum : ∀ (n : Nat) (x : Rat) (l : List Rat), n < l.length → sumR (addAt n x l) = sumR l + x
  | _, _, [], h => by simp at h
  | 0, x, S :: r, _ => by simp only [addAt, sumR]; grind
  | n + 1, x, S :: r, h => by
    have := addAt_sum n x r (by simpa using h)
    simp only [addAt, sumR]; grind
theorem addAt_paid : ∀ (n : Nat) (x : Rat) (l f : List Rat), l.length = f.length → n < l.length → paidOf (addAt n x l) f = paidOf l f + x * f.getD n 0
  | _, _, [], _, _, h => by simp at h
  | _, _, _ :: _, [], h, _ => by simp at h
  | 0, x, S :: r, g :: t, _, _ => by simp only [addAt, paidOf, List.getD_cons_zero]; grind
  | n + 1, x, S :: r, g :: t, hl, h => by
    have := addAt_paid n x r t (by simpa using hl) (by simpa using h)
    simp only [addAt, paidOf, List.getD_cons_succ]; grind
where
  frs_monoD : ∀ (l : List Rat) (m m' : Rat), m ≤ m' → ∀ k : Nat, (frs m l).getD k 0 ≤ (frs m' l).getD k 0
    | [], _, _, _, k => by simp [frs]
    | S :: r, m, m', hm, 0 => by simp only [frs, List.getD_cons_zero]; exact wfr_mono hm
    | S :: r, m, m', hm, k + 1 => by simp only [frs, List.getD_cons_succ]; exact frs_monoD r _ _ (by grind) k
theorem frs_bd : ∀ (l : List Rat) (m : Rat) (k : Nat), 0 ≤ (frs m l).getD k 0 ∧ (frs m l).getD k 0 ≤ 1
  | [], _, k => by simp [frs]; decide
  | S :: r, m, 0 => by simp only [frs, List.getD_cons_zero]; exact ⟨wfr_nn, wfr_le⟩
  | S :: r, m, k + 1 => by simp only [frs, List.getD_cons_succ]; exact frs_bd r _ k
def tiersL (l : List Cl) : List Rat := l.foldl (fun L c => addAt c.rank c.amt L) (List.replicate 8 0)
theorem tiers_snoc (l : List Cl) (c : Cl) : tiersL (l ++ [c]) = addAt c.rank c.amt (tiersL l) := by
  unfold tiersL; rw [List.foldl_append]; rfl
theorem tiers_gen : ∀ (l : List Cl) (L : List Rat), L.length = 8 → (∀ S ∈ L, 0 ≤ S) → (∀ c ∈ l, c.rank < 8 ∧ 0 ≤ c.amt) →
    (l.foldl (fun L c => addAt c.rank c.amt L) L).length = 8 ∧ (∀ S ∈ l.foldl (fun L c => addAt c.rank c.amt L) L, 0 ≤ S) ∧
    sumR (l.foldl (fun L c => addAt c.rank c.amt L) L) = sumR L + sumR (l.map (·.amt)) ∧
    ∀ f : List Rat, f.length = 8 → paidOf (l.foldl (fun L c => addAt c.rank c.amt L) L) f = paidOf L f + sumR (l.map fun c => c.amt * f.getD c.rank 0)
  | [], L, h8, hL, _ => ⟨h8, hL, by simp [sumR, Rat.add_zero], fun f hf => by simp [sumR, Rat.add_zero]⟩
  | c :: l, L, h8, hL, hc => by
    have h1 := hc c (by simp)
    obtain ⟨i1, i2, i3, i4⟩ := tiers_gen l (addAt c.rank c.amt L) (by rw [addAt_len]; exact h8) (addAt_nn _ _ _ h1.2 hL) (fun x hx => hc x (by simp [hx]))
    refine ⟨i1, i2, ?_, fun f hf => ?_⟩
    · rw [List.foldl_cons, i3, addAt_sum _ _ _ (by rw [h8]; exact h1.1), List.map_cons]
      simp only [sumR]; grind
    · rw [List.foldl_cons, i4 f hf, addAt_paid _ _ _ _ (by rw [h8, hf]) (by rw [h8]; exact h1.1), List.map_cons]
      simp only [sumR]; grind
theorem zeros_paid : ∀ (n : Nat) (f : List Rat), paidOf (List.replicate n 0) f = 0
  | 0, _ => by simp [paidOf]
  | n + 1, [] => by simp [List.replicate, paidOf]
  | n + 1, g :: t => by simp only [List.replicate, paidOf]; rw [zeros_paid n t]; grind
theorem zeros_sum : ∀ n : Nat, sumR (List.replicate n 0) = 0
  | 0 => rfl
  | n + 1 => by simp only [List.replicate, sumR]; rw [zeros_sum n]; grind
structure ClsOk (l : List Cl) : Prop where
  each : ∀ c ∈ l, c.rank < 8 ∧ 0 ≤ c.amt
/-- what is delivered -/
def deliv (l : List Cl) (m : Rat) : List Rat := l.map fun c => c.amt * (frs m (tiersL l)).getD c.rank 0
theorem deliv_len (l : List Cl) (m : Rat) : (deliv l m).length = l.length := by unfold deliv; simp
theorem deliv_at {l : List Cl} {m : Rat} {i : Nat} {c : Cl} (h : l[i]? = some c) : (deliv l m)[i]? = some (c.amt * (frs m (tiersL l)).getD c.rank 0) := by
  unfold deliv; rw [List.getElem?_map, h]; rfl
theorem deliv_bd {l : List Cl} (h : ClsOk l) {m : Rat} {i : Nat} {c : Cl} {d : Rat} (hc : l[i]? = some c) (hd : (deliv l m)[i]? = some d) : 0 ≤ d ∧ d ≤ c.amt := by
  rw [deliv_at hc] at hd
  obtain rfl := Option.some.inj hd
  have h1 := (h.each c (List.mem_of_getElem? hc)).2
  obtain ⟨h2, h3⟩ := frs_bd (tiersL l) m c.rank
  refine ⟨Rat.mul_nonneg h1 h2, ?_⟩
  have := Rat.mul_le_mul_of_nonneg_left h3 h1
  rw [Rat.mul_one] at this
  exact this
theorem tiers_ok {l : List Cl} (h : ClsOk l) : (tiersL l).length = 8 ∧ (∀ S ∈ tiersL l, 0 ≤ S) ∧ sumR (tiersL l) = sumR (l.map (·.amt)) ∧ ∀ f : List Rat, f.length = 8 → paidOf (tiersL l) f = sumR (l.map fun c => c.amt * f.getD c.rank 0) := by
  obtain ⟨i1, i2, i3, i4⟩ := tiers_gen l (List.replicate 8 0) (by simp) (fun S hS => by rw [List.eq_of_mem_replicate hS]; exact Rat.le_refl) h.each
  refine ⟨i1, i2, ?_, fun f hf => ?_⟩
  · unfold tiersL; rw [i3, zeros_sum, Rat.zero_add]
  · unfold tiersL; rw [i4 f hf, zeros_paid, Rat.zero_add]
/-- all that is delivered -/
theorem deliv_sum {l : List Cl} (h : ClsOk l) {m : Rat} (hm : 0 ≤ m) : sumR (deliv l m) = if sumR (l.map (·.amt)) ≤ m then sumR (l.map (·.amt)) else m := by
  obtain ⟨i1, i2, i3, i4⟩ := tiers_ok h
  have h1 := i4 (frs m (tiersL l)) (by rw [frs_len]; exact i1)
  rw [paid_all _ _ hm i2, i3] at h1
  unfold deliv
  exact h1.symm
end Go.Proofs.YtjlicnhkemfmiaaGreatDoor

/- What the totals of a network of items and claims are: plain. leastL: the least cut; AddR: what a further claim adds to the cuts. -/
set_option linter.unusedVariables false
set_option linter.unusedSimpArgs false
namespace Go.Proofs.YtjlicnhkemfmiaaGreatDoor
open Go.RowKit

def minR (a b : Rat) : Rat := if a ≤ b then a else b
theorem minR_l {a b : Rat} : minR a b ≤ a := by unfold minR; split <;> grind
theorem minR_r {a b : Rat} : minR a b ≤ b := by unfold minR; split <;> grind
theorem minR_or (a b : Rat) : minR a b = a ∨ minR a b = b := by unfold minR; split <;> simp
theorem foldl_minR : ∀ (l : List Rat) (x : Rat), l.foldl minR x ≤ x ∧ (∀ y ∈ l, l.foldl minR x ≤ y) ∧ (l.foldl minR x = x ∨ l.foldl minR x ∈ l)
  | [], x => ⟨Rat.le_refl, fun y h => (by cases h), Or.inl rfl⟩
  | z :: l, x => by
    obtain ⟨h1, h2, h3⟩ := foldl_minR l (minR x z)
    refine ⟨Rat.le_trans h1 minR_l, fun y hy => ?_, ?_⟩
    · rcases List.mem_cons.1 hy with rfl | hy
      · exact Rat.le_trans h1 minR_r
      · exact h2 y hy
    · rw [List.foldl_cons]
      rcases h3 with h3 | h3
      · rcases minR_or x z with e | e
        · exact Or.inl (h3.trans e)
        · exact Or.inr (by rw [h3, e]; exact List.mem_cons_self)
      · exact Or.inr (List.mem_cons_of_mem _ h3)
def leastL (l : List Rat) : Rat := l.foldl minR (l.getD 0 0)
theorem leastL_le {l : List Rat} {y : Rat} (h : y ∈ l) : leastL l ≤ y := (foldl_minR l _).2.1 y h
theorem leastL_mem {l : List Rat} (h : 0 < l.length) : leastL l ∈ l := by
  rcases (foldl_minR l (l.getD 0 0)).2.2 with e | e
  · unfold leastL; rw [e, List.getD_eq_getElem?_getD, List.getElem?_eq_getElem h]; exact List.getElem_mem h
  · exact e
/-- the cuts after a further claim that is owed x -/
structure AddR (x : Rat) (L L' : List Rat) : Prop where
  len : L'.length = L.length
  each : ∀ (j : Nat) (r r' : Rat), L[j]? = some r → L'[j]? = some r' → r' = r ∨ r' = r + x
  last : L'[L.length - 1]? = L[L.length - 1]?
theorem AddR.least {x : Rat} {L L' : List Rat} (h : AddR x L L') (hx : 0 ≤ x) (h0 : 0 < L.length) : leastL L ≤ leastL L' ∧ leastL L' ≤ leastL L + x := by
  have h0' : 0 < L'.length := by rw [h.len]; exact h0
  constructor
  · obtain ⟨j, hj⟩ := List.getElem?_of_mem (leastL_mem h0')
    have hjl : j < L.length := by have := (List.getElem?_eq_some_iff.1 hj).1; rw [h.len] at this; exact this
    have h1 := List.getElem?_eq_getElem hjl
    have h2 := leastL_le (List.mem_of_getElem? h1)
    rcases h.each j _ _ h1 hj with e | e
    · rw [e]; exact h2
    · rw [e]; grind
  · obtain ⟨j, hj⟩ := List.getElem?_of_mem (leastL_mem h0)
    have hjl : j < L'.length := by have := (List.getElem?_eq_some_iff.1 hj).1; rw [h.len]; exact this
    have h1 := List.getElem?_eq_getElem hjl
    have h2 := leastL_le (List.mem_of_getElem? h1)
    rcases h.each j _ _ hj h1 with e | e
    · rw [e] at h2; grind
    · rw [e] at h2; exact h2
theorem leastL_zero {L : List Rat} (h0 : 0 < L.length) (hz : L[0]? = some 0) (hn : ∀ r ∈ L, 0 ≤ r) : leastL L = 0 := by
  have h1 := leastL_le (List.mem_of_getElem? hz)
  have h2 := hn _ (leastL_mem h0)
  grind
theorem sumR_append : ∀ (l t : List Rat), sumR (l ++ t) = sumR l + sumR t
  | [], t => by simp [sumR, Rat.zero_add]
  | x :: l, t => by
    have := sumR_append l t
    simp only [List.cons_append, sumR]; grind
theorem sumR_snoc (l : List Rat) (x : Rat) : sumR (l ++ [x]) = sumR l + x := by rw [sumR_append]; simp [sumR, Rat.add_zero]
/-- totals of claims: between nought and what is owed, in all no more than what the items bring -/
structure TotOk (all : Rat) (owed ts : List Rat) : Prop where
  len : ts.length = owed.length
  each : ∀ (j : Nat) (o t : Rat), owed[j]? = some o → ts[j]? = some t → 0 ≤ t ∧ t ≤ o
  sum : sumR ts ≤ all
/-- in the midst of the totals: what the first claims have -/
structure TotMid (all : Rat) (owed ts cuts : List Rat) : Prop where
  len : ts.length ≤ owed.length
  each : ∀ (j : Nat) (o t : Rat), owed[j]? = some o → ts[j]? = some t → 0 ≤ t ∧ t ≤ o
  pos : 0 < cuts.length
  sum : sumR ts = leastL cuts
  last : cuts[cuts.length - 1]? = some all
theorem TotMid.start {all : Rat} {owed cuts : List Rat} (h0 : 0 < cuts.length) (hz : cuts[0]? = some 0) (hn : ∀ r ∈ cuts, 0 ≤ r) (hl : cuts[cuts.length - 1]? = some all) : TotMid all owed [] cuts :=
  ⟨Nat.zero_le _, fun j o t _ h => by simp at h, h0, (leastL_zero h0 hz hn).symm, hl⟩
theorem TotMid.next {all : Rat} {owed ts cuts cuts' : List Rat} (h : TotMid all owed ts cuts) {x : Rat} (hx : owed[ts.length]? = some x) (hx0 : 0 ≤ x) (ha : AddR x cuts cuts') : TotMid all owed (ts ++ [leastL cuts' - leastL cuts]) cuts' := by
  obtain ⟨h1, h2⟩ := ha.least hx0 h.pos
  refine ⟨?_, ?_, by rw [ha.len]; exact h.pos, ?_, ?_⟩
  · have := (List.getElem?_eq_some_iff.1 hx).1
    rw [List.length_append]; simp; omega
  · intro j o t ho ht
    by_cases hj : j < ts.length
    · rw [List.getElem?_append_left hj] at ht
      exact h.each j o t ho ht
    · have hjl := (List.getElem?_eq_some_iff.1 ht).1
      rw [List.length_append] at hjl
      simp at hjl
      obtain rfl : j = ts.length := by omega
      rw [List.getElem?_append_right (Nat.le_refl _)] at ht
      simp at ht
      rw [hx] at ho
      obtain rfl := Option.some.inj ho
      rw [← ht]
      exact ⟨by grind, by grind⟩
  · rw [sumR_snoc, h.sum]; grind
  · rw [ha.len, ha.last]; exact h.last
theorem TotMid.done {all : Rat} {owed ts cuts : List Rat} (h : TotMid all owed ts cuts) (hl : ts.length = owed.length) : TotOk all owed ts :=
  ⟨hl, h.each, by rw [h.sum]; exact leastL_le (List.mem_of_getElem? h.last)⟩
/-- what the items of a set bring -/
def setSum : List Rat → Nat → Rat
  | [], _ => 0
  | p :: l, s => (if s % 2 = 1 then p else 0) + setSum l (s / 2)
theorem setSum_nn : ∀ (l : List Rat) (s : Nat), (∀ p ∈ l, 0 ≤ p) → 0 ≤ setSum l s
  | [], _, _ => Rat.le_refl
  | p :: l, s, h => by
    have h1 := h p (by simp)
    have h2 := setSum_nn l (s / 2) (fun x hx => h x (by simp [hx]))
    unfold setSum
    split <;> grind
theorem setSum_zero : ∀ (l : List Rat), setSum l 0 = 0
  | [] => rfl
  | p :: l => by
    have := setSum_zero l
    simp only [setSum, Nat.zero_mod, Nat.zero_div, this]
    simp [Rat.zero_add]
theorem setSum_full : ∀ (l : List Rat), setSum l (2 ^ l.length - 1) = sumR l
  | [] => rfl
  | p :: l => by
    have h1 := setSum_full l
    have h2 : 0 < 2 ^ l.length := Nat.two_pow_pos _
    have e1 : (2 ^ (p :: l).length - 1) % 2 = 1 := by rw [List.length_cons, Nat.pow_succ]; omega
    have e2 : (2 ^ (p :: l).length - 1) / 2 = 2 ^ l.length - 1 := by rw [List.length_cons, Nat.pow_succ]; omega
    unfold setSum
    rw [if_pos e1, e2, h1, sumR]

end Go.Proofs.YtjlicnhkemfmiaaGreatDoor

/- The parts of the tiers, and what is paid on the claims tier after tier: plain. -/
set_option linter.unusedVariables false
set_option linter.unusedSimpArgs false
namespace Go.Proofs.YtjlicnhkemfmiaaGreatDoor
open Go.RowKit

/-- a part: the claim's number and its amount -/
abbrev Pt := Nat × Rat
/-- the parts of rank r of the claims l, counted from k -/
def partsF (r : Nat) : Nat → List Cl → List Pt
  | _, [] => []
  | k, c :: l => if c.rank = r then (k, c.amt) :: partsF r (k + 1) l else partsF r (k + 1) l
theorem partsF_snoc (r : Nat) (c : Cl) : ∀ (l : List Cl) (k : Nat), partsF r k (l ++ [c]) = if c.rank = r then partsF r k l ++ [(k + l.length, c.amt)] else partsF r k l
  | [], k => by simp only [List.nil_append, partsF, List.length_nil, Nat.add_zero]
  | d :: l, k => by
    have h := partsF_snoc r c l (k + 1)
    simp only [List.cons_append, partsF, h, List.length_cons]
    have e : k + 1 + l.length = k + (l.length + 1) := by omega
    rw [e]
    by_cases h1 : d.rank = r
    · by_cases h2 : c.rank = r <;> simp [h1, h2]
    · by_cases h2 : c.rank = r <;> simp [h1, h2]
/-- each part's claim -/
theorem partsF_get (r : Nat) : ∀ (l : List Cl) (k j : Nat) (p : Pt), (partsF r k l)[j]? = some p → k ≤ p.1 ∧ ∃ c, l[p.1 - k]? = some c ∧ c.rank = r ∧ c.amt = p.2
  | [], k, j, p, h => by simp [partsF] at h
  | c :: l, k, j, p, h => by
    unfold partsF at h
    by_cases h1 : c.rank = r
    · rw [if_pos h1] at h
      rcases j with _ | j
      · simp at h
        subst h
        exact ⟨Nat.le_refl _, c, by simp, h1, rfl⟩
      · obtain ⟨h2, d, h3, h4⟩ := partsF_get r l (k + 1) j p (by simpa using h)
        refine ⟨by omega, d, ?_, h4⟩
        rw [show p.1 - k = (p.1 - (k + 1)) + 1 by omega]
        simpa using h3
    · rw [if_neg h1] at h
      obtain ⟨h2, d, h3, h4⟩ := partsF_get r l (k + 1) j p h
      refine ⟨by omega, d, ?_, h4⟩
      rw [show p.1 - k = (p.1 - (k + 1)) + 1 by omega]
      simpa using h3
theorem partsF_len (r : Nat) : ∀ (l : List Cl) (k : Nat), (partsF r k l).length ≤ l.length
  | [], _ => by simp [partsF]
  | c :: l, k => by
    have := partsF_len r l (k + 1)
    unfold partsF
    split <;> simp <;> omega
/-- the claims' numbers rise -/
theorem partsF_up (r : Nat) : ∀ (l : List Cl) (k : Nat), (partsF r k l).Pairwise (fun a b => a.1 < b.1)
  | [], _ => by simp [partsF]
  | c :: l, k => by
    have h := partsF_up r l (k + 1)
    unfold partsF
    split
    · refine List.pairwise_cons.2 ⟨fun p hp => ?_, h⟩
      obtain ⟨j, hj⟩ := List.getElem?_of_mem hp
      have := (partsF_get r l (k + 1) j p hj).1
      show k < p.1
      omega
    · exact h
/-- an amount is added for a claim -/
def addQ (qs : List Rat) (i : Nat) (x : Rat) : List Rat := qs.set i (qs.getD i 0 + x)
theorem addQ_len (qs : List Rat) (i : Nat) (x : Rat) : (addQ qs i x).length = qs.length := by simp [addQ]
theorem addQ_get (qs : List Rat) (i : Nat) (x : Rat) (j : Nat) : (addQ qs i x)[j]? = if i = j then (qs[j]?).map (· + x) else qs[j]? := by
  unfold addQ
  rw [List.getElem?_set]
  by_cases h : i = j
  · subst h
    rw [if_pos rfl, if_pos rfl]
    by_cases hl : i < qs.length
    · rw [if_pos hl, List.getElem?_eq_getElem hl, List.getD_eq_getElem?_getD, List.getElem?_eq_getElem hl]; rfl
    · rw [if_neg hl, List.getElem?_eq_none (by omega)]; rfl
  · rw [if_neg h, if_neg h]
/-- parts are paid, each the part f of its amount -/
def addP (f : Rat) (qs : List Rat) (ps : List Pt) : List Rat := ps.foldl (fun qs p => addQ qs p.1 (p.2 * f)) qs
theorem addP_len (f : Rat) : ∀ (ps : List Pt) (qs : List Rat), (addP f qs ps).length = qs.length
  | [], _ => rfl
  | p :: ps, qs => by
    have := addP_len f ps (addQ qs p.1 (p.2 * f))
    rw [addQ_len] at this
    exact this
theorem addP_next {f : Rat} {qs : List Rat} {ps : List Pt} {j : Nat} {p : Pt} (h : ps[j]? = some p) : addP f qs (ps.take (j + 1)) = addQ (addP f qs (ps.take j)) p.1 (p.2 * f) := take_foldl _ _ _ _ _ h
theorem addP_out (f : Rat) : ∀ (ps : List Pt) (qs : List Rat) (i : Nat), (∀ p ∈ ps, p.1 ≠ i) → (addP f qs ps)[i]? = qs[i]?
  | [], _, _, _ => rfl
  | p :: ps, qs, i, h => by
    have h1 := addP_out f ps (addQ qs p.1 (p.2 * f)) i (fun x hx => h x (by simp [hx]))
    have h2 := h p (by simp)
    show (addP f (addQ qs p.1 (p.2 * f)) ps)[i]? = _
    rw [h1, addQ_get, if_neg h2]
theorem addP_parts (f : Rat) (r : Nat) : ∀ (l : List Cl) (k : Nat) (qs : List Rat) (i : Nat), (addP f qs (partsF r k l))[i]? = if k ≤ i ∧ (l[i - k]?).any (fun c => decide (c.rank = r)) = true then (qs[i]?).map (· + ((l[i - k]?).map (·.amt)).getD 0 * f) else qs[i]?
  | [], k, qs, i => by simp [partsF, addP]
  | c :: l, k, qs, i => by
    have ih := fun qs => addP_parts f r l (k + 1) qs i
    unfold partsF
    by_cases hi : i = k
    · subst hi
      have hn : ∀ p ∈ partsF r (i + 1) l, p.1 ≠ i := fun p hp => by
        obtain ⟨j, hj⟩ := List.getElem?_of_mem hp
        have := (partsF_get r l (i + 1) j p hj).1
        omega
      by_cases h1 : c.rank = r
      · rw [if_pos h1]
        show (addP f (addQ qs i (c.amt * f)) (partsF r (i + 1) l))[i]? = _
        rw [addP_out _ _ _ _ hn, addQ_get, if_pos rfl]
        simp [h1]
      · rw [if_neg h1, addP_out _ _ _ _ hn]
        simp [h1]
    · have e0 : ∀ x, (addQ qs k x)[i]? = qs[i]? := fun x => by rw [addQ_get, if_neg (Ne.symm hi)]
      have e1 : (if c.rank = r then (k, c.amt) :: partsF r (k + 1) l else partsF r (k + 1) l) = if c.rank = r then (k, c.amt) :: partsF r (k + 1) l else partsF r (k + 1) l := rfl
      have main : (addP f qs (if c.rank = r then (k, c.amt) :: partsF r (k + 1) l else partsF r (k + 1) l))[i]? = if k + 1 ≤ i ∧ (l[i - (k + 1)]?).any (fun c => decide (c.rank = r)) = true then (qs[i]?).map (· + ((l[i - (k + 1)]?).map (·.amt)).getD 0 * f) else qs[i]? := by
        by_cases h1 : c.rank = r
        · rw [if_pos h1]
          show (addP f (addQ qs k (c.amt * f)) (partsF r (k + 1) l))[i]? = _
          rw [ih, e0]
        · rw [if_neg h1, ih]
      rw [main]
      by_cases hk : k ≤ i
      · rw [show i - k = (i - (k + 1)) + 1 by omega, List.getElem?_cons_succ]
        simp [hk, show k + 1 ≤ i by omega]
      · simp [hk, show ¬ k + 1 ≤ i by omega]
/-- what is paid when the tiers below k have been paid, each its part -/
def paidK (f : Nat → Rat) (l : List Cl) (k : Nat) : List Rat := l.map fun c => if c.rank < k then c.amt * f c.rank else 0
theorem paidK_len (f : Nat → Rat) (l : List Cl) (k : Nat) : (paidK f l k).length = l.length := by simp [paidK]
theorem paidK_zero (f : Nat → Rat) (l : List Cl) : paidK f l 0 = List.replicate l.length 0 := by
  unfold paidK; simp [List.map_const']
theorem paidK_next (f : Nat → Rat) (l : List Cl) (k : Nat) : addP (f k) (paidK f l k) (partsF k 0 l) = paidK f l (k + 1) := by
  refine List.ext_getElem? fun i => ?_
  rw [addP_parts]
  unfold paidK
  simp only [Nat.zero_le, true_and, Nat.sub_zero, List.getElem?_map]
  rcases hl : l[i]? with _ | c
  · simp
  · simp only [Option.any_some, decide_eq_true_eq, Option.map_some, Option.getD_some]
    by_cases h1 : c.rank = k
    · simp [h1, Rat.zero_add]
    · rw [if_neg h1]
      by_cases h2 : c.rank < k
      · simp [h2, show c.rank < k + 1 by omega]
      · simp [h2, show ¬ c.rank < k + 1 by omega]
theorem paidK_at {f : Nat → Rat} {l : List Cl} {k j : Nat} {p : Pt} (h : (partsF k 0 l)[j]? = some p) : (addP (f k) (paidK f l k) ((partsF k 0 l).take j))[p.1]? = some 0 := by
  rw [addP_out]
  · obtain ⟨_, c, hc, hr, _⟩ := partsF_get k l 0 j p h
    unfold paidK
    rw [List.getElem?_map, show p.1 = p.1 - 0 by omega, hc]
    simp [hr]
  · intro x hx
    obtain ⟨i, hi⟩ := List.getElem?_of_mem hx
    have hij : i < j := by
      have := (List.getElem?_eq_some_iff.1 hi).1
      rw [List.length_take] at this; omega
    rw [List.getElem?_take, if_pos hij] at hi
    have hpw := List.pairwise_iff_getElem.1 (partsF_up k l 0) i j (List.getElem?_eq_some_iff.1 hi).1 (List.getElem?_eq_some_iff.1 h).1 hij
    rw [(List.getElem?_eq_some_iff.1 hi).2, (List.getElem?_eq_some_iff.1 h).2] at hpw
    omega
theorem paidK_more {f : Nat → Rat} {l : List Cl} {k : Nat} (h : ∀ r, k ≤ r → f r = 0) (n : Nat) (hkn : k ≤ n) : paidK f l k = paidK f l n := by
  unfold paidK
  refine List.map_congr_left fun c _ => ?_
  by_cases h1 : c.rank < k
  · rw [if_pos h1, if_pos (by omega)]
  · rw [if_neg h1]
    by_cases h2 : c.rank < n
    · rw [if_pos h2, h _ (by omega), Rat.mul_zero]
    · rw [if_neg h2]
theorem paidK_all {l : List Cl} (h : ∀ c ∈ l, c.rank < 8) (m : Rat) : paidK (fun r => (frs m (tiersL l)).getD r 0) l 8 = deliv l m := by
  unfold paidK deliv
  exact List.map_congr_left fun c hc => by rw [if_pos (h c hc)]
/-- what is left for tier k -/
def leftK (m : Rat) (S : List Rat) (k : Nat) : Rat := (S.take k).foldl (fun m s => m - s) m
theorem leftK_next {m : Rat} {S : List Rat} {k : Nat} {s : Rat} (h : S[k]? = some s) : leftK m S (k + 1) = leftK m S k - s := take_foldl _ _ _ _ _ h
theorem frs_at : ∀ (S : List Rat) (m : Rat) (k : Nat) (s : Rat), S[k]? = some s → (frs m S).getD k 0 = wfr (leftK m S k) s
  | [], _, _, _, h => by simp at h
  | x :: S, m, 0, s, h => by
    simp at h
    subst h
    simp [frs, leftK]
  | x :: S, m, k + 1, s, h => by
    have := frs_at S (m - x) k s (by simpa using h)
    simp only [frs, List.getD_cons_succ, this, leftK, List.take_succ_cons, List.foldl_cons]
theorem leftK_anti {m : Rat} {S : List Rat} (h : ∀ s ∈ S, 0 ≤ s) : ∀ (j k : Nat), leftK m S (k + j) ≤ leftK m S k
  | 0, k => Rat.le_refl
  | j + 1, k => by
    have h1 := leftK_anti (m := m) h j k
    rcases hs : S[k + j]? with _ | s
    · have : leftK m S (k + (j + 1)) = leftK m S (k + j) := by
        unfold leftK
        have hl := List.getElem?_eq_none_iff.1 hs
        rw [List.take_of_length_le (by omega), List.take_of_length_le hl]
      rw [this]; exact h1
    · have h2 := h s (List.mem_of_getElem? hs)
      rw [← Nat.add_assoc, leftK_next hs]
      grind
/-- nothing is left behind a tier that is not paid in full -/
theorem frs_behind {m : Rat} {S : List Rat} {k : Nat} {s : Rat} (hS : ∀ s ∈ S, 0 ≤ s) (h : S[k]? = some s) (hlt : leftK m S k < s) (r : Nat) (hr : k < r) : (frs m S).getD r 0 = 0 := by
  rcases hs : S[r]? with _ | x
  · have hl := List.getElem?_eq_none_iff.1 hs
    rw [List.getD_eq_getElem?_getD, List.getElem?_eq_none (by rw [frs_len]; exact hl)]; rfl
  · rw [frs_at S m r x hs]
    have h1 := leftK_anti (m := m) hS (r - (k + 1)) (k + 1)
    rw [show k + 1 + (r - (k + 1)) = r by omega, leftK_next h] at h1
    unfold wfr
    rw [if_pos (by grind)]
theorem frs_full {m : Rat} {S : List Rat} {k : Nat} {s : Rat} (h : S[k]? = some s) (h0 : 0 ≤ leftK m S k) (hle : s ≤ leftK m S k) : (frs m S).getD k 0 = 1 := by
  rw [frs_at S m k s h]; unfold wfr; rw [if_neg (Rat.not_lt.2 h0), if_pos hle]
theorem frs_part {m : Rat} {S : List Rat} {k : Nat} {s : Rat} (h : S[k]? = some s) (h0 : 0 ≤ leftK m S k) (hlt : leftK m S k < s) : (frs m S).getD k 0 = leftK m S k / s := by
  rw [frs_at S m k s h]; unfold wfr; rw [if_neg (Rat.not_lt.2 h0), if_neg (Rat.not_le.2 hlt)]
/-- the first tier that the money does not pay in full, or all -/
structure SplitR (m : Rat) (S : List Rat) (k : Nat) : Prop where
  le : k ≤ S.length
  full : ∀ (j : Nat) (s : Rat), j < k → S[j]? = some s → s ≤ leftK m S j
  nn : 0 ≤ leftK m S k
theorem SplitR.start {m : Rat} {S : List Rat} (h : 0 ≤ m) : SplitR m S 0 := ⟨Nat.zero_le _, fun j s h => by omega, h⟩
theorem SplitR.next {m : Rat} {S : List Rat} {k : Nat} (h : SplitR m S k) {s : Rat} (hs : S[k]? = some s) (hle : s ≤ leftK m S k) : SplitR m S (k + 1) := by
  refine ⟨(List.getElem?_eq_some_iff.1 hs).1, fun j x hj hx => ?_, ?_⟩
  · rcases Nat.lt_succ_iff_lt_or_eq.1 hj with hj | rfl
    · exact h.full j x hj hx
    · rw [hs] at hx; obtain rfl := Option.some.inj hx; exact hle
  · rw [leftK_next hs]; grind
theorem SplitR.left {m : Rat} {S : List Rat} {k : Nat} (h : SplitR m S k) (hS : ∀ s ∈ S, 0 ≤ s) (j : Nat) (hj : j ≤ k) : 0 ≤ leftK m S j := by
  have := leftK_anti (m := m) hS (k - j) j
  rw [show j + (k - j) = k by omega] at this
  exact Rat.le_trans h.nn this
theorem SplitR.one {m : Rat} {S : List Rat} {k : Nat} (h : SplitR m S k) (hS : ∀ s ∈ S, 0 ≤ s) (j : Nat) (hj : j < k) : (frs m S).getD j 0 = 1 := by
  obtain ⟨s, hs⟩ := getElem?_of_lt (l := S) (k := j) (by have := h.le; omega)
  exact frs_full hs (h.left hS j (by omega)) (h.full j s hj hs)

end Go.Proofs.YtjlicnhkemfmiaaGreatDoor

/- Sets of items as bits: plain. -/
set_option linter.unusedVariables false
set_option linter.unusedSimpArgs false
namespace Go.Proofs.YtjlicnhkemfmiaaGreatDoor
open Go.RowKit

def lo (s : Nat) : Nat := s &&& (s - 1)
def tz (s : Nat) : Nat := Lib.ctz 64 s
theorem lo_tz : ∀ s : Fin 16, s.val ≠ 0 → lo s.val < s.val ∧ (s.val % 2 = 1 → lo s.val = s.val - 1 ∧ tz s.val = 0) ∧ (s.val % 2 = 0 → lo s.val = 2 * lo (s.val / 2) ∧ tz s.val = tz (s.val / 2) + 1) := by decide +kernel
theorem and_i64 : ∀ s : Fin 16, s.val ≠ 0 → bits .and .i64 (s.val : Int) ((s.val : Int) - 1) = ((lo s.val : Nat) : Int) := by decide +kernel
theorem setSum_step : ∀ (ps : List Rat) (s : Nat), s ≠ 0 → s < 2 ^ ps.length → ps.length ≤ 4 → ∃ p, ps[tz s]? = some p ∧ setSum ps s = setSum ps (lo s) + p
  | [], s, h0, h, _ => by simp at h; exact absurd h h0
  | p :: l, s, h0, h, h4 => by
    have hl : l.length ≤ 3 := by simpa using h4
    have hs16 : s < 16 := by
      have : 2 ^ (p :: l).length ≤ 2 ^ 4 := Nat.pow_le_pow_right (by decide) h4
      omega
    obtain ⟨h1, h2, h3⟩ := lo_tz ⟨s, hs16⟩ h0
    dsimp only at h1 h2 h3
    by_cases ho : s % 2 = 1
    · obtain ⟨e1, e2⟩ := h2 ho
      refine ⟨p, by rw [e2]; rfl, ?_⟩
      have e3 : (s - 1) % 2 = 0 := by omega
      have e4 : (s - 1) / 2 = s / 2 := by omega
      rw [e1]
      unfold setSum
      rw [if_pos ho, if_neg (by omega), e4]
      grind
    · have he : s % 2 = 0 := by omega
      obtain ⟨e1, e2⟩ := h3 he
      have hp : 2 ^ (p :: l).length = 2 * 2 ^ l.length := by rw [List.length_cons, Nat.pow_succ]; omega
      obtain ⟨q, hq, hs⟩ := setSum_step l (s / 2) (by omega) (by omega) (by omega)
      refine ⟨q, by rw [e2, List.getElem?_cons_succ]; exact hq, ?_⟩
      have e3 : (2 * lo (s / 2)) % 2 = 0 := by omega
      have e4 : (2 * lo (s / 2)) / 2 = lo (s / 2) := by omega
      rw [e1]
      unfold setSum
      rw [if_neg ho, if_neg (by omega), e4, hs]
      grind
def cutsL (ps : List Rat) : List Rat := (List.range (2 ^ ps.length)).map (setSum ps)
theorem cutsL_len (ps : List Rat) : (cutsL ps).length = 2 ^ ps.length := by simp [cutsL]
theorem cutsL_at {ps : List Rat} {s : Nat} (h : s < 2 ^ ps.length) : (cutsL ps)[s]? = some (setSum ps s) := by
  unfold cutsL
  rw [List.getElem?_map, List.getElem?_range h]; rfl
/-- the cuts that have been reckoned: those below k -/
def cutsK (ps : List Rat) (k : Nat) : List Rat := (List.range (2 ^ ps.length)).map fun s => if s < k then setSum ps s else 0
theorem cutsK_len (ps : List Rat) (k : Nat) : (cutsK ps k).length = 2 ^ ps.length := by simp [cutsK]
theorem cutsK_at {ps : List Rat} {k s : Nat} (h : s < 2 ^ ps.length) : (cutsK ps k)[s]? = some (if s < k then setSum ps s else 0) := by
  unfold cutsK
  rw [List.getElem?_map, List.getElem?_range h]; rfl
theorem cutsK_start (ps : List Rat) : cutsK ps 1 = List.replicate (2 ^ ps.length) 0 := by
  refine List.ext_getElem? fun i => ?_
  by_cases hi : i < 2 ^ ps.length
  · rw [cutsK_at hi, List.getElem?_replicate, if_pos hi]
    by_cases h0 : i < 1
    · rw [if_pos h0, show i = 0 by omega, setSum_zero]
    · rw [if_neg h0]
  · rw [List.getElem?_eq_none (by rw [cutsK_len]; omega), List.getElem?_eq_none (by simp; omega)]
theorem cutsK_next {ps : List Rat} {k : Nat} (h : k < 2 ^ ps.length) {v : Rat} (hv : v = setSum ps k) : (cutsK ps k).set k v = cutsK ps (k + 1) := by
  refine List.ext_getElem? fun i => ?_
  rw [List.getElem?_set]
  by_cases hi : i < 2 ^ ps.length
  · rw [cutsK_at hi, cutsK_at hi]
    by_cases e : k = i
    · subst e
      rw [if_pos rfl, if_pos (by rw [cutsK_len]; exact h), if_pos (by omega), hv]
    · rw [if_neg e]
      by_cases h1 : i < k
      · rw [if_pos h1, if_pos (by omega)]
      · rw [if_neg h1, if_neg (by omega)]
  · rw [if_neg (by omega), List.getElem?_eq_none (by rw [cutsK_len]; omega), List.getElem?_eq_none (by rw [cutsK_len]; omega)]
theorem cutsK_all (ps : List Rat) : cutsK ps (2 ^ ps.length) = cutsL ps := by
  refine List.ext_getElem? fun i => ?_
  by_cases hi : i < 2 ^ ps.length
  · rw [cutsK_at hi, cutsL_at hi, if_pos hi]
  · rw [List.getElem?_eq_none (by rw [cutsK_len]; omega), List.getElem?_eq_none (by rw [cutsL_len]; omega)]
theorem TotMid.cuts {ps owed : List Rat} (h : ∀ p ∈ ps, 0 ≤ p) : TotMid (sumR ps) owed [] (cutsL ps) := by
  have h0 : 0 < 2 ^ ps.length := Nat.two_pow_pos _
  refine TotMid.start (by rw [cutsL_len]; exact h0) (by rw [cutsL_at h0, setSum_zero]) (fun r hr => ?_) ?_
  · unfold cutsL at hr
    obtain ⟨s, _, rfl⟩ := List.mem_map.1 hr
    exact setSum_nn ps s h
  · rw [cutsL_len, cutsL_at (by omega), setSum_full]
/-- math/bits.TrailingZeros64 of a small number -/
theorem tz_facts : ∀ s : Fin 16, s.val ≠ 0 → IntKind.u64.wrap (-(s.val : Int)) = ((18446744073709551616 - s.val : Nat) : Int) ∧ bits .and .u64 (s.val : Int) ((18446744073709551616 - s.val : Nat) : Int) = ((2 ^ tz s.val : Nat) : Int) ∧
    IntKind.u64.wrap (((2 ^ tz s.val : Nat) : Int) * 285870213051353865) = ((2 ^ tz s.val * 285870213051353865 % 18446744073709551616 : Nat) : Int) ∧ 2 ^ tz s.val * 285870213051353865 % 18446744073709551616 / 288230376151711744 < 64 ∧ Lib.deBruijn64tab.getD (2 ^ tz s.val * 285870213051353865 % 18446744073709551616 / 288230376151711744) 0 = tz s.val ∧ tz s.val < 4 := by decide +kernel

end Go.Proofs.YtjlicnhkemfmiaaGreatDoor

/- Merged of Wf WfB MsP WfC. -/
import Derived.Test.YtjlicnhkemfmiaaGreatDoorM21
/- What a waterfall by ranks pays: plain. wfr z S: which part of a tier of sum S is paid out of z; frs m l: of each tier of l, one after the other. -/
set_option linter.unusedVariables false
set_option linter.unusedSimpArgs false
namespace Go.Proofs.YtjlicnhkemfmiaaGreatDoor
open Go.RowKit

def wfr (z S : Rat) : Rat := if z < 0 then 0 else if S ≤ z then 1 else z / S
theorem div_nn {a b : Rat} (ha : 0 ≤ a) (hb : 0 < b) : 0 ≤ a / b := by
 rw [Rat.div_def]; exact Rat.mul_nonneg ha (Rat.le_of_lt (Rat.inv_pos.2 hb))
theorem wfr_nn {z S : Rat} : 0 ≤ wfr z S := by
 unfold wfr
 split
 ·
  exact Rat.le_refl
 ·
  split
  ·
   decide
  ·
   rename_i h1 h2
   exact div_nn (Rat.not_lt.1 h1) (by grind)
theorem div_le_one {a b : Rat} (hb : 0 < b) (h : a ≤ b) : a / b ≤ 1 := by
 have h1 := Rat.mul_le_mul_of_nonneg_right h (Rat.le_of_lt (Rat.inv_pos.2 hb))
 rw [← Rat.div_def, ← Rat.div_def, show b / b = 1 by rw [Rat.div_def]; exact Rat.mul_inv_cancel b (by grind)] at h1
 exact h1
theorem wfr_le {z S : Rat} : wfr z S ≤ 1 := by
 unfold wfr
 split
 ·
  decide
 ·
  split
  ·
   exact Rat.le_refl
  ·
   rename_i h1 h2
   exact div_le_one (by grind) (by grind)
theorem div_mono {a b c : Rat} (hc : 0 < c) (h : a ≤ b) : a / c ≤ b / c := by
 rw [Rat.div_def, Rat.div_def]
 exact Rat.mul_le_mul_of_nonneg_right h (Rat.le_of_lt (Rat.inv_pos.2 hc))
theorem wfr_mono {z z' S : Rat} (h : z ≤ z') : wfr z S ≤ wfr z' S := by
 by_cases h0 : z < 0
 ·
  rw [show wfr z S = 0 by unfold wfr; rw [if_pos h0]]; exact wfr_nn
 ·
  by_cases h1 : S ≤ z'
  ·
   rw [show wfr z' S = 1 by unfold wfr; rw [if_neg (by grind), if_pos h1]]; exact wfr_le
  ·
   unfold wfr
   rw [if_neg h0, if_neg (by grind), if_neg (by grind), if_neg h1]
   exact div_mono (by grind) h
theorem wfr_anti {z S S' : Rat} (h : S ≤ S') : wfr z S' ≤ wfr z S := by
 by_cases h0 : z < 0
 ·
  unfold wfr; rw [if_pos h0, if_pos h0]; exact Rat.le_refl
 ·
  by_cases h1 : S ≤ z
  ·
   rw [show wfr z S = 1 by unfold wfr; rw [if_neg h0, if_pos h1]]; exact wfr_le
  ·
   unfold wfr
   rw [if_neg h0, if_neg h0, if_neg h1, if_neg (by grind)]
   have hS : 0 < S := by grind
   have hS' : 0 < S' := by grind
   have hz : 0 ≤ z := Rat.not_lt.1 h0
   have h2 : z / S' * S ≤ z := by
    have h3 : z / S' * S ≤ z / S' * S' := Rat.mul_le_mul_of_nonneg_left h (div_nn hz hS')
    rw [Rat.div_mul_cancel (by grind)] at h3
    exact h3
   have h4 := div_mono hS h2
   rw [show z / S' * S / S = z / S' by rw [Rat.div_def (z / S' * S), Rat.mul_assoc, Rat.mul_inv_cancel _ (by grind), Rat.mul_one]] at h4
   exact h4
def frs : Rat → List Rat → List Rat
 | _, [] => []
 | m, S :: r => wfr m S :: frs (m - S) r
theorem frs_len : ∀ (l : List Rat) (m : Rat), (frs m l).length = l.length
 | [], _ => rfl
 | S :: r, m => by simp [frs, frs_len r]
def paidOf : List Rat → List Rat → Rat
 | S :: r, f :: t => S * f + paidOf r t
 | _, _ => 0
def sumR : List Rat → Rat
 | [] => 0
 | S :: r => S + sumR r
end Go.Proofs.YtjlicnhkemfmiaaGreatDoor

/- What is delivered on claims with ranks and no agreements: plain laws (no claim receives more than its amount; all that is delivered; a greater claim leaves less to the others). -/
namespace Go.Proofs.YtjlicnhkemfmiaaGreatDoor
open Go.RowKit

structure Cl where
 rank : Nat
 amt : Rat
def addAt : Nat → Rat → List Rat → List Rat
 | _, _, [] => []
 | 0, x, S :: r => (S + x) :: r
 | n + 1, x, S :: r => S :: addAt n x r
theorem addAt_len : ∀ (n : Nat) (x : Rat) (l : List Rat), (addAt n x l).length = l.length
 | _, _, [] => by simp [addAt]
 | 0, x, S :: r => by simp [addAt]
 | n + 1, x, S :: r => by simp [addAt, addAt_len n x r]
theorem addAt_nn : ∀ (n : Nat) (x : Rat) (l : List Rat), 0 ≤ x → (∀ S ∈ l, 0 ≤ S) → ∀ S ∈ addAt n x l, 0 ≤ S
 | _, _, [], _, _, S, h => by simp [addAt] at h
 | 0, x, S :: r, hx, hl, T, h => by
  simp [addAt] at h
  rcases h with h | h
  ·
   rw [h]; exact Rat.add_nonneg (hl S (by simp)) hx
  ·
   exact hl T (by simp [h])
 | n + 1, x, S :: r, hx, hl, T, h => by
  simp [addAt] at h
  rcases h with h | h
  ·
   rw [h]; exact hl S (by simp)
  ·
   exact addAt_nn n x r hx (fun y hy => hl y (by simp [hy])) T h
theorem addAt_sum : ∀ (n : Nat) (x : Rat) (l : List Rat), n < l.length → sumR (addAt n x l) = sumR l + x
 | _, _, [], h => by simp at h
 | 0, x, S :: r, _ => by simp only [addAt, sumR]; grind
 | n + 1, x, S :: r, h => by
  have := addAt_sum n x r (by simpa using h)
  simp only [addAt, sumR]; grind
theorem addAt_paid : ∀ (n : Nat) (x : Rat) (l f : List Rat), l.length = f.length → n < l.length → paidOf (addAt n x l) f = paidOf l f + x * f.getD n 0
 | _, _, [], _, _, h => by simp at h
 | _, _, _ :: _, [], h, _ => by simp at h
 | 0, x, S :: r, g :: t, _, _ => by simp only [addAt, paidOf, List.getD_cons_zero]; grind
 | n + 1, x, S :: r, g :: t, hl, h => by
  have := addAt_paid n x r t (by simpa using hl) (by simpa using h)
  simp only [addAt, paidOf, List.getD_cons_succ]; grind
/-- a greater amount at a rank: nobody is paid a greater part -/
theorem frs_addAt : ∀ (l : List Rat) (m : Rat) (r : Nat) (x x' : Rat), x ≤ x' → ∀ k : Nat, (frs m (addAt r x' l)).getD k 0 ≤ (frs m (addAt r x l)).getD k 0
 | [], m, r, x, x', _, k => by simp [addAt, frs]
 | S :: t, m, 0, x, x', h, 0 => by
  simp only [addAt, frs, List.getD_cons_zero]
  exact wfr_anti (by grind)
 | S :: t, m, 0, x, x', h, k + 1 => by
  simp only [addAt, frs, List.getD_cons_succ]
  exact frs_monoD t _ _ (by grind) k
 | S :: t, m, r + 1, x, x', h, 0 => by
  simp only [addAt, frs, List.getD_cons_zero]
  exact Rat.le_refl
 | S :: t, m, r + 1, x, x', h, k + 1 => by
  simp only [addAt, frs, List.getD_cons_succ]
  exact frs_addAt t _ r x x' h k
where
 frs_monoD : ∀ (l : List Rat) (m m' : Rat), m ≤ m' → ∀ k : Nat, (frs m l).getD k 0 ≤ (frs m' l).getD k 0
  | [], _, _, _, k => by simp [frs]
  | S :: r, m, m', hm, 0 => by simp only [frs, List.getD_cons_zero]; exact wfr_mono hm
  | S :: r, m, m', hm, k + 1 => by simp only [frs, List.getD_cons_succ]; exact frs_monoD r _ _ (by grind) k
def tiersL (l : List Cl) : List Rat := l.foldl (fun L c => addAt c.rank c.amt L) (List.replicate 8 0)
theorem tiers_snoc (l : List Cl) (c : Cl) : tiersL (l ++ [c]) = addAt c.rank c.amt (tiersL l) := by
 unfold tiersL; rw [List.foldl_append]; rfl
theorem tiers_gen : ∀ (l : List Cl) (L : List Rat), L.length = 8 → (∀ S ∈ L, 0 ≤ S) → (∀ c ∈ l, c.rank < 8 ∧ 0 ≤ c.amt) →
 (l.foldl (fun L c => addAt c.rank c.amt L) L).length = 8 ∧ (∀ S ∈ l.foldl (fun L c => addAt c.rank c.amt L) L, 0 ≤ S) ∧
 sumR (l.foldl (fun L c => addAt c.rank c.amt L) L) = sumR L + sumR (l.map (·.amt)) ∧
 ∀ f : List Rat, f.length = 8 → paidOf (l.foldl (fun L c => addAt c.rank c.amt L) L) f = paidOf L f + sumR (l.map fun c => c.amt * f.getD c.rank 0)
 | [], L, h8, hL, _ => ⟨h8, hL, by simp [sumR, Rat.add_zero], fun f hf => by simp [sumR, Rat.add_zero]⟩
 | c :: l, L, h8, hL, hc => by
  have h1 := hc c (by simp)
  obtain ⟨i1, i2, i3, i4⟩ := tiers_gen l (addAt c.rank c.amt L) (by rw [addAt_len]; exact h8) (addAt_nn _ _ _ h1.2 hL) (fun x hx => hc x (by simp [hx]))
  refine ⟨i1, i2, ?_, fun f hf => ?_⟩
  ·
   rw [List.foldl_cons, i3, addAt_sum _ _ _ (by rw [h8]; exact h1.1), List.map_cons]
   simp only [sumR]; grind
  ·
   rw [List.foldl_cons, i4 f hf, addAt_paid _ _ _ _ (by rw [h8, hf]) (by rw [h8]; exact h1.1), List.map_cons]
   simp only [sumR]; grind
theorem zeros_paid : ∀ (n : Nat) (f : List Rat), paidOf (List.replicate n 0) f = 0
 | 0, _ => by simp [paidOf]
 | n + 1, [] => by simp [List.replicate, paidOf]
 | n + 1, g :: t => by simp only [List.replicate, paidOf]; rw [zeros_paid n t]; grind
theorem zeros_sum : ∀ n : Nat, sumR (List.replicate n 0) = 0
 | 0 => rfl
 | n + 1 => by simp only [List.replicate, sumR]; rw [zeros_sum n]; grind
structure ClsOk (l : List Cl) : Prop where
 each : ∀ c ∈ l, c.rank < 8 ∧ 0 ≤ c.amt
/-- what is delivered -/
def deliv (l : List Cl) (m : Rat) : List Rat := l.map fun c => c.amt * (frs m (tiersL l)).getD c.rank 0
theorem deliv_len (l : List Cl) (m : Rat) : (deliv l m).length = l.length := by unfold deliv; simp
theorem deliv_at {l : List Cl} {m : Rat} {i : Nat} {c : Cl} (h : l[i]? = some c) : (deliv l m)[i]? = some (c.amt * (frs m (tiersL l)).getD c.rank 0) := by
 unfold deliv; rw [List.getElem?_map, h]; rfl
theorem tiers_ok {l : List Cl} (h : ClsOk l) : (tiersL l).length = 8 ∧ (∀ S ∈ tiersL l, 0 ≤ S) ∧ sumR (tiersL l) = sumR (l.map (·.amt)) ∧ ∀ f : List Rat, f.length = 8 → paidOf (tiersL l) f = sumR (l.map fun c => c.amt * f.getD c.rank 0) := by
 obtain ⟨i1, i2, i3, i4⟩ := tiers_gen l (List.replicate 8 0) (by simp) (fun S hS => by rw [List.eq_of_mem_replicate hS]; exact Rat.le_refl) h.each
 refine ⟨i1, i2, ?_, fun f hf => ?_⟩
 ·
  unfold tiersL; rw [i3, zeros_sum, Rat.zero_add]
 ·
  unfold tiersL; rw [i4 f hf, zeros_paid, Rat.zero_add]
/-- the others receive no more where the last claim is greater -/
theorem deliv_anti {l : List Cl} (h : ClsOk l) {r : Nat} {x x' m : Rat} (hx : x ≤ x') {i : Nat} (hi : i < l.length) {d d' : Rat} (hd : (deliv (l ++ [⟨r, x⟩]) m)[i]? = some d) (hd' : (deliv (l ++ [⟨r, x'⟩]) m)[i]? = some d') : d' ≤ d := by
 have hc : ∀ z : Rat, (l ++ [(⟨r, z⟩ : Cl)])[i]? = some l[i] := fun z => by rw [List.getElem?_append_left hi]; exact List.getElem?_eq_getElem hi
 rw [deliv_at (hc x)] at hd
 rw [deliv_at (hc x')] at hd'
 obtain rfl := Option.some.inj hd
 obtain rfl := Option.some.inj hd'
 rw [tiers_snoc, tiers_snoc]
 exact Rat.mul_le_mul_of_nonneg_left (frs_addAt (tiersL l) m r x x' hx l[i].rank) (h.each _ (List.getElem_mem hi)).2

end Go.Proofs.YtjlicnhkemfmiaaGreatDoor

/- What the totals of a network of items and claims are: plain. leastL: the least cut; AddR: what a further claim adds to the cuts. -/
namespace Go.Proofs.YtjlicnhkemfmiaaGreatDoor
open Go.RowKit

def minR (a b : Rat) : Rat := if a ≤ b then a else b
theorem minR_l {a b : Rat} : minR a b ≤ a := by unfold minR; split <;> grind
theorem minR_r {a b : Rat} : minR a b ≤ b := by unfold minR; split <;> grind
theorem minR_or (a b : Rat) : minR a b = a ∨ minR a b = b := by unfold minR; split <;> simp
theorem foldl_minR : ∀ (l : List Rat) (x : Rat), l.foldl minR x ≤ x ∧ (∀ y ∈ l, l.foldl minR x ≤ y) ∧ (l.foldl minR x = x ∨ l.foldl minR x ∈ l)
 | [], x => ⟨Rat.le_refl, fun y h => (by cases h), Or.inl rfl⟩
 | z :: l, x => by
  obtain ⟨h1, h2, h3⟩ := foldl_minR l (minR x z)
  refine ⟨Rat.le_trans h1 minR_l, fun y hy => ?_, ?_⟩
  ·
   rcases List.mem_cons.1 hy with rfl | hy
   ·
    exact Rat.le_trans h1 minR_r
   ·
    exact h2 y hy
  ·
   rw [List.foldl_cons]
   rcases h3 with h3 | h3
   ·
    rcases minR_or x z with e | e
    ·
     exact Or.inl (h3.trans e)
    ·
     exact Or.inr (by rw [h3, e]; exact List.mem_cons_self)
   ·
    exact Or.inr (List.mem_cons_of_mem _ h3)
def leastL (l : List Rat) : Rat := l.foldl minR (l.getD 0 0)
theorem leastL_le {l : List Rat} {y : Rat} (h : y ∈ l) : leastL l ≤ y := (foldl_minR l _).2.1 y h
theorem leastL_mem {l : List Rat} (h : 0 < l.length) : leastL l ∈ l := by
 rcases (foldl_minR l (l.getD 0 0)).2.2 with e | e
 ·
  unfold leastL; rw [e, List.getD_eq_getElem?_getD, List.getElem?_eq_getElem h]; exact List.getElem_mem h
 ·
  exact e
/-- the cuts after a further claim that is owed x -/
structure AddR (x : Rat) (L L' : List Rat) : Prop where
 len : L'.length = L.length
 each : ∀ (j : Nat) (r r' : Rat), L[j]? = some r → L'[j]? = some r' → r' = r ∨ r' = r + x
 last : L'[L.length - 1]? = L[L.length - 1]?
theorem AddR.least {x : Rat} {L L' : List Rat} (h : AddR x L L') (hx : 0 ≤ x) (h0 : 0 < L.length) : leastL L ≤ leastL L' ∧ leastL L' ≤ leastL L + x := by
 have h0' : 0 < L'.length := by rw [h.len]; exact h0
 constructor
 ·
  obtain ⟨j, hj⟩ := List.getElem?_of_mem (leastL_mem h0')
  have hjl : j < L.length := by have := (List.getElem?_eq_some_iff.1 hj).1; rw [h.len] at this; exact this
  have h1 := List.getElem?_eq_getElem hjl
  have h2 := leastL_le (List.mem_of_getElem? h1)
  rcases h.each j _ _ h1 hj with e | e
  ·
   rw [e]; exact h2
  ·
   rw [e]; grind
 ·
  obtain ⟨j, hj⟩ := List.getElem?_of_mem (leastL_mem h0)
  have hjl : j < L'.length := by have := (List.getElem?_eq_some_iff.1 hj).1; rw [h.len]; exact this
  have h1 := List.getElem?_eq_getElem hjl
  have h2 := leastL_le (List.mem_of_getElem? h1)
  rcases h.each j _ _ hj h1 with e | e
  ·
   rw [e] at h2; grind
  ·
   rw [e] at h2; exact h2
theorem sumR_append : ∀ (l t : List Rat), sumR (l ++ t) = sumR l + sumR t
 | [], t => by simp [sumR, Rat.zero_add]
 | x :: l, t => by
  have := sumR_append l t
  simp only [List.cons_append, sumR]; grind
theorem sumR_snoc (l : List Rat) (x : Rat) : sumR (l ++ [x]) = sumR l + x := by rw [sumR_append]; simp [sumR, Rat.add_zero]
/-- in the midst of the totals: what the first claims have -/
structure TotMid (all : Rat) (owed ts cuts : List Rat) : Prop where
 len : ts.length ≤ owed.length
 each : ∀ (j : Nat) (o t : Rat), owed[j]? = some o → ts[j]? = some t → 0 ≤ t ∧ t ≤ o
 pos : 0 < cuts.length
 sum : sumR ts = leastL cuts
 last : cuts[cuts.length - 1]? = some all
theorem TotMid.next {all : Rat} {owed ts cuts cuts' : List Rat} (h : TotMid all owed ts cuts) {x : Rat} (hx : owed[ts.length]? = some x) (hx0 : 0 ≤ x) (ha : AddR x cuts cuts') : TotMid all owed (ts ++ [leastL cuts' - leastL cuts]) cuts' := by
 obtain ⟨h1, h2⟩ := ha.least hx0 h.pos
 refine ⟨?_, ?_, by rw [ha.len]; exact h.pos, ?_, ?_⟩
 ·
  have := (List.getElem?_eq_some_iff.1 hx).1
  rw [List.length_append]; simp; omega
 ·
  intro j o t ho ht
  by_cases hj : j < ts.length
  ·
   rw [List.getElem?_append_left hj] at ht
   exact h.each j o t ho ht
  ·
   have hjl := (List.getElem?_eq_some_iff.1 ht).1
   rw [List.length_append] at hjl
   simp at hjl
   obtain rfl : j = ts.length := by omega
   rw [List.getElem?_append_right (Nat.le_refl _)] at ht
   simp at ht
   rw [hx] at ho
   obtain rfl := Option.some.inj ho
   rw [← ht]
   exact ⟨by grind, by grind⟩
 ·
  rw [sumR_snoc, h.sum]; grind
 ·
  rw [ha.len, ha.last]; exact h.last
end Go.Proofs.YtjlicnhkemfmiaaGreatDoor

/- The parts of the tiers, and what is paid on the claims tier after tier: plain. -/
namespace Go.Proofs.YtjlicnhkemfmiaaGreatDoor
open Go.RowKit

/-- a part: the claim's number and its amount -/
abbrev Pt := Nat × Rat
/-- the parts of rank r of the claims l, counted from k -/
def partsF (r : Nat) : Nat → List Cl → List Pt
 | _, [] => []
 | k, c :: l => if c.rank = r then (k, c.amt) :: partsF r (k + 1) l else partsF r (k + 1) l
theorem partsF_snoc (r : Nat) (c : Cl) : ∀ (l : List Cl) (k : Nat), partsF r k (l ++ [c]) = if c.rank = r then partsF r k l ++ [(k + l.length, c.amt)] else partsF r k l
 | [], k => by simp only [List.nil_append, partsF, List.length_nil, Nat.add_zero]
 | d :: l, k => by
  have h := partsF_snoc r c l (k + 1)
  simp only [List.cons_append, partsF, h, List.length_cons]
  have e : k + 1 + l.length = k + (l.length + 1) := by omega
  rw [e]
  by_cases h1 : d.rank = r
  ·
   by_cases h2 : c.rank = r <;> simp [h1, h2]
  ·
   by_cases h2 : c.rank = r <;> simp [h1, h2]
/-- each part's claim -/
theorem partsF_get (r : Nat) : ∀ (l : List Cl) (k j : Nat) (p : Pt), (partsF r k l)[j]? = some p → k ≤ p.1 ∧ ∃ c, l[p.1 - k]? = some c ∧ c.rank = r ∧ c.amt = p.2
 | [], k, j, p, h => by simp [partsF] at h
 | c :: l, k, j, p, h => by
  unfold partsF at h
  by_cases h1 : c.rank = r
  ·
   rw [if_pos h1] at h
   rcases j with _ | j
   ·
    simp at h
    subst h
    exact ⟨Nat.le_refl _, c, by simp, h1, rfl⟩
   ·
    obtain ⟨h2, d, h3, h4⟩ := partsF_get r l (k + 1) j p (by simpa using h)
    refine ⟨by omega, d, ?_, h4⟩
    rw [show p.1 - k = (p.1 - (k + 1)) + 1 by omega]
    simpa using h3
  ·
   rw [if_neg h1] at h
   obtain ⟨h2, d, h3, h4⟩ := partsF_get r l (k + 1) j p h
   refine ⟨by omega, d, ?_, h4⟩
   rw [show p.1 - k = (p.1 - (k + 1)) + 1 by omega]
   simpa using h3
theorem partsF_len (r : Nat) : ∀ (l : List Cl) (k : Nat), (partsF r k l).length ≤ l.length
 | [], _ => by simp [partsF]
 | c :: l, k => by
  have := partsF_len r l (k + 1)
  unfold partsF
  split <;> simp <;> omega
/-- the claims' numbers rise -/
theorem partsF_up (r : Nat) : ∀ (l : List Cl) (k : Nat), (partsF r k l).Pairwise (fun a b => a.1 < b.1)
 | [], _ => by simp [partsF]
 | c :: l, k => by
  have h := partsF_up r l (k + 1)
  unfold partsF
  split
  ·
   refine List.pairwise_cons.2 ⟨fun p hp => ?_, h⟩
   obtain ⟨j, hj⟩ := List.getElem?_of_mem hp
   have := (partsF_get r l (k + 1) j p hj).1
   show k < p.1
   omega
  ·
   exact h
/-- an amount is added for a claim -/
def addQ (qs : List Rat) (i : Nat) (x : Rat) : List Rat := qs.set i (qs.getD i 0 + x)
theorem addQ_len (qs : List Rat) (i : Nat) (x : Rat) : (addQ qs i x).length = qs.length := by simp [addQ]
theorem addQ_get (qs : List Rat) (i : Nat) (x : Rat) (j : Nat) : (addQ qs i x)[j]? = if i = j then (qs[j]?).map (· + x) else qs[j]? := by
 unfold addQ
 rw [List.getElem?_set]
 by_cases h : i = j
 ·
  subst h
  rw [if_pos rfl, if_pos rfl]
  by_cases hl : i < qs.length
  ·
   rw [if_pos hl, List.getElem?_eq_getElem hl, List.getD_eq_getElem?_getD, List.getElem?_eq_getElem hl]; rfl
  ·
   rw [if_neg hl, List.getElem?_eq_none (by omega)]; rfl
 ·
  rw [if_neg h, if_neg h]
/-- parts are paid, each the part f of its amount -/
def addP (f : Rat) (qs : List Rat) (ps : List Pt) : List Rat := ps.foldl (fun qs p => addQ qs p.1 (p.2 * f)) qs
theorem addP_len (f : Rat) : ∀ (ps : List Pt) (qs : List Rat), (addP f qs ps).length = qs.length
 | [], _ => rfl
 | p :: ps, qs => by
  have := addP_len f ps (addQ qs p.1 (p.2 * f))
  rw [addQ_len] at this
  exact this
theorem addP_next {f : Rat} {qs : List Rat} {ps : List Pt} {j : Nat} {p : Pt} (h : ps[j]? = some p) : addP f qs (ps.take (j + 1)) = addQ (addP f qs (ps.take j)) p.1 (p.2 * f) := take_foldl _ _ _ _ _ h
theorem addP_out (f : Rat) : ∀ (ps : List Pt) (qs : List Rat) (i : Nat), (∀ p ∈ ps, p.1 ≠ i) → (addP f qs ps)[i]? = qs[i]?
 | [], _, _, _ => rfl
 | p :: ps, qs, i, h => by
  have h1 := addP_out f ps (addQ qs p.1 (p.2 * f)) i (fun x hx => h x (by simp [hx]))
  have h2 := h p (by simp)
  show (addP f (addQ qs p.1 (p.2 * f)) ps)[i]? = _
  rw [h1, addQ_get, if_neg h2]
theorem addP_parts (f : Rat) (r : Nat) : ∀ (l : List Cl) (k : Nat) (qs : List Rat) (i : Nat), (addP f qs (partsF r k l))[i]? = if k ≤ i ∧ (l[i - k]?).any (fun c => decide (c.rank = r)) = true then (qs[i]?).map (· + ((l[i - k]?).map (·.amt)).getD 0 * f) else qs[i]?
 | [], k, qs, i => by simp [partsF, addP]
 | c :: l, k, qs, i => by
  have ih := fun qs => addP_parts f r l (k + 1) qs i
  unfold partsF
  by_cases hi : i = k
  ·
   subst hi
   have hn : ∀ p ∈ partsF r (i + 1) l, p.1 ≠ i := fun p hp => by
    obtain ⟨j, hj⟩ := List.getElem?_of_mem hp
    have := (partsF_get r l (i + 1) j p hj).1
    omega
   by_cases h1 : c.rank = r
   ·
    rw [if_pos h1]
    show (addP f (addQ qs i (c.amt * f)) (partsF r (i + 1) l))[i]? = _
    rw [addP_out _ _ _ _ hn, addQ_get, if_pos rfl]
    simp [h1]
   ·
    rw [if_neg h1, addP_out _ _ _ _ hn]
    simp [h1]
  ·
   have e0 : ∀ x, (addQ qs k x)[i]? = qs[i]? := fun x => by rw [addQ_get, if_neg (Ne.symm hi)]
   have e1 : (if c.rank = r then (k, c.amt) :: partsF r (k + 1) l else partsF r (k + 1) l) = if c.rank = r then (k, c.amt) :: partsF r (k + 1) l else partsF r (k + 1) l := rfl
   have main : (addP f qs (if c.rank = r then (k, c.amt) :: partsF r (k + 1) l else partsF r (k + 1) l))[i]? = if k + 1 ≤ i ∧ (l[i - (k + 1)]?).any (fun c => decide (c.rank = r)) = true then (qs[i]?).map (· + ((l[i - (k + 1)]?).map (·.amt)).getD 0 * f) else qs[i]? := by
    by_cases h1 : c.rank = r
    ·
     rw [if_pos h1]
     show (addP f (addQ qs k (c.amt * f)) (partsF r (k + 1) l))[i]? = _
     rw [ih, e0]
    ·
     rw [if_neg h1, ih]
   rw [main]
   by_cases hk : k ≤ i
   ·
    rw [show i - k = (i - (k + 1)) + 1 by omega, List.getElem?_cons_succ]
    simp [hk, show k + 1 ≤ i by omega]
   ·
    simp [hk, show ¬ k + 1 ≤ i by omega]
/-- what is paid when the tiers below k have been paid, each its part -/
def paidK (f : Nat → Rat) (l : List Cl) (k : Nat) : List Rat := l.map fun c => if c.rank < k then c.amt * f c.rank else 0
theorem paidK_len (f : Nat → Rat) (l : List Cl) (k : Nat) : (paidK f l k).length = l.length := by simp [paidK]
theorem paidK_zero (f : Nat → Rat) (l : List Cl) : paidK f l 0 = List.replicate l.length 0 := by
 unfold paidK; simp [List.map_const']
theorem paidK_next (f : Nat → Rat) (l : List Cl) (k : Nat) : addP (f k) (paidK f l k) (partsF k 0 l) = paidK f l (k + 1) := by
 refine List.ext_getElem? fun i => ?_
 rw [addP_parts]
 unfold paidK
 simp only [Nat.zero_le, true_and, Nat.sub_zero, List.getElem?_map]
 rcases hl : l[i]? with _ | c
 ·
  simp
 ·
  simp only [Option.any_some, decide_eq_true_eq, Option.map_some, Option.getD_some]
  by_cases h1 : c.rank = k
  ·
   simp [h1, Rat.zero_add]
  ·
   rw [if_neg h1]
   by_cases h2 : c.rank < k
   ·
    simp [h2, show c.rank < k + 1 by omega]
   ·
    simp [h2, show ¬ c.rank < k + 1 by omega]
theorem paidK_at {f : Nat → Rat} {l : List Cl} {k j : Nat} {p : Pt} (h : (partsF k 0 l)[j]? = some p) : (addP (f k) (paidK f l k) ((partsF k 0 l).take j))[p.1]? = some 0 := by
 rw [addP_out]
 ·
  obtain ⟨_, c, hc, hr, _⟩ := partsF_get k l 0 j p h
  unfold paidK
  rw [List.getElem?_map, show p.1 = p.1 - 0 by omega, hc]
  simp [hr]
 ·
  intro x hx
  obtain ⟨i, hi⟩ := List.getElem?_of_mem hx
  have hij : i < j := by
   have := (List.getElem?_eq_some_iff.1 hi).1
   rw [List.length_take] at this; omega
  rw [List.getElem?_take, if_pos hij] at hi
  have hpw := List.pairwise_iff_getElem.1 (partsF_up k l 0) i j (List.getElem?_eq_some_iff.1 hi).1 (List.getElem?_eq_some_iff.1 h).1 hij
  rw [(List.getElem?_eq_some_iff.1 hi).2, (List.getElem?_eq_some_iff.1 h).2] at hpw
  omega
theorem paidK_more {f : Nat → Rat} {l : List Cl} {k : Nat} (h : ∀ r, k ≤ r → f r = 0) (n : Nat) (hkn : k ≤ n) : paidK f l k = paidK f l n := by
 unfold paidK
 refine List.map_congr_left fun c _ => ?_
 by_cases h1 : c.rank < k
 ·
  rw [if_pos h1, if_pos (by omega)]
 ·
  rw [if_neg h1]
  by_cases h2 : c.rank < n
  ·
   rw [if_pos h2, h _ (by omega), Rat.mul_zero]
  ·
   rw [if_neg h2]
theorem paidK_all {l : List Cl} (h : ∀ c ∈ l, c.rank < 8) (m : Rat) : paidK (fun r => (frs m (tiersL l)).getD r 0) l 8 = deliv l m := by
 unfold paidK deliv
 exact List.map_congr_left fun c hc => by rw [if_pos (h c hc)]
/-- what is left for tier k -/
def leftK (m : Rat) (S : List Rat) (k : Nat) : Rat := (S.take k).foldl (fun m s => m - s) m
theorem leftK_next {m : Rat} {S : List Rat} {k : Nat} {s : Rat} (h : S[k]? = some s) : leftK m S (k + 1) = leftK m S k - s := take_foldl _ _ _ _ _ h
theorem frs_at : ∀ (S : List Rat) (m : Rat) (k : Nat) (s : Rat), S[k]? = some s → (frs m S).getD k 0 = wfr (leftK m S k) s
 | [], _, _, _, h => by simp at h
 | x :: S, m, 0, s, h => by
  simp at h
  subst h
  simp [frs, leftK]
 | x :: S, m, k + 1, s, h => by
  have := frs_at S (m - x) k s (by simpa using h)
  simp only [frs, List.getD_cons_succ, this, leftK, List.take_succ_cons, List.foldl_cons]
theorem leftK_anti {m : Rat} {S : List Rat} (h : ∀ s ∈ S, 0 ≤ s) : ∀ (j k : Nat), leftK m S (k + j) ≤ leftK m S k
 | 0, k => Rat.le_refl
 | j + 1, k => by
  have h1 := leftK_anti (m := m) h j k
  rcases hs : S[k + j]? with _ | s
  ·
   have : leftK m S (k + (j + 1)) = leftK m S (k + j) := by
    unfold leftK
    have hl := List.getElem?_eq_none_iff.1 hs
    rw [List.take_of_length_le (by omega), List.take_of_length_le hl]
   rw [this]; exact h1
  ·
   have h2 := h s (List.mem_of_getElem? hs)
   rw [← Nat.add_assoc, leftK_next hs]
   grind
/-- nothing is left behind a tier that is not paid in full -/
theorem frs_behind {m : Rat} {S : List Rat} {k : Nat} {s : Rat} (hS : ∀ s ∈ S, 0 ≤ s) (h : S[k]? = some s) (hlt : leftK m S k < s) (r : Nat) (hr : k < r) : (frs m S).getD r 0 = 0 := by
 rcases hs : S[r]? with _ | x
 ·
  have hl := List.getElem?_eq_none_iff.1 hs
  rw [List.getD_eq_getElem?_getD, List.getElem?_eq_none (by rw [frs_len]; exact hl)]; rfl
 ·
  rw [frs_at S m r x hs]
  have h1 := leftK_anti (m := m) hS (r - (k + 1)) (k + 1)
  rw [show k + 1 + (r - (k + 1)) = r by omega, leftK_next h] at h1
  unfold wfr
  rw [if_pos (by grind)]
theorem frs_full {m : Rat} {S : List Rat} {k : Nat} {s : Rat} (h : S[k]? = some s) (h0 : 0 ≤ leftK m S k) (hle : s ≤ leftK m S k) : (frs m S).getD k 0 = 1 := by
 rw [frs_at S m k s h]; unfold wfr; rw [if_neg (Rat.not_lt.2 h0), if_pos hle]
theorem frs_part {m : Rat} {S : List Rat} {k : Nat} {s : Rat} (h : S[k]? = some s) (h0 : 0 ≤ leftK m S k) (hlt : leftK m S k < s) : (frs m S).getD k 0 = leftK m S k / s := by
 rw [frs_at S m k s h]; unfold wfr; rw [if_neg (Rat.not_lt.2 h0), if_neg (Rat.not_le.2 hlt)]
/-- the first tier that the money does not pay in full, or all -/
structure SplitR (m : Rat) (S : List Rat) (k : Nat) : Prop where
 le : k ≤ S.length
 full : ∀ (j : Nat) (s : Rat), j < k → S[j]? = some s → s ≤ leftK m S j
 nn : 0 ≤ leftK m S k
theorem SplitR.start {m : Rat} {S : List Rat} (h : 0 ≤ m) : SplitR m S 0 := ⟨Nat.zero_le _, fun j s h => by omega, h⟩
theorem SplitR.next {m : Rat} {S : List Rat} {k : Nat} (h : SplitR m S k) {s : Rat} (hs : S[k]? = some s) (hle : s ≤ leftK m S k) : SplitR m S (k + 1) := by
 refine ⟨(List.getElem?_eq_some_iff.1 hs).1, fun j x hj hx => ?_, ?_⟩
 ·
  rcases Nat.lt_succ_iff_lt_or_eq.1 hj with hj | rfl
  ·
   exact h.full j x hj hx
  ·
   rw [hs] at hx; obtain rfl := Option.some.inj hx; exact hle
 ·
  rw [leftK_next hs]; grind
theorem SplitR.left {m : Rat} {S : List Rat} {k : Nat} (h : SplitR m S k) (hS : ∀ s ∈ S, 0 ≤ s) (j : Nat) (hj : j ≤ k) : 0 ≤ leftK m S j := by
 have := leftK_anti (m := m) hS (k - j) j
 rw [show j + (k - j) = k by omega] at this
 exact Rat.le_trans h.nn this
theorem SplitR.one {m : Rat} {S : List Rat} {k : Nat} (h : SplitR m S k) (hS : ∀ s ∈ S, 0 ≤ s) (j : Nat) (hj : j < k) : (frs m S).getD j 0 = 1 := by
 obtain ⟨s, hs⟩ := getElem?_of_lt (l := S) (k := j) (by have := h.le; omega)
 exact frs_full hs (h.left hS j (by omega)) (h.full j s hj hs)

end Go.Proofs.YtjlicnhkemfmiaaGreatDoor

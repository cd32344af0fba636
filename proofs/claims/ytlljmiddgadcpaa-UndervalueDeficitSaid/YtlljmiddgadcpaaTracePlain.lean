/- The plain law of Trace: the program's run and the definition's run agree, and what they keep. Nothing of the program. -/
import Derived.Test.YtlljmiddgadcpaaTraceRefW
set_option linter.unusedVariables false
set_option linter.unusedSimpArgs false
namespace Go.Proofs.Ytlljmiddgadcpaa
open Go.RowKit

theorem w64 {n : Int} (h : -2305843009213693952 ≤ n ∧ n ≤ 2305843009213693952) : wrap64 n = n := IntWalk.wrap64_in n (by omega)

theorem sum_set : ∀ (l : List Int) (j : Nat) (v : Int), j < l.length → (l.set j v).sum = l.sum - l.getD j 0 + v
  | [], j, v, h => by simp at h
  | x :: l, 0, v, h => by simp; omega
  | x :: l, j + 1, v, h => by
    have := sum_set l j v (by simpa using h)
    simp only [List.set_cons_succ, List.sum_cons, this, List.getD_cons_succ]
    omega
theorem sum_nonneg : ∀ (l : List Int), (∀ j, j < l.length → 0 ≤ l.getD j 0) → 0 ≤ l.sum
  | [], _ => by simp
  | x :: l, h => by
    have h0 := h 0 (by simp)
    have := sum_nonneg l (fun j hj => by have := h (j+1) (by simpa using hj); simpa using this)
    simp at h0 ⊢
    omega
theorem le_sum : ∀ (l : List Int), (∀ j, j < l.length → 0 ≤ l.getD j 0) → ∀ j, j < l.length → l.getD j 0 ≤ l.sum
  | [], _, j, hj => by simp at hj
  | x :: l, h, 0, hj => by
    have := sum_nonneg l (fun j hj => by have := h (j+1) (by simpa using hj); simpa using this)
    simp; omega
  | x :: l, h, j + 1, hj => by
    have h0 := h 0 (by simp)
    have := le_sum l (fun j hj => by have := h (j+1) (by simpa using hj); simpa using this) j (by simpa using hj)
    simp at h0 this ⊢
    omega
theorem getD_set (l : List Int) (i j : Nat) (v : Int) (hi : i < l.length) : (l.set i v).getD j 0 = if j = i then v else l.getD j 0 := by
  by_cases h : j = i
  · subst h; simp [List.getD, hi]
  · rw [if_neg h]; simp [List.getD, List.getElem?_set, Ne.symm h]
theorem set_getD (l : List Int) (i : Nat) (hi : i < l.length) : l.set i (l.getD i 0) = l := by
  apply List.ext_getElem?
  intro j
  by_cases h : i = j
  · subst h; simp [List.getD, hi]
  · simp [List.getElem?_set, h]

/-- what is known of the traced parts in the middle of a row -/
structure Mid (n : Nat) (amt : Int) (t : List Int) (l : Int) : Prop where
  len : t.length = n
  t0 : ∀ j, j < n → 0 ≤ t.getD j 0
  l0 : 0 ≤ l
  sum : l + t.sum = amt
  a1 : amt ≤ 1125899906842624
theorem Mid.le {n : Nat} {amt : Int} {t : List Int} {l : Int} (h : Mid n amt t l) {j : Nat} (hj : j < n) : 0 ≤ t.getD j 0 ∧ t.getD j 0 ≤ 1125899906842624 ∧ l ≤ 1125899906842624 := by
  have h1 := le_sum t (by rw [h.len]; exact h.t0) j (by rw [h.len]; exact hj)
  have h2 := h.t0 j hj
  have h3 := h.sum
  have h4 := h.a1
  have h5 := h.l0
  omega

def bnd (b : Int) : Prop := -576460752303423488 ≤ b ∧ b ≤ 576460752303423488

theorem clipOne_eq {n : Nat} {amt : Int} {b t : List Int} {l : Int} (h : Mid n amt t l) {j : Nat} (hj : j < n) (hb : bnd (b.getD j 0)) :
    clipOneW b t l j = clipOneR b t l j ∧ Mid n amt (clipOneW b t l j).1 (clipOneW b t l j).2 ∧
    (clipOneW b t l j).1.getD j 0 ≤ max (b.getD j 0) 0 ∧ (∀ i, i < n → i ≠ j → (clipOneW b t l j).1.getD i 0 = t.getD i 0) ∧ (t.getD j 0 ≤ max (b.getD j 0) 0 → clipOneW b t l j = (t, l)) := by
  obtain ⟨h1, h2, h3⟩ := h.le hj
  have hl0 := h.l0
  have hjl : j < t.length := by rw [h.len]; exact hj
  unfold bnd at hb
  unfold clipOneW clipOneR over
  have hp : pos (b.getD j 0) = max (b.getD j 0) 0 := by unfold pos; split <;> omega
  rw [hp]
  by_cases hlt : max (b.getD j 0) 0 < t.getD j 0
  · have e1 : pos (wrap64 (t.getD j 0 - max (b.getD j 0) 0)) = t.getD j 0 - max (b.getD j 0) 0 := by
      rw [w64 (by omega)]; unfold pos; rw [if_neg (by omega)]
    rw [if_pos hlt, e1, w64 (n := t.getD j 0 - max (b.getD j 0) 0) (by omega), w64 (n := l + (t.getD j 0 - max (b.getD j 0) 0)) (by omega),
      w64 (n := t.getD j 0 - (t.getD j 0 - max (b.getD j 0) 0)) (by omega)]
    refine ⟨by rw [show t.getD j 0 - (t.getD j 0 - max (b.getD j 0) 0) = max (b.getD j 0) 0 by omega], ⟨by simpa using h.len, fun i hi => ?_, by omega, ?_, h.a1⟩, ?_, fun i hi hne => ?_, fun hle => by omega⟩
    · dsimp only
      rw [getD_set _ _ _ _ hjl]
      split
      · omega
      · exact h.t0 i hi
    · dsimp only
      rw [sum_set _ _ _ hjl]
      have := h.sum
      omega
    · dsimp only
      rw [getD_set _ _ _ _ hjl, if_pos rfl]
      omega
    · dsimp only
      rw [getD_set _ _ _ _ hjl, if_neg hne]
  · have e1 : pos (wrap64 (t.getD j 0 - max (b.getD j 0) 0)) = 0 := by
      rw [w64 (by omega)]; unfold pos; split <;> omega
    rw [if_neg hlt, e1, Int.sub_zero, Int.add_zero, w64 (n := t.getD j 0) (by omega), w64 (n := l) (by omega), set_getD _ _ hjl]
    exact ⟨rfl, h, by dsimp only; omega, fun _ _ _ => rfl, fun _ => rfl⟩

theorem clipTo_eq {n : Nat} {amt : Int} {b t : List Int} {l : Int} (h : Mid n amt t l) (hb : ∀ j, j < n → bnd (b.getD j 0)) : ∀ k, k ≤ n →
    clipToW b k (t, l) = clipToR b k (t, l) ∧ Mid n amt (clipToW b k (t, l)).1 (clipToW b k (t, l)).2 ∧
    (∀ i, i < n → i < k → (clipToW b k (t, l)).1.getD i 0 ≤ max (b.getD i 0) 0) ∧ (∀ i, i < n → k ≤ i → (clipToW b k (t, l)).1.getD i 0 = t.getD i 0) ∧
    ((∀ i, i < n → t.getD i 0 ≤ max (b.getD i 0) 0) → clipToW b k (t, l) = (t, l))
  | 0, _ => ⟨rfl, h, fun i _ hi => by omega, fun i _ _ => rfl, fun _ => rfl⟩
  | k + 1, hk => by
    obtain ⟨h1, h2, h3, h4, h5⟩ := clipTo_eq h hb k (by omega)
    obtain ⟨g1, g2, g3, g4, g5⟩ := clipOne_eq (b := b) h2 (j := k) (by omega) (hb k (by omega))
    simp only [clipToW, clipToR, ← h1]
    refine ⟨g1, g2, fun i hi hik => ?_, fun i hi hik => ?_, fun hall => ?_⟩
    · by_cases he : i = k
      · subst he; exact g3
      · rw [g4 i hi he]; exact h3 i hi (by omega)
    · rw [g4 i hi (by omega)]; exact h4 i hi (by omega)
    · have e := h5 hall
      rw [e] at g5 ⊢
      exact g5 (by dsimp only; exact hall k (by omega))

/-- before a row -/
structure Inv (n k : Nat) (amt : Int) (s : WSt) : Prop where
  mid : Mid n amt s.tr s.lost
  lb : s.bal.length = n
  bb : ∀ j, j < n → -(1125899906842624 * ((k : Int) + 1)) ≤ s.bal.getD j 0 ∧ s.bal.getD j 0 ≤ 1125899906842624 * ((k : Int) + 1)
  tb : ∀ j, j < n → s.tr.getD j 0 ≤ max (s.bal.getD j 0) 0

theorem spent_bd {b t am : Int} (hb : bnd b) (ht : 0 ≤ t) (htm : t ≤ 1125899906842624) (ha : 0 ≤ am) (ham : am ≤ 1125899906842624) : 0 ≤ spentW b t am ∧ spentW b t am ≤ t := by
  unfold bnd at hb
  have hp : pos b = max b 0 := by unfold pos; split <;> omega
  unfold spentW
  rw [hp, w64 (n := max b 0 - t) (by omega), w64 (by omega)]
  unfold pos
  repeat' split
  all_goals omega

theorem spend_mid {n : Nat} {amt : Int} {t : List Int} {l : Int} (h : Mid n amt t l) {p q : Nat} (hp : p < n) (hq : q < n) (hpq : p ≠ q) {nn kd : Int} (h0 : 0 ≤ nn) (h1 : nn ≤ t.getD p 0) :
    Mid n amt (spendTr t p q nn kd) (spendLost l nn kd) ∧ (nn = 0 → spendTr t p q nn kd = t ∧ spendLost l nn kd = l) := by
  obtain ⟨a1, a2, a3⟩ := h.le hp
  obtain ⟨b1, b2, _⟩ := h.le hq
  have hl0 := h.l0
  have hs := h.sum
  have hpl : p < t.length := by rw [h.len]; exact hp
  have hql : q < t.length := by rw [h.len]; exact hq
  have hle := le_sum t (by rw [h.len]; exact h.t0) p hpl
  have ha := h.a1
  unfold spendTr spendLost
  by_cases hk : kd = 1
  · simp only [if_pos hk]
    have hpq' : (t.set p (t.getD p 0 - nn)).getD q 0 = t.getD q 0 := by rw [getD_set _ _ _ _ hpl, if_neg (Ne.symm hpq)]
    have hqs : t.getD q 0 + nn ≤ 2305843009213693952 := by omega
    rw [w64 (n := t.getD p 0 - nn) (by omega), w64 (n := t.getD q 0 + nn) (by omega)]
    refine ⟨⟨by simpa using h.len, fun j hj => ?_, hl0, ?_, ha⟩, fun hn => ?_⟩
    · rw [getD_set _ _ _ _ (by simpa using hql)]
      split
      · omega
      · rw [getD_set _ _ _ _ hpl]
        split
        · omega
        · exact h.t0 j hj
    · rw [sum_set _ _ _ (by simpa using hql), hpq', sum_set _ _ _ hpl]
      omega
    · subst hn
      rw [Int.sub_zero, Int.add_zero, set_getD _ _ hpl, set_getD _ _ hql]
      exact ⟨rfl, trivial⟩
  · simp only [if_neg hk]
    rw [w64 (n := t.getD p 0 - nn) (by omega), w64 (n := l + nn) (by omega)]
    refine ⟨⟨by simpa using h.len, fun j hj => ?_, by omega, ?_, ha⟩, fun hn => ?_⟩
    · rw [getD_set _ _ _ _ hpl]
      split
      · omega
      · exact h.t0 j hj
    · rw [sum_set _ _ _ hpl]
      omega
    · subst hn
      rw [Int.sub_zero, Int.add_zero, set_getD _ _ hpl]
      exact ⟨rfl, rfl⟩

def RowOk (n : Nat) (r : Row) : Prop := rowRange r = true ∧ rowParty n r = true

theorem money_frm {r : Row} (hne : r.frm ≠ r.to) (h0 : 0 ≤ r.amount) (h1 : r.amount ≤ 1125899906842624) : moneyOf r r.frm = if r.kind = 1 then -r.amount else if r.kind = 3 then r.amount else 0 := by
  simp only [moneyOf, if_true, if_neg (Ne.symm hne)]
  rw [w64 (n := -r.amount) (by omega)]
  split
  · rw [w64 (by omega)]; omega
  · split
    · rw [w64 (by omega)]; omega
    · rw [w64 (by omega)]; omega
theorem money_to {r : Row} (hne : r.frm ≠ r.to) (h0 : 0 ≤ r.amount) (h1 : r.amount ≤ 1125899906842624) : moneyOf r r.to = if r.kind = 1 then r.amount else if r.kind = 3 then -r.amount else 0 := by
  simp only [moneyOf, if_true, if_neg hne]
  rw [w64 (n := -r.amount) (by omega)]
  split
  · rw [w64 (by omega)]; omega
  · split
    · rw [w64 (by omega)]; omega
    · rw [w64 (by omega)]; omega

theorem moveR_getD {b : List Int} {n p q : Nat} {am : Int} (hl : b.length = n) (hp : p < n) (hq : q < n) (hbp : bnd (b.getD p 0)) (hbq : bnd (b.getD q 0)) (h0 : 0 ≤ am) (h1 : am ≤ 1125899906842624) (j : Nat) :
    (moveR b p q am).getD j 0 = if j = q then b.getD q 0 + am else if j = p then b.getD p 0 - am else b.getD j 0 := by
  unfold bnd at *
  unfold moveR
  rw [w64 (n := b.getD p 0 - am) (by omega), w64 (n := b.getD q 0 + am) (by omega), getD_set _ _ _ _ (by simp [hl]; exact hq), getD_set _ _ _ _ (by rw [hl]; exact hp)]

theorem moveBal_eq {b : List Int} {n : Nat} {r : Row} (hl : b.length = n) (hr : RowOk n r) (hb : ∀ j, j < n → bnd (b.getD j 0)) :
    moveBal b r = if r.kind = 2 then b else moveR b (payer r).toNat (payee r).toNat r.amount := by
  obtain ⟨h1, h2⟩ := hr
  simp only [rowRange, rowParty, decide_eq_true_eq] at h1 h2
  have hx : r.frm.toNat < n := by omega
  have hy : r.to.toNat < n := by omega
  have hxy : r.frm.toNat ≠ r.to.toNat := by omega
  have bx := hb _ hx
  have b_y := hb _ hy
  unfold bnd at bx b_y
  unfold moveBal moveR payer payee
  rw [money_frm h2.2.2.2.2 h1.2.2.2.2.1 h1.2.2.2.2.2.1, money_to h2.2.2.2.2 h1.2.2.2.2.1 h1.2.2.2.2.2.1]
  rw [getD_set _ _ _ _ (by rw [hl]; exact hx), if_neg (Ne.symm hxy)]
  by_cases k2 : r.kind = 2
  · rw [if_pos k2, if_neg (by omega), if_neg (by omega), if_neg (by omega), if_neg (by omega), Int.add_zero, Int.add_zero, w64 (by omega), w64 (by omega), set_getD _ _ (by rw [hl]; exact hx), set_getD _ _ (by rw [hl]; exact hy)]
  · rw [if_neg k2]
    by_cases k1 : r.kind = 1
    · rw [if_pos k1, if_pos k1, if_neg (by omega), if_neg (by omega)]
      rfl
    · have k3 : r.kind = 3 := by omega
      rw [if_neg k1, if_neg k1, if_pos k3, if_pos k3, if_pos k3, if_pos k3]
      rw [List.set_comm _ _ (by omega)]
      rfl

theorem clip_none {n : Nat} {amt : Int} {b t : List Int} {l : Int} (h : Mid n amt t l) (hb : ∀ j, j < n → bnd (b.getD j 0)) (hall : ∀ i, i < n → t.getD i 0 ≤ max (b.getD i 0) 0) :
    clipToW b n (t, l) = (t, l) ∧ clipToR b n (t, l) = (t, l) := by
  obtain ⟨h1, _, _, _, h5⟩ := clipTo_eq h hb n (Nat.le_refl _)
  exact ⟨h5 hall, h1 ▸ h5 hall⟩

theorem step_eq {n k : Nat} {amt at_ : Int} {s : WSt} {r : Row} (h : Inv n k amt s) (hr : RowOk n r) (hk : k ≤ 256) (h0 : (k : Int) ≤ at_ → amt = 0) (hat : (k : Int) = at_ → r.kind = 1) :
    stepW at_ k s r = stepR at_ k s r ∧ Inv n (k + 1) (if (k : Int) = at_ then r.amount else amt) (stepR at_ k s r) := by
  have hr' := hr
  obtain ⟨g1, g2⟩ := hr
  simp only [rowRange, rowParty, decide_eq_true_eq] at g1 g2
  have hbd : ∀ j, j < n → bnd (s.bal.getD j 0) := fun j hj => by
    have := h.bb j hj
    unfold bnd
    omega
  have hmv := moveBal_eq h.lb hr' hbd
  have hz : (k : Int) ≤ at_ → s.lost = 0 ∧ ∀ j, j < n → s.tr.getD j 0 = 0 := fun hle => by
    have e := h0 hle
    have h1 := sum_nonneg s.tr (by rw [h.mid.len]; exact h.mid.t0)
    have h2 := h.mid.sum
    have h3 := h.mid.l0
    refine ⟨by omega, fun j hj => ?_⟩
    have h4 := le_sum s.tr (by rw [h.mid.len]; exact h.mid.t0) j (by rw [h.mid.len]; exact hj)
    have h5 := h.mid.t0 j hj
    omega
  by_cases k2 : r.kind = 2
  · have hne : ¬ (k : Int) = at_ := fun e => by have := hat e; omega
    have hR : stepR at_ k s r = s := by unfold stepR; rw [if_pos k2]
    have hc := clip_none h.mid hbd h.tb
    rw [if_pos k2] at hmv
    have hA : ¬ (at_ < (k : Int) ∧ r.kind ≠ 2) := fun x => x.2 k2
    refine ⟨?_, ?_⟩
    · rw [hR]
      simp only [stepW, if_neg hne, if_neg hA, hmv, h.lb]
      split
      · rw [hc.1]
      · rfl
    · rw [hR, if_neg hne]
      exact ⟨h.mid, h.lb, fun j hj => by have := h.bb j hj; omega, h.tb⟩
  · rw [if_neg k2] at hmv
    have hp : (payer r).toNat < n := by unfold payer; split <;> omega
    have hq : (payee r).toNat < n := by unfold payee; split <;> omega
    have hpq : (payer r).toNat ≠ (payee r).toNat := by unfold payer payee; split <;> omega
    have hbp := hbd _ hp
    have hbq := hbd _ hq
    -- the part before the balances move
    have hpart : ∃ tt ll, partR at_ k s r = (tt, ll) ∧ Mid n (if (k : Int) = at_ then r.amount else amt) tt ll ∧
        (∀ bb : List Int, bb.length = n → (∀ j, j < n → bnd (bb.getD j 0)) →
          (if at_ ≤ (k : Int) then clipToW bb n (tt, ll) else (s.tr, s.lost)) = clipToR bb n (tt, ll)) ∧
        ((k : Int) = at_ → tt = s.tr.set r.to.toNat r.amount ∧ ll = s.lost) ∧
        (at_ < (k : Int) → tt = spendTr s.tr (payer r).toNat (payee r).toNat (spentAt s r) r.kind ∧ ll = spendLost s.lost (spentAt s r) r.kind) := by
      by_cases he : (k : Int) = at_
      · have h1 := hat he
        have hto : payee r = r.to := by unfold payee; rw [if_neg (by omega)]
        rw [hto] at hq
        refine ⟨s.tr.set r.to.toNat r.amount, s.lost, by unfold partR; rw [if_pos he, hto], ?_, fun bb hbl hbb => ?_, fun _ => ⟨rfl, rfl⟩, fun hlt => by omega⟩
        all_goals
          have hM : Mid n (if (k : Int) = at_ then r.amount else amt) (s.tr.set r.to.toNat r.amount) s.lost := by
            obtain ⟨e1, e2⟩ := hz (by omega)
            have hql : r.to.toNat < s.tr.length := by rw [h.mid.len]; exact hq
            rw [if_pos he]
            refine ⟨by simpa using h.mid.len, fun j hj => ?_, by omega, ?_, by omega⟩
            · rw [getD_set _ _ _ _ hql]
              split
              · omega
              · have := e2 j hj; omega
            · rw [sum_set _ _ _ hql]
              have := e2 _ hq
              have h2 := h.mid.sum
              have h3 := h0 (by omega)
              omega
        · exact hM
        · rw [if_pos (by omega)]
          exact (clipTo_eq hM hbb n (Nat.le_refl _)).1
      · have hnn := spent_bd (am := r.amount) hbp (h.mid.le hp).1 (h.mid.le hp).2.1 g1.2.2.2.2.1 g1.2.2.2.2.2.1
        have hsp := spend_mid (kd := r.kind) h.mid hp hq hpq hnn.1 hnn.2
        refine ⟨_, _, by unfold partR; rw [if_neg he], by rw [if_neg he]; exact hsp.1, fun bb hbl hbb => ?_, fun e => absurd e he, fun _ => ⟨rfl, rfl⟩⟩
        by_cases hle : at_ ≤ (k : Int)
        · rw [if_pos hle]
          exact (clipTo_eq hsp.1 hbb n (Nat.le_refl _)).1
        · rw [if_neg hle]
          obtain ⟨e1, e2⟩ := hz (by omega)
          have hn0 : spentAt s r = 0 := by
            have := e2 _ hp
            unfold spentAt
            omega
          have e3 := hsp.2 hn0
          show (s.tr, s.lost) = clipToR bb n (spendTr s.tr (payer r).toNat (payee r).toNat (spentAt s r) r.kind, spendLost s.lost (spentAt s r) r.kind)
          have e4 : spendTr s.tr (payer r).toNat (payee r).toNat (spentAt s r) r.kind = s.tr := e3.1
          have e5 : spendLost s.lost (spentAt s r) r.kind = s.lost := e3.2
          rw [e4, e5]
          exact (clip_none h.mid hbb (fun i hi => by have := e2 i hi; omega)).2.symm
    obtain ⟨tt, ll, hP, hM, hcl, hP1, hP2⟩ := hpart
    obtain ⟨B, hB⟩ : ∃ B, B = moveR s.bal (payer r).toNat (payee r).toNat r.amount := ⟨_, rfl⟩
    have hBl : B.length = n := by rw [hB]; simp [moveR, h.lb]
    have hBg : ∀ j, B.getD j 0 = if j = (payee r).toNat then s.bal.getD (payee r).toNat 0 + r.amount else if j = (payer r).toNat then s.bal.getD (payer r).toNat 0 - r.amount else s.bal.getD j 0 := fun j => by
      rw [hB]; exact moveR_getD h.lb hp hq hbp hbq g1.2.2.2.2.1 g1.2.2.2.2.2.1 j
    have hBb : ∀ j, j < n → -(1125899906842624 * (((k + 1 : Nat) : Int) + 1)) ≤ B.getD j 0 ∧ B.getD j 0 ≤ 1125899906842624 * (((k + 1 : Nat) : Int) + 1) := fun j hj => by
      rw [hBg]
      have b1 := h.bb _ hq
      have b2 := h.bb _ hp
      have b3 := h.bb _ hj
      split
      · omega
      · split <;> omega
    have hBd : ∀ j, j < n → bnd (B.getD j 0) := fun j hj => by
      have := hBb j hj
      unfold bnd
      omega
    have hcl' := hcl B hBl hBd
    have hR : stepR at_ k s r = ⟨B, (clipToR B n (tt, ll)).1, (clipToR B n (tt, ll)).2⟩ := by
      simp only [stepR, if_neg k2, hP, ← hB, h.mid.len]
    obtain ⟨c1, c2, c3, _, _⟩ := clipTo_eq hM hBd n (Nat.le_refl _)
    refine ⟨?_, ?_⟩
    · rw [hR, ← hcl']
      by_cases he : (k : Int) = at_
      · obtain ⟨e1, e2⟩ := hP1 he
        have hA : ¬ (at_ < (k : Int) ∧ r.kind ≠ 2) := by omega
        have hle : at_ ≤ (k : Int) := by omega
        simp only [stepW, if_pos he, if_neg hA, if_pos hle, hmv, ← hB, hBl, ← e1]
        rw [e2]
      · by_cases hlt : at_ < (k : Int)
        · obtain ⟨e1, e2⟩ := hP2 hlt
          have hA : at_ < (k : Int) ∧ r.kind ≠ 2 := ⟨hlt, k2⟩
          have hle : at_ ≤ (k : Int) := by omega
          simp only [stepW, if_neg he, if_pos hA, if_pos hle, hmv, ← hB, hBl, ← e1, ← e2]
        · have hA : ¬ (at_ < (k : Int) ∧ r.kind ≠ 2) := by omega
          have hle : ¬ at_ ≤ (k : Int) := by omega
          simp only [stepW, if_neg he, if_neg hA, if_neg hle, hmv, ← hB]
    · rw [hR]
      rw [c1] at c2 c3
      exact ⟨c2, hBl, hBb, fun j hj => c3 j hj hj⟩

theorem inv_init {os : List Int} (h : ∀ j, j < os.length → -1125899906842624 ≤ os.getD j 0 ∧ os.getD j 0 ≤ 1125899906842624) : Inv os.length 0 0 (initW os) := by
  have hz : ∀ j, (List.replicate os.length (0 : Int)).getD j 0 = 0 := fun j => by
    by_cases hj : j < os.length <;> simp [List.getD, hj]
  refine ⟨⟨by simp [initW], fun j _ => by simp only [initW]; rw [hz]; omega, by simp [initW], ?_, by omega⟩, rfl, fun j hj => by have := h j hj; simp only [initW]; omega, fun j _ => by simp only [initW]; rw [hz]; omega⟩
  simp [initW]

/-- the whole run: the two agree, and the invariant holds at each row -/
theorem run_eq {rows : List Row} {os : List Int} {at_ : Int} (hos : ∀ j, j < os.length → -1125899906842624 ≤ os.getD j 0 ∧ os.getD j 0 ≤ 1125899906842624)
    (hr : ∀ r ∈ rows, RowOk os.length r) (hl : rows.length ≤ 256) (hat : ∀ r, rows[at_.toNat]? = some r → r.kind = 1) (h0 : 0 ≤ at_) : ∀ k, k ≤ rows.length →
    runW rows at_ (initW os) k = runR rows at_ (initW os) k ∧ Inv os.length k (if (k : Int) ≤ at_ then 0 else match rows[at_.toNat]? with | some r => r.amount | none => 0) (runR rows at_ (initW os) k)
  | 0, _ => ⟨rfl, by rw [if_pos (by simpa using h0)]; exact inv_init hos⟩
  | k + 1, hk => by
    obtain ⟨e1, e2⟩ := run_eq hos hr hl hat h0 k (by omega)
    obtain ⟨r, hrk⟩ := getElem?_of_lt (show k < rows.length by omega)
    have hs := step_eq (at_ := at_) e2 (hr r (List.mem_of_getElem? hrk)) (by omega) (fun hle => by rw [if_pos hle]) (fun he => hat r (by rw [← he]; simpa using hrk))
    rw [runW_succ hrk, runR_succ hrk, e1]
    refine ⟨hs.1, ?_⟩
    have h2 := hs.2
    by_cases he : (k : Int) = at_
    · have hne : ¬ (((k + 1 : Nat) : Int) ≤ at_) := by omega
      have hget : rows[at_.toNat]? = some r := by rw [← he]; simpa using hrk
      rw [if_neg hne, hget]
      rw [if_pos he] at h2
      exact h2
    · rw [if_neg he] at h2
      by_cases hle : ((k + 1 : Nat) : Int) ≤ at_
      · rw [if_pos hle]
        rw [if_pos (by omega)] at h2
        exact h2
      · rw [if_neg hle]
        rw [if_neg (by omega)] at h2
        exact h2

end Go.Proofs.Ytlljmiddgadcpaa

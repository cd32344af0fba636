/- Plain laws for UndervalueKept. -/
import Derived.Test.YtdkllifoglibcaaSumPlain
set_option linter.unusedVariables false
set_option linter.unusedSimpArgs false
namespace Go.Proofs.Ytdkllifoglibcaa
open Go.RowKit

theorem trace_inv {rows : List Row} {os : List Int} {at_ : Int} (h : traceErr rows os at_ = 0) {rq : Row} (hq : rows[at_.toNat]? = some rq) :
    ∀ k, k ≤ rows.length → Inv os.length k (if (k : Int) ≤ at_ then 0 else rq.amount) (runR rows at_ (initW os) k) := by
  have h' := h
  unfold traceErr at h
  split at h
  · omega
  · rename_i hc
    split at h
    · omega
    · rename_i ho
      split at h
      · omega
      · rename_i hr
        split at h
        · omega
        · rename_i hk
          obtain ⟨_, _, ⟨rq', e1, e2, e3, e4, _⟩, _, hall, hrl⟩ := trace_same h'
          rw [hq] at e1
          injection e1 with e1
          subst e1
          have hos : ∀ j, j < os.length → -1125899906842624 ≤ os.getD j 0 ∧ os.getD j 0 ≤ 1125899906842624 := fun j hj => by
            have hm : os.getD j 0 ∈ os := by rw [List.getD_eq_getElem?_getD, List.getElem?_eq_getElem hj]; exact List.getElem_mem hj
            have := ho
            rw [Bool.not_eq_true, List.any_eq_false] at this
            have := this _ hm
            simp [outOf] at this
            simp only [List.getD_eq_getElem?_getD]
            omega
          have hrun := run_eq hos hall hrl (fun r hr' => by rw [hq] at hr'; injection hr' with hr'; rw [← hr']; exact e2) e3
          intro k hk
          have := (hrun k hk).2
          rw [hq] at this
          exact this

theorem clipTo_val {n : Nat} {amt : Int} {b t : List Int} {l : Int} (h : Mid n amt t l) (hb : ∀ j, j < n → bnd (b.getD j 0)) : ∀ k, k ≤ n → ∀ i, i < n → i < k → (clipToW b k (t, l)).1.getD i 0 = min (t.getD i 0) (max (b.getD i 0) 0)
  | 0, _, i, _, hi => by omega
  | k + 1, hk, i, hin, hi => by
    obtain ⟨_, h2, _, h4, _⟩ := clipTo_eq h hb k (by omega)
    obtain ⟨_, _, _, g4, _⟩ := clipOne_eq (b := b) h2 (j := k) (by omega) (hb k (by omega))
    simp only [clipToW]
    by_cases he : i = k
    · subst he
      have e := h4 i hin (Nat.le_refl _)
      have hl : i < (clipToW b i (t, l)).1.length := by rw [h2.len]; exact hin
      have hp : pos (b.getD i 0) = max (b.getD i 0) 0 := by unfold pos; split <;> omega
      unfold clipOneW
      rw [hp, e]
      split
      · dsimp only; rw [getD_set _ _ _ _ hl, if_pos rfl]; omega
      · rw [e]; omega
    · rw [g4 i hin he]
      exact clipTo_val h hb k (by omega) i hin (by omega)

/-- the state while the receiver keeps all that is traced -/
structure Keeps (n : Nat) (y : Nat) (T L : Int) (s : WSt) : Prop where
  here : s.tr.getD y 0 = T
  else_ : ∀ j, j < n → j ≠ y → s.tr.getD j 0 = 0
  most : T ≤ max L 0
  low : L ≤ s.bal.getD y 0

theorem keeps_start {n k : Nat} {at_ : Int} {s : WSt} {r : Row} (h : Inv n k 0 s) (hr : RowOk n r) (hk : k ≤ 256) (he : (k : Int) = at_) (h1 : r.kind = 1) :
    Keeps n r.to.toNat (min r.amount (max ((stepR at_ k s r).bal.getD r.to.toNat 0) 0)) ((stepR at_ k s r).bal.getD r.to.toNat 0) (stepR at_ k s r) := by
  have hz : s.lost = 0 ∧ ∀ j, j < n → s.tr.getD j 0 = 0 := by
    have h1 := sum_nonneg s.tr (by rw [h.mid.len]; exact h.mid.t0)
    have h2 := h.mid.sum
    have h3 := h.mid.l0
    refine ⟨by omega, fun j hj => ?_⟩
    have h4 := le_sum s.tr (by rw [h.mid.len]; exact h.mid.t0) j (by rw [h.mid.len]; exact hj)
    have h5 := h.mid.t0 j hj
    omega
  obtain ⟨_, hinv⟩ := step_eq (at_ := at_) h hr hk (fun _ => rfl) (fun _ => h1)
  have hr' := hr
  obtain ⟨g1, g2⟩ := hr
  simp only [rowRange, rowParty, decide_eq_true_eq] at g1 g2
  have hy : r.to.toNat < n := by omega
  have hyl : r.to.toNat < s.tr.length := by rw [h.mid.len]; exact hy
  have hto : payee r = r.to := by unfold payee; rw [if_neg (by omega)]
  have hM : Mid n r.amount (s.tr.set r.to.toNat r.amount) s.lost := by
    refine ⟨by simpa using h.mid.len, fun j hj => ?_, by omega, ?_, by omega⟩
    · rw [getD_set _ _ _ _ hyl]
      split
      · omega
      · have := hz.2 j hj; omega
    · rw [sum_set _ _ _ hyl]
      have := hz.2 _ hy
      have h2 := h.mid.sum
      omega
  have hst : stepR at_ k s r = ⟨moveR s.bal (payer r).toNat (payee r).toNat r.amount, (clipToR (moveR s.bal (payer r).toNat (payee r).toNat r.amount) s.tr.length (s.tr.set r.to.toNat r.amount, s.lost)).1, (clipToR (moveR s.bal (payer r).toNat (payee r).toNat r.amount) s.tr.length (s.tr.set r.to.toNat r.amount, s.lost)).2⟩ := by
    simp only [stepR, if_neg (show ¬ r.kind = 2 by omega), partR, if_pos he, hto]
  have hbd : ∀ j, j < n → bnd ((stepR at_ k s r).bal.getD j 0) := fun j hj => by
    have := hinv.bb j hj
    unfold bnd
    omega
  rw [hst] at hbd ⊢
  dsimp only at hbd ⊢
  have hl := h.mid.len
  rw [hl] at *
  have hcl := (clipTo_eq hM hbd n (Nat.le_refl _)).1
  have hv := clipTo_val hM hbd n (Nat.le_refl _)
  rw [← hcl]
  refine ⟨?_, fun j hj hne => ?_, by omega, Int.le_refl _⟩
  · rw [hv _ hy hy, getD_set _ _ _ _ hyl, if_pos rfl]
  · rw [hv _ hj hj, getD_set _ _ _ _ hyl, if_neg hne, hz.2 j hj]
    omega

theorem keeps_step {n k y : Nat} {at_ T L amt : Int} {s : WSt} {r : Row} (h : Inv n k amt s) (hr : RowOk n r) (hk : k ≤ 256) (hlt : at_ < (k : Int)) (hK : Keeps n y T L s) (hy : y < n) (hm : 0 ≤ moneyRef r y) :
    Keeps n y T L (stepR at_ k s r) := by
  obtain ⟨_, hinv⟩ := step_eq (at_ := at_) h hr hk (fun hle => by omega) (fun he => by omega)
  have hbal := step_bal (at_ := at_) h hr hk hy
  have hbd0 : ∀ j, j < n → bnd (s.bal.getD j 0) := fun j hj => by
    have := h.bb j hj
    unfold bnd
    omega
  have hmr := money_ref hr y
  have hr' := hr
  obtain ⟨g1, g2⟩ := hr
  simp only [rowRange, rowParty, decide_eq_true_eq] at g1 g2
  have hwb : wrap64 (s.bal.getD y 0 + moneyRef r y) = s.bal.getD y 0 + moneyRef r y := by
    have := hbd0 y hy
    unfold bnd at this
    apply w64
    rw [hmr]
    split
    · omega
    · split
      · omega
      · split <;> omega
  rw [hwb] at hbal
  by_cases k2 : r.kind = 2
  · have hR : stepR at_ k s r = s := by unfold stepR; rw [if_pos k2]
    rw [hR]
    exact hK
  · have hp : (payer r).toNat < n := by unfold payer; split <;> omega
    have hq : (payee r).toNat < n := by unfold payee; split <;> omega
    have hpq : (payer r).toNat ≠ (payee r).toNat := by unfold payer payee; split <;> omega
    have hbp := hbd0 _ hp
    have htp := h.mid.le hp
    have hnn := spent_bd (am := r.amount) hbp htp.1 htp.2.1 g1.2.2.2.2.1 g1.2.2.2.2.2.1
    have hn0 : spentAt s r = 0 := by
      unfold spentAt
      by_cases hpy : (payer r).toNat = y
      · have ha : r.amount = 0 := by
          rw [hmr, if_neg k2, if_neg (by omega), if_pos hpy.symm] at hm
          omega
        have ht := h.tb _ hp
        unfold bnd at hbp
        have hpp : pos (s.bal.getD (payer r).toNat 0) = max (s.bal.getD (payer r).toNat 0) 0 := by unfold pos; split <;> omega
        unfold spentW
        rw [hpp, ha, w64 (n := max (s.bal.getD (payer r).toNat 0) 0 - s.tr.getD (payer r).toNat 0) (by omega), w64 (by omega)]
        unfold pos
        repeat' split
        all_goals omega
      · have := hK.else_ _ hp hpy
        omega
    have hsp := (spend_mid (kd := r.kind) h.mid hp hq hpq hnn.1 hnn.2).2 hn0
    have e4 : spendTr s.tr (payer r).toNat (payee r).toNat (spentAt s r) r.kind = s.tr := hsp.1
    have e5 : spendLost s.lost (spentAt s r) r.kind = s.lost := hsp.2
    have hne : ¬ (k : Int) = at_ := by omega
    have hst : stepR at_ k s r = ⟨moveR s.bal (payer r).toNat (payee r).toNat r.amount, (clipToR (moveR s.bal (payer r).toNat (payee r).toNat r.amount) s.tr.length (s.tr, s.lost)).1, (clipToR (moveR s.bal (payer r).toNat (payee r).toNat r.amount) s.tr.length (s.tr, s.lost)).2⟩ := by
      simp only [stepR, if_neg k2, partR, if_neg hne, e4, e5]
    have hbd : ∀ j, j < n → bnd ((stepR at_ k s r).bal.getD j 0) := fun j hj => by
      have := hinv.bb j hj
      unfold bnd
      omega
    rw [hst] at hbd hbal ⊢
    dsimp only at hbd hbal ⊢
    have hl := h.mid.len
    rw [hl] at *
    have hall : ∀ i, i < n → s.tr.getD i 0 ≤ max ((moveR s.bal (payer r).toNat (payee r).toNat r.amount).getD i 0) 0 := fun i hi => by
      by_cases hiy : i = y
      · subst hiy
        rw [hK.here, hbal]
        have := hK.most
        have := hK.low
        omega
      · rw [hK.else_ i hi hiy]; omega
    rw [(clip_none h.mid hbd hall).2]
    exact ⟨hK.here, hK.else_, hK.most, by dsimp only; rw [hbal]; have := hK.low; omega⟩

end Go.Proofs.Ytdkllifoglibcaa

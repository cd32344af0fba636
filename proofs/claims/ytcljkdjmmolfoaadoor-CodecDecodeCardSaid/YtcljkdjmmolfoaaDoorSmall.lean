/- A small record is valid; what a decoder says of a beginning of an encoding, and of more than one: plain laws. -/
import Derived.Test.YtcljkdjmmolfoaaDoorPDec
set_option linter.unusedVariables false
set_option linter.unusedSimpArgs false
namespace Go.Proofs.YtcljkdjmmolfoaaDoor
open Go.RowKit

theorem vld_rq (q : Rat) : vld (rneg q) (rnum q) (rden q) = true := by
  have hn : nrm (rnum q) = rnum q := by unfold nrm rnum; rw [snum_ncan]
  have hs : snum (rnum q) = q.num.natAbs := by unfold rnum; rw [snum_ncan]
  have hd0 := q.den_nz
  have hr : Nat.gcd q.num.natAbs q.den = 1 := q.reduced
  by_cases h1 : q.den = 1
  · have e : rden q = ⟨#[]⟩ := if_pos h1
    have e2 : nrm (⟨#[]⟩ : ByteArray) = ⟨#[]⟩ := by unfold nrm; rw [snum_emptyB, ncan_zero']
    unfold vld
    rw [hn, hs, e, e2, snum_emptyB]
    by_cases h0 : q.num.natAbs = 0
    · have : rneg q = false := by unfold rneg; exact decide_eq_false (by omega)
      simp [h0, this]
    · simp [h0]
  · have e : rden q = ncan q.den := if_neg h1
    have e2 : nrm (ncan q.den) = ncan q.den := by unfold nrm; rw [snum_ncan]
    have h0 : q.num.natAbs ≠ 0 := fun h => by rw [h, Nat.gcd_zero_left] at hr; exact h1 hr
    unfold vld
    rw [hn, hs, e, e2, snum_ncan, if_neg h0]
    simp [h1, hr]
theorem rqS.vl {a : RQ} (h : rqS a) : a.vl = true := by
  obtain ⟨q, _, rfl⟩ := h
  exact vld_rq q
theorem i16b.rng {x : Int} (h : i16b x) : rngN x = true := by
  unfold i16b at h
  unfold rngN
  rw [Bool.and_eq_true]
  exact ⟨decide_eq_true (by omega), decide_eq_true (by omega)⟩
theorem i16b.len {x : Int} (h : i16b x) : (vint (zig x)).length ≤ 4 := by
  refine vint_len _ 3 ?_
  have e : (128 : Nat) ^ 3 = 2097152 := by decide
  rw [e]
  unfold i16b at h
  unfold zig
  split <;> omega
theorem nums_len {l : List Int} (h : ∀ x ∈ l, i16b x) : (numsB l).length ≤ 4 * l.length := by
  induction l with
  | nil => exact Nat.zero_le _
  | cons x l ih =>
    have h1 := (h x (by simp)).len
    have h2 := ih (fun y hy => h y (by simp [hy]))
    simp only [numsB, List.flatMap_cons, List.length_append, List.length_cons] at h2 ⊢
    omega
theorem flat_le {α β : Type} {f : α → List β} {m : Nat} {l : List α} (h : ∀ x ∈ l, (f x).length ≤ m) : (l.flatMap f).length ≤ m * l.length := by
  induction l with
  | nil => exact Nat.zero_le _
  | cons x l ih =>
    have h1 := h x (by simp)
    have h2 := ih (fun y hy => h y (by simp [hy]))
    simp only [List.flatMap_cons, List.length_append, List.length_cons, Nat.mul_succ]
    omega
theorem small_txt {s : ByteArray} (h : s.size ≤ 8) : (txt s).length ≤ 12 := by
  have h1 : (vint (zig (s.size : Int))).length ≤ 4 := i16b.len (by unfold i16b; omega)
  rw [txt, List.length_append, byts_len]
  omega
theorem rqS.len {a : RQ} (h : rqS a) : a.bytes.length ≤ 28 := by
  obtain ⟨q, hq, rfl⟩ := h
  have e1 : (rnum q).size ≤ 8 := by
    show (ncan _).size ≤ 8
    rw [ncan_size]; exact canon_len_le hq.1
  have e2 : (rden q).size ≤ 8 := by
    unfold rden
    split
    · decide
    · rw [ncan_size]; exact canon_len_le hq.2
  have t1 := small_txt e1
  have t2 := small_txt e2
  have t3 : (vint (if rneg q = true then 2 else 0)).length ≤ 4 := vint_len _ 3 (by split <;> decide)
  show (ratB (rneg q) (rnum q) (rden q)).length ≤ 28
  rw [ratB, List.length_append, List.length_append]
  omega
theorem RecSmall.ok {zs : List Int} {a c : RQ} {legs : List (Int × Int)} {opts : List (RQ × Int)} {pays : List Pay} (h : RecSmall zs a c legs opts pays) (hz : zs.length = 6) : refOk zs a c legs opts pays (encB zs a c legs opts pays) = true := by
  have h1 := h.l
  have h2 := h.o
  have h3 := h.p
  have g1 := nums_len h.z
  have g2 := h.a.len
  have g3 := h.c.len
  have sm : ∀ n : Nat, n ≤ 60 → i16b (n : Int) := fun n hn => by unfold i16b; omega
  have g4 : (numsB [(legs.length : Int)]).length ≤ 4 := nums_len (l := [(legs.length : Int)]) (fun x hx => by rw [List.mem_singleton.1 hx]; exact sm _ (by omega))
  have g5 : (numsB [(opts.length : Int)]).length ≤ 4 := nums_len (l := [(opts.length : Int)]) (fun x hx => by rw [List.mem_singleton.1 hx]; exact sm _ (by omega))
  have g6 : (numsB [(pays.length : Int)]).length ≤ 4 := nums_len (l := [(pays.length : Int)]) (fun x hx => by rw [List.mem_singleton.1 hx]; exact sm _ (by omega))
  have g7 := flat_le (f := legB) (m := 8) (l := legs) (fun p hp => by
    have := nums_len (l := [p.1, p.2]) (fun x hx => by
      rcases List.mem_cons.1 hx with rfl | hx
      · exact (h.lb p hp).1
      · rw [List.mem_singleton.1 hx]; exact (h.lb p hp).2)
    exact this)
  have g8 := flat_le (f := optB) (m := 32) (l := opts) (fun p hp => by
    have e1 := (h.ob p hp).1.len
    have e2 : (numsB [p.2]).length ≤ 4 := nums_len (l := [p.2]) (fun x hx => by rw [List.mem_singleton.1 hx]; exact (h.ob p hp).2)
    rw [optB, List.length_append]
    omega)
  have g9 := flat_le (f := payB) (m := 16) (l := pays) (fun p hp => by
    obtain ⟨p1, p2, p3, p4⟩ := h.pb p hp
    have e1 : (numsB [p.debt, p.estate, p.claim]).length ≤ 12 := nums_len (l := [p.debt, p.estate, p.claim]) (fun x hx => by
      simp only [List.mem_cons, List.not_mem_nil, or_false] at hx
      rcases hx with rfl | rfl | rfl <;> assumption)
    have e2 := p4.len
    rw [payB, List.length_append]
    omega)
  have hT : (encB zs a c legs opts pays).length ≤ 4096 := by
    rw [encB]
    simp only [List.length_append]
    rw [hz] at g1
    omega
  unfold refOk
  simp only [Bool.and_eq_true, decide_eq_true_eq, List.all_eq_true]
  refine ⟨fun x hx => (h.z x hx).rng, h.a.vl, h.c.vl, by omega, by omega, by omega, fun p hp => ?_, fun p hp => ?_, fun p hp => ?_, hT⟩
  · simp only [legOk, List.all_cons, List.all_nil, Bool.and_true, Bool.and_eq_true]
    exact ⟨(h.lb p hp).1.rng, (h.lb p hp).2.rng⟩
  · simp only [optOkR, Bool.and_eq_true]
    exact ⟨(h.ob p hp).1.vl, (h.ob p hp).2.rng⟩
  · obtain ⟨p1, p2, p3, p4⟩ := h.pb p hp
    simp only [payOk, List.all_cons, List.all_nil, Bool.and_true, Bool.and_eq_true]
    exact ⟨⟨p1.rng, p2.rng, p3.rng⟩, p4.rng⟩

/-- a number reader and a Rat reader that take back what was written -/
structure DecOk (N : St → Int × St) (Q : St → RQ × St) : Prop where
  n : NumOk N
  q : ∀ q : RQ, q.num.size ≤ 1000000 → q.den.size ≤ 1000000 → Takes Q q.bytes q
theorem decOkP : DecOk pNum pRat := ⟨pNum_ok, fun _ h1 h2 => pRat_takes h1 h2⟩
theorem decOkD : DecOk dNum dRat := ⟨dNum_ok, fun _ h1 h2 => dRat_takes h1 h2⟩
theorem recOk_len {r : RecD} (h : recOk r = true) : (recT r).length ≤ 4096 := (refOk_parts h).2.2.2.2.2.2.2
theorem decBy_some {N : St → Int × St} {Q : St → RQ × St} {b : List Nat} {r : RecD} (h : decBy N Q b = some r) : recOk r = true ∧ recT r = b := by
  unfold decBy at h
  split at h
  · rename_i hc
    simp only [Option.some.injEq] at h
    subst h
    exact ⟨hc.2.2.1, hc.2.2.2⟩
  · cases h
theorem decBy_enc {N : St → Int × St} {Q : St → RQ × St} (hD : DecOk N Q) {r : RecD} (h : recOk r = true) : decBy N Q (recT r) = some r := by
  have e := rec_takes hD.n hD.q h []
  rw [List.append_nil] at e
  unfold decBy
  rw [e]
  exact if_pos ⟨recOk_len h, rfl, h, rfl⟩
theorem decBy_more {N : St → Int × St} {Q : St → RQ × St} (hD : DecOk N Q) {r : RecD} (h : recOk r = true) {m : List Nat} (hm : m ≠ []) : decBy N Q (recT r ++ m) = none := by
  have e := rec_takes hD.n hD.q h m
  refine dec_none ?_
  rw [e]
  intro hc
  exact hm (congrArg Prod.fst hc.2.1)
theorem decBy_take {N : St → Int × St} {Q : St → RQ × St} (hD : DecOk N Q) {r : RecD} (h : recOk r = true) {k : Nat} (hk : k < (recT r).length) : decBy N Q ((recT r).take k) = none := by
  rcases hd : decBy N Q ((recT r).take k) with _ | r'
  · rfl
  · obtain ⟨h1, h2⟩ := decBy_some hd
    have e1 := rec_takes hD.n hD.q h []
    have e2 := rec_takes hD.n hD.q h1 ((recT r).drop k)
    rw [h2, List.take_append_drop] at e2
    rw [List.append_nil, e2] at e1
    have : (recT r).drop k = [] := congrArg (fun t => t.2.1) e1
    have := congrArg List.length this
    rw [List.length_drop, List.length_nil] at this
    omega

end Go.Proofs.YtcljkdjmmolfoaaDoor

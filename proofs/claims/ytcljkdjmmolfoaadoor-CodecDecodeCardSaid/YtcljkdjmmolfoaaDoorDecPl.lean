/- What both decoders answer: plain laws. -/
import Derived.Test.YtcljkdjmmolfoaaDoorActA
import Derived.Test.YtcljkdjmmolfoaaDoorM11
set_option linter.unusedVariables false
set_option linter.unusedSimpArgs false
namespace Go.Proofs.YtcljkdjmmolfoaaDoor
open Go.RowKit

abbrev RecD := ActD × List Pay
def rRec (N : St → Int × St) (Q : St → RQ × St) (s : St) : RecD × St :=
  let t := rAct N Q s
  let n := rCount N 256 t.2
  let p := rList (rPay N) n.1 n.2
  ((t.1, p.1), p.2)
def recZ (r : RecD) : List Int := [r.1.z1, r.1.z2, r.1.z3, r.1.z4, r.1.z5, r.1.z6]
def recT (r : RecD) : List Nat := encB (recZ r) r.1.a r.1.c r.1.legs r.1.opts r.2
def recOk (r : RecD) : Bool := refOk (recZ r) r.1.a r.1.c r.1.legs r.1.opts r.2 (recT r)
def decBy (N : St → Int × St) (Q : St → RQ × St) (b : List Nat) : Option RecD :=
  if b.length ≤ 4096 ∧ (rRec N Q (b, false)).2 = ([], false) ∧ recOk (rRec N Q (b, false)).1 = true ∧ recT (rRec N Q (b, false)).1 = b then some (rRec N Q (b, false)).1 else none

theorem refOk_parts {zs : List Int} {a c : RQ} {legs : List (Int × Int)} {opts : List (RQ × Int)} {pays : List Pay} {T : List Nat} (h : refOk zs a c legs opts pays T = true) :
    zs.all rngN = true ∧ legs.length ≤ 8 ∧ opts.length ≤ 4 ∧ pays.length ≤ 256 ∧ legs.all legOk = true ∧ opts.all optOkR = true ∧ pays.all payOk = true ∧ T.length ≤ 4096 := by
  simp only [refOk, Bool.and_eq_true, decide_eq_true_eq] at h
  obtain ⟨h1, _, _, h4, h5, h6, h7, h8, h9, h10⟩ := h
  exact ⟨h1, h4, h5, h6, h7, h8, h9, h10⟩
theorem takes6 {N : St → Int × St} (hN : NumOk N) {z1 z2 z3 z4 z5 z6 : Int} (h : [z1, z2, z3, z4, z5, z6].all rngN = true) (R : List Nat) :
    ∃ s1 s2 s3 s4 s5 : St, N (numsB [z1, z2, z3, z4, z5, z6] ++ R, false) = (z1, s1) ∧ N s1 = (z2, s2) ∧ N s2 = (z3, s3) ∧ N s3 = (z4, s4) ∧ N s4 = (z5, s5) ∧ N s5 = (z6, (R, false)) := by
  simp only [List.all_cons, List.all_nil, Bool.and_true, Bool.and_eq_true] at h
  obtain ⟨h1, h2, h3, h4, h5, h6⟩ := h
  simp only [numsB, List.flatMap_cons, List.flatMap_nil, List.append_nil, List.append_assoc]
  exact ⟨_, _, _, _, _, hN _ (zig_lt56 h1) _, hN _ (zig_lt56 h2) _, hN _ (zig_lt56 h3) _, hN _ (zig_lt56 h4) _, hN _ (zig_lt56 h5) _, hN _ (zig_lt56 h6) _⟩
/-- a reader takes a valid record back, whatever stands behind it -/
theorem rec_takes {N : St → Int × St} {Q : St → RQ × St} (hN : NumOk N) (hQ : ∀ q : RQ, q.num.size ≤ 1000000 → q.den.size ≤ 1000000 → Takes Q q.bytes q) {r : RecD} (h : recOk r = true) (R : List Nat) : rRec N Q (recT r ++ R, false) = (r, (R, false)) := by
  obtain ⟨⟨z1, z2, z3, z4, z5, z6, a, c, legs, opts⟩, pays⟩ := r
  obtain ⟨hz, hl, ho, hp, hla, hoa, hpa, hT⟩ := refOk_parts h
  simp only [recT, recZ] at hT ⊢
  dsimp only [recZ] at hz
  rw [encB] at hT
  simp only [List.length_append] at hT
  have sa := ratB_sizes a
  have sc := ratB_sizes c
  have so : ∀ p ∈ opts, p.1.num.size ≤ 1000000 ∧ p.1.den.size ≤ 1000000 := fun p hp => by
    have h1 : (optB p).length ≤ (opts.flatMap optB).length := mem_len hp
    have h2 : p.1.bytes.length ≤ (optB p).length := by rw [optB, List.length_append]; omega
    have h3 := ratB_sizes p.1
    omega
  rw [encB]
  simp only [List.append_assoc]
  obtain ⟨s1, s2, s3, s4, s5, e1, e2, e3, e4, e5, e6⟩ := takes6 hN hz (a.bytes ++ (c.bytes ++ (numsB [(legs.length : Int)] ++ (legs.flatMap legB ++ (numsB [(opts.length : Int)] ++ (opts.flatMap optB ++ (numsB [(pays.length : Int)] ++ (pays.flatMap payB ++ R))))))))
  have ea := hQ a (by omega) (by omega) (c.bytes ++ (numsB [(legs.length : Int)] ++ (legs.flatMap legB ++ (numsB [(opts.length : Int)] ++ (opts.flatMap optB ++ (numsB [(pays.length : Int)] ++ (pays.flatMap payB ++ R)))))))
  have ec := hQ c (by omega) (by omega) (numsB [(legs.length : Int)] ++ (legs.flatMap legB ++ (numsB [(opts.length : Int)] ++ (opts.flatMap optB ++ (numsB [(pays.length : Int)] ++ (pays.flatMap payB ++ R))))))
  have n1 := count_takes hN hl (by omega) (legs.flatMap legB ++ (numsB [(opts.length : Int)] ++ (opts.flatMap optB ++ (numsB [(pays.length : Int)] ++ (pays.flatMap payB ++ R)))))
  have el := list_takes (f := rPair N) (b := legB) legs (fun p hp => pair_takes hN (List.all_eq_true.1 hla p hp)) (numsB [(opts.length : Int)] ++ (opts.flatMap optB ++ (numsB [(pays.length : Int)] ++ (pays.flatMap payB ++ R))))
  have n2 := count_takes hN ho (by omega) (opts.flatMap optB ++ (numsB [(pays.length : Int)] ++ (pays.flatMap payB ++ R)))
  have eo := list_takes (f := rOpt N Q) (b := optB) opts (fun p hp => opt_takes hN hQ (by have := List.all_eq_true.1 hoa p hp; rw [optOkR, Bool.and_eq_true] at this; exact this.2) (so p hp).1 (so p hp).2) (numsB [(pays.length : Int)] ++ (pays.flatMap payB ++ R))
  have n3 := count_takes hN hp (by omega) (pays.flatMap payB ++ R)
  have ep := list_takes (f := rPay N) (b := payB) pays (fun p hp => pay_takes hN (List.all_eq_true.1 hpa p hp)) R
  have nb : ∀ n : Nat, numsB [(n : Int)] = vint (zig (n : Int)) := fun n => by simp [numsB]
  rw [nb] at e1 ea ec el eo
  simp only [nb] at e1 e6 ea ec n1 el n2 eo ⊢
  unfold rRec rAct
  simp only [e1, e2, e3, e4, e5, e6, ea, ec, n1, el, n2, eo, n3, ep]
/-- both decoders answer alike -/
theorem dec_of_takes {N N' : St → Int × St} {Q Q' : St → RQ × St} (hN' : NumOk N') (hQ' : ∀ q : RQ, q.num.size ≤ 1000000 → q.den.size ≤ 1000000 → Takes Q' q.bytes q) {b : List Nat} {r : RecD} (h : decBy N Q b = some r) : decBy N' Q' b = some r := by
  unfold decBy at h
  by_cases c : b.length ≤ 4096 ∧ (rRec N Q (b, false)).2 = ([], false) ∧ recOk (rRec N Q (b, false)).1 = true ∧ recT (rRec N Q (b, false)).1 = b
  · rw [if_pos c] at h
    obtain ⟨c1, c2, c3, c4⟩ := c
    simp only [Option.some.injEq] at h
    rw [h] at c3 c4
    have := rec_takes hN' hQ' c3 []
    rw [List.append_nil, c4] at this
    unfold decBy
    rw [this]
    exact if_pos ⟨c1, rfl, c3, c4⟩
  · rw [if_neg c] at h; cases h
theorem dec_same (b : List Nat) : decBy pNum pRat b = decBy dNum dRat b := by
  rcases h : decBy pNum pRat b with _ | r
  · rcases h2 : decBy dNum dRat b with _ | r
    · rfl
    · have := dec_of_takes (N' := pNum) (Q' := pRat) pNum_ok (fun q h1 h2 => pRat_takes h1 h2) h2
      rw [h] at this; cases this
  · exact (dec_of_takes (N' := dNum) (Q' := dRat) dNum_ok (fun q h1 h2 => dRat_takes h1 h2) h).symm

/-! what a reader yields is small -/
def NumFine (N : St → Int × St) : Prop := ∀ s, i64b (N s).1 ∧ (N s).2.1.length ≤ s.1.length
theorem pNum_fine : NumFine pNum := fun s => ⟨pNum_bnd s, pNum_len s⟩
theorem dNum_fine : NumFine dNum := fun s => ⟨dNum_bnd s, dNum_len s⟩
theorem text_fine {N : St → Int × St} (hN : NumFine N) (s : St) : (rText N s).1.size ≤ s.1.length ∧ (rText N s).2.1.length ≤ s.1.length := by
  have h := (hN s).2
  unfold rText
  split
  · exact ⟨Nat.zero_le _, h⟩
  · refine ⟨?_, ?_⟩
    · show (nstr _).size ≤ _
      rw [nstr_size, List.length_take]; omega
    · show (List.drop _ _).length ≤ _
      rw [List.length_drop]; omega
def RatFine (Q : St → RQ × St) : Prop := ∀ s, (Q s).1.num.size ≤ s.1.length ∧ (Q s).1.den.size ≤ s.1.length ∧ (Q s).2.1.length ≤ s.1.length
theorem pRat_fine : RatFine pRat := fun s => by
  have h1 := (pNum_fine s).2
  have h2 := text_fine pNum_fine (pNum s).2
  have h3 := text_fine pNum_fine (rText pNum (pNum s).2).2
  unfold pRat
  exact ⟨by show (rText pNum _).1.size ≤ _; omega, by show (rText pNum _).1.size ≤ _; omega, by show (rText pNum _).2.1.length ≤ _; omega⟩
theorem dMark_len (n : Int) (s : St) : (dMark n s).1.length = s.1.length := by unfold dMark; split <;> rfl
theorem dRat_fine : RatFine dRat := fun s => by
  have h1 := (dNum_fine s).2
  have h0 := dMark_len (dNum s).1 (dNum s).2
  have h2 := text_fine dNum_fine (dMark (dNum s).1 (dNum s).2)
  have h3 := text_fine dNum_fine (rText dNum (dMark (dNum s).1 (dNum s).2)).2
  unfold dRat
  exact ⟨by show (rText dNum _).1.size ≤ _; omega, by show (rText dNum _).1.size ≤ _; omega, by show (rText dNum _).2.1.length ≤ _; omega⟩
theorem count_fine {N : St → Int × St} (hN : NumFine N) (m : Nat) (s : St) : (rCount N m s).2.1.length ≤ s.1.length := by
  have h := (hN s).2
  unfold rCount
  split <;> exact h
theorem list_fine {α : Type} {f : St → α × St} {P : α → Prop} {m : Nat} (hf : ∀ s : St, s.1.length ≤ m → P (f s).1 ∧ (f s).2.1.length ≤ s.1.length) (n : Nat) (s : St) (hs : s.1.length ≤ m) : (∀ x ∈ (rList f n s).1, P x) ∧ (rList f n s).2.1.length ≤ s.1.length := by
  induction n with
  | zero => exact ⟨(fun x hx => by cases hx), Nat.le_refl _⟩
  | succ n ih =>
    have h := hf (rList f n s).2 (by omega)
    rw [rList]
    exact ⟨mem_snoc ih.1 h.1, by have := ih.2; have := h.2; show (f _).2.1.length ≤ _; omega⟩
structure Fine (m : Nat) (r : RecD) : Prop where
  z : i64s (recZ r)
  a : r.1.a.num.size ≤ m ∧ r.1.a.den.size ≤ m
  c : r.1.c.num.size ≤ m ∧ r.1.c.den.size ≤ m
  l : ∀ p ∈ r.1.legs, i64b p.1 ∧ i64b p.2
  ll : r.1.legs.length ≤ 8
  o : ∀ p ∈ r.1.opts, (p.1.num.size ≤ m ∧ p.1.den.size ≤ m) ∧ i64b p.2
  ol : r.1.opts.length ≤ 4
  p : ∀ p ∈ r.2, i64b p.debt ∧ i64b p.estate ∧ i64b p.claim ∧ i64b p.cents
  pl : r.2.length ≤ 256
theorem rec_fine {N : St → Int × St} {Q : St → RQ × St} (hN : NumFine N) (hQ : RatFine Q) (s : St) : Fine s.1.length (rRec N Q s).1 := by
  have h1 := hN s
  have h2 := hN (N s).2
  have h3 := hN (N (N s).2).2
  have h4 := hN (N (N (N s).2).2).2
  have h5 := hN (N (N (N (N s).2).2).2).2
  have h6 := hN (N (N (N (N (N s).2).2).2).2).2
  have ha := hQ (N (N (N (N (N (N s).2).2).2).2).2).2
  have hc := hQ (Q (N (N (N (N (N (N s).2).2).2).2).2).2).2
  have pair : ∀ t : St, t.1.length ≤ s.1.length → (i64b (rPair N t).1.1 ∧ i64b (rPair N t).1.2) ∧ (rPair N t).2.1.length ≤ t.1.length := fun t ht => by
    have a1 := hN t
    have a2 := hN (N t).2
    exact ⟨⟨a1.1, a2.1⟩, by show (N _).2.1.length ≤ _; omega⟩
  have opt : ∀ t : St, t.1.length ≤ s.1.length → (((rOpt N Q t).1.1.num.size ≤ s.1.length ∧ (rOpt N Q t).1.1.den.size ≤ s.1.length) ∧ i64b (rOpt N Q t).1.2) ∧ (rOpt N Q t).2.1.length ≤ t.1.length := fun t ht => by
    have a1 := hQ t
    have a2 := hN (Q t).2
    exact ⟨⟨⟨by show (Q t).1.num.size ≤ _; omega, by show (Q t).1.den.size ≤ _; omega⟩, a2.1⟩, by show (N _).2.1.length ≤ _; omega⟩
  have pay : ∀ t : St, t.1.length ≤ s.1.length → (i64b (rPay N t).1.debt ∧ i64b (rPay N t).1.estate ∧ i64b (rPay N t).1.claim ∧ i64b (rPay N t).1.cents) ∧ (rPay N t).2.1.length ≤ t.1.length := fun t ht => by
    have a1 := hN t
    have a2 := hN (N t).2
    have a3 := hN (N (N t).2).2
    have a4 := hN (N (N (N t).2).2).2
    exact ⟨⟨a1.1, a2.1, a3.1, a4.1⟩, by show (N _).2.1.length ≤ _; omega⟩
  obtain ⟨tc, htc⟩ : ∃ t, t = (Q (Q (N (N (N (N (N (N s).2).2).2).2).2).2).2).2 := ⟨_, rfl⟩
  have hct : tc.1.length ≤ s.1.length := by rw [htc]; omega
  have c1 := count_fine hN 8 tc
  have k1 := rCount_le N 8 tc
  have l1 := list_fine (f := rPair N) (P := fun p => i64b p.1 ∧ i64b p.2) (m := s.1.length) pair (rCount N 8 tc).1 (rCount N 8 tc).2 (by omega)
  obtain ⟨tl, htl⟩ : ∃ t, t = (rList (rPair N) (rCount N 8 tc).1 (rCount N 8 tc).2).2 := ⟨_, rfl⟩
  rw [← htl] at l1
  have c2 := count_fine hN 4 tl
  have k2 := rCount_le N 4 tl
  have l2 := list_fine (f := rOpt N Q) (P := fun p => (p.1.num.size ≤ s.1.length ∧ p.1.den.size ≤ s.1.length) ∧ i64b p.2) (m := s.1.length) opt (rCount N 4 tl).1 (rCount N 4 tl).2 (by omega)
  obtain ⟨tox, htox⟩ : ∃ t, t = (rList (rOpt N Q) (rCount N 4 tl).1 (rCount N 4 tl).2).2 := ⟨_, rfl⟩
  rw [← htox] at l2
  have c3 := count_fine hN 256 tox
  have k3 := rCount_le N 256 tox
  have l3 := list_fine (f := rPay N) (P := fun p => i64b p.debt ∧ i64b p.estate ∧ i64b p.claim ∧ i64b p.cents) (m := s.1.length) pay (rCount N 256 tox).1 (rCount N 256 tox).2 (by omega)
  unfold rRec rAct
  simp only [← htc, ← htl, ← htox]
  refine ⟨fun z hz => ?_, ⟨by dsimp only; omega, by dsimp only; omega⟩, ⟨by dsimp only; omega, by dsimp only; omega⟩, l1.1, by dsimp only; rw [rList_len]; exact k1, l2.1, by dsimp only; rw [rList_len]; exact k2, l3.1, by dsimp only; rw [rList_len]; exact k3⟩
  simp [recZ] at hz
  rcases hz with rfl | rfl | rfl | rfl | rfl | rfl
  · exact h1.1
  · exact h2.1
  · exact h3.1
  · exact h4.1
  · exact h5.1
  · exact h6.1

end Go.Proofs.YtcljkdjmmolfoaaDoor

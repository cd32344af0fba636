/- Preference and undervalue: plain laws. -/
import Derived.Test.YtomfcmlomfcghaaGreatDoorPtyC
import Derived.Test.YtomfcmlomfcghaaGreatDoorM20
import Derived.Test.YtomfcmlomfcghaaGreatDoorM21
set_option linter.unusedVariables false
set_option linter.unusedSimpArgs false
namespace Go.Proofs.YtomfcmlomfcghaaGreatDoor
open Go.RowKit

structure Win where
  cut : Int
  days : Int
  con : Int
def Win.ok (w : Win) : Prop := i64b w.cut ∧ i64b w.days ∧ i64b w.con
def dayB (x : Int) : Bool := decide (0 ≤ x) && decide (x ≤ 1048576)
theorem dayB_iff {x : Int} : dayB x = true ↔ 0 ≤ x ∧ x ≤ 1048576 := by simp [dayB]
def winB (w : Win) : Bool := dayB w.cut && (dayB w.days && dayB w.con)
def winErr (w : Win) : Int := if winB w = true then 0 else 1
def perErr (P : Prt) (deb cre : Int) (w : Win) : Int := if chk P ≠ 0 then chk P else if inN P.kinds.length cre = false then 14 else if inN P.kinds.length deb = false then 14 else winErr w
noncomputable def perFrom (P : Prt) (deb cre : Nat) (w : Win) : Int := if w.cut - (if con P deb cre = true then w.con else w.days) < 0 then 0 else w.cut - (if con P deb cre = true then w.con else w.days)
def findErr (P : Prt) (rows : List Row) (deb : Int) (w : Win) : Int := if chk P ≠ 0 then chk P else if hcheck P.kinds.length rows ≠ 0 then hcheck P.kinds.length rows else if inN P.kinds.length deb = false then 14 else winErr w
structure Dem where
  deb : Int
  party : Int
  ground : Int
  cents : Int
def demV (d : Dem) : List Value := [.int .i64 d.deb, .int .i64 d.party, .int .i64 d.ground, .int .i64 d.cents]
/-- the demands of parties with a positive sum -/
def demands (f : Nat → Int) (deb g : Int) (n : Nat) : List Dem := (List.range n).filterMap fun (k : Nat) => if 0 < f k then some ⟨deb, (k : Int), g, f k⟩ else none
theorem demands_zero (f : Nat → Int) (deb g : Int) : demands f deb g 0 = [] := rfl
theorem demands_succ (f : Nat → Int) (deb g : Int) (k : Nat) : demands f deb g (k + 1) = if 0 < f k then demands f deb g k ++ [⟨deb, (k : Int), g, f k⟩] else demands f deb g k := by
  unfold demands
  rw [List.range_succ, List.filterMap_append]
  by_cases h : 0 < f k
  · rw [if_pos h]; simp [h]
  · rw [if_neg h]; simp [h]
theorem demands_len (f : Nat → Int) (deb g : Int) : ∀ n, (demands f deb g n).length ≤ n
  | 0 => Nat.le_refl _
  | n + 1 => by
    have := demands_len f deb g n
    rw [demands_succ]
    split
    · rw [List.length_append, List.length_singleton]; omega
    · omega
theorem mem_demands {f : Nat → Int} {deb g : Int} {n : Nat} {d : Dem} : d ∈ demands f deb g n ↔ ∃ k : Nat, k < n ∧ 0 < f k ∧ d = ⟨deb, (k : Int), g, f k⟩ := by
  unfold demands
  rw [List.mem_filterMap]
  constructor
  · rintro ⟨k, hk, h⟩
    split at h
    · rename_i h0; exact ⟨k, List.mem_range.1 hk, h0, (Option.some.inj h).symm⟩
    · cases h
  · rintro ⟨k, hk, h0, rfl⟩
    exact ⟨k, List.mem_range.2 hk, by rw [if_pos h0]⟩
/-- what the preference of party k amounts to -/
noncomputable def prefOf (P : Prt) (rows : List Row) (deb : Nat) (w : Win) (k : Nat) : Int := expo (deb : Int) (k : Int) (perFrom P deb k w) w.cut rows
theorem prefOf_self (P : Prt) (rows : List Row) (deb : Nat) (w : Win) : prefOf P rows deb w deb = 0 := by unfold prefOf expo; rw [if_pos rfl]
def undStep (deb k f t : Int) (x : Int) (r : Row) : Int := if r.frm = deb ∧ r.to = k ∧ f ≤ r.day ∧ r.day ≤ t then wrap64 (x + (if r.kind = 3 ∧ 10 * r.amount < 9 * r.worth then wrap64 (r.worth - r.amount) else 0)) else x
noncomputable def undOf (P : Prt) (rows : List Row) (deb : Nat) (w : Win) (k : Nat) : Int := if k = deb then 0 else rows.foldl (undStep (deb : Int) (k : Int) (perFrom P deb k w) w.cut) 0
theorem undOf_self (P : Prt) (rows : List Row) (deb : Nat) (w : Win) : undOf P rows deb w deb = 0 := by unfold undOf; rw [if_pos rfl]
theorem findErr_parts {P : Prt} {rows : List Row} {deb : Int} {w : Win} (h : findErr P rows deb w = 0) : chk P = 0 ∧ hcheck P.kinds.length rows = 0 ∧ inN P.kinds.length deb = true ∧ winB w = true := by
  unfold findErr at h
  split at h
  · rename_i h1; exact absurd h h1
  · rename_i h1
    split at h
    · rename_i h2; exact absurd h h2
    · rename_i h2
      split at h
      · omega
      · rename_i h3
        unfold winErr at h
        split at h
        · rename_i h4
          exact ⟨by omega, by omega, by simpa using h3, h4⟩
        · omega
theorem winB_parts {w : Win} (h : winB w = true) : (0 ≤ w.cut ∧ w.cut ≤ 1048576) ∧ (0 ≤ w.days ∧ w.days ≤ 1048576) ∧ (0 ≤ w.con ∧ w.con ≤ 1048576) := by
  simp only [winB, Bool.and_eq_true] at h
  exact ⟨dayB_iff.1 h.1, dayB_iff.1 h.2.1, dayB_iff.1 h.2.2⟩
theorem findErr_of {P : Prt} {rows : List Row} {deb : Int} {w : Win} (h1 : chk P = 0) (h2 : hcheck P.kinds.length rows = 0) (h3 : inN P.kinds.length deb = true) (h4 : winB w = true) : findErr P rows deb w = 0 := by
  unfold findErr winErr
  rw [if_neg (by rw [h1]; decide), if_neg (by rw [h2]; decide), if_neg (by rw [h3]; decide), if_pos h4]
theorem perErr_of {P : Prt} {deb cre : Int} {w : Win} (h1 : chk P = 0) (h2 : inN P.kinds.length cre = true) (h3 : inN P.kinds.length deb = true) (h4 : winB w = true) : perErr P deb cre w = 0 := by
  unfold perErr winErr
  rw [if_neg (by rw [h1]; decide), if_neg (by rw [h2]; decide), if_neg (by rw [h3]; decide), if_pos h4]

/-! good rows: the history's check says 0 -/
theorem hchk_good {n d : Int} : ∀ {rows : List Row} {b : Int}, (∀ r ∈ rows, r.good n d) → d ≤ 1048576 → rows.Pairwise (fun a b => a.day ≤ b.day) → (∀ r ∈ rows, b ≤ r.day) → hchk n b rows = 0
  | [], b, _, _, _, _ => rfl
  | r :: l, b, h, hd, hp, hb => by
    obtain ⟨a1, a2, a3, a4, a5, a6, a7, a8, a9, a10, a11, a12, a13, a14⟩ := h r (by simp)
    have hb1 := hb r (by simp)
    have e : rowErr n b r = 0 := by
      unfold rowErr
      have e1 : rowRange r = true := by
        unfold rowRange
        refine decide_eq_true ⟨a1, by omega, a3, a4, a10, by omega, a12, by omega, ?_⟩
        by_cases h3 : r.kind = 3
        · exact .inr h3
        · exact .inl (a14 h3)
      have e2 : rowParty n r = true := by
        unfold rowParty
        exact decide_eq_true ⟨a5, a6, a7, a8, a9⟩
      rw [e1, e2, if_neg (by decide), if_neg (by decide), if_neg (by omega)]
    rw [hchk, if_neg (by rw [e]; decide)]
    rw [List.pairwise_cons] at hp
    exact hchk_good (fun x hx => h x (by simp [hx])) hd hp.2 hp.1
theorem hcheck_good {n d : Int} {rows : List Row} (h : GoodRows n d rows) (hd : d ≤ 1048576) (hl : rows.length ≤ 256) : hcheck n rows = 0 := by
  unfold hcheck
  rw [if_neg (by omega)]
  exact hchk_good h.good hd h.mono (fun r hr => (h.good r hr).1)
/-- in a longer period nothing is lost -/
theorem expo_fold_le {deb cre f f' t : Int} (hf : f' ≤ f) : ∀ {rows : List Row} {a b : Int} {m : Nat}, (∀ r ∈ rows, 0 ≤ r.amount ∧ r.amount < 40) → rows.Pairwise (fun a b => a.day ≤ b.day) → 0 ≤ a → a ≤ b → b ≤ 40 * (m : Int) → m + rows.length ≤ 1000 → (a = 0 ∨ ∀ r ∈ rows, f ≤ r.day) →
    rows.foldl (expoStep deb cre f t) a ≤ rows.foldl (expoStep deb cre f' t) b
  | [], a, b, m, _, _, _, hab, _, _, _ => hab
  | r :: l, a, b, m, h, hp, ha, hab, hb, hm, hz => by
    obtain ⟨r0, r1⟩ := h r (by simp)
    rw [List.pairwise_cons] at hp
    rw [List.length_cons] at hm
    rw [List.foldl_cons, List.foldl_cons]
    have w1 : ∀ x : Int, -1000000 ≤ x → x ≤ 1000000 → wrap64 x = x := fun x h1 h2 => IntWalk.wrap64_in _ (by omega)
    have key : 0 ≤ expoStep deb cre f t a r ∧ expoStep deb cre f t a r ≤ expoStep deb cre f' t b r ∧ expoStep deb cre f' t b r ≤ 40 * ((m + 1 : Nat) : Int) ∧ (expoStep deb cre f t a r = 0 ∨ ∀ x ∈ l, f ≤ x.day) := by
      unfold expoStep
      rw [w1 (a + r.amount) (by omega) (by omega), w1 (b + r.amount) (by omega) (by omega), w1 (a - r.amount) (by omega) (by omega), w1 (b - r.amount) (by omega) (by omega)]
      by_cases hday : r.day < f
      · have ha0 : a = 0 := hz.elim id (fun h2 => absurd (h2 r (by simp)) (by omega))
        rw [if_pos (show r.day < f ∨ t < r.day from .inl hday)]
        refine ⟨ha, ?_, ?_, .inl ha0⟩
        · repeat' split
          all_goals omega
        · repeat' split
          all_goals omega
      · have hl : ∀ x ∈ l, f ≤ x.day := fun x hx => by have := hp.1 x hx; omega
        by_cases ht : t < r.day
        · rw [if_pos (show r.day < f ∨ t < r.day from .inr ht), if_pos (show r.day < f' ∨ t < r.day from .inr ht)]
          exact ⟨ha, hab, by omega, .inr hl⟩
        · rw [if_neg (show ¬ (r.day < f ∨ t < r.day) by omega), if_neg (show ¬ (r.day < f' ∨ t < r.day) by omega)]
          refine ⟨?_, ?_, ?_, .inr hl⟩
          · repeat' split
            all_goals omega
          · repeat' split
            all_goals omega
          · repeat' split
            all_goals omega
    obtain ⟨k1, k2, k3, k4⟩ := key
    exact expo_fold_le hf (m := m + 1) (fun x hx => h x (by simp [hx])) hp.2 k1 k2 k3 (by omega) k4
theorem expo_le {n d deb cre f f' t : Int} {rows : List Row} (hg : GoodRows n d rows) (hl : rows.length ≤ 1000) (hf : f' ≤ f) : expo deb cre f t rows ≤ expo deb cre f' t rows := by
  unfold expo
  split
  · exact Int.le_refl _
  · exact expo_fold_le hf (m := 0) (fun r hr => by have := hg.good r hr; unfold Row.good at this; omega) hg.mono (Int.le_refl _) (Int.le_refl _) (by omega) (by omega) (.inl rfl)
theorem expo_nonneg {n d deb cre f t : Int} {rows : List Row} (hg : GoodRows n d rows) (hl : rows.length ≤ 1000) : 0 ≤ expo deb cre f t rows := by
  unfold expo
  split
  · exact Int.le_refl _
  · have key : ∀ {rows : List Row} {a : Int} {m : Nat}, (∀ r ∈ rows, 0 ≤ r.amount ∧ r.amount < 40) → 0 ≤ a → a ≤ 40 * (m : Int) → m + rows.length ≤ 1000 → 0 ≤ rows.foldl (expoStep deb cre f t) a := by
      intro rows
      induction rows with
      | nil => intro a m _ h _ _; exact h
      | cons r l ih =>
        intro a m h ha hb hm
        obtain ⟨r0, r1⟩ := h r (by simp)
        rw [List.length_cons] at hm
        rw [List.foldl_cons]
        have w1 : ∀ x : Int, -1000000 ≤ x → x ≤ 1000000 → wrap64 x = x := fun x h1 h2 => IntWalk.wrap64_in _ (by omega)
        refine ih (m := m + 1) (fun x hx => h x (by simp [hx])) ?_ ?_ (by omega)
        · unfold expoStep
          rw [w1 (a + r.amount) (by omega) (by omega), w1 (a - r.amount) (by omega) (by omega)]
          repeat' split
          all_goals omega
        · unfold expoStep
          rw [w1 (a + r.amount) (by omega) (by omega), w1 (a - r.amount) (by omega) (by omega)]
          repeat' split
          all_goals omega
    exact key (m := 0) (fun r hr => by have := hg.good r hr; unfold Row.good at this; omega) (Int.le_refl _) (by omega) (by omega)

end Go.Proofs.YtomfcmlomfcghaaGreatDoor

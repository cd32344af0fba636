/- Merged of EncW Same35. -/
import Derived.Test.YtcljkdjmmolfoaaDoorEncB
import Derived.Test.YtcljkdjmmolfoaaDoorRefV
/- codec.Encode, codec.Valid. -/
set_option linter.unusedVariables false
set_option linter.unusedSimpArgs false
namespace Go.Proofs.YtcljkdjmmolfoaaDoor
open Go.RowKit

theorem own_le {W : World} {B B' n S : Nat} {v : Value} {xs : List Value} {E : TypeId} (h : W.ownsRow B E S v n xs) (hB : B' ≤ B) : W.ownsRow B' E S v n xs := by
  refine ⟨h.1, ?_⟩
  rcases h.2 with hn | ⟨g, cap, cur, e1, hb, rest⟩
  · exact .inl hn
  · exact .inr ⟨g, cap, cur, e1, Nat.le_trans hB hb, rest⟩
theorem own_cap {W : World} {B n S c : Nat} {A : Option Addr} {xs : List Value} {E : TypeId} (h : W.ownsRow B E S (.slice A n c) n xs) : n ≤ c ∧ c ≤ maxLen := by
  rcases h.2 with ⟨h1, h2⟩ | ⟨g, cap, cur, h1, _, _, h3, h4, _⟩
  · simp only [Value.slice.injEq] at h1
    obtain ⟨_, rfl, rfl⟩ := h1
    exact ⟨Nat.le_refl _, Nat.zero_le _⟩
  · simp only [Value.slice.injEq] at h1
    obtain ⟨_, _, rfl⟩ := h1
    exact ⟨h3, h4⟩
def EncWPost (T : List Nat) (ok : Bool) (w : World) (e : Ending) (w' : World) : Prop :=
  ∃ A n c, e = .returned (.tuple #[.slice A n c, .int .i64 (if ok = true then 0 else 1)]) ∧ (ok = true → n = T.length ∧ KRd .u8 w' w'.heap.size A T ∧ w'.ownsRow w.heap.size 5 1 (.slice A n c) n (u8s T)) ∧ (ok = false → A = none ∧ n = 0 ∧ c = 0) ∧ Below w.heap.size w w'

set_option maxHeartbeats 1000000 in
theorem codecEncode_of (z1 z2 z3 z4 z5 z6 : Int) (an : Bool) (as_ ad_ : ByteArray) (cn : Bool) (cs cd : ByteArray) (A1 : Option Addr) (n1 c1 : Nat) (A2 : Option Addr) (n2 c2 : Nat) (A3 : Option Addr) (n3 c3 : Nat) (T : List Nat) (ok : Bool) (w : World) (h : ∀ W, Below w.heap.size w W → Calls Tryd.prog 27 #[.agg #[.int .i64 z1, .int .i64 z2, .int .i64 z3, .int .i64 z4, .int .i64 z5, .int .i64 z6, .bool an, .string as_, .string ad_, .bool cn, .string cs, .string cd, .slice A1 n1 c1, .slice A2 n2 c2, .slice A3 n3 c3]] W (EncPost T ok W)) :
    Calls Tryd.prog 18 #[.agg #[.int .i64 z1, .int .i64 z2, .int .i64 z3, .int .i64 z4, .int .i64 z5, .int .i64 z6, .bool an, .string as_, .string ad_, .bool cn, .string cs, .string cd, .slice A1 n1 c1, .slice A2 n2 c2, .slice A3 n3 c3]] w (EncWPost T ok w) := by
  have H := Lib.hid h
  clear h
  go_enter Tryd.func18, Tryd.ntmps18
  go_wp2_with fail
  refine (H.out _ (bel_alloc _ _)).mono ?_
  rintro e w1 ⟨A, n, c, rfl, hk, hb⟩
  have HB : Hid (Below w.heap.size w w1) := (bel_alloc _ _).trans (hb.mono (by simp))
  have HK := Lib.hid hk
  clear hk hb H
  cases ok
  · go_wp2_with fail
    go_ret2
    exact ⟨none, 0, 0, rfl, (fun h => by cases h), (fun _ => ⟨rfl, rfl, rfl⟩), HB.out⟩
  · go_wp2_with fail
    go_ret2
    exact ⟨A, n, c, rfl, (fun _ => ⟨(HK.out trivial).1, (HK.out trivial).2.1, own_le (HK.out trivial).2.2 (by simp)⟩), (fun h => by cases h), HB.out⟩

set_option maxHeartbeats 1000000 in
theorem codecValid_of (z1 z2 z3 z4 z5 z6 : Int) (an : Bool) (as_ ad_ : ByteArray) (cn : Bool) (cs cd : ByteArray) (A1 : Option Addr) (n1 c1 : Nat) (A2 : Option Addr) (n2 c2 : Nat) (A3 : Option Addr) (n3 c3 : Nat) (T : List Nat) (ok : Bool) (w : World) (h : ∀ W, Below w.heap.size w W → Calls Tryd.prog 27 #[.agg #[.int .i64 z1, .int .i64 z2, .int .i64 z3, .int .i64 z4, .int .i64 z5, .int .i64 z6, .bool an, .string as_, .string ad_, .bool cn, .string cs, .string cd, .slice A1 n1 c1, .slice A2 n2 c2, .slice A3 n3 c3]] W (EncPost T ok W)) :
    Calls Tryd.prog 22 #[.agg #[.int .i64 z1, .int .i64 z2, .int .i64 z3, .int .i64 z4, .int .i64 z5, .int .i64 z6, .bool an, .string as_, .string ad_, .bool cn, .string cs, .string cd, .slice A1 n1 c1, .slice A2 n2 c2, .slice A3 n3 c3]] w fun e w' => e = .returned (.bool ok) ∧ Below w.heap.size w w' := by
  have H := Lib.hid h
  clear h
  go_enter Tryd.func22, Tryd.ntmps22
  go_wp2_with fail
  refine (H.out _ (bel_alloc _ _)).mono ?_
  rintro e w1 ⟨A, n, c, rfl, hk, hb⟩
  have HB : Hid (Below w.heap.size w w1) := (bel_alloc _ _).trans (hb.mono (by simp))
  clear hk hb H
  go_wp2_with fail
  go_ret
  exact ⟨rfl, HB.out⟩

end Go.Proofs.YtcljkdjmmolfoaaDoor

/- insolvencyref33.Encode, insolvencylaw35.same. -/
set_option linter.unusedVariables false
set_option linter.unusedSimpArgs false
namespace Go.Proofs.YtcljkdjmmolfoaaDoor
open Go.RowKit

/-! plain -/
theorem ratB_byt (n : Bool) (a b : ByteArray) : Byt (ratB n a b) := by
  have hb : ∀ s : ByteArray, Byt (byts s) := by
    intro s x hx
    obtain ⟨y, _, rfl⟩ := List.mem_map.1 hx
    exact y.toNat_lt
  intro x hx
  rw [ratB, txt, txt] at hx
  simp only [List.mem_append] at hx
  rcases hx with (hx | hx | hx) | hx | hx
  · exact vint_byt _ x hx
  · exact vint_byt _ x hx
  · exact hb _ x hx
  · exact vint_byt _ x hx
  · exact hb _ x hx
theorem numsB_byt (l : List Int) : Byt (numsB l) := by
  intro x hx
  obtain ⟨y, _, hy⟩ := List.mem_flatMap.1 hx
  exact vint_byt _ x hy
theorem encB_byt (zs : List Int) (a c : RQ) (legs : List (Int × Int)) (opts : List (RQ × Int)) (pays : List Pay) : Byt (encB zs a c legs opts pays) := by
  intro x hx
  rw [encB] at hx
  simp only [List.mem_append, List.mem_flatMap] at hx
  rcases hx with (((((((hx | hx) | hx) | hx) | ⟨p, _, hx⟩) | hx) | ⟨p, _, hx⟩) | hx) | ⟨p, _, hx⟩
  · exact numsB_byt _ x hx
  · exact ratB_byt _ _ _ x hx
  · exact ratB_byt _ _ _ x hx
  · exact numsB_byt _ x hx
  · exact numsB_byt _ x hx
  · exact numsB_byt _ x hx
  · rw [optB, List.mem_append] at hx
    rcases hx with hx | hx
    · exact ratB_byt _ _ _ x hx
    · exact numsB_byt _ x hx
  · exact numsB_byt _ x hx
  · rw [payB, List.mem_append] at hx
    rcases hx with hx | hx
    · exact numsB_byt _ x hx
    · exact vint_byt _ x hx
theorem ratB_sizes (q : RQ) : q.num.size + q.den.size ≤ q.bytes.length := by
  rw [RQ.bytes, ratB, txt, txt]
  simp only [List.length_append, byts_len]
  omega
theorem mem_len {α β : Type} {f : α → List β} {l : List α} {x : α} (h : x ∈ l) : (f x).length ≤ (l.flatMap f).length := by
  induction l with
  | nil => cases h
  | cons y l ih =>
    rw [List.flatMap_cons, List.length_append]
    rcases List.mem_cons.1 h with rfl | h
    · omega
    · have := ih h; omega
theorem ok_vl {q : RQ} (h : q.bytes.length ≤ 4096) : q.ok = q.vl := by
  have := ratB_sizes q
  rw [RQ.ok, RQ.vl, decide_eq_true (by omega : q.num.size ≤ 4096), decide_eq_true (by omega : q.den.size ≤ 4096)]
  rfl
theorem all_congr {α : Type} {f g : α → Bool} {l : List α} (h : ∀ x ∈ l, f x = g x) : l.all f = l.all g := by
  induction l with
  | nil => rfl
  | cons y l ih => rw [List.all_cons, List.all_cons, h y (List.mem_cons_self), ih (fun x hx => h x (List.mem_cons_of_mem _ hx))]
theorem rng_small {n : Nat} (h : n ≤ 1000) : [(n : Int)].all rngN = true := by
  simp only [List.all_cons, List.all_nil, Bool.and_true, rngN]
  simp; omega
theorem ok_same (zs : List Int) (a c : RQ) (legs : List (Int × Int)) (opts : List (RQ × Int)) (pays : List Pay) (l1 : legs.length ≤ 8) (l2 : opts.length ≤ 4) (l3 : pays.length ≤ 256) :
    (encOk zs a c legs opts pays && decide ((encB zs a c legs opts pays).length ≤ 4096)) = refOk zs a c legs opts pays (encB zs a c legs opts pays) := by
  by_cases hT : (encB zs a c legs opts pays).length ≤ 4096
  · have hT2 := hT
    rw [encB] at hT2
    simp only [List.length_append] at hT2
    have ea : a.ok = a.vl := ok_vl (by omega)
    have ec : c.ok = c.vl := ok_vl (by omega)
    have eo : opts.all optOk = opts.all optOkR := all_congr fun p hp => by
      have h1 : (optB p).length ≤ _ := mem_len hp
      have h2 : p.1.bytes.length ≤ (optB p).length := by rw [optB, List.length_append]; omega
      rw [optOk, optOkR, ok_vl (by omega)]
      simp
    rw [encOk, refOk, decide_eq_true hT, decide_eq_true l1, decide_eq_true l2, decide_eq_true l3, ea, ec, eo, rng_small (by omega), rng_small (by omega), rng_small (by omega)]
    simp only [Bool.and_true, Bool.true_and, Bool.and_assoc]
  · rw [decide_eq_false hT, Bool.and_false, refOk, decide_eq_false hT]
    simp only [Bool.and_false]
theorem ref_many (zs : List Int) (a c : RQ) (legs : List (Int × Int)) (opts : List (RQ × Int)) (pays : List Pay) (T : List Nat) (h : 8 < legs.length ∨ 4 < opts.length ∨ 256 < pays.length) : refOk zs a c legs opts pays T = false := by
  rw [refOk]
  rcases h with h | h | h
  · rw [decide_eq_false (by omega : ¬ legs.length ≤ 8)]; simp
  · rw [decide_eq_false (by omega : ¬ opts.length ≤ 4)]; simp
  · rw [decide_eq_false (by omega : ¬ pays.length ≤ 256)]; simp

/-- a record that lies in memory and is not too long -/
structure RecFit (z1 z2 z3 z4 z5 z6 : Int) (an : Bool) (as_ ad_ : ByteArray) (cn : Bool) (cs cd : ByteArray) (A1 : Option Addr) (n1 c1 : Nat) (A2 : Option Addr) (n2 c2 : Nat) (A3 : Option Addr) (n3 c3 : Nat) (legs : List (Int × Int)) (opts : List (RQ × Int)) (pays : List Pay) (w : World) : Prop where
  hz : i64s [z1, z2, z3, z4, z5, z6]
  ha : as_.size ≤ 5000 ∧ ad_.size ≤ 5000
  hc : cs.size ≤ 5000 ∧ cd.size ≤ 5000
  e1 : n1 = legs.length
  e2 : n2 = opts.length
  e3 : n3 = pays.length
  r1 : Rd w w.heap.size 2 A1 legs.length (legs.flatMap legV)
  o1 : ∀ p ∈ legs, i64b p.1 ∧ i64b p.2
  r2 : Rd w w.heap.size 4 A2 opts.length (opts.flatMap optV)
  o2 : ∀ p ∈ opts, (p.1.num.size ≤ 5000 ∧ p.1.den.size ≤ 5000) ∧ i64b p.2
  r3 : Rd w w.heap.size 4 A3 pays.length (pays.flatMap payV)
  o3 : ∀ p ∈ pays, i64b p.debt ∧ i64b p.estate ∧ i64b p.claim ∧ i64b p.cents
  g1 : n1 ≤ maxLen
  g2 : n2 ≤ maxLen
  g3 : n3 ≤ maxLen
theorem RecFit.next (z1 z2 z3 z4 z5 z6 : Int) (an : Bool) (as_ ad_ : ByteArray) (cn : Bool) (cs cd : ByteArray) (A1 : Option Addr) (n1 c1 : Nat) (A2 : Option Addr) (n2 c2 : Nat) (A3 : Option Addr) (n3 c3 : Nat) {legs : List (Int × Int)} {opts : List (RQ × Int)} {pays : List Pay} {w w' : World} (h : RecFit z1 z2 z3 z4 z5 z6 an as_ ad_ cn cs cd A1 n1 c1 A2 n2 c2 A3 n3 c3 legs opts pays w) (hb : Below w.heap.size w w') : RecFit z1 z2 z3 z4 z5 z6 an as_ ad_ cn cs cd A1 n1 c1 A2 n2 c2 A3 n3 c3 legs opts pays w' :=
  ⟨h.hz, h.ha, h.hc, h.e1, h.e2, h.e3, h.r1.next hb, h.o1, h.r2.next hb, h.o2, h.r3.next hb, h.o3, h.g1, h.g2, h.g3⟩

/-- what both encoders leave: the bytes U and the error er -/
def EPost (U : List Nat) (er : Int) (w : World) (e : Ending) (w' : World) : Prop :=
  ∃ A c, e = .returned (.tuple #[.slice A U.length c, .int .i64 er]) ∧ KRd .u8 w' w'.heap.size A U ∧ Below w.heap.size w w' ∧ w'.ownsRow w.heap.size 5 1 (.slice A U.length c) U.length (u8s U)
def recU (ok : Bool) (T : List Nat) : List Nat := if ok = true then T else []
def recE (ok : Bool) : Int := if ok = true then 0 else 1

theorem encodeP (z1 z2 z3 z4 z5 z6 : Int) (an : Bool) (as_ ad_ : ByteArray) (cn : Bool) (cs cd : ByteArray) (A1 : Option Addr) (n1 c1 : Nat) (A2 : Option Addr) (n2 c2 : Nat) (A3 : Option Addr) (n3 c3 : Nat) (legs : List (Int × Int)) (opts : List (RQ × Int)) (pays : List Pay) (w : World) (hf : RecFit z1 z2 z3 z4 z5 z6 an as_ ad_ cn cs cd A1 n1 c1 A2 n2 c2 A3 n3 c3 legs opts pays w)
    (T : List Nat) (hT : T = encB [z1, z2, z3, z4, z5, z6] ⟨an, as_, ad_⟩ ⟨cn, cs, cd⟩ legs opts pays)
    (ok : Bool) (hok : ok = refOk [z1, z2, z3, z4, z5, z6] ⟨an, as_, ad_⟩ ⟨cn, cs, cd⟩ legs opts pays T) :
    Calls Tryd.prog 27 #[.agg #[.int .i64 z1, .int .i64 z2, .int .i64 z3, .int .i64 z4, .int .i64 z5, .int .i64 z6, .bool an, .string as_, .string ad_, .bool cn, .string cs, .string cd, .slice A1 n1 c1, .slice A2 n2 c2, .slice A3 n3 c3]] w (EncPost T ok w) := by
  have hm : (5000 : Nat) ≤ maxLen := by unfold maxLen; omega
  by_cases hl : n1 ≤ 8 ∧ n2 ≤ 4 ∧ n3 ≤ 256
  · refine encode_calls z1 z2 z3 z4 z5 z6 an as_ ad_ cn cs cd A1 n1 c1 A2 n2 c2 A3 n3 c3 legs opts pays w hf.hz ⟨Nat.le_trans hf.ha.1 hm, Nat.le_trans hf.ha.2 hm⟩ ⟨Nat.le_trans hf.hc.1 hm, Nat.le_trans hf.hc.2 hm⟩ hf.e1 hf.e2 hf.e3 hf.r1 hf.o1 hf.r2 (fun p hp => ⟨⟨Nat.le_trans (hf.o2 p hp).1.1 hm, Nat.le_trans (hf.o2 p hp).1.2 hm⟩, (hf.o2 p hp).2⟩) hf.r3 hf.o3 hl.1 hl.2.1 hl.2.2 T hT ok ?_
    rw [hok, hT]
    exact (ok_same _ _ _ _ _ _ (by rw [← hf.e1]; exact hl.1) (by rw [← hf.e2]; exact hl.2.1) (by rw [← hf.e3]; exact hl.2.2)).symm
  · have h3 : 8 < n1 ∨ 4 < n2 ∨ 256 < n3 := by omega
    have ho : ok = false := by rw [hok]; exact ref_many _ _ _ _ _ _ _ (by rw [← hf.e1, ← hf.e2, ← hf.e3]; exact h3)
    refine (encode_many z1 z2 z3 z4 z5 z6 an as_ ad_ cn cs cd A1 n1 c1 A2 n2 c2 A3 n3 c3 w h3 hf.g1 hf.g2 hf.g3).mono ?_
    rintro e w' ⟨rfl, hb⟩
    exact ⟨none, 0, 0, by rw [ho], (fun h => by rw [ho] at h; cases h), hb⟩

theorem encodeW (z1 z2 z3 z4 z5 z6 : Int) (an : Bool) (as_ ad_ : ByteArray) (cn : Bool) (cs cd : ByteArray) (A1 : Option Addr) (n1 c1 : Nat) (A2 : Option Addr) (n2 c2 : Nat) (A3 : Option Addr) (n3 c3 : Nat) (legs : List (Int × Int)) (opts : List (RQ × Int)) (pays : List Pay) (w : World) (hf : RecFit z1 z2 z3 z4 z5 z6 an as_ ad_ cn cs cd A1 n1 c1 A2 n2 c2 A3 n3 c3 legs opts pays w)
    (T : List Nat) (hT : T = encB [z1, z2, z3, z4, z5, z6] ⟨an, as_, ad_⟩ ⟨cn, cs, cd⟩ legs opts pays)
    (ok : Bool) (hok : ok = refOk [z1, z2, z3, z4, z5, z6] ⟨an, as_, ad_⟩ ⟨cn, cs, cd⟩ legs opts pays T) :
    Calls Tryd.prog 18 #[.agg #[.int .i64 z1, .int .i64 z2, .int .i64 z3, .int .i64 z4, .int .i64 z5, .int .i64 z6, .bool an, .string as_, .string ad_, .bool cn, .string cs, .string cd, .slice A1 n1 c1, .slice A2 n2 c2, .slice A3 n3 c3]] w (EPost (recU ok T) (recE ok) w) := by
  refine (codecEncode_of z1 z2 z3 z4 z5 z6 an as_ ad_ cn cs cd A1 n1 c1 A2 n2 c2 A3 n3 c3 T ok w (fun W hW => encodeP z1 z2 z3 z4 z5 z6 an as_ ad_ cn cs cd A1 n1 c1 A2 n2 c2 A3 n3 c3 legs opts pays W (hf.next z1 z2 z3 z4 z5 z6 an as_ ad_ cn cs cd A1 n1 c1 A2 n2 c2 A3 n3 c3 hW) T hT ok hok)).mono ?_
  rintro e w' ⟨A, n, c, rfl, h1, h2, hb⟩
  cases ok
  · obtain ⟨rfl, rfl, rfl⟩ := h2 rfl
    exact ⟨none, 0, rfl, KRd.nil, hb, World.ownsRow_nil _ _ _ _⟩
  · obtain ⟨rfl, hk, ho⟩ := h1 rfl
    exact ⟨A, c, rfl, hk, hb, ho⟩

set_option maxHeartbeats 2000000 in
theorem refEncode_calls (z1 z2 z3 z4 z5 z6 : Int) (an : Bool) (as_ ad_ : ByteArray) (cn : Bool) (cs cd : ByteArray) (A1 : Option Addr) (n1 c1 : Nat) (A2 : Option Addr) (n2 c2 : Nat) (A3 : Option Addr) (n3 c3 : Nat) (legs : List (Int × Int)) (opts : List (RQ × Int)) (pays : List Pay) (w : World) (hf : RecFit z1 z2 z3 z4 z5 z6 an as_ ad_ cn cs cd A1 n1 c1 A2 n2 c2 A3 n3 c3 legs opts pays w)
    (T : List Nat) (hT : T = encB [z1, z2, z3, z4, z5, z6] ⟨an, as_, ad_⟩ ⟨cn, cs, cd⟩ legs opts pays)
    (ok : Bool) (hok : ok = refOk [z1, z2, z3, z4, z5, z6] ⟨an, as_, ad_⟩ ⟨cn, cs, cd⟩ legs opts pays T) :
    Calls Tryd.prog 16 #[.agg #[.int .i64 z1, .int .i64 z2, .int .i64 z3, .int .i64 z4, .int .i64 z5, .int .i64 z6, .bool an, .string as_, .string ad_, .bool cn, .string cs, .string cd, .slice A1 n1 c1, .slice A2 n2 c2, .slice A3 n3 c3]] w (EPost (recU ok T) (recE ok) w) := by
  have HV := Lib.hid (fun W (hW : Below w.heap.size w W) => refValid_calls z1 z2 z3 z4 z5 z6 an as_ ad_ cn cs cd A1 n1 c1 A2 n2 c2 A3 n3 c3 legs opts pays W hf.hz hf.ha hf.hc hf.e1 hf.e2 hf.e3 (hf.r1.next hW) hf.o1 (hf.r2.next hW) hf.o2 (hf.r3.next hW) hf.o3 hf.g1 hf.g2 hf.g3 T hT ok hok)
  have HL : Hid (ok = true → n1 ≤ 8 ∧ n2 ≤ 4 ∧ n3 ≤ 256) := fun h => by
    rw [hok] at h
    by_cases hl : n1 ≤ 8 ∧ n2 ≤ 4 ∧ n3 ≤ 256
    · exact hl
    · rw [ref_many _ _ _ _ _ _ _ (by rw [← hf.e1, ← hf.e2, ← hf.e3]; omega)] at h; cases h
  have HBY := Lib.hid (fun W (hW : Below w.heap.size w W) (l : n1 ≤ 8 ∧ n2 ≤ 4 ∧ n3 ≤ 256) => bytesOf_calls z1 z2 z3 z4 z5 z6 an as_ ad_ cn cs cd A1 n1 c1 A2 n2 c2 A3 n3 c3 legs opts pays W hf.hz hf.ha hf.hc hf.e1 hf.e2 hf.e3 (hf.r1.next hW) hf.o1 (hf.r2.next hW) hf.o2 (hf.r3.next hW) hf.o3 l.1 l.2.1 l.2.2 T hT)
  clear hf hT hok
  go_enter Tryd.func16, Tryd.ntmps16
  go_wp2_with fail
  refine (HV.out _ (bel_alloc _ _)).mono ?_
  rintro e w1 ⟨rfl, hb⟩
  have HB : Hid (Below w.heap.size w w1) := (bel_alloc _ _).trans (hb.mono (by simp))
  have HC : Hid (RecS w.heap.size z1 z2 z3 z4 z5 z6 an as_ ad_ cn cs cd A1 n1 c1 A2 n2 c2 A3 n3 c3 w1) := RecS.below z1 z2 z3 z4 z5 z6 an as_ ad_ cn cs cd A1 n1 c1 A2 n2 c2 A3 n3 c3 (blk_new _ _) hb
  clear hb HV
  cases ok
  · go_wp2_with fail
    go_ret2
    exact ⟨none, 0, rfl, KRd.nil, HB.out, World.ownsRow_nil _ _ _ _⟩
  · obtain ⟨k0, k1, k2, k3, k4, k5, k6, k7, k8, k9, k10, k11, k12, k13, k14⟩ := RecS.cells z1 z2 z3 z4 z5 z6 an as_ ad_ cn cs cd A1 n1 c1 A2 n2 c2 A3 n3 c3 HC.out
    go_wp2_with fail
    refine (HBY.out _ HB.out (HL.out trivial)).mono ?_
    rintro e w2 ⟨A, c, rfl, ho, hb⟩
    have HK : Hid (KRd .u8 w2 w2.heap.size A T ∧ w2.ownsRow w.heap.size 5 1 (.slice A T.length c) T.length (u8s T)) := ⟨KRd.of_own ho, own_le ho HB.out.size⟩
    have HB2 : Hid (Below w.heap.size w w2) := HB.out.trans (hb.mono HB.out.size)
    clear ho hb HBY
    clear k0 k1 k2 k3 k4 k5 k6 k7 k8 k9 k10 k11 k12 k13 k14
    go_wp2_with fail
    go_ret2
    exact ⟨A, c, rfl, HK.out.1, HB2.out, HK.out.2⟩

/-- behind both encodings -/
def SameS (q : Nat) (z1 z2 z3 z4 z5 z6 : Int) (an : Bool) (as_ ad_ : ByteArray) (cn : Bool) (cs cd : ByteArray) (A1 : Option Addr) (n1 c1 : Nat) (A2 : Option Addr) (n2 c2 : Nat) (A3 : Option Addr) (n3 c3 : Nat) (U : List Nat) (A B : Option Addr) (Bk : Nat) (W : World) : Prop := RecS q z1 z2 z3 z4 z5 z6 an as_ ad_ cn cs cd A1 n1 c1 A2 n2 c2 A3 n3 c3 W ∧ KRd .u8 W Bk A U ∧ KRd .u8 W Bk B U ∧ Bk ≤ W.heap.size
theorem SameS.next {q : Nat} (z1 z2 z3 z4 z5 z6 : Int) (an : Bool) (as_ ad_ : ByteArray) (cn : Bool) (cs cd : ByteArray) (A1 : Option Addr) (n1 c1 : Nat) (A2 : Option Addr) (n2 c2 : Nat) (A3 : Option Addr) (n3 c3 : Nat) {U : List Nat} {A B : Option Addr} {Bk : Nat} {W W' : World} (h : SameS q z1 z2 z3 z4 z5 z6 an as_ ad_ cn cs cd A1 n1 c1 A2 n2 c2 A3 n3 c3 U A B Bk W) (hb : Below W.heap.size W W') : SameS q z1 z2 z3 z4 z5 z6 an as_ ad_ cn cs cd A1 n1 c1 A2 n2 c2 A3 n3 c3 U A B Bk W' :=
  ⟨h.1.below z1 z2 z3 z4 z5 z6 an as_ ad_ cn cs cd A1 n1 c1 A2 n2 c2 A3 n3 c3 hb, h.2.1.below (hb.mono h.2.2.2), h.2.2.1.below (hb.mono h.2.2.2), Nat.le_trans h.2.2.2 hb.size⟩

set_option maxHeartbeats 4000000 in
set_option maxRecDepth 100000 in
theorem same_calls (z1 z2 z3 z4 z5 z6 : Int) (an : Bool) (as_ ad_ : ByteArray) (cn : Bool) (cs cd : ByteArray) (A1 : Option Addr) (n1 c1 : Nat) (A2 : Option Addr) (n2 c2 : Nat) (A3 : Option Addr) (n3 c3 : Nat) (legs : List (Int × Int)) (opts : List (RQ × Int)) (pays : List Pay) (w : World) (hf : RecFit z1 z2 z3 z4 z5 z6 an as_ ad_ cn cs cd A1 n1 c1 A2 n2 c2 A3 n3 c3 legs opts pays w) :
    Calls Tryd.prog 14 #[.agg #[.int .i64 z1, .int .i64 z2, .int .i64 z3, .int .i64 z4, .int .i64 z5, .int .i64 z6, .bool an, .string as_, .string ad_, .bool cn, .string cs, .string cd, .slice A1 n1 c1, .slice A2 n2 c2, .slice A3 n3 c3]] w fun e w' => e = .returned (.bool true) ∧ Below w.heap.size w w' := by
  obtain ⟨T, hT⟩ : ∃ T, T = encB [z1, z2, z3, z4, z5, z6] ⟨an, as_, ad_⟩ ⟨cn, cs, cd⟩ legs opts pays := ⟨_, rfl⟩
  obtain ⟨ok, hok⟩ : ∃ ok, ok = refOk [z1, z2, z3, z4, z5, z6] ⟨an, as_, ad_⟩ ⟨cn, cs, cd⟩ legs opts pays T := ⟨_, rfl⟩
  have H1 := Lib.hid (fun W (hW : Below w.heap.size w W) => encodeW z1 z2 z3 z4 z5 z6 an as_ ad_ cn cs cd A1 n1 c1 A2 n2 c2 A3 n3 c3 legs opts pays W (hf.next z1 z2 z3 z4 z5 z6 an as_ ad_ cn cs cd A1 n1 c1 A2 n2 c2 A3 n3 c3 hW) T hT ok hok)
  have H2 := Lib.hid (fun W (hW : Below w.heap.size w W) => refEncode_calls z1 z2 z3 z4 z5 z6 an as_ ad_ cn cs cd A1 n1 c1 A2 n2 c2 A3 n3 c3 legs opts pays W (hf.next z1 z2 z3 z4 z5 z6 an as_ ad_ cn cs cd A1 n1 c1 A2 n2 c2 A3 n3 c3 hW) T hT ok hok)
  have H3 := Lib.hid (fun W (hW : Below w.heap.size w W) => codecValid_of z1 z2 z3 z4 z5 z6 an as_ ad_ cn cs cd A1 n1 c1 A2 n2 c2 A3 n3 c3 T ok W (fun W2 hW2 => encodeP z1 z2 z3 z4 z5 z6 an as_ ad_ cn cs cd A1 n1 c1 A2 n2 c2 A3 n3 c3 legs opts pays W2 ((hf.next z1 z2 z3 z4 z5 z6 an as_ ad_ cn cs cd A1 n1 c1 A2 n2 c2 A3 n3 c3 hW).next z1 z2 z3 z4 z5 z6 an as_ ad_ cn cs cd A1 n1 c1 A2 n2 c2 A3 n3 c3 hW2) T hT ok hok))
  have H4 := Lib.hid (fun W (hW : Below w.heap.size w W) => refValid_calls z1 z2 z3 z4 z5 z6 an as_ ad_ cn cs cd A1 n1 c1 A2 n2 c2 A3 n3 c3 legs opts pays W hf.hz hf.ha hf.hc hf.e1 hf.e2 hf.e3 (hf.r1.next hW) hf.o1 (hf.r2.next hW) hf.o2 (hf.r3.next hW) hf.o3 hf.g1 hf.g2 hf.g3 T hT ok hok)
  obtain ⟨U, hU⟩ : ∃ U, U = recU ok T := ⟨_, rfl⟩
  have HBY : Hid (Byt U) := by
    rw [hU, recU]
    show Byt _
    split
    · rw [hT]; exact encB_byt _ _ _ _ _ _
    · intro x hx; cases hx
  obtain ⟨er, her⟩ : ∃ er, er = recE ok := ⟨_, rfl⟩
  rw [← hU, ← her] at H1 H2
  clear hf hT hok hU her
  go_enter Tryd.func14, Tryd.ntmps14
  go_wp2_with fail
  refine (H1.out _ (bel_alloc _ _)).mono ?_
  rintro e w1 ⟨A, c, rfl, hk, hb, _⟩
  have HB1 : Hid (Below w.heap.size w w1) := (bel_alloc _ _).trans (hb.mono (by simp))
  have HC1 : Hid (RecS w.heap.size z1 z2 z3 z4 z5 z6 an as_ ad_ cn cs cd A1 n1 c1 A2 n2 c2 A3 n3 c3 w1) := RecS.below z1 z2 z3 z4 z5 z6 an as_ ad_ cn cs cd A1 n1 c1 A2 n2 c2 A3 n3 c3 (blk_new _ _) hb
  have HK1 := Lib.hid hk
  clear hb hk H1
  obtain ⟨k0, k1, k2, k3, k4, k5, k6, k7, k8, k9, k10, k11, k12, k13, k14⟩ := RecS.cells z1 z2 z3 z4 z5 z6 an as_ ad_ cn cs cd A1 n1 c1 A2 n2 c2 A3 n3 c3 HC1.out
  go_wp2_with fail
  clear k0 k1 k2 k3 k4 k5 k6 k7 k8 k9 k10 k11 k12 k13 k14
  refine (H2.out _ HB1.out).mono ?_
  rintro e w2 ⟨B, d, rfl, hk, hb, _⟩
  have HB2 : Hid (Below w.heap.size w w2) := HB1.out.trans (hb.mono HB1.out.size)
  have HS2 : Hid (SameS w.heap.size z1 z2 z3 z4 z5 z6 an as_ ad_ cn cs cd A1 n1 c1 A2 n2 c2 A3 n3 c3 U A B w2.heap.size w2) := ⟨HC1.out.below z1 z2 z3 z4 z5 z6 an as_ ad_ cn cs cd A1 n1 c1 A2 n2 c2 A3 n3 c3 hb, HK1.out.next hb, hk, Nat.le_refl _⟩
  clear hb hk H2 HC1 HK1 HB1
  go_wp2_with fail
  obtain ⟨W0, hW0⟩ : ∃ W0, W0 = w2.drew := ⟨_, rfl⟩
  have hS : SameS w.heap.size z1 z2 z3 z4 z5 z6 an as_ ad_ cn cs cd A1 n1 c1 A2 n2 c2 A3 n3 c3 U A B w2.heap.size W0 := by rw [hW0]; exact HS2.out
  have HB_ : Hid (Below w.heap.size w W0) := by rw [hW0]; exact HB2.out.drew
  refine wp_region_held_drew (S := SameS w.heap.size z1 z2 z3 z4 z5 z6 an as_ ad_ cn cs cd A1 n1 c1 A2 n2 c2 A3 n3 c3 U A B w2.heap.size) (by kernel_rfl) (by rw [← hW0]; exact hS) ?_
  rw [← hW0]
  intro _
  clear hW0 HS2 HB2
  refine wpAnyH_take (i := 0) (v := .agg #[.int .i64 z1, .int .i64 z2, .int .i64 z3, .int .i64 z4, .int .i64 z5, .int .i64 z6, .bool an, .string as_, .string ad_, .bool cn, .string cs, .string cd, .slice A1 n1 c1, .slice A2 n2 c2, .slice A3 n3 c3]) rfl (by kernel_rfl) (by kernel_rfl) (by kernel_rfl) (fun _ _ _ h => h) (Or.inl ⟨by kernel_rfl, (by intro w' hw'; obtain ⟨hr_, _, _, _⟩ := hw'; obtain ⟨k0, k1, k2, k3, k4, k5, k6, k7, k8, k9, k10, k11, k12, k13, k14⟩ := RecS.cells z1 z2 z3 z4 z5 z6 an as_ ad_ cn cs cd A1 n1 c1 A2 n2 c2 A3 n3 c3 hr_; go_simp)⟩) hS ?_
  go_simp
  refine wpAnyH_take (i := 2) (v := .agg #[.int .i64 z1, .int .i64 z2, .int .i64 z3, .int .i64 z4, .int .i64 z5, .int .i64 z6, .bool an, .string as_, .string ad_, .bool cn, .string cs, .string cd, .slice A1 n1 c1, .slice A2 n2 c2, .slice A3 n3 c3]) rfl (by kernel_rfl) (by kernel_rfl) (by kernel_rfl) (fun _ _ _ h => h) (Or.inl ⟨by kernel_rfl, (by intro w' hw'; obtain ⟨hr_, _, _, _⟩ := hw'; obtain ⟨k0, k1, k2, k3, k4, k5, k6, k7, k8, k9, k10, k11, k12, k13, k14⟩ := RecS.cells z1 z2 z3 z4 z5 z6 an as_ ad_ cn cs cd A1 n1 c1 A2 n2 c2 A3 n3 c3 hr_; go_simp)⟩) hS ?_
  go_simp
  refine wpAnyH_ready (rs := [1]) (by kernel_rfl) (by simp) ?_
  refine AllReadyH.cons rfl (fun K hK => ?_) AllReadyH.nil
  go_simp
  refine (H3.out _ HB_.out).mono ?_
  rintro e w3 ⟨rfl, hb⟩
  have hS3 := hS.next z1 z2 z3 z4 z5 z6 an as_ ad_ cn cs cd A1 n1 c1 A2 n2 c2 A3 n3 c3 hb
  have HB3 : Hid (Below w.heap.size w w3) := HB_.out.trans (hb.mono HB_.out.size)
  clear hb HB_ H3
  refine hK.out _ _ hS3 (fun _ => ?_)
  clear hK K
  refine wpAnyH_ready (rs := [3]) (by kernel_rfl) (by simp) ?_
  refine AllReadyH.cons rfl (fun K hK => ?_) AllReadyH.nil
  go_simp
  refine (H4.out _ HB3.out).mono ?_
  rintro e w4 ⟨rfl, hb⟩
  have hS4 := hS3.next z1 z2 z3 z4 z5 z6 an as_ ad_ cn cs cd A1 n1 c1 A2 n2 c2 A3 n3 c3 hb
  have HB4 : Hid (Below w.heap.size w w4) := HB3.out.trans (hb.mono HB3.out.size)
  clear hb HB3 H4
  refine hK.out _ _ hS4 (fun _ => ?_)
  clear hK K
  refine wpAnyH_take (i := 4) (v := .bool true) rfl (by kernel_rfl) (by kernel_rfl) (by kernel_rfl) (fun _ _ _ h => h) (Or.inl ⟨by kernel_rfl, (by intro w' _; go_simp)⟩) hS4 ?_
  go_simp
  refine wpAnyH_take (i := 5) (v := .bool true) rfl (by kernel_rfl) (by kernel_rfl) (by kernel_rfl) (fun _ _ _ h => h) (Or.inl ⟨by kernel_rfl, (by intro w' _; go_simp)⟩) hS4 ?_
  go_simp
  refine wpAnyH_take (i := 6) rfl (by kernel_rfl) (by kernel_rfl) (by kernel_rfl) (fun _ _ _ h => h) (Or.inl ⟨by kernel_rfl, (by intro w' _; go_simp; with_reducible rfl)⟩) hS4 ?_
  go_simp
  refine wpAnyH_take (i := 7) (v := .string (nstr U)) rfl (by kernel_rfl) (by kernel_rfl) (by kernel_rfl) (fun _ _ _ h => h) (Or.inl ⟨by kernel_rfl, (by intro w' hw'; have hcv := conv_bytes (P := Tryd.prog) w' w2.heap.size 22 9 5 A U c Tryd.underlying22 Tryd.underlying5 Tryd.underlying9 hw'.2.1 HBY.out; go_simp)⟩) hS4 ?_
  go_simp
  refine wpAnyH_take (i := 8) rfl (by kernel_rfl) (by kernel_rfl) (by kernel_rfl) (fun _ _ _ h => h) (Or.inl ⟨by kernel_rfl, (by intro w' _; go_simp; with_reducible rfl)⟩) hS4 ?_
  go_simp
  refine wpAnyH_take (i := 9) (v := .string (nstr U)) rfl (by kernel_rfl) (by kernel_rfl) (by kernel_rfl) (fun _ _ _ h => h) (Or.inl ⟨by kernel_rfl, (by intro w' hw'; have hcv := conv_bytes (P := Tryd.prog) w' w2.heap.size 22 9 5 B U d Tryd.underlying22 Tryd.underlying5 Tryd.underlying9 hw'.2.2.1 HBY.out; go_simp)⟩) hS4 ?_
  go_simp
  refine wpAnyH_take (i := 10) (v := .bool true) rfl (by kernel_rfl) (by kernel_rfl) (by kernel_rfl) (fun _ _ _ h => h) (Or.inl ⟨by kernel_rfl, (by intro w' _; go_simp)⟩) hS4 ?_
  go_simp
  refine wpAnyH_take (i := 11) (v := .bool true) rfl (by kernel_rfl) (by kernel_rfl) (by kernel_rfl) (fun _ _ _ h => h) (Or.inl ⟨by kernel_rfl, (by intro w' _; go_simp)⟩) hS4 ?_
  go_simp
  refine wpAnyH_take (i := 12) (v := .bool true) rfl (by kernel_rfl) (by kernel_rfl) (by kernel_rfl) (fun _ _ _ h => h) (Or.inl ⟨by kernel_rfl, (by intro w' _; go_simp)⟩) hS4 ?_
  go_simp
  refine wpAnyH_take (i := 13) rfl (by kernel_rfl) (by kernel_rfl) (by kernel_rfl) (fun _ _ _ h => h) (Or.inl ⟨by kernel_rfl, (by intro w' _; go_simp; with_reducible rfl)⟩) hS4 ?_
  go_simp
  refine wpAnyH_take (i := 14) rfl (by kernel_rfl) (by kernel_rfl) (by kernel_rfl) (fun _ _ _ h => h) (Or.inl ⟨by kernel_rfl, (by intro w' _; go_simp; with_reducible rfl)⟩) hS4 ?_
  go_simp
  refine wpAnyH_take (i := 15) (v := .bool true) rfl (by kernel_rfl) (by kernel_rfl) (by kernel_rfl) (fun _ _ _ h => h) (Or.inl ⟨by kernel_rfl, (by intro w' _; go_simp)⟩) hS4 ?_
  go_simp
  refine wpAnyH_take (i := 16) (v := .bool true) rfl (by kernel_rfl) (by kernel_rfl) (by kernel_rfl) (fun _ _ _ h => h) (Or.inl ⟨by kernel_rfl, (by intro w' _; go_simp)⟩) hS4 ?_
  go_simp
  refine wpAnyH_take (i := 17) rfl (by kernel_rfl) (by kernel_rfl) (by kernel_rfl) (fun _ _ _ h => h) (Or.inl ⟨by kernel_rfl, (by intro w' _; go_simp; with_reducible rfl)⟩) hS4 ?_
  go_simp
  refine wpAnyH_done (by kernel_rfl) ?_ _
  go_wp2_with fail
  go_ret
  exact ⟨rfl, HB4.out⟩

end Go.Proofs.YtcljkdjmmolfoaaDoor

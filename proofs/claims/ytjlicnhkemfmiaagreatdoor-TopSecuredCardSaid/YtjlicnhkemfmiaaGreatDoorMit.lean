/- insolvencylaw0.Amounts, Items. -/
import Derived.Test.YtjlicnhkemfmiaaGreatDoorMck
import Derived.Test.YtjlicnhkemfmiaaGreatDoorM18
set_option linter.unusedVariables false
set_option linter.unusedSimpArgs false
namespace Go.Proofs.YtjlicnhkemfmiaaGreatDoor
open Go.RowKit

def u16W (x : Int) : List Value := [.int .u16 x]
structure W6 where
  a : Int
  b : Int
  c : Int
  d : Int
  e : Int
  f : Int
def u16V6 (p : W6) : List Value := [.int .u16 p.a, .int .u16 p.b, .int .u16 p.c, .int .u16 p.d, .int .u16 p.e, .int .u16 p.f]
def u16b (x : Int) : Prop := 0 ≤ x ∧ x ≤ 65535
def u16ok6 (p : W6) : Prop := u16b p.a ∧ u16b p.b ∧ u16b p.c ∧ u16b p.d ∧ u16b p.e ∧ u16b p.f
def AmsPost (w : World) (e : Ending) (w' : World) : Prop := ∃ (A : Option Addr) (c : Nat) (qs : List Rat), e = .returned (.slice A qs.length c) ∧ Rd w' w'.heap.size 3 A qs.length (qs.flatMap rtV) ∧ qs.length ≤ 6 ∧ (∀ q ∈ qs, SzN q) ∧ Below w.heap.size w w'
set_option maxHeartbeats 8000000 in
set_option maxRecDepth 100000 in
theorem amounts_calls (A : Option Addr) (n c : Nat) (l : List Int) (w : World) (hn : n = l.length) (hr : Rd w w.heap.size 1 A l.length (l.flatMap u16W)) (ho : ∀ a ∈ l, u16b a) (hg : n ≤ maxLen) :
    Calls Tryz.prog 5 #[.slice A n c, .int .i64 6] w (AmsPost w) := by
  have HRL := Lib.hid (And.intro hn (And.intro hr ho))
  have hg2 : n ≤ maxLen := hg
  unfold maxLen at hg2
  obtain ⟨iq, hi, hz0, hz1, hz2⟩ := info_parts Tryz.info_ratW
  have HIQ := Lib.hid (And.intro hi (And.intro hz0 (And.intro hz1 hz2)))
  have HAM := Lib.hid (fun (x : Nat) (hx : x ≤ 65535) W => amountN_calls x W hx)
  unfold AmtNN at HAM
  clear hn hr ho hg hi hz0 hz1 hz2
  go_enter Tryz.func5, Tryz.ntmps5
  go_wp2_with fail
  go_loopw [5, 6] (fun tw j wr => ∃ (k : Nat) (A' : Option Addr) (c' : Nat) (qs : List Rat), k ≤ n ∧ k ≤ 6 ∧ tw = .slice A' qs.length c' ∧ j = .int .i64 (k : Int) ∧ Hid (qs.length = k ∧ ∀ q ∈ qs, SzN q) ∧ Hid (World.ownsRow wr w.heap.size 33 3 (.slice A' qs.length c') qs.length (qs.flatMap rtV)) ∧ Hid (Below w.heap.size w wr)) (fun _ j _ => n - (intOf j).toNat)
  case atStart => exact ⟨0, none, 0, [], Nat.zero_le _, by omega, rfl, rfl, ⟨rfl, fun q h => by cases h⟩, World.ownsRow_nil _ _ _ _, Below.refl _ _⟩
  case round =>
    obtain ⟨k, A', c', qs, hk, hk6, rfl, rfl, HQ, HO, HB⟩ := hrel
    rename World => wo
    by_cases hlt : k < n ∧ k < 6
    · have hlt2 : (k : Int) < (n : Int) := by omega
      have hlt3 : (k : Int) < 6 := by omega
      obtain ⟨x, hx⟩ := getElem?_of_lt (l := l) (k := k) (by rw [← HRL.out.1]; exact hlt.1)
      have hxb := HRL.out.2.2 x (List.mem_of_getElem? hx)
      obtain ⟨b, off, hA, _, hc⟩ := Rd.at_ (enc := u16W) (fun _ => rfl) (HRL.out.2.1.next HB.out) hx
      subst hA
      have p0 := hc 0 _ rfl
      rw [Nat.add_zero, Nat.mul_one] at p0
      unfold u16b at hxb
      obtain ⟨y, rfl⟩ : ∃ y : Nat, x = (y : Int) := ⟨x.toNat, by omega⟩
      have HA1 := Lib.hid (HAM.out y (by omega))
      clear hc hx hxb
      go_wp2_with fail
      clear p0
      refine (HA1.out _).mono ?_
      rintro e x1 ⟨q, rfl, hqs, hb⟩
      have HB1 : Hid (Below w.heap.size w x1) := HB.out.trans (hb.mono HB.out.size)
      have HO1 : Hid (World.ownsRow x1 w.heap.size 33 3 (.slice A' qs.length c') qs.length (qs.flatMap rtV)) := own_belowQ HO.out hb
      have HQS := Lib.hid hqs
      clear hb hqs HB HO HA1
      unfold ratV
      have hql : qs.length ≤ 6 := by rw [HQ.out.1]; omega
      go_wp2_with (at_builtin; refine wpList_append_own _ rfl (.tmp 18) (.tmp 24) 25 rfl w.heap.size 33 iq _ 3 40 Tryz.underlying25 HIQ.out.1 HIQ.out.2.1 HIQ.out.2.2.1 HIQ.out.2.2.2 rfl (by decide) _ qs.length (qs.flatMap rtV) rfl (HO1.out.alloc _) ⟨x1.heap.size, 0, none⟩ 1 1 (rtV q) rfl rfl (World.news_of_block (blk_new x1 (.cells #[.bool (rneg q), .string (rnum q), .string (rden q)] 33))) (by simp [Value.oneCell', rtV]) (by simp only [maxLen]; omega) (by omega) (by have := HB1.out.size; simp; omega) ?_)
      intro v' w' hown hgr hnil
      obtain ⟨g', cap, rfl, _, _⟩ := hown.form (by omega)
      have HO2 : Hid (w'.ownsRow w.heap.size 33 3 (.slice (some ⟨g', 0, none⟩) (qs ++ [q]).length cap) (qs ++ [q]).length ((qs ++ [q]).flatMap rtV)) := by rw [List.length_append, List.flatMap_append]; exact hown
      have HB2 : Hid (Below w.heap.size w w') := (HB1.out.alloc HB1.out.size _).grown hgr (by have := HB1.out.size; simp; omega) (fun j hj => (HO1.out.lt j hj).1)
      have HQ2 : Hid ((qs ++ [q]).length = k + 1 ∧ ∀ x ∈ qs ++ [q], SzN x) := ⟨by rw [List.length_append, HQ.out.1]; rfl, fun x hx => by
        rcases List.mem_append.1 hx with hx | hx
        · exact HQ.out.2 x hx
        · rw [List.mem_singleton.1 hx]; exact HQS.out⟩
      have hl2 : qs.length + 1 = (qs ++ [q]).length := by simp
      clear hown hgr hnil HO1 HB1
      go_wp2_with fail
      go_roundw
      case measure => simp [intOf] <;> omega
      case rel => exact ⟨k + 1, _, _, qs ++ [q], by omega, by omega, by rw [← hl2], by go_num, HQ2, HO2, HB2⟩
    · have hge : ¬ ((k : Int) < (n : Int) ∧ (k : Int) < 6) := by omega
      by_cases hkn : k < n
      · have g1 : decide ((k : Int) < (n : Int)) = true := decide_eq_true (by omega)
        have g2 : decide ((k : Int) < 6) = false := decide_eq_false (by omega)
        go_wp2_with fail
        go_ret
        exact ⟨_, _, qs, rfl, Rd.of_own HO.out, by rw [HQ.out.1]; omega, HQ.out.2, HB.out⟩
      · have g1 : decide ((k : Int) < (n : Int)) = false := decide_eq_false (by omega)
        go_wp2_with fail
        go_ret
        exact ⟨_, _, qs, rfl, Rd.of_own HO.out, by rw [HQ.out.1]; omega, HQ.out.2, HB.out⟩
theorem Tryz.info_item : (Tryz.prog.info? 46).map (fun i => (i.zero, i.size, i.bytes)) = some (some (.agg #[.bool false, .string ⟨#[]⟩, .string ⟨#[]⟩, .bool false, .string ⟨#[]⟩, .string ⟨#[]⟩, .slice none 0 0]), 7, 104) := by kernel_rfl
theorem Tryz.info_charge : (Tryz.prog.info? 84).map (fun i => (i.zero, i.size, i.bytes)) = some (some (.agg #[.int .i64 0, .int .i64 0, .bool false, .bool false, .string ⟨#[]⟩, .string ⟨#[]⟩]), 6, 64) := by kernel_rfl
theorem sevenf_of {w2 : World} {g : Nat} {cur : Array Value} {T : TypeId} (hg : w2.heap[g]? = some (.cells cur T (0, 0))) :
    w2.frozen? ⟨g, 0, none⟩ = false ∧ w2.frozen? ⟨g, 1, none⟩ = false ∧ w2.frozen? ⟨g, 2, none⟩ = false ∧ w2.frozen? ⟨g, 3, none⟩ = false ∧ w2.frozen? ⟨g, 4, none⟩ = false ∧ w2.frozen? ⟨g, 5, none⟩ = false ∧ w2.frozen? ⟨g, 6, none⟩ = false ∧ g < w2.heap.size :=
  ⟨frozen_of_row w2 _ 0 _ _ hg, frozen_of_row w2 _ 1 _ _ hg, frozen_of_row w2 _ 2 _ _ hg, frozen_of_row w2 _ 3 _ _ hg, frozen_of_row w2 _ 4 _ _ hg, frozen_of_row w2 _ 5 _ _ hg, frozen_of_row w2 _ 6 _ _ hg, blk_lt hg⟩
def ItR (wo : World) (gx : Nat) (x0 x1 x2 x3 x4 x5 : Nat) (s : Value) (W : World) : Prop :=
  ∃ gi pr co, s = .pointer (some ⟨gi, 0, none⟩) ∧ SzN pr ∧ SzN co ∧ Bk gi (.cells #[.bool (rneg pr), .string (rnum pr), .string (rden pr), .bool (rneg co), .string (rnum co), .string (rden co), .slice none 0 0] 46) W ∧ Bk gx (.cells #[.int .u16 (x0 : Int), .int .u16 (x1 : Int), .int .u16 (x2 : Int), .int .u16 (x3 : Int), .int .u16 (x4 : Int), .int .u16 (x5 : Int)] 81) W ∧ Below wo.heap.size wo W ∧ gx < gi ∧ wo.heap.size ≤ gi
theorem x_at {gx x0 x1 x2 x3 x4 x5 k : Nat} (hk : k < 4) (h2 : x2 ≤ 65535) (h3 : x3 ≤ 65535) (h4 : x4 ≤ 65535) (h5 : x5 ≤ 65535) : ∃ y : Nat, y ≤ 65535 ∧ ∀ W : World, Bk gx (.cells #[.int .u16 (x0 : Int), .int .u16 (x1 : Int), .int .u16 (x2 : Int), .int .u16 (x3 : Int), .int .u16 (x4 : Int), .int .u16 (x5 : Int)] 81) W → W.cell? ⟨gx, 2 + k, none⟩ = some (.int .u16 (y : Int)) := by
  rcases (by omega : k = 0 ∨ k = 1 ∨ k = 2 ∨ k = 3) with rfl | rfl | rfl | rfl
  · exact ⟨x2, h2, fun W h => by rw [cell_of_row W gx _ _ _ (0, 0) h]; rfl⟩
  · exact ⟨x3, h3, fun W h => by rw [cell_of_row W gx _ _ _ (0, 0) h]; rfl⟩
  · exact ⟨x4, h4, fun W h => by rw [cell_of_row W gx _ _ _ (0, 0) h]; rfl⟩
  · exact ⟨x5, h5, fun W h => by rw [cell_of_row W gx _ _ _ (0, 0) h]; rfl⟩
def ItsPost (m : Nat) (w : World) (e : Ending) (w' : World) : Prop := ∃ (A : Option Addr) (c : Nat) (l : List It), e = .returned (.slice A l.length c) ∧ ItemsM A l w' ∧ l.length ≤ 4 ∧ (∀ x ∈ l, ItOk m x) ∧ Below w.heap.size w w'
theorem own_neQ {B n S : Nat} {v : Value} {xs : List Value} {W W' : World} {T : TypeId} (h : W.ownsRow B T S v n xs) {g : Nat} (ho : Only g W W') (hne : ∀ j, v.ownBlock = some j → j ≠ g) : W'.ownsRow B T S v n xs := by
  refine ⟨h.1, ?_⟩
  rcases h.2 with hn | ⟨q, cap, cur2, e1, hb2, hgg, rest⟩
  · exact .inl hn
  · exact .inr ⟨q, cap, cur2, e1, hb2, blk_onlyW hgg ho (hne q (by rw [e1]; rfl)), rest⟩
/-- a row of a type, as it is read: it stays where rows of another type are written -/
def RowT (T : TypeId) (S : Nat) (A : Option Addr) (n : Nat) (xs : List Value) (W : World) : Prop := ∃ c, W.ownsRow 0 T S (.slice A n c) n xs
theorem RowT.next {T : TypeId} {S n : Nat} {A : Option Addr} {xs : List Value} {W W' : World} (h : RowT T S A n xs W) (hb : Below W.heap.size W W') : RowT T S A n xs W' := by
  obtain ⟨c, h⟩ := h
  exact ⟨c, own_belowQ h hb⟩
theorem RowT.grown {T E : TypeId} {S n : Nat} {A : Option Addr} {xs : List Value} {W W' : World} (h : RowT T S A n xs W) {B S2 n2 : Nat} {v : Value} {ys : List Value} (ho : W.ownsRow B E S2 v n2 ys) (hT : T ≠ E) (hgr : W.grownBy W' v.ownBlock) : RowT T S A n xs W' := by
  obtain ⟨c, h⟩ := h
  refine ⟨c, h.1, ?_⟩
  rcases h.2 with hn | ⟨q, cap, cur2, e1, hb2, hgg, rest⟩
  · exact .inl hn
  · exact .inr ⟨q, cap, cur2, e1, hb2, blk_grownT ho hgg hT hgr, rest⟩
theorem RowT.of_own {T : TypeId} {S n B c : Nat} {A : Option Addr} {xs : List Value} {W : World} (h : W.ownsRow B T S (.slice A n c) n xs) : RowT T S A n xs W := by
  refine ⟨c, h.1, ?_⟩
  rcases h.2 with hn | ⟨q, cap, cur2, e1, hb2, hgg, rest⟩
  · exact .inl hn
  · exact .inr ⟨q, cap, cur2, e1, Nat.zero_le _, hgg, rest⟩
theorem RowT.rd {T : TypeId} {S n : Nat} {A : Option Addr} {xs : List Value} {W : World} (h : RowT T S A n xs W) : Rd W W.heap.size S A n xs := by
  obtain ⟨c, h⟩ := h
  exact Rd.of_own h
set_option maxHeartbeats 8000000 in
set_option maxRecDepth 100000 in
theorem items_calls (A : Option Addr) (n c m : Nat) (l : List W6) (w : World) (hn : n = l.length) (hr : Rd w w.heap.size 6 A l.length (l.flatMap u16V6)) (ho : ∀ a ∈ l, u16ok6 a) (hg : n ≤ maxLen) (hm : m ≤ 100) :
    Calls Tryz.prog 6 #[.slice A n c, .int .i64 (m : Int)] w (ItsPost m w) := by
  have HRL := Lib.hid (And.intro hn (And.intro hr ho))
  have hg2 : n ≤ maxLen := hg
  unfold maxLen at hg2
  have hm100 : m ≤ 100 := hm
  obtain ⟨iq, hi, hz0, hz1, hz2⟩ := info_parts Tryz.info_item
  have HIQ := Lib.hid (And.intro hi (And.intro hz0 (And.intro hz1 hz2)))
  clear hi hz0 hz1 hz2
  obtain ⟨ic, hi, hz0, hz1, hz2⟩ := info_parts Tryz.info_charge
  have HIC := Lib.hid (And.intro hi (And.intro hz0 (And.intro hz1 hz2)))
  have HAM := Lib.hid (fun (x : Nat) (hx : x ≤ 65535) W => amountN_calls x W hx)
  unfold AmtNN at HAM
  have HWH := Lib.hid (fun (x : Nat) (hx : x < 256) W => whole_calls (x : Int) W (by omega) (by omega))
  clear hn hr ho hg hi hz0 hz1 hz2 hm
  go_enter Tryz.func6, Tryz.ntmps6
  go_wp2_with fail
  go_loopw [5, 6] (fun tw j wr => ∃ (k : Nat) (A' : Option Addr) (c' : Nat) (its : List It), k ≤ n ∧ k ≤ 4 ∧ tw = .slice A' its.length c' ∧ j = .int .i64 (k : Int) ∧ Hid (its.length = k ∧ ∀ x ∈ its, ItOk m x) ∧ Hid (World.ownsRow wr w.heap.size 46 7 (.slice A' its.length c') its.length (its.flatMap itV)) ∧ Hid (∀ x ∈ its, RowT 84 6 x.A x.chs.length (x.chs.flatMap chV) wr) ∧ Hid (Below w.heap.size w wr)) (fun _ j _ => n - (intOf j).toNat)
  case atStart => exact ⟨0, none, 0, [], Nat.zero_le _, by omega, rfl, rfl, ⟨rfl, fun q h => by cases h⟩, World.ownsRow_nil _ _ _ _, (fun x h => by cases h), Below.refl _ _⟩
  case round =>
    obtain ⟨k, A', c', its, hk, hk4, rfl, rfl, HIT, HO, HC, HB⟩ := hrel
    rename World => wo
    by_cases hlt : k < n ∧ k < 4
    · have hlt2 : (k : Int) < (n : Int) := by omega
      have hlt3 : (k : Int) < 4 := by omega
      obtain ⟨x, hx⟩ := getElem?_of_lt (l := l) (k := k) (by rw [← HRL.out.1]; exact hlt.1)
      have hxb := HRL.out.2.2 x (List.mem_of_getElem? hx)
      obtain ⟨b, off, hA, _, hc⟩ := Rd.at_ (enc := u16V6) (fun _ => rfl) (HRL.out.2.1.next HB.out) hx
      subst hA
      have p0 := hc 0 _ rfl
      have p1 := hc 1 _ rfl
      have p2 := hc 2 _ rfl
      have p3 := hc 3 _ rfl
      have p4 := hc 4 _ rfl
      have p5 := hc 5 _ rfl
      rw [Nat.add_zero] at p0
      rw [← Nat.add_assoc] at p1 p2 p3 p4 p5
      obtain ⟨x0, x1, x2, x3, x4, x5⟩ := x
      unfold u16ok6 u16b at hxb
      dsimp only at p0 p1 p2 p3 p4 p5 hxb
      obtain ⟨x0, rfl⟩ : ∃ a : Nat, x0 = (a : Int) := ⟨x0.toNat, by omega⟩
      obtain ⟨x1, rfl⟩ : ∃ a : Nat, x1 = (a : Int) := ⟨x1.toNat, by omega⟩
      obtain ⟨x2, rfl⟩ : ∃ a : Nat, x2 = (a : Int) := ⟨x2.toNat, by omega⟩
      obtain ⟨x3, rfl⟩ : ∃ a : Nat, x3 = (a : Int) := ⟨x3.toNat, by omega⟩
      obtain ⟨x4, rfl⟩ : ∃ a : Nat, x4 = (a : Int) := ⟨x4.toNat, by omega⟩
      obtain ⟨x5, rfl⟩ : ∃ a : Nat, x5 = (a : Int) := ⟨x5.toNat, by omega⟩
      have hb0 : x0 ≤ 65535 := by omega
      have hb1 : x1 ≤ 65535 := by omega
      have hb2 : x2 ≤ 65535 := by omega
      have hb3 : x3 ≤ 65535 := by omega
      have hb4 : x4 ≤ 65535 := by omega
      have hb5 : x5 ≤ 65535 := by omega
      clear hc hx hxb
      go_upto_region 6 with fail
      clear p0 p1 p2 p3 p4 p5
      obtain ⟨gx, hgx⟩ : ∃ g, g = wo.heap.size := ⟨_, rfl⟩
      obtain ⟨wx, hwx⟩ : ∃ W, W = wo.alloc (.cells #[.int .u16 (x0 : Int), .int .u16 (x1 : Int), .int .u16 (x2 : Int), .int .u16 (x3 : Int), .int .u16 (x4 : Int), .int .u16 (x5 : Int)] 81) := ⟨_, rfl⟩
      have HX : Hid (Bk gx (.cells #[.int .u16 (x0 : Int), .int .u16 (x1 : Int), .int .u16 (x2 : Int), .int .u16 (x3 : Int), .int .u16 (x4 : Int), .int .u16 (x5 : Int)] 81) wx) := by rw [hwx, hgx]; exact blk_new _ _
      have HBx : Hid (Below w.heap.size w wx) := by rw [hwx]; exact HB.out.alloc HB.out.size _
      have HOx : Hid (World.ownsRow wx w.heap.size 46 7 (.slice A' its.length c') its.length (its.flatMap itV)) := by rw [hwx]; exact HO.out.alloc _
      have HCx : Hid (∀ x ∈ its, RowT 84 6 x.A x.chs.length (x.chs.flatMap chV) wx) := by rw [hwx]; exact fun x hx => (HC.out x hx).next (bel_alloc _ _)
      rw [← hwx]
      (try rw [← hgx])
      clear hwx hgx HB HO HC
      obtain ⟨r1, hr1, hr1b⟩ : ∃ a : Nat, (x1 : Int).tmod 4 = (a : Int) ∧ a < 256 := ⟨x1 % 4, by rw [Int.tmod_eq_emod_of_nonneg (by omega)]; omega, by omega⟩
      have hr1w : IntKind.i64.wrap (r1 : Int) = (r1 : Int) := IntWalk.i64_in _ (by omega)
      have hr1u : IntKind.u16.wrap (r1 : Int) = (r1 : Int) := IntWalk.u16_in _ (by omega)
      have HA1 := Lib.hid (HAM.out x0 hb0)
      have HW1' := HWH.out r1 hr1b
      obtain ⟨co, hco⟩ : ∃ q : Rat, q = ((r1 : Int) : Rat) := ⟨_, rfl⟩
      rw [← hco] at HW1'
      have HCO : Hid (SzN co) := by rw [hco]; exact szn_int (by omega) (by omega)
      unfold ratV at HW1'
      have HW1 := Lib.hid HW1'
      clear HW1' hco hr1b
      go_cut [8] from 26 to 34 (fun s8 wy => ItR wx gx x0 x1 x2 x3 x4 x5 s8 wy)
      case first =>
        have HB0x : Hid (Below wx.heap.size wx wx) := Below.refl _ _
        obtain ⟨v1, hw_v1⟩ : ∃ W, W = wx.drew := ⟨_, rfl⟩
        have HX1 : Hid (Bk gx (.cells #[.int .u16 (x0 : Int), .int .u16 (x1 : Int), .int .u16 (x2 : Int), .int .u16 (x3 : Int), .int .u16 (x4 : Int), .int .u16 (x5 : Int)] 81) v1) := by rw [hw_v1]; exact HX.out
        have HB1 : Hid (Below wx.heap.size wx v1) := by rw [hw_v1]; exact HB0x.out.drew
        have hS1 : (Bk gx (.cells #[.int .u16 (x0 : Int), .int .u16 (x1 : Int), .int .u16 (x2 : Int), .int .u16 (x3 : Int), .int .u16 (x4 : Int), .int .u16 (x5 : Int)] 81)) v1 := HX1.out
        refine wp_region_held_drew (S := (Bk gx (.cells #[.int .u16 (x0 : Int), .int .u16 (x1 : Int), .int .u16 (x2 : Int), .int .u16 (x3 : Int), .int .u16 (x4 : Int), .int .u16 (x5 : Int)] 81))) (by kernel_rfl) (by rw [← hw_v1]; exact hS1) ?_
        rw [← hw_v1]
        intro _
        clear hw_v1 HX HB0x
        refine wpAnyH_take (i := 0) rfl (by kernel_rfl) (by kernel_rfl) (by kernel_rfl) (fun _ _ _ h => h) (Or.inl ⟨by kernel_rfl, (by intro w' _; go_simp; with_reducible rfl)⟩) hS1 ?_
        go_simp
        refine wpAnyH_take (i := 1) (v := .int .u16 (x0 : Int)) rfl (by kernel_rfl) (by kernel_rfl) (by kernel_rfl) (fun _ _ _ h => h) (Or.inl ⟨by kernel_rfl, (by intro w' hw'; obtain ⟨k0, k1, k2, k3, k4, k5⟩ := sixc_of hw'; go_simp)⟩) hS1 ?_
        go_simp
        refine wpAnyH_take (i := 3) rfl (by kernel_rfl) (by kernel_rfl) (by kernel_rfl) (fun _ _ _ h => h) (Or.inl ⟨by kernel_rfl, (by intro w' _; go_simp; with_reducible rfl)⟩) hS1 ?_
        go_simp
        refine wpAnyH_take (i := 4) (v := .int .u16 (x1 : Int)) rfl (by kernel_rfl) (by kernel_rfl) (by kernel_rfl) (fun _ _ _ h => h) (Or.inl ⟨by kernel_rfl, (by intro w' hw'; obtain ⟨k0, k1, k2, k3, k4, k5⟩ := sixc_of hw'; go_simp)⟩) hS1 ?_
        go_simp
        refine wpAnyH_take (i := 5) rfl (by kernel_rfl) (by kernel_rfl) (by kernel_rfl) (fun _ _ _ h => h) (Or.inl ⟨by kernel_rfl, (by intro w' _; go_simp; with_reducible rfl)⟩) hS1 ?_
        go_simp
        refine wpAnyH_take (i := 6) rfl (by kernel_rfl) (by kernel_rfl) (by kernel_rfl) (fun _ _ _ h => h) (Or.inl ⟨by kernel_rfl, (by intro w' _; go_simp; with_reducible rfl)⟩) hS1 ?_
        go_simp
        refine wpAnyH_ready (rs := [2, 9]) (by kernel_rfl) (by simp) ?_
        refine AllReadyH.cons rfl (fun K hK => ?_) (AllReadyH.cons rfl (fun K hK => ?_) AllReadyH.nil)
        · go_simp
          refine (HA1.out _).mono ?_
          rintro e v2 ⟨pr, rfl, hpr, hb⟩
          have HX2 : Hid (Bk gx (.cells #[.int .u16 (x0 : Int), .int .u16 (x1 : Int), .int .u16 (x2 : Int), .int .u16 (x3 : Int), .int .u16 (x4 : Int), .int .u16 (x5 : Int)] 81) v2) := blk_next HX1.out hb
          have HB2 : Hid (Below wx.heap.size wx v2) := HB1.out.trans (hb.mono HB1.out.size)
          have HPR := Lib.hid hpr
          clear hpr
          clear hb HX1 HB1
          have hS2 : (Bk gx (.cells #[.int .u16 (x0 : Int), .int .u16 (x1 : Int), .int .u16 (x2 : Int), .int .u16 (x3 : Int), .int .u16 (x4 : Int), .int .u16 (x5 : Int)] 81)) v2 := HX2.out
          refine hK.out _ _ hS2 (fun _ => ?_)
          clear hK K
          unfold ratV
          refine wpAnyH_ready (rs := [7, 9]) (by kernel_rfl) (by simp) ?_
          refine AllReadyH.cons rfl (fun K hK => ?_) (AllReadyH.cons rfl (fun K hK => ?_) AllReadyH.nil)
          · go_simp
            refine (HW1.out _).mono ?_
            rintro e v3 ⟨rfl, hb⟩
            have HX3 : Hid (Bk gx (.cells #[.int .u16 (x0 : Int), .int .u16 (x1 : Int), .int .u16 (x2 : Int), .int .u16 (x3 : Int), .int .u16 (x4 : Int), .int .u16 (x5 : Int)] 81) v3) := blk_next HX2.out hb
            have HB3 : Hid (Below wx.heap.size wx v3) := HB2.out.trans (hb.mono HB2.out.size)
            clear hb HX2 HB2
            have hS3 : (Bk gx (.cells #[.int .u16 (x0 : Int), .int .u16 (x1 : Int), .int .u16 (x2 : Int), .int .u16 (x3 : Int), .int .u16 (x4 : Int), .int .u16 (x5 : Int)] 81)) v3 := HX3.out
            refine hK.out _ _ hS3 (fun _ => ?_)
            clear hK K
            refine wpAnyH_take (i := 8) rfl (by kernel_rfl) (by kernel_rfl) (by kernel_rfl) (fun _ _ _ h => h) (Or.inl ⟨by kernel_rfl, (by intro w' _; go_simp; with_reducible rfl)⟩) hS3 ?_
            go_simp
            refine wpAnyH_ready (rs := [9]) (by kernel_rfl) (by simp) ?_
            refine AllReadyH.cons rfl (fun K hK => ?_) AllReadyH.nil
            go_simp
            obtain ⟨gi, hg_gi⟩ : ∃ g, g = v3.heap.size := ⟨_, rfl⟩
            obtain ⟨v4, hw_v4⟩ : ∃ W, W = v3.alloc (.cells #[.bool false, .string ⟨#[]⟩, .string ⟨#[]⟩, .bool false, .string ⟨#[]⟩, .string ⟨#[]⟩, .slice none 0 0] 46) := ⟨_, rfl⟩
            have HL_gi := Lib.hid (And.intro (by have := blk_lt HX3.out; omega : gx < gi) ((by have := HB3.out.size; omega : wx.heap.size ≤ gi)))
            have HX4 : Hid (Bk gx (.cells #[.int .u16 (x0 : Int), .int .u16 (x1 : Int), .int .u16 (x2 : Int), .int .u16 (x3 : Int), .int .u16 (x4 : Int), .int .u16 (x5 : Int)] 81) v4) := by rw [hw_v4]; exact blk_next HX3.out (bel_alloc _ _)
            have HB4 : Hid (Below wx.heap.size wx v4) := by rw [hw_v4]; exact HB3.out.trans ((bel_alloc _ _).mono HB3.out.size)
            have HI4 : Hid (Bk gi (.cells #[.bool false, .string ⟨#[]⟩, .string ⟨#[]⟩, .bool false, .string ⟨#[]⟩, .string ⟨#[]⟩, .slice none 0 0] 46) v4) := by rw [hw_v4, hg_gi]; exact blk_new _ _
            rw [← hw_v4]
            (try rw [← hg_gi])
            clear hw_v4 hg_gi HX3 HB3
            have hS4 : (Bk gx (.cells #[.int .u16 (x0 : Int), .int .u16 (x1 : Int), .int .u16 (x2 : Int), .int .u16 (x3 : Int), .int .u16 (x4 : Int), .int .u16 (x5 : Int)] 81)) v4 := HX4.out
            refine hK.out _ _ hS4 (fun _ => ?_)
            clear hK K
            refine wpAnyH_ready (rs := [10]) (by kernel_rfl) (by simp) ?_
            refine AllReadyH.cons rfl (fun K hK => ?_) AllReadyH.nil
            obtain ⟨k0, k1, k2, k3, k4, k5, k6⟩ := seven_of HI4.out
            obtain ⟨f0, f1, f2, f3, f4, f5, f6, fz⟩ := sevenf_of HI4.out
            go_simp
            clear k0 k1 k2 k3 k4 k5 k6 f0 f1 f2 f3 f4 f5 f6 fz
            obtain ⟨v5, hw_v5⟩ : ∃ W, W = (((((((v4.setCell ⟨gi, 0, none⟩ (.bool (rneg pr))).setCell ⟨gi, 1, none⟩ (.string (rnum pr))).setCell ⟨gi, 2, none⟩ (.string (rden pr))).setCell ⟨gi, 3, none⟩ (.bool (rneg co))).setCell ⟨gi, 4, none⟩ (.string (rnum co))).setCell ⟨gi, 5, none⟩ (.string (rden co))).setCell ⟨gi, 6, none⟩ (.slice none 0 0)) := ⟨_, rfl⟩
            have ho : Only gi v4 v5 := by rw [hw_v5]; exact (((((((Only.refl _ _).setC _ _).setC _ _).setC _ _).setC _ _).setC _ _).setC _ _).setC _ _
            have HX5 : Hid (Bk gx (.cells #[.int .u16 (x0 : Int), .int .u16 (x1 : Int), .int .u16 (x2 : Int), .int .u16 (x3 : Int), .int .u16 (x4 : Int), .int .u16 (x5 : Int)] 81) v5) := blk_onlyW HX4.out ho (by have := HL_gi.out; omega)
            have HB5 : Hid (Below wx.heap.size wx v5) := HB4.out.trans (ho.at_ _ HB4.out.size (by have := HL_gi.out; omega))
            have HI5 : Hid (Bk gi (.cells #[.bool (rneg pr), .string (rnum pr), .string (rden pr), .bool (rneg co), .string (rnum co), .string (rden co), .slice none 0 0] 46) v5) := by rw [hw_v5]; exact heap_setCell_same _ gi 6 _ _ (.slice none 0 0) (heap_setCell_same _ gi 5 _ _ (.string (rden co)) (heap_setCell_same _ gi 4 _ _ (.string (rnum co)) (heap_setCell_same _ gi 3 _ _ (.bool (rneg co)) (heap_setCell_same _ gi 2 _ _ (.string (rden pr)) (heap_setCell_same _ gi 1 _ _ (.string (rnum pr)) (heap_setCell_same _ gi 0 _ _ (.bool (rneg pr)) (HI4.out)))))))
            rw [← hw_v5]
            clear hw_v5 ho HI4 HX4 HB4
            have hS5 : (Bk gx (.cells #[.int .u16 (x0 : Int), .int .u16 (x1 : Int), .int .u16 (x2 : Int), .int .u16 (x3 : Int), .int .u16 (x4 : Int), .int .u16 (x5 : Int)] 81)) v5 := HX5.out
            refine hK.out _ _ hS5 (fun _ => ?_)
            clear hK K
            refine wpAnyH_done (by kernel_rfl) ?_ _
            (try go_wp2_with fail)
            go_meet
            exact ⟨gi, pr, co, rfl, HPR.out, HCO.out, HI5.out, HX5.out, HB5.out, by have := HL_gi.out; omega, by have := HL_gi.out; omega⟩
          · go_simp
            obtain ⟨gi, hg_gi⟩ : ∃ g, g = v2.heap.size := ⟨_, rfl⟩
            obtain ⟨v3, hw_v3⟩ : ∃ W, W = v2.alloc (.cells #[.bool false, .string ⟨#[]⟩, .string ⟨#[]⟩, .bool false, .string ⟨#[]⟩, .string ⟨#[]⟩, .slice none 0 0] 46) := ⟨_, rfl⟩
            have HL_gi := Lib.hid (And.intro (by have := blk_lt HX2.out; omega : gx < gi) ((by have := HB2.out.size; omega : wx.heap.size ≤ gi)))
            have HX3 : Hid (Bk gx (.cells #[.int .u16 (x0 : Int), .int .u16 (x1 : Int), .int .u16 (x2 : Int), .int .u16 (x3 : Int), .int .u16 (x4 : Int), .int .u16 (x5 : Int)] 81) v3) := by rw [hw_v3]; exact blk_next HX2.out (bel_alloc _ _)
            have HB3 : Hid (Below wx.heap.size wx v3) := by rw [hw_v3]; exact HB2.out.trans ((bel_alloc _ _).mono HB2.out.size)
            have HI3 : Hid (Bk gi (.cells #[.bool false, .string ⟨#[]⟩, .string ⟨#[]⟩, .bool false, .string ⟨#[]⟩, .string ⟨#[]⟩, .slice none 0 0] 46) v3) := by rw [hw_v3, hg_gi]; exact blk_new _ _
            rw [← hw_v3]
            (try rw [← hg_gi])
            clear hw_v3 hg_gi HX2 HB2
            have hS3 : (Bk gx (.cells #[.int .u16 (x0 : Int), .int .u16 (x1 : Int), .int .u16 (x2 : Int), .int .u16 (x3 : Int), .int .u16 (x4 : Int), .int .u16 (x5 : Int)] 81)) v3 := HX3.out
            refine hK.out _ _ hS3 (fun _ => ?_)
            clear hK K
            refine wpAnyH_ready (rs := [7]) (by kernel_rfl) (by simp) ?_
            refine AllReadyH.cons rfl (fun K hK => ?_) AllReadyH.nil
            go_simp
            refine (HW1.out _).mono ?_
            rintro e v4 ⟨rfl, hb⟩
            have HX4 : Hid (Bk gx (.cells #[.int .u16 (x0 : Int), .int .u16 (x1 : Int), .int .u16 (x2 : Int), .int .u16 (x3 : Int), .int .u16 (x4 : Int), .int .u16 (x5 : Int)] 81) v4) := blk_next HX3.out hb
            have HB4 : Hid (Below wx.heap.size wx v4) := HB3.out.trans (hb.mono HB3.out.size)
            have HI4 : Hid (Bk gi (.cells #[.bool false, .string ⟨#[]⟩, .string ⟨#[]⟩, .bool false, .string ⟨#[]⟩, .string ⟨#[]⟩, .slice none 0 0] 46) v4) := blk_next HI3.out hb
            clear hb HX3 HB3 HI3
            have hS4 : (Bk gx (.cells #[.int .u16 (x0 : Int), .int .u16 (x1 : Int), .int .u16 (x2 : Int), .int .u16 (x3 : Int), .int .u16 (x4 : Int), .int .u16 (x5 : Int)] 81)) v4 := HX4.out
            refine hK.out _ _ hS4 (fun _ => ?_)
            clear hK K
            refine wpAnyH_take (i := 8) rfl (by kernel_rfl) (by kernel_rfl) (by kernel_rfl) (fun _ _ _ h => h) (Or.inl ⟨by kernel_rfl, (by intro w' _; go_simp; with_reducible rfl)⟩) hS4 ?_
            go_simp
            refine wpAnyH_ready (rs := [10]) (by kernel_rfl) (by simp) ?_
            refine AllReadyH.cons rfl (fun K hK => ?_) AllReadyH.nil
            obtain ⟨k0, k1, k2, k3, k4, k5, k6⟩ := seven_of HI4.out
            obtain ⟨f0, f1, f2, f3, f4, f5, f6, fz⟩ := sevenf_of HI4.out
            go_simp
            clear k0 k1 k2 k3 k4 k5 k6 f0 f1 f2 f3 f4 f5 f6 fz
            obtain ⟨v5, hw_v5⟩ : ∃ W, W = (((((((v4.setCell ⟨gi, 0, none⟩ (.bool (rneg pr))).setCell ⟨gi, 1, none⟩ (.string (rnum pr))).setCell ⟨gi, 2, none⟩ (.string (rden pr))).setCell ⟨gi, 3, none⟩ (.bool (rneg co))).setCell ⟨gi, 4, none⟩ (.string (rnum co))).setCell ⟨gi, 5, none⟩ (.string (rden co))).setCell ⟨gi, 6, none⟩ (.slice none 0 0)) := ⟨_, rfl⟩
            have ho : Only gi v4 v5 := by rw [hw_v5]; exact (((((((Only.refl _ _).setC _ _).setC _ _).setC _ _).setC _ _).setC _ _).setC _ _).setC _ _
            have HX5 : Hid (Bk gx (.cells #[.int .u16 (x0 : Int), .int .u16 (x1 : Int), .int .u16 (x2 : Int), .int .u16 (x3 : Int), .int .u16 (x4 : Int), .int .u16 (x5 : Int)] 81) v5) := blk_onlyW HX4.out ho (by have := HL_gi.out; omega)
            have HB5 : Hid (Below wx.heap.size wx v5) := HB4.out.trans (ho.at_ _ HB4.out.size (by have := HL_gi.out; omega))
            have HI5 : Hid (Bk gi (.cells #[.bool (rneg pr), .string (rnum pr), .string (rden pr), .bool (rneg co), .string (rnum co), .string (rden co), .slice none 0 0] 46) v5) := by rw [hw_v5]; exact heap_setCell_same _ gi 6 _ _ (.slice none 0 0) (heap_setCell_same _ gi 5 _ _ (.string (rden co)) (heap_setCell_same _ gi 4 _ _ (.string (rnum co)) (heap_setCell_same _ gi 3 _ _ (.bool (rneg co)) (heap_setCell_same _ gi 2 _ _ (.string (rden pr)) (heap_setCell_same _ gi 1 _ _ (.string (rnum pr)) (heap_setCell_same _ gi 0 _ _ (.bool (rneg pr)) (HI4.out)))))))
            rw [← hw_v5]
            clear hw_v5 ho HI4 HX4 HB4
            have hS5 : (Bk gx (.cells #[.int .u16 (x0 : Int), .int .u16 (x1 : Int), .int .u16 (x2 : Int), .int .u16 (x3 : Int), .int .u16 (x4 : Int), .int .u16 (x5 : Int)] 81)) v5 := HX5.out
            refine hK.out _ _ hS5 (fun _ => ?_)
            clear hK K
            refine wpAnyH_done (by kernel_rfl) ?_ _
            (try go_wp2_with fail)
            go_meet
            exact ⟨gi, pr, co, rfl, HPR.out, HCO.out, HI5.out, HX5.out, HB5.out, by have := HL_gi.out; omega, by have := HL_gi.out; omega⟩
        · go_simp
          obtain ⟨gi, hg_gi⟩ : ∃ g, g = v1.heap.size := ⟨_, rfl⟩
          obtain ⟨v2, hw_v2⟩ : ∃ W, W = v1.alloc (.cells #[.bool false, .string ⟨#[]⟩, .string ⟨#[]⟩, .bool false, .string ⟨#[]⟩, .string ⟨#[]⟩, .slice none 0 0] 46) := ⟨_, rfl⟩
          have HL_gi := Lib.hid (And.intro (by have := blk_lt HX1.out; omega : gx < gi) ((by have := HB1.out.size; omega : wx.heap.size ≤ gi)))
          have HX2 : Hid (Bk gx (.cells #[.int .u16 (x0 : Int), .int .u16 (x1 : Int), .int .u16 (x2 : Int), .int .u16 (x3 : Int), .int .u16 (x4 : Int), .int .u16 (x5 : Int)] 81) v2) := by rw [hw_v2]; exact blk_next HX1.out (bel_alloc _ _)
          have HB2 : Hid (Below wx.heap.size wx v2) := by rw [hw_v2]; exact HB1.out.trans ((bel_alloc _ _).mono HB1.out.size)
          have HI2 : Hid (Bk gi (.cells #[.bool false, .string ⟨#[]⟩, .string ⟨#[]⟩, .bool false, .string ⟨#[]⟩, .string ⟨#[]⟩, .slice none 0 0] 46) v2) := by rw [hw_v2, hg_gi]; exact blk_new _ _
          rw [← hw_v2]
          (try rw [← hg_gi])
          clear hw_v2 hg_gi HX1 HB1
          have hS2 : (Bk gx (.cells #[.int .u16 (x0 : Int), .int .u16 (x1 : Int), .int .u16 (x2 : Int), .int .u16 (x3 : Int), .int .u16 (x4 : Int), .int .u16 (x5 : Int)] 81)) v2 := HX2.out
          refine hK.out _ _ hS2 (fun _ => ?_)
          clear hK K
          refine wpAnyH_ready (rs := [2]) (by kernel_rfl) (by simp) ?_
          refine AllReadyH.cons rfl (fun K hK => ?_) AllReadyH.nil
          go_simp
          refine (HA1.out _).mono ?_
          rintro e v3 ⟨pr, rfl, hpr, hb⟩
          have HX3 : Hid (Bk gx (.cells #[.int .u16 (x0 : Int), .int .u16 (x1 : Int), .int .u16 (x2 : Int), .int .u16 (x3 : Int), .int .u16 (x4 : Int), .int .u16 (x5 : Int)] 81) v3) := blk_next HX2.out hb
          have HB3 : Hid (Below wx.heap.size wx v3) := HB2.out.trans (hb.mono HB2.out.size)
          have HI3 : Hid (Bk gi (.cells #[.bool false, .string ⟨#[]⟩, .string ⟨#[]⟩, .bool false, .string ⟨#[]⟩, .string ⟨#[]⟩, .slice none 0 0] 46) v3) := blk_next HI2.out hb
          have HPR := Lib.hid hpr
          clear hpr
          clear hb HX2 HB2 HI2
          have hS3 : (Bk gx (.cells #[.int .u16 (x0 : Int), .int .u16 (x1 : Int), .int .u16 (x2 : Int), .int .u16 (x3 : Int), .int .u16 (x4 : Int), .int .u16 (x5 : Int)] 81)) v3 := HX3.out
          refine hK.out _ _ hS3 (fun _ => ?_)
          clear hK K
          unfold ratV
          refine wpAnyH_ready (rs := [7]) (by kernel_rfl) (by simp) ?_
          refine AllReadyH.cons rfl (fun K hK => ?_) AllReadyH.nil
          go_simp
          refine (HW1.out _).mono ?_
          rintro e v4 ⟨rfl, hb⟩
          have HX4 : Hid (Bk gx (.cells #[.int .u16 (x0 : Int), .int .u16 (x1 : Int), .int .u16 (x2 : Int), .int .u16 (x3 : Int), .int .u16 (x4 : Int), .int .u16 (x5 : Int)] 81) v4) := blk_next HX3.out hb
          have HB4 : Hid (Below wx.heap.size wx v4) := HB3.out.trans (hb.mono HB3.out.size)
          have HI4 : Hid (Bk gi (.cells #[.bool false, .string ⟨#[]⟩, .string ⟨#[]⟩, .bool false, .string ⟨#[]⟩, .string ⟨#[]⟩, .slice none 0 0] 46) v4) := blk_next HI3.out hb
          clear hb HX3 HB3 HI3
          have hS4 : (Bk gx (.cells #[.int .u16 (x0 : Int), .int .u16 (x1 : Int), .int .u16 (x2 : Int), .int .u16 (x3 : Int), .int .u16 (x4 : Int), .int .u16 (x5 : Int)] 81)) v4 := HX4.out
          refine hK.out _ _ hS4 (fun _ => ?_)
          clear hK K
          refine wpAnyH_take (i := 8) rfl (by kernel_rfl) (by kernel_rfl) (by kernel_rfl) (fun _ _ _ h => h) (Or.inl ⟨by kernel_rfl, (by intro w' _; go_simp; with_reducible rfl)⟩) hS4 ?_
          go_simp
          refine wpAnyH_ready (rs := [10]) (by kernel_rfl) (by simp) ?_
          refine AllReadyH.cons rfl (fun K hK => ?_) AllReadyH.nil
          obtain ⟨k0, k1, k2, k3, k4, k5, k6⟩ := seven_of HI4.out
          obtain ⟨f0, f1, f2, f3, f4, f5, f6, fz⟩ := sevenf_of HI4.out
          go_simp
          clear k0 k1 k2 k3 k4 k5 k6 f0 f1 f2 f3 f4 f5 f6 fz
          obtain ⟨v5, hw_v5⟩ : ∃ W, W = (((((((v4.setCell ⟨gi, 0, none⟩ (.bool (rneg pr))).setCell ⟨gi, 1, none⟩ (.string (rnum pr))).setCell ⟨gi, 2, none⟩ (.string (rden pr))).setCell ⟨gi, 3, none⟩ (.bool (rneg co))).setCell ⟨gi, 4, none⟩ (.string (rnum co))).setCell ⟨gi, 5, none⟩ (.string (rden co))).setCell ⟨gi, 6, none⟩ (.slice none 0 0)) := ⟨_, rfl⟩
          have ho : Only gi v4 v5 := by rw [hw_v5]; exact (((((((Only.refl _ _).setC _ _).setC _ _).setC _ _).setC _ _).setC _ _).setC _ _).setC _ _
          have HX5 : Hid (Bk gx (.cells #[.int .u16 (x0 : Int), .int .u16 (x1 : Int), .int .u16 (x2 : Int), .int .u16 (x3 : Int), .int .u16 (x4 : Int), .int .u16 (x5 : Int)] 81) v5) := blk_onlyW HX4.out ho (by have := HL_gi.out; omega)
          have HB5 : Hid (Below wx.heap.size wx v5) := HB4.out.trans (ho.at_ _ HB4.out.size (by have := HL_gi.out; omega))
          have HI5 : Hid (Bk gi (.cells #[.bool (rneg pr), .string (rnum pr), .string (rden pr), .bool (rneg co), .string (rnum co), .string (rden co), .slice none 0 0] 46) v5) := by rw [hw_v5]; exact heap_setCell_same _ gi 6 _ _ (.slice none 0 0) (heap_setCell_same _ gi 5 _ _ (.string (rden co)) (heap_setCell_same _ gi 4 _ _ (.string (rnum co)) (heap_setCell_same _ gi 3 _ _ (.bool (rneg co)) (heap_setCell_same _ gi 2 _ _ (.string (rden pr)) (heap_setCell_same _ gi 1 _ _ (.string (rnum pr)) (heap_setCell_same _ gi 0 _ _ (.bool (rneg pr)) (HI4.out)))))))
          rw [← hw_v5]
          clear hw_v5 ho HI4 HX4 HB4
          have hS5 : (Bk gx (.cells #[.int .u16 (x0 : Int), .int .u16 (x1 : Int), .int .u16 (x2 : Int), .int .u16 (x3 : Int), .int .u16 (x4 : Int), .int .u16 (x5 : Int)] 81)) v5 := HX5.out
          refine hK.out _ _ hS5 (fun _ => ?_)
          clear hK K
          refine wpAnyH_done (by kernel_rfl) ?_ _
          (try go_wp2_with fail)
          go_meet
          exact ⟨gi, pr, co, rfl, HPR.out, HCO.out, HI5.out, HX5.out, HB5.out, by have := HL_gi.out; omega, by have := HL_gi.out; omega⟩
      case rest =>
        clear HA1 HW1 HCO hr1 hr1w hr1u HX
        obtain ⟨gi, pr, co, rfl, hpr, hco, hbi, hbx, hbl, hgxi, hgi⟩ := hcut
        rename World => wc
        have HPC := Lib.hid (And.intro hpr hco)
        have HI := Lib.hid hbi
        have HX := Lib.hid hbx
        have HBi := Lib.hid hbl
        have HGI := Lib.hid (And.intro hgxi hgi)
        clear hpr hco hbi hbx hbl hgxi hgi
        go_wp2_with fail
        go_loopw [9] (fun i2 wr => ∃ (q : Nat) (cA : Option Addr) (cc : Nat) (chs : List Ch), q ≤ 4 ∧ i2 = .int .i64 (q : Int) ∧ Hid (chs.length ≤ q ∧ ∀ c ∈ chs, ChOk m c) ∧ Hid (Bk gi (.cells #[.bool (rneg pr), .string (rnum pr), .string (rden pr), .bool (rneg co), .string (rnum co), .string (rden co), .slice cA chs.length cc] 46) wr) ∧ Hid (Bk gx (.cells #[.int .u16 (x0 : Int), .int .u16 (x1 : Int), .int .u16 (x2 : Int), .int .u16 (x3 : Int), .int .u16 (x4 : Int), .int .u16 (x5 : Int)] 81) wr) ∧ Hid (wr.ownsRow wx.heap.size 84 6 (.slice cA chs.length cc) chs.length (chs.flatMap chV)) ∧ Hid (Below wx.heap.size wx wr)) (fun i2 _ => 4 - (intOf i2).toNat)
        case atStart => exact ⟨0, none, 0, [], Nat.zero_le _, rfl, ⟨Nat.le_refl _, fun c h => by cases h⟩, HI, HX, World.ownsRow_nil _ _ _ _, HBi⟩
        case round =>
          clear HI HX HBi
          obtain ⟨q, cA, cc, chs, hq4, rfl, HCH, HI, HX, HW, HBi⟩ := hrel
          rename World => wi
          by_cases hql : q < 4 ∧ 0 < m
          · have h3a : (q : Int) < 4 := by omega
            have h3b : (0 : Int) < (m : Int) := by omega
            have h3c : 0 < m := by omega
            obtain ⟨y, hyb, hyc⟩ := x_at (gx := gx) (x0 := x0) (x1 := x1) hql.1 hb2 hb3 hb4 hb5
            have hyc1 := hyc wi HX.out
            clear hyc
            by_cases h0 : y % 4 = 0
            · have e1 : ((y : Int) % 4 == 0) = true := by simp <;> omega
              have e1' : (y : Int) % 4 = 0 := by omega
              go_wp2_with fail
              go_roundw
              case measure => simp [intOf] <;> omega
              case rel => exact ⟨q + 1, cA, cc, chs, by omega, by go_num, ⟨by have := HCH.out.1; omega, HCH.out.2⟩, HI, HX, HW, HBi⟩
            · have e1 : ((y : Int) % 4 == 0) = false := by simp <;> omega
              have e1' : ¬ (y : Int) % 4 = 0 := by omega
              obtain ⟨cl, hcl, hclm⟩ : ∃ a : Nat, (y : Int) / 4 % (m : Int) = (a : Int) ∧ a < m := ⟨y / 4 % m, by simp, Nat.mod_lt _ h3c⟩
              obtain ⟨pq, hpq, hpqb⟩ : ∃ a : Nat, (y : Int) / 32 % 3 = (a : Int) ∧ a < 3 := ⟨y / 32 % 3, by simp, by omega⟩
              have hclt : ((y : Int) / 4).tmod (m : Int) = (cl : Int) := by rw [Int.tmod_eq_emod_of_nonneg (by omega)]; exact hcl
              by_cases h1 : y % 4 = 1
              · have e2 : ((y : Int) % 4 == 1) = true := by simp <;> omega
                have e2' : (y : Int) % 4 = 1 := by omega
                obtain ⟨mq, hmq, hmqb⟩ : ∃ a : Nat, (y : Int) / 96 % 12 = (a : Int) ∧ a < 256 := ⟨y / 96 % 12, by simp, by omega⟩
                have HW2' := HWH.out mq hmqb
                obtain ⟨mx, hmx⟩ : ∃ r : Rat, r = ((mq : Int) : Rat) := ⟨_, rfl⟩
                rw [← hmx] at HW2'
                have HMX : Hid (SzN mx) := by rw [hmx]; exact szn_int (by omega) (by omega)
                unfold ratV at HW2'
                have HW2 := Lib.hid HW2'
                clear HW2' hmx hmqb h0 h1
                obtain ⟨d0, d1, d2, d3, d4, d5⟩ := sixc_of (blk_new wi (.cells #[.int .i64 (cl : Int), .int .i64 (pq : Int), .bool false, .bool false, .string ⟨#[]⟩, .string ⟨#[]⟩] 84))
                go_wp2_with fail
                clear d0 d1 d2 d3 d4 d5
                obtain ⟨gc, hg_gc⟩ : ∃ g, g = wi.heap.size := ⟨_, rfl⟩
                obtain ⟨z1, hw_z1⟩ : ∃ W, W = wi.alloc (.cells #[.int .i64 (cl : Int), .int .i64 (pq : Int), .bool true, .bool false, .string ⟨#[]⟩, .string ⟨#[]⟩] 84) := ⟨_, rfl⟩
                have HL_gc := Lib.hid (And.intro (by have := blk_lt HI.out; omega : gi < gc) (And.intro (by have := blk_lt HX.out; omega : gx < gc) ((by have := HBi.out.size; omega : wx.heap.size ≤ gc))))
                have HI1 : Hid (Bk gi (.cells #[.bool (rneg pr), .string (rnum pr), .string (rden pr), .bool (rneg co), .string (rnum co), .string (rden co), .slice cA chs.length cc] 46) z1) := by rw [hw_z1]; exact blk_next HI.out (bel_alloc _ _)
                have HX1 : Hid (Bk gx (.cells #[.int .u16 (x0 : Int), .int .u16 (x1 : Int), .int .u16 (x2 : Int), .int .u16 (x3 : Int), .int .u16 (x4 : Int), .int .u16 (x5 : Int)] 81) z1) := by rw [hw_z1]; exact blk_next HX.out (bel_alloc _ _)
                have HW1 : Hid (z1.ownsRow wx.heap.size 84 6 (.slice cA chs.length cc) chs.length (chs.flatMap chV)) := by rw [hw_z1]; exact own_belowQ HW.out (bel_alloc _ _)
                have HB1 : Hid (Below wx.heap.size wx z1) := by rw [hw_z1]; exact HBi.out.trans ((bel_alloc _ _).mono HBi.out.size)
                have HC1 : Hid (Bk gc (.cells #[.int .i64 (cl : Int), .int .i64 (pq : Int), .bool true, .bool false, .string ⟨#[]⟩, .string ⟨#[]⟩] 84) z1) := by rw [hw_z1, hg_gc]; exact blk_new _ _
                have HLc : Hid (gi < gc ∧ gx < gc ∧ wx.heap.size ≤ gc) := by have h1 := blk_lt HI.out; have h2 := blk_lt HX.out; have h3 := HBi.out.size; exact ⟨by omega, by omega, by omega⟩
                have HCN : Hid (∀ j, (Value.slice cA chs.length cc).ownBlock = some j → j ≠ gc) := fun j hj => by have := (HW.out.lt j hj).2; omega
                rw [← hw_z1]
                (try rw [← hg_gc])
                clear hw_z1 hg_gc HI HX HW HBi
                clear hyc1
                refine (HW2.out _).mono ?_
                rintro e z2 ⟨rfl, hb⟩
                have HI2 : Hid (Bk gi (.cells #[.bool (rneg pr), .string (rnum pr), .string (rden pr), .bool (rneg co), .string (rnum co), .string (rden co), .slice cA chs.length cc] 46) z2) := blk_next HI1.out hb
                have HX2 : Hid (Bk gx (.cells #[.int .u16 (x0 : Int), .int .u16 (x1 : Int), .int .u16 (x2 : Int), .int .u16 (x3 : Int), .int .u16 (x4 : Int), .int .u16 (x5 : Int)] 81) z2) := blk_next HX1.out hb
                have HW2 : Hid (z2.ownsRow wx.heap.size 84 6 (.slice cA chs.length cc) chs.length (chs.flatMap chV)) := own_belowQ HW1.out hb
                have HB2 : Hid (Below wx.heap.size wx z2) := HB1.out.trans (hb.mono HB1.out.size)
                have HC2 : Hid (Bk gc (.cells #[.int .i64 (cl : Int), .int .i64 (pq : Int), .bool true, .bool false, .string ⟨#[]⟩, .string ⟨#[]⟩] 84) z2) := blk_next HC1.out hb
                clear hb HI1 HX1 HW1 HB1 HC1
                obtain ⟨d0, d1, d2, d3, d4, d5⟩ := sixc_of HC2.out
                obtain ⟨f0, f1, f2, f3, f4, f5, f6, fz⟩ := sevenf_of HC2.out
                go_upto_region 16 with fail
                clear d0 d1 d2 d3 d4 d5 f0 f1 f2 f3 f4 f5 f6 fz
                obtain ⟨wk, hwk⟩ : ∃ W, W = (((z2.setCell ⟨gc, 3, none⟩ (.bool (rneg mx))).setCell ⟨gc, 4, none⟩ (.string (rnum mx))).setCell ⟨gc, 5, none⟩ (.string (rden mx))) := ⟨_, rfl⟩
                have ho : Only gc z2 wk := by rw [hwk]; exact (((Only.refl _ _).setC _ _).setC _ _).setC _ _
                have HCk : Hid (Bk gc (.cells #[.int .i64 (cl : Int), .int .i64 (pq : Int), .bool true, .bool (rneg mx), .string (rnum mx), .string (rden mx)] 84) wk) := by rw [hwk]; exact heap_setCell_same _ gc 5 _ _ _ (heap_setCell_same _ gc 4 _ _ _ (heap_setCell_same _ gc 3 _ _ _ HC2.out))
                have HIk : Hid (Bk gi (.cells #[.bool (rneg pr), .string (rnum pr), .string (rden pr), .bool (rneg co), .string (rnum co), .string (rden co), .slice cA chs.length cc] 46) wk) := blk_onlyW HI2.out ho (by have := HLc.out; omega)
                have HXk : Hid (Bk gx (.cells #[.int .u16 (x0 : Int), .int .u16 (x1 : Int), .int .u16 (x2 : Int), .int .u16 (x3 : Int), .int .u16 (x4 : Int), .int .u16 (x5 : Int)] 81) wk) := blk_onlyW HX2.out ho (by have := HLc.out; omega)
                have HBk : Hid (Below wx.heap.size wx wk) := HB2.out.trans (ho.at_ _ HB2.out.size (by have := HLc.out; omega))
                have HW2k : Hid (wk.ownsRow wx.heap.size 84 6 (.slice cA chs.length cc) chs.length (chs.flatMap chV)) := own_neQ HW2.out ho HCN.out
                rw [← hwk]
                clear hwk ho HI2 HX2 HW2 HB2 HC2
                obtain ⟨k0, k1, k2, k3, k4, k5, k6⟩ := seven_of HIk.out
                obtain ⟨d0, d1, d2, d3, d4, d5⟩ := sixc_of HCk.out
                have hchl : chs.length ≤ 4 := by have := HCH.out.1; omega
                go_wp2_with (at_builtin; refine wpList_append_own _ rfl (.tmp 69) (.tmp 71) 44 rfl wx.heap.size 84 ic _ 6 64 Tryz.underlying44 HIC.out.1 HIC.out.2.1 HIC.out.2.2.1 HIC.out.2.2.2 rfl (by decide) _ chs.length (chs.flatMap chV) rfl (HW2k.out.alloc _) ⟨wk.heap.size, 0, none⟩ 1 1 [.int .i64 (cl : Int), .int .i64 (pq : Int), .bool true, .bool (rneg mx), .string (rnum mx), .string (rden mx)] rfl rfl (World.news_of_block (blk_new wk (.cells #[.int .i64 (cl : Int), .int .i64 (pq : Int), .bool true, .bool (rneg mx), .string (rnum mx), .string (rden mx)] 84))) (by simp [Value.oneCell']) (by simp only [maxLen]; omega) (by omega) (by have := HBk.out.size; simp; omega) ?_)
                clear k0 k1 k2 k3 k4 k5 k6 d0 d1 d2 d3 d4 d5
                intro v' wp hown hgr hnil
                obtain ⟨g', cap, rfl, _, _⟩ := hown.form (by omega)
                have HWp : Hid (wp.ownsRow wx.heap.size 84 6 (.slice (some ⟨g', 0, none⟩) (chs ++ [(⟨cl, (pq : Int), true, mx⟩ : Ch)]).length cap) (chs ++ [(⟨cl, (pq : Int), true, mx⟩ : Ch)]).length ((chs ++ [(⟨cl, (pq : Int), true, mx⟩ : Ch)]).flatMap chV)) := by rw [List.length_append, List.flatMap_append]; exact hown
                have HIp : Hid (Bk gi (.cells #[.bool (rneg pr), .string (rnum pr), .string (rden pr), .bool (rneg co), .string (rnum co), .string (rden co), .slice cA chs.length cc] 46) wp) := blk_grownT (HW2k.out.alloc _) (blk_alloc HIk.out) (by decide) hgr
                have HXp : Hid (Bk gx (.cells #[.int .u16 (x0 : Int), .int .u16 (x1 : Int), .int .u16 (x2 : Int), .int .u16 (x3 : Int), .int .u16 (x4 : Int), .int .u16 (x5 : Int)] 81) wp) := blk_grownT (HW2k.out.alloc _) (blk_alloc HXk.out) (by decide) hgr
                have HBp : Hid (Below wx.heap.size wx wp) := (HBk.out.alloc HBk.out.size _).grown hgr (by have := HBk.out.size; simp; omega) (fun j hj => (HW2k.out.lt j hj).1)
                have HCHp : Hid ((chs ++ [(⟨cl, (pq : Int), true, mx⟩ : Ch)]).length ≤ q + 1 ∧ ∀ c ∈ chs ++ [(⟨cl, (pq : Int), true, mx⟩ : Ch)], ChOk m c) := ⟨by rw [List.length_append, List.length_singleton]; have := HCH.out.1; omega, fun c hc => by
                  rcases List.mem_append.1 hc with hc | hc
                  · exact HCH.out.2 c hc
                  · rw [List.mem_singleton.1 hc]; exact ⟨hclm, HMX.out⟩⟩
                have HL2 : Hid (chs.length + 1 = (chs ++ [(⟨cl, (pq : Int), true, mx⟩ : Ch)]).length) := by show _ = _; simp
                clear hown hgr hnil HIk HXk HW2k HBk HCk
                obtain ⟨k0, k1, k2, k3, k4, k5, k6⟩ := seven_of HIp.out
                obtain ⟨f0, f1, f2, f3, f4, f5, f6, fz⟩ := sevenf_of HIp.out
                go_wp2_with fail
                clear k0 k1 k2 k3 k4 k5 k6 f0 f1 f2 f3 f4 f5 f6 fz
                obtain ⟨wz, hwz⟩ : ∃ W, W = wp.setCell ⟨gi, 6, none⟩ (.slice (some ⟨g', 0, none⟩) (chs.length + 1) cap) := ⟨_, rfl⟩
                have ho : Only gi wp wz := by rw [hwz]; exact (Only.refl _ _).setC _ _
                have HIz : Hid (Bk gi (.cells #[.bool (rneg pr), .string (rnum pr), .string (rden pr), .bool (rneg co), .string (rnum co), .string (rden co), .slice (some ⟨g', 0, none⟩) (chs ++ [(⟨cl, (pq : Int), true, mx⟩ : Ch)]).length cap] 46) wz) := by rw [hwz, ← HL2.out]; exact heap_setCell_same _ gi 6 _ _ _ HIp.out
                have HXz : Hid (Bk gx (.cells #[.int .u16 (x0 : Int), .int .u16 (x1 : Int), .int .u16 (x2 : Int), .int .u16 (x3 : Int), .int .u16 (x4 : Int), .int .u16 (x5 : Int)] 81) wz) := blk_onlyW HXp.out ho (by have := HGI.out; omega)
                have HWz : Hid (wz.ownsRow wx.heap.size 84 6 (.slice (some ⟨g', 0, none⟩) (chs ++ [(⟨cl, (pq : Int), true, mx⟩ : Ch)]).length cap) (chs ++ [(⟨cl, (pq : Int), true, mx⟩ : Ch)]).length ((chs ++ [(⟨cl, (pq : Int), true, mx⟩ : Ch)]).flatMap chV)) := own_onlyT HWp.out ho HIp.out (by decide)
                have HBz : Hid (Below wx.heap.size wx wz) := HBp.out.trans (ho.at_ _ HBp.out.size (by have := HGI.out; omega))
                rw [← hwz]
                clear hwz ho HIp HXp HWp HBp HL2
                go_roundw
                case measure => simp [intOf] <;> omega
                case rel => exact ⟨q + 1, _, _, chs ++ [(⟨cl, (pq : Int), true, mx⟩ : Ch)], by omega, by go_num, HCHp, HIz, HXz, HWz, HBz⟩
              · have e2 : ((y : Int) % 4 == 1) = false := by simp <;> omega
                have e2' : ¬ (y : Int) % 4 = 1 := by omega
                have HMX : Hid (SzN 0) := ⟨sz_zero, Rat.le_refl⟩
                clear h0 h1
                go_upto_region 16 with fail
                clear hyc1
                obtain ⟨gc, hg_gc⟩ : ∃ g, g = wi.heap.size := ⟨_, rfl⟩
                obtain ⟨z1, hw_z1⟩ : ∃ W, W = wi.alloc (.cells #[.int .i64 (cl : Int), .int .i64 (pq : Int), .bool false, .bool false, .string ⟨#[]⟩, .string ⟨#[]⟩] 84) := ⟨_, rfl⟩
                have HL_gc := Lib.hid (And.intro (by have := blk_lt HI.out; omega : gi < gc) (And.intro (by have := blk_lt HX.out; omega : gx < gc) ((by have := HBi.out.size; omega : wx.heap.size ≤ gc))))
                have HI1 : Hid (Bk gi (.cells #[.bool (rneg pr), .string (rnum pr), .string (rden pr), .bool (rneg co), .string (rnum co), .string (rden co), .slice cA chs.length cc] 46) z1) := by rw [hw_z1]; exact blk_next HI.out (bel_alloc _ _)
                have HX1 : Hid (Bk gx (.cells #[.int .u16 (x0 : Int), .int .u16 (x1 : Int), .int .u16 (x2 : Int), .int .u16 (x3 : Int), .int .u16 (x4 : Int), .int .u16 (x5 : Int)] 81) z1) := by rw [hw_z1]; exact blk_next HX.out (bel_alloc _ _)
                have HW1 : Hid (z1.ownsRow wx.heap.size 84 6 (.slice cA chs.length cc) chs.length (chs.flatMap chV)) := by rw [hw_z1]; exact own_belowQ HW.out (bel_alloc _ _)
                have HB1 : Hid (Below wx.heap.size wx z1) := by rw [hw_z1]; exact HBi.out.trans ((bel_alloc _ _).mono HBi.out.size)
                have HC1 : Hid (Bk gc (.cells #[.int .i64 (cl : Int), .int .i64 (pq : Int), .bool false, .bool false, .string ⟨#[]⟩, .string ⟨#[]⟩] 84) z1) := by rw [hw_z1, hg_gc]; exact blk_new _ _
                rw [← hw_z1]
                (try rw [← hg_gc])
                clear hw_z1 hg_gc HI HX HW HBi
                obtain ⟨k0, k1, k2, k3, k4, k5, k6⟩ := seven_of HI1.out
                obtain ⟨d0, d1, d2, d3, d4, d5⟩ := sixc_of HC1.out
                have hchl : chs.length ≤ 4 := by have := HCH.out.1; omega
                go_wp2_with (at_builtin; refine wpList_append_own _ rfl (.tmp 69) (.tmp 71) 44 rfl wx.heap.size 84 ic _ 6 64 Tryz.underlying44 HIC.out.1 HIC.out.2.1 HIC.out.2.2.1 HIC.out.2.2.2 rfl (by decide) _ chs.length (chs.flatMap chV) rfl (HW1.out.alloc _) ⟨z1.heap.size, 0, none⟩ 1 1 [.int .i64 (cl : Int), .int .i64 (pq : Int), .bool false, .bool false, .string ⟨#[]⟩, .string ⟨#[]⟩] rfl rfl (World.news_of_block (blk_new z1 (.cells #[.int .i64 (cl : Int), .int .i64 (pq : Int), .bool false, .bool false, .string ⟨#[]⟩, .string ⟨#[]⟩] 84))) (by simp [Value.oneCell']) (by simp only [maxLen]; omega) (by omega) (by have := HB1.out.size; simp; omega) ?_)
                clear k0 k1 k2 k3 k4 k5 k6 d0 d1 d2 d3 d4 d5
                intro v' wp hown hgr hnil
                obtain ⟨g', cap, rfl, _, _⟩ := hown.form (by omega)
                have HWp : Hid (wp.ownsRow wx.heap.size 84 6 (.slice (some ⟨g', 0, none⟩) (chs ++ [(⟨cl, (pq : Int), false, 0⟩ : Ch)]).length cap) (chs ++ [(⟨cl, (pq : Int), false, 0⟩ : Ch)]).length ((chs ++ [(⟨cl, (pq : Int), false, 0⟩ : Ch)]).flatMap chV)) := by
                  rw [List.length_append, List.flatMap_append]
                  have e : [((⟨cl, (pq : Int), false, 0⟩ : Ch) : Ch)].flatMap chV = [.int .i64 (cl : Int), .int .i64 (pq : Int), .bool false, .bool false, .string ⟨#[]⟩, .string ⟨#[]⟩] := by
                    show [Value.int .i64 (cl : Int), .int .i64 (pq : Int), .bool false, .bool (rneg 0), .string (rnum 0), .string (rden 0)] = _
                    rw [rneg_zero, rnum_zero, rden_zero]
                  rw [e]
                  exact hown
                have HIp : Hid (Bk gi (.cells #[.bool (rneg pr), .string (rnum pr), .string (rden pr), .bool (rneg co), .string (rnum co), .string (rden co), .slice cA chs.length cc] 46) wp) := blk_grownT (HW1.out.alloc _) (blk_alloc HI1.out) (by decide) hgr
                have HXp : Hid (Bk gx (.cells #[.int .u16 (x0 : Int), .int .u16 (x1 : Int), .int .u16 (x2 : Int), .int .u16 (x3 : Int), .int .u16 (x4 : Int), .int .u16 (x5 : Int)] 81) wp) := blk_grownT (HW1.out.alloc _) (blk_alloc HX1.out) (by decide) hgr
                have HBp : Hid (Below wx.heap.size wx wp) := (HB1.out.alloc HB1.out.size _).grown hgr (by have := HB1.out.size; simp; omega) (fun j hj => (HW1.out.lt j hj).1)
                have HCHp : Hid ((chs ++ [(⟨cl, (pq : Int), false, 0⟩ : Ch)]).length ≤ q + 1 ∧ ∀ c ∈ chs ++ [(⟨cl, (pq : Int), false, 0⟩ : Ch)], ChOk m c) := ⟨by rw [List.length_append, List.length_singleton]; have := HCH.out.1; omega, fun c hc => by
                  rcases List.mem_append.1 hc with hc | hc
                  · exact HCH.out.2 c hc
                  · rw [List.mem_singleton.1 hc]; exact ⟨hclm, HMX.out⟩⟩
                have HL2 : Hid (chs.length + 1 = (chs ++ [(⟨cl, (pq : Int), false, 0⟩ : Ch)]).length) := by show _ = _; simp
                clear hown hgr hnil HI1 HX1 HW1 HB1 HC1
                obtain ⟨k0, k1, k2, k3, k4, k5, k6⟩ := seven_of HIp.out
                obtain ⟨f0, f1, f2, f3, f4, f5, f6, fz⟩ := sevenf_of HIp.out
                go_wp2_with fail
                clear k0 k1 k2 k3 k4 k5 k6 f0 f1 f2 f3 f4 f5 f6 fz
                obtain ⟨wz, hwz⟩ : ∃ W, W = wp.setCell ⟨gi, 6, none⟩ (.slice (some ⟨g', 0, none⟩) (chs.length + 1) cap) := ⟨_, rfl⟩
                have ho : Only gi wp wz := by rw [hwz]; exact (Only.refl _ _).setC _ _
                have HIz : Hid (Bk gi (.cells #[.bool (rneg pr), .string (rnum pr), .string (rden pr), .bool (rneg co), .string (rnum co), .string (rden co), .slice (some ⟨g', 0, none⟩) (chs ++ [(⟨cl, (pq : Int), false, 0⟩ : Ch)]).length cap] 46) wz) := by rw [hwz, ← HL2.out]; exact heap_setCell_same _ gi 6 _ _ _ HIp.out
                have HXz : Hid (Bk gx (.cells #[.int .u16 (x0 : Int), .int .u16 (x1 : Int), .int .u16 (x2 : Int), .int .u16 (x3 : Int), .int .u16 (x4 : Int), .int .u16 (x5 : Int)] 81) wz) := blk_onlyW HXp.out ho (by have := HGI.out; omega)
                have HWz : Hid (wz.ownsRow wx.heap.size 84 6 (.slice (some ⟨g', 0, none⟩) (chs ++ [(⟨cl, (pq : Int), false, 0⟩ : Ch)]).length cap) (chs ++ [(⟨cl, (pq : Int), false, 0⟩ : Ch)]).length ((chs ++ [(⟨cl, (pq : Int), false, 0⟩ : Ch)]).flatMap chV)) := own_onlyT HWp.out ho HIp.out (by decide)
                have HBz : Hid (Below wx.heap.size wx wz) := HBp.out.trans (ho.at_ _ HBp.out.size (by have := HGI.out; omega))
                rw [← hwz]
                clear hwz ho HIp HXp HWp HBp HL2
                go_roundw
                case measure => simp [intOf] <;> omega
                case rel => exact ⟨q + 1, _, _, chs ++ [(⟨cl, (pq : Int), false, 0⟩ : Ch)], by omega, by go_num, HCHp, HIz, HXz, HWz, HBz⟩
          · by_cases hq2 : q < 4
            · have g1 : decide ((q : Int) < 4) = true := decide_eq_true (by omega)
              have g2 : decide ((0 : Int) < (m : Int)) = false := decide_eq_false (by omega)
              have g2' : decide (0 < m) = false := decide_eq_false (by omega)
              obtain ⟨k0, k1, k2, k3, k4, k5, k6⟩ := seven_of HI.out
              have HOi : Hid (World.ownsRow wi w.heap.size 46 7 (.slice A' its.length c') its.length (its.flatMap itV)) := own_belowQ HOx.out HBi.out
              have HCi : Hid (∀ x ∈ its, RowT 84 6 x.A x.chs.length (x.chs.flatMap chV) wi) := fun x hx => (HCx.out x hx).next HBi.out
              have HBw : Hid (Below w.heap.size w wi) := HBx.out.trans (HBi.out.mono HBx.out.size)
              have hitl : its.length ≤ 4 := by rw [HIT.out.1]; omega
              go_wp2_with (at_builtin; refine wpList_append_own _ rfl (.tmp 74) (.tmp 76) 27 rfl w.heap.size 46 iq _ 7 104 Tryz.underlying27 HIQ.out.1 HIQ.out.2.1 HIQ.out.2.2.1 HIQ.out.2.2.2 rfl (by decide) _ its.length (its.flatMap itV) rfl (HOi.out.alloc _) ⟨wi.heap.size, 0, none⟩ 1 1 (itV ⟨pr, co, cA, cc, chs⟩) rfl rfl (World.news_of_block (blk_new wi (.cells #[.bool (rneg pr), .string (rnum pr), .string (rden pr), .bool (rneg co), .string (rnum co), .string (rden co), .slice cA chs.length cc] 46))) (by simp [Value.oneCell', itV]) (by simp only [maxLen]; omega) (by omega) (by have := HBw.out.size; simp; omega) ?_)
              clear k0 k1 k2 k3 k4 k5 k6
              intro v' wp hown hgr hnil
              obtain ⟨g', cap, rfl, _, _⟩ := hown.form (by omega)
              have HOp : Hid (wp.ownsRow w.heap.size 46 7 (.slice (some ⟨g', 0, none⟩) (its ++ [(⟨pr, co, cA, cc, chs⟩ : It)]).length cap) (its ++ [(⟨pr, co, cA, cc, chs⟩ : It)]).length ((its ++ [(⟨pr, co, cA, cc, chs⟩ : It)]).flatMap itV)) := by rw [List.length_append, List.flatMap_append]; exact hown
              have HBp : Hid (Below w.heap.size w wp) := (HBw.out.alloc HBw.out.size _).grown hgr (by have := HBw.out.size; simp; omega) (fun j hj => (HOi.out.lt j hj).1)
              have HCp : Hid (∀ x ∈ its ++ [(⟨pr, co, cA, cc, chs⟩ : It)], RowT 84 6 x.A x.chs.length (x.chs.flatMap chV) wp) := fun x hx => by
                rcases List.mem_append.1 hx with hx | hx
                · exact ((HCi.out x hx).next (bel_alloc _ _)).grown (HOi.out.alloc _) (by decide) hgr
                · rw [List.mem_singleton.1 hx]; exact ((RowT.of_own HW.out).next (bel_alloc _ _)).grown (HOi.out.alloc _) (by decide) hgr
              have hl2 : its.length + 1 = (its ++ [(⟨pr, co, cA, cc, chs⟩ : It)]).length := by simp
              have HITp : Hid ((its ++ [(⟨pr, co, cA, cc, chs⟩ : It)]).length = k + 1 ∧ ∀ x ∈ its ++ [(⟨pr, co, cA, cc, chs⟩ : It)], ItOk m x) := ⟨by rw [List.length_append, HIT.out.1]; rfl, fun x hx => by
                rcases List.mem_append.1 hx with hx | hx
                · exact HIT.out.2 x hx
                · rw [List.mem_singleton.1 hx]; exact ⟨HPC.out.1, HPC.out.2, by have := HCH.out.1; show chs.length ≤ 4; omega, HCH.out.2⟩⟩
              clear hown hgr hnil HI HX HW HBi HOi HCi HBw HOx HCx HBx
              go_wp2_with fail
              go_roundw
              case measure => simp [intOf] <;> omega
              case rel => exact ⟨k + 1, _, _, its ++ [(⟨pr, co, cA, cc, chs⟩ : It)], by omega, by omega, by rw [← hl2], by go_num, HITp, HOp, HCp, HBp⟩
            · have g1 : decide ((q : Int) < 4) = false := decide_eq_false (by omega)
              obtain ⟨k0, k1, k2, k3, k4, k5, k6⟩ := seven_of HI.out
              have HOi : Hid (World.ownsRow wi w.heap.size 46 7 (.slice A' its.length c') its.length (its.flatMap itV)) := own_belowQ HOx.out HBi.out
              have HCi : Hid (∀ x ∈ its, RowT 84 6 x.A x.chs.length (x.chs.flatMap chV) wi) := fun x hx => (HCx.out x hx).next HBi.out
              have HBw : Hid (Below w.heap.size w wi) := HBx.out.trans (HBi.out.mono HBx.out.size)
              have hitl : its.length ≤ 4 := by rw [HIT.out.1]; omega
              go_wp2_with (at_builtin; refine wpList_append_own _ rfl (.tmp 74) (.tmp 76) 27 rfl w.heap.size 46 iq _ 7 104 Tryz.underlying27 HIQ.out.1 HIQ.out.2.1 HIQ.out.2.2.1 HIQ.out.2.2.2 rfl (by decide) _ its.length (its.flatMap itV) rfl (HOi.out.alloc _) ⟨wi.heap.size, 0, none⟩ 1 1 (itV ⟨pr, co, cA, cc, chs⟩) rfl rfl (World.news_of_block (blk_new wi (.cells #[.bool (rneg pr), .string (rnum pr), .string (rden pr), .bool (rneg co), .string (rnum co), .string (rden co), .slice cA chs.length cc] 46))) (by simp [Value.oneCell', itV]) (by simp only [maxLen]; omega) (by omega) (by have := HBw.out.size; simp; omega) ?_)
              clear k0 k1 k2 k3 k4 k5 k6
              intro v' wp hown hgr hnil
              obtain ⟨g', cap, rfl, _, _⟩ := hown.form (by omega)
              have HOp : Hid (wp.ownsRow w.heap.size 46 7 (.slice (some ⟨g', 0, none⟩) (its ++ [(⟨pr, co, cA, cc, chs⟩ : It)]).length cap) (its ++ [(⟨pr, co, cA, cc, chs⟩ : It)]).length ((its ++ [(⟨pr, co, cA, cc, chs⟩ : It)]).flatMap itV)) := by rw [List.length_append, List.flatMap_append]; exact hown
              have HBp : Hid (Below w.heap.size w wp) := (HBw.out.alloc HBw.out.size _).grown hgr (by have := HBw.out.size; simp; omega) (fun j hj => (HOi.out.lt j hj).1)
              have HCp : Hid (∀ x ∈ its ++ [(⟨pr, co, cA, cc, chs⟩ : It)], RowT 84 6 x.A x.chs.length (x.chs.flatMap chV) wp) := fun x hx => by
                rcases List.mem_append.1 hx with hx | hx
                · exact ((HCi.out x hx).next (bel_alloc _ _)).grown (HOi.out.alloc _) (by decide) hgr
                · rw [List.mem_singleton.1 hx]; exact ((RowT.of_own HW.out).next (bel_alloc _ _)).grown (HOi.out.alloc _) (by decide) hgr
              have hl2 : its.length + 1 = (its ++ [(⟨pr, co, cA, cc, chs⟩ : It)]).length := by simp
              have HITp : Hid ((its ++ [(⟨pr, co, cA, cc, chs⟩ : It)]).length = k + 1 ∧ ∀ x ∈ its ++ [(⟨pr, co, cA, cc, chs⟩ : It)], ItOk m x) := ⟨by rw [List.length_append, HIT.out.1]; rfl, fun x hx => by
                rcases List.mem_append.1 hx with hx | hx
                · exact HIT.out.2 x hx
                · rw [List.mem_singleton.1 hx]; exact ⟨HPC.out.1, HPC.out.2, by have := HCH.out.1; show chs.length ≤ 4; omega, HCH.out.2⟩⟩
              clear hown hgr hnil HI HX HW HBi HOi HCi HBw HOx HCx HBx
              go_wp2_with fail
              go_roundw
              case measure => simp [intOf] <;> omega
              case rel => exact ⟨k + 1, _, _, its ++ [(⟨pr, co, cA, cc, chs⟩ : It)], by omega, by omega, by rw [← hl2], by go_num, HITp, HOp, HCp, HBp⟩
    · have hge : ¬ ((k : Int) < (n : Int) ∧ (k : Int) < 4) := by omega
      by_cases hkn : k < n
      · have g1 : decide ((k : Int) < (n : Int)) = true := decide_eq_true (by omega)
        have g2 : decide ((k : Int) < 4) = false := decide_eq_false (by omega)
        go_wp2_with fail
        go_ret
        exact ⟨_, _, its, rfl, ⟨Rd.of_own HO.out, fun x hx => (HC.out x hx).rd⟩, by rw [HIT.out.1]; omega, HIT.out.2, HB.out⟩
      · have g1 : decide ((k : Int) < (n : Int)) = false := decide_eq_false (by omega)
        go_wp2_with fail
        go_ret
        exact ⟨_, _, its, rfl, ⟨Rd.of_own HO.out, fun x hx => (HC.out x hx).rd⟩, by rw [HIT.out.1]; omega, HIT.out.2, HB.out⟩

end Go.Proofs.YtjlicnhkemfmiaaGreatDoor

/- insolvencyref33.SameRecord: records that read alike are the same. -/
import Derived.Test.YtcljkdjmmolfoaaDoorM10
import Derived.Test.YtcljkdjmmolfoaaDoorM11
set_option linter.unusedVariables false
set_option linter.unusedSimpArgs false
namespace Go.Proofs.YtcljkdjmmolfoaaDoor
open Go.RowKit

def i64V (l : List Int) : List Value := l.map (Value.int .i64)
theorem i64V_at {w : World} {B : Nat} {A : Option Addr} {l : List Int} (h : Rd w B 1 A l.length (i64V l)) {k : Nat} {x : Int} (hk : l[k]? = some x) :
    ∃ b off, A = some ⟨b, off, none⟩ ∧ b < B ∧ w.cell? ⟨b, off + k, none⟩ = some (.int .i64 x) := by
  have hlt : k < l.length := (List.getElem?_eq_some_iff.1 hk).1
  obtain ⟨b, off, e, hb, hc⟩ := h.2 (by omega)
  exact ⟨b, off, e, hb, hc k _ (by unfold i64V; rw [List.getElem?_map, hk]; rfl)⟩
theorem rd_of_block {W : World} {g n S : Nat} {cs : List Value} {T : TypeId} {f : Nat × Nat} (h : W.heap[g]? = some (.cells cs.toArray T f)) (hl : cs.length = n * S) : Rd W W.heap.size S (some ⟨g, 0, none⟩) n cs := by
  refine ⟨hl, fun _ => ⟨g, 0, rfl, (Array.getElem?_eq_some_iff.1 h).1, fun j u hu => ?_⟩⟩
  rw [Nat.zero_add, cell_of_row W g j _ _ f h]
  simpa using hu
theorem take_eq_succ {α : Type} {la lb : List α} {k : Nat} {x y : α} (h : la.take k = lb.take k) (hx : la[k]? = some x) (hy : lb[k]? = some y) (e : x = y) : la.take (k + 1) = lb.take (k + 1) := by
  rw [List.take_add_one, List.take_add_one, h, hx, hy, e]

set_option maxHeartbeats 2000000 in
theorem sameInts_calls (A B : Option Addr) (n ca m cb : Nat) (la lb : List Int) (w : World) (hn : n = la.length) (hm : m = lb.length) (ra : Rd w w.heap.size 1 A la.length (i64V la)) (rb : Rd w w.heap.size 1 B lb.length (i64V lb)) (gn : n ≤ maxLen) (gm : m ≤ maxLen) (r : Bool) (hr : r = decide (la = lb)) :
    Calls Tryd.prog 48 #[.slice A n ca, .slice B m cb] w fun e w' => e = .returned (.bool r) ∧ Below w.heap.size w w' := by
  unfold maxLen at gn gm
  have HN := Lib.hid hn
  have HM := Lib.hid hm
  have HR := Lib.hid hr
  have HA := Lib.hid ra
  have HB := Lib.hid rb
  clear hn hm hr ra rb
  by_cases hnm : n = m
  · subst hnm
    go_enter Tryd.func48, Tryd.ntmps48
    go_wp2_with fail
    go_loopw [5] (fun i wr => ∃ k : Nat, k ≤ n ∧ i = .int .i64 (k : Int) ∧ Hid (la.take k = lb.take k) ∧ ∃ q, wr = w.drewN q) (fun i _ => n - (intOf i).toNat)
    case atStart => exact ⟨0, Nat.zero_le _, rfl, rfl, 0, rfl⟩
    case round =>
      obtain ⟨k, hk, rfl, HT, q, rfl⟩ := hrel
      by_cases hlt : k < n
      · obtain ⟨x, hx⟩ := getElem?_of_lt (l := la) (k := k) (by rw [← HN.out]; exact hlt)
        obtain ⟨y, hy⟩ := getElem?_of_lt (l := lb) (k := k) (by rw [← HM.out]; exact hlt)
        obtain ⟨b, off, rfl, _, k1⟩ := i64V_at HA.out hx
        obtain ⟨b', off', rfl, _, k2⟩ := i64V_at HB.out hy
        have HX := Lib.hid (And.intro hx hy)
        clear hx hy
        by_cases hxy : x = y
        · subst hxy
          have HNX : Hid (la.take (k + 1) = lb.take (k + 1)) := take_eq_succ HT.out HX.out.1 HX.out.2 rfl
          clear HT HX
          go_wp2_with fail
          go_quiet (fail)
          go_wp2_with fail
          go_roundw
          case measure => simp [intOf] <;> omega
          case rel => exact ⟨k + 1, by omega, by go_num, HNX, _, rfl⟩
        · have hxb : (x == y) = false := beq_eq_false_iff_ne.2 hxy
          obtain rfl : r = false := by
            rw [HR.out]
            refine decide_eq_false (fun e => ?_)
            have h1 := HX.out.1
            rw [e, HX.out.2] at h1
            exact hxy (Option.some.inj h1).symm
          clear HT HX hxy
          go_wp2_with fail
          go_quiet (fail)
          go_wp2_with fail
          go_ret
          exact ⟨rfl, ((Below.refl _ _).drewN _).drewN _⟩
      · obtain rfl : r = true := by
          rw [HR.out]
          refine decide_eq_true ?_
          have := HT.out
          rwa [List.take_of_length_le (by rw [← HN.out]; omega), List.take_of_length_le (by rw [← HM.out]; omega)] at this
        go_wp2_with fail
        go_ret
        exact ⟨rfl, (Below.refl _ _).drewN _⟩
  · obtain rfl : r = false := by
      rw [HR.out]
      refine decide_eq_false (fun e => hnm ?_)
      rw [HN.out, HM.out, e]
    have hb : ((n : Int) == (m : Int)) = false := by rw [beq_eq_false_iff_ne]; omega
    clear hnm
    go_enter Tryd.func48, Tryd.ntmps48
    go_wp2_with fail
    go_ret
    exact ⟨rfl, Below.refl _ _⟩

set_option maxHeartbeats 2000000 in
theorem samePayments_calls (A B : Option Addr) (n ca cb : Nat) (pays : List Pay) (w : World) (hn : n = pays.length) (ra : Rd w w.heap.size 4 A pays.length (pays.flatMap payV)) (rb : Rd w w.heap.size 4 B pays.length (pays.flatMap payV)) (gn : n ≤ maxLen) :
    Calls Tryd.prog 33 #[.slice A n ca, .slice B n cb] w fun e w' => e = .returned (.bool true) ∧ Below w.heap.size w w' := by
  unfold maxLen at gn
  have HN := Lib.hid hn
  have HA := Lib.hid ra
  have HB := Lib.hid rb
  clear hn ra rb
  go_enter Tryd.func33, Tryd.ntmps33
  go_wp2_with fail
  go_loopw [5] (fun i wr => ∃ k : Nat, k ≤ n ∧ i = .int .i64 (k : Int) ∧ ∃ q, wr = w.drewN q) (fun i _ => n - (intOf i).toNat)
  case atStart => exact ⟨0, Nat.zero_le _, rfl, 0, rfl⟩
  case round =>
    obtain ⟨k, hk, rfl, q, rfl⟩ := hrel
    by_cases hlt : k < n
    · obtain ⟨x, hx⟩ := getElem?_of_lt (l := pays) (k := k) (by rw [← HN.out]; exact hlt)
      obtain ⟨b, off, rfl, _, hc⟩ := Rd.at_ (enc := payV) (fun _ => rfl) HA.out hx
      obtain ⟨b', off', rfl, _, hd⟩ := Rd.at_ (enc := payV) (fun _ => rfl) HB.out hx
      obtain ⟨x, y, u, v⟩ := x
      have p0 := hc 0 _ rfl
      have p1 := hc 1 _ rfl
      have p2 := hc 2 _ rfl
      have p3 := hc 3 _ rfl
      rw [Nat.add_zero] at p0
      rw [← Nat.add_assoc] at p1 p2 p3
      have s0 := hd 0 _ rfl
      have s1 := hd 1 _ rfl
      have s2 := hd 2 _ rfl
      have s3 := hd 3 _ rfl
      rw [Nat.add_zero] at s0
      rw [← Nat.add_assoc] at s1 s2 s3
      clear hc hd hx HA HB HN
      go_wp2_with fail
      go_quiet (fail)
      go_wp2_with fail
      go_roundw
      case measure => simp [intOf] <;> omega
      case rel => exact ⟨k + 1, by omega, by go_num, _, rfl⟩
    · go_wp2_with fail
      go_ret
      exact ⟨rfl, (Below.refl _ _).drewN _⟩

def ActB (q : Nat) (z1 z2 z3 z4 z5 z6 : Int) (an : Bool) (as_ ad_ : ByteArray) (cn : Bool) (cs cd : ByteArray) (A1 : Option Addr) (n1 c1 : Nat) (A2 : Option Addr) (n2 c2 : Nat) (W : World) : Prop := W.heap[q]? = some (.cells #[.int .i64 z1, .int .i64 z2, .int .i64 z3, .int .i64 z4, .int .i64 z5, .int .i64 z6, .bool an, .string as_, .string ad_, .bool cn, .string cs, .string cd, .slice A1 n1 c1, .slice A2 n2 c2] 34 (0, 0))
theorem ActB.cells {q : Nat} {z1 z2 z3 z4 z5 z6 : Int} {an : Bool} {as_ ad_ : ByteArray} {cn : Bool} {cs cd : ByteArray} {A1 : Option Addr} {n1 c1 : Nat} {A2 : Option Addr} {n2 c2 : Nat} {W : World} (h : ActB q z1 z2 z3 z4 z5 z6 an as_ ad_ cn cs cd A1 n1 c1 A2 n2 c2 W) : W.cell? ⟨q, 0, none⟩ = some (.int .i64 z1) ∧ W.cell? ⟨q, 1, none⟩ = some (.int .i64 z2) ∧ W.cell? ⟨q, 2, none⟩ = some (.int .i64 z3) ∧ W.cell? ⟨q, 3, none⟩ = some (.int .i64 z4) ∧ W.cell? ⟨q, 4, none⟩ = some (.int .i64 z5) ∧ W.cell? ⟨q, 5, none⟩ = some (.int .i64 z6) ∧ W.cell? ⟨q, 6, none⟩ = some (.bool an) ∧ W.cell? ⟨q, 7, none⟩ = some (.string as_) ∧ W.cell? ⟨q, 8, none⟩ = some (.string ad_) ∧ W.cell? ⟨q, 9, none⟩ = some (.bool cn) ∧ W.cell? ⟨q, 10, none⟩ = some (.string cs) ∧ W.cell? ⟨q, 11, none⟩ = some (.string cd) ∧ W.cell? ⟨q, 12, none⟩ = some (.slice A1 n1 c1) ∧ W.cell? ⟨q, 13, none⟩ = some (.slice A2 n2 c2) := by
  refine ⟨?_, ?_, ?_, ?_, ?_, ?_, ?_, ?_, ?_, ?_, ?_, ?_, ?_, ?_⟩
  · rw [cell_of_row W q 0 _ _ (0, 0) h]; rfl
  · rw [cell_of_row W q 1 _ _ (0, 0) h]; rfl
  · rw [cell_of_row W q 2 _ _ (0, 0) h]; rfl
  · rw [cell_of_row W q 3 _ _ (0, 0) h]; rfl
  · rw [cell_of_row W q 4 _ _ (0, 0) h]; rfl
  · rw [cell_of_row W q 5 _ _ (0, 0) h]; rfl
  · rw [cell_of_row W q 6 _ _ (0, 0) h]; rfl
  · rw [cell_of_row W q 7 _ _ (0, 0) h]; rfl
  · rw [cell_of_row W q 8 _ _ (0, 0) h]; rfl
  · rw [cell_of_row W q 9 _ _ (0, 0) h]; rfl
  · rw [cell_of_row W q 10 _ _ (0, 0) h]; rfl
  · rw [cell_of_row W q 11 _ _ (0, 0) h]; rfl
  · rw [cell_of_row W q 12 _ _ (0, 0) h]; rfl
  · rw [cell_of_row W q 13 _ _ (0, 0) h]; rfl
def Act2 (q : Nat) (z1 z2 z3 z4 z5 z6 : Int) (an : Bool) (as_ ad_ : ByteArray) (cn : Bool) (cs cd : ByteArray) (A1 : Option Addr) (n1 c1 : Nat) (A2 : Option Addr) (n2 c2 : Nat) (B1 : Option Addr) (d1 : Nat) (B2 : Option Addr) (d2 : Nat) (W : World) : Prop := ActB q z1 z2 z3 z4 z5 z6 an as_ ad_ cn cs cd A1 n1 c1 A2 n2 c2 W ∧ ActB (q + 1) z1 z2 z3 z4 z5 z6 an as_ ad_ cn cs cd B1 n1 d1 B2 n2 d2 W
theorem Act2.next {q : Nat} {z1 z2 z3 z4 z5 z6 : Int} {an : Bool} {as_ ad_ : ByteArray} {cn : Bool} {cs cd : ByteArray} {A1 : Option Addr} {n1 c1 : Nat} {A2 : Option Addr} {n2 c2 : Nat} {B1 : Option Addr} {d1 : Nat} {B2 : Option Addr} {d2 : Nat} {W W' : World} (h : Act2 q z1 z2 z3 z4 z5 z6 an as_ ad_ cn cs cd A1 n1 c1 A2 n2 c2 B1 d1 B2 d2 W) (hb : Below W.heap.size W W') : Act2 q z1 z2 z3 z4 z5 z6 an as_ ad_ cn cs cd A1 n1 c1 A2 n2 c2 B1 d1 B2 d2 W' := ⟨blk_next h.1 hb, blk_next h.2 hb⟩

set_option maxHeartbeats 8000000 in
set_option maxRecDepth 100000 in
theorem sameAct_calls (z1 z2 z3 z4 z5 z6 : Int) (an : Bool) (as_ ad_ : ByteArray) (cn : Bool) (cs cd : ByteArray) (A1 : Option Addr) (n1 c1 : Nat) (A2 : Option Addr) (n2 c2 : Nat) (B1 : Option Addr) (d1 : Nat) (B2 : Option Addr) (d2 : Nat) (legs : List (Int × Int)) (opts : List (RQ × Int)) (w : World) (e1 : n1 = legs.length) (e2 : n2 = opts.length) (r1 : Rd w w.heap.size 2 A1 legs.length (legs.flatMap legV)) (r2 : Rd w w.heap.size 4 A2 opts.length (opts.flatMap optV)) (s1 : Rd w w.heap.size 2 B1 legs.length (legs.flatMap legV)) (s2 : Rd w w.heap.size 4 B2 opts.length (opts.flatMap optV)) (g1 : n1 ≤ maxLen) (g2 : n2 ≤ maxLen) :
    Calls Tryd.prog 32 #[.agg #[.int .i64 z1, .int .i64 z2, .int .i64 z3, .int .i64 z4, .int .i64 z5, .int .i64 z6, .bool an, .string as_, .string ad_, .bool cn, .string cs, .string cd, .slice A1 n1 c1, .slice A2 n2 c2], .agg #[.int .i64 z1, .int .i64 z2, .int .i64 z3, .int .i64 z4, .int .i64 z5, .int .i64 z6, .bool an, .string as_, .string ad_, .bool cn, .string cs, .string cd, .slice B1 n1 d1, .slice B2 n2 d2]] w fun e w' => e = .returned (.bool true) ∧ Below w.heap.size w w' := by
  unfold maxLen at g1 g2
  have HN := Lib.hid (And.intro e1 e2)
  have HRR := Lib.hid (And.intro r1 (And.intro r2 (And.intro s1 s2)))
  clear e1 e2 r1 r2 s1 s2
  obtain ⟨w0, hw0⟩ : ∃ W, W = (w.alloc (.cells #[.int .i64 z1, .int .i64 z2, .int .i64 z3, .int .i64 z4, .int .i64 z5, .int .i64 z6, .bool an, .string as_, .string ad_, .bool cn, .string cs, .string cd, .slice A1 n1 c1, .slice A2 n2 c2] 34)).alloc (.cells #[.int .i64 z1, .int .i64 z2, .int .i64 z3, .int .i64 z4, .int .i64 z5, .int .i64 z6, .bool an, .string as_, .string ad_, .bool cn, .string cs, .string cd, .slice B1 n1 d1, .slice B2 n2 d2] 34) := ⟨_, rfl⟩
  obtain ⟨q, hq⟩ : ∃ q, q = w.heap.size := ⟨_, rfl⟩
  have HB0 : Hid (Below w.heap.size w w0) := by rw [hw0]; exact (bel_alloc _ _).alloc (by simp) _
  have HS0 : Hid (Act2 q z1 z2 z3 z4 z5 z6 an as_ ad_ cn cs cd A1 n1 c1 A2 n2 c2 B1 d1 B2 d2 w0) := by
    rw [hw0, hq]
    refine ⟨blk_alloc (blk_new _ _), ?_⟩
    have := blk_new (w.alloc (.cells #[.int .i64 z1, .int .i64 z2, .int .i64 z3, .int .i64 z4, .int .i64 z5, .int .i64 z6, .bool an, .string as_, .string ad_, .bool cn, .string cs, .string cd, .slice A1 n1 c1, .slice A2 n2 c2] 34)) (.cells #[.int .i64 z1, .int .i64 z2, .int .i64 z3, .int .i64 z4, .int .i64 z5, .int .i64 z6, .bool an, .string as_, .string ad_, .bool cn, .string cs, .string cd, .slice B1 n1 d1, .slice B2 n2 d2] 34)
    rw [World.size_alloc] at this
    exact this
  go_enter Tryd.func32, Tryd.ntmps32
  go_upto_region 1 with fail
  rw [← hw0, ← hq]
  have HQ := Lib.hid hq
  clear hw0 hq
  obtain ⟨W0, hW0⟩ : ∃ W, W = w0.drew := ⟨_, rfl⟩
  have hS : Act2 q z1 z2 z3 z4 z5 z6 an as_ ad_ cn cs cd A1 n1 c1 A2 n2 c2 B1 d1 B2 d2 W0 := by rw [hW0]; exact HS0.out
  have HBd : Hid (Below w.heap.size w W0) := by rw [hW0]; exact HB0.out.drew
  refine wp_region_held_drew (S := (Act2 q z1 z2 z3 z4 z5 z6 an as_ ad_ cn cs cd A1 n1 c1 A2 n2 c2 B1 d1 B2 d2)) (by kernel_rfl) (by rw [← hW0]; exact hS) ?_
  rw [← hW0]
  intro _
  clear hW0 HS0 HB0
  refine wpAnyH_take (i := 0) (v := .agg #[.int .i64 z1, .int .i64 z2, .int .i64 z3, .int .i64 z4, .int .i64 z5, .int .i64 z6, .bool an, .string as_, .string ad_, .bool cn, .string cs, .string cd, .slice A1 n1 c1, .slice A2 n2 c2]) rfl (by kernel_rfl) (by kernel_rfl) (by kernel_rfl) (fun _ _ _ h => h) (Or.inl ⟨by kernel_rfl, (by intro w' hw'; obtain ⟨k0, k1, k2, k3, k4, k5, k6, k7, k8, k9, k10, k11, k12, k13⟩ := ActB.cells hw'.1; go_simp)⟩) hS ?_
  go_simp
  refine wpAnyH_take (i := 2) (v := .agg #[.int .i64 z1, .int .i64 z2, .int .i64 z3, .int .i64 z4, .int .i64 z5, .int .i64 z6, .bool an, .string as_, .string ad_, .bool cn, .string cs, .string cd, .slice B1 n1 d1, .slice B2 n2 d2]) rfl (by kernel_rfl) (by kernel_rfl) (by kernel_rfl) (fun _ _ _ h => h) (Or.inl ⟨by kernel_rfl, (by intro w' hw'; obtain ⟨k0, k1, k2, k3, k4, k5, k6, k7, k8, k9, k10, k11, k12, k13⟩ := ActB.cells hw'.2; go_simp)⟩) hS ?_
  go_simp
  refine wpAnyH_ready (rs := [1]) (by kernel_rfl) (by simp) ?_
  refine AllReadyH.cons rfl (fun K hK => ?_) AllReadyH.nil
  go_simp
  refine (ints_calls z1 z2 z3 z4 z5 z6 an as_ ad_ cn cs cd A1 n1 c1 A2 n2 c2 W0).mono ?_
  rintro e wa ⟨rfl, hg, hb, _⟩
  have hSa := hS.next hb
  have HBa : Hid (Below w.heap.size w wa) := HBd.out.trans (hb.mono HBd.out.size)
  have HG1 : Hid (Rd wa wa.heap.size 1 (some ⟨W0.heap.size + 1, 0, none⟩) 6 (i64V [z1, z2, z3, z4, z5, z6])) := rd_of_block hg rfl
  clear hg hb hS HBd
  refine hK.out _ _ hSa (fun _ => ?_)
  clear hK K
  refine wpAnyH_ready (rs := [3]) (by kernel_rfl) (by simp) ?_
  refine AllReadyH.cons rfl (fun K hK => ?_) AllReadyH.nil
  go_simp
  refine (ints_calls z1 z2 z3 z4 z5 z6 an as_ ad_ cn cs cd B1 n1 d1 B2 n2 d2 wa).mono ?_
  rintro e wb ⟨rfl, hg, hb, _⟩
  have hSb := hSa.next hb
  have HBb : Hid (Below w.heap.size w wb) := HBa.out.trans (hb.mono HBa.out.size)
  have HG1b := Lib.hid (HG1.out.next hb)
  have HG2 : Hid (Rd wb wb.heap.size 1 (some ⟨wa.heap.size + 1, 0, none⟩) 6 (i64V [z1, z2, z3, z4, z5, z6])) := rd_of_block hg rfl
  clear hg hb hSa HBa HG1
  refine hK.out _ _ hSb (fun _ => ?_)
  clear hK K
  refine wpAnyH_ready (rs := [4]) (by kernel_rfl) (by simp) ?_
  refine AllReadyH.cons rfl (fun K hK => ?_) AllReadyH.nil
  go_simp
  refine (sameInts_calls _ _ 6 6 6 6 [z1, z2, z3, z4, z5, z6] [z1, z2, z3, z4, z5, z6] wb rfl rfl HG1b.out HG2.out (by decide) (by decide) true (by simp)).mono ?_
  rintro e wc ⟨rfl, hb⟩
  have hSc := hSb.next hb
  have HBc : Hid (Below w.heap.size w wc) := HBb.out.trans (hb.mono HBb.out.size)
  clear hb hSb HBb HG1b HG2
  refine hK.out _ _ hSc (fun _ => ?_)
  clear hK K
  refine wpAnyH_take (i := 5) (v := .bool false) rfl (by kernel_rfl) (by kernel_rfl) (by kernel_rfl) (fun _ _ _ h => h) (Or.inl ⟨by kernel_rfl, (by intro w' _; go_simp)⟩) hSc ?_
  go_simp
  refine wpAnyH_take (i := 6) rfl (by kernel_rfl) (by kernel_rfl) (by kernel_rfl) (fun _ _ _ h => h) (Or.inl ⟨by kernel_rfl, (by intro w' _; go_simp; with_reducible rfl)⟩) hSc ?_
  go_simp
  refine wpAnyH_take (i := 7) rfl (by kernel_rfl) (by kernel_rfl) (by kernel_rfl) (fun _ _ _ h => h) (Or.inl ⟨by kernel_rfl, (by intro w' _; go_simp; with_reducible rfl)⟩) hSc ?_
  go_simp
  refine wpAnyH_take (i := 8) (v := .agg #[.bool an, .string as_, .string ad_]) rfl (by kernel_rfl) (by kernel_rfl) (by kernel_rfl) (fun _ _ _ h => h) (Or.inl ⟨by kernel_rfl, (by intro w' hw'; obtain ⟨k0, k1, k2, k3, k4, k5, k6, k7, k8, k9, k10, k11, k12, k13⟩ := ActB.cells hw'.1; go_simp)⟩) hSc ?_
  go_simp
  refine wpAnyH_take (i := 9) rfl (by kernel_rfl) (by kernel_rfl) (by kernel_rfl) (fun _ _ _ h => h) (Or.inl ⟨by kernel_rfl, (by intro w' _; go_simp; with_reducible rfl)⟩) hSc ?_
  go_simp
  refine wpAnyH_take (i := 10) (v := .agg #[.bool an, .string as_, .string ad_]) rfl (by kernel_rfl) (by kernel_rfl) (by kernel_rfl) (fun _ _ _ h => h) (Or.inl ⟨by kernel_rfl, (by intro w' hw'; obtain ⟨k0, k1, k2, k3, k4, k5, k6, k7, k8, k9, k10, k11, k12, k13⟩ := ActB.cells hw'.2; go_simp)⟩) hSc ?_
  go_simp
  refine wpAnyH_take (i := 11) (v := .bool false) rfl (by kernel_rfl) (by kernel_rfl) (by kernel_rfl) (fun _ _ _ h => h) (Or.inl ⟨by kernel_rfl, (by intro w' _; go_simp)⟩) hSc ?_
  go_simp
  refine wpAnyH_take (i := 12) (v := .bool false) rfl (by kernel_rfl) (by kernel_rfl) (by kernel_rfl) (fun _ _ _ h => h) (Or.inl ⟨by kernel_rfl, (by intro w' _; go_simp)⟩) hSc ?_
  go_simp
  refine wpAnyH_take (i := 13) rfl (by kernel_rfl) (by kernel_rfl) (by kernel_rfl) (fun _ _ _ h => h) (Or.inl ⟨by kernel_rfl, (by intro w' _; go_simp; with_reducible rfl)⟩) hSc ?_
  go_simp
  refine wpAnyH_take (i := 14) rfl (by kernel_rfl) (by kernel_rfl) (by kernel_rfl) (fun _ _ _ h => h) (Or.inl ⟨by kernel_rfl, (by intro w' _; go_simp; with_reducible rfl)⟩) hSc ?_
  go_simp
  refine wpAnyH_take (i := 15) (v := .agg #[.bool cn, .string cs, .string cd]) rfl (by kernel_rfl) (by kernel_rfl) (by kernel_rfl) (fun _ _ _ h => h) (Or.inl ⟨by kernel_rfl, (by intro w' hw'; obtain ⟨k0, k1, k2, k3, k4, k5, k6, k7, k8, k9, k10, k11, k12, k13⟩ := ActB.cells hw'.1; go_simp)⟩) hSc ?_
  go_simp
  refine wpAnyH_take (i := 16) rfl (by kernel_rfl) (by kernel_rfl) (by kernel_rfl) (fun _ _ _ h => h) (Or.inl ⟨by kernel_rfl, (by intro w' _; go_simp; with_reducible rfl)⟩) hSc ?_
  go_simp
  refine wpAnyH_take (i := 17) (v := .agg #[.bool cn, .string cs, .string cd]) rfl (by kernel_rfl) (by kernel_rfl) (by kernel_rfl) (fun _ _ _ h => h) (Or.inl ⟨by kernel_rfl, (by intro w' hw'; obtain ⟨k0, k1, k2, k3, k4, k5, k6, k7, k8, k9, k10, k11, k12, k13⟩ := ActB.cells hw'.2; go_simp)⟩) hSc ?_
  go_simp
  refine wpAnyH_take (i := 18) (v := .bool false) rfl (by kernel_rfl) (by kernel_rfl) (by kernel_rfl) (fun _ _ _ h => h) (Or.inl ⟨by kernel_rfl, (by intro w' _; go_simp)⟩) hSc ?_
  go_simp
  refine wpAnyH_take (i := 19) (v := .bool false) rfl (by kernel_rfl) (by kernel_rfl) (by kernel_rfl) (fun _ _ _ h => h) (Or.inl ⟨by kernel_rfl, (by intro w' _; go_simp)⟩) hSc ?_
  go_simp
  refine wpAnyH_take (i := 20) rfl (by kernel_rfl) (by kernel_rfl) (by kernel_rfl) (fun _ _ _ h => h) (Or.inl ⟨by kernel_rfl, (by intro w' _; go_simp; with_reducible rfl)⟩) hSc ?_
  go_simp
  refine wpAnyH_take (i := 21) rfl (by kernel_rfl) (by kernel_rfl) (by kernel_rfl) (fun _ _ _ h => h) (Or.inl ⟨by kernel_rfl, (by intro w' _; go_simp; with_reducible rfl)⟩) hSc ?_
  go_simp
  refine wpAnyH_take (i := 22) (v := .slice A1 n1 c1) rfl (by kernel_rfl) (by kernel_rfl) (by kernel_rfl) (fun _ _ _ h => h) (Or.inl ⟨by kernel_rfl, (by intro w' hw'; obtain ⟨k0, k1, k2, k3, k4, k5, k6, k7, k8, k9, k10, k11, k12, k13⟩ := ActB.cells hw'.1; go_simp)⟩) hSc ?_
  go_simp
  refine wpAnyH_take (i := 23) rfl (by kernel_rfl) (by kernel_rfl) (by kernel_rfl) (fun _ _ _ h => h) (Or.inl ⟨by kernel_rfl, (by intro w' _; go_simp; with_reducible rfl)⟩) hSc ?_
  go_simp
  refine wpAnyH_take (i := 24) rfl (by kernel_rfl) (by kernel_rfl) (by kernel_rfl) (fun _ _ _ h => h) (Or.inl ⟨by kernel_rfl, (by intro w' _; go_simp; with_reducible rfl)⟩) hSc ?_
  go_simp
  refine wpAnyH_take (i := 25) (v := .slice B1 n1 d1) rfl (by kernel_rfl) (by kernel_rfl) (by kernel_rfl) (fun _ _ _ h => h) (Or.inl ⟨by kernel_rfl, (by intro w' hw'; obtain ⟨k0, k1, k2, k3, k4, k5, k6, k7, k8, k9, k10, k11, k12, k13⟩ := ActB.cells hw'.2; go_simp)⟩) hSc ?_
  go_simp
  refine wpAnyH_take (i := 26) rfl (by kernel_rfl) (by kernel_rfl) (by kernel_rfl) (fun _ _ _ h => h) (Or.inl ⟨by kernel_rfl, (by intro w' _; go_simp; with_reducible rfl)⟩) hSc ?_
  go_simp
  refine wpAnyH_take (i := 27) rfl (by kernel_rfl) (by kernel_rfl) (by kernel_rfl) (fun _ _ _ h => h) (Or.inl ⟨by kernel_rfl, (by intro w' _; go_simp; with_reducible rfl)⟩) hSc ?_
  go_simp
  refine wpAnyH_take (i := 28) rfl (by kernel_rfl) (by kernel_rfl) (by kernel_rfl) (fun _ _ _ h => h) (Or.inl ⟨by kernel_rfl, (by intro w' _; go_simp; with_reducible rfl)⟩) hSc ?_
  go_simp
  refine wpAnyH_take (i := 29) rfl (by kernel_rfl) (by kernel_rfl) (by kernel_rfl) (fun _ _ _ h => h) (Or.inl ⟨by kernel_rfl, (by intro w' _; go_simp; with_reducible rfl)⟩) hSc ?_
  go_simp
  refine wpAnyH_take (i := 30) rfl (by kernel_rfl) (by kernel_rfl) (by kernel_rfl) (fun _ _ _ h => h) (Or.inl ⟨by kernel_rfl, (by intro w' _; go_simp; with_reducible rfl)⟩) hSc ?_
  go_simp
  refine wpAnyH_take (i := 31) (v := .slice A2 n2 c2) rfl (by kernel_rfl) (by kernel_rfl) (by kernel_rfl) (fun _ _ _ h => h) (Or.inl ⟨by kernel_rfl, (by intro w' hw'; obtain ⟨k0, k1, k2, k3, k4, k5, k6, k7, k8, k9, k10, k11, k12, k13⟩ := ActB.cells hw'.1; go_simp)⟩) hSc ?_
  go_simp
  refine wpAnyH_take (i := 32) rfl (by kernel_rfl) (by kernel_rfl) (by kernel_rfl) (fun _ _ _ h => h) (Or.inl ⟨by kernel_rfl, (by intro w' _; go_simp; with_reducible rfl)⟩) hSc ?_
  go_simp
  refine wpAnyH_take (i := 33) rfl (by kernel_rfl) (by kernel_rfl) (by kernel_rfl) (fun _ _ _ h => h) (Or.inl ⟨by kernel_rfl, (by intro w' _; go_simp; with_reducible rfl)⟩) hSc ?_
  go_simp
  refine wpAnyH_take (i := 34) (v := .slice B2 n2 d2) rfl (by kernel_rfl) (by kernel_rfl) (by kernel_rfl) (fun _ _ _ h => h) (Or.inl ⟨by kernel_rfl, (by intro w' hw'; obtain ⟨k0, k1, k2, k3, k4, k5, k6, k7, k8, k9, k10, k11, k12, k13⟩ := ActB.cells hw'.2; go_simp)⟩) hSc ?_
  go_simp
  refine wpAnyH_take (i := 35) rfl (by kernel_rfl) (by kernel_rfl) (by kernel_rfl) (fun _ _ _ h => h) (Or.inl ⟨by kernel_rfl, (by intro w' _; go_simp; with_reducible rfl)⟩) hSc ?_
  go_simp
  refine wpAnyH_take (i := 36) rfl (by kernel_rfl) (by kernel_rfl) (by kernel_rfl) (fun _ _ _ h => h) (Or.inl ⟨by kernel_rfl, (by intro w' _; go_simp; with_reducible rfl)⟩) hSc ?_
  go_simp
  refine wpAnyH_take (i := 37) rfl (by kernel_rfl) (by kernel_rfl) (by kernel_rfl) (fun _ _ _ h => h) (Or.inl ⟨by kernel_rfl, (by intro w' _; go_simp; with_reducible rfl)⟩) hSc ?_
  go_simp
  refine wpAnyH_done (by kernel_rfl) ?_ _
  have HSc := Lib.hid hSc
  clear hSc
  go_wp2_with fail
  obtain ⟨_, _, _, _, _, _, _, _, _, _, _, _, k12, k13⟩ := ActB.cells HSc.out.1
  obtain ⟨_, _, _, _, _, _, _, _, _, _, _, _, j12, j13⟩ := ActB.cells HSc.out.2
  have HL := Lib.hid (And.intro (HRR.out.1.next HBc.out) (And.intro (HRR.out.2.1.next HBc.out) (And.intro (HRR.out.2.2.1.next HBc.out) (HRR.out.2.2.2.next HBc.out))))
  clear HRR HSc
  go_loopw [5] (fun i wr => ∃ k : Nat, k ≤ n1 ∧ i = .int .i64 (k : Int) ∧ ∃ m, wr = wc.drewN m) (fun i _ => n1 - (intOf i).toNat)
  case atStart => exact ⟨0, Nat.zero_le _, rfl, 0, rfl⟩
  case round =>
    obtain ⟨k, hk, rfl, m, rfl⟩ := hrel
    by_cases hlt : k < n1
    · obtain ⟨x, hx⟩ := getElem?_of_lt (l := legs) (k := k) (by rw [← HN.out.1]; exact hlt)
      obtain ⟨b, off, hA, _, hc⟩ := Rd.at_ (enc := legV) (fun _ => rfl) HL.out.1 hx
      subst hA
      obtain ⟨b', off', hA, _, hd⟩ := Rd.at_ (enc := legV) (fun _ => rfl) HL.out.2.2.1 hx
      subst hA
      obtain ⟨x, y⟩ := x
      have p0 := hc 0 _ rfl
      have p1 := hc 1 _ rfl
      rw [Nat.add_zero] at p0
      rw [← Nat.add_assoc] at p1
      have s0 := hd 0 _ rfl
      have s1 := hd 1 _ rfl
      rw [Nat.add_zero] at s0
      rw [← Nat.add_assoc] at s1
      clear hc hd hx HL HN
      go_wp2_with fail
      go_quiet (fail)
      go_wp2_with fail
      go_roundw
      case measure => simp [intOf] <;> omega
      case rel => exact ⟨k + 1, by omega, by go_num, _, rfl⟩
    · obtain ⟨wo, hwo⟩ : ∃ W, W = wc.drewN m := ⟨_, rfl⟩
      have HBw : Hid (Below w.heap.size w wo) := by rw [hwo]; exact HBc.out.drewN _
      rw [← hwo]
      replace k12 : wo.cell? ⟨q, 12, none⟩ = some (.slice A1 n1 c1) := by rw [hwo]; exact k12
      replace k13 : wo.cell? ⟨q, 13, none⟩ = some (.slice A2 n2 c2) := by rw [hwo]; exact k13
      replace j12 : wo.cell? ⟨q + 1, 12, none⟩ = some (.slice B1 n1 d1) := by rw [hwo]; exact j12
      replace j13 : wo.cell? ⟨q + 1, 13, none⟩ = some (.slice B2 n2 d2) := by rw [hwo]; exact j13
      have HL2 : Hid (Rd wo wo.heap.size 2 A1 legs.length (legs.flatMap legV) ∧ Rd wo wo.heap.size 4 A2 opts.length (opts.flatMap optV) ∧ Rd wo wo.heap.size 2 B1 legs.length (legs.flatMap legV) ∧ Rd wo wo.heap.size 4 B2 opts.length (opts.flatMap optV)) := by rw [hwo]; exact HL.out
      clear HL HBc hwo
      have HL := HL2
      clear HL2
      go_wp2_with fail
      go_loopw [6] (fun i wr => ∃ k : Nat, k ≤ n2 ∧ i = .int .i64 (k : Int) ∧ ∃ m, wr = wo.drewN m) (fun i _ => n2 - (intOf i).toNat)
      case atStart => exact ⟨0, Nat.zero_le _, rfl, 0, rfl⟩
      case round =>
        obtain ⟨k, hk, rfl, m, rfl⟩ := hrel
        by_cases hlt : k < n2
        · obtain ⟨x, hx⟩ := getElem?_of_lt (l := opts) (k := k) (by rw [← HN.out.2]; exact hlt)
          obtain ⟨b, off, hA, _, hc⟩ := Rd.at_ (enc := optV) (fun _ => rfl) HL.out.2.1 hx
          subst hA
          obtain ⟨b', off', hA, _, hd⟩ := Rd.at_ (enc := optV) (fun _ => rfl) HL.out.2.2.2 hx
          subst hA
          obtain ⟨⟨ng, nu, de⟩, y⟩ := x
          have p0 := hc 0 _ rfl
          have p1 := hc 1 _ rfl
          have p2 := hc 2 _ rfl
          have p3 := hc 3 _ rfl
          rw [Nat.add_zero] at p0
          rw [← Nat.add_assoc] at p1 p2 p3
          have s0 := hd 0 _ rfl
          have s1 := hd 1 _ rfl
          have s2 := hd 2 _ rfl
          have s3 := hd 3 _ rfl
          rw [Nat.add_zero] at s0
          rw [← Nat.add_assoc] at s1 s2 s3
          clear hc hd hx HL HN
          go_wp2_with fail
          go_quiet (fail)
          go_wp2_with fail
          go_roundw
          case measure => simp [intOf] <;> omega
          case rel => exact ⟨k + 1, by omega, by go_num, _, rfl⟩
        · go_wp2_with fail
          go_ret
          exact ⟨rfl, HBw.out.drewN _⟩

set_option maxHeartbeats 4000000 in
set_option maxRecDepth 100000 in
theorem sameRecord_calls (z1 z2 z3 z4 z5 z6 : Int) (an : Bool) (as_ ad_ : ByteArray) (cn : Bool) (cs cd : ByteArray) (A1 : Option Addr) (n1 c1 : Nat) (A2 : Option Addr) (n2 c2 : Nat) (A3 : Option Addr) (n3 c3 : Nat) (B1 : Option Addr) (d1 : Nat) (B2 : Option Addr) (d2 : Nat) (B3 : Option Addr) (d3 : Nat) (legs : List (Int × Int)) (opts : List (RQ × Int)) (pays : List Pay) (w : World) (e1 : n1 = legs.length) (e2 : n2 = opts.length) (e3 : n3 = pays.length) (r1 : Rd w w.heap.size 2 A1 legs.length (legs.flatMap legV)) (r2 : Rd w w.heap.size 4 A2 opts.length (opts.flatMap optV)) (r3 : Rd w w.heap.size 4 A3 pays.length (pays.flatMap payV)) (s1 : Rd w w.heap.size 2 B1 legs.length (legs.flatMap legV)) (s2 : Rd w w.heap.size 4 B2 opts.length (opts.flatMap optV)) (s3 : Rd w w.heap.size 4 B3 pays.length (pays.flatMap payV)) (g1 : n1 ≤ maxLen) (g2 : n2 ≤ maxLen) (g3 : n3 ≤ maxLen) :
    Calls Tryd.prog 20 #[.agg #[.int .i64 z1, .int .i64 z2, .int .i64 z3, .int .i64 z4, .int .i64 z5, .int .i64 z6, .bool an, .string as_, .string ad_, .bool cn, .string cs, .string cd, .slice A1 n1 c1, .slice A2 n2 c2, .slice A3 n3 c3], .agg #[.int .i64 z1, .int .i64 z2, .int .i64 z3, .int .i64 z4, .int .i64 z5, .int .i64 z6, .bool an, .string as_, .string ad_, .bool cn, .string cs, .string cd, .slice B1 n1 d1, .slice B2 n2 d2, .slice B3 n3 d3]] w fun e w' => e = .returned (.bool true) ∧ Below w.heap.size w w' := by
  have H1 := Lib.hid (fun W (hW : Below w.heap.size w W) => sameAct_calls z1 z2 z3 z4 z5 z6 an as_ ad_ cn cs cd A1 n1 c1 A2 n2 c2 B1 d1 B2 d2 legs opts W e1 e2 (r1.next hW) (r2.next hW) (s1.next hW) (s2.next hW) g1 g2)
  have H2 := Lib.hid (fun W (hW : Below w.heap.size w W) => samePayments_calls A3 B3 n3 c3 d3 pays W e3 (r3.next hW) (s3.next hW) g3)
  clear e1 e2 e3 r1 r2 r3 s1 s2 s3 g1 g2 g3
  obtain ⟨w0, hw0⟩ : ∃ W, W = (w.alloc (.cells #[.int .i64 z1, .int .i64 z2, .int .i64 z3, .int .i64 z4, .int .i64 z5, .int .i64 z6, .bool an, .string as_, .string ad_, .bool cn, .string cs, .string cd, .slice A1 n1 c1, .slice A2 n2 c2, .slice A3 n3 c3] 37)).alloc (.cells #[.int .i64 z1, .int .i64 z2, .int .i64 z3, .int .i64 z4, .int .i64 z5, .int .i64 z6, .bool an, .string as_, .string ad_, .bool cn, .string cs, .string cd, .slice B1 n1 d1, .slice B2 n2 d2, .slice B3 n3 d3] 37) := ⟨_, rfl⟩
  have HB0 : Hid (Below w.heap.size w w0) := by rw [hw0]; exact (bel_alloc _ _).alloc (by simp) _
  have HC0 : Hid (RecS w.heap.size z1 z2 z3 z4 z5 z6 an as_ ad_ cn cs cd A1 n1 c1 A2 n2 c2 A3 n3 c3 w0) := by rw [hw0]; exact blk_alloc (blk_new _ _)
  have HD0 : Hid (RecS (w.heap.size + 1) z1 z2 z3 z4 z5 z6 an as_ ad_ cn cs cd B1 n1 d1 B2 n2 d2 B3 n3 d3 w0) := by
    rw [hw0]
    have := blk_new (w.alloc (.cells #[.int .i64 z1, .int .i64 z2, .int .i64 z3, .int .i64 z4, .int .i64 z5, .int .i64 z6, .bool an, .string as_, .string ad_, .bool cn, .string cs, .string cd, .slice A1 n1 c1, .slice A2 n2 c2, .slice A3 n3 c3] 37)) (.cells #[.int .i64 z1, .int .i64 z2, .int .i64 z3, .int .i64 z4, .int .i64 z5, .int .i64 z6, .bool an, .string as_, .string ad_, .bool cn, .string cs, .string cd, .slice B1 n1 d1, .slice B2 n2 d2, .slice B3 n3 d3] 37)
    rw [World.size_alloc] at this
    exact this
  go_enter Tryd.func20, Tryd.ntmps20
  go_upto_region 1 with fail
  rw [← hw0]
  clear hw0
  obtain ⟨k0, k1, k2, k3, k4, k5, k6, k7, k8, k9, k10, k11, k12, k13, k14⟩ := RecS.cells z1 z2 z3 z4 z5 z6 an as_ ad_ cn cs cd A1 n1 c1 A2 n2 c2 A3 n3 c3 HC0.out
  obtain ⟨j0, j1, j2, j3, j4, j5, j6, j7, j8, j9, j10, j11, j12, j13, j14⟩ := RecS.cells z1 z2 z3 z4 z5 z6 an as_ ad_ cn cs cd B1 n1 d1 B2 n2 d2 B3 n3 d3 HD0.out
  go_wp2_with fail
  clear k0 k1 k2 k3 k4 k5 k6 k7 k8 k9 k10 k11 k12 k13 k14 j0 j1 j2 j3 j4 j5 j6 j7 j8 j9 j10 j11 j12 j13 j14
  refine (H1.out _ HB0.out).mono ?_
  rintro e w1 ⟨rfl, hb⟩
  have HB1 : Hid (Below w.heap.size w w1) := HB0.out.trans (hb.mono HB0.out.size)
  have HC1 : Hid (RecS w.heap.size z1 z2 z3 z4 z5 z6 an as_ ad_ cn cs cd A1 n1 c1 A2 n2 c2 A3 n3 c3 w1) := RecS.below z1 z2 z3 z4 z5 z6 an as_ ad_ cn cs cd A1 n1 c1 A2 n2 c2 A3 n3 c3 HC0.out hb
  have HD1 : Hid (RecS (w.heap.size + 1) z1 z2 z3 z4 z5 z6 an as_ ad_ cn cs cd B1 n1 d1 B2 n2 d2 B3 n3 d3 w1) := RecS.below z1 z2 z3 z4 z5 z6 an as_ ad_ cn cs cd B1 n1 d1 B2 n2 d2 B3 n3 d3 HD0.out hb
  clear hb HB0 HC0 HD0 H1
  obtain ⟨k0, k1, k2, k3, k4, k5, k6, k7, k8, k9, k10, k11, k12, k13, k14⟩ := RecS.cells z1 z2 z3 z4 z5 z6 an as_ ad_ cn cs cd A1 n1 c1 A2 n2 c2 A3 n3 c3 HC1.out
  obtain ⟨j0, j1, j2, j3, j4, j5, j6, j7, j8, j9, j10, j11, j12, j13, j14⟩ := RecS.cells z1 z2 z3 z4 z5 z6 an as_ ad_ cn cs cd B1 n1 d1 B2 n2 d2 B3 n3 d3 HD1.out
  go_wp2_with fail
  clear k0 k1 k2 k3 k4 k5 k6 k7 k8 k9 k10 k11 k12 k13 k14 j0 j1 j2 j3 j4 j5 j6 j7 j8 j9 j10 j11 j12 j13 j14
  refine (H2.out _ HB1.out).mono ?_
  rintro e w2 ⟨rfl, hb⟩
  have HB2 : Hid (Below w.heap.size w w2) := HB1.out.trans (hb.mono HB1.out.size)
  clear hb HB1 HC1 HD1 H2
  go_wp2_with fail
  go_ret
  exact ⟨rfl, HB2.out⟩

end Go.Proofs.YtcljkdjmmolfoaaDoor

/- PartyMany: the plain walk. -/
import Derived.Test.YtomfcmlomfcghaaDoorPAw8
import Derived.Test.YtomfcmlomfcghaaDoorPChk
set_option linter.unusedVariables false
set_option linter.unusedSimpArgs false
namespace Go.Proofs.YtomfcmlomfcghaaDoor
open Go.RowKit

/-- the box X of parties under construction, the three owned lists -/
structure PMI (w : World) (X B : Nat) (Ak : Option Addr) (ck : Nat) (ks : List Int) (As : Option Addr) (cs : Nat) (st : List Stk) (At : Option Addr) (ct : Nat) (ts : List (Int × Int)) (W : World) : Prop where
  x : PBox X Ak ks.length ck As st.length cs At ts.length ct W
  k : W.ownsRow B 3 1 (.slice Ak ks.length ck) ks.length (ks.flatMap intV)
  s : W.ownsRow B 36 5 (.slice As st.length cs) st.length (st.flatMap stkV)
  t : W.ownsRow B 38 2 (.slice At ts.length ct) ts.length (ts.flatMap tieV)
  b : Below w.heap.size w W
  z : B ≤ W.heap.size
section
variable {w : World} {X B : Nat} {Ak : Option Addr} {ck : Nat} {ks : List Int} {As : Option Addr} {cs : Nat} {st : List Stk} {At : Option Addr} {ct : Nat} {ts : List (Int × Int)} {W W' : World}
theorem PMI.next (h : PMI w X B Ak ck ks As cs st At ct ts W) (hb : Below W.heap.size W W') : PMI w X B Ak ck ks As cs st At ct ts W' :=
  ⟨h.x.next hb, own_below h.k hb, own_below h.s hb, own_below h.t hb, h.b.trans (hb.mono h.b.size), Nat.le_trans h.z hb.size⟩
theorem PMI.drew (h : PMI w X B Ak ck ks As cs st At ct ts W) : PMI w X B Ak ck ks As cs st At ct ts W.drew := ⟨h.x, h.k, h.s, h.t, h.b.drew, h.z⟩
theorem PMI.kind (h : PMI w X B Ak ck ks As cs st At ct ts W) (hwB : w.heap.size ≤ B) (hXB : X < B) (hwX : w.heap.size ≤ X) {g' cap : Nat} {x : Int}
    (hown : W'.ownsRow B 3 1 (.slice (some ⟨g', 0, none⟩) (ks.length + 1) cap) (ks.length + 1) (ks.flatMap intV ++ [.int .i64 x])) (hgr : W.grownBy W' (Value.slice Ak ks.length ck).ownBlock) :
    PMI w X B (some ⟨g', 0, none⟩) cap (ks ++ [x]) As cs st At ct ts (W'.setCell ⟨X, 0, none⟩ (.slice (some ⟨g', 0, none⟩) (ks.length + 1) cap)) := by
  have hx1 : PBox X Ak ks.length ck As st.length cs At ts.length ct W' := blk_grownB h.k h.x hXB hgr
  have e : (ks ++ [x]).length = ks.length + 1 := by simp
  have e2 := flat_snocP intV ks x
  refine ⟨?_, ?_, own_setB (own_grownT h.k h.s (by decide) hgr) hXB, own_setB (own_grownT h.k h.t (by decide) hgr) hXB, ?_, ?_⟩
  · rw [e]; exact hx1.set0 _ _ _
  · rw [e, ← e2]; exact own_setB hown hXB
  · exact (Below.grown h.b hgr (Nat.le_trans hwB h.z) (fun q hq => Nat.le_trans hwB (h.k.lt q hq).1)).setCell (by show w.heap.size ≤ X; exact hwX) _
  · rw [show (W'.setCell ⟨X, 0, none⟩ (.slice (some ⟨g', 0, none⟩) (ks.length + 1) cap)).heap.size = W'.heap.size by simp]; exact Nat.le_trans h.z hgr.size
theorem PMI.stake (h : PMI w X B Ak ck ks As cs st At ct ts W) (hwB : w.heap.size ≤ B) (hXB : X < B) (hwX : w.heap.size ≤ X) {g' cap : Nat} {s : Stk}
    (hown : W'.ownsRow B 36 5 (.slice (some ⟨g', 0, none⟩) (st.length + 1) cap) (st.length + 1) (st.flatMap stkV ++ stkV s)) (hgr : W.grownBy W' (Value.slice As st.length cs).ownBlock) :
    PMI w X B Ak ck ks (some ⟨g', 0, none⟩) cap (st ++ [s]) At ct ts (W'.setCell ⟨X, 1, none⟩ (.slice (some ⟨g', 0, none⟩) (st.length + 1) cap)) := by
  have hx1 : PBox X Ak ks.length ck As st.length cs At ts.length ct W' := blk_grownB h.s h.x hXB hgr
  have e : (st ++ [s]).length = st.length + 1 := by simp
  have e2 := flat_snocP stkV st s
  refine ⟨?_, own_setB (own_grownT h.s h.k (by decide) hgr) hXB, ?_, own_setB (own_grownT h.s h.t (by decide) hgr) hXB, ?_, ?_⟩
  · rw [e]; exact hx1.set1 _ _ _
  · rw [e, ← e2]; exact own_setB hown hXB
  · exact (Below.grown h.b hgr (Nat.le_trans hwB h.z) (fun q hq => Nat.le_trans hwB (h.s.lt q hq).1)).setCell (by show w.heap.size ≤ X; exact hwX) _
  · rw [show (W'.setCell ⟨X, 1, none⟩ (.slice (some ⟨g', 0, none⟩) (st.length + 1) cap)).heap.size = W'.heap.size by simp]; exact Nat.le_trans h.z hgr.size
theorem PMI.tie (h : PMI w X B Ak ck ks As cs st At ct ts W) (hwB : w.heap.size ≤ B) (hXB : X < B) (hwX : w.heap.size ≤ X) {g' cap : Nat} {x y : Int}
    (hown : W'.ownsRow B 38 2 (.slice (some ⟨g', 0, none⟩) (ts.length + 1) cap) (ts.length + 1) (ts.flatMap tieV ++ [.int .i64 x, .int .i64 y])) (hgr : W.grownBy W' (Value.slice At ts.length ct).ownBlock) :
    PMI w X B Ak ck ks As cs st (some ⟨g', 0, none⟩) cap (ts ++ [(x, y)]) (W'.setCell ⟨X, 2, none⟩ (.slice (some ⟨g', 0, none⟩) (ts.length + 1) cap)) := by
  have hx1 : PBox X Ak ks.length ck As st.length cs At ts.length ct W' := blk_grownB h.t h.x hXB hgr
  have e : (ts ++ [(x, y)]).length = ts.length + 1 := by simp
  have e2 := flat_snocP tieV ts (x, y)
  refine ⟨?_, own_setB (own_grownT h.t h.k (by decide) hgr) hXB, own_setB (own_grownT h.t h.s (by decide) hgr) hXB, ?_, ?_, ?_⟩
  · rw [e]; exact hx1.set2 _ _ _
  · rw [e, ← e2]; exact own_setB hown hXB
  · exact (Below.grown h.b hgr (Nat.le_trans hwB h.z) (fun q hq => Nat.le_trans hwB (h.t.lt q hq).1)).setCell (by show w.heap.size ≤ X; exact hwX) _
  · rw [show (W'.setCell ⟨X, 2, none⟩ (.slice (some ⟨g', 0, none⟩) (ts.length + 1) cap)).heap.size = W'.heap.size by simp]; exact Nat.le_trans h.z hgr.size
theorem PMI.rd (h : PMI w X B Ak ck ks As cs st At ct ts W) : PRd Ak ks.length As st.length At ts.length ⟨ks, st, ts⟩ W :=
  ⟨Rd.of_own h.k, Rd.of_own h.s, Rd.of_own h.t, rfl, rfl, rfl⟩
end

theorem own_len {W : World} {B n m S : Nat} {A : Option Addr} {c : Nat} {T : TypeId} {xs : List Value} (e : m = n) (h : W.ownsRow B T S (.slice A m c) m xs) : W.ownsRow B T S (.slice A n c) n xs := by subst e; exact h
theorem own_len2 {W : World} {B n m S : Nat} {A : Option Addr} {c : Nat} {T : TypeId} {xs : List Value} (e : n = m) (h : W.ownsRow B T S (.slice A (n + 1) c) (n + 1) xs) : W.ownsRow B T S (.slice A (m + 1) c) (m + 1) xs := by subst e; exact h
theorem many_pb {n s t : Nat} (hn : n ≤ 1000) (hs : s ≤ 1000) (ht : t ≤ 1000) : PB 1 (manyP n s t) := by
  refine ⟨by decide, by decide, fun x hx => ?_, fun x hx => ?_, fun x hx => ?_, ?_, ?_, ?_⟩
  · rw [List.eq_of_mem_replicate hx]; unfold i64b; omega
  · rw [List.eq_of_mem_replicate hx]
    exact ⟨by unfold i64b; dsimp only; omega, by unfold i64b; dsimp only; omega, sz_fits (frac_sz (by decide) (by decide) (by decide))⟩
  · rw [List.eq_of_mem_replicate hx]
    exact ⟨by unfold i64b; dsimp only; omega, by unfold i64b; dsimp only; omega⟩
  · show (List.replicate n (2 : Int)).length ≤ maxLen; rw [List.length_replicate]; unfold maxLen; omega
  · show (List.replicate s _).length ≤ maxLen; rw [List.length_replicate]; unfold maxLen; omega
  · show (List.replicate t _).length ≤ maxLen; rw [List.length_replicate]; unfold maxLen; omega
set_option maxHeartbeats 8000000 in
set_option maxRecDepth 100000 in
theorem partyManyLaw (x0 x1 x2 : Int) (w : World) (h0 : 0 ≤ x0 ∧ x0 ≤ 255) (h1 : 0 ≤ x1 ∧ x1 ≤ 255) (h2 : 0 ≤ x2 ∧ x2 ≤ 255) :
    Calls Tryd.prog 4 #[.int .u8 x0, .int .u8 x1, .int .u8 x2] w fun e w' => e = .returned (.bool true) ∧ Below w.heap.size w w' := by
  obtain ⟨n0, hn0⟩ : ∃ n : Nat, n = (2 + x0 % 40).toNat := ⟨_, rfl⟩
  have e0 : wrap64 (2 + wrap64 (x0.tmod 40)) = (n0 : Int) := by
    rw [Int.tmod_eq_emod_of_nonneg h0.1, IntWalk.wrap64_in (x0 % 40) (by omega), IntWalk.wrap64_in _ (by omega)]; omega
  have b0 : 2 ≤ n0 ∧ n0 ≤ 41 := by omega
  obtain ⟨n1, hn1⟩ : ∃ n : Nat, n = (x1 % 70).toNat := ⟨_, rfl⟩
  have e1 : wrap64 (x1.tmod 70) = (n1 : Int) := by
    rw [Int.tmod_eq_emod_of_nonneg h1.1, IntWalk.wrap64_in _ (by omega)]; omega
  have b1 : n1 ≤ 69 := by omega
  obtain ⟨n2, hn2⟩ : ∃ n : Nat, n = (x2 % 70).toNat := ⟨_, rfl⟩
  have e2 : wrap64 (x2.tmod 70) = (n2 : Int) := by
    rw [Int.tmod_eq_emod_of_nonneg h2.1, IntWalk.wrap64_in _ (by omega)]; omega
  have b2 : n2 ≤ 69 := by omega
  clear hn0 hn1 hn2 h0 h1 h2
  have HE0 := Lib.hid e0
  have HE1 := Lib.hid e1
  have HE2 := Lib.hid e2
  clear e0 e1 e2
  obtain ⟨iI, hi, hz0, hz1, hz2⟩ := info_parts Tryd.info_int
  have HII := Lib.hid (And.intro hi (And.intro hz0 (And.intro hz1 hz2)))
  clear hi hz0 hz1 hz2
  obtain ⟨iS, hi, hz0, hz1, hz2⟩ := info_parts Tryd.info_stake
  have HIS := Lib.hid (And.intro hi (And.intro hz0 (And.intro hz1 hz2)))
  clear hi hz0 hz1 hz2
  obtain ⟨iT, hi, hz0, hz1, hz2⟩ := info_parts Tryd.info_tie
  have HIT := Lib.hid (And.intro hi (And.intro hz0 (And.intro hz1 hz2)))
  clear hi hz0 hz1 hz2
  obtain ⟨S, hS⟩ : ∃ S : Stk, S = ⟨0, 1, fqOf (frac 70 1)⟩ := ⟨_, rfl⟩
  have hRT' := fun w => ratio_calls 1 70 w (by decide) (by decide) (by decide) (by decide) (by decide) _ (frac_quo 1 70)
  obtain ⟨q, hq⟩ : ∃ q, q = frac 70 1 := ⟨_, rfl⟩
  rw [← hq] at hRT' hS
  unfold ratV at hRT'
  obtain ⟨sq, hsq⟩ : ∃ x, rneg q = x := ⟨_, rfl⟩
  obtain ⟨nq2, hnq⟩ : ∃ x, rnum q = x := ⟨_, rfl⟩
  obtain ⟨dq, hdq⟩ : ∃ x, rden q = x := ⟨_, rfl⟩
  rw [hsq, hnq, hdq] at hRT'
  have HRT := Lib.hid hRT'
  have HSV : Hid (stkV S = [.int .i64 0, .int .i64 1, .bool sq, .string nq2, .string dq]) := by show _ = _; rw [hS, ← hsq, ← hnq, ← hdq]; rfl
  have HSS : Hid (S = ⟨0, 1, fqOf (frac 70 1)⟩) := by show _ = _; rw [hS, hq]
  clear hRT' hq hsq hnq hdq hS
  obtain ⟨X, hX⟩ : ∃ X, X = w.heap.size := ⟨_, rfl⟩
  obtain ⟨B, hB⟩ : ∃ B, B = w.heap.size + 1 := ⟨_, rfl⟩
  obtain ⟨wi, hwi⟩ : ∃ W, W = w.alloc (.cells #[.slice none 0 0, .slice none 0 0, .slice none 0 0] 26) := ⟨_, rfl⟩
  have HIi : Hid (PMI w X B none 0 [] none 0 [] none 0 [] wi) := ⟨by rw [hwi, hX]; exact blk_new _ _, World.ownsRow_nil _ _ _ _, World.ownsRow_nil _ _ _ _, World.ownsRow_nil _ _ _ _, by rw [hwi]; exact bel_alloc _ _, by rw [hwi, World.size_alloc, hB]; exact Nat.le_refl _⟩
  have HC : Hid (w.heap.size ≤ B ∧ X < B ∧ w.heap.size ≤ X) := ⟨by omega, by omega, by omega⟩
  go_enter Tryd.func4, Tryd.ntmps4
  go_upto_region 2 with fail
  rw [← hwi, ← hX]
  have HRR := Lib.hid (And.intro hX hB)
  clear hX hB hwi
  go_wp2_with fail
  go_loopw [8] (fun i wr => ∃ (k : Nat) (Ak : Option Addr) (ck : Nat), k ≤ n0 ∧ i = .int .i64 (k : Int) ∧ Hid (PMI w X B Ak ck (List.replicate k 2) none 0 [] none 0 [] wr)) (fun i _ => n0 - (intOf i).toNat)
  case atStart => exact ⟨0, none, 0, Nat.zero_le _, rfl, HIi⟩
  case round =>
    clear HIi
    obtain ⟨k, Ak, ck, hk, rfl, HI⟩ := hrel
    rename World => wo
    obtain ⟨j0, j1, j2⟩ := HI.out.x.cells
    rw [List.length_replicate] at j0
    have he0 := HE0.out
    by_cases hkl : k < n0
    · have hkl2 : (k : Int) < (n0 : Int) := by omega
      go_wp2_with (at_builtin; refine wpList_append_own _ rfl (.tmp 22) (.tmp 23) 22 rfl B 3 iI _ 1 8 Tryd.underlying22 HII.out.1 HII.out.2.1 HII.out.2.2.1 HII.out.2.2.2 rfl (by decide) _ _ ((List.replicate k (2 : Int)).flatMap intV) rfl (own_len (by simp) (HI.out.next (bel_alloc _ _)).k) _ 1 1 _ rfl rfl (rd_new_cells _ _ _ _ (by simp)) (by simp [Value.oneCell']) (by simp only [maxLen]; omega) (by omega) (by have := HI.out.z; simp; omega) ?_)
      intro v' w' hown hgr hnil
      clear he0
      obtain ⟨g', cap, rfl, _, _⟩ := hown.form (by omega)
      have HIT2 := Lib.hid (HI.out.next (bel_alloc wo (.cells #[.int .i64 2] 3)))
      obtain ⟨wt, hwt⟩ : ∃ W, W = wo.alloc (.cells #[.int .i64 2] 3) := ⟨_, rfl⟩
      rw [← hwt] at HIT2 hgr
      clear hwt
      have hgr2 : wt.grownBy w' (Value.slice Ak (List.replicate k (2 : Int)).length ck).ownBlock := by rw [List.length_replicate]; exact hgr
      have hown2 := own_len2 (m := (List.replicate k (2 : Int)).length) (by simp) hown
      have HI2 := Lib.hid (HIT2.out.kind HC.out.1 HC.out.2.1 HC.out.2.2 hown2 hgr2)
      rw [List.length_replicate, ← List.replicate_succ'] at HI2
      have hx1 : PBox X Ak (List.replicate k (2 : Int)).length ck none 0 0 none 0 0 w' := blk_grownB HIT2.out.k HIT2.out.x HC.out.2.1 hgr2
      obtain ⟨k0, k1, k2⟩ := hx1.cells
      obtain ⟨f0, f1, f2, fz⟩ := hx1.store
      clear hown hown2 hgr hgr2 hnil hx1 HI HIT2 j0 j1 j2
      go_wp2_with fail
      go_roundw
      case measure => simp [intOf] <;> omega
      case rel => exact ⟨k + 1, _, _, by omega, by go_num, HI2⟩
    · obtain rfl : k = n0 := by omega
      go_wp2_with fail
      clear he0 hk hkl j0 j1 j2
      go_loopw [9] (fun i wr => ∃ (m : Nat) (As : Option Addr) (cs : Nat), m ≤ n1 ∧ i = .int .i64 (m : Int) ∧ Hid (PMI w X B Ak ck (List.replicate k 2) As cs (List.replicate m S) none 0 [] wr)) (fun i _ => n1 - (intOf i).toNat)
      case atStart => exact ⟨0, none, 0, Nat.zero_le _, rfl, HI⟩
      case round =>
        clear HI
        obtain ⟨m, As, cs, hm, rfl, HI⟩ := hrel
        rename World => wo
        have he1 := HE1.out
        by_cases hml : m < n1
        · have hml2 : (m : Int) < (n1 : Int) := by omega
          go_wp2_with fail
          clear he1
          obtain ⟨W3, hW3⟩ : ∃ W, W = wo.drew := ⟨_, rfl⟩
          have HI3 : Hid (PMI w X B Ak ck (List.replicate k 2) As cs (List.replicate m S) none 0 [] W3) := by rw [hW3]; exact HI.out.drew
          refine wp_region_held_drew (S := (fun _ => True)) (by kernel_rfl) trivial ?_
          rw [← hW3]
          intro _
          clear hW3 HI
          refine wpAnyH_take (i := 0) rfl (by kernel_rfl) (by kernel_rfl) (by kernel_rfl) (fun _ _ _ h => h) (Or.inl ⟨by kernel_rfl, (by intro w' _; go_simp; with_reducible rfl)⟩) trivial ?_
          go_simp
          refine wpAnyH_ready (rs := [1, 2]) (by kernel_rfl) (by simp) ?_
          refine AllReadyH.cons rfl (fun K hK => ?_) (AllReadyH.cons rfl (fun K hK => ?_) AllReadyH.nil)
          · obtain ⟨q0, q1, q2⟩ := HI3.out.x.cells
            rw [List.length_replicate] at q1
            go_simp
            clear q0 q1 q2
            refine hK.out _ _ trivial (fun _ => ?_)
            clear hK K
            refine wpAnyH_ready (rs := [2]) (by kernel_rfl) (by simp) ?_
            refine AllReadyH.cons rfl (fun K hK => ?_) AllReadyH.nil
            go_simp
            refine (HRT.out _).mono ?_
            rintro e W4 ⟨rfl, hb⟩
            have HI4 := Lib.hid (HI3.out.next hb)
            clear hb HI3
            refine hK.out _ _ trivial (fun _ => ?_)
            clear hK K
            refine wpAnyH_take (i := 3) (v := .agg #[.int .i64 0, .int .i64 1, .bool sq, .string nq2, .string dq]) rfl (by kernel_rfl) (by kernel_rfl) (by kernel_rfl) (fun _ _ _ h => h) (Or.inl ⟨by kernel_rfl, (by intro w' _; go_simp)⟩) trivial ?_
            go_simp
            refine wpAnyH_ready (rs := [4]) (by kernel_rfl) (by simp) ?_
            refine AllReadyH.cons rfl (fun K hK => ?_) AllReadyH.nil
            go_simp
            obtain ⟨W5, hW5⟩ : ∃ W, W = W4.alloc (.cells #[.int .i64 0, .int .i64 1, .bool sq, .string nq2, .string dq] 36) := ⟨_, rfl⟩
            have HI5 : Hid (PMI w X B Ak ck (List.replicate k 2) As cs (List.replicate m S) none 0 [] W5) := by rw [hW5]; exact HI4.out.next (bel_alloc _ _)
            obtain ⟨g5, hg5⟩ : ∃ g, g = W4.heap.size := ⟨_, rfl⟩
            have HK5 : Hid (W5.heap[g5]? = some (.cells #[.int .i64 0, .int .i64 1, .bool sq, .string nq2, .string dq] 36 (0, 0))) := by rw [hW5, hg5]; exact blk_new _ _
            rw [← hW5, ← hg5]
            clear hW5 hg5 HI4
            refine hK.out _ _ trivial (fun _ => ?_)
            clear hK K
            refine wpAnyH_ready (rs := [5]) (by kernel_rfl) (by simp) ?_
            refine AllReadyH.cons rfl (fun K hK => ?_) AllReadyH.nil
            have hsz_ := HI5.out.z
            refine step_append_lies _ rfl (.tmp 34) (.tmp 37) 23 rfl B 36 iS _ 5 56 Tryd.underlying23 HIS.out.1 HIS.out.2.1 HIS.out.2.2.1 HIS.out.2.2.2 rfl (by decide) (.slice As m cs) m ((List.replicate m S).flatMap stkV) (by simp [Act.eval, Act.put]) (own_len (by simp) HI5.out.s) ⟨g5, 0, none⟩ 1 1 [.int .i64 0, .int .i64 1, .bool sq, .string nq2, .string dq] (by simp [Act.eval, Act.put]) rfl (World.news_of_block HK5.out) (by simp [Value.oneCell']) (by decide) (by simp only [maxLen]; omega) (by omega) hsz_ _ rfl ?_
            intro g' cap w' hown hgr hor hlt3
            rw [← HSV.out] at hown
            have hgr2 : W5.grownBy w' (Value.slice As (List.replicate m S).length cs).ownBlock := by rw [List.length_replicate]; exact hgr
            have hown2 := own_len2 (m := (List.replicate m S).length) (by simp) hown
            have hx1 : PBox X Ak (List.replicate k (2 : Int)).length ck As (List.replicate m S).length cs none 0 0 w' := blk_grownB HI5.out.s HI5.out.x HC.out.2.1 hgr2
            have HI6 := Lib.hid (HI5.out.stake HC.out.1 HC.out.2.1 HC.out.2.2 hown2 hgr2)
            rw [List.length_replicate, ← List.replicate_succ'] at HI6
            obtain ⟨k0, k1, k2⟩ := hx1.cells
            obtain ⟨f0, f1, f2, fz⟩ := hx1.store
            refine hK.out _ _ trivial (fun _ => ?_)
            clear hK K hown hown2 hgr hgr2 hor hx1 HI5 HK5
            refine wpAnyH_take (i := 6) rfl (by kernel_rfl) (by kernel_rfl) (by kernel_rfl) (fun _ _ _ h => h) (Or.inl ⟨by kernel_rfl, (by intro w' _; go_simp; with_reducible rfl)⟩) trivial ?_
            go_simp
            refine wpAnyH_ready (rs := [7]) (by kernel_rfl) (by simp) ?_
            refine AllReadyH.cons rfl (fun K hK => ?_) AllReadyH.nil
            go_simp
            clear k0 k1 k2 f0 f1 f2 fz
            refine hK.out _ _ trivial (fun _ => ?_)
            clear hK K
            refine wpAnyH_done (by kernel_rfl) ?_ _
            go_wp2_with fail
            go_roundw
            case measure => simp [intOf] <;> omega
            case rel => exact ⟨m + 1, _, _, by omega, by go_num, HI6⟩
          · go_simp
            refine (HRT.out _).mono ?_
            rintro e W4 ⟨rfl, hb⟩
            have HI4 := Lib.hid (HI3.out.next hb)
            clear hb HI3
            refine hK.out _ _ trivial (fun _ => ?_)
            clear hK K
            refine wpAnyH_take (i := 3) (v := .agg #[.int .i64 0, .int .i64 1, .bool sq, .string nq2, .string dq]) rfl (by kernel_rfl) (by kernel_rfl) (by kernel_rfl) (fun _ _ _ h => h) (Or.inl ⟨by kernel_rfl, (by intro w' _; go_simp)⟩) trivial ?_
            go_simp
            refine wpAnyH_ready (rs := [1, 4]) (by kernel_rfl) (by simp) ?_
            refine AllReadyH.cons rfl (fun K hK => ?_) (AllReadyH.cons rfl (fun K hK => ?_) AllReadyH.nil)
            · obtain ⟨q0, q1, q2⟩ := HI4.out.x.cells
              rw [List.length_replicate] at q1
              go_simp
              clear q0 q1 q2
              refine hK.out _ _ trivial (fun _ => ?_)
              clear hK K
              refine wpAnyH_ready (rs := [4]) (by kernel_rfl) (by simp) ?_
              refine AllReadyH.cons rfl (fun K hK => ?_) AllReadyH.nil
              go_simp
              obtain ⟨W5, hW5⟩ : ∃ W, W = W4.alloc (.cells #[.int .i64 0, .int .i64 1, .bool sq, .string nq2, .string dq] 36) := ⟨_, rfl⟩
              have HI5 : Hid (PMI w X B Ak ck (List.replicate k 2) As cs (List.replicate m S) none 0 [] W5) := by rw [hW5]; exact HI4.out.next (bel_alloc _ _)
              obtain ⟨g5, hg5⟩ : ∃ g, g = W4.heap.size := ⟨_, rfl⟩
              have HK5 : Hid (W5.heap[g5]? = some (.cells #[.int .i64 0, .int .i64 1, .bool sq, .string nq2, .string dq] 36 (0, 0))) := by rw [hW5, hg5]; exact blk_new _ _
              rw [← hW5, ← hg5]
              clear hW5 hg5 HI4
              refine hK.out _ _ trivial (fun _ => ?_)
              clear hK K
              refine wpAnyH_ready (rs := [5]) (by kernel_rfl) (by simp) ?_
              refine AllReadyH.cons rfl (fun K hK => ?_) AllReadyH.nil
              have hsz_ := HI5.out.z
              refine step_append_lies _ rfl (.tmp 34) (.tmp 37) 23 rfl B 36 iS _ 5 56 Tryd.underlying23 HIS.out.1 HIS.out.2.1 HIS.out.2.2.1 HIS.out.2.2.2 rfl (by decide) (.slice As m cs) m ((List.replicate m S).flatMap stkV) (by simp [Act.eval, Act.put]) (own_len (by simp) HI5.out.s) ⟨g5, 0, none⟩ 1 1 [.int .i64 0, .int .i64 1, .bool sq, .string nq2, .string dq] (by simp [Act.eval, Act.put]) rfl (World.news_of_block HK5.out) (by simp [Value.oneCell']) (by decide) (by simp only [maxLen]; omega) (by omega) hsz_ _ rfl ?_
              intro g' cap w' hown hgr hor hlt3
              rw [← HSV.out] at hown
              have hgr2 : W5.grownBy w' (Value.slice As (List.replicate m S).length cs).ownBlock := by rw [List.length_replicate]; exact hgr
              have hown2 := own_len2 (m := (List.replicate m S).length) (by simp) hown
              have hx1 : PBox X Ak (List.replicate k (2 : Int)).length ck As (List.replicate m S).length cs none 0 0 w' := blk_grownB HI5.out.s HI5.out.x HC.out.2.1 hgr2
              have HI6 := Lib.hid (HI5.out.stake HC.out.1 HC.out.2.1 HC.out.2.2 hown2 hgr2)
              rw [List.length_replicate, ← List.replicate_succ'] at HI6
              obtain ⟨k0, k1, k2⟩ := hx1.cells
              obtain ⟨f0, f1, f2, fz⟩ := hx1.store
              refine hK.out _ _ trivial (fun _ => ?_)
              clear hK K hown hown2 hgr hgr2 hor hx1 HI5 HK5
              refine wpAnyH_take (i := 6) rfl (by kernel_rfl) (by kernel_rfl) (by kernel_rfl) (fun _ _ _ h => h) (Or.inl ⟨by kernel_rfl, (by intro w' _; go_simp; with_reducible rfl)⟩) trivial ?_
              go_simp
              refine wpAnyH_ready (rs := [7]) (by kernel_rfl) (by simp) ?_
              refine AllReadyH.cons rfl (fun K hK => ?_) AllReadyH.nil
              go_simp
              clear k0 k1 k2 f0 f1 f2 fz
              refine hK.out _ _ trivial (fun _ => ?_)
              clear hK K
              refine wpAnyH_done (by kernel_rfl) ?_ _
              go_wp2_with fail
              go_roundw
              case measure => simp [intOf] <;> omega
              case rel => exact ⟨m + 1, _, _, by omega, by go_num, HI6⟩
            · go_simp
              obtain ⟨W5, hW5⟩ : ∃ W, W = W4.alloc (.cells #[.int .i64 0, .int .i64 1, .bool sq, .string nq2, .string dq] 36) := ⟨_, rfl⟩
              have HI5 : Hid (PMI w X B Ak ck (List.replicate k 2) As cs (List.replicate m S) none 0 [] W5) := by rw [hW5]; exact HI4.out.next (bel_alloc _ _)
              obtain ⟨g5, hg5⟩ : ∃ g, g = W4.heap.size := ⟨_, rfl⟩
              have HK5 : Hid (W5.heap[g5]? = some (.cells #[.int .i64 0, .int .i64 1, .bool sq, .string nq2, .string dq] 36 (0, 0))) := by rw [hW5, hg5]; exact blk_new _ _
              rw [← hW5, ← hg5]
              clear hW5 hg5 HI4
              refine hK.out _ _ trivial (fun _ => ?_)
              clear hK K
              refine wpAnyH_ready (rs := [1]) (by kernel_rfl) (by simp) ?_
              refine AllReadyH.cons rfl (fun K hK => ?_) AllReadyH.nil
              obtain ⟨q0, q1, q2⟩ := HI5.out.x.cells
              rw [List.length_replicate] at q1
              go_simp
              clear q0 q1 q2
              refine hK.out _ _ trivial (fun _ => ?_)
              clear hK K
              refine wpAnyH_ready (rs := [5]) (by kernel_rfl) (by simp) ?_
              refine AllReadyH.cons rfl (fun K hK => ?_) AllReadyH.nil
              have hsz_ := HI5.out.z
              refine step_append_lies _ rfl (.tmp 34) (.tmp 37) 23 rfl B 36 iS _ 5 56 Tryd.underlying23 HIS.out.1 HIS.out.2.1 HIS.out.2.2.1 HIS.out.2.2.2 rfl (by decide) (.slice As m cs) m ((List.replicate m S).flatMap stkV) (by simp [Act.eval, Act.put]) (own_len (by simp) HI5.out.s) ⟨g5, 0, none⟩ 1 1 [.int .i64 0, .int .i64 1, .bool sq, .string nq2, .string dq] (by simp [Act.eval, Act.put]) rfl (World.news_of_block HK5.out) (by simp [Value.oneCell']) (by decide) (by simp only [maxLen]; omega) (by omega) hsz_ _ rfl ?_
              intro g' cap w' hown hgr hor hlt3
              rw [← HSV.out] at hown
              have hgr2 : W5.grownBy w' (Value.slice As (List.replicate m S).length cs).ownBlock := by rw [List.length_replicate]; exact hgr
              have hown2 := own_len2 (m := (List.replicate m S).length) (by simp) hown
              have hx1 : PBox X Ak (List.replicate k (2 : Int)).length ck As (List.replicate m S).length cs none 0 0 w' := blk_grownB HI5.out.s HI5.out.x HC.out.2.1 hgr2
              have HI6 := Lib.hid (HI5.out.stake HC.out.1 HC.out.2.1 HC.out.2.2 hown2 hgr2)
              rw [List.length_replicate, ← List.replicate_succ'] at HI6
              obtain ⟨k0, k1, k2⟩ := hx1.cells
              obtain ⟨f0, f1, f2, fz⟩ := hx1.store
              refine hK.out _ _ trivial (fun _ => ?_)
              clear hK K hown hown2 hgr hgr2 hor hx1 HI5 HK5
              refine wpAnyH_take (i := 6) rfl (by kernel_rfl) (by kernel_rfl) (by kernel_rfl) (fun _ _ _ h => h) (Or.inl ⟨by kernel_rfl, (by intro w' _; go_simp; with_reducible rfl)⟩) trivial ?_
              go_simp
              refine wpAnyH_ready (rs := [7]) (by kernel_rfl) (by simp) ?_
              refine AllReadyH.cons rfl (fun K hK => ?_) AllReadyH.nil
              go_simp
              clear k0 k1 k2 f0 f1 f2 fz
              refine hK.out _ _ trivial (fun _ => ?_)
              clear hK K
              refine wpAnyH_done (by kernel_rfl) ?_ _
              go_wp2_with fail
              go_roundw
              case measure => simp [intOf] <;> omega
              case rel => exact ⟨m + 1, _, _, by omega, by go_num, HI6⟩
        · obtain rfl : m = n1 := by omega
          go_wp2_with fail
          clear he1 hm hml
          go_loopw [10] (fun i wr => ∃ (t : Nat) (At : Option Addr) (ct : Nat), t ≤ n2 ∧ i = .int .i64 (t : Int) ∧ Hid (PMI w X B Ak ck (List.replicate k 2) As cs (List.replicate m S) At ct (List.replicate t (0, 1)) wr)) (fun i _ => n2 - (intOf i).toNat)
          case atStart => exact ⟨0, none, 0, Nat.zero_le _, rfl, HI⟩
          case round =>
            clear HI
            obtain ⟨t, At, ct, ht, rfl, HI⟩ := hrel
            rename World => wo
            obtain ⟨j0, j1, j2⟩ := HI.out.x.cells
            rw [List.length_replicate] at j0 j1 j2
            have he2 := HE2.out
            by_cases htl : t < n2
            · have htl2 : (t : Int) < (n2 : Int) := by omega
              go_wp2_with (at_builtin; refine wpList_append_own _ rfl (.tmp 48) (.tmp 50) 24 rfl B 38 iT _ 2 16 Tryd.underlying24 HIT.out.1 HIT.out.2.1 HIT.out.2.2.1 HIT.out.2.2.2 rfl (by decide) _ _ ((List.replicate t ((0 : Int), (1 : Int))).flatMap tieV) rfl (own_len (by simp) (HI.out.next (bel_alloc _ _)).t) _ 1 1 _ rfl rfl (rd_new_cells _ _ _ _ (by simp)) (by simp [Value.oneCell']) (by simp only [maxLen]; omega) (by omega) (by have := HI.out.z; simp; omega) ?_)
              intro v' w' hown hgr hnil
              clear he2
              obtain ⟨g', cap, rfl, _, _⟩ := hown.form (by omega)
              have HIT2 := Lib.hid (HI.out.next (bel_alloc wo (.cells #[.int .i64 0, .int .i64 1] 38)))
              obtain ⟨wt, hwt⟩ : ∃ W, W = wo.alloc (.cells #[.int .i64 0, .int .i64 1] 38) := ⟨_, rfl⟩
              rw [← hwt] at HIT2 hgr
              clear hwt
              have hgr2 : wt.grownBy w' (Value.slice At (List.replicate t ((0 : Int), (1 : Int))).length ct).ownBlock := by rw [List.length_replicate]; exact hgr
              have hown2 := own_len2 (m := (List.replicate t ((0 : Int), (1 : Int))).length) (by simp) hown
              have HI2 := Lib.hid (HIT2.out.tie HC.out.1 HC.out.2.1 HC.out.2.2 hown2 hgr2)
              rw [List.length_replicate, ← List.replicate_succ'] at HI2
              have hx1 : PBox X Ak (List.replicate k (2 : Int)).length ck As (List.replicate m S).length cs At (List.replicate t ((0 : Int), (1 : Int))).length ct w' := blk_grownB HIT2.out.t HIT2.out.x HC.out.2.1 hgr2
              obtain ⟨k0, k1, k2⟩ := hx1.cells
              obtain ⟨f0, f1, f2, fz⟩ := hx1.store
              clear hown hown2 hgr hgr2 hnil hx1 HI HIT2 j0 j1 j2
              go_wp2_with fail
              go_roundw
              case measure => simp [intOf] <;> omega
              case rel => exact ⟨t + 1, _, _, by omega, by go_num, HI2⟩
            · obtain rfl : t = n2 := by omega
              obtain ⟨P, hP⟩ : ∃ P, P = manyP k m t := ⟨_, rfl⟩
              have hrd := HI.out.rd
              rw [List.length_replicate, List.length_replicate, List.length_replicate, show (⟨List.replicate k 2, List.replicate m S, List.replicate t (0, 1)⟩ : Prt) = P by rw [hP, HSS.out]; rfl] at hrd
              have HYP := Lib.hid hrd
              have HPB : Hid (PB 1 P) := by rw [hP]; exact many_pb (by omega) (by omega) (by omega)
              have hck : chk P = if 32 < k ∨ 64 < m ∨ 64 < t then 2 else 0 := by rw [hP]; exact many_chk b0.1
              obtain ⟨E, hE⟩ : ∃ E, E = chk P := ⟨_, rfl⟩
              rw [← hE] at hck
              have HCK' := fun (W : World) (hW : Below wo.heap.size wo W) => check_calls Ak k ck As m cs At t ct P 1 W (HYP.out.next hW) HPB.out
              rw [← hE] at HCK'
              have HCK := Lib.hid HCK'
              have HE := Lib.hid hck
              clear HCK' hE hck hrd hP
              have HXo : Hid (PBox X Ak k ck As m cs At t ct wo) := by have := HI.out.x; rwa [List.length_replicate, List.length_replicate, List.length_replicate] at this
              have HBo : Hid (Below w.heap.size w wo) := HI.out.b
              clear HI
              by_cases l0 : 32 < k
              · have d0 : decide ((32 : Int) < (k : Int)) = true := decide_eq_true (by omega)
                obtain rfl : E = 2 := by rw [HE.out, if_pos (by omega)]
                go_wp2_with fail
                clear j0 j1 j2 he2 ht htl
                refine (awake8_calls _).mono ?_
                rintro e W4 ⟨rfl, hb⟩
                have HX4 := Lib.hid (HXo.out.next hb)
                have HB4 : Hid (Below wo.heap.size wo W4) := hb
                clear hb HXo
                obtain ⟨q0, q1, q2⟩ := HX4.out.cells
                go_wp2_with fail
                clear q0 q1 q2
                refine (HCK.out _ HB4.out).mono ?_
                rintro e W5 ⟨rfl, hb⟩
                have HB5 : Hid (Below wo.heap.size wo W5) := HB4.out.trans (hb.mono HB4.out.size)
                clear hb HB4
                have HB9 : Hid (Below w.heap.size w W5) := HBo.out.trans (HB5.out.mono HBo.out.size)
                go_wp2_with fail
                go_ret
                exact ⟨rfl, HB9.out⟩
              · have d0 : decide ((32 : Int) < (k : Int)) = false := decide_eq_false (by omega)
                by_cases l1 : 64 < m
                · have d1 : decide ((64 : Int) < (m : Int)) = true := decide_eq_true (by omega)
                  obtain rfl : E = 2 := by rw [HE.out, if_pos (by omega)]
                  go_wp2_with fail
                  clear j0 j1 j2 he2 ht htl
                  refine (awake8_calls _).mono ?_
                  rintro e W4 ⟨rfl, hb⟩
                  have HX4 := Lib.hid (HXo.out.next hb)
                  have HB4 : Hid (Below wo.heap.size wo W4) := hb
                  clear hb HXo
                  obtain ⟨q0, q1, q2⟩ := HX4.out.cells
                  go_wp2_with fail
                  clear q0 q1 q2
                  refine (HCK.out _ HB4.out).mono ?_
                  rintro e W5 ⟨rfl, hb⟩
                  have HB5 : Hid (Below wo.heap.size wo W5) := HB4.out.trans (hb.mono HB4.out.size)
                  clear hb HB4
                  have HB9 : Hid (Below w.heap.size w W5) := HBo.out.trans (HB5.out.mono HBo.out.size)
                  go_wp2_with fail
                  go_ret
                  exact ⟨rfl, HB9.out⟩
                · have d1 : decide ((64 : Int) < (m : Int)) = false := decide_eq_false (by omega)
                  by_cases l2 : 64 < t
                  · have d2 : decide ((64 : Int) < (t : Int)) = true := decide_eq_true (by omega)
                    obtain rfl : E = 2 := by rw [HE.out, if_pos (by omega)]
                    go_wp2_with fail
                    clear j0 j1 j2 he2 ht htl
                    refine (awake8_calls _).mono ?_
                    rintro e W4 ⟨rfl, hb⟩
                    have HX4 := Lib.hid (HXo.out.next hb)
                    have HB4 : Hid (Below wo.heap.size wo W4) := hb
                    clear hb HXo
                    obtain ⟨q0, q1, q2⟩ := HX4.out.cells
                    go_wp2_with fail
                    clear q0 q1 q2
                    refine (HCK.out _ HB4.out).mono ?_
                    rintro e W5 ⟨rfl, hb⟩
                    have HB5 : Hid (Below wo.heap.size wo W5) := HB4.out.trans (hb.mono HB4.out.size)
                    clear hb HB4
                    have HB9 : Hid (Below w.heap.size w W5) := HBo.out.trans (HB5.out.mono HBo.out.size)
                    go_wp2_with fail
                    go_ret
                    exact ⟨rfl, HB9.out⟩
                  · have d2 : decide ((64 : Int) < (t : Int)) = false := decide_eq_false (by omega)
                    obtain rfl : E = 0 := by rw [HE.out, if_neg (by omega)]
                    go_wp2_with fail
                    clear j0 j1 j2 he2 ht htl
                    refine (awake8_calls _).mono ?_
                    rintro e W4 ⟨rfl, hb⟩
                    have HX4 := Lib.hid (HXo.out.next hb)
                    have HB4 : Hid (Below wo.heap.size wo W4) := hb
                    clear hb HXo
                    obtain ⟨q0, q1, q2⟩ := HX4.out.cells
                    go_wp2_with fail
                    clear q0 q1 q2
                    refine (HCK.out _ HB4.out).mono ?_
                    rintro e W5 ⟨rfl, hb⟩
                    have HB5 : Hid (Below wo.heap.size wo W5) := HB4.out.trans (hb.mono HB4.out.size)
                    clear hb HB4
                    have HB9 : Hid (Below w.heap.size w W5) := HBo.out.trans (HB5.out.mono HBo.out.size)
                    go_wp2_with fail
                    go_ret
                    exact ⟨rfl, HB9.out⟩

end Go.Proofs.YtomfcmlomfcghaaDoor

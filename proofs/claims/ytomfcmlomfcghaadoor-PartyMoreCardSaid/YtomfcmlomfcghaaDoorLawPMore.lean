/- PartyMore: the plain walk. -/
import Derived.Test.YtomfcmlomfcghaaDoorBlt
import Derived.Test.YtomfcmlomfcghaaDoorPAw8
set_option linter.unusedVariables false
set_option linter.unusedSimpArgs false
namespace Go.Proofs.YtomfcmlomfcghaaDoor
open Go.RowKit

theorem stk_take {W : World} {B b off : Nat} {l : List Stk} (h : Rd W B 5 (some ⟨b, off, none⟩) l.length (l.flatMap stkV)) (k : Nat) : ∀ j u, ((l.take k).flatMap stkV)[j]? = some u → W.cell? ((⟨b, off, none⟩ : Addr).add j) = some u := by
  intro j u hu
  have hl : l = l.take k ++ l.drop k := (List.take_append_drop k l).symm
  have hlt := (List.getElem?_eq_some_iff.1 hu).1
  have h0 : 0 < l.length := by
    rcases l with _ | ⟨x, l⟩
    · simp at hlt
    · simp
  obtain ⟨b', off', e, _, hc⟩ := h.2 h0
  simp only [Option.some.injEq, Addr.mk.injEq, and_true] at e
  obtain ⟨rfl, rfl⟩ := e
  rw [Addr.add_lit]
  refine hc j u ?_
  rw [hl, List.flatMap_append, List.getElem?_append_left hlt]
  exact hu
theorem stk_drop {W : World} {B b off : Nat} {l : List Stk} (h : Rd W B 5 (some ⟨b, off, none⟩) l.length (l.flatMap stkV)) {k : Nat} (hk : k ≤ l.length) : ∀ j u, ((l.drop k).flatMap stkV)[j]? = some u → W.cell? ⟨b, off + k * 5 + j, none⟩ = some u := by
  intro j u hu
  have hl : l = l.take k ++ l.drop k := (List.take_append_drop k l).symm
  have hlt := (List.getElem?_eq_some_iff.1 hu).1
  have h0 : 0 < l.length := by
    rcases l with _ | ⟨x, l⟩
    · simp at hlt
    · simp
  obtain ⟨b', off', e, _, hc⟩ := h.2 h0
  simp only [Option.some.injEq, Addr.mk.injEq, and_true] at e
  obtain ⟨rfl, rfl⟩ := e
  rw [Nat.add_assoc]
  refine hc _ u ?_
  have hlen : ((l.take k).flatMap stkV).length = k * 5 := by rw [flat_len stkV 5 (fun _ => rfl), List.length_take]; congr 1; omega
  rw [hl, List.flatMap_append, List.getElem?_append_right (by rw [hlen]; omega), hlen, Nat.add_sub_cancel_left]
  exact hu
theorem stk_one {l : List Stk} : ∀ u ∈ l.flatMap stkV, u.oneCell' = true := by
  intro u hu
  obtain ⟨s, _, hs⟩ := List.mem_flatMap.1 hu
  simp [stkV] at hs
  rcases hs with rfl | rfl | rfl | rfl | rfl <;> rfl
/-- where a slice's tail lies -/
theorem tail_addr {W : World} {B b off : Nat} {l : List Stk} {k cs : Nat} (hk : k ≤ l.length) (hc : l.length ≤ cs) (h : Rd W B 5 (some ⟨b, off, none⟩) l.length (l.flatMap stkV)) : ∃ ad : Addr, (if cs = k then (some ⟨b, off, none⟩ : Option Addr) else some ⟨b, off + k * 5, none⟩) = some ad ∧ ∀ (W' : World), (∀ p : Addr, p.block < B → W'.cell? p = W.cell? p) → ∀ j u, ((l.drop k).flatMap stkV)[j]? = some u → W'.cell? (ad.add j) = some u := by
  by_cases e : cs = k
  · rw [if_pos e]
    refine ⟨_, rfl, fun W' _ j u hu => ?_⟩
    have : l.drop k = [] := List.drop_eq_nil_of_le (by omega)
    rw [this] at hu; simp at hu
  · rw [if_neg e]
    refine ⟨_, rfl, fun W' hW j u hu => ?_⟩
    rw [Addr.add_lit]
    exact stk_drop (h.keep hW) hk j u hu
theorem pb_less {P : Prt} {l : List Stk} (h : PB 1 P) (hl : List.Sublist l P.stakes) : PB 1 (lessS P l) :=
  ⟨h.m1, h.m2, h.k, fun x hx => h.s x (hl.subset hx), h.t, h.kl, Nat.le_trans hl.length_le h.sl, h.tl⟩
theorem drop_one {α : Type} (l : List α) (k : Nat) : List.Sublist (l.take k ++ l.drop (k + 1)) l := by
  rw [← List.eraseIdx_eq_take_drop_succ]; exact List.eraseIdx_sublist l k
set_option maxHeartbeats 8000000 in
set_option maxRecDepth 100000 in
theorem partyMoreLaw (x0 x1 : Int) (A2 : Option Addr) (n2 c2 : Nat) (l2 : List W3) (x3 x4 : Int) (w : World) (h0 : 0 ≤ x0 ∧ x0 ≤ 255) (h1 : 0 ≤ x1 ∧ x1 ≤ 65535) (e2 : n2 = l2.length) (r2 : Rd w w.heap.size 3 A2 l2.length (l2.flatMap u16V3)) (o2 : ∀ a ∈ l2, u16ok3 a) (g2 : n2 ≤ maxLen) (h3 : 0 ≤ x3 ∧ x3 ≤ 255) (h4 : 0 ≤ x4 ∧ x4 ≤ 255) :
    Calls Tryd.prog 6 #[.int .u8 x0, .int .u16 x1, .slice A2 n2 c2, .int .u8 x3, .int .u8 x4] w fun e w' => e = .returned (.bool true) ∧ Below w.heap.size w w' := by
  have HBT := Lib.hid (fun (W : World) (hW : Below w.heap.size w W) => built_calls x0 x1 A2 n2 c2 l2 none 0 0 [] W h0 h1 e2 (r2.next hW) o2 g2 rfl Rd.nil (fun a ha => by cases ha) (Nat.zero_le _))
  clear h0 h1 e2 r2 o2 g2
  obtain ⟨i1, hi, hz0, hz1, hz2⟩ := info_parts Tryd.info_stake
  have HIS := Lib.hid (And.intro hi (And.intro hz0 (And.intro hz1 hz2)))
  clear hi hz0 hz1 hz2
  go_enter Tryd.func6, Tryd.ntmps6
  go_wp2_with fail
  refine (HBT.out _ (Below.refl _ _)).mono ?_
  rintro e w1 ⟨Ak, nk, ck, As, ns, cs, At, nt, ct, P, rfl, hp, hpb, hck, hn2, hn7, hns, hnt, _, hcap, hb⟩
  have HP := Lib.hid hp
  have HPB := Lib.hid hpb
  have HCK := Lib.hid hck
  have HNK := Lib.hid hp.nk
  have HNS := Lib.hid hp.ns
  have HNT := Lib.hid hp.nt
  clear hp hpb hck HBT
  obtain ⟨a, ha⟩ : ∃ a : Nat, x3 % (nk : Int) = (a : Int) := ⟨(x3 % (nk : Int)).toNat, by have := Int.emod_nonneg x3 (show (nk : Int) ≠ 0 by omega); omega⟩
  have hal : a < nk := by have := Int.emod_lt_of_pos x3 (show (0 : Int) < (nk : Int) by omega); omega
  obtain ⟨X1, hX1⟩ : ∃ X, X = w1.heap.size := ⟨_, rfl⟩
  obtain ⟨X2, hX2⟩ : ∃ X, X = w1.heap.size + 1 := ⟨_, rfl⟩
  obtain ⟨W3, hw3⟩ : ∃ W, W = (w1.alloc (.cells #[.slice Ak nk ck, .slice As ns cs, .slice At nt ct] 26)).alloc (.cells #[.slice Ak nk ck, .slice As ns cs, .slice At nt ct] 26) := ⟨_, rfl⟩
  have HXp3 : Hid (PBox X1 Ak nk ck As ns cs At nt ct W3) := by rw [hw3, hX1]; exact (show PBox w1.heap.size Ak nk ck As ns cs At nt ct (w1.alloc (.cells #[.slice Ak nk ck, .slice As ns cs, .slice At nt ct] 26)) from blk_new _ _).next (bel_alloc _ _)
  have HXq3 : Hid (PBox X2 Ak nk ck As ns cs At nt ct W3) := by
    have := blk_new (w1.alloc (.cells #[.slice Ak nk ck, .slice As ns cs, .slice At nt ct] 26)) (.cells #[.slice Ak nk ck, .slice As ns cs, .slice At nt ct] 26)
    rw [World.size_alloc, ← hX2, ← hw3] at this
    exact this
  have HB3 : Hid (Below w.heap.size w W3) := by rw [hw3]; exact (hb.alloc hb.size _).alloc (by rw [World.size_alloc]; have := hb.size; omega) _
  have HYP3 : Hid (PRd Ak nk As ns At nt P W3) := by rw [hw3]; exact (HP.out.next (bel_alloc _ _)).next (bel_alloc _ _)
  have hX12 : X1 ≠ X2 := by omega
  have hwX2 : w.heap.size ≤ X2 := by have := hb.size; omega
  have hX2s : X2 < W3.heap.size := by rw [hw3]; simp; omega
  have hX1b : PBox w1.heap.size Ak nk ck As ns cs At nt ct (w1.alloc (.cells #[.slice Ak nk ck, .slice As ns cs, .slice At nt ct] 26)) := blk_new _ _
  obtain ⟨j0, j1, j2⟩ := hX1b.cells
  have hx3 := HXp3.out
  rw [hw3, hX1] at hx3
  obtain ⟨i0, i1_, i2⟩ := hx3.cells
  have HW := Lib.hid (And.intro hw3 (And.intro hX1 hX2))
  have HA := Lib.hid ha
  have HXX := Lib.hid (And.intro hX12 (And.intro hwX2 hX2s))
  have HBX3 : Hid (Below w1.heap.size w1 W3 ∧ w1.heap.size ≤ X2) := ⟨by rw [hw3]; exact (bel_alloc _ _).alloc (by simp) _, by omega⟩
  clear hX1b hx3 hw3 hX1 hX2 hb ha hX12 hwX2 hX2s
  by_cases h0 : ns = 0
  · have d0 : ¬ (0 : Int) < (ns : Int) := by omega
    clear hns hcap h0
    go_upto_region 6 with fail
    clear d0
    rw [← HW.out.1, ← HW.out.2.2, ← HW.out.2.1]
    clear j0 j1 j2 i0 i1_ i2 HW
    have HSUB : Hid (List.Sublist (P.stakes) P.stakes) := List.Sublist.refl _
    obtain ⟨Q, hQ⟩ : ∃ Q, Q = lessS P (P.stakes) := ⟨_, rfl⟩
    have HCQ : Hid (chk Q = 0) := by rw [hQ]; exact chk_less HCK.out HSUB.out
    have HPQ : Hid (PB 1 Q) := by rw [hQ]; exact pb_less HPB.out HSUB.out
    have HNQ : Hid (nk = Q.kinds.length) := by rw [hQ]; exact HNK.out
    have HYQ : Hid (PRd Ak nk As ns At nt Q W3) := by rw [hQ]; exact HYP3.out
    have HLE : Hid (∀ c : Nat, ctl Q (a : Int) c = true → ctl P (a : Int) c = true) := fun c hc => by rw [hQ] at hc; exact ctl_less (Good.of_chk HCK.out).pos HSUB.out hc
    clear HSUB hQ
    obtain ⟨j0, j1, j2⟩ := HXp3.out.cells
    obtain ⟨k0, k1, k2⟩ := HXq3.out.cells
    clear j1 j2
    have ha := HA.out
    go_wp2_with fail
    try rw [ha]
    clear j0 k0 k1 k2 ha h3
    refine (pControlled_calls Ak nk ck As ns cs At nt ct Q 1 (a : Int) _ HYQ.out HPQ.out).mono ?_
    rintro e w7 ⟨A, c, rfl, hr, hb⟩
    have HXp7 := Lib.hid (HXp3.out.next hb)
    have HYP7 : Hid (PRd Ak nk As ns At nt P w7) := HYP3.out.next hb
    have HB7 : Hid (Below w.heap.size w w7) := HB3.out.trans (hb.mono HB3.out.size)
    have hin : inN Q.kinds.length (a : Int) = true := inN_iff.2 ⟨by omega, by rw [← HNQ.out]; omega⟩
    have e1 : oneErr Q (a : Int) = 0 := oneErr_of HCQ.out hin
    obtain ⟨L, hL⟩ : ∃ L, L = idxs (ctl Q (a : Int)) nk := ⟨_, rfl⟩
    have e2 : ctlList Q (a : Int) = L := by rw [ctlList_of HCQ.out hin, ← HNQ.out, hL]
    rw [e2] at hr ⊢
    rw [e1]
    obtain ⟨nl, hnl⟩ : ∃ nl, nl = L.length := ⟨_, rfl⟩
    have hl7 : nl ≤ 7 := by rw [hnl, hL]; have := idxs_len (ctl Q (a : Int)) nk; omega
    rw [← hnl]
    have HL := Lib.hid hL
    have HNL := Lib.hid hnl
    have HRL := Lib.hid hr
    clear hr hb hL hnl e1 e2 hin HXp3 HXq3 HYP3 HB3 HYQ
    go_wp2_with fail
    go_loopw [62] (fun i wr => ∃ j : Nat, j ≤ nl ∧ i = .int .i64 (j : Int) ∧ Hid (PBox X1 Ak nk ck As ns cs At nt ct wr) ∧ Hid (Below w7.heap.size w7 wr)) (fun i _ => nl - (intOf i).toNat)
    case atStart => exact ⟨0, Nat.zero_le _, rfl, HXp7, Below.refl _ _⟩
    case round =>
      clear HXp7
      obtain ⟨j, hj, rfl, HXwi, HYwi⟩ := hrel
      rename World => wi
      by_cases hjl : j < nl
      · obtain ⟨y, hy⟩ := getElem?_of_lt (l := L) (k := j) (by rw [← HNL.out]; exact hjl)
        obtain ⟨bl, ol, hA, _, c0⟩ := rd_int (HRL.out.next HYwi.out) hy
        subst hA
        obtain ⟨x, hx, hcx, hye⟩ : ∃ c : Nat, c < nk ∧ ctl Q (a : Int) c = true ∧ y = (c : Int) := by have := List.mem_of_getElem? hy; rw [HL.out] at this; exact mem_idxs.1 this
        subst hye
        have HCX : Hid (ctl P (a : Int) x = true) := HLE.out x hcx
        clear hy hcx
        obtain ⟨k0, k1, k2⟩ := HXwi.out.cells
        go_wp2_with fail
        clear k0 k1 k2 c0
        refine (pControls_calls Ak nk ck As ns cs At nt ct P 1 (a : Int) (x : Int) _ (HYP7.out.next HYwi.out) HPB.out).mono ?_
        rintro e w8 ⟨rfl, hb⟩
        have HX8 := Lib.hid (HXwi.out.next hb)
        have HY8 : Hid (Below w7.heap.size w7 w8) := HYwi.out.trans (hb.mono HYwi.out.size)
        clear hb HXwi HYwi
        have e1 : twoErr P (a : Int) (x : Int) = 0 := twoErr_of HCK.out (inN_iff.2 ⟨by omega, by rw [← HNK.out]; omega⟩) (inN_iff.2 ⟨by omega, by rw [← HNK.out]; omega⟩)
        have e2 : ctlB P (a : Int) (x : Int) = true := by unfold ctlB; rw [if_pos e1, Int.toNat_natCast]; exact HCX.out
        rw [e1, e2]
        clear e1 e2
        go_wp2_with fail
        go_roundw
        case measure => simp [intOf] <;> omega
        case rel => exact ⟨j + 1, by omega, by go_num, HX8, HY8⟩
      · have HBwi : Hid (Below w.heap.size w wi) := HB7.out.trans (HYwi.out.mono HB7.out.size)
        go_wp2_with fail
        refine (awake8_calls _).mono ?_
        rintro e wz ⟨rfl, hb⟩
        have HBz : Hid (Below w.heap.size w wz) := HBwi.out.trans (hb.mono HBwi.out.size)
        clear hb
        go_wp2_with fail
        go_ret
        exact ⟨rfl, HBz.out⟩
  · have d0 : decide ((0 : Int) < (ns : Int)) = true := decide_eq_true (by omega)
    obtain ⟨k, hk⟩ : ∃ k : Nat, x4 % (ns : Int) = (k : Int) := ⟨(x4 % (ns : Int)).toNat, by have := Int.emod_nonneg x4 (show (ns : Int) ≠ 0 by omega); omega⟩
    have hkn : k < ns := by have := Int.emod_lt_of_pos x4 (show (0 : Int) < (ns : Int) by omega); omega
    go_upto_region 5 with fail
    rw [← HW.out.1, ← HW.out.2.2, ← HW.out.2.1]
    clear j0 j1 j2 i0 i1_ i2 HW
    obtain ⟨s0_, hs0⟩ := getElem?_of_lt (l := P.stakes) (k := 0) (by rw [← HNS.out]; omega)
    obtain ⟨b, off, hA, _, _⟩ := Rd.at_ (enc := stkV) (fun _ => rfl) HYP3.out.s hs0
    subst hA
    clear hs0
    obtain ⟨W1, hW1⟩ : ∃ W, W = W3.drew := ⟨_, rfl⟩
    have hS : (PBox X1 Ak nk ck (some ⟨b, off, none⟩) ns cs At nt ct) W1 := by rw [hW1]; exact HXp3.out
    have HXq4 : Hid (PBox X2 Ak nk ck (some ⟨b, off, none⟩) ns cs At nt ct W1) := by rw [hW1]; exact HXq3
    have HBX4 : Hid (Below w1.heap.size w1 W1) := by rw [hW1]; exact HBX3.out.1.drew
    have HYP4 : Hid (PRd Ak nk (some ⟨b, off, none⟩) ns At nt P W1) := by rw [hW1]; exact HYP3.out.next (Below.refl _ _).drew
    have HB4 : Hid (Below w.heap.size w W1) := by rw [hW1]; exact HB3.out.drew
    refine wp_region_held_drew (S := (PBox X1 Ak nk ck (some ⟨b, off, none⟩) ns cs At nt ct)) (by kernel_rfl) (by rw [← hW1]; exact hS) ?_
    rw [← hW1]
    intro _
    clear hW1 HXp3 HXq3 HYP3 HB3
    refine wpAnyH_take (i := 0) rfl (by kernel_rfl) (by kernel_rfl) (by kernel_rfl) (fun _ _ _ h => h) (Or.inl ⟨by kernel_rfl, (by intro w' _; go_simp; with_reducible rfl)⟩) hS ?_
    go_simp
    refine wpAnyH_take (i := 1) (v := .slice (some ⟨b, off, none⟩) ns cs) rfl (by kernel_rfl) (by kernel_rfl) (by kernel_rfl) (fun _ _ _ h => h) (Or.inl ⟨by kernel_rfl, (by intro w' hw'; obtain ⟨q0, q1, q2⟩ := hw'.cells; go_simp)⟩) hS ?_
    go_simp
    refine wpAnyH_take (i := 2) rfl (by kernel_rfl) (by kernel_rfl) (by kernel_rfl) (fun _ _ _ h => h) (Or.inl ⟨by kernel_rfl, (by intro w' _; go_simp; with_reducible rfl)⟩) hS ?_
    go_simp
    have hkc : (k : Int) ≤ (cs : Int) := by omega
    have hkc0 : (0 : Int) ≤ (k : Int) := by omega
    have hk1 : (k : Int) + 1 ≤ (ns : Int) := by omega
    have hk2 : (ns : Int) ≤ (cs : Int) := by omega
    have HWR : Hid (IntKind.i64.wrap ((k : Int) + 1) = (k : Int) + 1) := IntWalk.i64_in _ (by omega)
    refine wpAnyH_take (i := 3) (v := .slice (some ⟨b, off, none⟩) k cs) rfl (by kernel_rfl) (by kernel_rfl) (by kernel_rfl) (fun _ _ _ h => h) (Or.inl ⟨by kernel_rfl, (by intro w' _; go_simp)⟩) hS ?_
    go_simp
    refine wpAnyH_take (i := 5) rfl (by kernel_rfl) (by kernel_rfl) (by kernel_rfl) (fun _ _ _ h => h) (Or.inl ⟨by kernel_rfl, (by intro w' _; go_simp; with_reducible rfl)⟩) hS ?_
    go_simp
    refine wpAnyH_take (i := 6) (v := .slice (some ⟨b, off, none⟩) ns cs) rfl (by kernel_rfl) (by kernel_rfl) (by kernel_rfl) (fun _ _ _ h => h) (Or.inl ⟨by kernel_rfl, (by intro w' hw'; obtain ⟨q0, q1, q2⟩ := hw'.cells; go_simp)⟩) hS ?_
    go_simp
    refine wpAnyH_take (i := 7) rfl (by kernel_rfl) (by kernel_rfl) (by kernel_rfl) (fun _ _ _ h => h) (Or.inl ⟨by kernel_rfl, (by intro w' _; go_simp; with_reducible rfl)⟩) hS ?_
    go_simp
    refine wpAnyH_take (i := 8) (v := .int .i64 ((k + 1 : Nat) : Int)) rfl (by kernel_rfl) (by kernel_rfl) (by kernel_rfl) (fun _ _ _ h => h) (Or.inl ⟨by kernel_rfl, (by intro w' hw'; have wr_ := HWR.out; go_simp)⟩) hS ?_
    go_simp
    obtain ⟨ad, had, hnw⟩ := tail_addr (k := k + 1) (cs := cs) (by rw [← HNS.out]; omega) (by rw [← HNS.out]; omega) HYP4.out.s
    have hk3 : ((k + 1 : Nat) : Int) ≤ (ns : Int) := by omega
    have hk4 : (0 : Int) ≤ (k : Int) + 1 := by omega
    have HNW := Lib.hid hnw
    clear hnw
    refine wpAnyH_take (i := 9) (v := .slice (some ad) (ns - (k + 1)) (cs - (k + 1))) rfl (by kernel_rfl) (by kernel_rfl) (by kernel_rfl) (fun _ _ _ h => h) (Or.inl ⟨by kernel_rfl, (by intro w' _; go_simp)⟩) hS ?_
    go_simp
    have HLT : Hid ((P.stakes.take k).length = k) := by show _ = _; rw [List.length_take]; have := HNS.out; omega
    have HLD : Hid ((P.stakes.drop (k + 1)).length = ns - (k + 1)) := by show _ = _; rw [List.length_drop]; have := HNS.out; omega
    clear had hkc hkc0 hk1 hk2 hk3 hk4 HWR
    obtain ⟨Z, hZ⟩ : ∃ Z, Z = W1.heap.size := ⟨_, rfl⟩
    refine wpAnyH_ready (rs := [4]) (by kernel_rfl) (by simp) ?_
    refine AllReadyH.cons rfl (fun K hK => ?_) AllReadyH.nil
    rw [if_pos (by rfl)]
    refine wp_append_own _ (.const (.slice none 0 0)) (.tmp 39) 23 rfl Z 36 i1 _ 5 56 Tryd.underlying23 HIS.out.1 HIS.out.2.1 HIS.out.2.2.1 HIS.out.2.2.2 rfl (by decide) (.slice none 0 0) 0 [] (by simp [Act.eval, Act.put]) (World.ownsRow_nil _ _ _ _) ⟨b, off, none⟩ k cs ((P.stakes.take k).flatMap stkV) (by simp [Act.eval, Act.put]) (by rw [flat_len stkV 5 (fun _ => rfl), HLT.out]) (stk_take HYP4.out.s k) stk_one (by simp only [maxLen]; omega) (by omega) (by rw [hZ]; exact Nat.le_refl _) ?_
    intro v1 w5 hown hgr _
    have hb : Below W1.heap.size W1 w5 := Below.grown (Below.refl _ _) hgr (Nat.le_refl _) (fun q hq => by cases hq)
    have hS5 := hS.next hb
    have HBA := Lib.hid hb
    have HZ5 : Hid (Z ≤ w5.heap.size) := by rw [hZ]; exact hb.size
    have HN5 : Hid (∀ j u, ((P.stakes.drop (k + 1)).flatMap stkV)[j]? = some u → w5.cell? (ad.add j) = some u) := HNW.out w5 (fun p hp => hb.cell hp)
    have HO5 := Lib.hid hown
    have HSH := Lib.hid hS
    refine hK.out _ _ hS5 (fun _ => ?_)
    clear hK K hown hgr hb hS hS5 HNW
    refine wpAnyH_ready (rs := [10]) (by kernel_rfl) (by simp) ?_
    refine AllReadyH.cons rfl (fun K hK => ?_) AllReadyH.nil
    rw [if_pos (by rfl)]
    refine wp_append_own _ (.tmp 40) (.tmp 45) 23 rfl Z 36 i1 _ 5 56 Tryd.underlying23 HIS.out.1 HIS.out.2.1 HIS.out.2.2.1 HIS.out.2.2.2 rfl (by decide) v1 (0 + k) ([] ++ (P.stakes.take k).flatMap stkV) (by simp [Act.eval, Act.put]) HO5.out ad (ns - (k + 1)) (cs - (k + 1)) ((P.stakes.drop (k + 1)).flatMap stkV) (by simp [Act.eval, Act.put]) (by rw [flat_len stkV 5 (fun _ => rfl), HLD.out]) HN5.out stk_one (by simp only [maxLen]; omega) (by omega) HZ5.out ?_
    intro v2 w6 hown hgr _
    have hb : Below W1.heap.size W1 w6 := HBA.out.trans (Below.grown (Below.refl _ _) hgr (by rw [← hZ]; exact HZ5.out) (fun q hq => by rw [← hZ]; exact (HO5.out.lt q hq).1))
    obtain ⟨Bs, cb, hv2, _, _⟩ := own_shape hown
    subst hv2
    obtain ⟨nb, hnb⟩ : ∃ nb, nb = 0 + k + (ns - (k + 1)) := ⟨_, rfl⟩
    rw [← hnb] at hown ⊢
    have HNB : Hid (nb = ((P.stakes.take k) ++ P.stakes.drop (k + 1)).length) := by show _ = _; rw [List.length_append, HLT.out, HLD.out, hnb]; omega
    have hS6 := HSH.out.next hb
    have HX6 := Lib.hid (HXq4.out.next hb)
    have HBX6 : Hid (Below w1.heap.size w1 w6) := HBX4.out.trans (hb.mono HBX4.out.size)
    have HB6 : Hid (Below w.heap.size w w6) := HB4.out.trans (hb.mono HB4.out.size)
    have HZX : Hid (X2 < Z) := by rw [hZ]; exact (Array.getElem?_eq_some_iff.1 HXq4.out).1
    have HOF : Hid ((w6.setCell ⟨X2, 1, none⟩ (.slice Bs nb cb)).ownsRow Z 36 5 (.slice Bs nb cb) nb ([] ++ (P.stakes.take k).flatMap stkV ++ (P.stakes.drop (k + 1)).flatMap stkV)) := own_setB hown HZX.out
    refine hK.out _ _ hS6 (fun _ => ?_)
    clear hK K hgr hb hown HO5 HN5 HBA HSH HXq4 HBX4 HB4 hnb hZ
    refine wpAnyH_take (i := 11) rfl (by kernel_rfl) (by kernel_rfl) (by kernel_rfl) (fun _ _ _ h => h) (Or.inl ⟨by kernel_rfl, (by intro w' _; go_simp; with_reducible rfl)⟩) hS6 ?_
    go_simp
    obtain ⟨g0, g1, g2⟩ := HX6.out.cells
    obtain ⟨f0, f1, f2, fz⟩ := HX6.out.store
    refine wpAnyH_ready (rs := [12]) (by kernel_rfl) (by simp) ?_
    refine AllReadyH.cons rfl (fun K hK => ?_) AllReadyH.nil
    go_simp
    clear g0 g1 g2 f0 f1 f2 fz
    have hSF : (PBox X1 Ak nk ck (some ⟨b, off, none⟩) ns cs At nt ct) (w6.setCell ⟨X2, 1, none⟩ (.slice Bs nb cb)) := hS6.other (a := ⟨X2, 1, none⟩) HXX.out.1 _
    refine hK.out _ _ hSF (fun _ => ?_)
    clear hK K
    refine wpAnyH_done (by kernel_rfl) ?_ _
    obtain ⟨wf, hwf⟩ : ∃ W, W = w6.setCell ⟨X2, 1, none⟩ (.slice Bs nb cb) := ⟨_, rfl⟩
    have HXpF : Hid (PBox X1 Ak nk ck (some ⟨b, off, none⟩) ns cs At nt ct wf) := by rw [hwf]; exact hSF
    have HXqF : Hid (PBox X2 Ak nk ck Bs nb cb At nt ct wf) := by rw [hwf]; exact HX6.out.set1 _ _ _
    have HBF : Hid (Below w.heap.size w wf) := by rw [hwf]; exact HB6.out.setCell (by show w.heap.size ≤ X2; exact HXX.out.2.1) _
    have HYPF : Hid (PRd Ak nk (some ⟨b, off, none⟩) ns At nt P wf) := by rw [hwf]; exact HP.out.next (HBX6.out.setCell (by show w1.heap.size ≤ X2; exact HBX3.out.2) _)
    rw [← hwf] at HOF ⊢
    have HRD : Hid (Rd wf wf.heap.size 5 Bs ((P.stakes.take k) ++ P.stakes.drop (k + 1)).length (((P.stakes.take k) ++ P.stakes.drop (k + 1)).flatMap stkV)) := by
      have := Rd.of_own HOF.out
      rw [List.nil_append, ← List.flatMap_append] at this
      show Rd _ _ _ _ _ _
      rw [← HNB.out]; exact this
    clear hwf hSF hS6 HX6 HB6 HBX6 HOF HZ5 HZX
    have HSUB : Hid (List.Sublist (P.stakes.take k ++ P.stakes.drop (k + 1)) P.stakes) := drop_one _ _
    obtain ⟨Q, hQ⟩ : ∃ Q, Q = lessS P (P.stakes.take k ++ P.stakes.drop (k + 1)) := ⟨_, rfl⟩
    have HCQ : Hid (chk Q = 0) := by rw [hQ]; exact chk_less HCK.out HSUB.out
    have HPQ : Hid (PB 1 Q) := by rw [hQ]; exact pb_less HPB.out HSUB.out
    have HNQ : Hid (nk = Q.kinds.length) := by rw [hQ]; exact HNK.out
    have HYQ : Hid (PRd Ak nk Bs nb At nt Q wf) := by rw [hQ]; exact ⟨HYPF.out.k, HRD.out, HYPF.out.t, HYPF.out.nk, HNB.out, HYPF.out.nt⟩
    have HLE : Hid (∀ c : Nat, ctl Q (a : Int) c = true → ctl P (a : Int) c = true) := fun c hc => by rw [hQ] at hc; exact ctl_less (Good.of_chk HCK.out).pos HSUB.out hc
    clear HSUB hQ
    obtain ⟨j0, j1, j2⟩ := HXpF.out.cells
    obtain ⟨k0, k1, k2⟩ := HXqF.out.cells
    clear j1 j2
    have ha := HA.out
    go_wp2_with fail
    try rw [ha]
    clear j0 k0 k1 k2 ha h3
    refine (pControlled_calls Ak nk ck Bs nb cb At nt ct Q 1 (a : Int) _ HYQ.out HPQ.out).mono ?_
    rintro e w7 ⟨A, c, rfl, hr, hb⟩
    have HXp7 := Lib.hid (HXpF.out.next hb)
    have HYP7 : Hid (PRd Ak nk (some ⟨b, off, none⟩) ns At nt P w7) := HYPF.out.next hb
    have HB7 : Hid (Below w.heap.size w w7) := HBF.out.trans (hb.mono HBF.out.size)
    have hin : inN Q.kinds.length (a : Int) = true := inN_iff.2 ⟨by omega, by rw [← HNQ.out]; omega⟩
    have e1 : oneErr Q (a : Int) = 0 := oneErr_of HCQ.out hin
    obtain ⟨L, hL⟩ : ∃ L, L = idxs (ctl Q (a : Int)) nk := ⟨_, rfl⟩
    have e2 : ctlList Q (a : Int) = L := by rw [ctlList_of HCQ.out hin, ← HNQ.out, hL]
    rw [e2] at hr ⊢
    rw [e1]
    obtain ⟨nl, hnl⟩ : ∃ nl, nl = L.length := ⟨_, rfl⟩
    have hl7 : nl ≤ 7 := by rw [hnl, hL]; have := idxs_len (ctl Q (a : Int)) nk; omega
    rw [← hnl]
    have HL := Lib.hid hL
    have HNL := Lib.hid hnl
    have HRL := Lib.hid hr
    clear hr hb hL hnl e1 e2 hin HXpF HXqF HYPF HBF HYQ
    go_wp2_with fail
    go_loopw [62] (fun i wr => ∃ j : Nat, j ≤ nl ∧ i = .int .i64 (j : Int) ∧ Hid (PBox X1 Ak nk ck (some ⟨b, off, none⟩) ns cs At nt ct wr) ∧ Hid (Below w7.heap.size w7 wr)) (fun i _ => nl - (intOf i).toNat)
    case atStart => exact ⟨0, Nat.zero_le _, rfl, HXp7, Below.refl _ _⟩
    case round =>
      clear HXp7
      obtain ⟨j, hj, rfl, HXwi, HYwi⟩ := hrel
      rename World => wi
      by_cases hjl : j < nl
      · obtain ⟨y, hy⟩ := getElem?_of_lt (l := L) (k := j) (by rw [← HNL.out]; exact hjl)
        obtain ⟨bl, ol, hA, _, c0⟩ := rd_int (HRL.out.next HYwi.out) hy
        subst hA
        obtain ⟨x, hx, hcx, hye⟩ : ∃ c : Nat, c < nk ∧ ctl Q (a : Int) c = true ∧ y = (c : Int) := by have := List.mem_of_getElem? hy; rw [HL.out] at this; exact mem_idxs.1 this
        subst hye
        have HCX : Hid (ctl P (a : Int) x = true) := HLE.out x hcx
        clear hy hcx
        obtain ⟨k0, k1, k2⟩ := HXwi.out.cells
        go_wp2_with fail
        clear k0 k1 k2 c0
        refine (pControls_calls Ak nk ck (some ⟨b, off, none⟩) ns cs At nt ct P 1 (a : Int) (x : Int) _ (HYP7.out.next HYwi.out) HPB.out).mono ?_
        rintro e w8 ⟨rfl, hb⟩
        have HX8 := Lib.hid (HXwi.out.next hb)
        have HY8 : Hid (Below w7.heap.size w7 w8) := HYwi.out.trans (hb.mono HYwi.out.size)
        clear hb HXwi HYwi
        have e1 : twoErr P (a : Int) (x : Int) = 0 := twoErr_of HCK.out (inN_iff.2 ⟨by omega, by rw [← HNK.out]; omega⟩) (inN_iff.2 ⟨by omega, by rw [← HNK.out]; omega⟩)
        have e2 : ctlB P (a : Int) (x : Int) = true := by unfold ctlB; rw [if_pos e1, Int.toNat_natCast]; exact HCX.out
        rw [e1, e2]
        clear e1 e2
        go_wp2_with fail
        go_roundw
        case measure => simp [intOf] <;> omega
        case rel => exact ⟨j + 1, by omega, by go_num, HX8, HY8⟩
      · have HBwi : Hid (Below w.heap.size w wi) := HB7.out.trans (HYwi.out.mono HB7.out.size)
        go_wp2_with fail
        refine (awake8_calls _).mono ?_
        rintro e wz ⟨rfl, hb⟩
        have HBz : Hid (Below w.heap.size w wz) := HBwi.out.trans (hb.mono HBwi.out.size)
        clear hb
        go_wp2_with fail
        go_ret
        exact ⟨rfl, HBz.out⟩

end Go.Proofs.YtomfcmlomfcghaaDoor

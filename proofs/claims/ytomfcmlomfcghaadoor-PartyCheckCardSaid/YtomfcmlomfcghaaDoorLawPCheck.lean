/- PartyCheck: the plain walk. -/
import Derived.Test.YtomfcmlomfcghaaDoorRChk
import Derived.Test.YtomfcmlomfcghaaDoorPAw8
import Derived.Test.YtomfcmlomfcghaaDoorFew8
set_option linter.unusedVariables false
set_option linter.unusedSimpArgs false
namespace Go.Proofs.YtomfcmlomfcghaaDoor
open Go.RowKit

theorem fewP_pb {P : Prt} (h : fewP P = true) (hk : ∀ x ∈ P.kinds, i64b x) (hs : ∀ x ∈ P.stakes, i64b x.o ∧ i64b x.c ∧ x.v.fits maxLen) (ht : ∀ x ∈ P.ties, i64b x.1 ∧ i64b x.2) : PB 24 P := by
  simp only [fewP, Bool.and_eq_true, decide_eq_true_eq, List.all_eq_true, fewF] at h
  obtain ⟨h1, h2, h3, h4⟩ := h
  exact ⟨by decide, by decide, hk, fun x hx => ⟨(hs x hx).1, (hs x hx).2.1, h4 x hx⟩, ht, by unfold maxLen; omega, by unfold maxLen; omega, by unfold maxLen; omega⟩

set_option maxHeartbeats 4000000 in
set_option maxRecDepth 100000 in
theorem partyCheckLaw (Ak : Option Addr) (nk ck : Nat) (As : Option Addr) (ns cs : Nat) (At : Option Addr) (nt ct : Nat) (P : Prt) (w : World) (hp : PRd Ak nk As ns At nt P w)
    (hk : ∀ x ∈ P.kinds, i64b x) (hs : ∀ x ∈ P.stakes, i64b x.o ∧ i64b x.c ∧ x.v.fits maxLen) (ht : ∀ x ∈ P.ties, i64b x.1 ∧ i64b x.2) (gk : nk ≤ maxLen) (gs : ns ≤ maxLen) (gt : nt ≤ maxLen) :
    Calls Tryd.prog 3 #[ptyVal Ak nk ck As ns cs At nt ct] w fun e w' => e = .returned (.bool true) ∧ Below w.heap.size w w' := by
  obtain ⟨ok, hok⟩ : ∃ ok, ok = fewP P := ⟨_, rfl⟩
  have HFEW := Lib.hid (fun W (hW : Below w.heap.size w W) => few8_calls Ak nk ck As ns cs At nt ct P W (hp.next hW) (fun x hx => (hs x hx).2.2) gk gs gt ok hok)
  have HPB : Hid (ok = true → PB 24 P) := fun h => fewP_pb (hok.symm.trans h) hk hs ht
  have HP := Lib.hid hp
  obtain ⟨w0, hw0⟩ : ∃ W, W = w.alloc (.cells #[.slice Ak nk ck, .slice As ns cs, .slice At nt ct] 26) := ⟨_, rfl⟩
  obtain ⟨q, hq⟩ : ∃ q, q = w.heap.size := ⟨_, rfl⟩
  have HB0 : Hid (Below w.heap.size w w0) := by rw [hw0]; exact bel_alloc _ _
  have HX0 : Hid (PBox q Ak nk ck As ns cs At nt ct w0) := by rw [hw0, hq]; exact blk_new _ _
  clear hp hk hs ht gk gs gt hok
  go_enter Tryd.func3, Tryd.ntmps3
  go_upto_region 1 with fail
  rw [← hw0, ← hq]
  have HQ := Lib.hid hq
  clear hw0 hq
  obtain ⟨k0, k1, k2⟩ := HX0.out.cells
  go_wp2_with fail
  clear k0 k1 k2
  refine (HFEW.out _ HB0.out).mono ?_
  rintro e w1 ⟨rfl, hb⟩
  have HX1 := Lib.hid (HX0.out.next hb)
  have HB1 : Hid (Below w.heap.size w w1) := HB0.out.trans (hb.mono HB0.out.size)
  clear hb HB0 HX0 HFEW
  cases ok
  · clear HPB
    go_wp2_with fail
    refine (awake8_calls _).mono ?_
    rintro e w2 ⟨rfl, hb⟩
    have HB2 : Hid (Below w.heap.size w w2) := HB1.out.trans (hb.mono HB1.out.size)
    clear hb
    go_wp2_with fail
    go_ret
    exact ⟨rfl, HB2.out⟩
  · have HPB2 := Lib.hid (HPB.out (by simp))
    obtain ⟨E, hE⟩ : ∃ E, E = chk P := ⟨_, rfl⟩
    have HC1' := fun (W : World) (hW : Below w.heap.size w W) => check_calls Ak nk ck As ns cs At nt ct P 24 W (HP.out.next hW) HPB2.out
    have HC2' := fun (W : World) (hW : Below w.heap.size w W) => rchk_calls Ak nk ck As ns cs At nt ct P 24 W (HP.out.next hW) HPB2.out
    rw [← hE] at HC1' HC2'
    have HC1 := Lib.hid HC1'
    have HC2 := Lib.hid HC2'
    clear HC1' HC2' hE HPB
    go_wp2_with fail
    obtain ⟨W2, hW2⟩ : ∃ W, W = w1.drew := ⟨_, rfl⟩
    have hS2 : (PBox q Ak nk ck As ns cs At nt ct) W2 := by rw [hW2]; exact HX1.out
    have HB2 : Hid (Below w.heap.size w W2) := by rw [hW2]; exact HB1.out.drew
    refine wp_region_held_drew (S := (PBox q Ak nk ck As ns cs At nt ct)) (by kernel_rfl) (by rw [← hW2]; exact hS2) ?_
    rw [← hW2]
    intro _
    clear hW2 HX1 HB1
    refine wpAnyH_ready (rs := [0]) (by kernel_rfl) (by simp) ?_
    refine AllReadyH.cons rfl (fun K hK => ?_) AllReadyH.nil
    go_simp
    refine (awake8_calls _).mono ?_
    rintro e W3 ⟨rfl, hb⟩
    have hS3 := hS2.next hb
    have HB3 : Hid (Below w.heap.size w W3) := HB2.out.trans (hb.mono HB2.out.size)
    clear hb hS2 HB2
    refine hK.out _ _ hS3 (fun _ => ?_)
    clear hK K
    refine wpAnyH_take (i := 1) rfl (by kernel_rfl) (by kernel_rfl) (by kernel_rfl) (fun _ _ _ h => h) (Or.inl ⟨by kernel_rfl, (by intro w' _; go_simp; with_reducible rfl)⟩) hS3 ?_
    go_simp
    refine wpAnyH_take (i := 2) (v := ptyVal Ak nk ck As ns cs At nt ct) rfl (by kernel_rfl) (by kernel_rfl) (by kernel_rfl) (fun _ _ _ h => h) (Or.inl ⟨by kernel_rfl, (by intro w' hw'; obtain ⟨q0, q1, q2⟩ := hw'.cells; go_simp)⟩) hS3 ?_
    go_simp
    refine wpAnyH_take (i := 4) (v := ptyVal Ak nk ck As ns cs At nt ct) rfl (by kernel_rfl) (by kernel_rfl) (by kernel_rfl) (fun _ _ _ h => h) (Or.inl ⟨by kernel_rfl, (by intro w' hw'; obtain ⟨q0, q1, q2⟩ := hw'.cells; go_simp)⟩) hS3 ?_
    go_simp
    refine wpAnyH_ready (rs := [3]) (by kernel_rfl) (by simp) ?_
    refine AllReadyH.cons rfl (fun K hK => ?_) AllReadyH.nil
    go_simp
    refine (HC1.out _ HB3.out).mono ?_
    rintro e W4 ⟨rfl, hb⟩
    have hS4 := hS3.next hb
    have HB4 : Hid (Below w.heap.size w W4) := HB3.out.trans (hb.mono HB3.out.size)
    clear hb hS3 HB3
    refine hK.out _ _ hS4 (fun _ => ?_)
    clear hK K
    refine wpAnyH_ready (rs := [5]) (by kernel_rfl) (by simp) ?_
    refine AllReadyH.cons rfl (fun K hK => ?_) AllReadyH.nil
    go_simp
    refine (HC2.out _ HB4.out).mono ?_
    rintro e W5 ⟨rfl, hb⟩
    have hS5 := hS4.next hb
    have HB5 : Hid (Below w.heap.size w W5) := HB4.out.trans (hb.mono HB4.out.size)
    clear hb hS4 HB4
    refine hK.out _ _ hS5 (fun _ => ?_)
    clear hK K
    refine wpAnyH_take (i := 6) (v := .bool true) rfl (by kernel_rfl) (by kernel_rfl) (by kernel_rfl) (fun _ _ _ h => h) (Or.inl ⟨by kernel_rfl, (by intro w' hw'; have hee : (E == E) = true := beq_self_eq_true E; go_simp)⟩) hS5 ?_
    go_simp
    refine wpAnyH_take (i := 7) rfl (by kernel_rfl) (by kernel_rfl) (by kernel_rfl) (fun _ _ _ h => h) (Or.inl ⟨by kernel_rfl, (by intro w' _; go_simp; with_reducible rfl)⟩) hS5 ?_
    go_simp
    refine wpAnyH_take (i := 8) rfl (by kernel_rfl) (by kernel_rfl) (by kernel_rfl) (fun _ _ _ h => h) (Or.inl ⟨by kernel_rfl, (by intro w' _; go_simp; with_reducible rfl)⟩) hS5 ?_
    go_simp
    refine wpAnyH_done (by kernel_rfl) ?_ _
    go_wp2_with fail
    go_ret
    exact ⟨rfl, HB5.out⟩

end Go.Proofs.YtomfcmlomfcghaaDoor

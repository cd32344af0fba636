/- party.connected, Connected, Circle. -/
import Derived.Test.YtomfcmlomfcghaaGreatDoorM26
set_option linter.unusedVariables false
set_option linter.unusedSimpArgs false
namespace Go.Proofs.YtomfcmlomfcghaaGreatDoor
open Go.RowKit

theorem FRow.upd {I : Nat} {S : Nat → Bool} {n : Nat} {W : World} (h : FRow I (flags S n) W) (c : Nat) (v : Bool) : FRow I (flags (updS S c v) n) (W.setCell ⟨I, c, none⟩ (.bool v)) := by
  have := h.set c v
  rwa [flags_upd] at this
noncomputable def conB (P : Prt) (a b : Int) : Bool := if twoErr P a b = 0 then con P a.toNat b.toNat else false
set_option maxHeartbeats 8000000 in
set_option maxRecDepth 100000 in
theorem pcon_calls (Ak : Option Addr) (nk ck : Nat) (As : Option Addr) (ns cs : Nat) (At : Option Addr) (nt ct : Nat) (P : Prt) (m : Nat) (a : Nat) (w : World) (hp : PRd Ak nk As ns At nt P w) (hb : PB m P) (hgo : Good P) (han : a < nk) :
    Calls Tryz.prog 49 #[ptyVal Ak nk ck As ns cs At nt ct, .int .i64 (a : Int)] w (FlagsPost nk (con P a) w) := by
  have HP := Lib.hid hp
  have HPB := Lib.hid hb
  have HGO := Lib.hid hgo
  have HNK := Lib.hid hp.nk
  have HNT := Lib.hid hp.nt
  have gk : nk ≤ 32 := by rw [hp.nk]; exact hgo.kl
  have gt : nt ≤ 64 := by rw [hp.nt]; exact hgo.tl
  have han2 : (a : Int) < (nk : Int) := by omega
  have HCT := Lib.hid (fun (o : Int) (W : World) (hW : Below w.heap.size w W) => pctl_calls Ak nk ck As ns cs At nt ct P m o W (hp.next hW) hb hgo)
  clear hp hb hgo
  obtain ⟨w0, hw0⟩ : ∃ W, W = w.alloc (.cells #[.slice Ak nk ck, .slice As ns cs, .slice At nt ct] 26) := ⟨_, rfl⟩
  obtain ⟨q, hq⟩ : ∃ q, q = w.heap.size := ⟨_, rfl⟩
  have HB0 : Hid (Below w.heap.size w w0) := by rw [hw0]; exact bel_alloc _ _
  have HX0 : Hid (PBox q Ak nk ck As ns cs At nt ct w0) := by rw [hw0, hq]; exact blk_new _ _
  go_enter Tryz.func49, Tryz.ntmps49
  go_upto_region 1 with fail
  rw [← hw0, ← hq]
  have HQ := Lib.hid hq
  have hqw : w.heap.size ≤ q := by omega
  clear hw0 hq
  obtain ⟨k0, k1, k2⟩ := HX0.out.cells
  go_wp2_with fail
  clear k0 k1 k2
  refine (HCT.out _ _ HB0.out).mono ?_
  rintro e w1 ⟨O, rfl, hO, hf, hb⟩
  have hOw : w.heap.size ≤ O := by have := HB0.out.size; omega
  have hqO : q ≠ O := by intro e; have := (Array.getElem?_eq_some_iff.1 HX0.out).1; omega
  have HX1 := Lib.hid (HX0.out.next hb)
  have HB1 : Hid (Below w.heap.size w w1) := HB0.out.trans (hb.mono HB0.out.size)
  have c7 := hf.cell (flags_at han)
  have f7 := hf.frozen a
  have z7 := hf.lt
  have HF2 : Hid (FRow O (flags (T1 P a 0) nk) (w1.setCell ⟨O, a, none⟩ (.bool true))) := by show FRow _ _ _; rw [T1_zero]; exact hf.upd a true
  have HX2 : Hid (PBox q Ak nk ck As ns cs At nt ct (w1.setCell ⟨O, a, none⟩ (.bool true))) := HX1.out.other (a := ⟨O, a, none⟩) hqO _
  have HB2 : Hid (Below w.heap.size w (w1.setCell ⟨O, a, none⟩ (.bool true))) := HB1.out.setCell hOw _
  clear hf hb HB0 HX0 HB1 HX1 hO
  obtain ⟨k0, k1, k2⟩ := HX2.out.cells
  go_wp2_with fail
  clear k0 k1 k2 c7 f7 z7
  go_loopw [21] (fun i wr => ∃ k : Nat, k ≤ nt ∧ i = .int .i64 (k : Int) ∧ Hid (FRow O (flags (T1 P a k) nk) wr) ∧ Hid (PBox q Ak nk ck As ns cs At nt ct wr) ∧ Hid (Below w.heap.size w wr)) (fun i _ => nt - (intOf i).toNat)
  case atStart => exact ⟨0, Nat.zero_le _, rfl, HF2, HX2, HB2⟩
  case round =>
    clear HF2 HX2 HB2
    obtain ⟨j, hj, rfl, HFwr, HXwr, HBwr⟩ := hrel
    rename World => wr
    by_cases hjl : j < nt
    · obtain ⟨t, ht⟩ := getElem?_of_lt (l := P.ties) (k := j) (by rw [← HNT.out]; exact hjl)
      have htf := HGO.out.t t (List.mem_of_getElem? ht)
      obtain ⟨b, off, hA, _, hc⟩ := Rd.at_ (enc := tieV) (fun _ => rfl) (HP.out.t.next HBwr.out) ht
      subst hA
      have p0 := hc 0 _ rfl
      have p1 := hc 1 _ rfl
      rw [Nat.add_zero] at p0
      rw [← Nat.add_assoc] at p1
      clear hc
      obtain ⟨xi, yi⟩ := t
      dsimp only at p0 p1
      simp only [tieFine, Bool.and_eq_true, decide_eq_true_eq] at htf
      obtain ⟨hx1, hy1, _⟩ := htf
      have hx2 := inN_true hx1
      have hy2 := inN_true hy1
      rw [← HNK.out] at hx2 hy2
      obtain ⟨x, hx⟩ : ∃ i : Nat, xi = (i : Int) := ⟨xi.toNat, by omega⟩
      obtain ⟨y, hy⟩ : ∃ i : Nat, yi = (i : Int) := ⟨yi.toNat, by omega⟩
      subst hx
      subst hy
      have hxl : x < nk := by omega
      have hyl : y < nk := by omega
      have hxl2 : (x : Int) < (nk : Int) := by omega
      have hyl2 : (y : Int) < (nk : Int) := by omega
      have HTS := Lib.hid (T1_succ (a := a) ht)
      clear hx1 hy1 hx2 hy2 ht
      obtain ⟨g, hg⟩ : ∃ g, g = wr.heap.size := ⟨_, rfl⟩
      obtain ⟨wa, hwa⟩ : ∃ W, W = wr.alloc (.cells #[.int .i64 (x : Int), .int .i64 (y : Int)] 87) := ⟨_, rfl⟩
      have HSwa : Hid (TBox g (x : Int) (y : Int) wa) := by rw [hwa, hg]; exact blk_new _ _
      have HXwa : Hid (PBox q Ak nk ck As ns cs (some ⟨b, off, none⟩) nt ct wa) := by rw [hwa]; exact HXwr.out.next (bel_alloc _ _)
      have HFwa : Hid (FRow O (flags (T1 P a j) nk) wa) := by rw [hwa]; exact HFwr.out.next (bel_alloc _ _)
      have HBwa : Hid (Below w.heap.size w wa) := by rw [hwa]; exact HBwr.out.alloc HBwr.out.size _
      have hgO : g ≠ O := by rw [hg]; intro e; have := HFwr.out.lt; omega
      have hsa := HSwa.out
      rw [hwa, hg] at hsa
      obtain ⟨s0, s1⟩ := hsa.cells
      have HW := Lib.hid (And.intro hwa hg)
      clear hsa
      by_cases hxa2 : x = a
      · by_cases hya : y = a
        · have d1 : ((x : Int) == (a : Int)) = true := beq_iff_eq.2 (by omega)
          have d2 : ((y : Int) == (a : Int)) = true := beq_iff_eq.2 (by omega)
          have hfa := HFwa.out
          have hxa := HXwa.out
          have hba := HBwa.out
          rw [hwa] at hfa hxa hba
          clear hwa hg
          have c1 := hfa.cell (flags_at hyl)
          have f1 := hfa.frozen y
          have z1 := hfa.lt
          have hfb := hfa.upd y true
          have hxb := hxa.other (a := ⟨O, y, none⟩) hqO (.bool true)
          have hbb := hba.setCell (p := ⟨O, y, none⟩) hOw (.bool true)
          have hsb : TBox wr.heap.size (x : Int) (y : Int) ((wr.alloc (.cells #[.int .i64 (x : Int), .int .i64 (y : Int)] 87)).setCell ⟨O, y, none⟩ (.bool true)) := by have h1 := HSwa.out; rw [HW.out.1, HW.out.2] at h1; exact (heap_setCell_other _ ⟨O, y, none⟩ _ _ (by rw [← HW.out.2]; exact hgO)).trans h1
          obtain ⟨t0, t1⟩ := hsb.cells
          have c2 := hfb.cell (flags_at hxl)
          have f2 := hfb.frozen x
          have z2 := hfb.lt
          have hfc := hfb.upd x true
          have hxc := hxb.other (a := ⟨O, x, none⟩) hqO (.bool true)
          have hbc := hbb.setCell (p := ⟨O, x, none⟩) hOw (.bool true)
          have HNX : Hid (T1 P a (j + 1) = updS (updS (T1 P a j) y true) x true) := by show _ = _; rw [HTS.out]; dsimp only; rw [if_pos (show y = a from hya), if_pos (show x = a from hxa2)]
          have HFn := Lib.hid hfc
          have HXn := Lib.hid hxc
          have HBn := Lib.hid hbc
          rw [← HNX.out] at HFn
          clear hfa hxa hba HFwa HXwa HBwa HSwa HXwr HFwr HBwr hxa2 hya hfb hxb hbb hsb hfc hxc hbc
          go_wp2_with fail
          go_roundw
          case measure => simp [intOf] <;> omega
          case rel => exact ⟨j + 1, by omega, by go_num, HFn, HXn, HBn⟩
        · have d1 : ((x : Int) == (a : Int)) = true := beq_iff_eq.2 (by omega)
          have d2 : ((y : Int) == (a : Int)) = false := beq_eq_false_iff_ne.2 (by omega)
          have hfa := HFwa.out
          have hxa := HXwa.out
          have hba := HBwa.out
          rw [hwa] at hfa hxa hba
          clear hwa hg
          have c1 := hfa.cell (flags_at hyl)
          have f1 := hfa.frozen y
          have z1 := hfa.lt
          have hfb := hfa.upd y true
          have hxb := hxa.other (a := ⟨O, y, none⟩) hqO (.bool true)
          have hbb := hba.setCell (p := ⟨O, y, none⟩) hOw (.bool true)
          have hsb : TBox wr.heap.size (x : Int) (y : Int) ((wr.alloc (.cells #[.int .i64 (x : Int), .int .i64 (y : Int)] 87)).setCell ⟨O, y, none⟩ (.bool true)) := by have h1 := HSwa.out; rw [HW.out.1, HW.out.2] at h1; exact (heap_setCell_other _ ⟨O, y, none⟩ _ _ (by rw [← HW.out.2]; exact hgO)).trans h1
          obtain ⟨t0, t1⟩ := hsb.cells
          have HNX : Hid (T1 P a (j + 1) = updS (T1 P a j) y true) := by show _ = _; rw [HTS.out]; dsimp only; rw [if_neg hya, if_pos (show x = a from hxa2)]
          have HFn := Lib.hid hfb
          have HXn := Lib.hid hxb
          have HBn := Lib.hid hbb
          rw [← HNX.out] at HFn
          clear hfa hxa hba HFwa HXwa HBwa HSwa HXwr HFwr HBwr hxa2 hya hfb hxb hbb hsb
          go_wp2_with fail
          go_roundw
          case measure => simp [intOf] <;> omega
          case rel => exact ⟨j + 1, by omega, by go_num, HFn, HXn, HBn⟩
      · by_cases hya : y = a
        · have d1 : ((x : Int) == (a : Int)) = false := beq_eq_false_iff_ne.2 (by omega)
          have d2 : ((y : Int) == (a : Int)) = true := beq_iff_eq.2 (by omega)
          have hfa := HFwa.out
          have hxa := HXwa.out
          have hba := HBwa.out
          rw [hwa] at hfa hxa hba
          clear hwa hg
          have c2 := hfa.cell (flags_at hxl)
          have f2 := hfa.frozen x
          have z2 := hfa.lt
          have hfc := hfa.upd x true
          have hxc := hxa.other (a := ⟨O, x, none⟩) hqO (.bool true)
          have hbc := hba.setCell (p := ⟨O, x, none⟩) hOw (.bool true)
          have HNX : Hid (T1 P a (j + 1) = updS (T1 P a j) x true) := by show _ = _; rw [HTS.out]; dsimp only; rw [if_pos (show y = a from hya), if_neg hxa2]
          have HFn := Lib.hid hfc
          have HXn := Lib.hid hxc
          have HBn := Lib.hid hbc
          rw [← HNX.out] at HFn
          clear hfa hxa hba HFwa HXwa HBwa HSwa HXwr HFwr HBwr hxa2 hya hfc hxc hbc
          go_wp2_with fail
          go_roundw
          case measure => simp [intOf] <;> omega
          case rel => exact ⟨j + 1, by omega, by go_num, HFn, HXn, HBn⟩
        · have d1 : ((x : Int) == (a : Int)) = false := beq_eq_false_iff_ne.2 (by omega)
          have d2 : ((y : Int) == (a : Int)) = false := beq_eq_false_iff_ne.2 (by omega)
          have hfa := HFwa.out
          have hxa := HXwa.out
          have hba := HBwa.out
          rw [hwa] at hfa hxa hba
          clear hwa hg
          have HNX : Hid (T1 P a (j + 1) = T1 P a j) := by show _ = _; rw [HTS.out]; dsimp only; rw [if_neg hya, if_neg hxa2]
          have HFn := Lib.hid hfa
          have HXn := Lib.hid hxa
          have HBn := Lib.hid hba
          rw [← HNX.out] at HFn
          clear hfa hxa hba HFwa HXwa HBwa HSwa HXwr HFwr HBwr hxa2 hya
          go_wp2_with fail
          go_roundw
          case measure => simp [intOf] <;> omega
          case rel => exact ⟨j + 1, by omega, by go_num, HFn, HXn, HBn⟩
    · have HFO : Hid (FRow O (flags (T2 P a 0) nk) wr) := by
        have h1 := HFwr.out
        rw [show j = P.ties.length by rw [← HNT.out]; omega] at h1
        show FRow _ _ _; rw [T2_zero]; exact h1
      obtain ⟨k0, k1, k2⟩ := HXwr.out.cells
      go_wp2_with fail
      clear k0 k1 k2 hj hjl HFwr
      go_loopw [45] (fun i wr => ∃ k : Nat, k ≤ nk ∧ i = .int .i64 (k : Int) ∧ Hid (FRow O (flags (T2 P a k) nk) wr) ∧ Hid (PBox q Ak nk ck As ns cs At nt ct wr) ∧ Hid (Below w.heap.size w wr)) (fun i _ => nk - (intOf i).toNat)
      case atStart => exact ⟨0, Nat.zero_le _, rfl, HFO, HXwr, HBwr⟩
      case round =>
        clear HFO HXwr HBwr
        obtain ⟨k, hk, rfl, HFwo, HXwo, HBwo⟩ := hrel
        rename World => wo
        by_cases hkl : k < nk
        · have hkl2 : (k : Int) < (nk : Int) := by omega
          obtain ⟨k0, k1, k2⟩ := HXwo.out.cells
          go_wp2_with fail
          clear k0 k1 k2
          refine (HCT.out _ _ HBwo.out).mono ?_
          rintro e wi ⟨I, rfl, hI, hf, hb⟩
          have hIO : I ≠ O := by intro e; have := HFwo.out.lt; omega
          have HFi := Lib.hid hf
          have HFOi := Lib.hid (HFwo.out.next hb)
          have HXi := Lib.hid (HXwo.out.next hb)
          have HBi : Hid (Below w.heap.size w wi) := HBwo.out.trans (hb.mono HBwo.out.size)
          clear hf hb HFwo HXwo HBwo hI
          have c7 := HFi.out.cell (flags_at han)
          rcases hck : ctl P (k : Int) a with _ | _
          · rw [hck] at c7
            have HNX : Hid (T2 P a (k + 1) = T2 P a k) := T2_skip hck
            clear hck
            go_wp2_with fail
            go_roundw
            case measure => simp [intOf] <;> omega
            case rel => exact ⟨k + 1, by omega, by go_num, by rw [HNX.out]; exact HFOi, HXi, HBi⟩
          · rw [hck] at c7
            have HCK := Lib.hid hck
            clear hck
            have c8 := HFOi.out.cell (flags_at hkl)
            have f8 := HFOi.out.frozen k
            have z8 := HFOi.out.lt
            have HFOj : Hid (FRow O (flags (T3 P a k 0) nk) (wi.setCell ⟨O, k, none⟩ (.bool true))) := by show FRow _ _ _; rw [T3_zero]; exact HFOi.out.upd k true
            have HFj : Hid (FRow I (flags (ctl P (k : Int)) nk) (wi.setCell ⟨O, k, none⟩ (.bool true))) := HFi.out.other (a := ⟨O, k, none⟩) hIO _
            have HXj : Hid (PBox q Ak nk ck As ns cs At nt ct (wi.setCell ⟨O, k, none⟩ (.bool true))) := HXi.out.other (a := ⟨O, k, none⟩) hqO _
            have HBj : Hid (Below w.heap.size w (wi.setCell ⟨O, k, none⟩ (.bool true))) := HBi.out.setCell hOw _
            go_wp2_with fail
            clear c7 c8 f8 z8 HFOi HFi HXi HBi
            go_loopw [61] (fun i wr => ∃ j : Nat, j ≤ nk ∧ i = .int .i64 (j : Int) ∧ Hid (FRow O (flags (T3 P a k j) nk) wr) ∧ Hid (FRow I (flags (ctl P (k : Int)) nk) wr) ∧ Hid (PBox q Ak nk ck As ns cs At nt ct wr) ∧ Hid (Below w.heap.size w wr)) (fun i _ => nk - (intOf i).toNat)
            case atStart => exact ⟨0, Nat.zero_le _, rfl, HFOj, HFj, HXj, HBj⟩
            case round =>
              clear HFOj HFj HXj HBj
              obtain ⟨j, hj, rfl, HFOj, HFj, HXj, HBj⟩ := hrel
              rename World => wj
              by_cases hjl : j < nk
              · have hjl2 : (j : Int) < (nk : Int) := by omega
                have ci := HFj.out.cell (flags_at hjl)
                have co := HFOj.out.cell (flags_at hjl)
                have fo := HFOj.out.frozen j
                have zo := HFOj.out.lt
                obtain ⟨u, hu⟩ : ∃ u, u = ctl P (k : Int) j := ⟨_, rfl⟩
                obtain ⟨v, hv⟩ : ∃ v, v = T3 P a k j j := ⟨_, rfl⟩
                rw [← hu] at ci
                rw [← hv] at co
                have HNX : Hid (T3 P a k (j + 1) = updS (T3 P a k j) j (v || u)) := by show _ = _; rw [T3_succ, ← hu, ← hv]
                have HFOn : Hid (FRow O (flags (T3 P a k (j + 1)) nk) (wj.setCell ⟨O, j, none⟩ (.bool (v || u)))) := by show FRow _ _ _; rw [HNX.out]; exact HFOj.out.upd j _
                have HFn : Hid (FRow I (flags (ctl P (k : Int)) nk) (wj.setCell ⟨O, j, none⟩ (.bool (v || u)))) := HFj.out.other (a := ⟨O, j, none⟩) hIO _
                have HXn : Hid (PBox q Ak nk ck As ns cs At nt ct (wj.setCell ⟨O, j, none⟩ (.bool (v || u)))) := HXj.out.other (a := ⟨O, j, none⟩) hqO _
                have HBn : Hid (Below w.heap.size w (wj.setCell ⟨O, j, none⟩ (.bool (v || u)))) := HBj.out.setCell hOw _
                clear hu hv HFOj HFj HXj HBj
                cases v
                · cases u
                  · go_wp2_with fail
                    go_roundw
                    case measure => simp [intOf] <;> omega
                    case rel => exact ⟨j + 1, by omega, by go_num, HFOn, HFn, HXn, HBn⟩
                  · go_wp2_with fail
                    go_roundw
                    case measure => simp [intOf] <;> omega
                    case rel => exact ⟨j + 1, by omega, by go_num, HFOn, HFn, HXn, HBn⟩
                · go_wp2_with fail
                  go_roundw
                  case measure => simp [intOf] <;> omega
                  case rel => exact ⟨j + 1, by omega, by go_num, HFOn, HFn, HXn, HBn⟩
              · have HFO2 : Hid (FRow O (flags (T2 P a (k + 1)) nk) wj) := by
                  have h1 := HFOj.out
                  rw [show j = P.kinds.length by rw [← HNK.out]; omega] at h1
                  show FRow _ _ _
                  rw [← flags_congr (fun c hc => T3_end HCK.out (by rw [← HNK.out]; exact hc))]
                  exact h1
                go_wp2_with fail
                go_roundw
                case measure => simp [intOf] <;> omega
                case rel => exact ⟨k + 1, by omega, by go_num, HFO2, HXj, HBj⟩
        · go_wp2_with fail
          go_ret
          refine ⟨O, rfl, hOw, ?_, HBwo.out⟩
          have h1 := HFwo.out
          rw [show k = P.kinds.length by rw [← HNK.out]; omega] at h1
          rw [← flags_congr (fun c _ => T2_end (by rw [← HNK.out]; exact han) c)]
          exact h1

theorem twoErr_parts {P : Prt} {a b : Int} (h : twoErr P a b = 0) : chk P = 0 ∧ inN P.kinds.length a = true ∧ inN P.kinds.length b = true := by
  unfold twoErr at h
  split at h
  · rename_i h1; exact absurd h h1
  · rename_i h1
    split at h
    · omega
    · rename_i h2
      split at h
      · omega
      · rename_i h3; exact ⟨by omega, by simpa using h2, by simpa using h3⟩
theorem conB_of {P : Prt} {a b : Nat} (h1 : chk P = 0) (ha : a < P.kinds.length) (hb : b < P.kinds.length) : conB P (a : Int) (b : Int) = con P a b := by
  unfold conB
  rw [if_pos (twoErr_of h1 (inN_iff.2 ⟨by omega, by omega⟩) (inN_iff.2 ⟨by omega, by omega⟩)), Int.toNat_natCast, Int.toNat_natCast]

set_option maxHeartbeats 4000000 in
set_option maxRecDepth 100000 in
theorem pConnected_calls (Ak : Option Addr) (nk ck : Nat) (As : Option Addr) (ns cs : Nat) (At : Option Addr) (nt ct : Nat) (P : Prt) (m : Nat) (a b : Int) (w : World) (hp : PRd Ak nk As ns At nt P w) (hb : PB m P) :
    Calls Tryz.prog 21 #[ptyVal Ak nk ck As ns cs At nt ct, .int .i64 a, .int .i64 b] w fun e w' => e = .returned (.tuple #[.bool (conB P a b), .int .i64 (twoErr P a b)]) ∧ Below w.heap.size w w' := by
  have HP := Lib.hid hp
  have HPB := Lib.hid hb
  have HNK := Lib.hid hp.nk
  clear hp hb
  obtain ⟨w0, hw0⟩ : ∃ W, W = w.alloc (.cells #[.slice Ak nk ck, .slice As ns cs, .slice At nt ct] 26) := ⟨_, rfl⟩
  obtain ⟨q, hq⟩ : ∃ q, q = w.heap.size := ⟨_, rfl⟩
  have HB0 : Hid (Below w.heap.size w w0) := by rw [hw0]; exact bel_alloc _ _
  have HX0 : Hid (PBox q Ak nk ck As ns cs At nt ct w0) := by rw [hw0, hq]; exact blk_new _ _
  obtain ⟨E, hE⟩ : ∃ E, E = twoErr P a b := ⟨_, rfl⟩
  obtain ⟨x, hx⟩ : ∃ x, x = ctlB P a b := ⟨_, rfl⟩
  have HC' := fun (W : World) (hW : Below w.heap.size w W) => pControls_calls Ak nk ck As ns cs At nt ct P m a b W (HP.out.next hW) HPB.out
  rw [← hE, ← hx] at HC'
  have HC := Lib.hid HC'
  have HE := Lib.hid hE
  rw [← hE]
  clear HC' hE hx
  by_cases h0 : E = 0
  · subst h0
    have hpt : chk P = 0 ∧ inN P.kinds.length a = true ∧ inN P.kinds.length b = true := twoErr_parts HE.out.symm
    have ha := inN_true hpt.2.1
    have hbb := inN_true hpt.2.2
    rw [← HNK.out] at ha hbb
    obtain ⟨an, han⟩ : ∃ i : Nat, a = (i : Int) := ⟨a.toNat, by omega⟩
    obtain ⟨bn, hbn⟩ : ∃ i : Nat, b = (i : Int) := ⟨b.toNat, by omega⟩
    subst han
    subst hbn
    have hal : an < nk := by omega
    have hbl : bn < nk := by omega
    have hbl2 : (bn : Int) < (nk : Int) := by omega
    have HGO := Lib.hid (Good.of_chk hpt.1)
    obtain ⟨r, hr⟩ : ∃ r, r = con P an bn := ⟨_, rfl⟩
    have e2 : conB P (an : Int) (bn : Int) = r := by unfold conB; rw [← HE.out, if_pos rfl, Int.toNat_natCast, Int.toNat_natCast, hr]
    rw [e2]
    have HR := Lib.hid hr
    clear e2 hr ha hbb hpt
    go_enter Tryz.func21, Tryz.ntmps21
    go_upto_region 1 with fail
    rw [← hw0, ← hq]
    have HQ := Lib.hid hq
    clear hw0 hq
    obtain ⟨k0, k1, k2⟩ := HX0.out.cells
    go_wp2_with fail
    clear k0 k1 k2
    refine (HC.out _ HB0.out).mono ?_
    rintro e w1 ⟨rfl, hb⟩
    have HX1 := Lib.hid (HX0.out.next hb)
    have HB1 : Hid (Below w.heap.size w w1) := HB0.out.trans (hb.mono HB0.out.size)
    clear hb HX0 HB0
    obtain ⟨k0, k1, k2⟩ := HX1.out.cells
    go_wp2_with fail
    clear k0 k1 k2
    refine (pcon_calls Ak nk ck As ns cs At nt ct P m an _ (HP.out.next HB1.out) HPB.out HGO.out hal).mono ?_
    rintro e w2 ⟨g, rfl, _, hf, hb⟩
    have HB2 : Hid (Below w.heap.size w w2) := HB1.out.trans (hb.mono HB1.out.size)
    have c7 := hf.cell (flags_at hbl)
    rw [← HR.out] at c7
    clear hf hb
    go_wp2_with fail
    go_ret2
    exact ⟨rfl, HB2.out⟩
  · have hE0 : (E != 0) = true := bne_iff_ne.2 h0
    have e2 : conB P a b = false := by unfold conB; rw [← HE.out, if_neg h0]
    rw [e2]
    clear e2 h0
    go_enter Tryz.func21, Tryz.ntmps21
    go_upto_region 1 with fail
    rw [← hw0, ← hq]
    have HQ := Lib.hid hq
    clear hw0 hq
    obtain ⟨k0, k1, k2⟩ := HX0.out.cells
    go_wp2_with fail
    clear k0 k1 k2
    refine (HC.out _ HB0.out).mono ?_
    rintro e w1 ⟨rfl, hb⟩
    have HX1 := Lib.hid (HX0.out.next hb)
    have HB1 : Hid (Below w.heap.size w w1) := HB0.out.trans (hb.mono HB0.out.size)
    clear hb HX0 HB0
    go_wp2_with fail
    go_ret2
    exact ⟨rfl, HB1.out⟩

end Go.Proofs.YtomfcmlomfcghaaGreatDoor

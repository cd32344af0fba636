/- The readers: str (the definition's), rat (both). -/
import Derived.Test.YtcljkdjmmolfoaaDoorRdTxt2
set_option linter.unusedVariables false
set_option linter.unusedSimpArgs false
namespace Go.Proofs.YtcljkdjmmolfoaaDoor
open Go.RowKit

theorem RdS.next {T : TypeId} {g Bk : Nat} {s : St} {w w' : World} (h : RdS T g Bk s w) (hBw : Bk ≤ w.heap.size) (hb : Below w.heap.size w w') : RdS T g Bk s w' := by
  obtain ⟨A, c, h1, h2, h3, h4, h5, h6⟩ := h
  exact ⟨A, c, blk_next h1 hb, h2.below (hb.mono hBw), h3, h4, h5, h6⟩
theorem RdS.lt {T : TypeId} {g Bk : Nat} {s : St} {w : World} (h : RdS T g Bk s w) : g < w.heap.size := by
  obtain ⟨A, c, h1, _⟩ := h
  exact (Array.getElem?_eq_some_iff.1 h1).1
theorem RdS.le {T : TypeId} {g Bk : Nat} {s : St} {w : World} (h : RdS T g Bk s w) : Bk ≤ w.heap.size := by
  obtain ⟨A, c, h1, h2, h3, _⟩ := h
  have := (Array.getElem?_eq_some_iff.1 h1).1
  omega
/-- a store elsewhere -/
theorem RdS.far {T : TypeId} {g Bk q j : Nat} {s : St} {w : World} {u : Value} (h : RdS T g Bk s w) (hq : g ≠ q) (hBq : Bk ≤ q) : RdS T g Bk s (w.setCell ⟨q, j, none⟩ u) := by
  obtain ⟨A, c, h1, h2, h3, h4, h5, h6⟩ := h
  refine ⟨A, c, (heap_setCell_other w ⟨q, j, none⟩ g u hq).trans h1, ?_, h3, h4, h5, h6⟩
  exact h2.below (((Only.refl q w).setC j u).at_ Bk (by have := (Array.getElem?_eq_some_iff.1 h1).1; omega) hBq)
theorem blk_only {w w' : World} {g q : Nat} {o : Obj} (h : w.heap[q]? = some o) (ho : Only g w w') (hq : q ≠ g) : w'.heap[q]? = some o := (ho.block q (Array.getElem?_eq_some_iff.1 h).1 hq).trans h

set_option maxHeartbeats 4000000 in
set_option maxRecDepth 100000 in
theorem dStr_calls (g Bk : Nat) (s : St) (w : World) (h : RdS 96 g Bk s w) (hBw : Bk ≤ w.heap.size) :
    Calls Tryd.prog 55 #[.pointer (some ⟨g, 0, none⟩)] w (TxtPost 96 g Bk (rText dNum s) w) := by
  have H := Lib.hid (dNumber_calls g Bk s w h hBw)
  have HZ := Lib.hid (dNum_bnd s)
  obtain ⟨r, hr⟩ : ∃ r, r = dNum s := ⟨_, rfl⟩
  have HT : Hid (rText dNum s = if r.2.2 = true ∨ r.1 < 0 ∨ (r.2.1.length : Int) < r.1 then (⟨#[]⟩, (r.2.1, true)) else (nstr (r.2.1.take r.1.toNat), (r.2.1.drop r.1.toNat, r.2.2))) := by rw [hr]; rfl
  rw [← hr] at H HZ
  clear h hr
  obtain ⟨z, L1, b1⟩ := r
  dsimp only at HT
  go_enter Tryd.func55, Tryd.ntmps55
  go_wp2_with fail
  refine H.out.mono ?_
  rintro e w1 ⟨rfl, hr, ho⟩
  have HR := Lib.hid hr
  have HO := Lib.hid ho
  have hz1 : -9223372036854775808 ≤ z := HZ.out.1
  have hz2 : z ≤ 9223372036854775807 := HZ.out.2
  have hBw1 : Bk ≤ w1.heap.size := Nat.le_trans hBw ho.size
  clear H
  obtain ⟨A, c, k0, k1, f0, f1, lg, hk, hBg, hlc2, hcm2, hby, hg⟩ := RdS.cells hr
  obtain ⟨n, hn⟩ : ∃ n, n = L1.length := ⟨_, rfl⟩
  rw [← hn] at k0 hlc2 hg
  have HN := Lib.hid hn
  have HK := Lib.hid hk
  have HBY := Lib.hid hby
  have HG := Lib.hid hg
  have HCM := Lib.hid hcm2
  unfold maxLen at hcm2
  clear hr ho hk hby hg hn
  cases b1
  · by_cases h0 : z < 0
    · have d0 : decide (z < 0) = true := decide_eq_true h0
      have HF := Lib.hid (HT.out.trans (if_pos (.inr (.inl h0))))
      clear h0
      go_wp2_with fail
      go_ret
      rw [HF.out]
      exact ⟨rfl, HR.out.bad hBw1 true, HO.out.setC 1 _⟩
    · have d0 : decide (z < 0) = false := decide_eq_false h0
      by_cases h1 : (n : Int) < z
      · have d1 : decide ((n : Int) < z) = true := decide_eq_true h1
        have HF := Lib.hid (HT.out.trans (if_pos (.inr (.inr (by rw [← HN.out]; exact h1)))))
        clear h0 h1
        go_wp2_with fail
        go_ret
        rw [HF.out]
        exact ⟨rfl, HR.out.bad hBw1 true, HO.out.setC 1 _⟩
      · obtain ⟨m, hm⟩ : ∃ m, m = z.toNat := ⟨_, rfl⟩
        have hf := HT.out.trans (if_neg (by rw [← HN.out]; simp; omega))
        rw [← hm] at hf
        obtain rfl : z = (m : Int) := by omega
        have d0' : decide ((m : Int) < 0) = false := decide_eq_false (by omega)
        have d1 : decide ((n : Int) < (m : Int)) = false := decide_eq_false h1
        have d2 : decide (n < m) = false := decide_eq_false (by omega)
        have hnm : m ≤ n := by omega
        clear hm h0 h1 d0
        have hcv := conv_bytes (P := Tryd.prog) w1 Bk 22 9 5 A (L1.take m) c Tryd.underlying22 Tryd.underlying5 Tryd.underlying9 (HK.out.take m) (fun x hx => HBY.out x (List.mem_of_mem_take hx))
        rw [List.length_take, show min m L1.length = m by have := HN.out; omega] at hcv
        obtain ⟨str, hstr⟩ : ∃ str, str = nstr (L1.take m) := ⟨_, rfl⟩
        rw [← hstr] at hcv hf
        have HF := Lib.hid hf
        clear hstr hf
        have HF1 : Hid (c = m → RdS 96 g Bk (L1.drop m, false) (w1.setCell ⟨g, 0, none⟩ (.slice A (n - m) 0))) := fun e => by
          have hW := heap_setCell_same w1 g 0 _ _ (.slice A (n - m) 0) HG.out
          exact RdS.cutG (k := m) HK.out hBg (by rw [← HN.out]; exact hlc2) HCM.out HBY.out (by have := HN.out; omega) _ (fun h => absurd e h) (by rw [← HN.out, e, Nat.sub_self]; exact hW) ((Only.refl g w1).setC 0 _) hBw1
        have HF2 : Hid (¬ c = m → RdS 96 g Bk (L1.drop m, false) (w1.setCell ⟨g, 0, none⟩ (.slice (A.map (fun x => x.add m)) (n - m) (c - m)))) := fun e => by
          have hW := heap_setCell_same w1 g 0 _ _ (.slice (A.map (fun x => x.add m)) (n - m) (c - m)) HG.out
          exact RdS.cutG (k := m) HK.out hBg (by rw [← HN.out]; exact hlc2) HCM.out HBY.out (by have := HN.out; omega) _ (fun _ => rfl) (by rw [← HN.out]; exact hW) ((Only.refl g w1).setC 0 _) hBw1
        go_wp2_with fail
        · go_ret
          rw [HF.out]
          exact ⟨rfl, HF1.out (by assumption), HO.out.setC 0 _⟩
        · go_ret
          rw [HF.out]
          exact ⟨rfl, HF2.out (by assumption), HO.out.setC 0 _⟩
  · have HF := Lib.hid (HT.out.trans (if_pos (.inl rfl)))
    go_wp2_with fail
    go_ret
    rw [HF.out]
    exact ⟨rfl, HR.out.bad hBw1 true, HO.out.setC 1 _⟩

def RatPost (T : TypeId) (g Bk : Nat) (r : RQ × St) (w : World) (e : Ending) (w' : World) : Prop := e = .returned (.agg #[.bool r.1.neg, .string r.1.num, .string r.1.den]) ∧ RdS T g Bk r.2 w' ∧ Only g w w'

set_option maxHeartbeats 4000000 in
set_option maxRecDepth 100000 in
theorem pRat_calls (g Bk : Nat) (s : St) (w : World) (h : RdS 81 g Bk s w) :
    Calls Tryd.prog 47 #[.pointer (some ⟨g, 0, none⟩)] w (RatPost 81 g Bk (pRat s) w) := by
  have hlt := h.lt
  have HR0 := Lib.hid (h.next h.le (bel_alloc w (.cells #[.bool false, .string ⟨#[]⟩, .string ⟨#[]⟩] 30)))
  have H1 := Lib.hid (pNumber_calls g Bk s _ HR0.out HR0.out.le)
  have HP : Hid (pRat s = (⟨decide ((pNum s).1 = 1), (rText pNum (pNum s).2).1, (rText pNum (rText pNum (pNum s).2).2).1⟩, (rText pNum (rText pNum (pNum s).2).2).2)) := rfl
  obtain ⟨r, hr⟩ : ∃ r, r = pNum s := ⟨_, rfl⟩
  rw [← hr] at H1 HP
  obtain ⟨z, s1⟩ := r
  dsimp only at HP
  have HG0 : Hid ((w.alloc (.cells #[.bool false, .string ⟨#[]⟩, .string ⟨#[]⟩] 30)).heap[w.heap.size]? = some (.cells #[.bool false, .string ⟨#[]⟩, .string ⟨#[]⟩] 30 (0, 0))) := blk_new _ _
  clear h hr HR0
  obtain ⟨bz, hbz⟩ : ∃ bz, (z == 1) = bz := ⟨_, rfl⟩
  have HBZ : Hid (decide (z = 1) = bz) := hbz
  go_enter Tryd.func47, Tryd.ntmps47
  go_wp2_with fail
  refine H1.out.mono ?_
  rintro e w1 ⟨rfl, hr, ho⟩
  have HO1 : Hid (Only g w w1) := ((Only.refl g w).alloc _).trans ho
  have HG1 := Lib.hid (blk_only HG0.out ho (by omega))
  have H2 := Lib.hid (pText_calls g Bk s1 w1 hr hr.le)
  obtain ⟨r2, hr2⟩ : ∃ r, r = rText pNum s1 := ⟨_, rfl⟩
  rw [← hr2] at H2 HP
  obtain ⟨x2, s2⟩ := r2
  dsimp only at HP
  clear hr ho H1 HG0 hr2
  go_wp2_with fail
  refine H2.out.mono ?_
  rintro e w2 ⟨rfl, hr, ho⟩
  have HO2 := Lib.hid (HO1.out.trans ho)
  have HG2 := Lib.hid (blk_only HG1.out ho (by omega))
  have H3 := Lib.hid (pText_calls g Bk s2 w2 hr hr.le)
  obtain ⟨r3, hr3⟩ : ∃ r, r = rText pNum s2 := ⟨_, rfl⟩
  rw [← hr3] at H3 HP
  obtain ⟨x3, s3⟩ := r3
  dsimp only at HP
  clear hr ho H2 HG1 hr3 HO1
  go_wp2_with fail
  refine H3.out.mono ?_
  rintro e w3 ⟨rfl, hr, ho⟩
  have HO3 := Lib.hid (HO2.out.trans ho)
  have hg3 := blk_only HG2.out ho (by omega)
  have HR3 := Lib.hid hr
  have hbk : Bk ≤ w.heap.size := by obtain ⟨_, _, h1, _, h3, _⟩ := hr; omega
  obtain ⟨c0, c1, c2, f0, f1, f2, hz⟩ := three_of hg3
  clear hr ho H3 HG2 HO2 hg3
  go_wp2_with fail
  refine bodyPost_ret (v := .agg #[.bool bz, .string x2, .string x3]) (by simp [results, Tryd.results47, go_sem, c0, c1, c2]) rfl ?_
  rw [HP.out]
  exact ⟨by dsimp only; rw [HBZ.out], ((HR3.out.far (by omega) hbk).far (by omega) hbk).far (by omega) hbk, ((HO3.out.setNew (Nat.le_refl _) _).setNew (Nat.le_refl _) _).setNew (Nat.le_refl _) _⟩

end Go.Proofs.YtcljkdjmmolfoaaDoor

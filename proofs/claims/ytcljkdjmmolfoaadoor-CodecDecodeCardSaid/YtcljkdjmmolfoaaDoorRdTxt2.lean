/- The readers: text (the program's), str (the definition's). -/
import Derived.Test.YtcljkdjmmolfoaaDoorRdTxt
set_option linter.unusedVariables false
set_option linter.unusedSimpArgs false
namespace Go.Proofs.YtcljkdjmmolfoaaDoor
open Go.RowKit

theorem text_of_count {N : St → Int × St} (hl : ∀ s, (N s).2.1.length ≤ s.1.length) (s : St) (m : Nat) (L1 : List Nat) (b1 : Bool) (h : (m, (L1, b1)) = rCount N s.1.length s) :
    rText N s = if L1.length < m then (⟨#[]⟩, (L1, true)) else (nstr (L1.take m), (L1.drop m, b1)) := by
  have h0 := hl s
  unfold rCount at h
  unfold rText
  generalize N s = r at h h0 ⊢
  obtain ⟨z, L', b'⟩ := r
  dsimp only at h h0 ⊢
  by_cases c1 : b' = true ∨ z < 0 ∨ (s.1.length : Int) < z
  · rw [if_pos c1] at h
    obtain ⟨rfl, rfl, rfl⟩ : m = 0 ∧ L1 = L' ∧ b1 = true := by simpa using h
    have c2 : b' = true ∨ z < 0 ∨ (L1.length : Int) < z := by
      rcases c1 with c | c | c
      · exact .inl c
      · exact .inr (.inl c)
      · exact .inr (.inr (by omega))
    rw [if_pos c2, if_neg (by omega)]
    rfl
  · rw [if_neg c1] at h
    obtain ⟨rfl, rfl, rfl⟩ : m = z.toNat ∧ L1 = L' ∧ b1 = b' := by simpa using h
    simp only [not_or] at c1
    by_cases c2 : (L1.length : Int) < z
    · rw [if_pos (.inr (.inr c2)), if_pos (by omega)]
    · rw [if_neg (by simp only [not_or]; exact ⟨c1.1, c1.2.1, c2⟩), if_neg (by omega)]

/-- behind a slice from the front on, whatever the address -/
theorem RdS.cutG {T : TypeId} {g Bk c k : Nat} {L : List Nat} {bad : Bool} {A : Option Addr} {w W : World} (hk : KRd .u8 w Bk A L) (hBg : Bk ≤ g) (hlc : L.length ≤ c) (hcm : c ≤ maxLen) (hby : Byt L) (hkl : k ≤ L.length)
    (A' : Option Addr) (hA' : c ≠ k → A' = A.map (fun x => x.add k)) (hW : W.heap[g]? = some (.cells #[.slice A' (L.length - k) (c - k), .bool bad] T (0, 0))) (ho : Only g w W) (hBw : Bk ≤ w.heap.size) : RdS T g Bk (L.drop k, bad) W := by
  have hk2 : KRd .u8 W Bk A L := hk.below (ho.at_ Bk hBw hBg)
  refine ⟨A', c - k, by rw [List.length_drop]; exact hW, ?_, hBg, by rw [List.length_drop]; omega, by omega, fun x hx => hby x (List.mem_of_mem_drop hx)⟩
  by_cases e : L.length ≤ k
  · have : L.drop k = [] := List.drop_eq_nil_of_le e
    rw [this]; exact KRd.nil
  · obtain ⟨b, off, rfl, _, _⟩ := hk2.open_ (by omega)
    rw [hA' (by omega)]
    simp only [Option.map_some, Addr.add_lit]
    exact hk2.drop k

set_option maxHeartbeats 4000000 in
set_option maxRecDepth 100000 in
theorem pText_calls (g Bk : Nat) (s : St) (w : World) (h : RdS 81 g Bk s w) (hBw : Bk ≤ w.heap.size) :
    Calls Tryd.prog 58 #[.pointer (some ⟨g, 0, none⟩)] w (TxtPost 81 g Bk (rText pNum s) w) := by
  obtain ⟨r, hr⟩ : ∃ r, r = rCount pNum s.1.length s := ⟨_, rfl⟩
  obtain ⟨m, L1, b1⟩ := r
  have HT := Lib.hid (text_of_count pNum_len s m L1 b1 hr)
  obtain ⟨L, bad⟩ := s
  obtain ⟨A0, c0_, k0, k1, f0, f1, lg, hk, hBg, hlc, hcm, hby, hg⟩ := RdS.cells h
  have H := Lib.hid (pCount_calls g Bk L.length (L, bad) w h hBw (Nat.le_trans hlc hcm))
  dsimp only at hr
  rw [← hr] at H
  obtain ⟨n0, hn0⟩ : ∃ n0, n0 = L.length := ⟨_, rfl⟩
  rw [← hn0] at k0 H hlc
  unfold maxLen at hcm
  clear h hr hk hby hg hn0
  go_enter Tryd.func58, Tryd.ntmps58
  go_wp2_with fail
  refine H.out.mono ?_
  rintro e w1 ⟨rfl, hr, ho⟩
  have HR := Lib.hid hr
  have HO := Lib.hid ho
  have hBw1 : Bk ≤ w1.heap.size := Nat.le_trans hBw ho.size
  clear k0 k1 f0 f1 lg H
  obtain ⟨A, c, k0, k1, f0, f1, lg, hk, hBg2, hlc2, hcm2, hby, hg⟩ := RdS.cells hr
  obtain ⟨n, hn⟩ : ∃ n, n = L1.length := ⟨_, rfl⟩
  rw [← hn] at k0 hlc2 hg
  have HN := Lib.hid hn
  have HK := Lib.hid hk
  have HBY := Lib.hid hby
  have HG := Lib.hid hg
  have HCM := Lib.hid hcm2
  unfold maxLen at hcm2
  clear hr ho hk hby hg hn
  by_cases hm : n < m
  · have d0 : decide (n < m) = true := decide_eq_true hm
    have d1 : decide ((n : Int) < (m : Int)) = true := decide_eq_true (by omega)
    have HF := Lib.hid (HT.out.trans (if_pos (by rw [← HN.out]; exact hm)))
    go_wp2_with fail
    go_ret
    rw [HF.out]
    exact ⟨rfl, HR.out.bad hBw1 true, HO.out.setC 1 _⟩
  · have d0 : decide (n < m) = false := decide_eq_false hm
    have d1 : decide ((n : Int) < (m : Int)) = false := decide_eq_false (by omega)
    have hf := HT.out.trans (if_neg (by rw [← HN.out]; exact hm))
    have hcv := conv_bytes (P := Tryd.prog) w1 Bk 22 9 5 A (L1.take m) c Tryd.underlying22 Tryd.underlying5 Tryd.underlying9 (HK.out.take m) (fun x hx => HBY.out x (List.mem_of_mem_take hx))
    rw [List.length_take, show min m L1.length = m by have := HN.out; omega] at hcv
    obtain ⟨str, hstr⟩ : ∃ str, str = nstr (L1.take m) := ⟨_, rfl⟩
    rw [← hstr] at hcv
    rw [← hstr] at hf
    have HF := Lib.hid hf
    clear hstr hf
    have HF1 : Hid (c = m → RdS 81 g Bk (L1.drop m, b1) (w1.setCell ⟨g, 0, none⟩ (.slice A (n - m) 0))) := fun e => by
      have hW := heap_setCell_same w1 g 0 _ _ (.slice A (n - m) 0) HG.out
      exact RdS.cutG (k := m) HK.out hBg (by rw [← HN.out]; exact hlc2) HCM.out HBY.out (by have := HN.out; omega) _ (fun h => absurd e h) (by rw [← HN.out, e, Nat.sub_self]; exact hW) ((Only.refl g w1).setC 0 _) hBw1
    have HF2 : Hid (¬ c = m → RdS 81 g Bk (L1.drop m, b1) (w1.setCell ⟨g, 0, none⟩ (.slice (A.map (fun x => x.add m)) (n - m) (c - m)))) := fun e => by
      have hW := heap_setCell_same w1 g 0 _ _ (.slice (A.map (fun x => x.add m)) (n - m) (c - m)) HG.out
      exact RdS.cutG (k := m) HK.out hBg (by rw [← HN.out]; exact hlc2) HCM.out HBY.out (by have := HN.out; omega) _ (fun _ => rfl) (by rw [← HN.out]; exact hW) ((Only.refl g w1).setC 0 _) hBw1
    go_wp2_with fail
    · go_ret
      rw [HF.out]
      exact ⟨rfl, HF1.out (by assumption), HO.out.setC 0 _⟩
    · go_ret
      rw [HF.out]
      exact ⟨rfl, HF2.out (by assumption), HO.out.setC 0 _⟩

end Go.Proofs.YtcljkdjmmolfoaaDoor

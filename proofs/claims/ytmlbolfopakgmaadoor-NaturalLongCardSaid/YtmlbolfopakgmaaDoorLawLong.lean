/- NaturalLong: the plain walk. -/
import Derived.Test.YtmlbolfopakgmaaDoorLongLaw
import Derived.Test.YtmlbolfopakgmaaDoorParseBad
import Derived.Test.YtmlbolfopakgmaaDoorFew2
import Derived.Deep.RegionLaw
set_option linter.unusedVariables false
set_option linter.unusedSimpArgs false
namespace Go.Proofs.YtmlbolfopakgmaaDoor
open Go.RowKit

theorem dgRow_succ (f n : Nat) (v : List Nat) (k : Nat) (hk : k < n) : ((dgRow f n).take k ++ List.replicate (n - k) v.length).length = n := by simp [dgRow_len]; omega

theorem long_step {n k f : Nat} {xs : List Nat} (hl : xs.length = n) (hk : k < n) (hp : ∀ j, j < k → xs.getD j 0 = 48 + (j + f) % 10) :
    (xs.set k (48 + (k + f) % 10)).length = n ∧ ∀ j, j < k + 1 → (xs.set k (48 + (k + f) % 10)).getD j 0 = 48 + (j + f) % 10 := by
  refine ⟨by simp [hl], fun j hj => ?_⟩
  by_cases e : j = k
  · subst e; simp [List.getD, List.getElem?_set, hl, hk]
  · have h1 := hp j (by omega)
    simp only [List.getD, List.getElem?_set, if_neg (Ne.symm e)] at h1 ⊢
    exact h1

theorem long_end {n f : Nat} {xs : List Nat} (hl : xs.length = n) (hp : ∀ j, j < n → xs.getD j 0 = 48 + (j + f) % 10) : xs = (dgRow f n).map (48 + ·) := by
  apply List.ext_getElem
  · simp [hl, dgRow_len]
  · intro i h1 h2
    have := hp i (by omega)
    simp only [List.getD, List.getElem?_eq_getElem h1, Option.getD_some] at this
    rw [this]; simp [dgRow]

theorem dgFix_set {l : List Nat} (h : l.getD 0 0 = 0) : (l.map (48 + ·)).set 0 49 = (dgFix l).map (48 + ·) := by
  rw [dgFix, if_pos h, List.map_set]
theorem map48_get {l : List Nat} (hp : 0 < l.length) : (l.map (48 + ·)).getD 0 0 = 48 + l.getD 0 0 := by
  rcases l with _ | ⟨x, l⟩
  · simp at hp
  · rfl
theorem dg_byt {l : List Nat} (h : Ten l) : Byt (l.map (48 + ·)) := by
  intro x hx
  obtain ⟨y, hy, rfl⟩ := List.mem_map.1 hx
  have := h y hy
  omega

def LongEnd (w : World) (e : Ending) (w' : World) : Prop := e = .returned (.bool true) ∧ Below w.heap.size w w'

set_option maxHeartbeats 8000000 in
set_option maxRecDepth 100000 in
theorem longLaw (d f : Nat) (w : World) (hd : d ≤ 65535) (hf : f ≤ 255) : Calls Tryd.prog 6 #[.int .u16 (d : Int), .int .u8 (f : Int)] w (LongEnd w) := by
  have u2 : ((d : Int)) % 2020 = ((d % 2020 : Nat) : Int) := by rfl
  obtain ⟨m, hm⟩ : ∃ m, m = d % 2020 := ⟨_, rfl⟩
  rw [← hm] at u2
  obtain ⟨n, hn⟩ : ∃ n, n = m + 1 := ⟨_, rfl⟩
  have u3 : (1 : Int) + (m : Int) = (n : Int) := by omega
  have hn1 : 1 ≤ n := by omega
  have hn2 : n ≤ 2020 := by omega
  have hmk := run_make_row' (P := Tryd.prog) 35 5 (.int .u8 0) 1 Tryd.underlying35 Tryd.info_u8 rfl .i64 .i64 n (by omega) (by omega)
  clear hm hn
  go_enter Tryd.func6, Tryd.ntmps6
  go_wp2_with fail
  go_loopw [18] (fun i wr => ∃ (k : Nat) (xs : List Nat), k ≤ n ∧ i = .int .i64 (k : Int) ∧ KRow .u8 5 wr w.heap.size xs ∧ Hid (xs.length = n ∧ ∀ j, j < k → xs.getD j 0 = 48 + (j + f) % 10) ∧ Below w.heap.size w wr) (fun i _ => n - (intOf i).toNat)
  case atStart => exact ⟨0, List.replicate n 0, Nat.zero_le _, rfl, KRow.made _ _ _ rfl, ⟨by simp, fun j hj => by omega⟩, (Below.refl _ _).alloc (Nat.le_refl _) _⟩
  case round =>
    obtain ⟨k, xs, hk, rfl, hrow, HX, hbel⟩ := hrel
    by_cases hlt : k < n
    · have HS := Lib.hid (long_step HX.out.1 hlt HX.out.2)
      have hfr := hrow.frozen k
      have hc := hrow.getD (j := k) (by rw [HX.out.1]; exact hlt)
      obtain ⟨old, hold⟩ : ∃ old, old = xs.getD k 0 := ⟨_, rfl⟩
      rw [← hold] at hc
      obtain ⟨v, hv⟩ : ∃ v, v = (k + f) % 10 := ⟨_, rfl⟩
      rw [← hv] at HS
      have v1 : ((k : Int) + (f : Int)) % 10 = (v : Int) := by omega
      have v2 : v < 10 := by omega
      have hsz := hrow.lt
      have HROW := Lib.hid hrow
      have HBEL := Lib.hid hbel
      clear hv hold hrow hbel HX hmk
      go_wp2_with fail
      go_roundw
      case measure => simp [intOf]; omega
      case rel => exact ⟨k + 1, _, by omega, by go_num, HROW.out.setI k (48 + v) (by omega) rfl, HS.out, HBEL.out.setCell (by simp) _⟩
    · obtain rfl : k = n := by omega
      have hxe := long_end HX.out.1 HX.out.2
      rw [hxe] at hrow
      have hp : 0 < (dgRow f k).length := by rw [dgRow_len]; omega
      have hc0 := hrow.getD (j := 0) (by rw [List.length_map]; exact hp)
      rw [map48_get hp] at hc0
      have hfr := hrow.frozen 0
      have hsz := hrow.lt
      have hlen := dgFix_len (dgRow f k)
      rw [dgRow_len] at hlen
      have hten := dgFix_ten (dgRow_ten f k)
      have hf4 := long_facts hten (by rw [hlen]; omega) (dgFix_head hp)
      obtain ⟨ds, hds⟩ : ∃ ds, ds = dgFix (dgRow f k) := ⟨_, rfl⟩
      obtain ⟨d0, hd0⟩ : ∃ d0, d0 = (dgRow f k).getD 0 0 := ⟨_, rfl⟩
      have hd10 : d0 < 10 := by
        rw [hd0]
        have := dgRow_get (f := f) (n := k) (i := 0) (by omega)
        rw [this]; exact Nat.mod_lt _ (by decide)
      rw [← hd0] at hc0
      rw [← hds] at hlen hten hf4
      obtain ⟨s, hs⟩ : ∃ s, s = nstr (ds.map (48 + ·)) := ⟨_, rfl⟩
      rw [← hs] at hf4
      obtain ⟨g1, g2, g3, g4, g5⟩ := hf4
      rw [hlen] at g1 g5
      have HCV : Hid (∀ W : World, KRow .u8 5 W w.heap.size (ds.map (48 + ·)) → (convert 35 9 (.slice (some ⟨w.heap.size, 0, none⟩) k k)).run Tryd.prog W = .ok (.string s) W) := by
        intro W hW
        have h := conv_bytes (P := Tryd.prog) W W.heap.size 35 9 5 _ _ k Tryd.underlying35 Tryd.underlying5 Tryd.underlying9 hW.rd (dg_byt hten)
        rw [List.length_map, hlen, ← hs] at h
        exact h
      have HROW := Lib.hid hrow
      have HBEL := Lib.hid hbel
      have HG := Lib.hid (And.intro g1 (And.intro g2 (And.intro g3 (And.intro g4 g5))))
      have HD := Lib.hid (And.intro hds hs)
      by_cases h0 : d0 = 0
      · have HSET : Hid (((dgRow f k).map (48 + ·)).set 0 49 = ds.map (48 + ·)) := by
          show _ = _
          rw [hds]; exact dgFix_set (by rw [← hd0]; exact h0)
        subst h0
        clear hxe hrow hbel hlen hten g1 g2 g3 g4 g5 hs hds hd0 hd10 hp hmk HX
        have hrow2 : KRow .u8 5 (wr.setCell ⟨w.heap.size, 0, none⟩ (.int .u8 49)) w.heap.size (ds.map (48 + ·)) := HROW.out.setI 0 49 rfl HSET.out
        have hcv := HCV.out _ hrow2
        have HR0 := Lib.hid hrow2
        have HB0 : Hid (Below w.heap.size w (wr.setCell ⟨w.heap.size, 0, none⟩ (.int .u8 49))) := HBEL.out.setCell (by simp) _
        clear hrow2 HSET HROW
        by_cases hbig : 2000 < k
        · have HP := Lib.hid (fun W => parse_long_calls s W (by rw [HG.out.1]; exact hbig) (by rw [HG.out.1]; omega) HG.out.2.1 HG.out.2.2.1)
          have hbt : decide ((2000 : Int) < (k : Int)) = true := decide_eq_true (by omega)
          go_wp2_with fail
          refine (HP.out _).mono ?_
          rintro e w1 ⟨rfl, hb1⟩
          have HB1 : Hid (Below w.heap.size w w1) := HB0.out.trans (hb1.mono HB0.out.size)
          clear hb1
          go_wp2_with fail
          refine (awake1_calls _).mono ?_
          rintro e w2 ⟨rfl, hb2⟩
          have HB2 : Hid (Below w.heap.size w w2) := HB1.out.trans (hb2.mono HB1.out.size)
          clear hb2
          go_wp2_with fail
          go_ret
          exact ⟨rfl, HB2.out⟩
        · have HP := Lib.hid (fun W => parse_ok_calls s W (by rw [HG.out.1]; omega) (by rw [HG.out.1]; omega) (fun g => .inr (HG.out.2.1 g)) HG.out.2.2.1)
          have HF := fun W => natFormat_calls (ncan (decv s.data.toList)) W (by have := HG.out.2.2.2.2; omega)
          rw [snum_ncan, HG.out.2.2.2.1, ← HD.out.2] at HF
          have HF := Lib.hid HF
          obtain ⟨v, hv⟩ : ∃ v, v = ncan (decv s.data.toList) := ⟨_, rfl⟩
          rw [← hv] at HP HF
          clear hv
          have hbt : decide ((2000 : Int) < (k : Int)) = false := decide_eq_false (by omega)
          go_wp2_with fail
          refine (HP.out _).mono ?_
          rintro e w1 ⟨rfl, hb1⟩
          have HR1 := Lib.hid (HR0.out.next hb1)
          have HB1 : Hid (Below w.heap.size w w1) := HB0.out.trans (hb1.mono HB0.out.size)
          clear hb1 hcv HR0
          go_wp2_with fail
          refine wp_region_any (by kernel_rfl) ?_
          try (change wpAny _ _ _ _ _ _ _ (World.drew _))
          refine wpAny_ready (rs := [0]) (by kernel_rfl) (by simp) ?_
          refine AllReady.cons rfl (fun K hK => ?_) AllReady.nil
          go_simp
          refine (awake1_calls _).mono ?_
          rintro e wa ⟨rfl, hba⟩
          have hcv := HCV.out _ (HR1.out.drew.next hba)
          refine hK _ _ ?_
          clear hK K
          refine wpAny_take (i := 1) rfl (by kernel_rfl) (by kernel_rfl) (by kernel_rfl) (fun _ _ _ h => h) (Or.inl ⟨by kernel_rfl, (by intro w; go_simp; with_reducible rfl)⟩) ?_
          go_simp
          refine wpAny_take (i := 2) rfl (by kernel_rfl) (by kernel_rfl) (by kernel_rfl) (fun _ _ _ h => h) (Or.inl ⟨by kernel_rfl, (by intro w; go_simp; with_reducible rfl)⟩) ?_
          go_simp
          refine wpAny_take (i := 3) (v := .bool true) rfl (by kernel_rfl) (by kernel_rfl) (by kernel_rfl) (fun _ _ _ h => h) (Or.inl ⟨by kernel_rfl, (by intro w; go_simp)⟩) ?_
          go_simp
          refine wpAny_take (i := 4) (v := .bool true) rfl (by kernel_rfl) (by kernel_rfl) (by kernel_rfl) (fun _ _ _ h => h) (Or.inl ⟨by kernel_rfl, (by intro w; go_simp)⟩) ?_
          go_simp
          refine wpAny_take (i := 5) (v := .bool true) rfl (by kernel_rfl) (by kernel_rfl) (by kernel_rfl) (fun _ _ _ h => h) (Or.inl ⟨by kernel_rfl, (by intro w; go_simp)⟩) ?_
          go_simp
          refine wpAny_take (i := 6) rfl (by kernel_rfl) (by kernel_rfl) (by kernel_rfl) (fun _ _ _ h => h) (Or.inl ⟨by kernel_rfl, (by intro w; go_simp; with_reducible rfl)⟩) ?_
          go_simp
          refine wpAny_take (i := 8) rfl (by kernel_rfl) (by kernel_rfl) (by kernel_rfl) (fun _ _ _ h => h) (Or.inl ⟨by kernel_rfl, (by intro w; go_simp; with_reducible rfl)⟩) ?_
          go_simp
          refine wpAny_ready (rs := [7, 9]) (by kernel_rfl) (by simp) ?_
          refine AllReady.cons rfl (fun K hK => ?_) (AllReady.cons rfl (fun K hK => ?_) AllReady.nil)
          · go_simp
            refine (HF.out _).mono ?_
            rintro e wb ⟨rfl, hbb⟩
            have hcv2 := HCV.out _ ((HR1.out.drew.next hba).next hbb)
            refine hK _ _ ?_
            clear hK K
            refine wpAny_ready (rs := [9]) (by kernel_rfl) (by simp) ?_
            refine AllReady.cons rfl (fun K hK => ?_) AllReady.nil
            go_simp
            refine hK _ _ ?_
            clear hK K
            refine wpAny_take (i := 10) (v := .bool true) rfl (by kernel_rfl) (by kernel_rfl) (by kernel_rfl) (fun _ _ _ h => h) (Or.inl ⟨by kernel_rfl, (by intro w; go_simp)⟩) ?_
            go_simp
            refine wpAny_take (i := 11) (v := .bool true) rfl (by kernel_rfl) (by kernel_rfl) (by kernel_rfl) (fun _ _ _ h => h) (Or.inl ⟨by kernel_rfl, (by intro w; go_simp)⟩) ?_
            go_simp
            refine wpAny_take (i := 12) (v := .bool true) rfl (by kernel_rfl) (by kernel_rfl) (by kernel_rfl) (fun _ _ _ h => h) (Or.inl ⟨by kernel_rfl, (by intro w; go_simp)⟩) ?_
            go_simp
            refine wpAny_done (by kernel_rfl) ?_ _
            go_wp2_with fail
            go_ret
            exact ⟨rfl, HB1.out.drew.trans ((hba.trans (hbb.mono hba.size)).mono HB1.out.size)⟩
          · go_simp
            refine hK _ _ ?_
            clear hK K
            refine wpAny_ready (rs := [7]) (by kernel_rfl) (by simp) ?_
            refine AllReady.cons rfl (fun K hK => ?_) AllReady.nil
            go_simp
            refine (HF.out _).mono ?_
            rintro e wb ⟨rfl, hbb⟩
            have hcv2 := HCV.out _ ((HR1.out.drew.next hba).next hbb)
            refine hK _ _ ?_
            clear hK K
            refine wpAny_take (i := 10) (v := .bool true) rfl (by kernel_rfl) (by kernel_rfl) (by kernel_rfl) (fun _ _ _ h => h) (Or.inl ⟨by kernel_rfl, (by intro w; go_simp)⟩) ?_
            go_simp
            refine wpAny_take (i := 11) (v := .bool true) rfl (by kernel_rfl) (by kernel_rfl) (by kernel_rfl) (fun _ _ _ h => h) (Or.inl ⟨by kernel_rfl, (by intro w; go_simp)⟩) ?_
            go_simp
            refine wpAny_take (i := 12) (v := .bool true) rfl (by kernel_rfl) (by kernel_rfl) (by kernel_rfl) (fun _ _ _ h => h) (Or.inl ⟨by kernel_rfl, (by intro w; go_simp)⟩) ?_
            go_simp
            refine wpAny_done (by kernel_rfl) ?_ _
            go_wp2_with fail
            go_ret
            exact ⟨rfl, HB1.out.drew.trans ((hba.trans (hbb.mono hba.size)).mono HB1.out.size)⟩
      · have hrow2 : KRow .u8 5 wr w.heap.size (ds.map (48 + ·)) := by
          rw [hds, dgFix, if_neg (by rw [← hd0]; exact h0)]; exact hrow
        have hcv := HCV.out _ hrow2
        have HR0 := Lib.hid hrow2
        have HB0 := Lib.hid hbel
        have hne : (((48 + d0 : Nat) : Int) == 48) = false := by rw [beq_eq_false_iff_ne]; omega
        clear hrow2 HROW hxe hrow hbel hlen hten g1 g2 g3 g4 g5 hs hds hd0 hd10 hp hmk HX h0
        by_cases hbig : 2000 < k
        · have HP := Lib.hid (fun W => parse_long_calls s W (by rw [HG.out.1]; exact hbig) (by rw [HG.out.1]; omega) HG.out.2.1 HG.out.2.2.1)
          have hbt : decide ((2000 : Int) < (k : Int)) = true := decide_eq_true (by omega)
          go_wp2_with fail
          refine (HP.out _).mono ?_
          rintro e w1 ⟨rfl, hb1⟩
          have HB1 : Hid (Below w.heap.size w w1) := HB0.out.trans (hb1.mono HB0.out.size)
          clear hb1
          go_wp2_with fail
          refine (awake1_calls _).mono ?_
          rintro e w2 ⟨rfl, hb2⟩
          have HB2 : Hid (Below w.heap.size w w2) := HB1.out.trans (hb2.mono HB1.out.size)
          clear hb2
          go_wp2_with fail
          go_ret
          exact ⟨rfl, HB2.out⟩
        · have HP := Lib.hid (fun W => parse_ok_calls s W (by rw [HG.out.1]; omega) (by rw [HG.out.1]; omega) (fun g => .inr (HG.out.2.1 g)) HG.out.2.2.1)
          have HF := fun W => natFormat_calls (ncan (decv s.data.toList)) W (by have := HG.out.2.2.2.2; omega)
          rw [snum_ncan, HG.out.2.2.2.1, ← HD.out.2] at HF
          have HF := Lib.hid HF
          obtain ⟨v, hv⟩ : ∃ v, v = ncan (decv s.data.toList) := ⟨_, rfl⟩
          rw [← hv] at HP HF
          clear hv
          have hbt : decide ((2000 : Int) < (k : Int)) = false := decide_eq_false (by omega)
          go_wp2_with fail
          refine (HP.out _).mono ?_
          rintro e w1 ⟨rfl, hb1⟩
          have HR1 := Lib.hid (HR0.out.next hb1)
          have HB1 : Hid (Below w.heap.size w w1) := HB0.out.trans (hb1.mono HB0.out.size)
          clear hb1 hcv HR0
          go_wp2_with fail
          refine wp_region_any (by kernel_rfl) ?_
          try (change wpAny _ _ _ _ _ _ _ (World.drew _))
          refine wpAny_ready (rs := [0]) (by kernel_rfl) (by simp) ?_
          refine AllReady.cons rfl (fun K hK => ?_) AllReady.nil
          go_simp
          refine (awake1_calls _).mono ?_
          rintro e wa ⟨rfl, hba⟩
          have hcv := HCV.out _ (HR1.out.drew.next hba)
          refine hK _ _ ?_
          clear hK K
          refine wpAny_take (i := 1) rfl (by kernel_rfl) (by kernel_rfl) (by kernel_rfl) (fun _ _ _ h => h) (Or.inl ⟨by kernel_rfl, (by intro w; go_simp; with_reducible rfl)⟩) ?_
          go_simp
          refine wpAny_take (i := 2) rfl (by kernel_rfl) (by kernel_rfl) (by kernel_rfl) (fun _ _ _ h => h) (Or.inl ⟨by kernel_rfl, (by intro w; go_simp; with_reducible rfl)⟩) ?_
          go_simp
          refine wpAny_take (i := 3) (v := .bool true) rfl (by kernel_rfl) (by kernel_rfl) (by kernel_rfl) (fun _ _ _ h => h) (Or.inl ⟨by kernel_rfl, (by intro w; go_simp)⟩) ?_
          go_simp
          refine wpAny_take (i := 4) (v := .bool true) rfl (by kernel_rfl) (by kernel_rfl) (by kernel_rfl) (fun _ _ _ h => h) (Or.inl ⟨by kernel_rfl, (by intro w; go_simp)⟩) ?_
          go_simp
          refine wpAny_take (i := 5) (v := .bool true) rfl (by kernel_rfl) (by kernel_rfl) (by kernel_rfl) (fun _ _ _ h => h) (Or.inl ⟨by kernel_rfl, (by intro w; go_simp)⟩) ?_
          go_simp
          refine wpAny_take (i := 6) rfl (by kernel_rfl) (by kernel_rfl) (by kernel_rfl) (fun _ _ _ h => h) (Or.inl ⟨by kernel_rfl, (by intro w; go_simp; with_reducible rfl)⟩) ?_
          go_simp
          refine wpAny_take (i := 8) rfl (by kernel_rfl) (by kernel_rfl) (by kernel_rfl) (fun _ _ _ h => h) (Or.inl ⟨by kernel_rfl, (by intro w; go_simp; with_reducible rfl)⟩) ?_
          go_simp
          refine wpAny_ready (rs := [7, 9]) (by kernel_rfl) (by simp) ?_
          refine AllReady.cons rfl (fun K hK => ?_) (AllReady.cons rfl (fun K hK => ?_) AllReady.nil)
          · go_simp
            refine (HF.out _).mono ?_
            rintro e wb ⟨rfl, hbb⟩
            have hcv2 := HCV.out _ ((HR1.out.drew.next hba).next hbb)
            refine hK _ _ ?_
            clear hK K
            refine wpAny_ready (rs := [9]) (by kernel_rfl) (by simp) ?_
            refine AllReady.cons rfl (fun K hK => ?_) AllReady.nil
            go_simp
            refine hK _ _ ?_
            clear hK K
            refine wpAny_take (i := 10) (v := .bool true) rfl (by kernel_rfl) (by kernel_rfl) (by kernel_rfl) (fun _ _ _ h => h) (Or.inl ⟨by kernel_rfl, (by intro w; go_simp)⟩) ?_
            go_simp
            refine wpAny_take (i := 11) (v := .bool true) rfl (by kernel_rfl) (by kernel_rfl) (by kernel_rfl) (fun _ _ _ h => h) (Or.inl ⟨by kernel_rfl, (by intro w; go_simp)⟩) ?_
            go_simp
            refine wpAny_take (i := 12) (v := .bool true) rfl (by kernel_rfl) (by kernel_rfl) (by kernel_rfl) (fun _ _ _ h => h) (Or.inl ⟨by kernel_rfl, (by intro w; go_simp)⟩) ?_
            go_simp
            refine wpAny_done (by kernel_rfl) ?_ _
            go_wp2_with fail
            go_ret
            exact ⟨rfl, HB1.out.drew.trans ((hba.trans (hbb.mono hba.size)).mono HB1.out.size)⟩
          · go_simp
            refine hK _ _ ?_
            clear hK K
            refine wpAny_ready (rs := [7]) (by kernel_rfl) (by simp) ?_
            refine AllReady.cons rfl (fun K hK => ?_) AllReady.nil
            go_simp
            refine (HF.out _).mono ?_
            rintro e wb ⟨rfl, hbb⟩
            have hcv2 := HCV.out _ ((HR1.out.drew.next hba).next hbb)
            refine hK _ _ ?_
            clear hK K
            refine wpAny_take (i := 10) (v := .bool true) rfl (by kernel_rfl) (by kernel_rfl) (by kernel_rfl) (fun _ _ _ h => h) (Or.inl ⟨by kernel_rfl, (by intro w; go_simp)⟩) ?_
            go_simp
            refine wpAny_take (i := 11) (v := .bool true) rfl (by kernel_rfl) (by kernel_rfl) (by kernel_rfl) (fun _ _ _ h => h) (Or.inl ⟨by kernel_rfl, (by intro w; go_simp)⟩) ?_
            go_simp
            refine wpAny_take (i := 12) (v := .bool true) rfl (by kernel_rfl) (by kernel_rfl) (by kernel_rfl) (fun _ _ _ h => h) (Or.inl ⟨by kernel_rfl, (by intro w; go_simp)⟩) ?_
            go_simp
            refine wpAny_done (by kernel_rfl) ?_ _
            go_wp2_with fail
            go_ret
            exact ⟨rfl, HB1.out.drew.trans ((hba.trans (hbb.mono hba.size)).mono HB1.out.size)⟩

theorem longLawI (d f : Int) (w : World) (hd0 : 0 ≤ d) (hd : d ≤ 65535) (hf0 : 0 ≤ f) (hf : f ≤ 255) : Calls Tryd.prog 6 #[.int .u16 d, .int .u8 f] w fun e w' => e = .returned (.bool true) ∧ Below w.heap.size w w' := by
  obtain ⟨d, rfl⟩ := Int.eq_ofNat_of_zero_le hd0
  obtain ⟨f, rfl⟩ := Int.eq_ofNat_of_zero_le hf0
  exact (longLaw d f w (by omega) (by omega)).mono fun _ _ h => h

end Go.Proofs.YtmlbolfopakgmaaDoor

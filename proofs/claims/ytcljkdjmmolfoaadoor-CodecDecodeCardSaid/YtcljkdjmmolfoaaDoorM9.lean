/- Merged of Sum Awake35. -/
import Derived.Test.YtcljkdjmmolfoaaDoorM3
import Derived.Test.YtcljkdjmmolfoaaDoorEnc0
import Derived.Lib.SlBytesConst
/- codec.Sum, insolvencyref33.Adler. -/
set_option linter.unusedVariables false
set_option linter.unusedSimpArgs false
namespace Go.Proofs.YtcljkdjmmolfoaaDoor
open Go.RowKit

def adStep (s : Nat × Nat) (b : Nat) : Nat × Nat := ((s.1 + b) % 65521, (s.2 + (s.1 + b) % 65521) % 65521)
def ad (l : List Nat) : Nat × Nat := l.foldl adStep (1, 0)
theorem ad_snoc (l : List Nat) (b : Nat) : ad (l ++ [b]) = adStep (ad l) b := by simp [ad]
theorem ad_lt (l : List Nat) : (ad l).1 < 65521 ∧ (ad l).2 < 65521 := by
  rcases List.eq_nil_or_concat l with rfl | ⟨l', b, rfl⟩
  · decide
  · rw [List.concat_eq_append, ad_snoc]; exact ⟨Nat.mod_lt _ (by decide), Nat.mod_lt _ (by decide)⟩
def adV (l : List Nat) : Nat := (ad l).2 * 65536 + (ad l).1
theorem ad_take (l : List Nat) (k : Nat) (h : k < l.length) : ad (l.take (k + 1)) = adStep (ad (l.take k)) (l.getD k 0) := by
  rw [List.take_succ_eq_append_getElem h, ad_snoc]
  simp [List.getD, List.getElem?_eq_getElem h]

set_option maxHeartbeats 4000000 in
set_option maxRecDepth 100000 in
theorem sum_calls (A : Option Addr) (c : Nat) (l : List Nat) (w : World) (hr : KRd .u8 w w.heap.size A l) (hb : Byt l) (hl : l.length ≤ 1000000000) :
    Calls Tryd.prog 11 #[.slice A l.length c] w fun e w' => e = .returned (.int .u32 (adV l : Nat)) ∧ w' = w := by
  obtain ⟨m, hm⟩ : ∃ m, m = l.length := ⟨_, rfl⟩
  rw [← hm] at hl ⊢
  have HM := Lib.hid hm
  have HR := Lib.hid hr
  have HBY := Lib.hid hb
  clear hm hr hb
  go_enter Tryd.func11, Tryd.ntmps11
  go_wp2_with fail
  go_loop [3, 4, 9] (fun xx yy ii => ∃ (k x y : Nat), k ≤ m ∧ ii = .int .i64 (k : Int) ∧ xx = .int .u32 (x : Int) ∧ yy = .int .u32 (y : Int) ∧ x < 65521 ∧ y < 65521 ∧ Hid (ad (l.take k) = (x, y))) (fun _ _ ii => m - (intOf ii).toNat)
  case atStart => exact ⟨0, 1, 0, by omega, rfl, rfl, rfl, by omega, by omega, rfl⟩
  case round =>
    obtain ⟨k, x, y, hk, rfl, rfl, rfl, hx, hy, HA⟩ := hrel
    by_cases hlt : k < m
    · obtain ⟨b, off, rfl, hbl, hc⟩ := HR.out.at_ (getElem?_getD (show k < l.length by rw [← HM.out]; exact hlt))
      have hv := byt_getD HBY.out k
      obtain ⟨v, hv'⟩ : ∃ v, v = l.getD k 0 := ⟨_, rfl⟩
      rw [← hv'] at hc hv
      obtain ⟨x1, hx1⟩ : ∃ x1, x1 = (x + v) % 65521 := ⟨_, rfl⟩
      obtain ⟨y1, hy1⟩ : ∃ y1, y1 = (y + x1) % 65521 := ⟨_, rfl⟩
      have HA2 : Hid (ad (l.take (k + 1)) = (x1, y1)) := by
        show _ = _
        rw [ad_take _ _ (by rw [← HM.out]; exact hlt), HA.out, ← hv', adStep, hx1, hy1, hx1]
      have e1 : ((x : Int) + (v : Int)) % 65521 = (x1 : Int) := by omega
      have e2 : ((y : Int) + (x1 : Int)) % 65521 = (y1 : Int) := by omega
      have hx1l : x1 < 65521 := by omega
      have hy1l : y1 < 65521 := by omega
      clear hv' hx1 hy1 HA
      go_wp2_with fail
      go_round
      case measure => simp [intOf]; omega
      case rel => exact ⟨k + 1, x1, y1, by omega, by go_num, by first | rfl | rw [e1], by first | rfl | rw [e2], hx1l, hy1l, HA2⟩
    · obtain rfl : k = m := by omega
      have HE : Hid (adV l = y * 65536 + x) := by
        have := HA.out
        rw [List.take_of_length_le (by rw [← HM.out]; omega)] at this
        show _ = _
        rw [adV, this]
      have e2 : bits .or .u32 ((y : Int) * 65536) (x : Int) = ((y * 65536 + x : Nat) : Int) := by
        have := or_u32' x (y * 65536) 16 y (by omega) (by omega) (by omega)
        rwa [show ((y * 65536 : Nat) : Int) = (y : Int) * 65536 by simp] at this
      clear HA
      go_wp2_with fail
      go_ret
      exact ⟨ret_int (by rw [HE.out]; first | rfl | omega | rw [e2]), rfl⟩

set_option maxHeartbeats 4000000 in
set_option maxRecDepth 100000 in
theorem adler_calls (A : Option Addr) (c : Nat) (l : List Nat) (w : World) (hr : KRd .u8 w w.heap.size A l) (hb : Byt l) (hl : l.length ≤ 1000000000) :
    Calls Tryd.prog 12 #[.slice A l.length c] w fun e w' => e = .returned (.int .u32 (adV l : Nat)) ∧ w' = w := by
  obtain ⟨m, hm⟩ : ∃ m, m = l.length := ⟨_, rfl⟩
  rw [← hm] at hl ⊢
  have HM := Lib.hid hm
  have HR := Lib.hid hr
  have HBY := Lib.hid hb
  clear hm hr hb
  go_enter Tryd.func12, Tryd.ntmps12
  go_wp2_with fail
  go_loop [3, 4, 5] (fun xx yy ii => ∃ (k x y : Nat), k ≤ m ∧ ii = .int .i64 (k : Int) ∧ xx = .int .i64 (x : Int) ∧ yy = .int .i64 (y : Int) ∧ x < 65521 ∧ y < 65521 ∧ Hid (ad (l.take k) = (x, y))) (fun _ _ ii => m - (intOf ii).toNat)
  case atStart => exact ⟨0, 1, 0, by omega, rfl, rfl, rfl, by omega, by omega, rfl⟩
  case round =>
    obtain ⟨k, x, y, hk, rfl, rfl, rfl, hx, hy, HA⟩ := hrel
    by_cases hlt : k < m
    · obtain ⟨b, off, rfl, hbl, hc⟩ := HR.out.at_ (getElem?_getD (show k < l.length by rw [← HM.out]; exact hlt))
      have hv := byt_getD HBY.out k
      obtain ⟨v, hv'⟩ : ∃ v, v = l.getD k 0 := ⟨_, rfl⟩
      rw [← hv'] at hc hv
      obtain ⟨x1, hx1⟩ : ∃ x1, x1 = (x + v) % 65521 := ⟨_, rfl⟩
      obtain ⟨y1, hy1⟩ : ∃ y1, y1 = (y + x1) % 65521 := ⟨_, rfl⟩
      have HA2 : Hid (ad (l.take (k + 1)) = (x1, y1)) := by
        show _ = _
        rw [ad_take _ _ (by rw [← HM.out]; exact hlt), HA.out, ← hv', adStep, hx1, hy1, hx1]
      have e1 : ((x : Int) + (v : Int)) % 65521 = (x1 : Int) := by omega
      have e2 : ((y : Int) + (x1 : Int)) % 65521 = (y1 : Int) := by omega
      have hx1l : x1 < 65521 := by omega
      have hy1l : y1 < 65521 := by omega
      clear hv' hx1 hy1 HA
      go_wp2_with fail
      go_round
      case measure => simp [intOf]; omega
      case rel => exact ⟨k + 1, x1, y1, by omega, by go_num, by first | rfl | rw [e1], by first | rfl | rw [e2], hx1l, hy1l, HA2⟩
    · obtain rfl : k = m := by omega
      have HE : Hid (adV l = y * 65536 + x) := by
        have := HA.out
        rw [List.take_of_length_le (by rw [← HM.out]; omega)] at this
        show _ = _
        rw [adV, this]
      obtain ⟨z, hz⟩ : ∃ z, z = y * 65536 + x := ⟨_, rfl⟩
      rw [← hz] at HE
      have e2 : (y : Int) * 65536 + (x : Int) = (z : Int) := by omega
      have hzl : z < 4294967296 := by omega
      clear HA hz
      go_wp2_with fail
      go_ret
      exact ⟨ret_int (by rw [HE.out]), rfl⟩

end Go.Proofs.YtcljkdjmmolfoaaDoor

/- insolvencylaw35.awake. -/
set_option linter.unusedVariables false
set_option linter.unusedSimpArgs false
namespace Go.Proofs.YtcljkdjmmolfoaaDoor
open Go.RowKit

def wiki : List Nat := [87, 105, 107, 105, 112, 101, 100, 105, 97]
theorem wiki_rd (W : World) (f : Nat × Nat) : KRd .u8 (W.alloc (.cells #[.int .u8 87, .int .u8 105, .int .u8 107, .int .u8 105, .int .u8 112, .int .u8 101, .int .u8 100, .int .u8 105, .int .u8 97] 5 f)) (W.alloc (.cells #[.int .u8 87, .int .u8 105, .int .u8 107, .int .u8 105, .int .u8 112, .int .u8 101, .int .u8 100, .int .u8 105, .int .u8 97] 5 f)).heap.size (some ⟨W.heap.size, 0, none⟩) wiki := by
  refine KRd.mk_ (by simp) fun j x hj => ?_
  rw [Nat.zero_add, cell_of_row _ _ j _ _ f (blk_new W _)]
  have hjl : j < 9 := (List.getElem?_eq_some_iff.1 hj).1
  have hc : ∀ j : Fin 9, (#[Value.int .u8 87, .int .u8 105, .int .u8 107, .int .u8 105, .int .u8 112, .int .u8 101, .int .u8 100, .int .u8 105, .int .u8 97] : Array Value)[j.val]? = some (.int .u8 ((wiki.getD j.val 0 : Nat) : Int)) := by
    intro j
    match j with
    | ⟨0, _⟩ => rfl
    | ⟨1, _⟩ => rfl
    | ⟨2, _⟩ => rfl
    | ⟨3, _⟩ => rfl
    | ⟨4, _⟩ => rfl
    | ⟨5, _⟩ => rfl
    | ⟨6, _⟩ => rfl
    | ⟨7, _⟩ => rfl
    | ⟨8, _⟩ => rfl
  have hx : x = wiki.getD j 0 := by simp [List.getD, hj]
  rw [hx]
  exact hc ⟨j, hjl⟩
theorem wiki_ad : adV wiki = 300286872 := by decide +kernel

set_option maxHeartbeats 2000000 in
set_option maxRecDepth 100000 in
theorem encodeE0_calls (w : World) : Calls Tryd.prog 18 #[.agg #[.int .i64 0, .int .i64 0, .int .i64 0, .int .i64 0, .int .i64 0, .int .i64 0, .bool false, .string ⟨#[]⟩, .string ⟨#[]⟩, .bool false, .string ⟨#[]⟩, .string ⟨#[]⟩, .slice none 0 0, .slice none 0 0, .slice none 0 0]] w fun e w' => ∃ A c, e = .returned (.tuple #[.slice A 15 c, .int .i64 0]) ∧ KRd .u8 w' w'.heap.size A (List.replicate 15 0) ∧ Below w.heap.size w w' := by
  have HE := Lib.hid (fun W => encode0_calls W)
  go_enter Tryd.func18, Tryd.ntmps18
  go_wp2_with fail
  refine (HE.out _).mono ?_
  rintro e w1 ⟨A, c, rfl, hk, hb⟩
  have HK := Lib.hid hk
  have HB := Lib.hid ((bel_alloc w (.cells #[.int .i64 0, .int .i64 0, .int .i64 0, .int .i64 0, .int .i64 0, .int .i64 0, .bool false, .string ⟨#[]⟩, .string ⟨#[]⟩, .bool false, .string ⟨#[]⟩, .string ⟨#[]⟩, .slice none 0 0, .slice none 0 0, .slice none 0 0] 37)).trans (hb.mono (by simp)))
  clear hk hb
  go_wp2_with fail
  go_ret2
  exact ⟨A, c, rfl, HK.out, HB.out⟩

def SK (A : Option Addr) (B : Nat) (W : World) : Prop := KRd .u8 W B A (List.replicate 15 0)
theorem SK.below {A : Option Addr} {B : Nat} {W W' : World} (h : SK A B W) (hb : Below B W W') : SK A B W' := KRd.below h hb
theorem sk_conv {A : Option Addr} {B : Nat} {W : World} (c : Nat) (h : SK A B W) : (convert 22 9 (.slice A 15 c)).run Tryd.prog W = .ok (.string (nstr (List.replicate 15 0))) W := by
  have := conv_bytes (P := Tryd.prog) W B 22 9 5 A (List.replicate 15 0) c Tryd.underlying22 Tryd.underlying5 Tryd.underlying9 h (by intro x hx; rw [(List.mem_replicate.1 hx).2]; omega)
  exact this

set_option maxHeartbeats 4000000 in
set_option maxRecDepth 100000 in
theorem awake35_calls (w : World) : Calls Tryd.prog 10 #[] w fun e w' => e = .returned (.bool true) ∧ Below w.heap.size w w' := by
  have HE := Lib.hid (fun W => encodeE0_calls W)
  have hmk := run_make_row' (P := Tryd.prog) 22 5 (.int .u8 0) 1 Tryd.underlying22 Tryd.info_u8 rfl .i64 .i64 15 (by omega) (by omega)
  have hmk15 : ∀ W, (Instr.makeSlice 22 (.int .i64 15) (.int .i64 15)).run Tryd.prog W = .ok (.slice (some ⟨W.heap.size, 0, none⟩) 15 15) (W.alloc (.cells (madeCells #[.int .u8 0] 15) 5)) := fun W => hmk W
  clear hmk
  go_enter Tryd.func10, Tryd.ntmps10
  go_wp2_with fail
  refine (HE.out _).mono ?_
  rintro e w1 ⟨A, c, rfl, hk, hb⟩
  have HK := Lib.hid hk
  have HB := Lib.hid hb
  clear hk hb
  go_wp2_with fail
  obtain ⟨W0, hW0⟩ : ∃ W0, W0 = w1.drew := ⟨_, rfl⟩
  have hS0 : SK A W0.heap.size W0 := by rw [hW0]; exact HK.out
  have HB0 : Hid (Below w.heap.size w W0) := by rw [hW0]; exact HB.out.drew
  refine wp_region_held_drew (S := SK A W0.heap.size) (by kernel_rfl) (by rw [← hW0]; exact hS0) ?_
  rw [← hW0]
  intro _
  clear hW0
  refine wpAnyH_take (i := 0) rfl (by kernel_rfl) (by kernel_rfl) (by kernel_rfl) (fun _ _ _ h => h) (Or.inl ⟨by kernel_rfl, (by intro w' _; go_simp; with_reducible rfl)⟩) hS0 ?_
  go_simp
  refine wpAnyH_take (i := 1) (v := .bool true) rfl (by kernel_rfl) (by kernel_rfl) (by kernel_rfl) (fun _ _ _ h => h) (Or.inl ⟨by kernel_rfl, (by intro w' _; go_simp)⟩) hS0 ?_
  go_simp
  refine wpAnyH_take (i := 2) (v := .bool true) rfl (by kernel_rfl) (by kernel_rfl) (by kernel_rfl) (fun _ _ _ h => h) (Or.inl ⟨by kernel_rfl, (by intro w' _; go_simp)⟩) hS0 ?_
  go_simp
  refine wpAnyH_take (i := 3) rfl (by kernel_rfl) (by kernel_rfl) (by kernel_rfl) (fun _ _ _ h => h) (Or.inl ⟨by kernel_rfl, (by intro w' _; go_simp; with_reducible rfl)⟩) hS0 ?_
  go_simp
  refine wpAnyH_take (i := 4) (v := .string (nstr (List.replicate 15 0))) rfl (by kernel_rfl) (by kernel_rfl) (by kernel_rfl) (fun _ _ _ h => h) (Or.inl ⟨by kernel_rfl, (by intro w' hw'; have hcv := sk_conv c hw'; go_simp)⟩) hS0 ?_
  go_simp
  refine wpAnyH_ready (rs := [5]) (by kernel_rfl) (by simp) ?_
  refine AllReadyH.cons rfl (fun K hK => ?_) AllReadyH.nil
  go_simp
  have hS1 : SK A W0.heap.size (W0.alloc (.cells (madeCells #[.int .u8 0] 15) 5)) := hS0.below (bel_alloc _ _)
  refine hK.out _ _ hS1 (fun _ => ?_)
  clear hK K
  have hM : KRow .u8 5 (W0.alloc (.cells (madeCells #[.int .u8 0] 15) 5)) W0.heap.size (List.replicate 15 0) := KRow.made W0 15 _ rfl
  have hB1 : Below w.heap.size w (W0.alloc (.cells (madeCells #[.int .u8 0] 15) 5)) := HB0.out.alloc HB0.out.size _
  obtain ⟨W1, hW1⟩ : ∃ W1, W1 = W0.alloc (.cells (madeCells #[.int .u8 0] 15) 5) := ⟨_, rfl⟩
  have hSZ : W0.heap.size ≤ W1.heap.size := by rw [hW1]; simp
  rw [← hW1] at hS1 hM hB1 ⊢
  have hcv2 := sk_conv 15 (show SK (some ⟨W0.heap.size, 0, none⟩) W1.heap.size W1 from hM.rd)
  clear hM hW1 hmk15
  refine wpAnyH_ready (rs := [6]) (by kernel_rfl) (by simp) ?_
  refine AllReadyH.cons rfl (fun K hK => ?_) AllReadyH.nil
  go_simp
  refine hK.out _ _ hS1 (fun _ => ?_)
  clear hK K hcv2
  refine wpAnyH_take (i := 7) (v := .bool true) rfl (by kernel_rfl) (by kernel_rfl) (by kernel_rfl) (fun _ _ _ h => h) (Or.inl ⟨by kernel_rfl, (by intro w' _; go_simp)⟩) hS1 ?_
  go_simp
  refine wpAnyH_take (i := 8) (v := .bool true) rfl (by kernel_rfl) (by kernel_rfl) (by kernel_rfl) (fun _ _ _ h => h) (Or.inl ⟨by kernel_rfl, (by intro w' _; go_simp)⟩) hS1 ?_
  go_simp
  refine wpAnyH_take (i := 9) (v := .bool true) rfl (by kernel_rfl) (by kernel_rfl) (by kernel_rfl) (fun _ _ _ h => h) (Or.inl ⟨by kernel_rfl, (by intro w' _; go_simp)⟩) hS1 ?_
  go_simp
  refine wpAnyH_ready (rs := [10]) (by kernel_rfl) (by simp) ?_
  refine AllReadyH.cons rfl (fun K hK => ?_) AllReadyH.nil
  go_simp
  have hS2a : SK A W0.heap.size (W1.alloc (.cells #[.int .u8 87, .int .u8 105, .int .u8 107, .int .u8 105, .int .u8 112, .int .u8 101, .int .u8 100, .int .u8 105, .int .u8 97] 5)) := hS1.below ((bel_alloc _ _).mono hSZ)
  refine hK.out _ _ hS2a (fun _ => ?_)
  clear hK K
  have kc := Lib.run_convert_bytes_const (P := Tryd.prog) W1 22 5 #[.int .u8 87, .int .u8 105, .int .u8 107, .int .u8 105, .int .u8 112, .int .u8 101, .int .u8 100, .int .u8 105, .int .u8 97] 9 9 Tryd.underlying22 Tryd.underlying5
  refine wpAnyH_ready (rs := [11]) (by kernel_rfl) (by simp) ?_
  refine AllReadyH.cons rfl (fun K hK => ?_) AllReadyH.nil
  go_simp
  have hS2 : SK A W0.heap.size (W1.alloc (.cells #[.int .u8 87, .int .u8 105, .int .u8 107, .int .u8 105, .int .u8 112, .int .u8 101, .int .u8 100, .int .u8 105, .int .u8 97] 5 (9, 10))) := hS1.below ((bel_alloc _ _).mono hSZ)
  refine hK.out _ _ hS2 (fun _ => ?_)
  clear hK K kc hS2a
  have hM : KRd .u8 (W1.alloc (.cells #[.int .u8 87, .int .u8 105, .int .u8 107, .int .u8 105, .int .u8 112, .int .u8 101, .int .u8 100, .int .u8 105, .int .u8 97] 5 (9, 10))) (W1.alloc (.cells #[.int .u8 87, .int .u8 105, .int .u8 107, .int .u8 105, .int .u8 112, .int .u8 101, .int .u8 100, .int .u8 105, .int .u8 97] 5 (9, 10))).heap.size (some ⟨W1.heap.size, 0, none⟩) wiki := wiki_rd W1 _
  have hS2b := hB1.alloc hB1.size (.cells #[.int .u8 87, .int .u8 105, .int .u8 107, .int .u8 105, .int .u8 112, .int .u8 101, .int .u8 100, .int .u8 105, .int .u8 97] 5 (9, 10))
  refine wpAnyH_ready (rs := [12]) (by kernel_rfl) (by simp) ?_
  refine AllReadyH.cons rfl (fun K hK => ?_) AllReadyH.nil
  go_simp
  refine (sum_calls (some ⟨W1.heap.size, 0, none⟩) 9 wiki _ hM (by intro x hx; simp [wiki] at hx; omega) (by decide)).mono ?_
  rintro e w5 ⟨rfl, rfl⟩
  rw [wiki_ad]
  refine hK.out _ _ hS2 (fun _ => ?_)
  clear hK K
  refine wpAnyH_take (i := 13) (v := .bool true) rfl (by kernel_rfl) (by kernel_rfl) (by kernel_rfl) (fun _ _ _ h => h) (Or.inl ⟨by kernel_rfl, (by intro w' _; go_simp)⟩) hS2 ?_
  go_simp
  refine wpAnyH_take (i := 14) (v := .bool true) rfl (by kernel_rfl) (by kernel_rfl) (by kernel_rfl) (fun _ _ _ h => h) (Or.inl ⟨by kernel_rfl, (by intro w' _; go_simp)⟩) hS2 ?_
  go_simp
  refine wpAnyH_take (i := 15) (v := .bool true) rfl (by kernel_rfl) (by kernel_rfl) (by kernel_rfl) (fun _ _ _ h => h) (Or.inl ⟨by kernel_rfl, (by intro w' _; go_simp)⟩) hS2 ?_
  go_simp
  refine wpAnyH_done (by kernel_rfl) ?_ _
  go_wp2_with fail
  go_ret
  exact ⟨rfl, hS2b⟩

end Go.Proofs.YtcljkdjmmolfoaaDoor

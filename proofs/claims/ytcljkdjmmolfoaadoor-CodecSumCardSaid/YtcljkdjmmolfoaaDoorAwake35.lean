/- insolvencylaw35.awake. -/
import Derived.Test.YtcljkdjmmolfoaaDoorEnc0
import Derived.Test.YtcljkdjmmolfoaaDoorSum
import Derived.Lib.SlBytesConst
set_option linter.unusedVariables false
set_option linter.unusedSimpArgs false
namespace Go.Proofs.YtcljkdjmmolfoaaDoor
open Go.RowKit

def wiki : List Nat := [87, 105, 107, 105, 112, 101, 100, 105, 97]
theorem wiki_rd (W : World) (f : Nat × Nat) : KRd .u8 (W.alloc (.cells #[.int .u8 87, .int .u8 105, .int .u8 107, .int .u8 105, .int .u8 112, .int .u8 101, .int .u8 100, .int .u8 105, .int .u8 97] 5 f)) (W.alloc (.cells #[.int .u8 87, .int .u8 105, .int .u8 107, .int .u8 105, .int .u8 112, .int .u8 101, .int .u8 100, .int .u8 105, .int .u8 97] 5 f)).heap.size (some ⟨W.heap.size, 0, none⟩) wiki := by
  refine KRd.mk_ (by simp) fun j x hj => ?_
  rw [Nat.zero_add, cell_of_row _ _ j _ _ f (blk_new W _)]
  have hjl : j < 9 := (List.getElem?_eq_some_iff.1 hj).1
  have hc : ∀ j : Fin 9, (#[Value.int .u8 87, .int .u8 105, .int .u8 107, .int .u8 105, .int .u8 112, .int .u8 101, .int .u8 100, .int .u8 105, .int .u8 97] : Array Value)[j.val]? = some (.int .u8 ((wiki.getD j.val 0 : Nat) : Int)) := by
    intro j
    match j with
    | ⟨0, _⟩ => rfl
    | ⟨1, _⟩ => rfl
    | ⟨2, _⟩ => rfl
    | ⟨3, _⟩ => rfl
    | ⟨4, _⟩ => rfl
    | ⟨5, _⟩ => rfl
    | ⟨6, _⟩ => rfl
    | ⟨7, _⟩ => rfl
    | ⟨8, _⟩ => rfl
  have hx : x = wiki.getD j 0 := by simp [List.getD, hj]
  rw [hx]
  exact hc ⟨j, hjl⟩
theorem wiki_ad : adV wiki = 300286872 := by decide +kernel

set_option maxHeartbeats 2000000 in
set_option maxRecDepth 100000 in
theorem encodeE0_calls (w : World) : Calls Tryd.prog 18 #[.agg #[.int .i64 0, .int .i64 0, .int .i64 0, .int .i64 0, .int .i64 0, .int .i64 0, .bool false, .string ⟨#[]⟩, .string ⟨#[]⟩, .bool false, .string ⟨#[]⟩, .string ⟨#[]⟩, .slice none 0 0, .slice none 0 0, .slice none 0 0]] w fun e w' => ∃ A c, e = .returned (.tuple #[.slice A 15 c, .int .i64 0]) ∧ KRd .u8 w' w'.heap.size A (List.replicate 15 0) ∧ Below w.heap.size w w' := by
  have HE := Lib.hid (fun W => encode0_calls W)
  go_enter Tryd.func18, Tryd.ntmps18
  go_wp2_with fail
  refine (HE.out _).mono ?_
  rintro e w1 ⟨A, c, rfl, hk, hb⟩
  have HK := Lib.hid hk
  have HB := Lib.hid ((bel_alloc w (.cells #[.int .i64 0, .int .i64 0, .int .i64 0, .int .i64 0, .int .i64 0, .int .i64 0, .bool false, .string ⟨#[]⟩, .string ⟨#[]⟩, .bool false, .string ⟨#[]⟩, .string ⟨#[]⟩, .slice none 0 0, .slice none 0 0, .slice none 0 0] 37)).trans (hb.mono (by simp)))
  clear hk hb
  go_wp2_with fail
  go_ret2
  exact ⟨A, c, rfl, HK.out, HB.out⟩

def SK (A : Option Addr) (B : Nat) (W : World) : Prop := KRd .u8 W B A (List.replicate 15 0)
theorem SK.below {A : Option Addr} {B : Nat} {W W' : World} (h : SK A B W) (hb : Below B W W') : SK A B W' := KRd.below h hb
theorem sk_conv {A : Option Addr} {B : Nat} {W : World} (c : Nat) (h : SK A B W) : (convert 22 9 (.slice A 15 c)).run Tryd.prog W = .ok (.string (nstr (List.replicate 15 0))) W := by
  have := conv_bytes (P := Tryd.prog) W B 22 9 5 A (List.replicate 15 0) c Tryd.underlying22 Tryd.underlying5 Tryd.underlying9 h (by intro x hx; rw [(List.mem_replicate.1 hx).2]; omega)
  exact this

set_option maxHeartbeats 4000000 in
set_option maxRecDepth 100000 in
theorem awake35_calls (w : World) : Calls Tryd.prog 10 #[] w fun e w' => e = .returned (.bool true) ∧ Below w.heap.size w w' := by
  have HE := Lib.hid (fun W => encodeE0_calls W)
  have hmk := run_make_row' (P := Tryd.prog) 22 5 (.int .u8 0) 1 Tryd.underlying22 Tryd.info_u8 rfl .i64 .i64 15 (by omega) (by omega)
  have hmk15 : ∀ W, (Instr.makeSlice 22 (.int .i64 15) (.int .i64 15)).run Tryd.prog W = .ok (.slice (some ⟨W.heap.size, 0, none⟩) 15 15) (W.alloc (.cells (madeCells #[.int .u8 0] 15) 5)) := fun W => hmk W
  clear hmk
  go_enter Tryd.func10, Tryd.ntmps10
  go_wp2_with fail
  refine (HE.out _).mono ?_
  rintro e w1 ⟨A, c, rfl, hk, hb⟩
  have HK := Lib.hid hk
  have HB := Lib.hid hb
  clear hk hb
  go_wp2_with fail
  obtain ⟨W0, hW0⟩ : ∃ W0, W0 = w1.drew := ⟨_, rfl⟩
  have hS0 : SK A W0.heap.size W0 := by rw [hW0]; exact HK.out
  have HB0 : Hid (Below w.heap.size w W0) := by rw [hW0]; exact HB.out.drew
  refine wp_region_held_drew (S := SK A W0.heap.size) (by kernel_rfl) (by rw [← hW0]; exact hS0) ?_
  rw [← hW0]
  intro _
  clear hW0
  refine wpAnyH_take (i := 0) rfl (by kernel_rfl) (by kernel_rfl) (by kernel_rfl) (fun _ _ _ h => h) (Or.inl ⟨by kernel_rfl, (by intro w' _; go_simp; with_reducible rfl)⟩) hS0 ?_
  go_simp
  refine wpAnyH_take (i := 1) (v := .bool true) rfl (by kernel_rfl) (by kernel_rfl) (by kernel_rfl) (fun _ _ _ h => h) (Or.inl ⟨by kernel_rfl, (by intro w' _; go_simp)⟩) hS0 ?_
  go_simp
  refine wpAnyH_take (i := 2) (v := .bool true) rfl (by kernel_rfl) (by kernel_rfl) (by kernel_rfl) (fun _ _ _ h => h) (Or.inl ⟨by kernel_rfl, (by intro w' _; go_simp)⟩) hS0 ?_
  go_simp
  refine wpAnyH_take (i := 3) rfl (by kernel_rfl) (by kernel_rfl) (by kernel_rfl) (fun _ _ _ h => h) (Or.inl ⟨by kernel_rfl, (by intro w' _; go_simp; with_reducible rfl)⟩) hS0 ?_
  go_simp
  refine wpAnyH_take (i := 4) (v := .string (nstr (List.replicate 15 0))) rfl (by kernel_rfl) (by kernel_rfl) (by kernel_rfl) (fun _ _ _ h => h) (Or.inl ⟨by kernel_rfl, (by intro w' hw'; have hcv := sk_conv c hw'; go_simp)⟩) hS0 ?_
  go_simp
  refine wpAnyH_ready (rs := [5]) (by kernel_rfl) (by simp) ?_
  refine AllReadyH.cons rfl (fun K hK => ?_) AllReadyH.nil
  go_simp
  have hS1 : SK A W0.heap.size (W0.alloc (.cells (madeCells #[.int .u8 0] 15) 5)) := hS0.below (bel_alloc _ _)
  refine hK.out _ _ hS1 (fun _ => ?_)
  clear hK K
  have hM : KRow .u8 5 (W0.alloc (.cells (madeCells #[.int .u8 0] 15) 5)) W0.heap.size (List.replicate 15 0) := KRow.made W0 15 _ rfl
  have hB1 : Below w.heap.size w (W0.alloc (.cells (madeCells #[.int .u8 0] 15) 5)) := HB0.out.alloc HB0.out.size _
  obtain ⟨W1, hW1⟩ : ∃ W1, W1 = W0.alloc (.cells (madeCells #[.int .u8 0] 15) 5) := ⟨_, rfl⟩
  have hSZ : W0.heap.size ≤ W1.heap.size := by rw [hW1]; simp
  rw [← hW1] at hS1 hM hB1 ⊢
  have hcv2 := sk_conv 15 (show SK (some ⟨W0.heap.size, 0, none⟩) W1.heap.size W1 from hM.rd)
  clear hM hW1 hmk15
  refine wpAnyH_ready (rs := [6]) (by kernel_rfl) (by simp) ?_
  refine AllReadyH.cons rfl (fun K hK => ?_) AllReadyH.nil
  go_simp
  refine hK.out _ _ hS1 (fun _ => ?_)
  clear hK K hcv2
  refine wpAnyH_take (i := 7) (v := .bool true) rfl (by kernel_rfl) (by kernel_rfl) (by kernel_rfl) (fun _ _ _ h => h) (Or.inl ⟨by kernel_rfl, (by intro w' _; go_simp)⟩) hS1 ?_
  go_simp
  refine wpAnyH_take (i := 8) (v := .bool true) rfl (by kernel_rfl) (by kernel_rfl) (by kernel_rfl) (fun _ _ _ h => h) (Or.inl ⟨by kernel_rfl, (by intro w' _; go_simp)⟩) hS1 ?_
  go_simp
  refine wpAnyH_take (i := 9) (v := .bool true) rfl (by kernel_rfl) (by kernel_rfl) (by kernel_rfl) (fun _ _ _ h => h) (Or.inl ⟨by kernel_rfl, (by intro w' _; go_simp)⟩) hS1 ?_
  go_simp
  refine wpAnyH_ready (rs := [10]) (by kernel_rfl) (by simp) ?_
  refine AllReadyH.cons rfl (fun K hK => ?_) AllReadyH.nil
  go_simp
  have hS2a : SK A W0.heap.size (W1.alloc (.cells #[.int .u8 87, .int .u8 105, .int .u8 107, .int .u8 105, .int .u8 112, .int .u8 101, .int .u8 100, .int .u8 105, .int .u8 97] 5)) := hS1.below ((bel_alloc _ _).mono hSZ)
  refine hK.out _ _ hS2a (fun _ => ?_)
  clear hK K
  have kc := Lib.run_convert_bytes_const (P := Tryd.prog) W1 22 5 #[.int .u8 87, .int .u8 105, .int .u8 107, .int .u8 105, .int .u8 112, .int .u8 101, .int .u8 100, .int .u8 105, .int .u8 97] 9 9 Tryd.underlying22 Tryd.underlying5
  refine wpAnyH_ready (rs := [11]) (by kernel_rfl) (by simp) ?_
  refine AllReadyH.cons rfl (fun K hK => ?_) AllReadyH.nil
  go_simp
  have hS2 : SK A W0.heap.size (W1.alloc (.cells #[.int .u8 87, .int .u8 105, .int .u8 107, .int .u8 105, .int .u8 112, .int .u8 101, .int .u8 100, .int .u8 105, .int .u8 97] 5 (9, 10))) := hS1.below ((bel_alloc _ _).mono hSZ)
  refine hK.out _ _ hS2 (fun _ => ?_)
  clear hK K kc hS2a
  have hM : KRd .u8 (W1.alloc (.cells #[.int .u8 87, .int .u8 105, .int .u8 107, .int .u8 105, .int .u8 112, .int .u8 101, .int .u8 100, .int .u8 105, .int .u8 97] 5 (9, 10))) (W1.alloc (.cells #[.int .u8 87, .int .u8 105, .int .u8 107, .int .u8 105, .int .u8 112, .int .u8 101, .int .u8 100, .int .u8 105, .int .u8 97] 5 (9, 10))).heap.size (some ⟨W1.heap.size, 0, none⟩) wiki := wiki_rd W1 _
  have hS2b := hB1.alloc hB1.size (.cells #[.int .u8 87, .int .u8 105, .int .u8 107, .int .u8 105, .int .u8 112, .int .u8 101, .int .u8 100, .int .u8 105, .int .u8 97] 5 (9, 10))
  refine wpAnyH_ready (rs := [12]) (by kernel_rfl) (by simp) ?_
  refine AllReadyH.cons rfl (fun K hK => ?_) AllReadyH.nil
  go_simp
  refine (sum_calls (some ⟨W1.heap.size, 0, none⟩) 9 wiki _ hM (by intro x hx; simp [wiki] at hx; omega) (by decide)).mono ?_
  rintro e w5 ⟨rfl, rfl⟩
  rw [wiki_ad]
  refine hK.out _ _ hS2 (fun _ => ?_)
  clear hK K
  refine wpAnyH_take (i := 13) (v := .bool true) rfl (by kernel_rfl) (by kernel_rfl) (by kernel_rfl) (fun _ _ _ h => h) (Or.inl ⟨by kernel_rfl, (by intro w' _; go_simp)⟩) hS2 ?_
  go_simp
  refine wpAnyH_take (i := 14) (v := .bool true) rfl (by kernel_rfl) (by kernel_rfl) (by kernel_rfl) (fun _ _ _ h => h) (Or.inl ⟨by kernel_rfl, (by intro w' _; go_simp)⟩) hS2 ?_
  go_simp
  refine wpAnyH_take (i := 15) (v := .bool true) rfl (by kernel_rfl) (by kernel_rfl) (by kernel_rfl) (fun _ _ _ h => h) (Or.inl ⟨by kernel_rfl, (by intro w' _; go_simp)⟩) hS2 ?_
  go_simp
  refine wpAnyH_done (by kernel_rfl) ?_ _
  go_wp2_with fail
  go_ret
  exact ⟨rfl, hS2b⟩

end Go.Proofs.YtcljkdjmmolfoaaDoor

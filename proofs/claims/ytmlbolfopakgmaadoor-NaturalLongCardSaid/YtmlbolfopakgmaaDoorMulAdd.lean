/- natural.multiplyAdd at the factor 10. -/
import Derived.Test.YtmlbolfopakgmaaDoorStep
import Derived.Test.YtmlbolfopakgmaaDoorFmt
set_option linter.unusedVariables false
set_option linter.unusedSimpArgs false
namespace Go.Proofs.YtmlbolfopakgmaaDoor
open Go.RowKit

theorem ma_step {o l : List Nat} {k c z c' d : Nat} (hl : o.length = k) (h : valL o + 4294967296 ^ k * c = valL (l.take k) * 10 + d) (hz : z + 4294967296 * c' = l.getD k 0 * 10 + c) :
    valL (o ++ [z]) + 4294967296 ^ (k + 1) * c' = valL (l.take (k + 1)) * 10 + d := by
  rw [valL_snoc, valL_take_succ', Nat.pow_succ, hl]
  generalize 4294967296 ^ k = P at *
  grind

set_option maxHeartbeats 8000000 in
set_option maxRecDepth 100000 in
theorem mulAdd_calls (v : Value) (l : List Nat) (d B : Nat) (w : World) (hown : w.ownsRow B 60 1 v l.length (l.map (fun (x : Nat) => Value.int .u32 (x : Int)))) (hB : B ≤ w.heap.size) (hdig : Dig l) (hl : l.length ≤ 100000) (hd : d < 10) :
    Calls Tryd.prog 49 #[v, .int .u32 10, .int .u32 d] w fun e w' => ∃ v' l', e = .returned v' ∧ w'.ownsRow B 60 1 v' l'.length (l'.map (fun (x : Nat) => Value.int .u32 (x : Int))) ∧ Dig l' ∧ valL l' = valL l * 10 + d ∧ l'.length ≤ l.length + 1 ∧ Below B w w' := by
  obtain ⟨i0, hi, hz0, hz1, hz2⟩ := info_parts Tryd.info_u32
  have HI0 : Hid (Tryd.prog.info? 60 = some i0 ∧ i0.zero = some (.int .u32 0) ∧ i0.size = 1 ∧ i0.bytes = 4) := ⟨hi, hz0, hz1, hz2⟩
  obtain ⟨A, c0, hv, _, hle⟩ := own_shape hown
  subst hv
  obtain ⟨n, hn⟩ : ∃ n, n = l.length := ⟨_, rfl⟩
  rw [← hn] at hown hl hle ⊢
  have HN := Lib.hid hn
  have HOWN := Lib.hid hown
  have HD := Lib.hid hdig
  clear hn hown hdig hi hz0 hz1 hz2
  go_enter Tryd.func49, Tryd.ntmps49
  go_wp2_with fail
  go_loopw [7, 14] (fun cc ii wr => ∃ (k c : Nat) (os : List Nat), k ≤ n ∧ ii = .int .i64 (k : Int) ∧ cc = .int .u64 (c : Int) ∧ c < 10 ∧ wr.ownsRow B 60 1 (.slice A n c0) n ((os ++ l.drop k).map (fun (x : Nat) => Value.int .u32 (x : Int))) ∧ Hid (os.length = k ∧ Dig os ∧ valL os + 4294967296 ^ k * c = valL (l.take k) * 10 + d) ∧ Below B w wr) (fun _ ii _ => n - (intOf ii).toNat)
  case atStart => exact ⟨0, d, [], by omega, rfl, rfl, hd, by simpa using HOWN.out, ⟨rfl, Dig.nil, by simp [valL]⟩, Below.refl _ _⟩
  case round =>
    obtain ⟨k, c, os, hk, rfl, rfl, hc, hown, HI, hbel⟩ := hrel
    obtain ⟨hol, hod, hov⟩ := HI.out
    have hws := hbel.size
    by_cases hlt : k < n
    · obtain ⟨g, cap, hA, hge, hgl⟩ := hown.form (by omega)
      obtain ⟨rfl, rfl⟩ : A = some ⟨g, 0, none⟩ ∧ c0 = cap := by simpa using hA
      obtain ⟨x, hx⟩ : ∃ x, x = l.getD k 0 := ⟨_, rfl⟩
      have hxl : x < 4294967296 := by rw [hx]; exact HD.out.getD k
      have hkl : k < l.length := by rw [← HN.out]; exact hlt
      have hcx : wr.cell? ⟨g, k, none⟩ = some (.int .u32 (x : Int)) := by
        rw [hown.cellAt k (by omega), List.getElem?_map, List.getElem?_append_right (by omega), hol, Nat.sub_self, List.getElem?_drop, Nat.add_zero, getElem?_getD hkl, ← hx]
        rfl
      have hfx := hown.frozenAt k
      obtain ⟨t, ht⟩ : ∃ t, t = x * 10 + c := ⟨_, rfl⟩
      obtain ⟨z, hz⟩ : ∃ z, z = t % 4294967296 := ⟨_, rfl⟩
      obtain ⟨c', hc'⟩ : ∃ c', c' = t / 4294967296 := ⟨_, rfl⟩
      have hzl : z < 4294967296 := by omega
      have hc'l : c' < 10 := by omega
      have u1 : (x : Int) * 10 + (c : Int) = (t : Int) := by omega
      have u2 : (t : Int) % 4294967296 = (z : Int) := by omega
      have u3 : (t : Int) / 4294967296 = (c' : Int) := by omega
      have HI2 : Hid ((os ++ [z]).length = k + 1 ∧ Dig (os ++ [z]) ∧ valL (os ++ [z]) + 4294967296 ^ (k + 1) * c' = valL (l.take (k + 1)) * 10 + d) :=
        ⟨by simp [hol], hod.append (Dig.one hzl), ma_step hol hov (by rw [← hx]; omega)⟩
      have hset : ((os ++ l.drop k).map (fun (x : Nat) => Value.int .u32 (x : Int))).set k (.int .u32 (z : Int)) = ((os ++ [z]) ++ l.drop (k + 1)).map (fun (x : Nat) => Value.int .u32 (x : Int)) := by
        have h := row_put (pre := []) (post := []) (i := 0) rfl hol hkl z
        simp only [List.nil_append, List.append_nil, Nat.zero_add] at h
        rw [← h, List.map_set]
      have hst := hown.stored k (.int .u32 (z : Int))
      rw [hset] at hst
      have HST := Lib.hid hst
      clear hx ht hz hc' hset hst hol hod hov HI hown hA
      go_wp2_with fail
      go_roundw
      case measure => simp [intOf] <;> omega
      case rel => exact ⟨k + 1, c', os ++ [z], by omega, by go_num, rfl, hc'l, HST.out.1, HI2, hbel.setCell (p := ⟨g, k, none⟩) hge _⟩
    · obtain rfl : k = n := by omega
      have hdr : l.drop k = [] := List.drop_of_length_le (by rw [← HN.out]; exact Nat.le_refl _)
      have htk : l.take k = l := List.take_of_length_le (by rw [← HN.out]; exact Nat.le_refl _)
      rw [hdr, List.append_nil] at hown
      rw [htk] at hov
      by_cases hc0 : c = 0
      · subst hc0
        have HE := Lib.hid (And.intro hol (And.intro hod hov))
        have HO := Lib.hid hown
        clear hol hod hov HI hown hdr htk
        go_wp2_with fail
        go_ret
        refine ⟨_, os, rfl, ?_, HE.out.2.1, by have := HE.out.2.2; simpa using this, by rw [HE.out.1]; omega, hbel⟩
        rw [HE.out.1]; exact HO.out
      · have hcp : 0 < c := by omega
        have hcp2 : decide ((0 : Int) < (c : Int)) = true := by simp; omega
        have HE := Lib.hid (And.intro hol (And.intro hod hov))
        clear hol hod hov HI hdr htk hc0
        go_wp2_with (at_builtin; refine wpList_append_own _ rfl (.tmp 37) (.tmp 40) 50 rfl B 60 i0 (.int .u32 0) 1 4 Tryd.underlying50 HI0.out.1 HI0.out.2.1 HI0.out.2.2.1 HI0.out.2.2.2 rfl (by decide) _ _ _ rfl (by exact hown.alloc _) _ 1 1 _ rfl rfl (rd_new_cells _ _ _ _ (by simp)) (by simp [Value.oneCell']) (by simp only [maxLen]; omega) (by omega) (by simp <;> omega) ?_)
        intro v' w2 hown' hg _
        have hb1 : Below B w w2 := Below.grown (hbel.alloc (by omega) _) hg (by simp <;> omega) (fun q hq => (hown.lt q hq).1)
        have h2 : w2.ownsRow B 60 1 v' (os ++ [c]).length ((os ++ [c]).map (fun (x : Nat) => Value.int .u32 (x : Int))) := by
          have e : (os ++ [c]).length = k + 1 := by simp [HE.out.1]
          rw [e]
          simpa using hown'
        have H2 := Lib.hid h2
        clear hown' hg hown h2 hbel
        go_wp2_with fail
        go_ret
        refine ⟨_, os ++ [c], rfl, H2.out, HE.out.2.1.append (Dig.one (by omega)), ?_, by simp [HE.out.1], hb1⟩
        rw [valL_snoc, HE.out.1]; exact HE.out.2.2

end Go.Proofs.YtmlbolfopakgmaaDoor

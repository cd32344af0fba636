/- insolvencyref1.value, NatParse. -/
import Derived.Test.YtmlbolfopakgmaaDoorDigits
set_option linter.unusedVariables false
set_option linter.unusedSimpArgs false
namespace Go.Proofs.YtmlbolfopakgmaaDoor
open Go.RowKit

set_option maxHeartbeats 8000000 in
set_option maxRecDepth 100000 in
theorem value_calls (s : ByteArray) (w : World) (hs : s.size ≤ 2000) (hd : Dgt s.data.toList) :
    Calls Tryd.prog 52 #[.string s] w fun e w' => ∃ A c l, e = .returned (.slice A l.length c) ∧ l.length ≤ c ∧ l.length ≤ 2000 ∧ Dig l ∧ valL l = decv s.data.toList ∧ KRd .u32 w' w'.heap.size A l ∧ Below w.heap.size w w' := by
  obtain ⟨i0, hi, hz0, hz1, hz2⟩ := info_parts Tryd.info_u32
  have HI0 : Hid (Tryd.prog.info? 60 = some i0 ∧ i0.zero = some (.int .u32 0) ∧ i0.size = 1 ∧ i0.bytes = 4) := ⟨hi, hz0, hz1, hz2⟩
  have HDD := Lib.hid hd
  clear hd hi hz0 hz1 hz2
  go_enter Tryd.func52, Tryd.ntmps52
  go_wp2_with fail
  go_loopw [3, 4] (fun vv ii wr => ∃ (i : Nat) (l : List Nat), i ≤ s.size ∧ ii = .int .i64 (i : Int) ∧ wr.ownsRow w.heap.size 60 1 vv l.length (l.map (fun (x : Nat) => Value.int .u32 (x : Int))) ∧ l.length ≤ i ∧ Hid (Dig l ∧ valL l = decv (s.data.toList.take i)) ∧ Below w.heap.size w wr) (fun _ ii _ => s.size - (intOf ii).toNat)
  case atStart => exact ⟨0, [], by omega, rfl, World.ownsRow_nil _ _ _ _, by simp, ⟨Dig.nil, rfl⟩, Below.refl _ _⟩
  case round =>
    rename World => wo
    obtain ⟨i, l, hi, rfl, hown, hll, HIO, hbelo⟩ := hrel
    obtain ⟨A, c0, hv, hrd, hle⟩ := own_shape hown
    subst hv
    by_cases hli : i < s.size
    · obtain ⟨y, hy⟩ : ∃ y : UInt8, s[i]'hli = y := ⟨_, rfl⟩
      have hyl : s.data.toList[i]? = some y := by rw [← hy]; exact Lib.data_getElem? s i hli
      have hyd := HDD.out y (List.mem_of_getElem? hyl)
      obtain ⟨d, hdd⟩ : ∃ d, d = y.toNat - 48 := ⟨_, rfl⟩
      have hd : d < 10 := by omega
      have v1 : (y.toNat : Int) - 48 = (d : Int) := by omega
      have HS : Hid (decv (s.data.toList.take (i + 1)) = decv (s.data.toList.take i) * 10 + d) := by
        show _ = _
        rw [List.take_add_one, hyl, hdd]
        exact decv_snoc _ _
      obtain ⟨n, hn⟩ : ∃ n, n = l.length := ⟨_, rfl⟩
      rw [← hn] at hown hll hle ⊢
      have HN := Lib.hid hn
      have HOWN := Lib.hid hown
      have HBO := Lib.hid hbelo
      clear hyl hyd hdd hrd hn hown hbelo
      go_wp2_with fail
      go_loopw [5, 6] (fun cc ii wr => ∃ (k c : Nat) (os : List Nat), k ≤ n ∧ ii = .int .i64 (k : Int) ∧ cc = .int .u64 (c : Int) ∧ c < 10 ∧ wr.ownsRow w.heap.size 60 1 (.slice A n c0) n ((os ++ l.drop k).map (fun (x : Nat) => Value.int .u32 (x : Int))) ∧ Hid (os.length = k ∧ Dig os ∧ valL os + 4294967296 ^ k * c = valL (l.take k) * 10 + d) ∧ Below w.heap.size w wr) (fun _ ii _ => n - (intOf ii).toNat)
      case atStart => exact ⟨0, d, [], by omega, rfl, rfl, hd, by simpa using HOWN.out, ⟨rfl, Dig.nil, by simp [valL]⟩, HBO.out⟩
      case round =>
        obtain ⟨k, c, os, hk, rfl, rfl, hc, hown, HI, hbel⟩ := hrel
        obtain ⟨hol, hod, hov⟩ := HI.out
        have hws := hbel.size
        by_cases hlt : k < n
        · obtain ⟨g, cap, hA, hge, hgl⟩ := hown.form (by omega)
          obtain ⟨rfl, rfl⟩ : A = some ⟨g, 0, none⟩ ∧ c0 = cap := by simpa using hA
          obtain ⟨x, hx⟩ : ∃ x, x = l.getD k 0 := ⟨_, rfl⟩
          have hxl : x < 4294967296 := by rw [hx]; exact HIO.out.1.getD k
          have hkl : k < l.length := by rw [← HN.out]; exact hlt
          have hcx : wr.cell? ⟨g, k, none⟩ = some (.int .u32 (x : Int)) := by
            rw [hown.cellAt k (by omega), List.getElem?_map, List.getElem?_append_right (by omega), hol, Nat.sub_self, List.getElem?_drop, Nat.add_zero, getElem?_getD hkl, ← hx]
            rfl
          have hfx := hown.frozenAt k
          obtain ⟨t, ht⟩ : ∃ t, t = x * 10 + c := ⟨_, rfl⟩
          obtain ⟨z, hz⟩ : ∃ z, z = t % 4294967296 := ⟨_, rfl⟩
          obtain ⟨c', hc'⟩ : ∃ c', c' = t / 4294967296 := ⟨_, rfl⟩
          have hzl : z < 4294967296 := by omega
          have hc'l : c' < 10 := by omega
          have u1 : (c : Int) + (x : Int) * 10 = (t : Int) := by omega
          have u2 : (t : Int) % 4294967296 = (z : Int) := by omega
          have u3 : (t : Int) / 4294967296 = (c' : Int) := by omega
          have HI2 : Hid ((os ++ [z]).length = k + 1 ∧ Dig (os ++ [z]) ∧ valL (os ++ [z]) + 4294967296 ^ (k + 1) * c' = valL (l.take (k + 1)) * 10 + d) :=
            ⟨by simp [hol], hod.append (Dig.one hzl), ma_step hol hov (by rw [← hx]; omega)⟩
          have hset : ((os ++ l.drop k).map (fun (x : Nat) => Value.int .u32 (x : Int))).set k (.int .u32 (z : Int)) = ((os ++ [z]) ++ l.drop (k + 1)).map (fun (x : Nat) => Value.int .u32 (x : Int)) := by
            have h := row_put (pre := []) (post := []) (i := 0) rfl hol hkl z
            simp only [List.nil_append, List.append_nil, Nat.zero_add] at h
            rw [← h, List.map_set]
          have hst := hown.stored k (.int .u32 (z : Int))
          rw [hset] at hst
          have HST := Lib.hid hst
          clear hx ht hz hc' hset hst hol hod hov HI hown hA
          go_wp2_with fail
          go_roundw
          case measure => simp [intOf] <;> omega
          case rel => exact ⟨k + 1, c', os ++ [z], by omega, by go_num, rfl, hc'l, HST.out.1, HI2, hbel.setCell (p := ⟨g, k, none⟩) hge _⟩
        · obtain rfl : k = n := by omega
          have hdr : l.drop k = [] := List.drop_of_length_le (by rw [← HN.out]; exact Nat.le_refl _)
          have htk : l.take k = l := List.take_of_length_le (by rw [← HN.out]; exact Nat.le_refl _)
          rw [hdr, List.append_nil] at hown
          rw [htk] at hov
          by_cases hc0 : c = 0
          · subst hc0
            have HE := Lib.hid (And.intro hol (And.intro hod hov))
            have HO : Hid (wr.ownsRow w.heap.size 60 1 (.slice A k c0) os.length (os.map (fun (x : Nat) => Value.int .u32 (x : Int)))) := by rw [hol]; exact hown
            have HX : Hid (Dig os ∧ valL os = decv (s.data.toList.take (i + 1))) := ⟨hod, by rw [HS.out, ← HIO.out.2]; simpa using hov⟩
            clear hol hod hov HI hown hdr htk
            go_wp2_with fail
            go_roundw
            case measure => simp [intOf] <;> omega
            case rel => exact ⟨i + 1, os, by omega, by go_num, HO.out, by rw [HE.out.1]; omega, HX, hbel⟩
          · have hcp : 0 < c := by omega
            have hcp2 : decide ((0 : Int) < (c : Int)) = true := by simp; omega
            have HE := Lib.hid (And.intro hol (And.intro hod hov))
            clear hol hod hov HI hdr htk hc0
            go_wp2_with (at_builtin; refine wpList_append_own _ rfl (.tmp 41) (.tmp 44) 49 rfl w.heap.size 60 i0 (.int .u32 0) 1 4 Tryd.underlying49 HI0.out.1 HI0.out.2.1 HI0.out.2.2.1 HI0.out.2.2.2 rfl (by decide) _ _ _ rfl (by exact hown.alloc _) _ 1 1 _ rfl rfl (rd_new_cells _ _ _ _ (by simp)) (by simp [Value.oneCell']) (by simp only [maxLen]; omega) (by omega) (by simp <;> omega) ?_)
            intro v' w2 hown' hg _
            have hb1 : Below w.heap.size w w2 := Below.grown (hbel.alloc (by omega) _) hg (by simp <;> omega) (fun q hq => (hown.lt q hq).1)
            have h2 : w2.ownsRow w.heap.size 60 1 v' (os ++ [c]).length ((os ++ [c]).map (fun (x : Nat) => Value.int .u32 (x : Int))) := by
              have e : (os ++ [c]).length = k + 1 := by simp [HE.out.1]
              rw [e]
              simpa using hown'
            have H2 := Lib.hid h2
            have HX : Hid (Dig (os ++ [c]) ∧ valL (os ++ [c]) = decv (s.data.toList.take (i + 1))) := ⟨HE.out.2.1.append (Dig.one (by omega)), by rw [HS.out, ← HIO.out.2, valL_snoc, HE.out.1]; exact HE.out.2.2⟩
            clear hown' hg hown h2 hbel
            go_wp2_with fail
            go_roundw
            case measure => simp [intOf] <;> omega
            case rel => exact ⟨i + 1, os ++ [c], by omega, by go_num, H2.out, by simp [HE.out.1]; omega, HX, hb1⟩
    · have htk : s.data.toList.take i = s.data.toList := List.take_of_length_le (by rw [← Lib.size_eq]; omega)
      have HI3 := HIO.out
      rw [htk] at HI3
      have HFIN : Hid (KRd .u32 wo wo.heap.size A l ∧ Dig l ∧ valL l = decv s.data.toList ∧ Below w.heap.size w wo) := ⟨hrd, HI3.1, HI3.2, hbelo⟩
      clear htk HI3 HIO hrd hown hbelo
      go_wp2_with fail
      go_ret
      exact ⟨A, c0, l, rfl, hle, by omega, HFIN.out.2.1, HFIN.out.2.2.1, HFIN.out.1, HFIN.out.2.2.2⟩

end Go.Proofs.YtmlbolfopakgmaaDoor

/- the definition's limbs; text of both. -/
import Derived.Test.YtcljkdjmmolfoaaDoorParse
import Derived.OwnWalk
import Derived.Laws.BytesArg
import Derived.Laws.IdiomStrings
set_option linter.unusedVariables false
set_option linter.unusedSimpArgs false
namespace Go.Proofs.YtcljkdjmmolfoaaDoor
open Go.RowKit

theorem canon_num_len (l : List UInt8) : (canon (num l)).length ≤ l.length := by
  rw [← dropZero_eq]; exact (List.dropWhile_sublist _).length_le
theorem ncan_size (n : Nat) : (ncan n).size = (canon n).length := bstr_size _
theorem ncan_snum_size (s : ByteArray) : (ncan (snum s)).size ≤ s.size := by
  rw [ncan_size, Lib.size_eq]; exact canon_num_len _

theorem pow_le_canon {n : Nat} (h : n ≠ 0) : 256 ^ ((canon n).length - 1) ≤ n := by
  rcases Nat.lt_or_ge n (256 ^ ((canon n).length - 1)) with h1 | h1
  · have h2 := canon_len_le h1
    have h3 : 0 < (canon n).length := List.length_pos_iff.2 (canon_head h)
    omega
  · exact h1

theorem limbs_len_canon (n : Nat) : (limbs n).length = ((canon n).length + 3) / 4 := by
  by_cases h : n = 0
  · subst h; rw [limbs_zero, canon_zero]; rfl
  · have hc : 0 < (canon n).length := List.length_pos_iff.2 (canon_head h)
    apply Nat.le_antisymm
    · apply limbs_len_le
      have h1 := num_lt (canon n)
      rw [num_canon] at h1
      refine Nat.lt_of_lt_of_le h1 ?_
      have e : (4294967296 : Nat) = 256 ^ 4 := by decide
      rw [e, ← Nat.pow_mul]
      exact Nat.pow_le_pow_right (by omega) (by omega)
    · rcases Nat.lt_or_ge (limbs n).length (((canon n).length + 3) / 4) with h1 | h1
      · exfalso
        have h2 := lt_pow_limbs n
        have h3 := pow_le_canon h
        have e : (4294967296 : Nat) = 256 ^ 4 := by decide
        rw [e, ← Nat.pow_mul] at h2
        have h4 : 256 ^ (4 * (limbs n).length) ≤ 256 ^ ((canon n).length - 1) := Nat.pow_le_pow_right (by omega) (by omega)
        omega
      · exact h1

theorem packs_limbs (n : Nat) : packs (((ncan n).size + 3) / 4) (lebytes (ncan n)) = limbs n := by
  rw [ncan_size]
  apply valL_inj _ _ (by rw [packs_len, limbs_len_canon]) (packs_dig (lebytes_byt _) _) (limbs_dig _)
  rw [valL_packs _ _ (by rw [lebytes_len, ncan_size]; omega), valL_limbs]
  exact snum_ncan n

set_option maxHeartbeats 1000000 in
set_option maxRecDepth 100000 in
theorem limbsRef_calls (s0 : ByteArray) (w : World) (hs0 : s0.size ≤ 1000000000) :
    Calls Tryd.prog 61 #[.string s0] w fun e w' => ∃ A c, e = .returned (.slice A (limbs (snum s0)).length c) ∧ (limbs (snum s0)).length ≤ c ∧ KRd .u32 w' w'.heap.size A (limbs (snum s0)) ∧ Below w.heap.size w w' := by
  have hs : (ncan (snum s0)).size ≤ 1000000000 := Nat.le_trans (ncan_snum_size s0) hs0
  have HN := normRef_calls s0 w (by omega)
  have HEND := Lib.hid (packs_limbs (snum s0))
  obtain ⟨s, hss⟩ : ∃ s, s = ncan (snum s0) := ⟨_, rfl⟩
  rw [← hss] at HN hs HEND
  have HSS := Lib.hid hss
  clear hss
  obtain ⟨K, hK⟩ : ∃ K : Nat, K = (s.size + 3) / 4 := ⟨_, rfl⟩
  rw [← hK] at HEND
  have hK1 : s.size ≤ 4 * K := by omega
  have hK2 : 4 * K ≤ s.size + 3 := by omega
  have hKI : ((s.size : Int) + 3) / 4 = (K : Int) := by omega
  have hmk := run_make_row' (P := Tryd.prog) 116 25 (.int .u32 0) 4 Tryd.underlying116 Tryd.info_u32 rfl .i64 .i64 K (by omega) (by omega)
  have HNN := Lib.hid HN
  clear hK HN
  go_enter Tryd.func61, Tryd.ntmps61
  go_wp2_with fail
  refine HNN.out.mono ?_
  rintro e w1 ⟨rfl, rfl⟩
  go_wp2_with fail
  go_loopw [4] (fun i wr => ∃ k : Nat, k ≤ s.size ∧ i = .int .i64 k ∧ KRow .u32 25 wr w1.heap.size (packs K ((lebytes s).take k)) ∧ Below w1.heap.size w1 wr) (fun i _ => s.size - (intOf i).toNat)
  case atStart => exact ⟨0, Nat.zero_le _, rfl, (KRow.made _ _ _ rfl).cast (by rw [List.take_zero]; exact (packs_nil K).symm), (Below.refl _ _).alloc (Nat.le_refl _) _⟩
  case round =>
    obtain ⟨k, hk, rfl, hrow, hbel⟩ := hrel
    by_cases hlt : k < s.size
    · have hidx : s.size - 1 - k < s.size := by omega
      have hc := hrow.getD (j := k / 4) (by rw [packs_len]; omega)
      have hf := hrow.frozen (k / 4)
      have hsz := hrow.lt
      obtain ⟨v, hv⟩ : ∃ v, v = (packs K ((lebytes s).take k)).getD (k / 4) 0 := ⟨_, rfl⟩
      rw [← hv] at hc
      have HV := Lib.hid hv
      have HROW := Lib.hid hrow
      obtain ⟨q, hq⟩ : ∃ q, q = k / 4 := ⟨_, rfl⟩
      obtain ⟨m, hm⟩ : ∃ m, m = k % 4 := ⟨_, rfl⟩
      obtain ⟨t, ht⟩ : ∃ t, t = s.size - 1 - k := ⟨_, rfl⟩
      have htl : t < s.size := by omega
      have hqK : q < K := by omega
      have hm4 : m < 4 := by omega
      have w1 : IntKind.i64.wrap ((k : Int) / 4) = (q : Int) := by rw [IntWalk.i64_in _ (by omega)]; omega
      have w2 : IntKind.i64.wrap ((s.size : Int) - 1) = (s.size : Int) - 1 := IntWalk.i64_in _ (by omega)
      have w3 : IntKind.i64.wrap ((s.size : Int) - 1 - (k : Int)) = (t : Int) := by rw [IntWalk.i64_in _ (by omega)]; omega
      have w4 : (k : Int).tmod 4 = (m : Int) := by rw [Int.tmod_eq_emod_of_nonneg (by omega)]; omega
      have w7 : IntKind.u64.wrap (8 * (m : Int)) = 8 * (m : Int) := IntWalk.u64_in _ (by omega)
      obtain ⟨c, hcc⟩ : ∃ c : Nat, c = s[t].toNat := ⟨_, rfl⟩
      have hc8 : c < 256 := by rw [hcc]; exact s[t].toNat_lt
      have w6 : IntKind.u32.wrap (s[t].toNat : Int) = (c : Int) := by rw [← hcc]; exact IntWalk.u32_in _ (by omega)
      have w5 : IntKind.i64.wrap (8 * (m : Int)) = 8 * (m : Int) := IntWalk.i64_in _ (by omega)
      rw [← hq] at hc hf
      have HC := Lib.hid hcc
      have HQ := Lib.hid hq
      have HM := Lib.hid hm
      have hgv : v = pk ((lebytes s).take k) q := by rw [HV.out, packs_get (by omega), hq]
      have hvm : v < 256 ^ m := by rw [hgv, hq, hm]; exact pk_take_lt (lebytes_byt s) k
      have HCl : Hid ((lebytes s).getD k 0 = c) := by
        show _ = _
        rw [hcc, lebytes_get s k hlt (by omega)]
        simp only [ht]
      have HGV := Lib.hid hgv
      have HVM := Lib.hid hvm
      clear hv hrow hK1 hK2 hmk hKI hidx hq hm ht hcc hgv hvm
      go_wp2_with fail
      have HF : Hid (bits BinOp.or IntKind.u32 (v : Int) (IntKind.u32.wrap ((c : Int) * 2 ^ (8 * (m : Int)).toNat)) = ((pk ((lebytes s).take k) (k / 4) + (lebytes s).getD k 0 * 256 ^ (k % 4) : Nat) : Int)) := by
        show _ = _
        rw [← HM.out, ← HQ.out, ← HGV.out, HCl.out]
        exact or_byte v c m hm4 hc8 HVM.out
      go_still_tail 23, (by kernel_rfl)
      change wpList _ _ _ _ _ wr.drew
      clear w1 w2 w3 w4 w5 w6 w7
      go_wp2_with fail
      go_roundw
      case measure => simp [intOf]; omega
      case rel =>
        refine ⟨k + 1, by omega, by go_num, HROW.out.drew.setI _ _ HF.out ?_, hbel.drew.setCell (by simp) _⟩
        rw [packs_take_succ, HQ.out]
    · obtain rfl : k = s.size := by omega
      have hrd := hrow.rd
      have hE : packs K ((lebytes s).take s.size) = limbs (snum s0) := by
        rw [List.take_of_length_le (by rw [lebytes_len]; omega)]
        exact HEND.out
      rw [hE] at hrd
      have hlen : K = (limbs (snum s0)).length := by rw [← hE, packs_len]
      have HRD := Lib.hid hrd
      have HLEN := Lib.hid hlen
      clear hrd hlen hmk hKI hE
      go_wp2_with fail
      go_ret
      refine ⟨some ⟨w1.heap.size, 0, none⟩, K, ?_, by rw [← HLEN.out]; omega, HRD.out, hbel⟩
      rw [← HLEN.out]; rfl

/-! ### text -/
theorem shr_byte (x m : Nat) (hm : m < 4) : (x : Int) / 2 ^ (8 * m) % 256 = ((x / 256 ^ m % 256 : Nat) : Int) := by
  have e2 : ((2 : Int) ^ (8 * m)) = ((256 ^ m : Nat) : Int) := by rw [← pow8]; simp
  rw [e2]
  omega

/-- the string of bytes that are numbers -/
def nstr (l : List Nat) : ByteArray := bstr (l.map UInt8.ofNat)
theorem nstr_size (l : List Nat) : (nstr l).size = l.length := by rw [nstr, bstr_size, List.length_map]
theorem map_ofNat (l : List Nat) (h : Byt l) : (l.map UInt8.ofNat).map UInt8.toNat = l := by
  rw [List.map_map]
  conv => rhs; rw [← List.map_id l]
  apply List.map_congr_left
  intro x hx
  have := h x hx
  simp [Nat.mod_eq_of_lt this]
theorem snum_nstr (l : List Nat) (h : Byt l) : snum (nstr l) = valB l.reverse := by
  show num (l.map UInt8.ofNat) = _
  rw [num, ← List.map_reverse, map_ofNat _ (fun x hx => h x (by simpa using hx))]

theorem conv_bytes {P : Program} (w : World) (B : Nat) (src dst e : TypeId) (A : Option Addr) (l : List Nat) (c : Nat) (hs : P.underlying src = some (.slice e)) (he : P.underlying e = some (.int .u8)) (hd : P.underlying dst = some .string)
    (h : KRd .u8 w B A l) (hb : Byt l) : (convert src dst (.slice A l.length c)).run P w = .ok (.string (nstr l)) w := by
  by_cases hl : 0 < l.length
  · obtain ⟨b, off, rfl, _, hc⟩ := h.open_ hl
    have := run_convert_bytes_back (P := P) w src dst e ⟨b, off, none⟩ c (l.map UInt8.ofNat) hs he hd (fun j hj => by
      have hj' : j < l.length := by simpa using hj
      rw [Addr.add_lit, hc j l[j] (List.getElem?_eq_getElem hj')]
      have := hb _ (List.getElem_mem hj')
      simp [Nat.mod_eq_of_lt this])
    rw [List.length_map] at this
    exact this
  · obtain rfl : l = [] := List.eq_nil_of_length_eq_zero (by omega)
    rcases A with _ | a
    · exact run_convert_bytes_nil w src e hs he _ _ dst hd
    · have := run_convert_bytes_back (P := P) w src dst e a c [] hs he hd (fun j hj => by simp at hj)
      exact this

theorem bytesL_byt (l : List Nat) : Byt (bytesL l) := by
  induction l with
  | nil => simp [bytesL, Byt]
  | cons x l ih =>
    intro y hy
    simp only [bytesL, List.mem_cons] at hy
    rcases hy with hy | hy | hy | hy | hy
    · omega
    · omega
    · omega
    · omega
    · exact ih y hy

theorem text_set (n i x : Nat) (R : List Nat) (hi : i < n) : (List.replicate (n - i) 0 ++ R).set (n - 1 - i) x = List.replicate (n - (i + 1)) 0 ++ x :: R := by
  have e1 : n - i = (n - (i + 1)) + 1 := by omega
  have e2 : n - 1 - i = (List.replicate (n - (i + 1)) 0).length := by simp; omega
  rw [e1, List.replicate_succ', List.append_assoc, e2, List.set_append_right _ _ (Nat.le_refl _)]
  simp

theorem take_rev_succ (l : List Nat) (i : Nat) (h : i < l.length) : (l.take (i + 1)).reverse = l.getD i 0 :: (l.take i).reverse := by
  rw [List.take_succ_eq_append_getElem h, List.reverse_append]
  simp [List.getD_eq_getElem?_getD, h]

set_option maxHeartbeats 1000000 in
set_option maxRecDepth 100000 in
theorem text_calls (A : Option Addr) (c : Nat) (l : List Nat) (w : World) (hr : KRd .u32 w w.heap.size A l) (hd : Dig l) (hc : l.length ≤ c) (hl : l.length ≤ 1000000000) :
    Calls Tryd.prog 74 #[.slice A l.length c] w fun e w' => e = .returned (.string (ncan (valL l))) ∧ Below w.heap.size w w' := by
  obtain ⟨K, hK⟩ : ∃ K : Nat, K = 4 * l.length := ⟨_, rfl⟩
  have hKI : (l.length : Int) * 4 = (K : Int) := by omega
  have hKb : K ≤ 4000000000 := by omega
  have hmk := run_make_row' (P := Tryd.prog) 22 5 (.int .u8 0) 1 Tryd.underlying22 Tryd.info_u8 rfl .i64 .i64 K (by omega) (by omega)
  have HKE := Lib.hid hK
  have HR := Lib.hid hr
  have HD := Lib.hid hd
  clear hr hd hK
  go_enter Tryd.func74, Tryd.ntmps74
  go_wp2_with fail
  go_loopw [11] (fun i wr => ∃ k : Nat, k ≤ K ∧ i = .int .i64 k ∧ KRow .u8 5 wr w.heap.size (List.replicate (K - k) 0 ++ ((bytesL l).take k).reverse) ∧ Below w.heap.size w wr) (fun i _ => K - (intOf i).toNat)
  case atStart => exact ⟨0, Nat.zero_le _, rfl, (KRow.made _ _ _ rfl).cast (by simp), (Below.refl _ _).alloc (Nat.le_refl _) _⟩
  case round =>
    obtain ⟨k, hk, rfl, hrow, hbel⟩ := hrel
    have hsz := hrow.lt
    by_cases hlt : k < K
    · have hf := hrow.frozen (K - 1 - k)
      have ho := hrow.getD (j := K - 1 - k) (by rw [List.length_append, List.length_replicate, List.length_reverse, List.length_take, bytesL_len]; have := HKE.out; omega)
      obtain ⟨old, hold⟩ : ∃ old : Nat, old = (List.replicate (K - k) 0 ++ ((bytesL l).take k).reverse).getD (K - 1 - k) 0 := ⟨_, rfl⟩
      rw [← hold] at ho
      obtain ⟨b, off, rfl, hb, hcell⟩ := (HR.out.below hbel).at_ (getElem?_getD (show k / 4 < l.length by have := HKE.out; omega))
      obtain ⟨x, hx⟩ : ∃ x, x = l.getD (k / 4) 0 := ⟨_, rfl⟩
      rw [← hx] at hcell
      obtain ⟨q, hq⟩ : ∃ q, q = k / 4 := ⟨_, rfl⟩
      obtain ⟨m, hm⟩ : ∃ m, m = k % 4 := ⟨_, rfl⟩
      obtain ⟨t, ht⟩ : ∃ t, t = K - 1 - k := ⟨_, rfl⟩
      have htl : t < K := by omega
      have hql : q < l.length := by have := HKE.out; omega
      have hm4 : m < 4 := by omega
      have w1 : IntKind.i64.wrap ((k : Int) / 4) = (q : Int) := by rw [IntWalk.i64_in _ (by omega)]; omega
      have w1' : (k : Int) / 4 = (q : Int) := by omega
      have w3 : (K : Int) - 1 - (k : Int) = (t : Int) := by omega
      have w4 : (k : Int) % 4 = (m : Int) := by omega
      have w8 := shr_byte x m hm4
      have HNEW : Hid ((List.replicate (K - k) 0 ++ ((bytesL l).take k).reverse).set t (x / 256 ^ m % 256) = List.replicate (K - (k + 1)) 0 ++ ((bytesL l).take (k + 1)).reverse) := by
        show _ = _
        rw [ht, text_set _ _ _ _ hlt, take_rev_succ _ _ (by rw [bytesL_len, ← HKE.out]; exact hlt), bytesL_get, hx, hm]
      rw [← hq] at hcell
      rw [← ht] at hf ho
      have HROW := Lib.hid hrow
      have HW8 := Lib.hid w8
      clear hrow hmk hKI hq hm ht hx w8 hold
      go_wp2_with fail
      go_roundw
      case measure => simp [intOf]; omega
      case rel => exact ⟨k + 1, by omega, by go_num, HROW.out.setI _ _ HW8.out HNEW.out, hbel.setCell (by simp) _⟩
    · obtain rfl : k = K := by omega
      have hE : List.replicate (k - k) 0 ++ ((bytesL l).take k).reverse = (bytesL l).reverse := by
        rw [Nat.sub_self, List.take_of_length_le (by rw [bytesL_len]; have := HKE.out; omega)]; rfl
      rw [hE] at hrow
      have hbyt : Byt (bytesL l).reverse := fun x hx => bytesL_byt l x (by simpa using hx)
      have hcv := conv_bytes (P := Tryd.prog) wr wr.heap.size 22 9 5 _ _ k Tryd.underlying22 Tryd.underlying5 Tryd.underlying9 hrow.rd hbyt
      rw [List.length_reverse, bytesL_len, ← HKE.out] at hcv
      have HS : Hid (snum (nstr (bytesL l).reverse) = valL l) := by
        show _ = _
        rw [snum_nstr _ hbyt, List.reverse_reverse, valB_bytesL _ HD.out]
      clear hrow hmk hKI hE hbyt
      go_wp2_with fail
      refine (normalize_calls _ _).mono ?_
      rintro e w1 ⟨rfl, rfl⟩
      go_wp2_with fail
      go_ret
      exact ⟨ret_str (by rw [HS.out]), hbel⟩

end Go.Proofs.YtcljkdjmmolfoaaDoor

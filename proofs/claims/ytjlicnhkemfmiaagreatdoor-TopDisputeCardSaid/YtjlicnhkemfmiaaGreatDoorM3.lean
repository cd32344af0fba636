/- Merged of Text Cmp. -/
import Derived.Test.YtjlicnhkemfmiaaGreatDoorM2
import Derived.OwnWalk
import Derived.Laws.BytesArg
import Derived.Laws.IdiomStrings
/- the definition's limbs; text of both. -/
set_option linter.unusedVariables false
set_option linter.unusedSimpArgs false
set_option maxHeartbeats 8000000
set_option maxRecDepth 100000
namespace Go.Proofs.YtjlicnhkemfmiaaGreatDoor
open Go.RowKit

theorem canon_num_len (l : List UInt8) : (canon (num l)).length ≤ l.length := by
 rw [← dropZero_eq]; exact (List.dropWhile_sublist _).length_le
theorem ncan_size (n : Nat) : (ncan n).size = (canon n).length := bstr_size _
theorem ncan_snum_size (s : ByteArray) : (ncan (snum s)).size ≤ s.size := by
 rw [ncan_size, Lib.size_eq]; exact canon_num_len _

theorem pow_le_canon {n : Nat} (h : n ≠ 0) : 256 ^ ((canon n).length - 1) ≤ n := by
 rcases Nat.lt_or_ge n (256 ^ ((canon n).length - 1)) with h1 | h1
 ·
  have h2 := canon_len_le h1
  have h3 : 0 < (canon n).length := List.length_pos_iff.2 (canon_head h)
  omega
 ·
  exact h1

theorem limbs_len_canon (n : Nat) : (limbs n).length = ((canon n).length + 3) / 4 := by
 by_cases h : n = 0
 ·
  subst h; rw [limbs_zero, canon_zero]; rfl
 ·
  have hc : 0 < (canon n).length := List.length_pos_iff.2 (canon_head h)
  apply Nat.le_antisymm
  ·
   apply limbs_len_le
   have h1 := num_lt (canon n)
   rw [num_canon] at h1
   refine Nat.lt_of_lt_of_le h1 ?_
   have e : (4294967296 : Nat) = 256 ^ 4 := by decide
   rw [e, ← Nat.pow_mul]
   exact Nat.pow_le_pow_right (by omega) (by omega)
  ·
   rcases Nat.lt_or_ge (limbs n).length (((canon n).length + 3) / 4) with h1 | h1
   ·
    exfalso
    have h2 := lt_pow_limbs n
    have h3 := pow_le_canon h
    have e : (4294967296 : Nat) = 256 ^ 4 := by decide
    rw [e, ← Nat.pow_mul] at h2
    have h4 : 256 ^ (4 * (limbs n).length) ≤ 256 ^ ((canon n).length - 1) := Nat.pow_le_pow_right (by omega) (by omega)
    omega
   ·
    exact h1

theorem packs_limbs (n : Nat) : packs (((ncan n).size + 3) / 4) (lebytes (ncan n)) = limbs n := by
 rw [ncan_size]
 apply valL_inj _ _ (by rw [packs_len, limbs_len_canon]) (packs_dig (lebytes_byt _) _) (limbs_dig _)
 rw [valL_packs _ _ (by rw [lebytes_len, ncan_size]; omega), valL_limbs]
 exact snum_ncan n

theorem limbsRef_calls (s0 : ByteArray) (w : World) (hs0 : s0.size ≤ 1000000000) :
 Calls Tryz.prog 113 #[.string s0] w fun e w' => ∃ A c, e = .returned (.slice A (limbs (snum s0)).length c) ∧ (limbs (snum s0)).length ≤ c ∧ KRd .u32 w' w'.heap.size A (limbs (snum s0)) ∧ Below w.heap.size w w' := by
 have hs : (ncan (snum s0)).size ≤ 1000000000 := Nat.le_trans (ncan_snum_size s0) hs0
 have HN := normRef_calls s0 w (by omega)
 have HEND := Lib.hid (packs_limbs (snum s0))
 obtain ⟨s, hss⟩ : ∃ s, s = ncan (snum s0) := ⟨_, rfl⟩
 rw [← hss] at HN hs HEND
 have HSS := Lib.hid hss
 clear hss
 obtain ⟨K, hK⟩ : ∃ K : Nat, K = (s.size + 3) / 4 := ⟨_, rfl⟩
 rw [← hK] at HEND
 have hK1 : s.size ≤ 4 * K := by omega
 have hK2 : 4 * K ≤ s.size + 3 := by omega
 have hKI : ((s.size : Int) + 3) / 4 = (K : Int) := by omega
 have hmk := run_make_row' (P := Tryz.prog) 149 152 (.int .u32 0) 4 Tryz.underlying149 Tryz.info_u32 rfl .i64 .i64 K (by omega) (by omega)
 have HNN := Lib.hid HN
 clear hK HN
 go_enter Tryz.func113, Tryz.ntmps113
 go_wp2_with fail
 refine HNN.out.mono ?_
 rintro e w1 ⟨rfl, rfl⟩
 go_wp2_with fail
 go_loopw [4] (fun i wr => ∃ k : Nat, k ≤ s.size ∧ i = .int .i64 k ∧ KRow .u32 152 wr w1.heap.size (packs K ((lebytes s).take k)) ∧ Below w1.heap.size w1 wr) (fun i _ => s.size - (intOf i).toNat)
 case atStart => exact ⟨0, Nat.zero_le _, rfl, (KRow.made _ _ _ rfl).cast (by rw [List.take_zero]; exact (packs_nil K).symm), (Below.refl _ _).alloc (Nat.le_refl _) _⟩
 case round =>
  obtain ⟨k, hk, rfl, hrow, hbel⟩ := hrel
  by_cases hlt : k < s.size
  ·
   have hidx : s.size - 1 - k < s.size := by omega
   have hc := hrow.getD (j := k / 4) (by rw [packs_len]; omega)
   have hf := hrow.frozen (k / 4)
   have hsz := hrow.lt
   obtain ⟨v, hv⟩ : ∃ v, v = (packs K ((lebytes s).take k)).getD (k / 4) 0 := ⟨_, rfl⟩
   rw [← hv] at hc
   have HV := Lib.hid hv
   have HROW := Lib.hid hrow
   obtain ⟨q, hq⟩ : ∃ q, q = k / 4 := ⟨_, rfl⟩
   obtain ⟨m, hm⟩ : ∃ m, m = k % 4 := ⟨_, rfl⟩
   obtain ⟨t, ht⟩ : ∃ t, t = s.size - 1 - k := ⟨_, rfl⟩
   have htl : t < s.size := by omega
   have hqK : q < K := by omega
   have hm4 : m < 4 := by omega
   have w1 : IntKind.i64.wrap ((k : Int) / 4) = (q : Int) := by rw [IntWalk.i64_in _ (by omega)]; omega
   have w2 : IntKind.i64.wrap ((s.size : Int) - 1) = (s.size : Int) - 1 := IntWalk.i64_in _ (by omega)
   have w3 : IntKind.i64.wrap ((s.size : Int) - 1 - (k : Int)) = (t : Int) := by rw [IntWalk.i64_in _ (by omega)]; omega
   have w4 : (k : Int).tmod 4 = (m : Int) := by rw [Int.tmod_eq_emod_of_nonneg (by omega)]; omega
   have w7 : IntKind.u64.wrap (8 * (m : Int)) = 8 * (m : Int) := IntWalk.u64_in _ (by omega)
   obtain ⟨c, hcc⟩ : ∃ c : Nat, c = s[t].toNat := ⟨_, rfl⟩
   have hc8 : c < 256 := by rw [hcc]; exact s[t].toNat_lt
   have w6 : IntKind.u32.wrap (s[t].toNat : Int) = (c : Int) := by rw [← hcc]; exact IntWalk.u32_in _ (by omega)
   have w5 : IntKind.i64.wrap (8 * (m : Int)) = 8 * (m : Int) := IntWalk.i64_in _ (by omega)
   rw [← hq] at hc hf
   have HC := Lib.hid hcc
   have HQ := Lib.hid hq
   have HM := Lib.hid hm
   have hgv : v = pk ((lebytes s).take k) q := by rw [HV.out, packs_get (by omega), hq]
   have hvm : v < 256 ^ m := by rw [hgv, hq, hm]; exact pk_take_lt (lebytes_byt s) k
   have HCl : Hid ((lebytes s).getD k 0 = c) := by
    show _ = _
    rw [hcc, lebytes_get s k hlt (by omega)]
    simp only [ht]
   have HGV := Lib.hid hgv
   have HVM := Lib.hid hvm
   clear hv hrow hK1 hK2 hmk hKI hidx hq hm ht hcc hgv hvm
   go_wp2_with fail
   have HF : Hid (bits BinOp.or IntKind.u32 (v : Int) (IntKind.u32.wrap ((c : Int) * 2 ^ (8 * (m : Int)).toNat)) = ((pk ((lebytes s).take k) (k / 4) + (lebytes s).getD k 0 * 256 ^ (k % 4) : Nat) : Int)) := by
    show _ = _
    rw [← HM.out, ← HQ.out, ← HGV.out, HCl.out]
    exact or_byte v c m hm4 hc8 HVM.out
   go_still_tail 23, (by kernel_rfl)
   change wpList _ _ _ _ _ wr.drew
   clear w1 w2 w3 w4 w5 w6 w7
   go_wp2_with fail
   go_roundw
   case measure => simp [intOf]; omega
   case rel =>
    refine ⟨k + 1, by omega, by go_num, HROW.out.drew.setI _ _ HF.out ?_, hbel.drew.setCell (by simp) _⟩
    rw [packs_take_succ, HQ.out]
  ·
   obtain rfl : k = s.size := by omega
   have hrd := hrow.rd
   have hE : packs K ((lebytes s).take s.size) = limbs (snum s0) := by
    rw [List.take_of_length_le (by rw [lebytes_len]; omega)]
    exact HEND.out
   rw [hE] at hrd
   have hlen : K = (limbs (snum s0)).length := by rw [← hE, packs_len]
   have HRD := Lib.hid hrd
   have HLEN := Lib.hid hlen
   clear hrd hlen hmk hKI hE
   go_wp2_with fail
   go_ret
   refine ⟨some ⟨w1.heap.size, 0, none⟩, K, ?_, by rw [← HLEN.out]; omega, HRD.out, hbel⟩
   rw [← HLEN.out]; rfl

/-! ### text -/
theorem shr_byte (x m : Nat) (hm : m < 4) : (x : Int) / 2 ^ (8 * m) % 256 = ((x / 256 ^ m % 256 : Nat) : Int) := by
 have e2 : ((2 : Int) ^ (8 * m)) = ((256 ^ m : Nat) : Int) := by rw [← pow8]; simp
 rw [e2]
 omega

/-- the string of bytes that are numbers -/
def nstr (l : List Nat) : ByteArray := bstr (l.map UInt8.ofNat)
theorem nstr_size (l : List Nat) : (nstr l).size = l.length := by rw [nstr, bstr_size, List.length_map]
theorem map_ofNat (l : List Nat) (h : Byt l) : (l.map UInt8.ofNat).map UInt8.toNat = l := by
 rw [List.map_map]
 conv => rhs; rw [← List.map_id l]
 apply List.map_congr_left
 intro x hx
 have := h x hx
 simp [Nat.mod_eq_of_lt this]
theorem snum_nstr (l : List Nat) (h : Byt l) : snum (nstr l) = valB l.reverse := by
 show num (l.map UInt8.ofNat) = _
 rw [num, ← List.map_reverse, map_ofNat _ (fun x hx => h x (by simpa using hx))]

theorem conv_bytes {P : Program} (w : World) (B : Nat) (src dst e : TypeId) (A : Option Addr) (l : List Nat) (c : Nat) (hs : P.underlying src = some (.slice e)) (he : P.underlying e = some (.int .u8)) (hd : P.underlying dst = some .string)
 (h : KRd .u8 w B A l) (hb : Byt l) : (convert src dst (.slice A l.length c)).run P w = .ok (.string (nstr l)) w := by
 by_cases hl : 0 < l.length
 ·
  obtain ⟨b, off, rfl, _, hc⟩ := h.open_ hl
  have := run_convert_bytes_back (P := P) w src dst e ⟨b, off, none⟩ c (l.map UInt8.ofNat) hs he hd (fun j hj => by
   have hj' : j < l.length := by simpa using hj
   rw [Addr.add_lit, hc j l[j] (List.getElem?_eq_getElem hj')]
   have := hb _ (List.getElem_mem hj')
   simp [Nat.mod_eq_of_lt this])
  rw [List.length_map] at this
  exact this
 ·
  obtain rfl : l = [] := List.eq_nil_of_length_eq_zero (by omega)
  rcases A with _ | a
  ·
   exact run_convert_bytes_nil w src e hs he _ _ dst hd
  ·
   have := run_convert_bytes_back (P := P) w src dst e a c [] hs he hd (fun j hj => by simp at hj)
   exact this

theorem bytesL_byt (l : List Nat) : Byt (bytesL l) := by
 induction l with
 | nil => simp [bytesL, Byt]
 | cons x l ih =>
  intro y hy
  simp only [bytesL, List.mem_cons] at hy
  rcases hy with hy | hy | hy | hy | hy
  ·
   omega
  ·
   omega
  ·
   omega
  ·
   omega
  ·
   exact ih y hy

theorem text_set (n i x : Nat) (R : List Nat) (hi : i < n) : (List.replicate (n - i) 0 ++ R).set (n - 1 - i) x = List.replicate (n - (i + 1)) 0 ++ x :: R := by
 have e1 : n - i = (n - (i + 1)) + 1 := by omega
 have e2 : n - 1 - i = (List.replicate (n - (i + 1)) 0).length := by simp; omega
 rw [e1, List.replicate_succ', List.append_assoc, e2, List.set_append_right _ _ (Nat.le_refl _)]
 simp

theorem take_rev_succ (l : List Nat) (i : Nat) (h : i < l.length) : (l.take (i + 1)).reverse = l.getD i 0 :: (l.take i).reverse := by
 rw [List.take_succ_eq_append_getElem h, List.reverse_append]
 simp [List.getD_eq_getElem?_getD, h]

theorem text_calls (A : Option Addr) (c : Nat) (l : List Nat) (w : World) (hr : KRd .u32 w w.heap.size A l) (hd : Dig l) (hc : l.length ≤ c) (hl : l.length ≤ 1000000000) :
 Calls Tryz.prog 77 #[.slice A l.length c] w fun e w' => e = .returned (.string (ncan (valL l))) ∧ Below w.heap.size w w' := by
 obtain ⟨K, hK⟩ : ∃ K : Nat, K = 4 * l.length := ⟨_, rfl⟩
 have hKI : (l.length : Int) * 4 = (K : Int) := by omega
 have hKb : K ≤ 4000000000 := by omega
 have hmk := run_make_row' (P := Tryz.prog) 190 5 (.int .u8 0) 1 Tryz.underlying190 Tryz.info_u8 rfl .i64 .i64 K (by omega) (by omega)
 have HKE := Lib.hid hK
 have HR := Lib.hid hr
 have HD := Lib.hid hd
 clear hr hd hK
 go_enter Tryz.func77, Tryz.ntmps77
 go_wp2_with fail
 go_loopw [11] (fun i wr => ∃ k : Nat, k ≤ K ∧ i = .int .i64 k ∧ KRow .u8 5 wr w.heap.size (List.replicate (K - k) 0 ++ ((bytesL l).take k).reverse) ∧ Below w.heap.size w wr) (fun i _ => K - (intOf i).toNat)
 case atStart => exact ⟨0, Nat.zero_le _, rfl, (KRow.made _ _ _ rfl).cast (by simp), (Below.refl _ _).alloc (Nat.le_refl _) _⟩
 case round =>
  obtain ⟨k, hk, rfl, hrow, hbel⟩ := hrel
  have hsz := hrow.lt
  by_cases hlt : k < K
  ·
   have hf := hrow.frozen (K - 1 - k)
   have ho := hrow.getD (j := K - 1 - k) (by rw [List.length_append, List.length_replicate, List.length_reverse, List.length_take, bytesL_len]; have := HKE.out; omega)
   obtain ⟨old, hold⟩ : ∃ old : Nat, old = (List.replicate (K - k) 0 ++ ((bytesL l).take k).reverse).getD (K - 1 - k) 0 := ⟨_, rfl⟩
   rw [← hold] at ho
   obtain ⟨b, off, rfl, hb, hcell⟩ := (HR.out.below hbel).at_ (getElem?_getD (show k / 4 < l.length by have := HKE.out; omega))
   obtain ⟨x, hx⟩ : ∃ x, x = l.getD (k / 4) 0 := ⟨_, rfl⟩
   rw [← hx] at hcell
   obtain ⟨q, hq⟩ : ∃ q, q = k / 4 := ⟨_, rfl⟩
   obtain ⟨m, hm⟩ : ∃ m, m = k % 4 := ⟨_, rfl⟩
   obtain ⟨t, ht⟩ : ∃ t, t = K - 1 - k := ⟨_, rfl⟩
   have htl : t < K := by omega
   have hql : q < l.length := by have := HKE.out; omega
   have hm4 : m < 4 := by omega
   have w1 : IntKind.i64.wrap ((k : Int) / 4) = (q : Int) := by rw [IntWalk.i64_in _ (by omega)]; omega
   have w1' : (k : Int) / 4 = (q : Int) := by omega
   have w3 : (K : Int) - 1 - (k : Int) = (t : Int) := by omega
   have w4 : (k : Int) % 4 = (m : Int) := by omega
   have w8 := shr_byte x m hm4
   have HNEW : Hid ((List.replicate (K - k) 0 ++ ((bytesL l).take k).reverse).set t (x / 256 ^ m % 256) = List.replicate (K - (k + 1)) 0 ++ ((bytesL l).take (k + 1)).reverse) := by
    show _ = _
    rw [ht, text_set _ _ _ _ hlt, take_rev_succ _ _ (by rw [bytesL_len, ← HKE.out]; exact hlt), bytesL_get, hx, hm]
   rw [← hq] at hcell
   rw [← ht] at hf ho
   have HROW := Lib.hid hrow
   have HW8 := Lib.hid w8
   clear hrow hmk hKI hq hm ht hx w8 hold
   go_wp2_with fail
   go_roundw
   case measure => simp [intOf]; omega
   case rel => exact ⟨k + 1, by omega, by go_num, HROW.out.setI _ _ HW8.out HNEW.out, hbel.setCell (by simp) _⟩
  ·
   obtain rfl : k = K := by omega
   have hE : List.replicate (k - k) 0 ++ ((bytesL l).take k).reverse = (bytesL l).reverse := by
    rw [Nat.sub_self, List.take_of_length_le (by rw [bytesL_len]; have := HKE.out; omega)]; rfl
   rw [hE] at hrow
   have hbyt : Byt (bytesL l).reverse := fun x hx => bytesL_byt l x (by simpa using hx)
   have hcv := conv_bytes (P := Tryz.prog) wr wr.heap.size 190 9 5 _ _ k Tryz.underlying190 Tryz.underlying5 Tryz.underlying9 hrow.rd hbyt
   rw [List.length_reverse, bytesL_len, ← HKE.out] at hcv
   have HS : Hid (snum (nstr (bytesL l).reverse) = valL l) := by
    show _ = _
    rw [snum_nstr _ hbyt, List.reverse_reverse, valB_bytesL _ HD.out]
   clear hrow hmk hKI hE hbyt
   go_wp2_with fail
   refine (normalize_calls _ _).mono ?_
   rintro e w1 ⟨rfl, rfl⟩
   go_wp2_with fail
   go_ret
   exact ⟨ret_str (by rw [HS.out]), hbel⟩

end Go.Proofs.YtjlicnhkemfmiaaGreatDoor

/- the definition's text; compare, order, sign. -/
namespace Go.Proofs.YtjlicnhkemfmiaaGreatDoor
open Go.RowKit

/-- the four bytes of a digit, the greatest first -/
def be4 (x : Nat) : List Nat := [x / 16777216 % 256, x / 65536 % 256, x / 256 % 256, x % 256]
theorem bytesL_drop_rev (l : List Nat) (k : Nat) (h : k < l.length) : (bytesL (l.drop k)).reverse = (bytesL (l.drop (k + 1))).reverse ++ be4 (l.getD k 0) := by
 rw [List.drop_eq_getElem_cons h, bytesL]
 have : l.getD k 0 = l[k] := by simp [List.getD_eq_getElem?_getD, h]
 rw [this]
 simp [be4]

theorem rd_new_cells (w : World) (cs : List Value) (t : TypeId) (N : Nat) (hN : N = w.heap.size) : ∀ (j : Nat) (u : Value), cs[j]? = some u → (w.alloc (.cells cs.toArray t)).cell? ((⟨N, 0, none⟩ : Addr).add j) = some u := by
 intro j u hu
 subst hN
 rw [Addr.add_lit, cell_of_row _ _ _ cs.toArray t (0, 0) (heap_alloc_new w _)]
 simpa using hu

theorem textRef_calls (A : Option Addr) (c : Nat) (l0 : List Nat) (w : World) (hr : KRd .u32 w w.heap.size A l0) (hd : Dig l0) (hc0 : l0.length ≤ c) (hl0 : l0.length ≤ 1000000000) :
 Calls Tryz.prog 115 #[.slice A l0.length c] w fun e w' => e = .returned (.string (ncan (valL l0))) ∧ Below w.heap.size w w' := by
 obtain ⟨i0, hi, hz0, hz1, hz2⟩ := info_parts Tryz.info_u8
 have HST := Lib.hid (strip_calls A c l0 w hr hd hc0 hl0)
 have hr1 := hr.limbs hd rfl
 obtain ⟨l, hl⟩ : ∃ l, l = limbs (valL l0) := ⟨_, rfl⟩
 rw [← hl] at HST hr1
 have hlen : l.length ≤ 1000000000 := by rw [hl]; exact Nat.le_trans (take_limbs hd).2 hl0
 have hdl : Dig l := by rw [hl]; exact limbs_dig _
 have HR := Lib.hid hr1
 have HD := Lib.hid hdl
 have HV : Hid (valL l = valL l0) := by show _ = _; rw [hl, valL_limbs]
 have HI : Hid (Tryz.prog.info? 5 = some i0 ∧ i0.zero = some (.int .u8 0) ∧ i0.size = 1 ∧ i0.bytes = 1) := ⟨hi, hz0, hz1, hz2⟩
 clear hr hr1 hd hdl hl hi hz0 hz1 hz2
 go_enter Tryz.func115, Tryz.ntmps115
 go_wp2_with fail
 refine HST.out.mono ?_
 rintro e w1 ⟨rfl, rfl⟩
 go_wp2_with (at_make; refine wpList_make_own _ rfl _ _ 190 rfl w1.heap.size 5 i0 (.int .u8 0) 1 Tryz.underlying190 HI.out.1 HI.out.2.1 HI.out.2.2.1 .i64 .i64 _ (4 * l.length) rfl rfl (by omega) (by rw [HI.out.2.2.2]; omega) (by unfold maxLen; omega) (Nat.le_refl _) ?_; intro w2 hown hgrow)
 have hb0 : Below w1.heap.size w1 w2 := Below.grown (Below.refl _ _) hgrow (Nat.le_refl _) (by simp)
 clear hgrow
 go_loopw [3, 4] (fun o i wr => ∃ k : Nat, k ≤ l.length ∧ i = .int .i64 ((k : Int) - 1) ∧ wr.ownsRow w1.heap.size 5 1 o (4 * (l.length - k)) ((bytesL (l.drop k)).reverse.map (fun (x : Nat) => Value.int .u8 (x : Int))) ∧ Below w1.heap.size w1 wr) (fun _ i _ => (intOf i + 1).toNat)
 case atStart => exact ⟨l.length, Nat.le_refl _, rfl, by rw [List.drop_length, Nat.sub_self]; exact hown, hb0⟩
 case round =>
  clear hown hb0
  obtain ⟨k, hk, rfl, hown, hbel⟩ := hrel
  obtain ⟨A', c', hv, hrd, hle⟩ := own_shape hown
  subst hv
  by_cases h0 : k = 0
  ·
   subst h0
   have hbyt : Byt (bytesL l).reverse := fun x hx => bytesL_byt l x (by simpa using hx)
   rw [List.drop_zero, Nat.sub_zero] at hown
   have hcv := conv_bytes (P := Tryz.prog) wr wr.heap.size 190 9 5 _ _ c' Tryz.underlying190 Tryz.underlying5 Tryz.underlying9 (KRd.of_own hown) hbyt
   rw [List.length_reverse, bytesL_len] at hcv
   have HS : Hid (snum (nstr (bytesL l).reverse) = valL l0) := by
    show _ = _
    rw [snum_nstr _ hbyt, List.reverse_reverse, valB_bytesL _ HD.out, HV.out]
   have HSZ : (nstr (bytesL l).reverse).size ≤ 9223372036854775807 := by rw [nstr_size, List.length_reverse, bytesL_len]; omega
   have HSS := Lib.hid HSZ
   have HB := Lib.hid hbyt
   clear hown hrd hbyt HSZ
   go_wp2_with fail
   refine (normRef_calls _ _ HSS.out).mono ?_
   rintro e w3 ⟨rfl, rfl⟩
   go_wp2_with fail
   go_ret
   exact ⟨ret_str (by rw [HS.out]), hbel⟩
  ·
   obtain ⟨j, rfl⟩ : ∃ j, k = j + 1 := ⟨k - 1, by omega⟩
   have hjl : j < l.length := by omega
   obtain ⟨b, off, rfl, hb, hcell⟩ := (HR.out.below hbel).at_ (getElem?_getD hjl)
   have HNX := Lib.hid (bytesL_drop_rev l j hjl)
   obtain ⟨x, hx⟩ : ∃ x, x = l.getD j 0 := ⟨_, rfl⟩
   rw [← hx] at hcell HNX
   have hji : ((j + 1 : Nat) : Int) - 1 = (j : Int) := by omega
   have hsz := hbel.size
   clear h0 hx hrd
   go_wp2_with (at_builtin; refine wpList_append_own _ rfl (.tmp 23) (.tmp 35) 190 rfl w1.heap.size 5 i0 (.int .u8 0) 1 1 Tryz.underlying190 HI.out.1 HI.out.2.1 HI.out.2.2.1 HI.out.2.2.2 rfl (by decide) _ _ _ rfl (by exact hown.alloc _) _ 4 4 _ rfl rfl (rd_new_cells _ _ _ _ (by simp)) (by simp [Value.oneCell']) (by simp only [maxLen]; omega) (by omega) (by simp <;> omega) ?_)
   intro v' w2 hown' hg _
   have hb1 : Below w1.heap.size w1 w2 := Below.grown (hbel.alloc hsz _) hg (by simp <;> omega) (fun q hq => (hown.lt q hq).1)
   have h2 : w2.ownsRow w1.heap.size 5 1 v' (4 * (l.length - j)) ((bytesL (l.drop j)).reverse.map (fun (x : Nat) => Value.int .u8 (x : Int))) := by
    have e : 4 * (l.length - j) = 4 * (l.length - (j + 1)) + 4 := by omega
    rw [HNX.out, e]
    simpa [be4, List.map_reverse] using hown'
   have H2 := Lib.hid h2
   clear hown' hg hown h2 hcell hbel hji
   go_wp2_with fail
   go_roundw
   case measure => simp [intOf] <;> omega
   case rel => exact ⟨j, by omega, by go_num, H2.out, hb1⟩

def sgn (n : Int) : Int := if n < 0 then -1 else if 0 < n then 1 else 0

theorem sign_calls (n : Int) (w : World) : Calls Tryz.prog 74 #[.int .i64 n] w fun e w' => e = .returned (.int .i64 (sgn n)) ∧ w' = w := by
 rcases Int.lt_trichotomy n 0 with h | h | h
 ·
  have HE : Hid (sgn n = -1) := if_pos h
  go_enter Tryz.func74, Tryz.ntmps74
  go_wp2_with fail
  go_ret
  exact ⟨ret_int HE.out.symm, rfl⟩
 ·
  have HE : Hid (sgn n = 0) := by show sgn n = 0; unfold sgn; rw [if_neg (by omega), if_neg (by omega)]
  have h1 : ¬ n < 0 := by omega
  have h2 : ¬ 0 < n := by omega
  clear h
  go_enter Tryz.func74, Tryz.ntmps74
  go_wp2_with fail
  go_ret
  exact ⟨ret_int HE.out.symm, rfl⟩
 ·
  have HE : Hid (sgn n = 1) := by show sgn n = 1; unfold sgn; rw [if_neg (by omega), if_pos h]
  have h1 : ¬ n < 0 := by omega
  go_enter Tryz.func74, Tryz.ntmps74
  go_wp2_with fail
  go_ret
  exact ⟨ret_int HE.out.symm, rfl⟩

/-- the order of two numbers -/
def cmpN (a b : Nat) : Int := if a < b then -1 else if b < a then 1 else 0

theorem cmpN_len {a b : Nat} (h : (limbs a).length < (limbs b).length) : cmpN a b = -1 ∧ cmpN b a = 1 := by
 have := lt_of_len h
 unfold cmpN
 exact ⟨by rw [if_pos this], by rw [if_neg (by omega), if_pos this]⟩

theorem cmpN_at {a b k : Nat} (hl : (limbs a).length = (limbs b).length) (hk : k < (limbs a).length) (hd : (limbs a).drop (k + 1) = (limbs b).drop (k + 1)) : ((limbs a).getD k 0 < (limbs b).getD k 0 → cmpN a b = -1) ∧ ((limbs b).getD k 0 < (limbs a).getD k 0 → cmpN a b = 1) := by
 refine ⟨fun h => ?_, fun h => ?_⟩
 ·
  have := valL_lt_of hl (limbs_dig a) hk hd h
  rw [valL_limbs, valL_limbs] at this
  unfold cmpN; rw [if_pos this]
 ·
  have := valL_lt_of hl.symm (limbs_dig b) (by omega) hd.symm h
  rw [valL_limbs, valL_limbs] at this
  unfold cmpN; rw [if_neg (by omega), if_pos this]

theorem drop_step {a b : List Nat} {k : Nat} (hl : a.length = b.length) (hk : k < a.length) (hd : a.drop (k + 1) = b.drop (k + 1)) (h : a.getD k 0 = b.getD k 0) : a.drop k = b.drop k := by
 rw [List.drop_eq_getElem_cons hk, List.drop_eq_getElem_cons (hl ▸ hk : k < b.length), hd]
 simp only [List.getD_eq_getElem?_getD, List.getElem?_eq_getElem hk, List.getElem?_eq_getElem (hl ▸ hk : k < b.length), Option.getD_some] at h
 rw [h]

theorem cmpN_eq {a b : Nat} (h : (limbs a).drop 0 = (limbs b).drop 0) : cmpN a b = 0 := by
 have : a = b := by rw [← valL_limbs a, ← valL_limbs b]; simpa using congrArg valL h
 subst this; unfold cmpN; rw [if_neg (by omega), if_neg (by omega)]

theorem sgn_neg {n : Int} (h : n < 0) : sgn n = -1 := if_pos h
theorem sgn_pos {n : Int} (h : 0 < n) : sgn n = 1 := by unfold sgn; rw [if_neg (by omega), if_pos h]

theorem compare_calls (A A1 : Option Addr) (c c1 a b : Nat) (w : World) (hra : KRd .u32 w w.heap.size A (limbs a)) (hrb : KRd .u32 w w.heap.size A1 (limbs b)) (hla : (limbs a).length ≤ 1000000000) (hlb : (limbs b).length ≤ 1000000000) :
 Calls Tryz.prog 94 #[.slice A (limbs a).length c, .slice A1 (limbs b).length c1] w fun e w' => e = .returned (.int .i64 (cmpN a b)) ∧ Below w.heap.size w w' := by
 by_cases hlen : (limbs a).length = (limbs b).length
 ·
  obtain ⟨L, hL⟩ : ∃ L, L = (limbs a).length := ⟨_, rfl⟩
  have hLb : (limbs b).length = L := by omega
  rw [hLb, ← hL]
  have hne : ((L : Int) != (L : Int)) = false := by simp
  have HL := Lib.hid hL
  have HLB := Lib.hid hLb
  have hLm : L ≤ 1000000000 := by omega
  have HA := Lib.hid hra
  have HB := Lib.hid hrb
  have HLEN := Lib.hid hlen
  clear hL hLb hra hrb hla hlb hlen
  go_enter Tryz.func94, Tryz.ntmps94
  go_wp2_with fail
  go_loopw [5] (fun i wr => ∃ k : Nat, k ≤ L ∧ i = .int .i64 ((k : Int) - 1) ∧ Hid ((limbs a).drop k = (limbs b).drop k) ∧ Below w.heap.size w wr) (fun i _ => (intOf i + 1).toNat)
  case atStart => exact ⟨L, Nat.le_refl _, rfl, by show _ = _; rw [List.drop_of_length_le (by rw [HL.out]; omega), List.drop_of_length_le (by rw [HLB.out]; omega)], Below.refl _ _⟩
  case round =>
   obtain ⟨k, hk, rfl, HD, hbel⟩ := hrel
   by_cases h0 : k = 0
   ·
    subst h0
    have HE := Lib.hid (cmpN_eq HD.out)
    go_wp2_with fail
    go_ret
    exact ⟨ret_int HE.out.symm, hbel⟩
   ·
    obtain ⟨j, rfl⟩ : ∃ j, k = j + 1 := ⟨k - 1, by omega⟩
    have hjl : j < L := by omega
    obtain ⟨ba, offa, rfl, hba, hca⟩ := (HA.out.below hbel).at_ (getElem?_getD (show j < (limbs a).length by rw [← HL.out]; exact hjl))
    obtain ⟨bb, offb, rfl, hbb, hcb⟩ := (HB.out.below hbel).at_ (getElem?_getD (show j < (limbs b).length by rw [HLB.out]; exact hjl))
    have HC := Lib.hid (cmpN_at HLEN.out (show j < (limbs a).length by rw [← HL.out]; exact hjl) HD.out)
    have HDS := Lib.hid (fun h => drop_step HLEN.out (show j < (limbs a).length by rw [← HL.out]; exact hjl) HD.out h)
    obtain ⟨x, hx⟩ : ∃ x, x = (limbs a).getD j 0 := ⟨_, rfl⟩
    obtain ⟨y, hy⟩ : ∃ y, y = (limbs b).getD j 0 := ⟨_, rfl⟩
    rw [← hx] at hca HC HDS
    rw [← hy] at hcb HC HDS
    have hji : ((j + 1 : Nat) : Int) - 1 = (j : Int) := by omega
    have hji2 : ((j : Int) + 1) - 1 = (j : Int) := by omega
    clear h0 hx hy HD
    by_cases hxy : x = y
    ·
     have HD2 : Hid ((limbs a).drop j = (limbs b).drop j) := HDS.out hxy
     have hne2 : ((x : Int) != (y : Int)) = false := by simp [hxy]
     clear hxy
     go_wp2_with fail
     go_quiet (fail)
     go_wp2_with fail
     go_roundw
     case measure => simp [intOf] <;> omega
     case rel => exact ⟨j, by omega, by go_num, HD2, hbel.drewN _⟩
    ·
     have hne2 : ((x : Int) != (y : Int)) = true := by simp; omega
     rcases Nat.lt_or_ge x y with hlt | hge
     ·
      have HE := Lib.hid (HC.out.1 hlt)
      clear hxy
      go_wp2_with fail
      go_quiet (fail)
      go_wp2_with fail
      go_quiet (fail)
      go_wp2_with fail
      go_ret
      exact ⟨ret_int HE.out.symm, (hbel.drewN _).drewN _⟩
     ·
      have hgt : ¬ (x : Int) < (y : Int) := by omega
      have HE := Lib.hid (HC.out.2 (by omega))
      clear hxy hge
      go_wp2_with fail
      go_quiet (fail)
      go_wp2_with fail
      go_quiet (fail)
      go_wp2_with fail
      go_ret
      exact ⟨ret_int HE.out.symm, (hbel.drewN _).drewN _⟩
 ·
  have hne : (((limbs a).length : Int) != ((limbs b).length : Int)) = true := by simp; omega
  have HE : Hid (sgn (((limbs a).length : Int) - ((limbs b).length : Int)) = cmpN a b) := by
   show _ = _
   rcases Nat.lt_or_ge (limbs a).length (limbs b).length with h | h
   ·
    rw [sgn_neg (by omega), (cmpN_len h).1]
   ·
    rw [sgn_pos (by omega), (cmpN_len (a := b) (b := a) (by omega)).2]
  have HL := Lib.hid hlen
  clear hra hrb hlen
  go_enter Tryz.func94, Tryz.ntmps94
  go_wp2_with (go_at_call 74; refine (sign_calls _ _).mono ?_; rintro e w1 ⟨rfl, rfl⟩)
  go_ret
  exact ⟨ret_int HE.out, Below.refl _ _⟩

theorem order_calls (A A1 : Option Addr) (c c1 a b : Nat) (w : World) (hra : KRd .u32 w w.heap.size A (limbs a)) (hrb : KRd .u32 w w.heap.size A1 (limbs b)) (hla : (limbs a).length ≤ 1000000000) (hlb : (limbs b).length ≤ 1000000000) :
 Calls Tryz.prog 165 #[.slice A (limbs a).length c, .slice A1 (limbs b).length c1] w fun e w' => e = .returned (.int .i64 (cmpN a b)) ∧ Below w.heap.size w w' := by
 by_cases hlen : (limbs a).length = (limbs b).length
 ·
  obtain ⟨L, hL⟩ : ∃ L, L = (limbs a).length := ⟨_, rfl⟩
  have hLb : (limbs b).length = L := by omega
  rw [hLb, ← hL]
  have hne : ((L : Int) != (L : Int)) = false := by simp
  have HL := Lib.hid hL
  have HLB := Lib.hid hLb
  have hLm : L ≤ 1000000000 := by omega
  have HA := Lib.hid hra
  have HB := Lib.hid hrb
  have HLEN := Lib.hid hlen
  clear hL hLb hra hrb hla hlb hlen
  go_enter Tryz.func165, Tryz.ntmps165
  go_wp2_with fail
  go_loopw [5] (fun i wr => ∃ k : Nat, k ≤ L ∧ i = .int .i64 ((k : Int) - 1) ∧ Hid ((limbs a).drop k = (limbs b).drop k) ∧ Below w.heap.size w wr) (fun i _ => (intOf i + 1).toNat)
  case atStart => exact ⟨L, Nat.le_refl _, rfl, by show _ = _; rw [List.drop_of_length_le (by rw [HL.out]; omega), List.drop_of_length_le (by rw [HLB.out]; omega)], Below.refl _ _⟩
  case round =>
   obtain ⟨k, hk, rfl, HD, hbel⟩ := hrel
   by_cases h0 : k = 0
   ·
    subst h0
    have HE := Lib.hid (cmpN_eq HD.out)
    go_wp2_with fail
    go_ret
    exact ⟨ret_int HE.out.symm, hbel⟩
   ·
    obtain ⟨j, rfl⟩ : ∃ j, k = j + 1 := ⟨k - 1, by omega⟩
    have hjl : j < L := by omega
    obtain ⟨ba, offa, rfl, hba, hca⟩ := (HA.out.below hbel).at_ (getElem?_getD (show j < (limbs a).length by rw [← HL.out]; exact hjl))
    obtain ⟨bb, offb, rfl, hbb, hcb⟩ := (HB.out.below hbel).at_ (getElem?_getD (show j < (limbs b).length by rw [HLB.out]; exact hjl))
    have HC := Lib.hid (cmpN_at HLEN.out (show j < (limbs a).length by rw [← HL.out]; exact hjl) HD.out)
    have HDS := Lib.hid (fun h => drop_step HLEN.out (show j < (limbs a).length by rw [← HL.out]; exact hjl) HD.out h)
    obtain ⟨x, hx⟩ : ∃ x, x = (limbs a).getD j 0 := ⟨_, rfl⟩
    obtain ⟨y, hy⟩ : ∃ y, y = (limbs b).getD j 0 := ⟨_, rfl⟩
    rw [← hx] at hca HC HDS
    rw [← hy] at hcb HC HDS
    have hji : ((j + 1 : Nat) : Int) - 1 = (j : Int) := by omega
    have hji2 : ((j : Int) + 1) - 1 = (j : Int) := by omega
    clear h0 hx hy HD
    by_cases hxy : x = y
    ·
     have HD2 : Hid ((limbs a).drop j = (limbs b).drop j) := HDS.out hxy
     have hne2 : ((x : Int) != (y : Int)) = false := by simp [hxy]
     clear hxy
     go_wp2_with fail
     go_quiet (fail)
     go_wp2_with fail
     go_roundw
     case measure => simp [intOf] <;> omega
     case rel => exact ⟨j, by omega, by go_num, HD2, hbel.drewN _⟩
    ·
     have hne2 : ((x : Int) != (y : Int)) = true := by simp; omega
     rcases Nat.lt_or_ge x y with hlt | hge
     ·
      have HE := Lib.hid (HC.out.1 hlt)
      clear hxy
      go_wp2_with fail
      go_quiet (fail)
      go_wp2_with fail
      go_quiet (fail)
      go_wp2_with fail
      go_ret
      exact ⟨ret_int HE.out.symm, (hbel.drewN _).drewN _⟩
     ·
      have hgt : ¬ (x : Int) < (y : Int) := by omega
      have HE := Lib.hid (HC.out.2 (by omega))
      clear hxy hge
      go_wp2_with fail
      go_quiet (fail)
      go_wp2_with fail
      go_quiet (fail)
      go_wp2_with fail
      go_ret
      exact ⟨ret_int HE.out.symm, (hbel.drewN _).drewN _⟩
 ·
  have hne : (((limbs a).length : Int) != ((limbs b).length : Int)) = true := by simp; omega
  rcases Nat.lt_or_ge (limbs a).length (limbs b).length with h | h
  ·
   have HE := Lib.hid (cmpN_len h).1
   have h2 : decide ((limbs a).length < (limbs b).length) = true := by simpa using h
   have HL := Lib.hid hlen
   clear hra hrb hlen
   go_enter Tryz.func165, Tryz.ntmps165
   go_wp2_with fail
   go_ret
   exact ⟨ret_int HE.out.symm, Below.refl _ _⟩
  ·
   have HE := Lib.hid (cmpN_len (a := b) (b := a) (by omega)).2
   have h2 : decide ((limbs a).length < (limbs b).length) = false := by simpa using h
   have h3 : ¬ (limbs a).length < (limbs b).length := by omega
   have HL := Lib.hid hlen
   clear hra hrb hlen
   go_enter Tryz.func165, Tryz.ntmps165
   go_wp2_with fail
   go_ret
   exact ⟨ret_int HE.out.symm, Below.refl _ _⟩

end Go.Proofs.YtjlicnhkemfmiaaGreatDoor

/- limbs.trim, strip, parse, limbs. -/
import Derived.Test.YtcljkdjmmolfoaaDoorNorm
import Derived.StillTailTactics
import Derived.Deep.OwnRows
import Derived.BigQuiet
import Derived.Deep.QuietTactic
set_option linter.unusedVariables false
set_option linter.unusedSimpArgs false
namespace Go.Proofs.YtcljkdjmmolfoaaDoor
open Go.RowKit

/-- a slice of digits that holds the number n -/
theorem trim_end {l : List Nat} (hd : Dig l) {k : Nat} (hk : k ≤ l.length) (hz : ∀ x ∈ l.drop k, x = 0) (ht : k = 0 ∨ l.getD (k - 1) 0 ≠ 0) : l.take k = limbs (valL l) ∧ (limbs (valL l)).length = k := by
  have := trim_take hd hk hz ht
  exact ⟨this, by rw [← this, List.length_take_of_le hk]⟩

theorem zero_more {l : List Nat} {k : Nat} (hk : k + 1 ≤ l.length) (hz : ∀ x ∈ l.drop (k + 1), x = 0) (h0 : l.getD k 0 = 0) : ∀ x ∈ l.drop k, x = 0 := by
  rw [List.drop_eq_getElem_cons (by omega)]
  intro x hx
  rcases List.mem_cons.1 hx with hx | hx
  · subst hx
    rwa [List.getD_eq_getElem?_getD, List.getElem?_eq_getElem (by omega)] at h0
  · exact hz x hx

theorem KRd.fin {k : IntKind} {w : World} {B : Nat} {A : Option Addr} {l m : List Nat} {n : Nat} (h : KRd k w B A l) (e : l.take n = m) : KRd k w B A m := e ▸ h.take n

set_option maxHeartbeats 1000000 in
theorem trim_calls (A : Option Addr) (c : Nat) (l : List Nat) (w : World) (hr : KRd .u32 w w.heap.size A l) (hd : Dig l) (hc : l.length ≤ c) (hl : l.length ≤ 1000000000) :
    Calls Tryd.prog 83 #[.slice A l.length c] w fun e w' => e = .returned (.slice A (limbs (valL l)).length c) ∧ w' = w := by
  have HR := Lib.hid hr
  have HD := Lib.hid hd
  clear hr hd
  go_enter Tryd.func83, Tryd.ntmps83
  go_wp2_with fail
  go_loop [3] (fun i => ∃ k : Nat, k ≤ l.length ∧ i = .int .i64 k ∧ Hid (∀ x ∈ l.drop k, x = 0)) (fun i => (intOf i).toNat)
  case atStart => exact ⟨l.length, Nat.le_refl _, rfl, by intro x hx; simp at hx⟩
  case round =>
    obtain ⟨k, hk, rfl, HZ⟩ := hrel
    by_cases h0 : k = 0
    · subst h0
      have HE : Hid ((limbs (valL l)).length = 0) := (trim_end HD.out hk HZ.out (.inl rfl)).2
      clear HZ
      go_wp2
      go_ret
      exact ⟨by rw [HE.out]; rfl, rfl⟩
    · obtain ⟨j, rfl⟩ : ∃ j, k = j + 1 := ⟨k - 1, by omega⟩
      obtain ⟨b, off, rfl, hb, hcell⟩ := HR.out.at_ (getElem?_getD (show j < l.length by omega))
      obtain ⟨x, hx⟩ : ∃ x, x = l.getD j 0 := ⟨_, rfl⟩
      rw [← hx] at hcell
      have HX := Lib.hid hx
      clear h0 hx
      by_cases hx0 : x = 0
      · have HZ2 : Hid (∀ x ∈ l.drop j, x = 0) := zero_more hk HZ.out (by rw [← HX.out, hx0])
        have hx1 : ((x : Int) == 0) = true := by simp [hx0]
        clear hx0 HZ HX
        go_wp2
        go_round
        case rel => exact ⟨j, by omega, by go_num, HZ2⟩
        case measure => simp [intOf]
      · have hx1 : ((x : Int) == 0) = false := by simpa using hx0
        have HE : Hid ((limbs (valL l)).length = j + 1) := (trim_end HD.out hk HZ.out (.inr (by show l.getD j 0 ≠ 0; rw [← HX.out]; exact hx0))).2
        clear hx0 HZ HX
        go_wp2
        go_ret
        exact ⟨by rw [HE.out]; rfl, rfl⟩

set_option maxHeartbeats 1000000 in
theorem strip_calls (A : Option Addr) (c : Nat) (l : List Nat) (w : World) (hr : KRd .u32 w w.heap.size A l) (hd : Dig l) (hc : l.length ≤ c) (hl : l.length ≤ 1000000000) :
    Calls Tryd.prog 66 #[.slice A l.length c] w fun e w' => e = .returned (.slice A (limbs (valL l)).length c) ∧ w' = w := by
  have HR := Lib.hid hr
  have HD := Lib.hid hd
  clear hr hd
  go_enter Tryd.func66, Tryd.ntmps66
  go_wp2_with fail
  go_loop [3] (fun i => ∃ k : Nat, k ≤ l.length ∧ i = .int .i64 k ∧ Hid (∀ x ∈ l.drop k, x = 0)) (fun i => (intOf i).toNat)
  case atStart => exact ⟨l.length, Nat.le_refl _, rfl, by intro x hx; simp at hx⟩
  case round =>
    obtain ⟨k, hk, rfl, HZ⟩ := hrel
    by_cases h0 : k = 0
    · subst h0
      have HE : Hid ((limbs (valL l)).length = 0) := (trim_end HD.out hk HZ.out (.inl rfl)).2
      clear HZ
      go_wp2
      go_ret
      exact ⟨by rw [HE.out]; rfl, rfl⟩
    · obtain ⟨j, rfl⟩ : ∃ j, k = j + 1 := ⟨k - 1, by omega⟩
      obtain ⟨b, off, rfl, hb, hcell⟩ := HR.out.at_ (getElem?_getD (show j < l.length by omega))
      obtain ⟨x, hx⟩ : ∃ x, x = l.getD j 0 := ⟨_, rfl⟩
      rw [← hx] at hcell
      have HX := Lib.hid hx
      clear h0 hx
      by_cases hx0 : x = 0
      · have HZ2 : Hid (∀ x ∈ l.drop j, x = 0) := zero_more hk HZ.out (by rw [← HX.out, hx0])
        have hx1 : ((x : Int) == 0) = true := by simp [hx0]
        clear hx0 HZ HX
        go_wp2
        go_round
        case rel => exact ⟨j, by omega, by go_num, HZ2⟩
        case measure => simp [intOf]
      · have hx1 : ((x : Int) == 0) = false := by simpa using hx0
        have HE : Hid ((limbs (valL l)).length = j + 1) := (trim_end HD.out hk HZ.out (.inr (by show l.getD j 0 ≠ 0; rw [← HX.out]; exact hx0))).2
        clear hx0 HZ HX
        go_wp2
        go_ret
        exact ⟨by rw [HE.out]; rfl, rfl⟩

/-- the bytes of a string, the least one first -/
def lebytes (s : ByteArray) : List Nat := s.data.toList.reverse.map UInt8.toNat
theorem lebytes_len (s : ByteArray) : (lebytes s).length = s.size := by rw [lebytes, List.length_map, List.length_reverse, Lib.size_eq]
theorem lebytes_byt (s : ByteArray) : Byt (lebytes s) := by
  intro x hx
  obtain ⟨c, _, rfl⟩ := List.mem_map.1 hx
  exact c.toNat_lt
theorem lebytes_get (s : ByteArray) (i : Nat) (h : i < s.size) (h' : s.size - 1 - i < s.size) : (lebytes s).getD i 0 = (s[s.size - 1 - i]'h').toNat := by
  rw [lebytes, List.getD_eq_getElem?_getD, List.getElem?_map, List.getElem?_reverse (by rw [← Lib.size_eq]; exact h), ← Lib.size_eq]
  rw [List.getElem?_eq_getElem (by rw [← Lib.size_eq]; exact h')]
  rfl
theorem snum_le (s : ByteArray) : snum s = valB (lebytes s) := rfl

theorem packs_nil (K : Nat) : packs K [] = List.replicate K 0 := by
  apply List.ext_getElem?
  intro j
  by_cases hj : j < K <;> simp [packs, pk, List.getElem?_replicate, hj]

theorem pow8 (m : Nat) : 2 ^ (8 * m) = 256 ^ m := by rw [Nat.pow_mul]

theorem shl_byte (c m : Nat) (hm : m < 4) (hc : c < 256) : IntKind.u32.wrap ((c : Int) * 2 ^ (8 * (m : Int)).toNat) = ((c * 256 ^ m : Nat) : Int) ∧ c * 256 ^ m + 256 ^ m ≤ 4294967296 := by
  have e : (8 * (m : Int)).toNat = 8 * m := by omega
  rw [e]
  have h1 : ((c : Int) * 2 ^ (8 * m)) = ((c * 256 ^ m : Nat) : Int) := by
    rw [Int.natCast_mul, ← pow8]; simp
  have h2 : c * 256 ^ m + 256 ^ m ≤ 4294967296 := by
    have h3 : (c + 1) * 256 ^ m ≤ 256 * 256 ^ 3 := Nat.mul_le_mul (by omega) (Nat.pow_le_pow_right (by omega) (by omega))
    rw [Nat.add_mul, Nat.one_mul] at h3
    omega
  refine ⟨?_, h2⟩
  rw [h1, IntWalk.u32_in]
  have : 0 < 256 ^ m := Nat.pow_pos (by omega)
  omega

theorem or_byte (v c m : Nat) (hm : m < 4) (hc : c < 256) (hv : v < 256 ^ m) : bits BinOp.or IntKind.u32 (v : Int) (IntKind.u32.wrap ((c : Int) * 2 ^ (8 * (m : Int)).toNat)) = ((v + c * 256 ^ m : Nat) : Int) := by
  obtain ⟨h1, h2⟩ := shl_byte c m hm hc
  rw [h1]
  exact or_u32 v (c * 256 ^ m) (8 * m) c (by rw [pow8]; exact hv) (by rw [pow8, Nat.mul_comm]) (by omega)

set_option maxHeartbeats 1000000 in
set_option maxRecDepth 100000 in
theorem parse_calls (s : ByteArray) (w : World) (hs : s.size ≤ 1000000000) :
    Calls Tryd.prog 72 #[.string s] w fun e w' => ∃ A c, e = .returned (.slice A (limbs (snum s)).length c) ∧ (limbs (snum s)).length ≤ c ∧ KRd .u32 w' w'.heap.size A (limbs (snum s)) ∧ Below w.heap.size w w' := by
  obtain ⟨K, hK⟩ : ∃ K : Nat, K = (s.size + 3) / 4 := ⟨_, rfl⟩
  have hK1 : s.size ≤ 4 * K := by omega
  have hK2 : 4 * K ≤ s.size + 3 := by omega
  have hKI : ((s.size : Int) + 4 - 1) / 4 = (K : Int) := by omega
  have hmk := run_make_row' (P := Tryd.prog) 128 25 (.int .u32 0) 4 Tryd.underlying128 Tryd.info_u32 rfl .i64 .i64 K (by omega) (by omega)
  clear hK
  go_enter Tryd.func72, Tryd.ntmps72
  go_wp2_with fail
  go_loopw [13] (fun i wr => ∃ k : Nat, k ≤ s.size ∧ i = .int .i64 k ∧ KRow .u32 25 wr w.heap.size (packs K ((lebytes s).take k)) ∧ Below w.heap.size w wr) (fun i _ => s.size - (intOf i).toNat)
  case atStart => exact ⟨0, Nat.zero_le _, rfl, (KRow.made _ _ _ rfl).cast (by rw [List.take_zero]; exact (packs_nil K).symm), (Below.refl _ _).alloc (Nat.le_refl _) _⟩
  case round =>
    obtain ⟨k, hk, rfl, hrow, hbel⟩ := hrel
    by_cases hlt : k < s.size
    · have hq : k / 4 < K := by omega
      have hq1 : (k : Int) / 4 < (K : Int) := by omega
      have hidx : s.size - 1 - k < s.size := by omega
      have hc := hrow.getD (j := k / 4) (by rw [packs_len]; exact hq)
      have hf := hrow.frozen (k / 4)
      have hsz := hrow.lt
      obtain ⟨v, hv⟩ : ∃ v, v = (packs K ((lebytes s).take k)).getD (k / 4) 0 := ⟨_, rfl⟩
      rw [← hv] at hc
      have HV := Lib.hid hv
      have HROW := Lib.hid hrow
      clear hv hrow hq hK1 hK2 hmk hKI
      obtain ⟨q, hq⟩ : ∃ q, q = k / 4 := ⟨_, rfl⟩
      obtain ⟨m, hm⟩ : ∃ m, m = k % 4 := ⟨_, rfl⟩
      obtain ⟨t, ht⟩ : ∃ t, t = s.size - 1 - k := ⟨_, rfl⟩
      have htl : t < s.size := by omega
      have hqK : q < K := by omega
      have hm4 : m < 4 := by omega
      have w1 : IntKind.i64.wrap ((k : Int) / 4) = (q : Int) := by rw [IntWalk.i64_in _ (by omega)]; omega
      have w2 : IntKind.i64.wrap ((s.size : Int) - 1) = (s.size : Int) - 1 := IntWalk.i64_in _ (by omega)
      have w3 : IntKind.i64.wrap ((s.size : Int) - 1 - (k : Int)) = (t : Int) := by rw [IntWalk.i64_in _ (by omega)]; omega
      have w4 : (k : Int).tmod 4 = (m : Int) := by rw [Int.tmod_eq_emod_of_nonneg (by omega)]; omega
      obtain ⟨c, hcc⟩ : ∃ c : Nat, c = s[t].toNat := ⟨_, rfl⟩
      have hc8 : c < 256 := by rw [hcc]; exact s[t].toNat_lt
      have w6 : IntKind.u32.wrap (s[t].toNat : Int) = (c : Int) := by rw [← hcc]; exact IntWalk.u32_in _ (by omega)
      have w5 : IntKind.i64.wrap (8 * (m : Int)) = ((8 * m : Nat) : Int) := by rw [IntWalk.i64_in _ (by omega)]; omega
      rw [← hq] at hc hf
      go_wp2_with fail
      have HC := Lib.hid hcc
      have HQ := Lib.hid hq
      have HM := Lib.hid hm
      have hgv : v = pk ((lebytes s).take k) q := by rw [HV.out, packs_get (by omega), hq]
      have hvm : v < 256 ^ m := by rw [hgv, hq, hm]; exact pk_take_lt (lebytes_byt s) k
      have HCl : Hid ((lebytes s).getD k 0 = c) := by
        show _ = _
        rw [hcc, lebytes_get s k hlt (by omega)]
        simp only [ht]
      have HGV := Lib.hid hgv
      have HVM := Lib.hid hvm
      clear hq1 hidx hq hm ht hcc hgv hvm
      have HF : Hid (bits BinOp.or IntKind.u32 (v : Int) (IntKind.u32.wrap ((c : Int) * 2 ^ (8 * (m : Int)).toNat)) = ((pk ((lebytes s).take k) (k / 4) + (lebytes s).getD k 0 * 256 ^ (k % 4) : Nat) : Int)) := by
        show _ = _
        rw [← HM.out, ← HQ.out, ← HGV.out, HCl.out]
        exact or_byte v c m hm4 hc8 HVM.out
      go_still_tail 19, (by kernel_rfl)
      change wpList _ _ _ _ _ wr.drew
      clear w1 w2 w3 w4 w5 w6
      go_wp2_with fail
      go_roundw
      case measure => simp [intOf]; omega
      case rel =>
        refine ⟨k + 1, by omega, by go_num, HROW.out.drew.setI _ _ HF.out ?_, hbel.drew.setCell (by simp) _⟩
        rw [packs_take_succ, HQ.out]
    · obtain rfl : k = s.size := by omega
      have HV : Hid (valL (packs K ((lebytes s).take s.size)) = snum s) := by
        show _ = _
        rw [List.take_of_length_le (by rw [lebytes_len]; omega), valL_packs _ _ (by rw [lebytes_len]; exact hK1)]
        rfl
      have hrd := hrow.rd
      have hdg : Dig (packs K ((lebytes s).take s.size)) := packs_dig (fun x hx => lebytes_byt s x (List.mem_of_mem_take hx)) _
      have hlen : (packs K ((lebytes s).take s.size)).length = K := packs_len _ _
      have HT := trim_calls _ K _ wr hrd hdg (by omega) (by omega)
      rw [hlen, HV.out] at HT
      have HRD := Lib.hid hrd
      have HDG := Lib.hid hdg
      have HLEN := Lib.hid hlen
      have HTT := Lib.hid HT
      clear hrd hdg hlen hmk hKI HT
      go_wp2_with fail
      refine HTT.out.mono ?_
      rintro e w1 ⟨rfl, rfl⟩
      go_wp2_with fail
      go_ret
      refine ⟨_, _, rfl, ?_, ?_, hbel⟩
      · have h1 := valL_lt _ HDG.out
        rw [HV.out, HLEN.out] at h1
        exact limbs_len_le h1
      · exact HRD.out.limbs HDG.out HV.out

end Go.Proofs.YtcljkdjmmolfoaaDoor

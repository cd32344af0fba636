/- insolvencyref1.written, NatFormat. -/
import Derived.Test.YtmlbolfopakgmaaDoorFmt
import Derived.Test.YtmlbolfopakgmaaDoorDivS
set_option linter.unusedVariables false
set_option linter.unusedSimpArgs false
namespace Go.Proofs.YtmlbolfopakgmaaDoor
open Go.RowKit

theorem decs_limbs_len (n : Nat) : (decs n).length ≤ 18 * (limbs n).length := by
  have h := lt_pow9 n
  rw [show (1000000000 : Nat) = 10 ^ 9 by decide, ← Nat.pow_mul] at h
  have := decs_len_le h
  omega

set_option maxHeartbeats 4000000 in
set_option maxRecDepth 100000 in
theorem written_calls (A : Option Addr) (c n : Nat) (w : World) (hr : KRd .u32 w w.heap.size A (limbs n)) (hl : (limbs n).length ≤ 100000) :
    Calls Tryd.prog 55 #[.slice A (limbs n).length c] w fun e w' => e = .returned (.string (nstr (decOf n))) ∧ Below w.heap.size w w' := by
  obtain ⟨i0, hi, hz0, hz1, hz2⟩ := info_parts Tryd.info_u8
  have HI0 : Hid (Tryd.prog.info? 5 = some i0 ∧ i0.zero = some (.int .u8 0) ∧ i0.size = 1 ∧ i0.bytes = 1) := ⟨hi, hz0, hz1, hz2⟩
  have HLN : Hid ((decs n).length ≤ 1800000) := by have := decs_limbs_len n; show _ ≤ _; omega
  have HR := Lib.hid hr
  clear hr hi hz0 hz1 hz2
  go_enter Tryd.func55, Tryd.ntmps55
  go_wp2_with fail
  go_loopg [0, 3] n (fun gk ll bb wr => ∃ (x : Nat) (X : Option Addr) (cx : Nat) (es : List Nat), ll = .slice X (limbs x).length cx ∧ x ≤ gk ∧ (limbs x).length ≤ 100000 ∧ Hid (KRd .u32 wr wr.heap.size X (limbs x)) ∧ wr.ownsRow w.heap.size 5 1 bb es.length ((es.map (48 + ·)).map (fun (x : Nat) => Value.int .u8 (x : Int))) ∧ es.length ≤ 1800000 ∧ Hid (Ten es ∧ es ++ decs x = decs n) ∧ Below w.heap.size w wr)
  case atStart => exact ⟨n, A, c, [], rfl, Nat.le_refl _, hl, HR, World.ownsRow_nil _ _ _ _, by simp only [List.length_nil]; omega, ⟨by simp [Ten], by simp⟩, Below.refl _ _⟩
  case round =>
    clear hl HR
    obtain ⟨x, X, cx, es, rfl, hgk, hxl, HX, hown, hel, HI, hbel⟩ := hrel
    by_cases hx0 : x = 0
    · subst hx0
      have h0 : (limbs 0).length = 0 := by rw [limbs_zero]; rfl
      have HE : Hid (es = decs n) := by have := HI.out.2; rwa [decs_zero, List.append_nil] at this
      clear HX
      rw [h0]
      clear h0
      by_cases hn0 : n = 0
      · subst hn0
        obtain rfl : es = [] := by rw [HE.out, decs_zero]
        obtain ⟨A', c', hv, _, hle⟩ := own_shape hown
        subst hv
        have HB := Lib.hid hbel
        clear hown hbel HI HE
        go_wp2_with fail
        go_ret
        exact ⟨ret_str rfl, HB.out⟩
      · have hep : 0 < es.length := by rw [HE.out, decs_pos hn0]; simp
        have HT : Hid (chars es = decOf n) := by rw [HE.out]; show _ = _; rw [decOf, if_neg hn0]
        obtain ⟨g, cap, rfl, hge, hgl⟩ := hown.form hep
        have hkr := KRow.of_own hown
        obtain ⟨xs, hxs⟩ : ∃ xs, xs = es.map (48 + ·) := ⟨_, rfl⟩
        obtain ⟨m, hm⟩ : ∃ m, m = es.length := ⟨_, rfl⟩
        have hxm : xs.length = m := by rw [hxs, hm, List.length_map]
        have HXR : Hid (xs.reverse = decOf n ∧ Byt (decOf n)) := by
          have h1 : xs.reverse = chars es := by rw [hxs, chars, List.map_reverse]
          refine ⟨h1.trans HT.out, ?_⟩
          rw [← HT.out]
          intro y hy
          have := chars_byte HI.out.1 y hy; omega
        rw [← hxs] at hkr
        rw [← hm] at hel hep ⊢
        have hh : ((m : Int)).tdiv 2 = ((m / 2 : Nat) : Int) := by rw [Int.tdiv_eq_ediv_of_nonneg (by omega)]; rfl
        obtain ⟨h, hhm⟩ : ∃ h, h = m / 2 := ⟨_, rfl⟩
        rw [← hhm] at hh
        have HHM := Lib.hid hhm
        have hhl : h ≤ m := by omega
        have HKR := Lib.hid hkr
        have HXM := Lib.hid hxm
        have HBEL := Lib.hid hbel
        have hge2 := hge
        have hne0 : ((m : Int) == 0) = false := by simp; omega
        clear hown hkr hbel HI HE HT hxs hm hxm hhm hgl
        go_wp2_with fail
        go_loopw [6] (fun ii w3 => ∃ (k : Nat) (ys : List Nat), ii = .int .i64 (k : Int) ∧ k ≤ m ∧ KRow .u8 5 w3 g ys ∧ Hid (ys.length = m ∧ ∀ p, p < m → ys.getD p 0 = if p < k ∨ m - 1 - k < p then xs.getD (m - 1 - p) 0 else xs.getD p 0) ∧ Only g wr w3) (fun ii _ => m - (intOf ii).toNat)
        case atStart => exact ⟨0, xs, rfl, by omega, HKR.out, ⟨HXM.out, fun p hp => by rw [if_neg (by omega)]⟩, Only.refl _ _⟩
        case round =>
          obtain ⟨k, ys, rfl, hk, hrow, HJ, ho⟩ := hrel
          by_cases hlt : k < h
          · have HHM' := HHM.out
            have hlt2 : k < m - 1 - k := by omega
            obtain ⟨j, hj⟩ : ∃ j, j = m - 1 - k := ⟨_, rfl⟩
            have hji : (m : Int) - 1 - (k : Int) = (j : Int) := by omega
            have hjn : j < m := by omega
            have hkj : k < j := by omega
            have hkn : k < m := by omega
            have hyl := HJ.out.1
            have ck := hrow.getD (j := k) (by omega)
            have cj := hrow.getD (j := j) (by omega)
            have fk := hrow.frozen k
            have fj := hrow.frozen j
            have hgs := hrow.lt
            obtain ⟨x, hx⟩ : ∃ x, x = ys.getD k 0 := ⟨_, rfl⟩
            obtain ⟨y, hy⟩ : ∃ y, y = ys.getD j 0 := ⟨_, rfl⟩
            rw [← hx] at ck
            rw [← hy] at cj
            have HI2 : Hid (((ys.set k y).set j x).length = m ∧ ∀ p, p < m → ((ys.set k y).set j x).getD p 0 = if p < k + 1 ∨ m - 1 - (k + 1) < p then xs.getD (m - 1 - p) 0 else xs.getD p 0) := by
              refine ⟨by simp [hyl], ?_⟩
              have := rev_step hyl hlt2 HJ.out.2
              rw [← hj, ← hx, ← hy] at this
              exact this
            have HROW := Lib.hid hrow
            have HJJ := Lib.hid hj
            have hne : j ≠ k := by omega
            have hne2 : k ≠ j := by omega
            clear hx hy hyl HJ hrow hj hlt2 HHM'
            go_wp2_with fail
            go_roundw
            case measure => simp [intOf] <;> omega
            case rel => exact ⟨k + 1, _, by go_num, by omega, ((HROW.out.setI k y rfl rfl).setI j x rfl rfl), HI2, ((ho.setC _ _).setC _ _)⟩
          · have HE : Hid (ys = xs.reverse) := rev_end HXM.out HJ.out.1 (by have := HHM.out; omega) HJ.out.2
            have hrow2 := hrow
            rw [HE.out, HXR.out.1] at hrow2
            have hdl : (decOf n).length = m := by rw [← HXR.out.1, List.length_reverse]; exact HXM.out
            have hcv := conv_bytes (P := Tryd.prog) _ _ 35 9 5 _ _ cap Tryd.underlying35 Tryd.underlying5 Tryd.underlying9 hrow2.rd HXR.out.2
            rw [hdl] at hcv
            have hb3 := Lib.hid (HBEL.out.trans (ho.at_ w.heap.size HBEL.out.size hge2))
            clear HJ hrow HE hrow2 hdl
            go_wp2_with fail
            go_ret
            exact ⟨rfl, hb3.out⟩
    · have hxp := limbs_len_pos hx0
      have HD := short_row X cx x 10 wr HX.out (by omega) (by decide) (by decide)
      change Calls _ _ #[_, .int .u32 10] _ _ at HD
      have HD := Lib.hid HD
      have HBEL := Lib.hid hbel
      have HOWN := Lib.hid hown
      have hmlt : x / 10 < gk := by omega
      have HML := Lib.hid hmlt
      have HI2 : Hid (Ten (es ++ [x % 10]) ∧ es ++ [x % 10] ++ decs (x / 10) = decs n) := by
        refine ⟨?_, by rw [← HI.out.2, decs_pos hx0]; simp⟩
        intro y hy
        rcases List.mem_append.1 hy with hy | hy
        · exact HI.out.1 y hy
        · simp at hy; omega
      have hel2 : es.length + 1 ≤ 1800000 := by
        have := congrArg List.length HI2.out.2
        have := HLN.out
        simp at *
        omega
      obtain ⟨d, hd⟩ : ∃ d, d = x % 10 := ⟨_, rfl⟩
      have hd10 : d < 10 := by omega
      rw [← hd] at HD HI2
      clear hx0 hbel hown HX hmlt HI hd hel
      go_wp2_with fail
      refine HD.out.mono ?_
      rintro e w2 ⟨gq, cq, rfl, hcq, hrq, hb2⟩
      have hown2 := own_next HOWN.out hb2
      have hbel := HBEL.out.trans (hb2.mono HBEL.out.size)
      have HRQ := Lib.hid hrq
      clear hrq hb2
      obtain ⟨A', c', hv, _, hle⟩ := own_shape hown2
      subst hv
      have hws := hbel.size
      go_wp2_with (at_builtin; refine wpList_append_own _ rfl (.tmp 16) (.tmp 20) 35 rfl w.heap.size 5 i0 (.int .u8 0) 1 1 Tryd.underlying35 HI0.out.1 HI0.out.2.1 HI0.out.2.2.1 HI0.out.2.2.2 rfl (by decide) _ _ _ rfl (by exact hown2.alloc _) _ 1 1 _ rfl rfl (rd_new_cells _ _ _ _ (by simp)) (by simp [Value.oneCell']) (by simp only [maxLen]; omega) (by omega) (by simp <;> omega) ?_)
      intro v' w3 hown' hg _
      have hb1 : Below w.heap.size w w3 := Below.grown (hbel.alloc hws _) hg (by simp <;> omega) (fun q hq => (hown2.lt q hq).1)
      have HRQ2 : Hid (KRow .u32 60 w3 gq (limbs (x / 10))) := by
        have h1 := HRQ.out.alloc (.cells #[.int .u8 (48 + (d : Int))] 5)
        exact h1.same (hg.block gq h1.lt (own_ne (T1 := 5) (T2 := 60) (hown2.alloc _) h1 (by decide)))
      have h2 : w3.ownsRow w.heap.size 5 1 v' (es ++ [d]).length (((es ++ [d]).map (48 + ·)).map (fun (x : Nat) => Value.int .u8 (x : Int))) := by
        have e : (es ++ [d]).length = es.length + 1 := by simp
        rw [e]
        simpa using hown'
      have H2 := Lib.hid h2
      have hlq : (limbs (x / 10)).length ≤ 100000 := by have := limbs_mono (Nat.div_le_self x 10); omega
      clear hown' hg hown2 h2 hbel HRQ
      go_wp2_with fail
      go_roundg (x / 10)
      case measure => exact HML.out
      case rel => exact ⟨x / 10, some ⟨gq, 0, none⟩, cq, es ++ [d], rfl, Nat.le_refl _, hlq, HRQ2.out.rd, H2.out, by simp; omega, HI2, hb1⟩

set_option maxHeartbeats 1000000 in
theorem refFormat_calls (s : ByteArray) (w : World) (hs : s.size ≤ 100000) :
    Calls Tryd.prog 26 #[.string s] w fun e w' => e = .returned (.string (nstr (decOf (snum s)))) ∧ Below w.heap.size w w' := by
  have HP := Lib.hid (fun w => limbsRef_calls s w (by omega))
  have HLA : Hid ((limbs (snum s)).length ≤ 100000) := by
    show _ ≤ _
    rw [limbs_len_canon]; have := canon_num_len s.data.toList; rw [← Lib.size_eq] at this; show ((canon (num s.data.toList)).length + 3) / 4 ≤ _; omega
  clear hs
  go_enter Tryd.func26, Tryd.ntmps26
  go_wp2_with fail
  refine (HP.out _).mono ?_
  rintro e w1 ⟨A, c, rfl, hc, hr, hb1⟩
  have HW := Lib.hid (written_calls A c (snum s) w1 hr HLA.out)
  have HB1 := Lib.hid hb1
  clear hr hb1
  go_wp2_with fail
  refine HW.out.mono ?_
  rintro e w2 ⟨rfl, hb2⟩
  have HB2 := Lib.hid (HB1.out.trans (hb2.mono HB1.out.size))
  clear hb2
  go_wp2_with fail
  go_ret
  exact ⟨rfl, HB2.out⟩

end Go.Proofs.YtmlbolfopakgmaaDoor

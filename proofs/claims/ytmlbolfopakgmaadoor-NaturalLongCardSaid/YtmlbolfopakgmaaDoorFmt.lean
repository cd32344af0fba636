/- natural.Format. -/
import Derived.Test.YtmlbolfopakgmaaDoorRev
import Derived.Test.YtmlbolfopakgmaaDoorTen
set_option linter.unusedVariables false
set_option linter.unusedSimpArgs false
namespace Go.Proofs.YtmlbolfopakgmaaDoor
open Go.RowKit

theorem fmt_step {ds : List Nat} {r V : Nat} (h : valT ds + 10 ^ ds.length * r = V) : valT (ds ++ [r % 10]) + 10 ^ (ds ++ [r % 10]).length * (r / 10) = V := by
  rw [valT_snoc, List.length_append, List.length_singleton, Nat.pow_succ]
  have := Nat.div_add_mod r 10
  generalize 10 ^ ds.length = P at *
  rw [← h]
  conv => rhs; rw [← this]
  grind

theorem pow9 {r m : Nat} (h : r < 10 ^ (9 - m)) (hm : m < 9) : r / 10 < 10 ^ (9 - (m + 1)) := by
  have e : 9 - m = (9 - (m + 1)) + 1 := by omega
  rw [e, Nat.pow_succ] at h
  omega

theorem own_next {w w' : World} {base e size n : Nat} {v : Value} {xs : List Value} (h : w.ownsRow base e size v n xs) (hb : Below w.heap.size w w') : w'.ownsRow base e size v n xs := by
  refine ⟨h.1, ?_⟩
  rcases h.2 with hn | ⟨g, cap, cur, rfl, hb2, hgg, rest⟩
  · exact .inl hn
  · refine .inr ⟨g, cap, cur, rfl, hb2, ?_, rest⟩
    rw [hb.block g (Array.getElem?_eq_some_iff.1 hgg).1]
    exact hgg

theorem own_ne {w : World} {base n : Nat} {T1 T2 : TypeId} {v : Value} {xs : List Value} {k : IntKind} {g : Nat} {l : List Nat} (h : w.ownsRow base T1 1 v n xs) (hr : KRow k T2 w g l) (hne : T1 ≠ T2) : some g ≠ v.ownBlock := by
  intro e
  rcases h.2 with ⟨rfl, _⟩ | ⟨g', cap, cur, rfl, _, hgg, _⟩
  · simp [Value.ownBlock] at e
  · simp only [Value.ownBlock, Option.some.injEq] at e
    subst e
    obtain ⟨cur2, h2, _⟩ := hr
    rw [hgg] at h2
    simp only [Option.some.injEq, Obj.cells.injEq] at h2
    exact hne h2.2.1

/-- the string of characters that are numbers -/
theorem nstr_trim {l : List Nat} (hl : Ten l) : bstr ((nstr (chars l)).data.toList.dropWhile (· == 48)) = nstr (chars (decs (valT l))) := by
  show bstr (((chars l).map UInt8.ofNat).dropWhile (· == 48)) = bstr ((chars (decs (valT l))).map UInt8.ofNat)
  congr 1
  rw [← chars_trim hl]
  have hb := chars_byte hl
  generalize chars l = c at *
  induction c with
  | nil => rfl
  | cons x c ih =>
    have hx := hb x (by simp)
    have ih' := ih (fun y hy => hb y (by simp [hy]))
    rw [List.map_cons, List.dropWhile_cons, List.dropWhile_cons]
    by_cases h : x = 48
    · subst h
      simpa using ih'
    · have e1 : (x == 48) = false := by simpa using h
      have e2 : (UInt8.ofNat x == 48) = false := by
        simp only [beq_eq_false_iff_ne]
        intro h2
        have := congrArg UInt8.toNat h2
        simp at this
        omega
      rw [e1, e2]; rfl

theorem lt_pow9 (a : Nat) : a < 1000000000 ^ (2 * (limbs a).length) := by
  have h := lt_pow_limbs a
  refine Nat.lt_of_lt_of_le h ?_
  rw [Nat.pow_mul]
  exact Nat.pow_le_pow_left (by decide) _

theorem fmt_outer {ds ds9 : List Nat} {x a V : Nat} (h : valT ds + 10 ^ ds.length * x = a) (hV : V = valT ds + 10 ^ ds.length * (x % 1000000000)) (h9 : valT ds9 = V) (hl : ds9.length = ds.length + 9) : valT ds9 + 10 ^ ds9.length * (x / 1000000000) = a := by
  rw [h9, hV, hl, ← h, Nat.pow_add]
  have := Nat.div_add_mod x 1000000000
  have e : (10 : Nat) ^ 9 = 1000000000 := by decide
  rw [e]
  generalize 10 ^ ds.length = P at *
  conv => rhs; rw [← this]
  grind

set_option maxHeartbeats 8000000 in
set_option maxRecDepth 100000 in
theorem natFormat_calls (s : ByteArray) (w : World) (hs : s.size ≤ 100000) :
    Calls Tryd.prog 25 #[.string s] w fun e w' => e = .returned (.string (nstr (decOf (snum s)))) ∧ Below w.heap.size w w' := by
  obtain ⟨i0, hi, hz0, hz1, hz2⟩ := info_parts Tryd.info_u8
  have HI0 : Hid (Tryd.prog.info? 5 = some i0 ∧ i0.zero = some (.int .u8 0) ∧ i0.size = 1 ∧ i0.bytes = 1) := ⟨hi, hz0, hz1, hz2⟩
  have HP := Lib.hid (fun w => parse_calls s w (by omega))
  have HLA : Hid ((limbs (snum s)).length ≤ 100000) := by
    show _ ≤ _
    rw [limbs_len_canon]; have := canon_num_len s.data.toList; rw [← Lib.size_eq] at this; show ((canon (num s.data.toList)).length + 3) / 4 ≤ _; omega
  obtain ⟨a, ha⟩ : ∃ a, a = snum s := ⟨_, rfl⟩
  rw [← ha] at HP HLA ⊢
  clear ha hs hi hz0 hz1 hz2
  by_cases ha0 : a = 0
  · subst ha0
    have h0 : (limbs 0).length = 0 := by rw [limbs_zero]; rfl
    rw [h0] at HP
    clear h0
    go_enter Tryd.func25, Tryd.ntmps25
    go_wp2_with fail
    refine (HP.out _).mono ?_
    rintro e w1 ⟨A, c, rfl, hc, hr, hb1⟩
    go_wp2_with fail
    go_ret
    exact ⟨ret_str rfl, hb1⟩
  · have hlp := limbs_len_pos ha0
    have hl2 : (((limbs a).length : Int) == 0) = false := by
      have : ((limbs a).length : Int) ≠ 0 := by omega
      simpa using this
    have HA0 := Lib.hid ha0
    clear ha0
    go_enter Tryd.func25, Tryd.ntmps25
    go_wp2_with fail
    refine (HP.out _).mono ?_
    rintro e w1 ⟨A, c, rfl, hc, hr, hb1⟩
    have HR := Lib.hid hr
    have HB1 := Lib.hid hb1
    have HLP := Lib.hid hlp
    clear hr hb1 hlp
    go_wp2_with fail
    clear hl2
    go_loopg [3, 4] (2 * (limbs a).length) (fun gk ll dd wr => ∃ (x : Nat) (X : Option Addr) (cx : Nat) (ds : List Nat), ll = .slice X (limbs x).length cx ∧ (limbs x).length ≤ 100000 ∧ gk ≤ 200000 ∧ Hid (x < 1000000000 ^ gk) ∧ (limbs x).length ≤ cx ∧ Hid (KRd .u32 wr wr.heap.size X (limbs x)) ∧ wr.ownsRow w1.heap.size 5 1 dd ds.length ((ds.map (48 + ·)).map (fun (x : Nat) => Value.int .u8 (x : Int))) ∧ ds.length + 9 * gk ≤ 1800000 ∧ Hid (Ten ds ∧ valT ds + 10 ^ ds.length * x = a ∧ (ds = [] → x = a)) ∧ Below w1.heap.size w1 wr)
    case atStart => exact ⟨a, A, c, [], rfl, HLA.out, by have h : (limbs a).length ≤ 100000 := HLA.out; omega, lt_pow9 a, hc, HR, World.ownsRow_nil _ _ _ _, by have h : (limbs a).length ≤ 100000 := HLA.out; simp only [List.length_nil]; omega, ⟨by simp [Ten], by simp [valT], fun _ => rfl⟩, Below.refl _ _⟩
    case round =>
      clear hc HR
      obtain ⟨x, X, cx, ds, rfl, hxg, hg, HXP, hxc, HX, hown, hdl, HI, hbel⟩ := hrel
      by_cases hx0 : x = 0
      · subst hx0
        have h0 : (limbs 0).length = 0 := by rw [limbs_zero]; rfl
        have hds : 0 < ds.length := by
          rcases ds with _ | ⟨y, ds⟩
          · exfalso; have := HI.out.2.2 rfl; exact HA0.out this.symm
          · simp
        obtain ⟨g, cap, rfl, hge, hgl⟩ := hown.form hds
        have hkr := KRow.of_own hown
        have hRV := reverse_calls g cap (ds.map (48 + ·)) wr hkr (by rw [List.length_map]; omega)
        rw [List.length_map] at hRV
        have hch : (ds.map (48 + ·)).reverse = chars ds := by rw [chars, List.map_reverse]
        rw [hch] at hRV
        have HRV := Lib.hid hRV
        have HT : Hid (nstr (chars (decs (valT ds))) = nstr (decOf a) ∧ Ten ds) := by
          obtain ⟨h1, h2, h3⟩ := HI.out
          refine ⟨?_, h1⟩
          have h4 : valT ds = a := by simpa using h2
          rw [h4, decOf, if_neg HA0.out]
        have HBEL := Lib.hid hbel
        clear hown hkr hRV hch HI hbel HX hxc hxg
        rw [h0]
        clear h0
        go_wp2_with fail
        refine HRV.out.mono ?_
        rintro e w3 ⟨rfl, hkr, ho⟩
        have hb3 : Below w1.heap.size w1 w3 := HBEL.out.trans (ho.at_ w1.heap.size HBEL.out.size hge)
        have hbyt : Byt (chars ds) := fun x hx => by have := chars_byte HT.out.2 x hx; omega
        have hcv := conv_bytes (P := Tryd.prog) w3 w3.heap.size 35 9 5 _ _ cap Tryd.underlying35 Tryd.underlying5 Tryd.underlying9 hkr.rd hbyt
        have hcl : (chars ds).length = ds.length := by simp [chars]
        rw [hcl] at hcv
        have HTL := Lib.hid (fun w => trimLeft_calls (nstr (chars ds)) 48 (by decide) w)
        rw [nstr_trim HT.out.2, HT.out.1] at HTL
        have HB3 := Lib.hid hb3
        clear hkr ho hbyt hcl hb3
        go_wp2_with fail
        refine (HTL.out _).mono ?_
        rintro e w4 ⟨rfl, rfl⟩
        go_wp2_with fail
        go_ret
        exact ⟨rfl, HB1.out.trans (HB3.out.mono HB1.out.size)⟩
      · have hxp := limbs_len_pos hx0
        have hgk1 : 1 ≤ gk := by
          rcases Nat.eq_zero_or_pos gk with h | h
          · exfalso; have := HXP.out; rw [h] at this; simp at this; exact hx0 this
          · exact h
        have HXP2 : Hid (x / 1000000000 < 1000000000 ^ (gk - 1)) := by
          show _ < _
          obtain ⟨k, rfl⟩ : ∃ k, gk = k + 1 := ⟨gk - 1, by omega⟩
          have := HXP.out
          rw [Nat.pow_succ] at this
          simp only [Nat.add_sub_cancel]
          exact Nat.div_lt_of_lt_mul (by rwa [Nat.mul_comm] at this)
        have hD := divideSmall_row X cx x 1000000000 wr HX.out (by omega) (by decide) (by decide)
        change Calls _ _ #[_, .int .u32 1000000000] _ _ at hD
        have HD := Lib.hid hD
        have HBEL := Lib.hid hbel
        have HOWN := Lib.hid hown
        clear hx0 hD hbel hown HX
        go_wp2_with fail
        refine HD.out.mono ?_
        rintro e w2 ⟨gq, cq, rfl, hcq, hrq, hb2⟩
        have hown2 := own_next HOWN.out hb2
        have hbel2 := HBEL.out.trans (hb2.mono HBEL.out.size)
        have HRQ := Lib.hid hrq
        have HBEL2 := Lib.hid hbel2
        have HCQ := Lib.hid hcq
        have HOWN2 := Lib.hid hown2
        obtain ⟨r0, hr0⟩ : ∃ r0, r0 = x % 1000000000 := ⟨_, rfl⟩
        rw [← hr0]
        have hr0l : r0 < 10 ^ (9 - 0) := by rw [hr0]; exact Nat.mod_lt _ (by decide)
        obtain ⟨V, hV⟩ : ∃ V, V = valT ds + 10 ^ ds.length * r0 := ⟨_, rfl⟩
        have HV := Lib.hid (And.intro hV hr0)
        have HR0 := Lib.hid hr0l
        clear hr0 hr0l hrq hb2 hcq hbel2 hown2 hV
        go_wp2_with fail
        go_loopw [4, 5, 19] (fun dd rr mm ww => ∃ (m r : Nat) (es : List Nat), m ≤ 9 ∧ mm = .int .i64 (m : Int) ∧ rr = .int .u32 (r : Int) ∧ r < 1000000000 ∧ Hid (r < 10 ^ (9 - m)) ∧ es.length = ds.length + m ∧ ww.ownsRow w1.heap.size 5 1 dd es.length ((es.map (48 + ·)).map (fun (x : Nat) => Value.int .u8 (x : Int))) ∧ Hid (Ten es ∧ valT es + 10 ^ es.length * r = V) ∧ Hid (KRow .u32 60 ww gq (limbs (x / 1000000000))) ∧ Below w1.heap.size w1 ww) (fun _ _ mm _ => 9 - (intOf mm).toNat)
        case atStart => exact ⟨0, r0, ds, by omega, rfl, rfl, by have := HR0.out; simpa using this, HR0.out, by omega, HOWN2.out, ⟨HI.out.1, HV.out.1.symm⟩, HRQ, HBEL2.out⟩
        case round =>
          obtain ⟨m, r, es, hm, rfl, rfl, hrl, HRL, hel, hown, HE, HQR, hbel⟩ := hrel
          obtain ⟨A', c', hv, _, hle⟩ := own_shape hown
          subst hv
          have hw1s := HBEL2.out.size
          have hws := hbel.size
          by_cases hlt : m < 9
          · have HE2 : Hid (Ten (es ++ [r % 10]) ∧ valT (es ++ [r % 10]) + 10 ^ (es ++ [r % 10]).length * (r / 10) = V) := by
              refine ⟨?_, fmt_step HE.out.2⟩
              intro y hy
              rcases List.mem_append.1 hy with hy | hy
              · exact HE.out.1 y hy
              · simp at hy; omega
            have HRL2 := Lib.hid (pow9 HRL.out hlt)
            have HEL := Lib.hid hel
            have hel' : es.length ≤ ds.length + 9 := by omega
            have hel2 : es.length ≤ 1800000 := by omega
            clear HRL HE hm hel
            go_wp2_with (at_builtin; refine wpList_append_own _ rfl (.tmp 21) (.tmp 26) 35 rfl w1.heap.size 5 i0 (.int .u8 0) 1 1 Tryd.underlying35 HI0.out.1 HI0.out.2.1 HI0.out.2.2.1 HI0.out.2.2.2 rfl (by decide) _ _ _ rfl (by exact hown.alloc _) _ 1 1 _ rfl rfl (rd_new_cells _ _ _ _ (by simp)) (by simp [Value.oneCell']) (by simp only [maxLen]; omega) (by omega) (by simp <;> omega) ?_)
            intro v' w3 hown' hg _
            have hb1 : Below w1.heap.size w1 w3 := Below.grown (hbel.alloc hws _) hg (by simp <;> omega) (fun q hq => (hown.lt q hq).1)
            have HQR2 : Hid (KRow .u32 60 w3 gq (limbs (x / 1000000000))) := by
              have h1 := HQR.out.alloc (.cells #[.int .u8 (48 + (r : Int) % 10)] 5)
              exact h1.same (hg.block gq h1.lt (own_ne (T1 := 5) (T2 := 60) (hown.alloc _) h1 (by decide)))
            have h2 : w3.ownsRow w1.heap.size 5 1 v' (es ++ [r % 10]).length (((es ++ [r % 10]).map (48 + ·)).map (fun (x : Nat) => Value.int .u8 (x : Int))) := by
              have e : (es ++ [r % 10]).length = es.length + 1 := by simp
              rw [e]
              simpa using hown'
            have H2 := Lib.hid h2
            clear hown' hg hown h2 hbel
            go_wp2_with fail
            go_roundw
            case measure => simp [intOf] <;> omega
            case rel => exact ⟨m + 1, r / 10, es ++ [r % 10], by omega, by go_num, by go_num, by omega, HRL2.out, by have := HEL.out; simp; omega, H2.out, HE2.out, HQR2, hb1⟩
          · obtain rfl : m = 9 := by omega
            have hr0 : r = 0 := by have := HRL.out; simpa using this
            have HX2 : Hid (Ten es ∧ valT es + 10 ^ es.length * (x / 1000000000) = a ∧ (es = [] → x / 1000000000 = a)) := by
              obtain ⟨h1, h2⟩ := HE.out
              refine ⟨h1, fmt_outer HI.out.2.1 (V := V) (by rw [HV.out.1, HV.out.2]) (by rw [hr0] at h2; simpa using h2) hel, ?_⟩
              intro h; rw [h] at hel; simp at hel
            have hlq : (limbs (x / 1000000000)).length ≤ 100000 := by have := limbs_mono (Nat.div_le_self x 1000000000); omega
            have HOW := Lib.hid hown
            have HBB := Lib.hid hbel
            have HRQ2 := Lib.hid HQR.out.rd
            clear hown hbel HE HRL hr0 hlt
            go_wp2_with fail
            go_roundg (gk - 1)
            case measure => omega
            case rel => exact ⟨x / 1000000000, some ⟨gq, 0, none⟩, cq, es, rfl, hlq, by omega, HXP2.out, HCQ.out, HRQ2, HOW.out, by omega, HX2.out, HBB.out⟩

end Go.Proofs.YtmlbolfopakgmaaDoor

/- insolvencyref1.NatParse; NaturalParse: the plain walk. -/
import Derived.Test.YtmlbolfopakgmaaDoorValue
import Derived.Test.YtmlbolfopakgmaaDoorFew2
set_option linter.unusedVariables false
set_option linter.unusedSimpArgs false
namespace Go.Proofs.YtmlbolfopakgmaaDoor
open Go.RowKit

set_option maxHeartbeats 1000000 in
theorem digits_empty_calls (w : World) : Calls Tryd.prog 51 #[.string ⟨#[]⟩] w fun e w' => e = .returned (.bool false) ∧ w' = w := by
  have hz : (⟨#[]⟩ : ByteArray).size = 0 := rfl
  go_enter Tryd.func51, Tryd.ntmps51
  go_wp2_with fail
  go_loop [3] (fun ii => ii = .int .i64 0) (fun _ => 0)
  case atStart => rfl
  case round =>
    subst hrel
    go_wp2_with fail
    go_ret
    exact ⟨rfl, rfl⟩

set_option maxHeartbeats 1000000 in
theorem natParse_bad (s : ByteArray) (H : ∀ w, Calls Tryd.prog 51 #[.string s] w fun e w' => e = .returned (.bool false) ∧ w' = w) (w : World) : Calls Tryd.prog 24 #[.string s] w fun e w' => e = .returned (.tuple #[.string ⟨#[]⟩, .int .i64 3]) ∧ Below w.heap.size w w' := by
  have HH := Lib.hid H
  clear H
  go_enter Tryd.func24, Tryd.ntmps24
  go_wp2_with fail
  refine (HH.out _).mono ?_
  rintro e w1 ⟨rfl, rfl⟩
  go_wp2_with fail
  go_ret2
  exact ⟨rfl, Below.refl _ _⟩

set_option maxHeartbeats 1000000 in
theorem natParse_long (s : ByteArray) (H : ∀ w, Calls Tryd.prog 51 #[.string s] w fun e w' => e = .returned (.bool true) ∧ w' = w) (hs : 2000 < s.size) (w : World) : Calls Tryd.prog 24 #[.string s] w fun e w' => e = .returned (.tuple #[.string ⟨#[]⟩, .int .i64 2]) ∧ Below w.heap.size w w' := by
  have HH := Lib.hid H
  clear H
  go_enter Tryd.func24, Tryd.ntmps24
  go_wp2_with fail
  refine (HH.out _).mono ?_
  rintro e w1 ⟨rfl, rfl⟩
  go_wp2_with fail
  go_ret2
  exact ⟨rfl, Below.refl _ _⟩

set_option maxHeartbeats 1000000 in
theorem natParse_ok (s : ByteArray) (H : ∀ w, Calls Tryd.prog 51 #[.string s] w fun e w' => e = .returned (.bool true) ∧ w' = w) (hs : s.size ≤ 2000) (hd : Dgt s.data.toList) (w : World) : Calls Tryd.prog 24 #[.string s] w fun e w' => e = .returned (.tuple #[.string (ncan (decv s.data.toList)), .int .i64 0]) ∧ Below w.heap.size w w' := by
  have HH := Lib.hid H
  have HV := Lib.hid (fun w => value_calls s w hs hd)
  clear H hd
  go_enter Tryd.func24, Tryd.ntmps24
  go_wp2_with fail
  refine (HH.out _).mono ?_
  rintro e w1 ⟨rfl, rfl⟩
  go_wp2_with fail
  refine (HV.out _).mono ?_
  rintro e w2 ⟨A, c, l, rfl, hlc, hll, hdig, hval, hrd, hb2⟩
  have HT := textRef_calls A c l w2 hrd hdig hlc (by omega)
  rw [hval] at HT
  have HT := Lib.hid HT
  have HB := Lib.hid hb2
  clear hdig hval hrd hb2
  go_wp2_with fail
  refine HT.out.mono ?_
  rintro e w3 ⟨rfl, hb3⟩
  have HB3 := Lib.hid (HB.out.trans (hb3.mono HB.out.size))
  clear hb3
  go_wp2_with fail
  go_ret2
  exact ⟨rfl, HB3.out⟩

set_option maxHeartbeats 4000000 in
set_option maxRecDepth 100000 in
theorem parseLaw_of (s v : ByteArray) (e0 : Int) (he : e0 = 0 ∨ e0 = 2 ∨ e0 = 3) (w : World) (hs : s.size ≤ 2005)
    (P : ∀ w, Calls Tryd.prog 23 #[.string s] w fun e w' => e = .returned (.tuple #[.string v, .int .i64 e0]) ∧ Below w.heap.size w w')
    (R : ∀ w, Calls Tryd.prog 24 #[.string s] w fun e w' => e = .returned (.tuple #[.string v, .int .i64 e0]) ∧ Below w.heap.size w w') :
    Calls Tryd.prog 5 #[.string s] w fun e w' => e = .returned (.bool true) ∧ Below w.heap.size w w' := by
  have HP := Lib.hid P
  have HR := Lib.hid R
  have HBA : Hid (Below w.heap.size w w) := Below.refl _ _
  clear P R
  rcases he with rfl | rfl | rfl <;>
  · go_enter Tryd.func5, Tryd.ntmps5
    go_wp2_with fail
    refine (HP.out _).mono ?_
    rintro e wz1 ⟨rfl, hbz⟩
    have HBZ1 : Hid (Below w.heap.size w wz1) := HBA.out.trans (hbz.mono HBA.out.size)
    clear hbz
    go_wp2_with fail
    refine (HR.out _).mono ?_
    rintro e wz2 ⟨rfl, hbz⟩
    have HBZ2 : Hid (Below w.heap.size w wz2) := HBZ1.out.trans (hbz.mono HBZ1.out.size)
    clear hbz
    go_wp2_with fail
    refine (awake1_calls _).mono ?_
    rintro e wz3 ⟨rfl, hbz⟩
    have HBZ3 : Hid (Below w.heap.size w wz3) := HBZ2.out.trans (hbz.mono HBZ2.out.size)
    clear hbz
    have HBZ := HBZ3
    go_wp2_with fail
    go_ret
    exact ⟨rfl, HBZ.out⟩

theorem parseLaw (s : ByteArray) (w : World) (hs : s.size ≤ maxLen) : Calls Tryd.prog 5 #[.string s] w fun e w' => e = .returned (.bool true) ∧ Below w.heap.size w w' := by
  unfold maxLen at hs
  by_cases hb : 2005 < s.size
  · go_enter Tryd.func5, Tryd.ntmps5
    go_wp2_with fail
    refine (awake1_calls _).mono ?_
    rintro e w1 ⟨rfl, hb1⟩
    go_wp2_with fail
    go_ret
    exact ⟨rfl, hb1⟩
  · have hb' : s.size ≤ 2005 := by omega
    have h63 : s.size ≤ 9223372036854775807 := by omega
    by_cases h0 : s.size = 0
    · have he : s = ⟨#[]⟩ := by
        rw [← bstr_data s, show s.data.toList = [] from List.eq_nil_of_length_eq_zero (by rw [← Lib.size_eq]; exact h0)]; rfl
      subst he
      exact parseLaw_of _ ⟨#[]⟩ 3 (by omega) w hb' (fun w => (parse_empty_calls w).mono fun e w' ⟨h1, h2⟩ => ⟨h1, h2 ▸ Below.refl _ _⟩) (natParse_bad _ digits_empty_calls)
    · have hp : 0 < s.size := by omega
      by_cases hz : 1 < s.size ∧ (s[0]'hp).toNat = 48
      · have HP : ∀ w, Calls Tryd.prog 23 #[.string s] w fun e w' => e = .returned (.tuple #[.string ⟨#[]⟩, .int .i64 3]) ∧ Below w.heap.size w w' := fun w => (parse_zero_calls s w hz.1 (fun _ => hz.2)).mono fun e w' ⟨h1, h2⟩ => ⟨h1, h2 ▸ Below.refl _ _⟩
        by_cases hd : Dgt s.data.toList
        · exact parseLaw_of s ⟨#[]⟩ 3 (by omega) w hb' HP (natParse_bad s fun w => digits_calls s w h63 hp hd false ⟨fun h => Bool.noConfusion h, fun h => by rcases h with h | h <;> omega⟩)
        · exact parseLaw_of s ⟨#[]⟩ 3 (by omega) w hb' HP (natParse_bad s fun w => digits_non_calls s w h63 hd)
      · have hg : s.size = 1 ∨ (s[0]'hp).toNat ≠ 48 := by omega
        by_cases hd : Dgt s.data.toList
        · have HDg : ∀ w, Calls Tryd.prog 51 #[.string s] w fun e w' => e = .returned (.bool true) ∧ w' = w := fun w => digits_calls s w h63 hp hd true ⟨fun _ => hg, fun _ => rfl⟩
          by_cases hl : s.size ≤ 2000
          · exact parseLaw_of s _ 0 (by omega) w hb' (fun w => parse_ok_calls s w hp hl (fun _ => hg) hd) (natParse_ok s HDg hl hd)
          · exact parseLaw_of s ⟨#[]⟩ 2 (by omega) w hb' (fun w => parse_long_calls s w (by omega) h63 (fun _ => hg.resolve_left (by omega)) hd) (natParse_long s HDg (by omega))
        · exact parseLaw_of s ⟨#[]⟩ 3 (by omega) w hb' (fun w => parse_non_calls s w hp h63 (fun _ => hg) hd) (natParse_bad s fun w => digits_non_calls s w h63 hd)

end Go.Proofs.YtmlbolfopakgmaaDoor

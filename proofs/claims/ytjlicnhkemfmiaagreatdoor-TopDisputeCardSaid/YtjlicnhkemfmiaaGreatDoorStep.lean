/- natural.step: a digit of the quotient. -/
import Derived.Test.YtjlicnhkemfmiaaGreatDoorM5
import Derived.Deep.DeepCutAuto
import Derived.Deep.CutBlock
set_option linter.unusedVariables false
set_option linter.unusedSimpArgs false
set_option maxHeartbeats 8000000
namespace Go.Proofs.YtjlicnhkemfmiaaGreatDoor
open Go.RowKit

/-- block g alone has turned, and new ones have come -/
structure Only (g : Nat) (w w' : World) : Prop where
 os : w'.os = w.os
 tape : w'.tape = w.tape
 output : w'.output = w.output
 size : w.heap.size ≤ w'.heap.size
 block : ∀ k, k < w.heap.size → k ≠ g → w'.heap[k]? = w.heap[k]?
section
variable {g : Nat} {w w' w1 w2 w3 : World}
theorem Only.refl (g : Nat) (w : World) : Only g w w := ⟨rfl, rfl, rfl, Nat.le_refl _, fun _ _ _ => rfl⟩
theorem Only.trans (h : Only g w1 w2) (k : Only g w2 w3) : Only g w1 w3 :=
 ⟨k.os.trans h.os, k.tape.trans h.tape, k.output.trans h.output, Nat.le_trans h.size k.size, fun i hi h1 => (k.block i (Nat.lt_of_lt_of_le hi h.size) h1).trans (h.block i hi h1)⟩
theorem Only.drew (h : Only g w1 w2) : Only g w1 w2.drew := ⟨h.os, h.tape, h.output, h.size, h.block⟩
theorem Only.drewN (h : Only g w1 w2) (k : Nat) : Only g w1 (w2.drewN k) := ⟨h.os, h.tape, h.output, h.size, h.block⟩
theorem Only.setC (h : Only g w1 w2) (k : Nat) (u : Value) : Only g w1 (w2.setCell ⟨g, k, none⟩ u) :=
 h.trans ⟨rfl, rfl, rfl, by simp [World.setCell], fun i hi h1 => heap_setCell_other w2 ⟨g, k, none⟩ i u h1⟩
theorem Only.at_ (h : Only g w1 w2) (B : Nat) (h0 : B ≤ w1.heap.size) (h1 : B ≤ g) : Below B w1 w2 :=
 ⟨h.os, h.tape, h.output, h.size, fun k hk => h.block k (by omega) (by omega)⟩
theorem KRow.only {k : IntKind} {T : TypeId} {g2 : Nat} {xs : List Nat} (h : KRow k T w1 g2 xs) (ho : Only g w1 w2) (hne : g2 ≠ g) : KRow k T w2 g2 xs := h.same (ho.block g2 h.lt hne)
end

theorem row_getD (pre o rest : List Nat) (k : Nat) (h : k < rest.length) : (pre ++ (o ++ rest)).getD (pre.length + (o.length + k)) 0 = rest.getD k 0 := by
 rw [List.getD_eq_getElem?_getD, List.getElem?_append_right (by omega), List.getElem?_append_right (by omega), List.getD_eq_getElem?_getD]
 congr 2; omega
theorem row_set (pre o rest : List Nat) (r z : Nat) : (pre ++ (o ++ r :: rest)).set (pre.length + o.length) z = pre ++ ((o ++ [z]) ++ rest) := by
 rw [List.set_append_right _ _ (by omega), List.set_append_right _ _ (by omega)]
 have : pre.length + o.length - pre.length - o.length = 0 := by omega
 rw [this]; simp

theorem KRow.at_ {k : IntKind} {T : TypeId} {w : World} {g i : Nat} {pre us post : List Nat} (h : KRow k T w g (pre ++ (us ++ post))) (hi : pre.length = i) {j : Nat} (hj : j < us.length) : w.cell? ⟨g, i + j, none⟩ = some (.int k ((us.getD j 0 : Nat) : Int)) := by
 subst hi
 have := h.getD (j := pre.length + j) (by simp; omega)
 have e : (pre ++ (us ++ post)).getD (pre.length + j) 0 = us.getD j 0 := by
  rw [List.getD_eq_getElem?_getD, List.getElem?_append_right (by omega), List.getElem?_append_left (by omega), List.getD_eq_getElem?_getD]
  congr 2; omega
 rwa [e] at this

theorem KRow.cellAt {k : IntKind} {T : TypeId} {w : World} {g i j : Nat} {pre o us post : List Nat} (h : KRow k T w g (pre ++ (o ++ us.drop j ++ post))) (hi : pre.length = i) (ho : o.length = j) (hj : j < us.length) : w.cell? ⟨g, i + j, none⟩ = some (.int k ((us.getD j 0 : Nat) : Int)) := by
 subst hi ho
 have e : (pre ++ (o ++ us.drop o.length ++ post)).getD (pre.length + o.length) 0 = us.getD o.length 0 := by
  rw [List.append_assoc]
  have := row_getD pre o (us.drop o.length ++ post) 0 (by rw [List.length_append, List.length_drop]; omega)
  rw [Nat.add_zero] at this
  rw [this]
  rw [List.getD_eq_getElem?_getD, List.getElem?_append_left (by rw [List.length_drop]; omega), List.getElem?_drop, Nat.add_zero, ← List.getD_eq_getElem?_getD]
 have := h.getD (j := pre.length + o.length) (by simp; omega)
 rwa [e] at this
theorem row_put {i j : Nat} {pre o us post : List Nat} (hi : pre.length = i) (ho : o.length = j) (hj : j < us.length) (z : Nat) : (pre ++ (o ++ us.drop j ++ post)).set (i + j) z = pre ++ ((o ++ [z]) ++ us.drop (j + 1) ++ post) := by
 subst hi ho
 rw [List.drop_eq_getElem_cons hj, List.append_assoc, List.cons_append, row_set, List.append_assoc (o ++ [z])]

/-- behind the loop that guesses -/
def GMid (g : Nat) (w : World) (row us d : List Nat) (s7 : Value) (wx : World) : Prop :=
 ∃ gg : Nat, s7 = .int .u64 (gg : Int) ∧ gg < 4294967296 ∧ (valL us / valL d ≤ gg ∧ gg ≤ valL us / valL d + 1) ∧ KRow .u32 152 wx g row ∧ Only g w wx

set_option maxRecDepth 1000000 in
theorem step_calls (g i n cu cd B : Nat) (D : Option Addr) (pre us post d : List Nat) (w : World) (hrow : KRow .u32 152 w g (pre ++ (us ++ post))) (hi : pre.length = i) (hi2 : i ≤ 1000000000) (hD : KRd .u32 w B D d) (hB : B ≤ g) (hk : Kn n us d) (hn : n ≤ 1000000000) :
 Calls Tryz.prog 138 #[.slice (some ⟨g, i, none⟩) (n + 1) cu, .slice D n cd] w fun e w' => ∃ o, e = .returned (.int .u32 ((valL us / valL d : Nat) : Int)) ∧ o.length = n ∧ Dig o ∧ valL o = valL us % valL d ∧ KRow .u32 152 w' g (pre ++ ((o ++ [0]) ++ post)) ∧ Only g w w' := by
 have hn2 := hk.n2
 have hul := hk.lu
 have hdl := hk.ld
 have hgs := hrow.lt
 obtain ⟨bd, offd, rfl, hbd, hdc⟩ := hD.open_ (by omega)
 have c1 := hrow.at_ hi (j := n) (by omega)
 have c2 := hrow.at_ hi (j := n - 1) (by omega)
 have c3 := hrow.at_ hi (j := n - 2) (by omega)
 have k1 := hdc (n - 1) _ (getElem?_getD (by omega))
 have k2 := hdc (n - 2) _ (getElem?_getD (by omega))
 have hG0 := Gs.start hk
 obtain ⟨un, hun⟩ : ∃ x, x = us.getD n 0 := ⟨_, rfl⟩
 obtain ⟨un1, hun1⟩ : ∃ x, x = us.getD (n - 1) 0 := ⟨_, rfl⟩
 obtain ⟨un2, hun2⟩ : ∃ x, x = us.getD (n - 2) 0 := ⟨_, rfl⟩
 obtain ⟨d1, hd1⟩ : ∃ x, x = d.getD (n - 1) 0 := ⟨_, rfl⟩
 obtain ⟨d2, hd2⟩ : ∃ x, x = d.getD (n - 2) 0 := ⟨_, rfl⟩
 rw [← hun] at c1
 rw [← hun1] at c2
 rw [← hun2] at c3
 rw [← hd1] at k1
 rw [← hd2] at k2
 rw [← hun, ← hun1, ← hd1] at hG0
 have hunl : un < 4294967296 := by rw [hun]; exact hk.du.getD _
 have hun1l : un1 < 4294967296 := by rw [hun1]; exact hk.du.getD _
 have hun2l : un2 < 4294967296 := by rw [hun2]; exact hk.du.getD _
 have hd1l : d1 < 4294967296 := by rw [hd1]; exact hk.dd.getD _
 have hd2l : d2 < 4294967296 := by rw [hd2]; exact hk.dd.getD _
 have hd1t : 2147483648 ≤ d1 := by rw [hd1]; exact hk.top
 obtain ⟨top, htop⟩ : ∃ x, x = un * 4294967296 + un1 := ⟨_, rfl⟩
 obtain ⟨g0, hg0⟩ : ∃ x, x = top / d1 := ⟨_, rfl⟩
 obtain ⟨r0, hr0⟩ : ∃ x, x = top % d1 := ⟨_, rfl⟩
 have hr0l : r0 < d1 := by rw [hr0]; exact Nat.mod_lt _ (by omega)
 rw [← htop, ← hg0, ← hr0] at hG0
 have htb : top < 18446744073709551616 := by omega
 have hg0b := (hG0.bd hk).1
 have w1 : bits .or .u64 ((un : Int) * 4294967296) (un1 : Int) = (top : Int) := by
  have := or_u64' un1 (un * 4294967296) 32 un hun1l (by omega) (by omega)
  rw [htop, ← this]; simp
 have w2 : (top : Int).tdiv (d1 : Int) = (g0 : Int) := by rw [Int.tdiv_eq_ediv_of_nonneg (by omega), hg0]; simp
 have w3 : (top : Int).tmod (d1 : Int) = (r0 : Int) := by rw [Int.tmod_eq_emod_of_nonneg (by omega), hr0]; simp
 have w4 : (top : Int) / (d1 : Int) = (g0 : Int) := by rw [hg0]; simp
 have w5 : (top : Int) % (d1 : Int) = (r0 : Int) := by rw [hr0]; simp
 have w6 : IntKind.u64.wrap (un : Int) = (un : Int) := IntWalk.u64_in _ (by omega)
 have w7 : IntKind.u64.wrap (un1 : Int) = (un1 : Int) := IntWalk.u64_in _ (by omega)
 have w8 : IntKind.u64.wrap (d1 : Int) = (d1 : Int) := IntWalk.u64_in _ (by omega)
 have w9 : IntKind.u64.wrap ((un : Int) * 4294967296) = (un : Int) * 4294967296 := IntWalk.u64_in _ (by omega)
 have w10 : IntKind.u64.wrap (g0 : Int) = (g0 : Int) := IntWalk.u64_in _ (by omega)
 have w11 : IntKind.i64.wrap ((n : Int) - 1) = (n : Int) - 1 := IntWalk.i64_in _ (by omega)
 have hz1 : ((d1 : Int) == 0) = false := by simp; omega
 have n1 : (0 : Int) ≤ (n : Int) - 1 := by omega
 have n2 : ((n : Int) - 1).toNat = n - 1 := by omega
 have HK := Lib.hid hk
 have HROW := Lib.hid hrow
 have HDC := Lib.hid hdc
 have HG0 := Lib.hid hG0
 have HUN := Lib.hid (And.intro hun (And.intro hun1 hun2))
 have HDD := Lib.hid (And.intro hd1 hd2)
 have HTOP := Lib.hid htop
 have HLEN := Lib.hid (And.intro hul hdl)
 have HPRE := Lib.hid hi
 have hin : i + (n - 1) = i + n - 1 := by omega
 clear hk hrow hD hdc hG0 hun hun1 hun2 hd1 hd2 htop hg0 hr0 hul hdl hi hin
 go_enter Tryz.func138, Tryz.ntmps138
 go_wp2_with fail
 go_quiet (fail)
 go_wp2_with fail
 go_quiet (fail)
 go_upto_block 0 with fail
 clear w1 w2 w3 w4 w5 w6 w7 w9 w10 c1 c2 c3 k1 k2
 go_cut [7] (fun s7 wx => GMid g w (pre ++ (us ++ post)) us d s7 wx)
 case first =>
  go_wp2_with fail
  go_loopw [7, 8] (fun gg rr wr => ∃ g1 r1 : Nat, gg = .int .u64 (g1 : Int) ∧ rr = .int .u64 (r1 : Int) ∧ r1 < 4294967296 ∧ g1 ≤ 4294967297 ∧ Hid (Gs n us d g1 r1) ∧ KRow .u32 152 wr g (pre ++ (us ++ post)) ∧ Only g w wr) (fun gg _ _ => (intOf gg).toNat)
  case atStart => exact ⟨g0, r0, rfl, rfl, by omega, hg0b, HG0, (HROW.out.drewN _).drewN _, ((Only.refl g w).drewN _).drewN _⟩
  case round =>
   obtain ⟨g1, r1, rfl, rfl, hr1, hg1, HG, hrow, ho⟩ := hrel
   have hgs1 := hrow.lt
   have c3 := hrow.at_ HPRE.out (j := n - 2) (by have := HLEN.out; omega)
   rw [← HUN.out.2.2] at c3
   have hbw := ho.at_ B (by omega) hB
   have k1 := (hbw.cell (p := ⟨bd, offd + (n - 1), none⟩) hbd).trans (HDC.out (n - 1) _ (getElem?_getD (by have := HLEN.out; omega)))
   have k2 := (hbw.cell (p := ⟨bd, offd + (n - 2), none⟩) hbd).trans (HDC.out (n - 2) _ (getElem?_getD (by have := HLEN.out; omega)))
   rw [← HDD.out.1] at k1
   rw [← HDD.out.2] at k2
   have HR1 := Lib.hid hrow
   clear hrow
   by_cases hT : 4294967296 ≤ g1 ∨ (g1 < 4294967296 ∧ r1 * 4294967296 + un2 < g1 * d2)
   ·
    have HD := Gs.down HK.out HG.out (hT.imp id fun h => by rw [← HUN.out.2.2, ← HDD.out.2]; exact h.2)
    rw [← HDD.out.1] at HD
    obtain ⟨hge1, hGs⟩ := HD
    have HGS := Lib.hid hGs
    have HT := Lib.hid hT
    have v1 : IntKind.u64.wrap ((r1 : Int) + (d1 : Int)) = (r1 : Int) + (d1 : Int) := IntWalk.u64_in _ (by omega)
    have hcast : ((g1 - 1 : Nat) : Int) = (g1 : Int) - 1 := by omega
    have HCAST := Lib.hid hcast
    have v2 : IntKind.u64.wrap ((g1 : Int) - 1) = (g1 : Int) - 1 := IntWalk.u64_in _ (by omega)
    have HG1 := Lib.hid hg1
    have HGL : Hid (4294967296 ≤ r1 + d1 → g1 - 1 < 4294967296 ∧ valL us / valL d ≤ g1 - 1 ∧ g1 - 1 ≤ valL us / valL d + 1) := fun hh => by
     have := Gs.last HK.out HGS.out (.inl hh)
     exact ⟨this.1, HGS.out.ge, this.2⟩
    clear hGs hT hcast hg1 hg0b hr0l htb
    by_cases hA : 4294967296 ≤ g1
    ·
     have hA1 : decide ((4294967296 : Int) ≤ (g1 : Int)) = true := by simp; omega
     have hA2 : (4294967296 : Int) ≤ (g1 : Int) := by omega
     clear hA
     by_cases hbk : 4294967296 ≤ r1 + d1
     ·
      have hB1 : decide ((4294967296 : Int) ≤ (r1 : Int) + (d1 : Int)) = true := by simp; omega
      obtain ⟨l1, l2⟩ := HGL.out hbk
      have HL1 := Lib.hid l1
      clear hbk l1
      go_wp2_with fail
      go_quiet (fail)
      go_wp2_with fail
      go_meet
      exact ⟨g1 - 1, by rw [HCAST.out], HL1.out, l2, HR1.out.drewN _, ho.drewN _⟩
     ·
      have hB1 : decide ((4294967296 : Int) ≤ (r1 : Int) + (d1 : Int)) = false := by simp; omega
      have HBK := Lib.hid hbk
      clear hbk
      go_wp2_with fail
      go_quiet (fail)
      go_wp2_with fail
      go_roundw
      case measure => simp [intOf] <;> omega
      case rel => exact ⟨g1 - 1, r1 + d1, by rw [HCAST.out], by go_num, by have := HBK.out; omega, by have := HG1.out; omega, HGS.out, HR1.out.drewN _, ho.drewN _⟩
    ·
     have hA1 : decide ((4294967296 : Int) ≤ (g1 : Int)) = false := by simp; omega
     have hA2 : ¬ (4294967296 : Int) ≤ (g1 : Int) := by omega
     obtain ⟨p, hp⟩ : ∃ p, p = g1 * d2 := ⟨_, rfl⟩
     obtain ⟨q2, hq2⟩ : ∃ q2, q2 = r1 * 4294967296 + un2 := ⟨_, rfl⟩
     have hpb : p < 18446744073709551616 := by
      rw [hp]
      have : g1 * d2 ≤ 4294967295 * 4294967295 := Nat.mul_le_mul (by omega) (by omega)
      omega
     have hqb : q2 < 18446744073709551616 := by omega
     have u1 : (g1 : Int) * (d2 : Int) = (p : Int) := by rw [hp]; simp
     have u2 : IntKind.u64.wrap (p : Int) = (p : Int) := IntWalk.u64_in _ (by omega)
     have u3 : bits .or .u64 ((r1 : Int) * 4294967296) (un2 : Int) = (q2 : Int) := by
      have := or_u64' un2 (r1 * 4294967296) 32 r1 hun2l (by omega) (by omega)
      rw [hq2, ← this]; simp
     have u4 : IntKind.u64.wrap ((r1 : Int) * 4294967296) = (r1 : Int) * 4294967296 := IntWalk.u64_in _ (by omega)
     have u5 : IntKind.u64.wrap (un2 : Int) = (un2 : Int) := IntWalk.u64_in _ (by omega)
     have u6 : IntKind.u64.wrap (d2 : Int) = (d2 : Int) := IntWalk.u64_in _ (by omega)
     have u7 : IntKind.i64.wrap ((n : Int) - 2) = (n : Int) - 2 := IntWalk.i64_in _ (by omega)
     have u8 : (0 : Int) ≤ (n : Int) - 2 := by omega
     have u9 : ((n : Int) - 2).toNat = n - 2 := by omega
     have u10 : decide ((q2 : Int) < (p : Int)) = true := by
      simp; rw [hq2, hp]; exact (HT.out.resolve_left hA).2
     have u11 : (q2 : Int) < (p : Int) := by simpa using u10
     clear hp hq2 hA hpb hqb
     by_cases hbk : 4294967296 ≤ r1 + d1
     ·
      have hB1 : decide ((4294967296 : Int) ≤ (r1 : Int) + (d1 : Int)) = true := by simp; omega
      obtain ⟨l1, l2⟩ := HGL.out hbk
      have HL1 := Lib.hid l1
      clear hbk l1
      go_wp2_with fail
      go_quiet (fail)
      go_wp2_with fail
      go_meet
      exact ⟨g1 - 1, by rw [HCAST.out], HL1.out, l2, HR1.out.drewN _, ho.drewN _⟩
     ·
      have hB1 : decide ((4294967296 : Int) ≤ (r1 : Int) + (d1 : Int)) = false := by simp; omega
      have HBK := Lib.hid hbk
      clear hbk
      go_wp2_with fail
      go_quiet (fail)
      go_wp2_with fail
      go_roundw
      case measure => simp [intOf] <;> omega
      case rel => exact ⟨g1 - 1, r1 + d1, by rw [HCAST.out], by go_num, by have := HBK.out; omega, by have := HG1.out; omega, HGS.out, HR1.out.drewN _, ho.drewN _⟩
   ·
    have hA : g1 < 4294967296 := by omega
    obtain ⟨p, hp⟩ : ∃ p, p = g1 * d2 := ⟨_, rfl⟩
    obtain ⟨q2, hq2⟩ : ∃ q2, q2 = r1 * 4294967296 + un2 := ⟨_, rfl⟩
    have hT2 : p ≤ q2 := by
     rcases Nat.lt_or_ge q2 p with h | h
     ·
      exfalso; exact hT (.inr ⟨hA, by rw [← hq2, ← hp]; exact h⟩)
     ·
      exact h
    have hpb : p < 18446744073709551616 := by
     rw [hp]
     have : g1 * d2 ≤ 4294967295 * 4294967295 := Nat.mul_le_mul (by omega) (by omega)
     omega
    have hqb : q2 < 18446744073709551616 := by omega
    have HGL : Hid (g1 < 4294967296 ∧ valL us / valL d ≤ g1 ∧ g1 ≤ valL us / valL d + 1) := by
     have := Gs.last HK.out HG.out (.inr ⟨hA, by rw [← HUN.out.2.2, ← HDD.out.2, ← hp, ← hq2]; exact hT2⟩)
     exact ⟨this.1, HG.out.ge, this.2⟩
    have hA1 : decide ((4294967296 : Int) ≤ (g1 : Int)) = false := by simp; omega
    have hA2 : ¬ (4294967296 : Int) ≤ (g1 : Int) := by omega
    have u1 : (g1 : Int) * (d2 : Int) = (p : Int) := by rw [hp]; simp
    have u2 : IntKind.u64.wrap (p : Int) = (p : Int) := IntWalk.u64_in _ (by omega)
    have u3 : bits .or .u64 ((r1 : Int) * 4294967296) (un2 : Int) = (q2 : Int) := by
     have := or_u64' un2 (r1 * 4294967296) 32 r1 hun2l (by omega) (by omega)
     rw [hq2, ← this]; simp
    have u4 : IntKind.u64.wrap ((r1 : Int) * 4294967296) = (r1 : Int) * 4294967296 := IntWalk.u64_in _ (by omega)
    have u5 : IntKind.u64.wrap (un2 : Int) = (un2 : Int) := IntWalk.u64_in _ (by omega)
    have u6 : IntKind.u64.wrap (d2 : Int) = (d2 : Int) := IntWalk.u64_in _ (by omega)
    have u7 : IntKind.i64.wrap ((n : Int) - 2) = (n : Int) - 2 := IntWalk.i64_in _ (by omega)
    have u8 : (0 : Int) ≤ (n : Int) - 2 := by omega
    have u9 : ((n : Int) - 2).toNat = n - 2 := by omega
    have u10 : decide ((q2 : Int) < (p : Int)) = false := by simp; omega
    have u11 : (p : Int) ≤ (q2 : Int) := by omega
    clear hp hq2 hA hA2 hpb hqb hT hT2 hg1 hg0b hr0l htb u10
    go_wp2_with fail
    go_quiet (fail)
    clear u1 u2 u3 u4 u5 u6 u7 u8 u9
    go_wp2_with fail
    go_meet
    exact ⟨g1, rfl, HGL.out.1, HGL.out.2, HR1.out.drewN _, ho.drewN _⟩
 case rest =>
  obtain ⟨gg, rfl, hgg, HQ0, hrow, ho⟩ := hcut
  have HQ := Lib.hid HQ0
  have HR0 := Lib.hid hrow
  have HO0 := Lib.hid ho
  have hgs0 : B ≤ w.heap.size := by omega
  clear HQ0 hunl hun1l hun2l hd1l hd2l hd1t hg0b hr0l htb w8 w11 hz1 n1 n2 hrow ho
  go_wp2_with fail
  go_loopw [9, 10, 84] (fun cc bb ii wr => ∃ (k c b : Nat) (o : List Nat), k ≤ n ∧ ii = .int .i64 (k : Int) ∧ cc = .int .u64 (c : Int) ∧ bb = .int .u32 (b : Int) ∧ c < 4294967296 ∧ b ≤ 1 ∧ KRow .u32 152 wr g (pre ++ (o ++ us.drop k ++ post)) ∧ Hid (o.length = k ∧ Dig o ∧ valL o + gg * valL (d.take k) = valL (us.take k) + 4294967296 ^ k * (c + b)) ∧ Only g w wr) (fun _ _ ii _ => n - (intOf ii).toNat)
  case atStart => exact ⟨0, 0, 0, [], by omega, rfl, rfl, rfl, by omega, by omega, by simpa using HR0.out, ⟨rfl, Dig.nil, by simp [valL]⟩, HO0.out⟩
  case round =>
   obtain ⟨k, c, b, o, hk, rfl, rfl, rfl, hcl, hbl, hrow, HI, ho⟩ := hrel
   have hgs1 := hrow.lt
   have hf1 := hrow.frozen (i + k)
   obtain ⟨hol, hod, hov⟩ := HI.out
   have hxc := hrow.cellAt HPRE.out hol (by have := HLEN.out.1; omega)
   obtain ⟨x, hx⟩ : ∃ x, x = us.getD k 0 := ⟨_, rfl⟩
   have hxl : x < 4294967296 := by rw [hx]; exact HK.out.du.getD k
   rw [← hx] at hxc
   have HR1 := Lib.hid hrow
   have hbw := ho.at_ B hgs0 hB
   by_cases hlt : k < n
   ·
    have hvc := (hbw.cell (p := ⟨bd, offd + k, none⟩) hbd).trans (HDC.out k _ (getElem?_getD (by have := HLEN.out.2; omega)))
    obtain ⟨v, hv⟩ : ∃ v, v = d.getD k 0 := ⟨_, rfl⟩
    have hvl : v < 4294967296 := by rw [hv]; exact HK.out.dd.getD k
    rw [← hv] at hvc
    obtain ⟨p, hp⟩ : ∃ p, p = gg * v := ⟨_, rfl⟩
    have hpb : p ≤ 4294967295 * 4294967295 := by rw [hp]; exact Nat.mul_le_mul (by omega) (by omega)
    obtain ⟨t, ht⟩ : ∃ t, t = p + c := ⟨_, rfl⟩
    obtain ⟨c', hc'⟩ : ∃ c', c' = t / 4294967296 := ⟨_, rfl⟩
    obtain ⟨lo, hlo⟩ : ∃ lo, lo = t % 4294967296 := ⟨_, rfl⟩
    have hc'l : c' < 4294967296 := by omega
    have hlol : lo < 4294967296 := by omega
    obtain ⟨z, hz⟩ : ∃ z, z = (x + 4294967296 - lo - b) % 4294967296 := ⟨_, rfl⟩
    obtain ⟨b', hb'⟩ : ∃ b', b' = brw x lo b := ⟨_, rfl⟩
    have hzl : z < 4294967296 := by omega
    have hb'l : b' ≤ 1 := by rw [hb']; unfold brw; split <;> omega
    have hzb : z + lo + b = x + 4294967296 * b' := by rw [hz, hb']; unfold brw; split <;> omega
    have HI2 : Hid ((o ++ [z]).length = k + 1 ∧ Dig (o ++ [z]) ∧ valL (o ++ [z]) + gg * valL (d.take (k + 1)) = valL (us.take (k + 1)) + 4294967296 ^ (k + 1) * (c' + b')) := by
     refine ⟨by simp [hol], hod.append (Dig.one hzl), ms_step (t := lo) hol hov ?_ ?_⟩
     ·
      rw [← hv, ← hp, ← ht]; omega
     ·
      rw [← hx]; exact hzb
    have HS := Lib.hid (fun w => sub32_calls x lo b w hxl hlol hbl)
    rw [← hz, ← hb'] at HS
    have u1 : IntKind.u64.wrap ((gg : Int) * (v : Int)) = (p : Int) := by
     have : (gg : Int) * (v : Int) = (p : Int) := by rw [hp]; simp
     rw [this]; exact IntWalk.u64_in _ (by omega)
    have u2 : IntKind.u64.wrap ((p : Int) + (c : Int)) = (t : Int) := by rw [IntWalk.u64_in _ (by omega)]; omega
    have u3 : (t : Int) / 4294967296 = (c' : Int) := by omega
    have u4 : (t : Int) % 4294967296 = (lo : Int) := by omega
    have HPUT := Lib.hid (row_put HPRE.out hol (show k < us.length by have := HLEN.out.1; omega) (post := post) z)
    clear hx hv hp hpb ht hc' hlo hz hb' hzb hol hod hov HI hrow hbw
    go_wp2_with fail
    refine (HS.out _).mono ?_
    rintro e w3 ⟨rfl, rfl⟩
    clear u1 u2 u3 u4
    go_wp2_with fail
    go_roundw
    case measure => simp [intOf] <;> omega
    case rel => exact ⟨k + 1, c', b', o ++ [z], by omega, by go_num, rfl, rfl, hc'l, hb'l, HR1.out.setI (i + k) z rfl HPUT.out, HI2, ho.setC _ _⟩
   ·
    obtain rfl : k = n := by omega
    obtain ⟨z, hz⟩ : ∃ z, z = (x + 4294967296 - c - b) % 4294967296 := ⟨_, rfl⟩
    obtain ⟨b', hb'⟩ : ∃ b', b' = brw x c b := ⟨_, rfl⟩
    have hzl : z < 4294967296 := by omega
    have hb'l : b' ≤ 1 := by rw [hb']; unfold brw; split <;> omega
    have hzb : z + c + b = x + 4294967296 * b' := by rw [hz, hb']; unfold brw; split <;> omega
    have HS := Lib.hid (fun w => sub32_calls x c b w hxl hcl hbl)
    rw [← hz, ← hb'] at HS
    have hput := row_put HPRE.out hol (show k < us.length by have := HLEN.out.1; omega) (post := post) z
    have hdr : us.drop (k + 1) = [] := List.drop_of_length_le (by have := HLEN.out.1; omega)
    rw [hdr] at hput
    have HPUT := Lib.hid hput
    have HOL := Lib.hid (And.intro hol (And.intro hod hov))
    have HX := Lib.hid hx
    by_cases hb0 : b' = 0
    ·
     have hzb0 : z + c + b = x := by rw [hb0] at hzb; omega
     have HE : Hid (gg = valL us / valL d ∧ valL o = valL us % valL d ∧ z = 0) := by
      have h1 := ms_right HK.out hol hod HQ.out.1 hov (x := z) (by rw [← hx]; exact hzb0)
      obtain ⟨h2, h3⟩ := h1
      have h4 : valL us % valL d < 4294967296 ^ k := by
       have := Nat.mod_lt (valL us) HK.out.vpos
       have h5 := valL_lt d HK.out.dd
       rw [HK.out.ld] at h5
       omega
      rw [valL_snoc, hol] at h3
      have h6 : z = 0 := by
       rcases Nat.eq_zero_or_pos z with h | h
       ·
        exact h
       ·
        exfalso
        have := Nat.mul_le_mul_left (4294967296 ^ k) h
        omega
      subst h6
      exact ⟨h2, by simpa using h3, rfl⟩
     have hb1 : ((b' : Int) == 0) = true := by simp [hb0]
     clear hx hz hb' hzb hzb0 hol hod hov HI hrow hput hdr hb0
     go_wp2_with fail
     refine (HS.out _).mono ?_
     rintro e w3 ⟨rfl, rfl⟩
     go_wp2_with fail
     go_ret
     refine ⟨o, ret_int (by rw [HE.out.1]), HOL.out.1, HOL.out.2.1, HE.out.2.1, HR1.out.setI (i + k) z rfl ?_, ho.setC _ _⟩
     rw [HPUT.out, HE.out.2.2]; simp
    ·
     have hb1 : b' = 1 := by omega
     have hzb1 : z + c + b = x + 4294967296 := by rw [hb1] at hzb; omega
     have HW := Lib.hid (ms_wrong HK.out hol hod hzl HQ.out.2 hov (by rw [← hx]; exact hzb1))
     have hb2 : ((b' : Int) == 0) = false := by simp [hb0]
     have hg1 : 1 ≤ gg := HW.out.1
     have hrow0 : KRow .u32 152 (wr.setCell ⟨g, i + k, none⟩ (.int .u32 (z : Int))) g (pre ++ ([] ++ (o ++ [z]).drop 0 ++ post)) := HR1.out.setI (i + k) z rfl (by rw [HPUT.out]; simp)
     have HROW0 := Lib.hid hrow0
     have HHO := Lib.hid (ho.setC (i + k) (.int .u32 (z : Int)))
     have hozl : (o ++ [z]).length = k + 1 := by simp [hol]
     have HOZ := Lib.hid hozl
     have HZL := Lib.hid hzl
     clear hx hz hb' hzb hzb1 hol hod hov HI hrow hput hdr hb0 hb1 hrow0 hozl
     go_wp2_with fail
     refine (HS.out _).mono ?_
     rintro e w3 ⟨rfl, rfl⟩
     go_wp2_with fail
     clear hf1 hxc hbw
     go_loopw [14, 132] (fun cc ii wr => ∃ (j c : Nat) (q : List Nat), j ≤ k ∧ ii = .int .i64 (j : Int) ∧ cc = .int .u32 (c : Int) ∧ c ≤ 1 ∧ KRow .u32 152 wr g (pre ++ (q ++ (o ++ [z]).drop j ++ post)) ∧ Hid (q.length = j ∧ Dig q ∧ valL q + 4294967296 ^ j * c = valL (o.take j) + valL (d.take j)) ∧ Only g w wr) (fun _ ii _ => k - (intOf ii).toNat)
     case atStart => exact ⟨0, 0, [], by omega, rfl, rfl, by omega, HROW0.out, ⟨rfl, Dig.nil, by simp [valL]⟩, HHO.out⟩
     case round =>
      clear ho hcl hbl hlt hk hgs1
      obtain ⟨j, c2, q, hj, rfl, rfl, hc2, hrow, HI, ho⟩ := hrel
      have hgs1 := hrow.lt
      have hf1 := hrow.frozen (i + j)
      obtain ⟨hql, hqd, hqv⟩ := HI.out
      have hyc := hrow.cellAt HPRE.out hql (by rw [HOZ.out]; omega)
      obtain ⟨y, hy⟩ : ∃ y, y = (o ++ [z]).getD j 0 := ⟨_, rfl⟩
      have hyl : y < 4294967296 := by rw [hy]; exact (HOL.out.2.1.append (Dig.one HZL.out)).getD j
      rw [← hy] at hyc
      have HR2 := Lib.hid hrow
      have hbw := ho.at_ B hgs0 hB
      by_cases hjl : j < k
      ·
       have hvc := (hbw.cell (p := ⟨bd, offd + j, none⟩) hbd).trans (HDC.out j _ (getElem?_getD (by have := HLEN.out.2; omega)))
       obtain ⟨v, hv⟩ : ∃ v, v = d.getD j 0 := ⟨_, rfl⟩
       have hvl : v < 4294967296 := by rw [hv]; exact HK.out.dd.getD j
       rw [← hv] at hvc
       have hyo : y = o.getD j 0 := by
        rw [hy, List.getD_eq_getElem?_getD, List.getElem?_append_left (by rw [HOL.out.1]; exact hjl), ← List.getD_eq_getElem?_getD]
       obtain ⟨zz, hzz⟩ : ∃ zz, zz = (y + v + c2) % 4294967296 := ⟨_, rfl⟩
       obtain ⟨cc, hcc⟩ : ∃ cc, cc = (y + v + c2) / 4294967296 := ⟨_, rfl⟩
       have hzzl : zz < 4294967296 := by omega
       have hccl : cc ≤ 1 := by omega
       have HI2 : Hid ((q ++ [zz]).length = j + 1 ∧ Dig (q ++ [zz]) ∧ valL (q ++ [zz]) + 4294967296 ^ (j + 1) * cc = valL (o.take (j + 1)) + valL (d.take (j + 1))) := by
        refine ⟨by simp [hql], hqd.append (Dig.one hzzl), add_step hql hqv ?_⟩
        rw [← hyo, ← hv]; omega
       have HA := Lib.hid (fun w => add32_calls y v c2 w hyl hvl (by omega))
       rw [← hzz, ← hcc] at HA
       have HPUT2 := Lib.hid (row_put HPRE.out hql (show j < (o ++ [z]).length by rw [HOZ.out]; omega) (post := post) zz)
       clear hy hyo hv hzz hcc hql hqd hqv HI hrow hbw
       go_wp2_with fail
       refine (HA.out _).mono ?_
       rintro e w3 ⟨rfl, rfl⟩
       go_wp2_with fail
       go_roundw
       case measure => simp [intOf] <;> omega
       case rel => exact ⟨j + 1, cc, q ++ [zz], by omega, by go_num, rfl, hccl, HR2.out.setI (i + j) zz rfl HPUT2.out, HI2, ho.setC _ _⟩
      ·
       obtain rfl : j = k := by omega
       have hyz : y = z := by
        rw [hy, List.getD_eq_getElem?_getD, List.getElem?_append_right (by rw [HOL.out.1]; omega), HOL.out.1]; simp
       have HB := Lib.hid (back_end HK.out hql hqd HOL.out.1 HZL.out hqv HW.out.2.2)
       have u1 : IntKind.u32.wrap ((y : Int) + (c2 : Int)) = 0 := by
        have := HB.out.1
        rw [IntKind.wrap_u32, hyz]; omega
       have hput := row_put HPRE.out hql (show j < (o ++ [z]).length by rw [HOZ.out]; omega) (post := post) 0
       have hdr : (o ++ [z]).drop (j + 1) = [] := List.drop_of_length_le (by rw [HOZ.out]; omega)
       rw [hdr] at hput
       have HPUT2 := Lib.hid hput
       have HQL := Lib.hid (And.intro hql hqd)
       have u2 : IntKind.u64.wrap ((gg : Int) - 1) = (gg : Int) - 1 := IntWalk.u64_in _ (by omega)
       have u3 : IntKind.u32.wrap ((gg : Int) - 1) = (gg : Int) - 1 := IntWalk.u32_in _ (by omega)
       have hge : ((gg - 1 : Nat) : Int) = (gg : Int) - 1 := by omega
       have HGE := Lib.hid hge
       clear hy hyz hql hqd hqv HI hrow hbw hput hdr hge
       go_wp2_with fail
       go_ret
       refine ⟨q, ret_int (by rw [← HW.out.2.1, HGE.out]), HQL.out.1, HQL.out.2, HB.out.2, HR2.out.setI (x := (0 : Int)) (i + j) 0 rfl ?_, ho.setC _ _⟩
       rw [HPUT2.out]; simp

end Go.Proofs.YtjlicnhkemfmiaaGreatDoor

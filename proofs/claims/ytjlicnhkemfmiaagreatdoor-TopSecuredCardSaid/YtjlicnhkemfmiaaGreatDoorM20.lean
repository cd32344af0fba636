/- Merged of Mcu Mad. -/
import Derived.Test.YtjlicnhkemfmiaaGreatDoorMck
import Derived.Test.YtjlicnhkemfmiaaGreatDoorTz
import Derived.Test.YtjlicnhkemfmiaaGreatDoorM18
/- (marshal.network).cuts, add; marshal.least. -/
set_option linter.unusedVariables false
set_option linter.unusedSimpArgs false
namespace Go.Proofs.YtjlicnhkemfmiaaGreatDoor
open Go.RowKit

/-- a network in memory: what the items bring, what is owed, the items of each claim as bits -/
structure NetM (B : Nat) (P O : Option Addr) (I : Nat) (ps os : List Rat) (ms : List Nat) (W : World) : Prop where
  p : Rd W B 3 P ps.length (ps.flatMap rtV)
  o : Rd W B 3 O os.length (os.flatMap rtV)
  i : KRow .u64 108 W I ms
  ib : I < B
theorem NetM.below {B : Nat} {P O : Option Addr} {I : Nat} {ps os : List Rat} {ms : List Nat} {W W' : World} (h : NetM B P O I ps os ms W) (hb : Below B W W') : NetM B P O I ps os ms W' := ⟨h.p.below hb, h.o.below hb, h.i.below hb h.ib, h.ib⟩
theorem NetM.drew {B : Nat} {P O : Option Addr} {I : Nat} {ps os : List Rat} {ms : List Nat} {W : World} (h : NetM B P O I ps os ms W) : NetM B P O I ps os ms W.drew := ⟨h.p, h.o, h.i, h.ib⟩
theorem setSum_sz {a : Nat} : ∀ (ps : List Rat) (s : Nat), (∀ p ∈ ps, Sz a p) → Sz (1 + ps.length * (a + 1)) (setSum ps s)
  | [], s, _ => sz_zero1 _ (by omega)
  | p :: l, s, h => by
    have h1 := setSum_sz l (s / 2) (fun x hx => h x (by simp [hx]))
    have h2 := h p (by simp)
    have e : (p :: l).length * (a + 1) = l.length * (a + 1) + (a + 1) := by rw [List.length_cons, Nat.succ_mul]
    unfold setSum
    split
    · exact (Sz.add h2 h1).mono (by omega)
    · rw [Rat.zero_add]; exact h1.mono (by omega)
def CutsPost (L : List Rat) (N : Nat) (w : World) (e : Ending) (w' : World) : Prop := ∃ C, e = .returned (.slice (some ⟨C, 0, none⟩) N N) ∧ RatsB C L w' ∧ w.heap.size ≤ C ∧ Below w.heap.size w w'
/-- a number's three cells -/
def QC (b off : Nat) (q : Rat) (W : World) : Prop := W.cell? ⟨b, off, none⟩ = some (.bool (rneg q)) ∧ W.cell? ⟨b, off + 1, none⟩ = some (.string (rnum q)) ∧ W.cell? ⟨b, off + 2, none⟩ = some (.string (rden q)) ∧ b < W.heap.size
theorem QC.next {b off : Nat} {q : Rat} {W W' : World} (h : QC b off q W) (hb : Below W.heap.size W W') : QC b off q W' :=
  ⟨(hb.cell (p := ⟨b, off, none⟩) h.2.2.2).trans h.1, (hb.cell (p := ⟨b, off + 1, none⟩) h.2.2.2).trans h.2.1, (hb.cell (p := ⟨b, off + 2, none⟩) h.2.2.2).trans h.2.2.1, Nat.lt_of_lt_of_le h.2.2.2 hb.size⟩
theorem QC.drew {b off : Nat} {q : Rat} {W : World} (h : QC b off q W) : QC b off q W.drew := h
theorem QC.only {b off g : Nat} {q : Rat} {W W' : World} (h : QC b off q W) (ho : Only g W W') (hne : b ≠ g) : QC b off q W' :=
  have hb := ho.block b h.2.2.2 hne
  ⟨(World.cell?_of_block hb).trans h.1, (World.cell?_of_block hb).trans h.2.1, (World.cell?_of_block hb).trans h.2.2.1, Nat.lt_of_lt_of_le h.2.2.2 ho.size⟩
set_option maxHeartbeats 8000000 in
set_option maxRecDepth 100000 in
theorem cuts_calls (B : Nat) (P O : Option Addr) (I kp cp m co a : Nat) (ps os : List Rat) (ms : List Nat) (w : World) (h : NetM B P O I ps os ms w) (hB : B ≤ w.heap.size) (hT : TabW w) (hk : kp = ps.length) (hk4 : kp ≤ 4) (hsz : ∀ p ∈ ps, Sz a p) (ha : 0 < a) (ha2 : a ≤ 1000) :
    Calls Tryz.prog 58 #[.agg #[.slice P kp cp, .slice O m co, .slice (some ⟨I, 0, none⟩) m m]] w (CutsPost (cutsL ps) (2 ^ kp) w) := by
  obtain ⟨N, hN⟩ : ∃ N, N = 2 ^ kp := ⟨_, rfl⟩
  have hN16 : N ≤ 16 := by rw [hN]; exact Nat.pow_le_pow_right (n := 2) (by decide) hk4
  have hN1 : 1 ≤ N := by rw [hN]; exact Nat.two_pow_pos _
  have hsh : (2 : Int) ^ kp = (N : Int) := by rw [hN]; simp
  have hmk := make_rats N (by omega)
  have HMK := Lib.hid hmk
  have HNT : Hid (NetM B P O I ps os ms w) := h
  have HTB : Hid (TabW w) := hT
  have HKN := Lib.hid (And.intro hk (And.intro hN (And.intro hsz hk4)))
  have HBw : Hid (B ≤ w.heap.size) := hB
  rw [← hN]
  clear hmk h hT hk hN hsz hB
  go_enter Tryz.func58, Tryz.ntmps58
  go_upto_region 1 with fail
  obtain ⟨gn, hg_gn⟩ : ∃ g, g = w.heap.size := ⟨_, rfl⟩
  obtain ⟨w0, hw_w0⟩ : ∃ W, W = (w.alloc (.cells #[.slice P kp cp, .slice O m co, .slice (some ⟨I, 0, none⟩) m m] 88)) := ⟨_, rfl⟩
  have HN0 : Hid (Bk gn (.cells #[.slice P kp cp, .slice O m co, .slice (some ⟨I, 0, none⟩) m m] 88) w0) := by rw [hw_w0, hg_gn]; exact blk_new _ _
  have HB0 : Hid (Below w.heap.size w w0) := by rw [hw_w0]; exact bel_alloc _ _
  have HL_0 := Lib.hid ((by omega : w.heap.size ≤ gn))
  rw [← hw_w0]
  (try rw [← hg_gn])
  clear hw_w0 hg_gn
  have hmk := HMK.out w0
  obtain ⟨c0, c1, c2, fc0, fc1, fc2, hzc⟩ := three_of HN0.out
  go_wp2_with fail
  clear c0 c1 c2 fc0 fc1 fc2 hzc
  clear hmk
  obtain ⟨C, hg_C⟩ : ∃ g, g = w0.heap.size := ⟨_, rfl⟩
  obtain ⟨w1, hw_w1⟩ : ∃ W, W = w0.alloc (.cells (madeCells #[.bool false, .string ⟨#[]⟩, .string ⟨#[]⟩] (N * 3)) 33) := ⟨_, rfl⟩
  have HL_C := Lib.hid (And.intro (by have := blk_lt HN0.out; omega : gn < C) ((by have := HB0.out.size; omega : w.heap.size ≤ C)))
  have HN1 : Hid (Bk gn (.cells #[.slice P kp cp, .slice O m co, .slice (some ⟨I, 0, none⟩) m m] 88) w1) := by rw [hw_w1]; exact blk_next HN0.out (bel_alloc _ _)
  have HB1 : Hid (Below w.heap.size w w1) := by rw [hw_w1]; exact HB0.out.trans ((bel_alloc _ _).mono HB0.out.size)
  have HC1 : Hid (Bk C (.cells (madeCells #[.bool false, .string ⟨#[]⟩, .string ⟨#[]⟩] (N * 3)) 33) w1) := by rw [hw_w1, hg_C]; exact blk_new _ _
  rw [← hw_w1]
  (try rw [← hg_C])
  clear hw_w1 hg_C HN0 HB0
  have HCr : Hid (RatsB C (cutsK ps 1) w1) := by
    have h1 := HC1.out
    unfold Bk at h1
    rw [made_rats, HKN.out.2.1, HKN.out.1] at h1
    rw [cutsK_start]
    exact h1
  clear HC1
  have HTB1 : Hid (TabW w1) := HTB.out.next HB1.out
  have HNT1 : Hid (NetM B P O I ps os ms w1) := HNT.out.below (HB1.out.mono HBw.out)
  go_loopw [4] (fun i wr => ∃ s : Nat, 1 ≤ s ∧ s ≤ N ∧ i = .int .i64 (s : Int) ∧ Hid (RatsB C (cutsK ps s) wr) ∧ Hid (Bk gn (.cells #[.slice P kp cp, .slice O m co, .slice (some ⟨I, 0, none⟩) m m] 88) wr) ∧ Hid (Below w.heap.size w wr)) (fun i _ => N - (intOf i).toNat)
  case atStart => exact ⟨1, Nat.le_refl _, hN1, rfl, HCr, HN1, HB1⟩
  case round =>
    clear HCr HTB1 HNT1 HN1 HB1
    obtain ⟨s, hs1, hs, rfl, HC, HN, HB⟩ := hrel
    rename World => wo
    by_cases hlt : s < N
    · have hlt2 : (s : Int) < (N : Int) := by omega
      obtain ⟨q, hq, hss⟩ := setSum_step ps s (by omega) (by rw [← HKN.out.1, ← HKN.out.2.1]; exact hlt) (by rw [← HKN.out.1]; exact HKN.out.2.2.2)
      have hs16 : s < 16 := by omega
      obtain ⟨hlo, _, _⟩ := lo_tz ⟨s, hs16⟩ (by show s ≠ 0; omega)
      have hand := and_i64 ⟨s, hs16⟩ (by show s ≠ 0; omega)
      dsimp only at hlo hand
      have hTZ' := fun W (hw : TabW W) => tzU_calls s W hw (by omega) hs16
      have hps := (List.getElem?_eq_some_iff.1 hq).1
      have hcl : (cutsK ps s)[lo s]? = some (setSum ps (lo s)) := by rw [cutsK_at (by rw [← HKN.out.1, ← HKN.out.2.1]; omega), if_pos hlo]
      have hcs : (cutsK ps s)[s]? = some 0 := by rw [cutsK_at (by rw [← HKN.out.1, ← HKN.out.2.1]; omega), if_neg (Nat.lt_irrefl _)]
      have hsz1 := setSum_sz ps (lo s) HKN.out.2.2.1
      have hsz2 := HKN.out.2.2.1 q (List.mem_of_getElem? hq)
      obtain ⟨u, hu⟩ : ∃ x, x = setSum ps (lo s) := ⟨_, rfl⟩
      rw [← hu] at hcl hsz1 hss
      have hA' := fun W => pAddQ_calls u q (1 + ps.length * (a + 1)) a W hsz1 hsz2 (by omega) ha (by rw [← HKN.out.1]; have : kp * (a + 1) ≤ 4 * (a + 1) := Nat.mul_le_mul_right _ HKN.out.2.2.2; omega)
      obtain ⟨v, hv⟩ : ∃ x, x = u + q := ⟨_, rfl⟩
      rw [← hv] at hA' hss
      have HST := Lib.hid (cutsK_next (ps := ps) (k := s) (by rw [← HKN.out.1, ← HKN.out.2.1]; exact hlt) hss.symm)
      obtain ⟨z, hz⟩ : ∃ x, x = tz s := ⟨_, rfl⟩
      rw [← hz] at hTZ' hq hps
      obtain ⟨ls, hls⟩ : ∃ x, x = lo s := ⟨_, rfl⟩
      rw [← hls] at hlo hand hcl
      have hzk : (z : Int) < (kp : Int) := by rw [HKN.out.1]; omega
      have hlN : (ls : Int) < (N : Int) := by omega
      unfold ratV at hA'
      have HA := Lib.hid hA'
      have HTZ := Lib.hid hTZ'
      have HQ := Lib.hid (And.intro hq (And.intro hcl hcs))
      have hw1 : IntKind.i64.wrap ((s : Int) - 1) = (s : Int) - 1 := IntWalk.i64_in _ (by omega)
      have hw2 : IntKind.u64.wrap (s : Int) = (s : Int) := IntWalk.u64_in _ (by omega)
      clear hA' hTZ' hq hss hcl hcs hsz1 hsz2 hu hv hz hls hps hlo
      have HTBo : Hid (TabW wo) := HTB.out.next HB.out
      have HNTo : Hid (NetM B P O I ps os ms wo) := HNT.out.below (HB.out.mono HBw.out)
      obtain ⟨pb, poff, hP, hpb, hpc⟩ := Rd.at_ (enc := rtV) rtV_len HNTo.out.p HQ.out.1
      have HPB := Lib.hid (And.intro hP hpb)
      subst hP
      clear hpb
      have n0 := hpc 0 _ rfl
      have n1 := hpc 1 _ rfl
      have n2 := hpc 2 _ rfl
      rw [Nat.add_zero] at n0
      rw [← Nat.add_assoc] at n1 n2
      have HP0 : Hid (QC pb (poff + z * 3) q wo) := ⟨n0, n1, n2, by have := HPB.out.2; have := HBw.out; have := HB.out.size; omega⟩
      clear hpc n0 n1 n2
      go_wp2_with fail
      obtain ⟨x1, hw_x1⟩ : ∃ W, W = wo.drew := ⟨_, rfl⟩
      have HC1 : Hid (RatsB C (cutsK ps s) x1) := by rw [hw_x1]; exact HC.out
      have HN1 : Hid (Bk gn (.cells #[.slice (some ⟨pb, poff, none⟩) kp cp, .slice O m co, .slice (some ⟨I, 0, none⟩) m m] 88) x1) := by rw [hw_x1]; exact HN.out
      have HB1 : Hid (Below w.heap.size w x1) := by rw [hw_x1]; exact HB.out.drew
      have HP1 : Hid (QC pb (poff + z * 3) q x1) := by rw [hw_x1]; exact HP0.out.drew
      have HT1 : Hid (TabW x1) := by rw [hw_x1]; exact HTBo.out.drew
      have hS1 : (AndW (Bk gn (.cells #[.slice (some ⟨pb, poff, none⟩) kp cp, .slice O m co, .slice (some ⟨I, 0, none⟩) m m] 88)) (QC pb (poff + z * 3) q)) x1 := ⟨HN1.out, HP1.out⟩
      refine wp_region_held_drew (S := (AndW (Bk gn (.cells #[.slice (some ⟨pb, poff, none⟩) kp cp, .slice O m co, .slice (some ⟨I, 0, none⟩) m m] 88)) (QC pb (poff + z * 3) q))) (by kernel_rfl) (by rw [← hw_x1]; exact hS1) ?_
      rw [← hw_x1]
      intro _
      clear hw_x1 HC HN HB HP0 HTBo
      refine wpAnyH_take (i := 0) rfl (by kernel_rfl) (by kernel_rfl) (by kernel_rfl) (fun _ _ _ h => h) (Or.inl ⟨by kernel_rfl, (by intro w' _; go_simp; with_reducible rfl)⟩) hS1 ?_
      go_simp
      refine wpAnyH_take (i := 1) rfl (by kernel_rfl) (by kernel_rfl) (by kernel_rfl) (fun _ _ _ h => h) (Or.inl ⟨by kernel_rfl, (by intro w' _; go_simp; with_reducible rfl)⟩) hS1 ?_
      go_simp
      refine wpAnyH_take (i := 2) rfl (by kernel_rfl) (by kernel_rfl) (by kernel_rfl) (fun _ _ _ h => h) (Or.inl ⟨by kernel_rfl, (by intro w' _; go_simp; with_reducible rfl)⟩) hS1 ?_
      go_simp
      refine wpAnyH_take (i := 3) rfl (by kernel_rfl) (by kernel_rfl) (by kernel_rfl) (fun _ _ _ h => h) (Or.inl ⟨by kernel_rfl, (by intro w' _; go_simp; with_reducible rfl)⟩) hS1 ?_
      go_simp
      refine wpAnyH_take (i := 4) rfl (by kernel_rfl) (by kernel_rfl) (by kernel_rfl) (fun _ _ _ h => h) (Or.inl ⟨by kernel_rfl, (by intro w' _; go_simp; with_reducible rfl)⟩) hS1 ?_
      go_simp
      refine wpAnyH_take (i := 5) rfl (by kernel_rfl) (by kernel_rfl) (by kernel_rfl) (fun _ _ _ h => h) (Or.inl ⟨by kernel_rfl, (by intro w' _; go_simp; with_reducible rfl)⟩) hS1 ?_
      go_simp
      refine wpAnyH_take (i := 6) rfl (by kernel_rfl) (by kernel_rfl) (by kernel_rfl) (fun _ _ _ h => h) (Or.inl ⟨by kernel_rfl, (by intro w' _; go_simp; with_reducible rfl)⟩) hS1 ?_
      go_simp
      refine wpAnyH_take (i := 7) rfl (by kernel_rfl) (by kernel_rfl) (by kernel_rfl) (fun _ _ _ h => h) (Or.inl ⟨by kernel_rfl, (by intro w' _; go_simp; with_reducible rfl)⟩) hS1 ?_
      go_simp
      refine wpAnyH_take (i := 9) rfl (by kernel_rfl) (by kernel_rfl) (by kernel_rfl) (fun _ _ _ h => h) (Or.inl ⟨by kernel_rfl, (by intro w' _; go_simp; with_reducible rfl)⟩) hS1 ?_
      go_simp
      refine wpAnyH_take (i := 10) (v := .slice (some ⟨pb, poff, none⟩) kp cp) rfl (by kernel_rfl) (by kernel_rfl) (by kernel_rfl) (fun _ _ _ h => h) (Or.inl ⟨by kernel_rfl, (by intro w' hw'; obtain ⟨k0, k1, k2, k3, k4, k5, k6⟩ := three_of hw'.1; go_simp)⟩) hS1 ?_
      go_simp
      refine wpAnyH_take (i := 11) rfl (by kernel_rfl) (by kernel_rfl) (by kernel_rfl) (fun _ _ _ h => h) (Or.inl ⟨by kernel_rfl, (by intro w' _; go_simp; with_reducible rfl)⟩) hS1 ?_
      go_simp
      refine wpAnyH_take (i := 12) rfl (by kernel_rfl) (by kernel_rfl) (by kernel_rfl) (fun _ _ _ h => h) (Or.inl ⟨by kernel_rfl, (by intro w' _; go_simp; with_reducible rfl)⟩) hS1 ?_
      go_simp
      refine wpAnyH_ready (rs := [8, 13]) (by kernel_rfl) (by simp) ?_
      refine AllReadyH.cons rfl (fun K hK => ?_) (AllReadyH.cons rfl (fun K hK => ?_) AllReadyH.nil)
      · obtain ⟨l0, l1, l2⟩ := HC1.out.cells HQ.out.2.1
        go_simp
        clear l0 l1 l2
        have hS2 : (AndW (Bk gn (.cells #[.slice (some ⟨pb, poff, none⟩) kp cp, .slice O m co, .slice (some ⟨I, 0, none⟩) m m] 88)) (QC pb (poff + z * 3) q)) x1 := ⟨HN1.out, HP1.out⟩
        refine hK.out _ _ hS2 (fun _ => ?_)
        clear hK K
        refine wpAnyH_ready (rs := [13]) (by kernel_rfl) (by simp) ?_
        refine AllReadyH.cons rfl (fun K hK => ?_) AllReadyH.nil
        go_simp
        refine (HTZ.out _ HT1.out).mono ?_
        rintro e x1 ⟨rfl, rfl⟩
        have hS3 : (AndW (Bk gn (.cells #[.slice (some ⟨pb, poff, none⟩) kp cp, .slice O m co, .slice (some ⟨I, 0, none⟩) m m] 88)) (QC pb (poff + z * 3) q)) x1 := ⟨HN1.out, HP1.out⟩
        refine hK.out _ _ hS3 (fun _ => ?_)
        clear hK K
        refine wpAnyH_take (i := 14) rfl (by kernel_rfl) (by kernel_rfl) (by kernel_rfl) (fun _ _ _ h => h) (Or.inl ⟨by kernel_rfl, (by intro w' _; go_simp; with_reducible rfl)⟩) hS3 ?_
        go_simp
        refine wpAnyH_take (i := 15) (v := .agg #[.bool (rneg q), .string (rnum q), .string (rden q)]) rfl (by kernel_rfl) (by kernel_rfl) (by kernel_rfl) (fun _ _ _ h => h) (Or.inl ⟨by kernel_rfl, (by intro w' hw'; obtain ⟨k0, k1, k2, _⟩ := hw'.2; go_simp)⟩) hS3 ?_
        go_simp
        refine wpAnyH_ready (rs := [16]) (by kernel_rfl) (by simp) ?_
        refine AllReadyH.cons rfl (fun K hK => ?_) AllReadyH.nil
        go_simp
        refine (HA.out _).mono ?_
        rintro e x2 ⟨rfl, hb⟩
        have HC2 : Hid (RatsB C (cutsK ps s) x2) := blk_next HC1.out hb
        have HN2 : Hid (Bk gn (.cells #[.slice (some ⟨pb, poff, none⟩) kp cp, .slice O m co, .slice (some ⟨I, 0, none⟩) m m] 88) x2) := blk_next HN1.out hb
        have HB2 : Hid (Below w.heap.size w x2) := HB1.out.trans (hb.mono HB1.out.size)
        have HP2 : Hid (QC pb (poff + z * 3) q x2) := HP1.out.next hb
        have HT2 : Hid (TabW x2) := HT1.out.next hb
        clear hb HC1 HN1 HB1 HP1 HT1
        have hS4 : (AndW (Bk gn (.cells #[.slice (some ⟨pb, poff, none⟩) kp cp, .slice O m co, .slice (some ⟨I, 0, none⟩) m m] 88)) (QC pb (poff + z * 3) q)) x2 := ⟨HN2.out, HP2.out⟩
        refine hK.out _ _ hS4 (fun _ => ?_)
        clear hK K
        refine wpAnyH_take (i := 17) rfl (by kernel_rfl) (by kernel_rfl) (by kernel_rfl) (fun _ _ _ h => h) (Or.inl ⟨by kernel_rfl, (by intro w' _; go_simp; with_reducible rfl)⟩) hS4 ?_
        go_simp
        refine wpAnyH_ready (rs := [18]) (by kernel_rfl) (by simp) ?_
        refine AllReadyH.cons rfl (fun K hK => ?_) AllReadyH.nil
        obtain ⟨l0, l1, l2⟩ := HC2.out.cells HQ.out.2.2
        have f0 := HC2.out.free (s * 3)
        have f1 := HC2.out.free (s * 3 + 1)
        have f2 := HC2.out.free (s * 3 + 2)
        have lf := HC2.out.lt
        go_simp
        clear l0 l1 l2 f0 f1 f2 lf
        obtain ⟨wz, hwz⟩ : ∃ W, W = ((x2.setCell ⟨C, s * 3, none⟩ (.bool (rneg v))).setCell ⟨C, s * 3 + 1, none⟩ (.string (rnum v))).setCell ⟨C, s * 3 + 2, none⟩ (.string (rden v)) := ⟨_, rfl⟩
        have ho : Only C x2 wz := by rw [hwz]; exact (((Only.refl _ _).setC _ _).setC _ _).setC _ _
        have HCz : Hid (RatsB C (cutsK ps (s + 1)) wz) := by rw [hwz, ← HST.out]; exact HC2.out.set HQ.out.2.2 v
        have HNz : Hid (Bk gn (.cells #[.slice (some ⟨pb, poff, none⟩) kp cp, .slice O m co, .slice (some ⟨I, 0, none⟩) m m] 88) wz) := blk_onlyW HN2.out ho (by have := HL_0.out; have := HL_C.out; omega)
        have HPz : Hid (QC pb (poff + z * 3) q wz) := HP2.out.only ho (by have := HPB.out.2; have := HBw.out; have := HL_0.out; have := HL_C.out; omega)
        have HBz : Hid (Below w.heap.size w wz) := HB2.out.trans (ho.at_ _ HB2.out.size (by have := HL_0.out; have := HL_C.out; omega))
        rw [← hwz]
        clear hwz ho
        have hSz : (AndW (Bk gn (.cells #[.slice (some ⟨pb, poff, none⟩) kp cp, .slice O m co, .slice (some ⟨I, 0, none⟩) m m] 88)) (QC pb (poff + z * 3) q)) wz := ⟨HNz.out, HPz.out⟩
        refine hK.out _ _ hSz (fun _ => ?_)
        clear hK K
        refine wpAnyH_done (by kernel_rfl) ?_ _
        (try go_wp2_with fail)
        go_roundw
        case measure => simp [intOf] <;> omega
        case rel => exact ⟨s + 1, by omega, by omega, by go_num, HCz, HNz, HBz⟩
      · go_simp
        refine (HTZ.out _ HT1.out).mono ?_
        rintro e x1 ⟨rfl, rfl⟩
        have hS2 : (AndW (Bk gn (.cells #[.slice (some ⟨pb, poff, none⟩) kp cp, .slice O m co, .slice (some ⟨I, 0, none⟩) m m] 88)) (QC pb (poff + z * 3) q)) x1 := ⟨HN1.out, HP1.out⟩
        refine hK.out _ _ hS2 (fun _ => ?_)
        clear hK K
        refine wpAnyH_take (i := 14) rfl (by kernel_rfl) (by kernel_rfl) (by kernel_rfl) (fun _ _ _ h => h) (Or.inl ⟨by kernel_rfl, (by intro w' _; go_simp; with_reducible rfl)⟩) hS2 ?_
        go_simp
        refine wpAnyH_take (i := 15) (v := .agg #[.bool (rneg q), .string (rnum q), .string (rden q)]) rfl (by kernel_rfl) (by kernel_rfl) (by kernel_rfl) (fun _ _ _ h => h) (Or.inl ⟨by kernel_rfl, (by intro w' hw'; obtain ⟨k0, k1, k2, _⟩ := hw'.2; go_simp)⟩) hS2 ?_
        go_simp
        refine wpAnyH_ready (rs := [8]) (by kernel_rfl) (by simp) ?_
        refine AllReadyH.cons rfl (fun K hK => ?_) AllReadyH.nil
        obtain ⟨l0, l1, l2⟩ := HC1.out.cells HQ.out.2.1
        go_simp
        clear l0 l1 l2
        have hS3 : (AndW (Bk gn (.cells #[.slice (some ⟨pb, poff, none⟩) kp cp, .slice O m co, .slice (some ⟨I, 0, none⟩) m m] 88)) (QC pb (poff + z * 3) q)) x1 := ⟨HN1.out, HP1.out⟩
        refine hK.out _ _ hS3 (fun _ => ?_)
        clear hK K
        refine wpAnyH_ready (rs := [16]) (by kernel_rfl) (by simp) ?_
        refine AllReadyH.cons rfl (fun K hK => ?_) AllReadyH.nil
        go_simp
        refine (HA.out _).mono ?_
        rintro e x2 ⟨rfl, hb⟩
        have HC2 : Hid (RatsB C (cutsK ps s) x2) := blk_next HC1.out hb
        have HN2 : Hid (Bk gn (.cells #[.slice (some ⟨pb, poff, none⟩) kp cp, .slice O m co, .slice (some ⟨I, 0, none⟩) m m] 88) x2) := blk_next HN1.out hb
        have HB2 : Hid (Below w.heap.size w x2) := HB1.out.trans (hb.mono HB1.out.size)
        have HP2 : Hid (QC pb (poff + z * 3) q x2) := HP1.out.next hb
        have HT2 : Hid (TabW x2) := HT1.out.next hb
        clear hb HC1 HN1 HB1 HP1 HT1
        have hS4 : (AndW (Bk gn (.cells #[.slice (some ⟨pb, poff, none⟩) kp cp, .slice O m co, .slice (some ⟨I, 0, none⟩) m m] 88)) (QC pb (poff + z * 3) q)) x2 := ⟨HN2.out, HP2.out⟩
        refine hK.out _ _ hS4 (fun _ => ?_)
        clear hK K
        refine wpAnyH_take (i := 17) rfl (by kernel_rfl) (by kernel_rfl) (by kernel_rfl) (fun _ _ _ h => h) (Or.inl ⟨by kernel_rfl, (by intro w' _; go_simp; with_reducible rfl)⟩) hS4 ?_
        go_simp
        refine wpAnyH_ready (rs := [18]) (by kernel_rfl) (by simp) ?_
        refine AllReadyH.cons rfl (fun K hK => ?_) AllReadyH.nil
        obtain ⟨l0, l1, l2⟩ := HC2.out.cells HQ.out.2.2
        have f0 := HC2.out.free (s * 3)
        have f1 := HC2.out.free (s * 3 + 1)
        have f2 := HC2.out.free (s * 3 + 2)
        have lf := HC2.out.lt
        go_simp
        clear l0 l1 l2 f0 f1 f2 lf
        obtain ⟨wz, hwz⟩ : ∃ W, W = ((x2.setCell ⟨C, s * 3, none⟩ (.bool (rneg v))).setCell ⟨C, s * 3 + 1, none⟩ (.string (rnum v))).setCell ⟨C, s * 3 + 2, none⟩ (.string (rden v)) := ⟨_, rfl⟩
        have ho : Only C x2 wz := by rw [hwz]; exact (((Only.refl _ _).setC _ _).setC _ _).setC _ _
        have HCz : Hid (RatsB C (cutsK ps (s + 1)) wz) := by rw [hwz, ← HST.out]; exact HC2.out.set HQ.out.2.2 v
        have HNz : Hid (Bk gn (.cells #[.slice (some ⟨pb, poff, none⟩) kp cp, .slice O m co, .slice (some ⟨I, 0, none⟩) m m] 88) wz) := blk_onlyW HN2.out ho (by have := HL_0.out; have := HL_C.out; omega)
        have HPz : Hid (QC pb (poff + z * 3) q wz) := HP2.out.only ho (by have := HPB.out.2; have := HBw.out; have := HL_0.out; have := HL_C.out; omega)
        have HBz : Hid (Below w.heap.size w wz) := HB2.out.trans (ho.at_ _ HB2.out.size (by have := HL_0.out; have := HL_C.out; omega))
        rw [← hwz]
        clear hwz ho
        have hSz : (AndW (Bk gn (.cells #[.slice (some ⟨pb, poff, none⟩) kp cp, .slice O m co, .slice (some ⟨I, 0, none⟩) m m] 88)) (QC pb (poff + z * 3) q)) wz := ⟨HNz.out, HPz.out⟩
        refine hK.out _ _ hSz (fun _ => ?_)
        clear hK K
        refine wpAnyH_done (by kernel_rfl) ?_ _
        (try go_wp2_with fail)
        go_roundw
        case measure => simp [intOf] <;> omega
        case rel => exact ⟨s + 1, by omega, by omega, by go_num, HCz, HNz, HBz⟩
    · have hlt2 : ¬ (s : Int) < (N : Int) := by omega
      have HCn : Hid (RatsB C (cutsL ps) wo) := by
        show RatsB _ _ _
        rw [← cutsK_all, ← HKN.out.1, ← HKN.out.2.1, show N = s by omega]
        exact HC.out
      go_wp2_with fail
      go_ret
      exact ⟨C, rfl, HCn.out, by have := HL_0.out; have := HL_C.out; omega, HB.out⟩

end Go.Proofs.YtjlicnhkemfmiaaGreatDoor

/- (marshal.network).add; marshal.least. -/
set_option linter.unusedVariables false
set_option linter.unusedSimpArgs false
namespace Go.Proofs.YtjlicnhkemfmiaaGreatDoor
open Go.RowKit

/-- whether a set of items does not hold all items of a claim -/
def misses (mk s : Nat) : Bool := bits .andNot .u64 (mk : Int) (s : Int) != 0
theorem misses_full : ∀ (k : Fin 5) (mk : Fin 16), mk.val < 2 ^ k.val → misses mk.val (2 ^ k.val - 1) = false := by decide +kernel
def addF (b : Nat → Bool) (x : Rat) (L : List Rat) (j : Nat) : List Rat := (List.range L.length).map fun i => if decide (i < j) && b i then L.getD i 0 + x else L.getD i 0
theorem addF_len (b : Nat → Bool) (x : Rat) (L : List Rat) (j : Nat) : (addF b x L j).length = L.length := by simp [addF]
theorem addF_at {b : Nat → Bool} {x : Rat} {L : List Rat} {j i : Nat} {r : Rat} (h : L[i]? = some r) : (addF b x L j)[i]? = some (if decide (i < j) && b i then r + x else r) := by
  have hi := (List.getElem?_eq_some_iff.1 h).1
  unfold addF
  rw [List.getElem?_map, List.getElem?_range hi]
  show some (if decide (i < j) && b i then L.getD i 0 + x else L.getD i 0) = _
  rw [List.getD_eq_getElem?_getD, h]; rfl
theorem addF_zero (b : Nat → Bool) (x : Rat) (L : List Rat) : addF b x L 0 = L := by
  refine List.ext_getElem? fun i => ?_
  rcases h : L[i]? with _ | r
  · rw [List.getElem?_eq_none (by rw [addF_len]; exact List.getElem?_eq_none_iff.1 h)]
  · rw [addF_at h]; simp
theorem addF_skip {b : Nat → Bool} {x : Rat} {L : List Rat} {j : Nat} (hb : b j = false) : addF b x L (j + 1) = addF b x L j := by
  refine List.ext_getElem? fun i => ?_
  rcases h : L[i]? with _ | r
  · have := List.getElem?_eq_none_iff.1 h
    rw [List.getElem?_eq_none (by rw [addF_len]; exact this), List.getElem?_eq_none (by rw [addF_len]; exact this)]
  · rw [addF_at h, addF_at h]
    by_cases e : i = j
    · subst e; rw [hb]; simp
    · by_cases h1 : i < j
      · rw [decide_eq_true h1, decide_eq_true (show i < j + 1 by omega)]
      · rw [decide_eq_false h1, decide_eq_false (show ¬ i < j + 1 by omega)]
theorem addF_set {b : Nat → Bool} {x : Rat} {L : List Rat} {j : Nat} {r : Rat} (h : L[j]? = some r) (hb : b j = true) : (addF b x L j).set j (r + x) = addF b x L (j + 1) := by
  refine List.ext_getElem? fun i => ?_
  have hjl := (List.getElem?_eq_some_iff.1 h).1
  rw [List.getElem?_set]
  by_cases e : j = i
  · subst e
    rw [if_pos rfl, if_pos (by rw [addF_len]; exact hjl), addF_at h, hb]; simp
  · rw [if_neg e]
    rcases h2 : L[i]? with _ | r2
    · have := List.getElem?_eq_none_iff.1 h2
      rw [List.getElem?_eq_none (by rw [addF_len]; exact this), List.getElem?_eq_none (by rw [addF_len]; exact this)]
    · rw [addF_at h2, addF_at h2]
      by_cases h1 : i < j
      · rw [decide_eq_true h1, decide_eq_true (show i < j + 1 by omega)]
      · rw [decide_eq_false h1, decide_eq_false (show ¬ i < j + 1 by omega)]
theorem addF_sz {b : Nat → Bool} {x : Rat} {L : List Rat} {j a m : Nat} (hL : ∀ r ∈ L, Sz a r) (hx : Sz m x) : ∀ r ∈ addF b x L j, Sz (a + m + 1) r := by
  intro r hr
  obtain ⟨i, hi⟩ := List.getElem?_of_mem hr
  have hil := (List.getElem?_eq_some_iff.1 hi).1
  rw [addF_len] at hil
  rw [addF_at (List.getElem?_eq_getElem hil)] at hi
  have h1 := hL _ (List.getElem_mem hil)
  obtain rfl := Option.some.inj hi
  split
  · exact Sz.add h1 hx
  · exact h1.mono (by omega)
theorem addF_rel {b : Nat → Bool} {x : Rat} {L : List Rat} (hb : b (L.length - 1) = false) : AddR x L (addF b x L L.length) := by
  refine ⟨addF_len _ _ _ _, fun i r r' h h' => ?_, ?_⟩
  · rw [addF_at h] at h'
    obtain rfl := Option.some.inj h'
    split
    · exact Or.inr rfl
    · exact Or.inl rfl
  · rcases h : L[L.length - 1]? with _ | r
    · have := List.getElem?_eq_none_iff.1 h
      rw [List.getElem?_eq_none (by rw [addF_len]; exact this)]
    · rw [addF_at h, hb]; simp
def AddPost (x : Rat) (L : List Rat) (C a m : Nat) (w : World) (e : Ending) (w' : World) : Prop := ∃ L', e = .returned (.tuple #[]) ∧ AddR x L L' ∧ (∀ r ∈ L', Sz (a + m + 1) r) ∧ RatsB C L' w' ∧ Only C w w'
set_option maxHeartbeats 8000000 in
set_option maxRecDepth 100000 in
theorem add_calls (B : Nat) (P O : Option Addr) (I kp cp m co C N cl mk a mz : Nat) (x : Rat) (ps os L : List Rat) (ms : List Nat) (w : World) (h : NetM B P O I ps os ms w) (hBC : B ≤ C) (hc : RatsB C L w) (hN : L.length = N) (hN16 : N ≤ 16) (hx : os[cl]? = some x) (hml : m = os.length) (hm : ms[cl]? = some mk) (hcl : cl ≤ 1000) (hL : ∀ r ∈ L, Sz a r) (hxz : Sz mz x) (ha : 0 < a) (hmz : 0 < mz) (hbd : a + mz ≤ 90000) (hfull : misses mk (N - 1) = false) :
    Calls Tryz.prog 59 #[.agg #[.slice P kp cp, .slice O m co, .slice (some ⟨I, 0, none⟩) m m], .slice (some ⟨C, 0, none⟩) N N, .int .i64 (cl : Int)] w (AddPost x L C a mz w) := by
  have HNT : Hid (NetM B P O I ps os ms w) := h
  have HC00 := Lib.hid hc
  have HX := Lib.hid (And.intro hx (And.intro hm (And.intro hcl (And.intro hL (And.intro hxz hml)))))
  have HBw : Hid (B ≤ w.heap.size) := by have := blk_lt hc; exact (by omega : B ≤ w.heap.size)
  have HBC : Hid (B ≤ C) := hBC
  have HCl : Hid (C < w.heap.size) := blk_lt hc
  have HN16 : N ≤ 16 := hN16
  have HNL : Hid (L.length = N) := hN
  have hcm : (cl : Int) < (m : Int) := by have := (List.getElem?_eq_some_iff.1 hx).1; omega
  have HFULL : Hid (misses mk (L.length - 1) = false) := by rw [hN]; exact hfull
  clear h hc hx hm hcl hL hxz hml hBC hN16 hN hfull
  go_enter Tryz.func59, Tryz.ntmps59
  go_wp2_with fail
  obtain ⟨gn, hg_gn⟩ : ∃ g, g = w.heap.size := ⟨_, rfl⟩
  obtain ⟨w0, hw_w0⟩ : ∃ W, W = (w.alloc (.cells #[.slice P kp cp, .slice O m co, .slice (some ⟨I, 0, none⟩) m m] 88)) := ⟨_, rfl⟩
  have HN0 : Hid (Bk gn (.cells #[.slice P kp cp, .slice O m co, .slice (some ⟨I, 0, none⟩) m m] 88) w0) := by rw [hw_w0, hg_gn]; exact blk_new _ _
  have HL_c : Hid (C < gn) := by rw [hg_gn]; exact HCl.out
  have HC0 : Hid (RatsB C L w0) := by rw [hw_w0]; exact blk_alloc HC00.out
  have HO0 : Hid (Only C w w0) := by rw [hw_w0]; exact Only.of_below <| bel_alloc _ _
  have HL_0 := Lib.hid ((by omega : w.heap.size ≤ gn))
  rw [← hw_w0]
  (try rw [← hg_gn])
  clear hw_w0 hg_gn
  clear HC00
  go_loopw [9] (fun i wr => ∃ j : Nat, j ≤ N ∧ i = .int .i64 (j : Int) ∧ Hid (RatsB C (addF (misses mk) x L j) wr) ∧ Hid (Bk gn (.cells #[.slice P kp cp, .slice O m co, .slice (some ⟨I, 0, none⟩) m m] 88) wr) ∧ Hid (Only C w wr)) (fun i _ => N - (intOf i).toNat)
  case atStart => exact ⟨0, Nat.zero_le _, rfl, by rw [addF_zero]; exact HC0, HN0, HO0⟩
  case round =>
    clear HN0 HO0 HC0
    obtain ⟨j, hj, rfl, HC, HN, HO⟩ := hrel
    rename World => wo
    by_cases hlt : j < N
    · have hlt2 : (j : Int) < (N : Int) := by omega
      have HNTo : Hid (NetM B P O I ps os ms wo) := HNT.out.below (HO.out.at_ _ HBw.out HBC.out)
      have hmkc := HNTo.out.i.cell HX.out.2.1
      have hw2 : IntKind.u64.wrap (j : Int) = (j : Int) := IntWalk.u64_in _ (by omega)
      obtain ⟨y, hy⟩ : ∃ y, y = bits .andNot .u64 (mk : Int) (j : Int) := ⟨_, rfl⟩
      have HY := Lib.hid hy
      have hand := hy.symm
      clear hy
      obtain ⟨c0, c1, c2, fc0, fc1, fc2, hzc⟩ := three_of HN.out
      by_cases h0 : y = 0
      · have d1 : (y != 0) = false := by rw [h0]; rfl
        have HST : Hid (addF (misses mk) x L (j + 1) = addF (misses mk) x L j) := addF_skip (by unfold misses; rw [← HY.out]; exact d1)
        clear h0
        go_wp2_with fail
        go_roundw
        case measure => simp [intOf] <;> omega
        case rel => exact ⟨j + 1, by omega, by go_num, by rw [HST.out]; exact HC, HN, HO⟩
      · have d1 : (y != 0) = true := by simpa using h0
        obtain ⟨r, hr⟩ := getElem?_of_lt (l := L) (k := j) (by rw [HNL.out]; exact hlt)
        have HST := Lib.hid (addF_set (x := x) hr (b := misses mk) (by unfold misses; rw [← HY.out]; exact d1))
        have hat := addF_at (b := misses mk) (x := x) (j := j) hr
        rw [decide_eq_false (Nat.lt_irrefl j), Bool.false_and] at hat
        have hat2 : (addF (misses mk) x L j)[j]? = some r := hat
        have hA' := fun W => pAddQ_calls r x a mz W (HX.out.2.2.2.1 r (List.mem_of_getElem? hr)) HX.out.2.2.2.2.1 ha hmz (by omega)
        obtain ⟨v, hv⟩ : ∃ z, z = r + x := ⟨_, rfl⟩
        rw [← hv] at hA' HST
        unfold ratV at hA'
        have HA := Lib.hid hA'
        have HAT := Lib.hid hat2
        clear hat hat2 hA' hv hr h0
        obtain ⟨ob, ooff, hO, hob, hoc⟩ := Rd.at_ (enc := rtV) rtV_len HNTo.out.o HX.out.1
        have HOB := Lib.hid hob
        subst hO
        have n0 := hoc 0 _ rfl
        have n1 := hoc 1 _ rfl
        have n2 := hoc 2 _ rfl
        rw [Nat.add_zero] at n0
        rw [← Nat.add_assoc] at n1 n2
        have HQ0 : Hid (QC ob (ooff + cl * 3) x wo) := ⟨n0, n1, n2, by have := HBw.out; have := HO.out.size; omega⟩
        clear hoc hob n0 n1 n2
        go_wp2_with fail
        clear c0 c1 c2 fc0 fc1 fc2 hzc
        clear hmkc hand
        obtain ⟨x1, hw_x1⟩ : ∃ W, W = wo.drew := ⟨_, rfl⟩
        have HC1 : Hid (RatsB C (addF (misses mk) x L j) x1) := by rw [hw_x1]; exact HC.out
        have HN1 : Hid (Bk gn (.cells #[.slice P kp cp, .slice (some ⟨ob, ooff, none⟩) m co, .slice (some ⟨I, 0, none⟩) m m] 88) x1) := by rw [hw_x1]; exact HN.out
        have HO1 : Hid (Only C w x1) := by rw [hw_x1]; exact HO.out.drew
        have HQ1 : Hid (QC ob (ooff + cl * 3) x x1) := by rw [hw_x1]; exact HQ0.out.drew
        have hS1 : (AndW (Bk gn (.cells #[.slice P kp cp, .slice (some ⟨ob, ooff, none⟩) m co, .slice (some ⟨I, 0, none⟩) m m] 88)) (QC ob (ooff + cl * 3) x)) x1 := ⟨HN1.out, HQ1.out⟩
        refine wp_region_held_drew (S := (AndW (Bk gn (.cells #[.slice P kp cp, .slice (some ⟨ob, ooff, none⟩) m co, .slice (some ⟨I, 0, none⟩) m m] 88)) (QC ob (ooff + cl * 3) x))) (by kernel_rfl) (by rw [← hw_x1]; exact hS1) ?_
        rw [← hw_x1]
        intro _
        clear hw_x1 HC HN HO HQ0
        refine wpAnyH_take (i := 0) rfl (by kernel_rfl) (by kernel_rfl) (by kernel_rfl) (fun _ _ _ h => h) (Or.inl ⟨by kernel_rfl, (by intro w' _; go_simp; with_reducible rfl)⟩) hS1 ?_
        go_simp
        refine wpAnyH_take (i := 1) rfl (by kernel_rfl) (by kernel_rfl) (by kernel_rfl) (fun _ _ _ h => h) (Or.inl ⟨by kernel_rfl, (by intro w' _; go_simp; with_reducible rfl)⟩) hS1 ?_
        go_simp
        refine wpAnyH_take (i := 2) rfl (by kernel_rfl) (by kernel_rfl) (by kernel_rfl) (fun _ _ _ h => h) (Or.inl ⟨by kernel_rfl, (by intro w' _; go_simp; with_reducible rfl)⟩) hS1 ?_
        go_simp
        refine wpAnyH_take (i := 3) rfl (by kernel_rfl) (by kernel_rfl) (by kernel_rfl) (fun _ _ _ h => h) (Or.inl ⟨by kernel_rfl, (by intro w' _; go_simp; with_reducible rfl)⟩) hS1 ?_
        go_simp
        refine wpAnyH_take (i := 4) rfl (by kernel_rfl) (by kernel_rfl) (by kernel_rfl) (fun _ _ _ h => h) (Or.inl ⟨by kernel_rfl, (by intro w' _; go_simp; with_reducible rfl)⟩) hS1 ?_
        go_simp
        refine wpAnyH_take (i := 6) rfl (by kernel_rfl) (by kernel_rfl) (by kernel_rfl) (fun _ _ _ h => h) (Or.inl ⟨by kernel_rfl, (by intro w' _; go_simp; with_reducible rfl)⟩) hS1 ?_
        go_simp
        refine wpAnyH_take (i := 7) (v := .slice (some ⟨ob, ooff, none⟩) m co) rfl (by kernel_rfl) (by kernel_rfl) (by kernel_rfl) (fun _ _ _ h => h) (Or.inl ⟨by kernel_rfl, (by intro w' hw'; obtain ⟨k0, k1, k2, k3, k4, k5, k6⟩ := three_of hw'.1; go_simp)⟩) hS1 ?_
        go_simp
        refine wpAnyH_take (i := 8) rfl (by kernel_rfl) (by kernel_rfl) (by kernel_rfl) (fun _ _ _ h => h) (Or.inl ⟨by kernel_rfl, (by intro w' _; go_simp; with_reducible rfl)⟩) hS1 ?_
        go_simp
        refine wpAnyH_take (i := 9) rfl (by kernel_rfl) (by kernel_rfl) (by kernel_rfl) (fun _ _ _ h => h) (Or.inl ⟨by kernel_rfl, (by intro w' _; go_simp; with_reducible rfl)⟩) hS1 ?_
        go_simp
        refine wpAnyH_take (i := 10) (v := .agg #[.bool (rneg x), .string (rnum x), .string (rden x)]) rfl (by kernel_rfl) (by kernel_rfl) (by kernel_rfl) (fun _ _ _ h => h) (Or.inl ⟨by kernel_rfl, (by intro w' hw'; obtain ⟨k0, k1, k2, _⟩ := hw'.2; go_simp)⟩) hS1 ?_
        go_simp
        refine wpAnyH_ready (rs := [5]) (by kernel_rfl) (by simp) ?_
        refine AllReadyH.cons rfl (fun K hK => ?_) AllReadyH.nil
        obtain ⟨l0, l1, l2⟩ := HC1.out.cells HAT.out
        go_simp
        clear l0 l1 l2
        have hS2 : (AndW (Bk gn (.cells #[.slice P kp cp, .slice (some ⟨ob, ooff, none⟩) m co, .slice (some ⟨I, 0, none⟩) m m] 88)) (QC ob (ooff + cl * 3) x)) x1 := ⟨HN1.out, HQ1.out⟩
        refine hK.out _ _ hS2 (fun _ => ?_)
        clear hK K
        refine wpAnyH_ready (rs := [11]) (by kernel_rfl) (by simp) ?_
        refine AllReadyH.cons rfl (fun K hK => ?_) AllReadyH.nil
        go_simp
        refine (HA.out _).mono ?_
        rintro e x2 ⟨rfl, hb⟩
        have HC2 : Hid (RatsB C (addF (misses mk) x L j) x2) := blk_next HC1.out hb
        have HN2 : Hid (Bk gn (.cells #[.slice P kp cp, .slice (some ⟨ob, ooff, none⟩) m co, .slice (some ⟨I, 0, none⟩) m m] 88) x2) := blk_next HN1.out hb
        have HO2 : Hid (Only C w x2) := HO1.out.trans (Only.of_below hb)
        have HQ2 : Hid (QC ob (ooff + cl * 3) x x2) := HQ1.out.next hb
        clear hb HC1 HN1 HO1 HQ1
        have hS3 : (AndW (Bk gn (.cells #[.slice P kp cp, .slice (some ⟨ob, ooff, none⟩) m co, .slice (some ⟨I, 0, none⟩) m m] 88)) (QC ob (ooff + cl * 3) x)) x2 := ⟨HN2.out, HQ2.out⟩
        refine hK.out _ _ hS3 (fun _ => ?_)
        clear hK K
        refine wpAnyH_take (i := 12) rfl (by kernel_rfl) (by kernel_rfl) (by kernel_rfl) (fun _ _ _ h => h) (Or.inl ⟨by kernel_rfl, (by intro w' _; go_simp; with_reducible rfl)⟩) hS3 ?_
        go_simp
        refine wpAnyH_ready (rs := [13]) (by kernel_rfl) (by simp) ?_
        refine AllReadyH.cons rfl (fun K hK => ?_) AllReadyH.nil
        obtain ⟨l0, l1, l2⟩ := HC2.out.cells HAT.out
        have f0 := HC2.out.free (j * 3)
        have f1 := HC2.out.free (j * 3 + 1)
        have f2 := HC2.out.free (j * 3 + 2)
        have lf := HC2.out.lt
        go_simp
        clear l0 l1 l2 f0 f1 f2 lf
        obtain ⟨wz, hwz⟩ : ∃ W, W = ((x2.setCell ⟨C, j * 3, none⟩ (.bool (rneg v))).setCell ⟨C, j * 3 + 1, none⟩ (.string (rnum v))).setCell ⟨C, j * 3 + 2, none⟩ (.string (rden v)) := ⟨_, rfl⟩
        have ho : Only C x2 wz := by rw [hwz]; exact (((Only.refl _ _).setC _ _).setC _ _).setC _ _
        have HCz : Hid (RatsB C (addF (misses mk) x L (j + 1)) wz) := by rw [hwz, ← HST.out]; exact HC2.out.set HAT.out v
        have HNz : Hid (Bk gn (.cells #[.slice P kp cp, .slice (some ⟨ob, ooff, none⟩) m co, .slice (some ⟨I, 0, none⟩) m m] 88) wz) := blk_onlyW HN2.out ho (by have := HL_0.out; have := HL_c.out; omega)
        have HQz : Hid (QC ob (ooff + cl * 3) x wz) := HQ2.out.only ho (by have := HOB.out; have := HBC.out; omega)
        have HOz : Hid (Only C w wz) := HO2.out.trans ho
        rw [← hwz]
        clear hwz ho
        have hSz : (AndW (Bk gn (.cells #[.slice P kp cp, .slice (some ⟨ob, ooff, none⟩) m co, .slice (some ⟨I, 0, none⟩) m m] 88)) (QC ob (ooff + cl * 3) x)) wz := ⟨HNz.out, HQz.out⟩
        refine hK.out _ _ hSz (fun _ => ?_)
        clear hK K
        refine wpAnyH_done (by kernel_rfl) ?_ _
        (try go_wp2_with fail)
        go_roundw
        case measure => simp [intOf] <;> omega
        case rel => exact ⟨j + 1, by omega, by go_num, HCz, HNz, HOz⟩
    · have hlt2 : ¬ (j : Int) < (N : Int) := by omega
      have HCn : Hid (RatsB C (addF (misses mk) x L L.length) wo) := by
        show RatsB _ _ _
        rw [show L.length = j by rw [HNL.out]; omega]
        exact HC.out
      go_wp2_with fail
      go_end0
      exact ⟨_, rfl, addF_rel HFULL.out, addF_sz HX.out.2.2.2.1 HX.out.2.2.2.2.1, HCn.out, HO.out⟩
set_option maxHeartbeats 8000000 in
set_option maxRecDepth 100000 in
theorem least_calls (C N a : Nat) (L : List Rat) (w : World) (hc : RatsB C L w) (hN : L.length = N) (hN1 : 0 < N) (hNk : N ≤ 1000) (hL : ∀ r ∈ L, Sz a r) (ha : 0 < a) (ha2 : a ≤ 40000) :
    Calls Tryz.prog 60 #[.slice (some ⟨C, 0, none⟩) N N] w fun e w' => e = .returned (ratV (leastL L)) ∧ Below w.heap.size w w' := by
  have HC00 := Lib.hid hc
  have HX := Lib.hid (And.intro hL hN)
  obtain ⟨r0, hr0⟩ := getElem?_of_lt (l := L) (k := 0) (by omega)
  have hle : leastL L = L.foldl minR r0 := by unfold leastL; rw [List.getD_eq_getElem?_getD, hr0]; rfl
  have HLE := Lib.hid hle
  have HR0' := Lib.hid hr0
  have hN0 : (0 : Int) < (N : Int) := by omega
  have hN0' : 0 < N := hN1
  have hn1000 : N ≤ 1000 := hNk
  have HCl : Hid (C < w.heap.size) := blk_lt hc
  obtain ⟨l0, l1, l2⟩ := RatsB.cells (blk_alloc (o' := (.cells #[.bool false, .string ⟨#[]⟩, .string ⟨#[]⟩] 33)) hc : RatsB C L (w.alloc (.cells #[.bool false, .string ⟨#[]⟩, .string ⟨#[]⟩] 33))) hr0
  rw [Nat.zero_mul] at l0 l1 l2
  rw [Nat.zero_add] at l1 l2
  clear hc hL hN hr0 hle hN1 hNk
  unfold ratV
  go_enter Tryz.func60, Tryz.ntmps60
  go_wp2_with fail
  clear l0 l1 l2
  obtain ⟨gr, hg_gr⟩ : ∃ g, g = w.heap.size := ⟨_, rfl⟩
  obtain ⟨gm, hg_gm⟩ : ∃ g, g = w.heap.size + 1 := ⟨_, rfl⟩
  obtain ⟨w0, hw_w0⟩ : ∃ W, W = ((w.alloc (.cells #[.bool false, .string ⟨#[]⟩, .string ⟨#[]⟩] 33)).alloc (.cells #[.bool (rneg r0), .string (rnum r0), .string (rden r0)] 33)) := ⟨_, rfl⟩
  have HR0 : Hid (Bk gr (.cells #[.bool false, .string ⟨#[]⟩, .string ⟨#[]⟩] 33) w0) := by rw [hw_w0, hg_gr]; exact blk_alloc (blk_new _ _)
  have HM0 : Hid (Bk gm (.cells #[.bool (rneg r0), .string (rnum r0), .string (rden r0)] 33) w0) := by rw [hw_w0, hg_gm]; exact blk_new1 _ _ _
  have HL_c : Hid (C < gr) := by rw [hg_gr]; exact HCl.out
  have HC0 : Hid (RatsB C L w0) := by rw [hw_w0]; exact blk_alloc (blk_alloc HC00.out)
  have HB0 : Hid (Below w.heap.size w w0) := by rw [hw_w0]; exact (bel_alloc _ _).alloc (by simp) _
  have HL_0 := Lib.hid (And.intro (by omega : w.heap.size ≤ gr) ((by omega : gr < gm)))
  rw [← hw_w0]
  (try rw [← hg_gm]); (try rw [← hg_gr])
  clear hw_w0 hg_gr hg_gm
  clear HC00
  have HSZ : Hid (Sz a r0) := HX.out.1 r0 (List.mem_of_getElem? HR0'.out)
  go_loopw [11] (fun i wr => ∃ j : Nat, j ≤ N ∧ i = .int .i64 (j : Int) ∧ Hid (Sz a ((L.take j).foldl minR r0)) ∧ Hid (RatsB C L wr) ∧ Hid (Bk gr (.cells #[.bool false, .string ⟨#[]⟩, .string ⟨#[]⟩] 33) wr) ∧ Hid (Bk gm (.cells #[.bool (rneg ((L.take j).foldl minR r0)), .string (rnum ((L.take j).foldl minR r0)), .string (rden ((L.take j).foldl minR r0))] 33) wr) ∧ Hid (Below w.heap.size w wr)) (fun i _ => N - (intOf i).toNat)
  case atStart => exact ⟨0, Nat.zero_le _, rfl, HSZ, HC0, HR0, HM0, HB0⟩
  case round =>
    clear HSZ HR0 HM0 HB0 HC0
    obtain ⟨j, hj, rfl, HZ, HC, HR, HM, HB⟩ := hrel
    rename World => wo
    obtain ⟨u, hu⟩ : ∃ z, z = (L.take j).foldl minR r0 := ⟨_, rfl⟩
    have HU := Lib.hid hu
    rw [← hu] at HZ HM
    clear hu
    by_cases hlt : j < N
    · have hlt2 : (j : Int) < (N : Int) := by omega
      obtain ⟨r, hr⟩ := getElem?_of_lt (l := L) (k := j) (by rw [HX.out.2]; exact hlt)
      have hnx := take_foldl minR r0 L j r hr
      rw [← HU.out] at hnx
      have hM' := fun W => pMinQ_calls u r a a W HZ.out (HX.out.1 r (List.mem_of_getElem? hr)) ha ha (by omega)
      have hzn : Sz a (minR u r) := by
        rcases minR_or u r with e | e <;> rw [e]
        · exact HZ.out
        · exact HX.out.1 r (List.mem_of_getElem? hr)
      obtain ⟨v, hv⟩ : ∃ z, z = minR u r := ⟨_, rfl⟩
      rw [← hv] at hM' hnx hzn
      unfold ratV at hM'
      have HMN := Lib.hid hM'
      have HNX := Lib.hid hnx
      have HZN := Lib.hid hzn
      obtain ⟨l0, l1, l2⟩ := HC.out.cells hr
      obtain ⟨c0, c1, c2, fc0, fc1, fc2, hzc⟩ := three_of (blk_alloc (o' := (.cells #[.bool (rneg r), .string (rnum r), .string (rden r)] 33)) HM.out)
      clear hr hnx hM' hzn hv
      go_wp2_with fail
      clear l0 l1 l2
      clear c0 c1 c2 fc0 fc1 fc2 hzc
      obtain ⟨gx, hg_gx⟩ : ∃ g, g = wo.heap.size := ⟨_, rfl⟩
      obtain ⟨x1, hw_x1⟩ : ∃ W, W = wo.alloc (.cells #[.bool (rneg r), .string (rnum r), .string (rden r)] 33) := ⟨_, rfl⟩
      have HL_gx := Lib.hid (And.intro (by have := blk_lt HC.out; omega : C < gx) (And.intro (by have := blk_lt HR.out; omega : gr < gx) (And.intro (by have := blk_lt HM.out; omega : gm < gx) ((by have := HB.out.size; omega : w.heap.size ≤ gx)))))
      have HC1 : Hid (RatsB C L x1) := by rw [hw_x1]; exact blk_next HC.out (bel_alloc _ _)
      have HR1 : Hid (Bk gr (.cells #[.bool false, .string ⟨#[]⟩, .string ⟨#[]⟩] 33) x1) := by rw [hw_x1]; exact blk_next HR.out (bel_alloc _ _)
      have HM1 : Hid (Bk gm (.cells #[.bool (rneg u), .string (rnum u), .string (rden u)] 33) x1) := by rw [hw_x1]; exact blk_next HM.out (bel_alloc _ _)
      have HB1 : Hid (Below w.heap.size w x1) := by rw [hw_x1]; exact HB.out.trans ((bel_alloc _ _).mono HB.out.size)
      rw [← hw_x1]
      (try rw [← hg_gx])
      clear hw_x1 hg_gx HC HR HM HB
      refine (HMN.out _).mono ?_
      rintro e x2 ⟨rfl, hb⟩
      have HC2 : Hid (RatsB C L x2) := blk_next HC1.out hb
      have HR2 : Hid (Bk gr (.cells #[.bool false, .string ⟨#[]⟩, .string ⟨#[]⟩] 33) x2) := blk_next HR1.out hb
      have HM2 : Hid (Bk gm (.cells #[.bool (rneg u), .string (rnum u), .string (rden u)] 33) x2) := blk_next HM1.out hb
      have HB2 : Hid (Below w.heap.size w x2) := HB1.out.trans (hb.mono HB1.out.size)
      clear hb HC1 HR1 HM1 HB1
      obtain ⟨c0, c1, c2, fc0, fc1, fc2, hzc⟩ := three_of HM2.out
      go_wp2_with fail
      clear c0 c1 c2 fc0 fc1 fc2 hzc
      obtain ⟨x3, hw_x3⟩ : ∃ W, W = (((x2.setCell ⟨gm, 0, none⟩ (.bool (rneg v))).setCell ⟨gm, 1, none⟩ (.string (rnum v))).setCell ⟨gm, 2, none⟩ (.string (rden v))) := ⟨_, rfl⟩
      have ho : Only gm x2 x3 := by rw [hw_x3]; exact (((Only.refl _ _).setC _ _).setC _ _).setC _ _
      have HC3 : Hid (RatsB C L x3) := blk_onlyW HC2.out ho (by have := HL_0.out; have := HL_c.out; have := HL_gx.out; omega)
      have HR3 : Hid (Bk gr (.cells #[.bool false, .string ⟨#[]⟩, .string ⟨#[]⟩] 33) x3) := blk_onlyW HR2.out ho (by have := HL_0.out; have := HL_c.out; have := HL_gx.out; omega)
      have HB3 : Hid (Below w.heap.size w x3) := HB2.out.trans (ho.at_ _ HB2.out.size (by have := HL_0.out; have := HL_c.out; have := HL_gx.out; omega))
      have HM3 : Hid (Bk gm (.cells #[.bool (rneg v), .string (rnum v), .string (rden v)] 33) x3) := by rw [hw_x3]; exact heap_setCell_same _ gm 2 _ _ (.string (rden v)) (heap_setCell_same _ gm 1 _ _ (.string (rnum v)) (heap_setCell_same _ gm 0 _ _ (.bool (rneg v)) (HM2.out)))
      rw [← hw_x3]
      clear hw_x3 ho HM2 HC2 HR2 HB2
      go_roundw
      case measure => simp [intOf] <;> omega
      case rel => exact ⟨j + 1, by omega, by go_num, by rw [HNX.out]; exact HZN, HC3, HR3, by rw [HNX.out]; exact HM3, HB3⟩
    · have hlt2 : ¬ (j : Int) < (N : Int) := by omega
      have HUE : Hid (leastL L = u) := by
        show _ = _
        rw [HLE.out, HU.out, List.take_of_length_le (by rw [HX.out.2]; omega)]
      obtain ⟨y0, y1, y2, fy0, fy1, fy2, hzy⟩ := three_of HM.out
      obtain ⟨c0, c1, c2, fc0, fc1, fc2, hzc⟩ := three_of HR.out
      go_wp2_with fail
      exact bodyPost_ret (v := .agg #[.bool (rneg u), .string (rnum u), .string (rden u)]) (by simp [results, Tryz.results60, go_sem, c0, c1, c2]) rfl ⟨by rw [HUE.out], ((HB.out.setCell (by have := HL_0.out; simp <;> omega) _).setCell (by have := HL_0.out; simp <;> omega) _).setCell (by have := HL_0.out; simp <;> omega) _⟩

end Go.Proofs.YtjlicnhkemfmiaaGreatDoor

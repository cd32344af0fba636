/- Merged of WRat SqB. -/
import Derived.Test.YtjlicnhkemfmiaaGreatDoorSq
import Derived.Test.YtjlicnhkemfmiaaGreatDoorTVal
import Derived.Test.YtjlicnhkemfmiaaGreatDoorPRatC
import Derived.Test.YtjlicnhkemfmiaaGreatDoorM17
/- rational.Compare, Max, Min, Sum; waterfall.positive, collateral.positive; small laws on blocks. -/
set_option linter.unusedVariables false
set_option linter.unusedSimpArgs false
set_option maxHeartbeats 8000000
set_option maxRecDepth 100000
namespace Go.Proofs.YtjlicnhkemfmiaaGreatDoor
open Go.RowKit

def Bk (g : Nat) (o : Obj) (W : World) : Prop := W.heap[g]? = some o
def AndW (P Q : World → Prop) (W : World) : Prop := P W ∧ Q W
theorem blk_lt {g : Nat} {o : Obj} {W : World} (h : W.heap[g]? = some o) : g < W.heap.size := (Array.getElem?_eq_some_iff.1 h).1
theorem blk_onlyW {g q : Nat} {o : Obj} {W W' : World} (h : W.heap[g]? = some o) (ho : Only q W W') (hne : g ≠ q) : W'.heap[g]? = some o := (ho.block g (blk_lt h) hne).trans h
theorem blk_new1 (w : World) (a b : Obj) : ((w.alloc a).alloc b).heap[w.heap.size + 1]? = some b := by
 have := blk_new (w.alloc a) b
 rwa [World.size_alloc] at this
theorem blk_new2 (w : World) (a b c : Obj) : (((w.alloc a).alloc b).alloc c).heap[w.heap.size + 1 + 1]? = some c := by
 have := blk_new1 (w.alloc a) b c
 rwa [World.size_alloc] at this
theorem own_belowQ {w w' : World} {base e size n : Nat} {v : Value} {xs : List Value} (h : w.ownsRow base e size v n xs) (hb : Below w.heap.size w w') : w'.ownsRow base e size v n xs := by
 refine ⟨h.1, ?_⟩
 rcases h.2 with hn | ⟨g, cap, cur, rfl, hb2, hgg, rest⟩
 ·
  exact .inl hn
 ·
  refine .inr ⟨g, cap, cur, rfl, hb2, ?_, rest⟩
  rw [hb.block g (Array.getElem?_eq_some_iff.1 hgg).1]; exact hgg
theorem _root_.Go.Proofs.YtjlicnhkemfmiaaGreatDoor.Only.of_below {g : Nat} {w w1 : World} (hb : Below w.heap.size w w1) : Only g w w1 := ⟨hb.os, hb.tape, hb.output, hb.size, fun k hk _ => hb.block k hk⟩
def maxR (a b : Rat) : Rat := if b ≤ a then a else b
theorem cmpR_neg {p q : Rat} : cmpR p q < 0 ↔ p < q := by
 unfold cmpR
 split
 ·
  rename_i h; exact ⟨fun _ => h, fun _ => by decide⟩
 ·
  rename_i h; split
  ·
   exact ⟨fun h2 => by omega, fun h2 => absurd h2 h⟩
  ·
   exact ⟨fun h2 => by omega, fun h2 => absurd h2 h⟩
theorem cmpR_nn {p q : Rat} : 0 ≤ cmpR p q ↔ q ≤ p := by
 constructor
 ·
  intro h; exact Rat.not_lt.1 (fun h2 => by have := cmpR_neg.2 h2; omega)
 ·
  intro h; exact Int.not_lt.1 (fun h2 => absurd (cmpR_neg.1 h2) (Rat.not_lt.2 h))
theorem cmpR_np {p q : Rat} : cmpR p q ≤ 0 ↔ p ≤ q := by
 constructor
 ·
  intro h; exact Rat.not_lt.1 (fun h2 => by have := cmpR_pos.2 h2; omega)
 ·
  intro h; exact Int.not_lt.1 (fun h2 => absurd (cmpR_pos.1 h2) (Rat.not_lt.2 h))
theorem pCmpQ_calls (p q : Rat) (k m : Nat) (w : World) (hp : Sz k p) (hq : Sz m q) (k0 : 0 < k) (m0 : 0 < m) (hkm : k + m ≤ 99999) : Calls Tryz.prog 14 #[ratV p, ratV q] w fun e w' => e = .returned (.int .i64 (cmpR p q)) ∧ Below w.heap.size w w' := by
 have := pCompare_calls (fqOf p) (fqOf q) k m w (sz_fitsQ hp) (sz_fitsQ hq) k0 m0 hkm
 rw [fixR_of, fixR_of, fqOf_val, fqOf_val] at this
 exact this
theorem pMaxQ_calls (p q : Rat) (k m : Nat) (w : World) (hp : Sz k p) (hq : Sz m q) (k0 : 0 < k) (m0 : 0 < m) (hkm : k + m ≤ 99999) :
 Calls Tryz.prog 72 #[ratV p, ratV q] w fun e w' => e = .returned (ratV (maxR p q)) ∧ Below w.heap.size w w' := by
 have HC' := fun W => pCmpQ_calls p q k m W hp hq k0 m0 hkm
 have HA' := fun W => pCleanQ_calls p k W hp (by omega)
 have HD' := fun W => pCleanQ_calls q m W hq (by omega)
 unfold ratV at HC' HA' HD'
 have HC := Lib.hid HC'
 have HA := Lib.hid HA'
 have HD := Lib.hid HD'
 clear HC' HA' HD' hp hq k0 m0 hkm
 by_cases hle : q ≤ p
 ·
  have e1 : maxR p q = p := by unfold maxR; rw [if_pos hle]
  rw [e1]
  unfold ratV
  have d1 : decide (0 ≤ cmpR p q) = true := decide_eq_true (cmpR_nn.2 hle)
  clear hle e1
  obtain ⟨cc, hcc⟩ : ∃ c, c = cmpR p q := ⟨_, rfl⟩
  rw [← hcc] at d1 HC
  clear hcc
  go_enter Tryz.func72, Tryz.ntmps72
  go_wp2_with fail
  obtain ⟨ga, hg_ga⟩ : ∃ g, g = w.heap.size := ⟨_, rfl⟩
  obtain ⟨gb, hg_gb⟩ : ∃ g, g = w.heap.size + 1 := ⟨_, rfl⟩
  obtain ⟨gr, hg_gr⟩ : ∃ g, g = w.heap.size + 1 + 1 := ⟨_, rfl⟩
  obtain ⟨w0, hw_w0⟩ : ∃ W, W = (((w.alloc (.cells #[.bool (rneg p), .string (rnum p), .string (rden p)] 33)).alloc (.cells #[.bool (rneg q), .string (rnum q), .string (rden q)] 33)).alloc (.cells #[.bool false, .string ⟨#[]⟩, .string ⟨#[]⟩] 33)) := ⟨_, rfl⟩
  have HP0 : Hid (Bk ga (.cells #[.bool (rneg p), .string (rnum p), .string (rden p)] 33) w0) := by rw [hw_w0, hg_ga]; exact blk_alloc (blk_alloc (blk_new _ _))
  have HQ0 : Hid (Bk gb (.cells #[.bool (rneg q), .string (rnum q), .string (rden q)] 33) w0) := by rw [hw_w0, hg_gb]; exact blk_alloc (blk_new1 _ _ _)
  have HR0 : Hid (Bk gr (.cells #[.bool false, .string ⟨#[]⟩, .string ⟨#[]⟩] 33) w0) := by rw [hw_w0, hg_gr]; exact blk_new2 _ _ _ _
  have HB0 : Hid (Below w.heap.size w w0) := by rw [hw_w0]; exact ((bel_alloc _ _).alloc (by simp) _).alloc (by simp <;> omega) _
  have HL_0 := Lib.hid (And.intro (by omega : w.heap.size ≤ ga) (And.intro (by omega : ga < gb) ((by omega : gb < gr))))
  rw [← hw_w0]
  (try rw [← hg_gr]); (try rw [← hg_gb]); (try rw [← hg_ga])
  clear hw_w0 hg_ga hg_gb hg_gr
  refine (HC.out _).mono ?_
  rintro e w1 ⟨rfl, hb⟩
  have HP1 : Hid (Bk ga (.cells #[.bool (rneg p), .string (rnum p), .string (rden p)] 33) w1) := blk_next HP0.out hb
  have HQ1 : Hid (Bk gb (.cells #[.bool (rneg q), .string (rnum q), .string (rden q)] 33) w1) := blk_next HQ0.out hb
  have HR1 : Hid (Bk gr (.cells #[.bool false, .string ⟨#[]⟩, .string ⟨#[]⟩] 33) w1) := blk_next HR0.out hb
  have HB1 := ben HB0 hb
  clear hb HP0 HQ0 HR0 HB0
  obtain ⟨c0, c1, c2, fc0, fc1, fc2, hzc⟩ := three_of HP1.out
  go_wp2_with fail
  clear c0 c1 c2 fc0 fc1 fc2 hzc
  refine (HA.out _).mono ?_
  rintro e w2 ⟨rfl, hb⟩
  have HP2 : Hid (Bk ga (.cells #[.bool (rneg p), .string (rnum p), .string (rden p)] 33) w2) := blk_next HP1.out hb
  have HQ2 : Hid (Bk gb (.cells #[.bool (rneg q), .string (rnum q), .string (rden q)] 33) w2) := blk_next HQ1.out hb
  have HR2 : Hid (Bk gr (.cells #[.bool false, .string ⟨#[]⟩, .string ⟨#[]⟩] 33) w2) := blk_next HR1.out hb
  have HB2 := ben HB1 hb
  clear hb HP1 HQ1 HR1 HB1
  obtain ⟨c0, c1, c2, fc0, fc1, fc2, hzc⟩ := three_of HR2.out
  have hlt := HL_0.out
  go_wp2_with fail
  exact bodyPost_ret (v := .agg #[.bool (rneg p), .string (rnum p), .string (rden p)]) (by simp [results, Tryz.results72, go_sem, c0, c1, c2]) rfl ⟨rfl, ((HB2.out.setCell (by simp <;> omega) _).setCell (by simp <;> omega) _).setCell (by simp <;> omega) _⟩
 ·
  have e1 : maxR p q = q := by unfold maxR; rw [if_neg hle]
  rw [e1]
  unfold ratV
  have d1 : decide (0 ≤ cmpR p q) = false := decide_eq_false (fun h => hle (cmpR_nn.1 h))
  clear hle e1
  obtain ⟨cc, hcc⟩ : ∃ c, c = cmpR p q := ⟨_, rfl⟩
  rw [← hcc] at d1 HC
  clear hcc
  go_enter Tryz.func72, Tryz.ntmps72
  go_wp2_with fail
  obtain ⟨ga, hg_ga⟩ : ∃ g, g = w.heap.size := ⟨_, rfl⟩
  obtain ⟨gb, hg_gb⟩ : ∃ g, g = w.heap.size + 1 := ⟨_, rfl⟩
  obtain ⟨gr, hg_gr⟩ : ∃ g, g = w.heap.size + 1 + 1 := ⟨_, rfl⟩
  obtain ⟨w0, hw_w0⟩ : ∃ W, W = (((w.alloc (.cells #[.bool (rneg p), .string (rnum p), .string (rden p)] 33)).alloc (.cells #[.bool (rneg q), .string (rnum q), .string (rden q)] 33)).alloc (.cells #[.bool false, .string ⟨#[]⟩, .string ⟨#[]⟩] 33)) := ⟨_, rfl⟩
  have HP0 : Hid (Bk ga (.cells #[.bool (rneg p), .string (rnum p), .string (rden p)] 33) w0) := by rw [hw_w0, hg_ga]; exact blk_alloc (blk_alloc (blk_new _ _))
  have HQ0 : Hid (Bk gb (.cells #[.bool (rneg q), .string (rnum q), .string (rden q)] 33) w0) := by rw [hw_w0, hg_gb]; exact blk_alloc (blk_new1 _ _ _)
  have HR0 : Hid (Bk gr (.cells #[.bool false, .string ⟨#[]⟩, .string ⟨#[]⟩] 33) w0) := by rw [hw_w0, hg_gr]; exact blk_new2 _ _ _ _
  have HB0 : Hid (Below w.heap.size w w0) := by rw [hw_w0]; exact ((bel_alloc _ _).alloc (by simp) _).alloc (by simp <;> omega) _
  have HL_0 := Lib.hid (And.intro (by omega : w.heap.size ≤ ga) (And.intro (by omega : ga < gb) ((by omega : gb < gr))))
  rw [← hw_w0]
  (try rw [← hg_gr]); (try rw [← hg_gb]); (try rw [← hg_ga])
  clear hw_w0 hg_ga hg_gb hg_gr
  refine (HC.out _).mono ?_
  rintro e w1 ⟨rfl, hb⟩
  have HP1 : Hid (Bk ga (.cells #[.bool (rneg p), .string (rnum p), .string (rden p)] 33) w1) := blk_next HP0.out hb
  have HQ1 : Hid (Bk gb (.cells #[.bool (rneg q), .string (rnum q), .string (rden q)] 33) w1) := blk_next HQ0.out hb
  have HR1 : Hid (Bk gr (.cells #[.bool false, .string ⟨#[]⟩, .string ⟨#[]⟩] 33) w1) := blk_next HR0.out hb
  have HB1 := ben HB0 hb
  clear hb HP0 HQ0 HR0 HB0
  obtain ⟨c0, c1, c2, fc0, fc1, fc2, hzc⟩ := three_of HQ1.out
  go_wp2_with fail
  clear c0 c1 c2 fc0 fc1 fc2 hzc
  refine (HD.out _).mono ?_
  rintro e w2 ⟨rfl, hb⟩
  have HP2 : Hid (Bk ga (.cells #[.bool (rneg p), .string (rnum p), .string (rden p)] 33) w2) := blk_next HP1.out hb
  have HQ2 : Hid (Bk gb (.cells #[.bool (rneg q), .string (rnum q), .string (rden q)] 33) w2) := blk_next HQ1.out hb
  have HR2 : Hid (Bk gr (.cells #[.bool false, .string ⟨#[]⟩, .string ⟨#[]⟩] 33) w2) := blk_next HR1.out hb
  have HB2 := ben HB1 hb
  clear hb HP1 HQ1 HR1 HB1
  obtain ⟨c0, c1, c2, fc0, fc1, fc2, hzc⟩ := three_of HR2.out
  have hlt := HL_0.out
  go_wp2_with fail
  exact bodyPost_ret (v := .agg #[.bool (rneg q), .string (rnum q), .string (rden q)]) (by simp [results, Tryz.results72, go_sem, c0, c1, c2]) rfl ⟨rfl, ((HB2.out.setCell (by simp <;> omega) _).setCell (by simp <;> omega) _).setCell (by simp <;> omega) _⟩
theorem wPos_calls (q : Rat) (m : Nat) (w : World) (hq : Sz m q) (m0 : 0 < m) (hkm : m + 8 ≤ 99999) :
 Calls Tryz.prog 36 #[ratV q] w fun e w' => e = .returned (ratV (maxR q 0)) ∧ Below w.heap.size w w' := by
 have HM' := fun W => pMaxQ_calls q 0 m 8 W hq sz_zero m0 (by decide) hkm
 rw [ratV_zero] at HM'
 obtain ⟨z, hz⟩ : ∃ z, z = maxR q 0 := ⟨_, rfl⟩
 rw [← hz] at HM' ⊢
 unfold ratV at HM' ⊢
 have HM := Lib.hid HM'
 clear HM' hz hq m0 hkm
 go_enter Tryz.func36, Tryz.ntmps36
 go_wp2_with fail
 obtain ⟨ga, hg_ga⟩ : ∃ g, g = w.heap.size := ⟨_, rfl⟩
 obtain ⟨gr, hg_gr⟩ : ∃ g, g = w.heap.size + 1 := ⟨_, rfl⟩
 obtain ⟨w0, hw_w0⟩ : ∃ W, W = ((w.alloc (.cells #[.bool (rneg q), .string (rnum q), .string (rden q)] 33)).alloc (.cells #[.bool false, .string ⟨#[]⟩, .string ⟨#[]⟩] 33)) := ⟨_, rfl⟩
 have HP0 : Hid (Bk ga (.cells #[.bool (rneg q), .string (rnum q), .string (rden q)] 33) w0) := by rw [hw_w0, hg_ga]; exact blk_alloc (blk_new _ _)
 have HR0 : Hid (Bk gr (.cells #[.bool false, .string ⟨#[]⟩, .string ⟨#[]⟩] 33) w0) := by rw [hw_w0, hg_gr]; exact blk_new1 _ _ _
 have HB0 : Hid (Below w.heap.size w w0) := by rw [hw_w0]; exact (bel_alloc _ _).alloc (by simp) _
 have HL_0 := Lib.hid (And.intro (by omega : w.heap.size ≤ ga) ((by omega : ga < gr)))
 rw [← hw_w0]
 (try rw [← hg_gr]); (try rw [← hg_ga])
 clear hw_w0 hg_ga hg_gr
 refine (HM.out _).mono ?_
 rintro e w1 ⟨rfl, hb⟩
 have HP1 : Hid (Bk ga (.cells #[.bool (rneg q), .string (rnum q), .string (rden q)] 33) w1) := blk_next HP0.out hb
 have HR1 : Hid (Bk gr (.cells #[.bool false, .string ⟨#[]⟩, .string ⟨#[]⟩] 33) w1) := blk_next HR0.out hb
 have HB1 := ben HB0 hb
 clear hb HP0 HR0 HB0
 obtain ⟨c0, c1, c2, fc0, fc1, fc2, hzc⟩ := three_of HR1.out
 have hlt := HL_0.out
 go_wp2_with fail
 exact bodyPost_ret (v := .agg #[.bool (rneg z), .string (rnum z), .string (rden z)]) (by simp [results, Tryz.results36, go_sem, c0, c1, c2]) rfl ⟨rfl, ((HB1.out.setCell (by simp <;> omega) _).setCell (by simp <;> omega) _).setCell (by simp <;> omega) _⟩
end Go.Proofs.YtjlicnhkemfmiaaGreatDoor

/- Short forms: what stays of a block. -/
namespace Go.Proofs.YtjlicnhkemfmiaaGreatDoor
open Go.RowKit

section
variable {W W1 W2 : World} {g q : Nat} {o : Obj}
theorem bkn (h : Hid (Bk g o W)) (hb : Below W.heap.size W W2) : Hid (Bk g o W2) := blk_next h.out hb
theorem bka (h : Hid (Bk g o W)) {x : Obj} (e : W2 = W.alloc x) : Hid (Bk g o W2) := by rw [e]; exact blk_next h.out (bel_alloc _ _)
theorem bkd (h : Hid (Bk g o W)) (e : W2 = W.drew) : Hid (Bk g o W2) := by rw [e]; exact h.out
theorem bko (h : Hid (Bk g o W)) (ho : Only q W W2) (hne : g ≠ q) : Hid (Bk g o W2) := blk_onlyW h.out ho hne
theorem beo (h : Hid (Below W.heap.size W W1)) (ho : Only g W1 W2) (hg : W.heap.size ≤ g) : Hid (Below W.heap.size W W2) := h.out.trans (ho.at_ _ h.out.size hg)
end
end Go.Proofs.YtjlicnhkemfmiaaGreatDoor

/- register.Find (slices.IndexFunc with a func literal), slices.Clone of entries. -/
import Derived.Test.YtjlicnhkemfmiaaGreatDoorM22
import Derived.Test.YtjlicnhkemfmiaaGreatDoorSq
import Derived.Test.YtjlicnhkemfmiaaGreatDoorM26
set_option linter.unusedVariables false
set_option linter.unusedSimpArgs false
set_option maxHeartbeats 8000000
set_option maxRecDepth 100000
namespace Go.Proofs.YtjlicnhkemfmiaaGreatDoor
open Go.RowKit

theorem bytesD_eq {a b : ByteArray} (h : a.toList = b.toList) : a = b := by
 by_cases e : a = b
 ·
  exact e
 ·
  have := bytes_ne e
  rw [h] at this
  simp at this
theorem findE_hit {l : List En} {id : ByteArray} {k : Nat} {x : En} (hk : l[k]? = some x) (hx : x.doc.id = id) (h : k ≤ findE l id) : findE l id = k := by
 obtain ⟨hkl, hkx⟩ := List.getElem?_eq_some_iff.1 hk
 rcases Nat.lt_or_ge k (findE l id) with hlt | hge
 ·
  have := List.not_of_lt_findIdx hlt
  rw [hkx] at this
  simp [hx] at this
 ·
  omega
theorem findE_miss {l : List En} {id : ByteArray} {k : Nat} {x : En} (hk : l[k]? = some x) (hx : x.doc.id ≠ id) (h : k ≤ findE l id) : k + 1 ≤ findE l id := by
 obtain ⟨hkl, hkx⟩ := List.getElem?_eq_some_iff.1 hk
 rcases Nat.lt_or_ge k (findE l id) with hlt | hge
 ·
  exact hlt
 ·
  exfalso
  have e : findE l id = k := by omega
  have hlt : findE l id < l.length := by omega
  have := List.findIdx_getElem (w := hlt)
  simp only [decide_eq_true_eq] at this
  have e2 : l[List.findIdx (fun x => decide (x.doc.id = id)) l]'hlt = x := by
   rw [← hkx]
   congr 1
  rw [e2] at this
  exact hx this
def ixR (l : List En) (id : ByteArray) : Int := if findE l id < l.length then (findE l id : Int) else -1
theorem lit_calls (x : En) (gi : Nat) (id : ByteArray) (w : World) (hg : Bk gi (.cells #[.string id] 9) w) : Calls Tryz.prog 81 #[.agg x.cells.toArray, .pointer (some ⟨gi, 0, none⟩)] w fun e w' => e = .returned (.bool (decide (x.doc.id = id))) ∧ Below w.heap.size w w' := by
 by_cases he : x.doc.id = id
 ·
  have e1 : decide (x.doc.id = id) = true := decide_eq_true he
  rw [e1]
  have HG := Lib.hid hg
  have HX : Hid (x.doc.id = id) := he
  clear hg he e1
  go_enter Tryz.func81, Tryz.ntmps81
  go_upto_region 1 with fail
  obtain ⟨ga, hg_ga⟩ : ∃ g, g = w.heap.size := ⟨_, rfl⟩
  obtain ⟨w0, hw_w0⟩ : ∃ W, W = (w.alloc (.cells x.cells.toArray 67)) := ⟨_, rfl⟩
  have HE0 : Hid (Bk ga (.cells x.cells.toArray 67) w0) := by rw [hw_w0, hg_ga]; exact blk_new _ _
  have HB0 : Hid (Below w.heap.size w w0) := by rw [hw_w0]; exact bel_alloc _ _
  have HL_0 := Lib.hid ((by omega : w.heap.size ≤ ga))
  rw [← hw_w0]
  (try rw [← hg_ga])
  have HS0 : Hid (Bk gi (.cells #[.string id] 9) w0) := HG.out |> fun h => blk_next h HB0.out
  clear hw_w0 hg_ga
  have k0 := blk_at (j := 0) (v := .string x.doc.id) HE0.out rfl
  have s0 := blk_at (j := 0) (v := .string id) HS0.out rfl
  rw [HX.out] at k0
  go_wp2_with fail
  go_ret
  exact ⟨rfl, HB0.out⟩
 ·
  have e1 : decide (x.doc.id = id) = false := decide_eq_false he
  have h4 : ¬ (x.doc.id).toList = id.toList := fun h => he (bytesD_eq h)
  rw [e1]
  have HG := Lib.hid hg
  have HX := Lib.hid (And.intro he h4)
  clear hg he e1 h4
  go_enter Tryz.func81, Tryz.ntmps81
  go_upto_region 1 with fail
  obtain ⟨ga, hg_ga⟩ : ∃ g, g = w.heap.size := ⟨_, rfl⟩
  obtain ⟨w0, hw_w0⟩ : ∃ W, W = (w.alloc (.cells x.cells.toArray 67)) := ⟨_, rfl⟩
  have HE0 : Hid (Bk ga (.cells x.cells.toArray 67) w0) := by rw [hw_w0, hg_ga]; exact blk_new _ _
  have HB0 : Hid (Below w.heap.size w w0) := by rw [hw_w0]; exact bel_alloc _ _
  have HL_0 := Lib.hid ((by omega : w.heap.size ≤ ga))
  rw [← hw_w0]
  (try rw [← hg_ga])
  have HS0 : Hid (Bk gi (.cells #[.string id] 9) w0) := HG.out |> fun h => blk_next h HB0.out
  clear hw_w0 hg_ga
  have k0 := blk_at (j := 0) (v := .string x.doc.id) HE0.out rfl
  have s0 := blk_at (j := 0) (v := .string id) HS0.out rfl
  have h4 := HX.out.2
  have h5 : (x.doc.id.toList == id.toList) = false := beq_eq_false_iff_ne.2 h4
  go_wp2_with fail
  go_ret
  exact ⟨rfl, HB0.out⟩
theorem index_calls (A : Option Addr) (n c gi : Nat) (l : List En) (id : ByteArray) (w : World) (hn : n = l.length) (hr : Rd w w.heap.size 30 A l.length (l.flatMap En.cells)) (hg : Bk gi (.cells #[.string id] 9) w) (hm : n ≤ maxLen) :
 Calls Tryz.prog 80 #[.slice A n c, .func (.func 81) #[] #[.pointer (some ⟨gi, 0, none⟩)]] w fun e w' => e = .returned (.int .i64 (ixR l id)) ∧ Below w.heap.size w w' := by
 have HRL := Lib.hid (And.intro hn hr)
 have HG := Lib.hid hg
 have hg2 : n ≤ maxLen := hm
 unfold maxLen at hg2
 have HLI := Lib.hid (fun x W h => lit_calls x gi id W h)
 clear hn hr hg hm
 go_enter Tryz.func80, Tryz.ntmps80
 go_wp2_with fail
 go_loopw [8] (fun j wr => ∃ k : Nat, k ≤ n ∧ j = .int .i64 (k : Int) ∧ Hid (k ≤ findE l id) ∧ Hid (Below w.heap.size w wr)) (fun j _ => n - (intOf j).toNat)
 case atStart => exact ⟨0, Nat.zero_le _, rfl, Nat.zero_le _, Below.refl _ _⟩
 case round =>
  obtain ⟨k, hk, rfl, HK, HB⟩ := hrel
  rename World => wo
  by_cases hlt : k < n
  ·
   have hlt2 : (k : Int) < (n : Int) := by omega
   obtain ⟨x, hx⟩ := getElem?_of_lt (l := l) (k := k) (by rw [← HRL.out.1]; exact hlt)
   have HXX := Lib.hid hx
   obtain ⟨b, off, hA, _, hc⟩ := Rd.at_ (enc := En.cells) En.len (HRL.out.2.next HB.out) hx
   subst hA
   have hra : wo.rangeAt b (off + k * 30) x.cells := fun j v hv => by rw [Nat.add_assoc]; exact hc j v hv
   have HRA := Lib.hid hra
   clear hc hra hx
   have HLX := Lib.hid (HLI.out x wo (blk_next HG.out HB.out))
   go_wp2_with (refine wpList_load_mid rfl 67 (.tmp 14) rfl b (off + k * 30) rfl x.cells _ HRA.out Tryz.underlying67 rfl (by kernel_rfl) ?_)
   refine (HLX.out).mono ?_
   rintro e x1 ⟨rfl, hb⟩
   have HB1 := ben HB hb
   clear hb HLX HB
   by_cases hid : x.doc.id = id
   ·
    have e1 : decide (x.doc.id = id) = true := decide_eq_true hid
    rw [e1]
    have e2 := findE_hit HXX.out hid HK.out
    have e3 : ixR l id = (k : Int) := by unfold ixR; rw [e2, if_pos (by rw [← HRL.out.1]; exact hlt)]
    clear e1 hid
    go_wp2_with fail
    go_ret
    exact ⟨by rw [e3]; rfl, HB1.out⟩
   ·
    have e1 : decide (x.doc.id = id) = false := decide_eq_false hid
    rw [e1]
    have HK2 := Lib.hid (findE_miss HXX.out hid HK.out)
    clear e1 hid HK
    go_wp2_with fail
    go_roundw
    case measure => simp [intOf] <;> omega
    case rel => exact ⟨k + 1, by omega, by go_num, HK2, HB1⟩
  ·
   have hge : ¬ (k : Int) < (n : Int) := by omega
   have e3 : ixR l id = -1 := by unfold ixR; rw [if_neg (by have := HK.out; rw [← HRL.out.1]; omega)]
   go_wp2_with fail
   go_ret
   exact ⟨rfl, HB.out⟩
theorem find_none (cut bar day : Int) (A : Option Addr) (n c : Nat) (l : List En) (id : ByteArray) (w : World) (hn : n = l.length) (hr : Rd w w.heap.size 30 A l.length (l.flatMap En.cells)) (hm : n ≤ maxLen) (he : findE l id = l.length) :
 Calls Tryz.prog 49 #[regV cut bar day A n c, .string id] w fun e w' => e = .returned (.tuple #[.int .i64 0, .bool false]) ∧ Below w.heap.size w w' := by
 have HRL := Lib.hid (And.intro hn hr)
 have HMX := Lib.hid hm
 have HE : Hid (ixR l id = -1) := by show _ = _; unfold ixR; rw [if_neg (by omega)]
 clear he
 have hmf : ∀ (fn : Fn) (first cap : Array Value) (w : World), (Instr.makeFunc fn first cap).run Tryz.prog w = .ok (.func fn first cap) w := fun _ _ _ _ => rfl
 clear hn hr hm
 go_enter Tryz.func49, Tryz.ntmps49
 go_upto_region 1 with fail
 obtain ⟨ga, hg_ga⟩ : ∃ g, g = w.heap.size := ⟨_, rfl⟩
 obtain ⟨gi, hg_gi⟩ : ∃ g, g = w.heap.size + 1 := ⟨_, rfl⟩
 obtain ⟨w0, hw_w0⟩ : ∃ W, W = ((w.alloc (.cells #[.int .i64 cut, .int .i64 bar, .int .i64 day, .slice A n c] 57)).alloc (.cells #[.string id] 9)) := ⟨_, rfl⟩
 have HR0 : Hid (Bk ga (.cells #[.int .i64 cut, .int .i64 bar, .int .i64 day, .slice A n c] 57) w0) := by rw [hw_w0, hg_ga]; exact blk_alloc (blk_new _ _)
 have HS0 : Hid (Bk gi (.cells #[.string id] 9) w0) := by rw [hw_w0, hg_gi]; exact blk_new1 _ _ _
 have HB0 : Hid (Below w.heap.size w w0) := by rw [hw_w0]; exact (bel_alloc _ _).alloc (by simp) _
 have HL_0 := Lib.hid (And.intro (by omega : w.heap.size ≤ ga) ((by omega : ga < gi)))
 rw [← hw_w0]
 (try rw [← hg_gi]); (try rw [← hg_ga])
 clear hw_w0 hg_ga hg_gi
 obtain ⟨k0, k1, k2, k3, _, _, _, _, _⟩ := four_of HR0.out
 have HIX := Lib.hid (fun W (h : Below w.heap.size w W) (hs : Bk gi (.cells #[.string id] 9) W) => index_calls A n c gi l id W HRL.out.1 (HRL.out.2.next h) hs HMX.out)
 rw [HE.out] at HIX
 go_wp2_with fail
 clear k0 k1 k2 k3
 refine (HIX.out _ HB0.out HS0.out).mono ?_
 rintro e w1 ⟨rfl, hb⟩
 have HR1 := bkn HR0 hb
 have HS1 := bkn HS0 hb
 have HB1 := ben HB0 hb
 clear hb HR0 HS0 HB0
 go_wp2_with fail
 go_ret2
 exact ⟨rfl, HB1.out⟩
theorem find_at (cut bar day : Int) (A : Option Addr) (n c : Nat) (l : List En) (id : ByteArray) (w : World) (hn : n = l.length) (hr : Rd w w.heap.size 30 A l.length (l.flatMap En.cells)) (hm : n ≤ maxLen) (k : Nat) (he : findE l id = k) (hk : k < l.length) :
 Calls Tryz.prog 49 #[regV cut bar day A n c, .string id] w fun e w' => e = .returned (.tuple #[.int .i64 (k : Int), .bool true]) ∧ Below w.heap.size w w' := by
 have HRL := Lib.hid (And.intro hn hr)
 have HMX := Lib.hid hm
 have HE : Hid (ixR l id = (k : Int)) := by show _ = _; unfold ixR; rw [he, if_pos hk]
 have hkm : (k : Int) ≤ 9223372036854775807 := by have := hm; unfold maxLen at this; omega
 have dk : decide ((0 : Int) ≤ (k : Int)) = true := decide_eq_true (by omega)
 clear he hk
 have hmf : ∀ (fn : Fn) (first cap : Array Value) (w : World), (Instr.makeFunc fn first cap).run Tryz.prog w = .ok (.func fn first cap) w := fun _ _ _ _ => rfl
 clear hn hr hm
 go_enter Tryz.func49, Tryz.ntmps49
 go_upto_region 1 with fail
 obtain ⟨ga, hg_ga⟩ : ∃ g, g = w.heap.size := ⟨_, rfl⟩
 obtain ⟨gi, hg_gi⟩ : ∃ g, g = w.heap.size + 1 := ⟨_, rfl⟩
 obtain ⟨w0, hw_w0⟩ : ∃ W, W = ((w.alloc (.cells #[.int .i64 cut, .int .i64 bar, .int .i64 day, .slice A n c] 57)).alloc (.cells #[.string id] 9)) := ⟨_, rfl⟩
 have HR0 : Hid (Bk ga (.cells #[.int .i64 cut, .int .i64 bar, .int .i64 day, .slice A n c] 57) w0) := by rw [hw_w0, hg_ga]; exact blk_alloc (blk_new _ _)
 have HS0 : Hid (Bk gi (.cells #[.string id] 9) w0) := by rw [hw_w0, hg_gi]; exact blk_new1 _ _ _
 have HB0 : Hid (Below w.heap.size w w0) := by rw [hw_w0]; exact (bel_alloc _ _).alloc (by simp) _
 have HL_0 := Lib.hid (And.intro (by omega : w.heap.size ≤ ga) ((by omega : ga < gi)))
 rw [← hw_w0]
 (try rw [← hg_gi]); (try rw [← hg_ga])
 clear hw_w0 hg_ga hg_gi
 obtain ⟨k0, k1, k2, k3, _, _, _, _, _⟩ := four_of HR0.out
 have HIX := Lib.hid (fun W (h : Below w.heap.size w W) (hs : Bk gi (.cells #[.string id] 9) W) => index_calls A n c gi l id W HRL.out.1 (HRL.out.2.next h) hs HMX.out)
 rw [HE.out] at HIX
 go_wp2_with fail
 clear k0 k1 k2 k3
 refine (HIX.out _ HB0.out HS0.out).mono ?_
 rintro e w1 ⟨rfl, hb⟩
 have HR1 := bkn HR0 hb
 have HS1 := bkn HS0 hb
 have HB1 := ben HB0 hb
 clear hb HR0 HS0 HB0
 go_wp2_with fail
 go_ret2
 exact ⟨rfl, HB1.out⟩
theorem Tryz.info_entry : (Tryz.prog.info? 67).map (fun i => (i.zero, i.size, i.bytes)) = some (some (.agg #[.string ⟨#[]⟩, .int .i64 0, .int .i64 0, .string ⟨#[]⟩, .bool false, .string ⟨#[]⟩, .string ⟨#[]⟩, .int .i64 0, .int .i64 0, .bool false, .string ⟨#[]⟩, .string ⟨#[]⟩, .int .i64 0, .int .i64 0, .int .i64 0, .bool false, .bool false, .string ⟨#[]⟩, .string ⟨#[]⟩, .bool false, .string ⟨#[]⟩, .string ⟨#[]⟩, .bool false, .string ⟨#[]⟩, .string ⟨#[]⟩, .bool false, .string ⟨#[]⟩, .string ⟨#[]⟩, .int .i64 0, .int .i64 0]), 30, 352) := by kernel_rfl
def OwnPost (l : List En) (n : Nat) (w : World) (e : Ending) (w' : World) : Prop := ∃ A c, e = .returned (.slice A n c) ∧ w'.ownsRow w.heap.size 67 30 (.slice A n c) n (l.flatMap En.cells) ∧ Below w.heap.size w w'
theorem cloneE_calls (A : Option Addr) (n c : Nat) (l : List En) (w : World) (hn : n = l.length) (hr : Rd w w.heap.size 30 A l.length (l.flatMap En.cells)) (hcn : A = none → c = 0) (hm : n ≤ 1000) :
 Calls Tryz.prog 47 #[.slice A n c] w (OwnPost l n w) := by
 rcases A with _ | ⟨b, off, sp⟩
 ·
  have hn0 : n = 0 := by
   rcases Nat.eq_zero_or_pos n with h | h
   ·
    exact h
   ·
    obtain ⟨b, off, e, _⟩ := hr.2 (by omega)
    cases e
  obtain rfl : l = [] := List.eq_nil_of_length_eq_zero (by omega)
  have hc0 := hcn rfl
  subst hn0; subst hc0
  clear hr hm hcn hn
  have heq : ∀ W : World, (binOp .eql 55 (.slice none 0 0) (.slice none 0 0)).run Tryz.prog W = .ok (.bool true) W := fun _ => rfl
  go_enter Tryz.func47, Tryz.ntmps47
  go_wp2_with fail
  go_ret
  exact ⟨none, 0, rfl, World.ownsRow_nil _ _ _ _, Below.refl _ _⟩
 ·
  have HRL := Lib.hid (And.intro hn (And.intro hr hm))
  obtain ⟨iq, hi, hz0, hz1, hz2⟩ := info_parts Tryz.info_entry
  have HIQ := Lib.hid (And.intro hi (And.intro hz0 (And.intro hz1 hz2)))
  clear hi hz0 hz1 hz2 hr hm
  have heq : ∀ W : World, (binOp .eql 55 (.slice (some ⟨b, off, sp⟩) n c) (.slice none 0 0)).run Tryz.prog W = .ok (.bool false) W := fun _ => rfl
  have HAD : Hid (∀ W, Below w.heap.size w W → ∀ j u, (l.flatMap En.cells)[j]? = some u → W.cell? ((⟨b, off, sp⟩ : Addr).add j) = some u) := by
   intro W hW j u hu
   have hj := (List.getElem?_eq_some_iff.1 hu).1
   rw [flat_len En.cells 30 En.len] at hj
   obtain ⟨b2, off2, e, hb, hcc⟩ := (HRL.out.2.1.next hW).2 (by omega)
   injection e with e
   injection e with e1 e2 e3
   subst e1; subst e2; subst e3
   rw [Addr.add_mid]
   exact hcc j u hu
  clear hcn hn
  go_enter Tryz.func47, Tryz.ntmps47
  go_wp2_with (at_builtin; refine wpList_append_own _ rfl (.tmp 5) (.tmp 6) 55 rfl w.heap.size 67 iq _ 30 352 Tryz.underlying55 HIQ.out.1 HIQ.out.2.1 HIQ.out.2.2.1 HIQ.out.2.2.2 rfl (by decide) _ 0 [] rfl (World.ownsRow_made w #[] 0 (Nat.le_refl _) (by decide) rfl) ⟨b, off, sp⟩ n c (l.flatMap En.cells) rfl (by rw [HRL.out.1]; exact flat_len En.cells 30 En.len l) (HAD.out _ (bel_alloc _ _)) (En.one l) (by simp only [maxLen]; have := HRL.out.2.2; omega) (by have := HRL.out.2.2; omega) (by simp) ?_)
  intro v' w' hown hgr _
  obtain ⟨A, c', rfl, _, _⟩ := own_shape hown
  have HOW := Lib.hid hown
  have HB : Hid (Below w.heap.size w w') := (bel_alloc w (.cells #[] 67)).grown hgr (by simp) (fun j hj => Nat.le_of_eq (Option.some.inj hj))
  clear hown hgr
  go_wp2_with fail
  go_ret
  exact ⟨A, c', rfl, HOW.out, HB.out⟩

end Go.Proofs.YtjlicnhkemfmiaaGreatDoor

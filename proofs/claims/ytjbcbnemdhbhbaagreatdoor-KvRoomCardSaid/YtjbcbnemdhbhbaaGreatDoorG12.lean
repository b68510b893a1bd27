import Derived.Test.YtjbcbnemdhbhbaaGreatDoorG11
import Derived.Lib.AppendZerosOnto
import Derived.Deep.DeepAppendWide
import Derived.Laws.CopyRow
import Derived.Test.YtjbcbnemdhbhbaaGreatDoorG1
namespace Go.Proofs.YtjbcbnemdhbhbaaGreatDoor
open Go.RowKit
set_option maxRecDepth 100000
set_option linter.unusedVariables false
set_option linter.unusedSimpArgs false
theorem CRow.lit {w : World} {S : Nat → Prop} {blk : Nat} {c : Ce} (h : Bk w blk 170 #[.string c.key, .string c.val, .int .i64 c.over, .int .i64 c.size, .int .i64 c.child]) (hS : S blk) : CRow w S ⟨some ⟨blk, 0, none⟩, 1, 1⟩ [c] := by
 refine ⟨rfl, Nat.le_refl _, by unfold maxLen; show 1 ≤ _; omega, fun i d hd => ?_⟩
 have hi : i < 1 := (List.getElem?_eq_some_iff.1 hd).1
 obtain rfl : i = 0 := by omega
 obtain rfl : c = d := by simpa using hd
 refine ⟨blk, 0, c.vals, rfl, ⟨hS, h.lt⟩, rfl, fun j u hu => ?_, rfl⟩
 have e : (0 + 0 * 5 + j) = j := by omega
 rw [e, h.cell j, ← Array.getElem?_toList]
 exact hu
theorem Nd.right_one {leaf : Bool} {c : Ce} (h : Nd.rightOne leaf c = true) (hl : leaf = true) : Nd.right leaf [c] = true := by
 subst hl
 simp [Nd.right, Nd.rise, h]
set_option maxHeartbeats 4000000 in
theorem nbytes_one (r : Rw) (c : Ce) (S : Nat → Prop) (w : World) (h : CRow w S r [c]) (hr : Nd.rightOne true c = true) : Calls Tryz.prog 253 #[.bool true, .slice r.A r.n r.c] w (TellsI (2 + Nd.size true c : Nat) w) := by
 have hrr := Nd.right_one hr rfl
 have HC1 := Lib.hid fun (W : World) (hb : Below w.heap.size w W) => right_yes true r [c] S W (h.below hb) (by simp) hrr
 have HC2 := Lib.hid fun (W : World) (hb : Below w.heap.size w W) => nsum_any true r [c] S W (h.below hb) (Nd.right_small hrr (by simp))
 obtain ⟨N, hN⟩ : ∃ N, N = Nd.sum true [c] := ⟨_, rfl⟩
 have HN := Lib.hid (show 2 + Nd.size true c = N by rw [hN]; simp [Nd.sum])
 rw [← hN] at HC2
 obtain ⟨A, n, cap⟩ := r
 simp only at HC1 HC2 ⊢
 clear h hr hrr hN
 go_enter Tryz.func253, Tryz.ntmps253
 go_wp2_with (first
   | (go_at_call 268; go_must (refine (HC1.out _ (Below.refl _ _)).mono ?_); rintro e w1 ⟨rfl, hb1⟩; have HN1 := Lib.hid hb1; clear hb1)
   | (go_at_call 254; go_must (refine (HC2.out _ HN1.out).mono ?_); rintro e w2 ⟨rfl, hb2⟩; have HN2 := Lib.hid (HN1.out.trans (hb2.mono HN1.out.size)); clear hb2)
   | fail)
 go_ret
 exact tellsI_of (by rw [HN.out]) HN2.out
set_option maxHeartbeats 4000000 in
theorem tbytes_leaf (c : Ce) (w : World) (hr : Nd.rightOne true c = true) : Calls Tryz.prog 219 #[.bool true, .agg #[.string c.key, .string c.val, .int .i64 c.over, .int .i64 c.size, .int .i64 c.child]] w (TellsI (Nd.size true c : Nat) w) := by
 obtain ⟨wl, hwl⟩ : ∃ W, W = (w.alloc (.cells #[.string c.key, .string c.val, .int .i64 c.over, .int .i64 c.size, .int .i64 c.child] 170)).alloc (.cells #[.string c.key, .string c.val, .int .i64 c.over, .int .i64 c.size, .int .i64 c.child] 170) := ⟨_, rfl⟩
 have hk : Bk wl (w.heap.size + 1) 170 #[.string c.key, .string c.val, .int .i64 c.over, .int .i64 c.size, .int .i64 c.child] := by
   rw [hwl]
   have h := Bk.new (w.alloc (.cells #[.string c.key, .string c.val, .int .i64 c.over, .int .i64 c.size, .int .i64 c.child] 170)) 170 #[.string c.key, .string c.val, .int .i64 c.over, .int .i64 c.size, .int .i64 c.child]
   rwa [show (w.alloc (.cells #[.string c.key, .string c.val, .int .i64 c.over, .int .i64 c.size, .int .i64 c.child] 170)).heap.size = w.heap.size + 1 by simp] at h
 have HB := Lib.hid (show Below w.heap.size w wl by rw [hwl]; exact ((Below.refl _ w).alloc (Nat.le_refl _) _).alloc (by simp) _)
 have HC := Lib.hid (nbytes_one ⟨some ⟨w.heap.size + 1, 0, none⟩, 1, 1⟩ c (fun _ => True) wl (CRow.lit hk trivial) hr)
 have HW := Lib.hid hwl
 obtain ⟨N, hN⟩ : ∃ N, N = Nd.size true c := ⟨_, rfl⟩
 rw [← hN] at HC ⊢
 have hNb : N ≤ 223 := by rw [hN]; exact (Nd.size_le hr).2
 clear hk hwl hr hN
 go_enter Tryz.func219, Tryz.ntmps219
 go_wp2_with (first
   | (go_at_call 253; rw [← HW.out]; go_must (refine HC.out.mono ?_); rintro e w1 ⟨rfl, hb1⟩; have HN1 := Lib.hid (HB.out.trans (hb1.mono HB.out.size)); clear hb1)
   | fail)
 go_ret
 exact tellsI_of (by omega) HN1.out
set_option maxHeartbeats 4000000 in
theorem tbytes_branch (c : Ce) (w : World) (hk : c.key.size ≤ 1000) : Calls Tryz.prog 219 #[.bool false, .agg #[.string c.key, .string c.val, .int .i64 c.over, .int .i64 c.size, .int .i64 c.child]] w (TellsI (Nd.size false c : Nat) w) := by
 obtain ⟨key, val, over, size, child⟩ := c
 simp only at hk
 obtain ⟨n, hn⟩ : ∃ n : Int, n = (Nd.size false ⟨key, val, over, size, child⟩ : Nat) := ⟨_, rfl⟩
 rw [← hn]
 have HN := Lib.hid (show n = 4 + (key.size : Int) + 4 by rw [hn]; unfold Nd.size; simp)
 clear hn
 go_enter Tryz.func219, Tryz.ntmps219
 go_wp2_with fail
 go_ret
 exact tellsI_of HN.out ((Below.refl _ w).alloc (Nat.le_refl _) _)
theorem tbytes_any (leaf : Bool) (c : Ce) (w : World) (hr : Nd.rightOne leaf c = true) : Calls Tryz.prog 219 #[.bool leaf, .agg #[.string c.key, .string c.val, .int .i64 c.over, .int .i64 c.size, .int .i64 c.child]] w (TellsI (Nd.size leaf c : Nat) w) := by
 cases leaf with
 | true => exact tbytes_leaf c w hr
 | false => exact tbytes_branch c w (by have := Nd.one_small hr; omega)
theorem kind_any (leaf : Bool) (w : World) : Calls Tryz.prog 252 #[.bool leaf] w (fun e w' => e = .returned (.int .i64 (if leaf then 1 else 2)) ∧ w = w') := by
 cases leaf
 all_goals
   go_enter Tryz.func252, Tryz.ntmps252
   go_wp2_with fail
   go_ret
   exact ⟨rfl, rfl⟩
structure Pt where
 key : ByteArray
 leaf : Bool
 cells : List Ce
set_option maxHeartbeats 8000000 in
theorem small_any (x : Pt) (r : Rw) (S : Nat → Prop) (w : World) (h : CRow w S r x.cells) (hl : x.cells.length ≤ 10000) (hr : ∀ c ∈ x.cells, Nd.rightOne x.leaf c = true) :
   Calls Tryz.prog 222 #[.agg #[.string x.key, .bool x.leaf, .slice r.A r.n r.c]] w (TellsQ (decide (Nd.sum x.leaf x.cells < 122)) w) := by
 obtain ⟨key, leaf, l⟩ := x
 obtain ⟨A, n, cap⟩ := r
 have hr0 := h
 obtain ⟨h1, h2, h3, -⟩ := hr0
 simp only at h1 h2 h3 hl hr ⊢
 subst h1
 obtain ⟨q, hq⟩ : ∃ q, q = decide (Nd.sum leaf l < 122) := ⟨_, rfl⟩
 rw [← hq]
 have HQ := Lib.hid hq
 have HL := Lib.hid hr
 have hcm : cap ≤ 9223372036854775807 := by unfold maxLen at h3; omega
 obtain ⟨wa, hwa⟩ : ∃ W, W = w.alloc (.cells #[.string key, .bool leaf, .slice A l.length cap] 319) := ⟨_, rfl⟩
 have hba : Below w.heap.size w wa := by rw [hwa]; exact (Below.refl _ w).alloc (Nat.le_refl _) _
 have HKA := Lib.hid (show Bk wa w.heap.size 319 #[.string key, .bool leaf, .slice A l.length cap] by rw [hwa]; exact Bk.new w _ _)
 have HR := Lib.hid (h.below hba)
 have HBA := Lib.hid hba
 have HWA := Lib.hid hwa
 have p2 : wa.cell? ⟨w.heap.size, 2, none⟩ = some (.slice A l.length cap) := HKA.out.cell 2
 have la := HKA.out.lt
 clear h h3 hq hr hba hwa
 go_enter Tryz.func222, Tryz.ntmps222
 go_upto_region 2 with fail
 rw [← HWA.out]
 go_wp2_with fail
 go_loopw [3, 9] (fun u i wr => ∃ (j y : Nat), i = .int .i64 j ∧ u = .int .i64 y ∧ j ≤ l.length ∧ y ≤ 2 + 223 * j ∧ Hid (y = 2 + ((l.take j).map (Nd.size leaf)).sum) ∧ Below wa.heap.size wa wr) (fun _ i _ => l.length - (intOf i).toNat)
 case atStart => exact ⟨0, 2, rfl, rfl, Nat.zero_le _, by omega, Lib.hid (by simp), Below.refl _ _⟩
 case round =>
   obtain ⟨j, y, rfl, rfl, hj, hy, HY, hbw⟩ := hrel
   have HBW := Lib.hid hbw
   by_cases hlt : j < l.length
   · have z1 : decide ((j : Int) < (l.length : Int)) = true := decide_eq_true (by omega)
     obtain ⟨b, o, hA, hS, q0, q1, q2, q3, q4⟩ := (HR.out.below hbw).at j hlt
     simp only at hA
     subst hA
     have hbl := hS.2
     have hone := HL.out _ (List.getElem_mem hlt)
     have hsz := (Nd.size_le hone).2
     have HC := Lib.hid fun (W : World) => tbytes_any leaf l[j] W hone
     have HT := Lib.hid (show ((l.take (j + 1)).map (Nd.size leaf)).sum = ((l.take j).map (Nd.size leaf)).sum + Nd.size leaf l[j] by rw [List.take_succ_eq_append_getElem hlt, List.map_append, List.sum_append]; simp)
     obtain ⟨z, hz⟩ : ∃ z, z = Nd.size leaf l[j] := ⟨_, rfl⟩
     rw [← hz] at HC HT hsz
     obtain ⟨x, hx⟩ : ∃ x, x = l[j] := ⟨_, rfl⟩
     rw [← hx] at HC q0 q1 q2 q3 q4
     have hkr := bk_below HKA.out hbw
     have s1 : wr.cell? ⟨w.heap.size, 1, none⟩ = some (.bool leaf) := hkr.cell 1
     have lr := hkr.lt
     clear hS hone hz hx hbw hkr
     go_wp2_with (first
       | (go_at_call 219; go_must (refine (HC.out _).mono ?_); rintro e w2 ⟨rfl, hb2⟩; have HB2 := Lib.hid (HBW.out.trans ((five_after hb2).2.2.2.2.2.2.1.mono HBW.out.size)); clear hb2)
       | fail)
     go_roundw
     case rel => first | exact ⟨j + 1, y + z, by go_num, by go_num, by omega, by omega, Lib.hid (by rw [HT.out, HY.out]; omega), HB2.out⟩ | ((repeat apply Exists.intro); exact ⟨⟨j + 1, y + z, by go_num, by go_num, by omega, by omega, Lib.hid (by rw [HT.out, HY.out]; omega), HB2.out⟩, rfl⟩)
     case measure => simp [intOf]; omega
   · have z1 : decide ((j : Int) < (l.length : Int)) = false := decide_eq_false (by omega)
     have HV := Lib.hid (show q = decide (y < 122) by rw [HQ.out, HY.out, List.take_of_length_le (by omega)]; rfl)
     clear hbw
     by_cases hs : y < 122
     · have y1 : decide ((y : Int) < 122) = true := decide_eq_true (by omega)
       have HV2 := Lib.hid (show q = true by rw [HV.out]; exact decide_eq_true hs)
       clear hs
       go_wp2_with fail
       go_ret
       exact tellsQ_of HV2.out (HBA.out.trans (HBW.out.mono HBA.out.size))
     · have y1 : decide ((y : Int) < 122) = false := decide_eq_false (by omega)
       have HV2 := Lib.hid (show q = false by rw [HV.out]; exact decide_eq_false hs)
       clear hs
       go_wp2_with fail
       go_ret
       exact tellsQ_of HV2.out (HBA.out.trans (HBW.out.mono HBA.out.size))
end Go.Proofs.YtjbcbnemdhbhbaaGreatDoor
namespace Go.Proofs.YtjbcbnemdhbhbaaGreatDoor
open Go.RowKit
set_option maxRecDepth 100000
set_option linter.unusedVariables false
set_option linter.unusedSimpArgs false
namespace Nd
def spot (l : List Ce) (key : ByteArray) : Nat := l.findIdx fun c => !lt c.key key
def has (l : List Ce) (key : ByteArray) : Bool := match l[spot l key]? with | some c => c.key.toList == key.toList | none => false
theorem spot_le (l : List Ce) (key : ByteArray) : spot l key ≤ l.length := List.findIdx_le_length
theorem spot_of (l : List Ce) (key : ByteArray) (j : Nat) (hj : j ≤ l.length) (h1 : ∀ i (h : i < j), lt (l[i]'(by omega)).key key = true) (h2 : ∀ h : j < l.length, lt l[j].key key = false) : spot l key = j := by
 unfold spot
 by_cases hlt : j < l.length
 · rw [List.findIdx_eq hlt]
   exact ⟨by rw [h2 hlt]; rfl, fun i hi => by rw [h1 i hi]; rfl⟩
 · obtain rfl : j = l.length := by omega
   rw [List.findIdx_eq_length]
   intro x hx
   obtain ⟨i, hi, rfl⟩ := List.getElem_of_mem hx
   rw [h1 i hi]
   rfl
end Nd
set_option maxHeartbeats 8000000 in
theorem place_any (r : Rw) (l : List Ce) (key : ByteArray) (S : Nat → Prop) (w : World) (h : CRow w S r l) (hl : l.length ≤ 10000) :
   Calls Tryz.prog 106 #[.slice r.A r.n r.c, .string key] w (fun e w' => e = .returned (.tuple #[.int .i64 (Nd.spot l key : Nat), .bool (Nd.has l key)]) ∧ Below w.heap.size w w') := by
 obtain ⟨A, n, cap⟩ := r
 have hr0 := h
 obtain ⟨h1, h2, h3, -⟩ := hr0
 simp only at h1 h2 h3 ⊢
 subst h1
 obtain ⟨p, hp⟩ : ∃ p, p = Nd.spot l key := ⟨_, rfl⟩
 obtain ⟨q, hq⟩ : ∃ q, q = Nd.has l key := ⟨_, rfl⟩
 have HP := Lib.hid hp
 have HQ := Lib.hid hq
 rw [← hp, ← hq]
 have HR := Lib.hid h
 have hcm : cap ≤ 9223372036854775807 := by unfold maxLen at h3; omega
 clear h h3 hp hq
 go_enter Tryz.func106, Tryz.ntmps106
 go_wp2_with fail
 go_loopw [6] (fun i wr => ∃ (j : Nat), i = .int .i64 j ∧ j ≤ l.length ∧ Hid (∀ i (h : i < j) (h' : i < l.length), Nd.lt l[i].key key = true) ∧ wr = w) (fun i _ => l.length - (intOf i).toNat)
 case atStart => exact ⟨0, rfl, Nat.zero_le _, Lib.hid (fun i h => by omega), by first | rfl | trivial⟩
 case round =>
   obtain ⟨j, rfl, hj, HA, rfl⟩ := hrel
   by_cases hlt : j < l.length
   · have z1 : decide ((j : Int) < (l.length : Int)) = true := decide_eq_true (by omega)
     obtain ⟨b, o, hA, hS, q0, -⟩ := HR.out.at j hlt
     simp only at hA
     subst hA
     have hbl := hS.2
     obtain ⟨x, hx⟩ : ∃ x, x = l[j] := ⟨_, rfl⟩
     rw [← hx] at q0
     have HX := Lib.hid hx
     clear hS hx
     cases hc : Nd.lt x.key key with
     | true =>
       have y1 : Op.bytesLess x.key.toList key.toList = true := hc
       have HN := Lib.hid (show ∀ i (h : i < j + 1) (h' : i < l.length), Nd.lt l[i].key key = true from fun i h h' => by
         by_cases e : i = j
         · subst e; rw [← HX.out]; exact hc
         · exact HA.out i (by omega) h')
       clear hc
       go_wp2_with fail
       go_roundw
       case rel => first | exact ⟨j + 1, by go_num, by omega, HN, by first | rfl | trivial⟩ | ((repeat apply Exists.intro); exact ⟨⟨j + 1, by go_num, by omega, HN, by first | rfl | trivial⟩, rfl⟩)
       case measure => simp [intOf]; omega
     | false =>
       have y1 : Op.bytesLess x.key.toList key.toList = false := hc
       have HV := Lib.hid (show p = j from HP.out.trans (Nd.spot_of l key j hj (fun i h => HA.out i h (by omega)) (fun _ => by rw [← HX.out]; exact hc)))
       have hq : q = (x.key.toList == key.toList) := by
         rw [HQ.out]
         unfold Nd.has
         rw [← HP.out, HV.out, List.getElem?_eq_getElem hlt, ← HX.out]
       clear hc
       cases hk : (x.key.toList == key.toList) with
       | true =>
         have HV2 := Lib.hid (show q = true by rw [hq, hk])
         clear hq
         go_wp2_with fail
         go_quiet (fail)
         go_wp2_with fail
         go_ret2
         exact ⟨by rw [HV.out, HV2.out]; rfl, below_drewN (Below.refl _ _) _⟩
       | false =>
         have HV2 := Lib.hid (show q = false by rw [hq, hk])
         clear hq
         go_wp2_with fail
         go_quiet (fail)
         go_wp2_with fail
         go_ret2
         exact ⟨by rw [HV.out, HV2.out]; rfl, below_drewN (Below.refl _ _) _⟩
   · have z1 : decide ((j : Int) < (l.length : Int)) = false := decide_eq_false (by omega)
     obtain rfl : j = l.length := by omega
     have HV := Lib.hid (show p = l.length from HP.out.trans (Nd.spot_of l key _ (Nat.le_refl _) (fun i h => HA.out i h h) (fun h => by omega)))
     have HV2 := Lib.hid (show q = false by
       rw [HQ.out]
       unfold Nd.has
       rw [← HP.out, HV.out, List.getElem?_eq_none (Nat.le_refl _)])
     go_wp2_with fail
     go_quiet (fail)
     go_wp2_with fail
     go_ret2
     exact ⟨by rw [HV.out, HV2.out]; rfl, below_drewN (Below.refl _ _) _⟩
end Go.Proofs.YtjbcbnemdhbhbaaGreatDoor
namespace Go.Proofs.YtjbcbnemdhbhbaaGreatDoor
open Go.RowKit
set_option maxRecDepth 100000
set_option linter.unusedVariables false
set_option linter.unusedSimpArgs false
theorem CRow.flat {w : World} {S : Nat → Prop} {r : Rw} {l : List Ce} (h : CRow w S r l) {b o : Nat} (hA : r.A = some ⟨b, o, none⟩) : ∀ (j : Nat) (u : Value), (flatC l)[j]? = some u → w.cell? ⟨b, o + j, none⟩ = some u := by
 intro j u hu
 have hj : j < (flatC l).length := (List.getElem?_eq_some_iff.1 hu).1
 rw [flatC_len] at hj
 have hi : j / 5 < l.length := by omega
 have he : j / 5 * 5 + j % 5 = j := by omega
 obtain ⟨h1, h2, h3, h4⟩ := h
 obtain ⟨b', o', c, q1, q2, q3, q4, q5⟩ := h4 (j / 5) l[j / 5] (List.getElem?_eq_getElem hi)
 unfold CeAt at q5
 subst q5
 rw [hA] at q1
 injection q1 with q1
 injection q1 with e1 e2
 subst e1 e2
 have hg := flatC_get l (j / 5) hi (j % 5) (by omega)
 rw [he] at hg
 rw [hg] at hu
 have := q4 (j % 5) u hu
 rwa [show o + j / 5 * 5 + j % 5 = o + j by omega] at this
def TellsR (l : List Ce) (w : World) (e : Ending) (w' : World) : Prop := Below w.heap.size w w' ∧ ∃ (A : Option Addr) (c : Nat), e = .returned (.slice A l.length c) ∧ COwn w' w.heap.size (.slice A l.length c) l
theorem addr_add (b o j : Nat) : (⟨b, o, none⟩ : Addr).add j = ⟨b, o + j, none⟩ := by unfold Addr.add; split <;> simp_all
set_option maxHeartbeats 4000000 in
theorem clone_any (r : Rw) (l : List Ce) (S : Nat → Prop) (w : World) (h : CRow w S r l) (h0 : 0 < l.length) (hl : l.length ≤ 10000) : Calls Tryz.prog 221 #[.slice r.A r.n r.c] w (TellsR l w) := by
 obtain ⟨i0, hi, iz0, iz1, iz2⟩ := info_parts info_cell
 obtain ⟨A, n, cap⟩ := r
 have hr0 := h
 obtain ⟨h1, h2, h3, -⟩ := hr0
 simp only at h1 h2 h3 ⊢
 subst h1
 obtain ⟨b, o, hA, hS, -⟩ := h.at 0 h0
 simp only at hA
 subst hA
 have HF := Lib.hid (h.flat (b := b) (o := o) rfl)
 have hbl := hS.2
 have hcm : cap ≤ 9223372036854775807 := by unfold maxLen at h3; omega
 have hnil : ∀ W, Sem.run Tryz.prog (binOp BinOp.eql 174 (.slice (some ⟨b, o, none⟩) l.length cap) (.slice none 0 0)) W = .ok (.bool false) W := fun W => by kernel_rfl
 have HLIT := Lib.hid (show (w.alloc (.cells #[] 170)).ownsRow w.heap.size 170 5 (.slice (some ⟨w.heap.size, 0, none⟩) 0 0) 0 [] from World.ownsRow_lit w #[] 0 (Nat.le_refl _) (Nat.zero_le _) rfl)
 have HNEW := Lib.hid (show ∀ (j : Nat) (u : Value), (flatC l)[j]? = some u → (w.alloc (.cells #[] 170)).cell? ((⟨b, o, none⟩ : Addr).add j) = some u from fun j u hu => by
   rw [addr_add]
   exact (((Below.refl w.heap.size w).alloc (Nat.le_refl _) _).cell (p := ⟨b, o + j, none⟩) hbl).trans (HF.out j u hu))
 clear h h3 hS
 go_enter Tryz.func221, Tryz.ntmps221
 go_wp2_with (at_builtin; refine wpList_append_lies _ rfl (.tmp 5) (.tmp 6) 174 rfl w.heap.size 170 i0 _ 5 56 Tryz.underlying174 hi iz0 iz1 iz2 rfl (by omega) (.slice (some ⟨w.heap.size, 0, none⟩) 0 0) 0 [] rfl HLIT.out ⟨b, o, none⟩ l.length cap (flatC l) rfl (flatC_len l) HNEW.out (flatC_oneCell l) h0 (by unfold maxLen; omega) (by omega) (by simp) (w.heap.size + 1) (by simp) ?_; intro gg cap3 w3 hown3 hgrow3 hat3 hlt3)
 have HO3 := Lib.hid (show COwn w3 w.heap.size (.slice (some ⟨gg, 0, none⟩) l.length cap3) l by
   unfold COwn
   rw [Nat.zero_add, List.nil_append] at hown3
   exact hown3)
 have HN3 := Lib.hid (((Off.of_below ((Below.refl _ w).alloc (Nat.le_refl _) (.cells #[] 170)) []).grown hgrow3 (fun g hg => .inr (HLIT.out.lt g hg).1)).below (Nat.le_refl _) (by simp))
 clear hown3 hgrow3 hat3
 go_wp2_with fail
 go_ret
 exact ⟨HN3.out, _, _, rfl, HO3.out⟩
theorem wpList_append_run {P : Program} {w : World} {ops : Array Oper} {rest : List Oper} {o : Oper} {a : Act} {Q : Exit → Act → World → Prop} (hgd : o.guard = none) (s x : Operand) (t tn : TypeId)
   (ho : o.op = .call { callee := .builtin .append, args := #[s, x], argTypes := #[t, tn] }) (sv xv v : Value) (W' : World) (hs : a.eval s = sv) (hx : a.eval x = xv)
   (hrun : (Builtin.append_ #[t, tn] o.type #[sv, xv]).run P w = .ok v W') (h : wpList P ops Q rest (a.put o.dst v) W') : wpList P ops Q (o :: rest) a w := by
 refine wpList_plain hgd fun K hK => ?_
 unfold Oper.wp
 simp [execOp, ho, resolve, invoke, builtin, hs, hx, hrun, Result.andThen]
 exact hK _ _ h
def TellsG (n : Nat) (w : World) (e : Ending) (w' : World) : Prop := Below w.heap.size w w' ∧ ∃ (g c : Nat), e = .returned (.slice (some ⟨g, 0, none⟩) 0 c) ∧ n ≤ c ∧ w'.ownsRow w.heap.size 170 5 (.slice (some ⟨g, 0, none⟩) 0 c) 0 []
set_option maxHeartbeats 4000000 in
theorem grow_nil (n : Nat) (w : World) (h0 : 0 < n) (hn : n ≤ 10000) : Calls Tryz.prog 256 #[.slice none 0 0, .int .i64 n] w (TellsG n w) := by
 obtain ⟨i0, hi, iz0, iz1, iz2⟩ := info_parts info_cell
 have z1 : decide ((n : Int) < 0) = false := decide_eq_false (by omega)
 have z2 : decide ((0 : Int) < (n : Int)) = true := decide_eq_true (by omega)
 have hbd := nextslicecap_le_wide (need := 0 + n) (old := 0) (by omega)
 have HAP := Lib.hid fun (W : World) => Lib.run_append_grow_zeros (P := Tryz.prog) W 174 3 174 170 i0 _ .i64 .i64 Tryz.underlying174 Tryz.underlying3 hi iz0 none 0 0 [] (by simp [Builtin.firstCells]) n h0 (by rw [iz1]; omega) (by omega) (by omega) (by rw [iz2]; omega) (by rw [iz2]; have := Nat.mul_le_mul_right 56 hbd; omega)
 have hap : ∀ W : World, ∃ c, n ≤ c ∧ ∃ cur : Array Value, cur.size = c * 5 ∧ c ≤ maxLen ∧ (Builtin.append_ #[174, 3] 174 #[.slice none 0 0, .int .i64 n]).run Tryz.prog W = .ok (.slice (some ⟨W.heap.size, 0, none⟩) n c) (W.drew.alloc (.cells cur 170)) := fun W => by
   have h := HAP.out W
   rw [Nat.zero_add] at h
   have hge := grownCap_ge W n 0 170
   refine ⟨_, hge, _, ?_, grownCap_le_maxLen W n 0 _ (by unfold maxLen; omega), h⟩
   have e5 : (Value.agg #[.string ByteArray.empty, .string ByteArray.empty, .int .i64 0, .int .i64 0, .int .i64 0]).cells.size = 5 := rfl
   simp only [Array.size_append, size_zeroCells, e5]
   simp
   omega
 obtain ⟨c, hc, cur, hcs, hcm, HW⟩ := hap w
 have HC := Lib.hid hcs
 have hcb : c ≤ 9223372036854775807 := by unfold maxLen at hcm; omega
 have HM := Lib.hid hcm
 have HWR := Lib.hid HW
 clear hbd hap hcs hcm HAP HW
 go_enter Tryz.func256, Tryz.ntmps256
 go_wp2_with (at_builtin; refine wpList_append_run rfl (.tmp 20) (.tmp 21) 174 3 rfl _ _ _ _ rfl rfl HWR.out ?_)
 go_ret
 refine ⟨(Below.refl _ w).drew.alloc (Nat.le_refl _) _, _, c, rfl, hc, ?_⟩
 refine ⟨rfl, .inr ⟨w.heap.size, c, cur, rfl, Nat.le_refl _, ?_, Nat.zero_le _, HM.out, HC.out, rfl⟩⟩
 exact heap_alloc_new w.drew _
def RowC (w : World) (S : Nat → Prop) (l : List Ce) (c : List Value) : Prop := ∃ (b o n cap : Nat), c = [.slice (some ⟨b, o, none⟩) n cap] ∧ CRow w S ⟨some ⟨b, o, none⟩, n, cap⟩ l ∧ b < w.heap.size
theorem rowC_stable : Stable RowC := fun hs hk hT d c h => by
 obtain ⟨b, o, n, cap, h1, h2, h3⟩ := h
 exact ⟨b, o, n, cap, h1, h2.keep hs hk hT, Nat.lt_of_lt_of_le h3 hs⟩
set_option maxHeartbeats 8000000 in
theorem concat_any (r : Rw) (ls : List (List Ce)) (S : Nat → Prop) (w : World) (h : RowOf 1 RowC w S r ls) (h0 : 0 < ls.flatten.length) (hl : ls.flatten.length ≤ 10000) (hls : ls.length ≤ 10) :
   Calls Tryz.prog 224 #[.slice r.A r.n r.c] w (TellsR ls.flatten w) := by
 obtain ⟨i0, hi, iz0, iz1, iz2⟩ := info_parts info_cell
 obtain ⟨A, n, cap⟩ := r
 have hr0 := h
 obtain ⟨h1, h2, h3, -⟩ := hr0
 simp only at h1 h2 h3 ⊢
 subst h1
 have HR := Lib.hid h
 have hcm : cap ≤ 9223372036854775807 := by unfold maxLen at h3; omega
 obtain ⟨T, hT⟩ : ∃ T, T = ls.flatten.length := ⟨_, rfl⟩
 have HT := Lib.hid hT
 rw [← hT] at h0 hl
 have HTJ := Lib.hid (show ∀ j, (ls.take j).flatten.length ≤ T from fun j => by
   have e : ls.flatten = (ls.take j).flatten ++ (ls.drop j).flatten := by rw [← List.flatten_append, List.take_append_drop]
   rw [hT, e, List.length_append]; omega)
 have HG := Lib.hid fun (W : World) => grow_nil T W h0 hl
 clear h h3 hT
 go_enter Tryz.func224, Tryz.ntmps224
 go_wp2_with fail
 go_loopw [3, 11] (fun u i wr => ∃ (j y : Nat), i = .int .i64 j ∧ u = .int .i64 y ∧ j ≤ ls.length ∧ y ≤ 10000 ∧ Hid (y = (ls.take j).flatten.length) ∧ wr = w) (fun _ i _ => ls.length - (intOf i).toNat)
 case atStart => exact ⟨0, 0, rfl, rfl, Nat.zero_le _, by omega, Lib.hid (by simp), by first | rfl | trivial⟩
 case round =>
   obtain ⟨j, y, rfl, rfl, hj, hy, HY, hwr⟩ := hrel
   obtain rfl : w = wr := hwr.symm
   by_cases hlt : j < ls.length
   · have z1 : decide ((j : Int) < (ls.length : Int)) = true := decide_eq_true (by omega)
     obtain ⟨b, o, c, hA, hS, hcl, hcc, hat⟩ := HR.out.2.2.2 j ls[j] (List.getElem?_eq_getElem hlt)
     simp only at hA
     subst hA
     have hbl := hS.2
     obtain ⟨b2, o2, n2, c2, rfl, hrow, hb2⟩ := hat
     have q0 : w.cell? ⟨b, o + j, none⟩ = some (.slice (some ⟨b2, o2, none⟩) n2 c2) := by have := hcc 0 _ rfl; rw [Nat.mul_one, Nat.add_zero] at this; exact this
     have hn2 : n2 = ls[j].length := hrow.1
     have hts : (ls.take (j + 1)).flatten.length = (ls.take j).flatten.length + n2 := by
       rw [hn2, List.take_succ_eq_append_getElem hlt, List.flatten_append, List.length_append]; simp
     have hT1 := HTJ.out (j + 1)
     have hyz : y + n2 ≤ 10000 := by have := HY.out; omega
     have HY2 := Lib.hid (show y + n2 = (ls.take (j + 1)).flatten.length by rw [hts, ← HY.out])
     have z3 : decide (((y : Int) + (n2 : Int)) < 0) = false := decide_eq_false (by omega)
     clear hS hcl hcc hrow hn2 hts hT1
     go_wp2_with fail
     go_roundw
     case rel => first | exact ⟨j + 1, y + n2, by go_num, by go_num, by omega, hyz, HY2, by first | rfl | trivial⟩ | ((repeat apply Exists.intro); exact ⟨⟨j + 1, y + n2, by go_num, by go_num, by omega, hyz, HY2, by first | rfl | trivial⟩, rfl⟩)
     case measure => simp [intOf]; omega
   · have z1 : decide ((j : Int) < (ls.length : Int)) = false := decide_eq_false (by omega)
     have hyT : y = T := by rw [HY.out, List.take_of_length_le (by omega), HT.out]
     subst hyT
     clear HY hy
     go_wp2_with (first
       | (go_at_call 256; go_must (refine (HG.out _).mono ?_); rintro e w1 ⟨hb1, g, c, rfl, hgc, hown⟩; have HB1 := Lib.hid hb1; have HO1 := Lib.hid hown; clear hb1 hown)
       | fail)
     go_loopw [6, 27] (fun u i w2 => ∃ (k : Nat), i = .int .i64 k ∧ k ≤ ls.length ∧ COwn w2 w.heap.size u (ls.take k).flatten ∧ Below w.heap.size w w2) (fun _ i _ => ls.length - (intOf i).toNat)
     case atStart => exact ⟨0, rfl, Nat.zero_le _, HO1.out, HB1.out⟩
     case round =>
       obtain ⟨k, rfl, hk, how, hbw⟩ := hrel
       have HBW := Lib.hid hbw
       have HOW := Lib.hid how
       by_cases hlk : k < ls.length
       · have z2 : decide ((k : Int) < (ls.length : Int)) = true := decide_eq_true (by omega)
         obtain ⟨b, o, c9, hA, hS, hcl, hcc, hat⟩ := (RowOf.keep rowC_stable HR.out hbw.size (T := S) (fun x _ hx => hbw.block x hx) (fun _ h _ => h)).2.2.2 k ls[k] (List.getElem?_eq_getElem hlk)
         simp only at hA
         subst hA
         have hbl := hS.2
         obtain ⟨b2, o2, n2, c2, rfl, hrow, hb2⟩ := hat
         have q0 : wr.cell? ⟨b, o + k, none⟩ = some (.slice (some ⟨b2, o2, none⟩) n2 c2) := by have := hcc 0 _ rfl; rw [Nat.mul_one, Nat.add_zero] at this; exact this
         have hn2 : n2 = ls[k].length := hrow.1
         have HF := Lib.hid (show ∀ (j : Nat) (u : Value), (flatC ls[k])[j]? = some u → wr.cell? ((⟨b2, o2, none⟩ : Addr).add j) = some u from fun j u hu => by rw [addr_add]; exact hrow.flat rfl j u hu)
         have HTS := Lib.hid (show (ls.take (k + 1)).flatten = (ls.take k).flatten ++ ls[k] by
           rw [List.take_succ_eq_append_getElem hlk, List.flatten_append]; simp)
         have hT1 := HTJ.out (k + 1)
         have hlen : (ls.take k).flatten.length + n2 ≤ 10000 := by rw [HTS.out, List.length_append] at hT1; omega
         have hbs := HBW.out.size
         obtain ⟨x, hx⟩ : ∃ x, x = ls[k] := ⟨_, rfl⟩
         rw [← hx] at HF HTS hn2
         obtain ⟨m, hm⟩ : ∃ m, m = (ls.take k).flatten.length := ⟨_, rfl⟩
         have HOM := Lib.hid (show wr.ownsRow w.heap.size 170 5 u6 m (flatC (ls.take k).flatten) by rw [hm]; exact how)
         have HFL := Lib.hid (show (flatC x).length = n2 * 5 by rw [flatC_len, hn2])
         have HMM := Lib.hid hm
         have hmb : m + n2 ≤ 10000 := by omega
         have HN2 := Lib.hid hn2
         clear how hbw hS hcl hcc hrow hT1 hx hm hn2 hlen
         go_wp2_with (at_builtin; refine wpList_append_own _ rfl (.tmp 31) (.tmp 32) 174 rfl w.heap.size 170 i0 _ 5 56 Tryz.underlying174 hi iz0 iz1 iz2 rfl (by omega) u6 m (flatC (ls.take k).flatten) rfl HOM.out ⟨b2, o2, none⟩ n2 c2 (flatC x) rfl HFL.out HF.out (flatC_oneCell x) (by unfold maxLen; omega) (by omega) hbs ?_; intro v' w3 hown3 hgrow3 hiff)
         have HO3 := Lib.hid (show COwn w3 w.heap.size v' (ls.take (k + 1)).flatten by
           unfold COwn
           rw [HTS.out, flatC_app, List.length_append, ← HMM.out, ← HN2.out]
           exact hown3)
         have HN3 := Lib.hid (((Off.of_below HBW.out []).grown hgrow3 (fun g hg => .inr (HOM.out.lt g hg).1)).below (Nat.le_refl _) (by simp))
         clear hown3 hgrow3 hiff
         go_wp2_with fail
         go_roundw
         case rel => first | exact ⟨k + 1, by go_num, by omega, HO3.out, HN3.out⟩ | ((repeat apply Exists.intro); exact ⟨⟨k + 1, by go_num, by omega, HO3.out, HN3.out⟩, rfl⟩)
         case measure => simp [intOf]; omega
       · have z2 : decide ((k : Int) < (ls.length : Int)) = false := decide_eq_false (by omega)
         obtain rfl : k = ls.length := by omega
         rw [List.take_length] at HOW
         obtain ⟨r, hrv, hcr⟩ := HOW.out.row
         obtain ⟨rA, rn, rc⟩ := r
         simp only at hrv
         have hrn : rn = ls.flatten.length := hcr.1
         subst hrv
         subst hrn
         clear how hbw hcr
         go_wp2_with fail
         go_ret
         exact ⟨HBW.out, rA, rc, rfl, HOW.out⟩
theorem run_copy_wide {P : Program} (w : World) (dT sT ty elem : TypeId) (k g o dLen dCap : Nat) (a : Addr) (sLen sCap : Nat) (cur : Array Value) (t : TypeId) (cs : List Value)
   (hu : P.underlying dT = some (.slice elem)) (hs : (P.info? elem).map (·.size) = some k)
   (hg : w.heap[g]? = some (.cells cur t (0, 0))) (hn : cs.length = Nat.min sLen dLen * k)
   (hsrc : ∀ j v, cs[j]? = some v → w.cell? (a.add j) = some v) (hfit : o + cs.length ≤ cur.size) (h1 : ∀ v ∈ cs, v.oneCell' = true) :
   (Builtin.copy_ #[dT, sT] ty #[.slice (some ⟨g, o, none⟩) dLen dCap, .slice (some a) sLen sCap]).run P w =
     .ok (goInt (Nat.min sLen dLen)) (w.setRow g (cur.toList.take o ++ cs ++ cur.toList.drop (o + cs.length)).toArray) := by
 have hst := run_storeCells_at P g o t cs 0 cur w hg (by simpa using hfit) h1
 cases hq : P.info? elem with
 | none => simp [hq] at hs
 | some i =>
   have hi : i.size = k := by simpa [hq] using hs
   have hf := run_firstCells_some (P := P) w k (Nat.min sLen dLen) a sLen sCap cs hn hsrc
   simp [Builtin.copy_, run_underlying hu, Builtin.lenOf, sizeOf, typeInfo, hq, hi, hf, hst]
theorem wpList_copy_run {P : Program} {w : World} {ops : Array Oper} {rest : List Oper} {o : Oper} {a : Act} {Q : Exit → Act → World → Prop} (hgd : o.guard = none) (s x : Operand) (t tn : TypeId)
   (ho : o.op = .call { callee := .builtin .copy, args := #[s, x], argTypes := #[t, tn] }) (sv xv v : Value) (W' : World) (hs : a.eval s = sv) (hx : a.eval x = xv)
   (hrun : (Builtin.copy_ #[t, tn] o.type #[sv, xv]).run P w = .ok v W') (h : wpList P ops Q rest (a.put o.dst v) W') : wpList P ops Q (o :: rest) a w := by
 refine wpList_plain hgd fun K hK => ?_
 unfold Oper.wp
 simp [execOp, ho, resolve, invoke, builtin, hs, hx, hrun, Result.andThen]
 exact hK _ _ h
def TellsO (B : Nat) (v : Value) (l : List Ce) (w : World) (e : Ending) (w' : World) : Prop :=
 ∃ (S : List Nat) (A : Option Addr) (c : Nat), (∀ g ∈ S, v.ownBlock = some g) ∧ Off S w w' ∧ e = .returned (.slice A l.length c) ∧ COwn w' B (.slice A l.length c) l ∧ ∀ g, Value.ownBlock (.slice A l.length c) = some g → v.ownBlock = some g ∨ w.heap.size ≤ g
theorem own_formK {w : World} {B : Nat} {e : TypeId} {s n : Nat} {v : Value} {xs : List Value} (h : w.ownsRow B e s v n xs) : ∃ A c, v = .slice A n c ∧ (n ≠ 0 → ∃ g, A = some ⟨g, 0, none⟩) ∧ c ≤ maxLen := by
 rcases h.2 with ⟨rfl, rfl⟩ | ⟨g, cap, _, rfl, _, _, _, hc, _⟩
 · exact ⟨none, 0, rfl, fun h => absurd rfl h, Nat.zero_le _⟩
 · exact ⟨_, cap, rfl, fun _ => ⟨g, rfl⟩, hc⟩
section
variable {P : Program} (w : World)
theorem run_append_k (base : Nat) (t ty e : TypeId) (i : TypeInfo) (z : Value) (size bytes : Nat) (ht : P.underlying t = some (.slice e)) (hi : P.info? e = some i) (hz : i.zero = some z)
   (hsize : i.size = size) (hby : i.bytes = bytes) (hzs : z.cells.size = size) (h0 : 0 < size)
   (v : Value) (n : Nat) (xs : List Value) (hown : w.ownsRow base e size v n xs)
   (A : Option Addr) (m c : Nat) (news : List Value) (hm : news.length = m * size) (hA : A = none → m = 0) (hr : ∀ ad, A = some ad → ∀ j u, news[j]? = some u → w.cell? (ad.add j) = some u) (h1 : ∀ u ∈ news, u.oneCell' = true)
   (h63 : n + m ≤ maxLen) (hbytes : (n + m) * bytes ≤ 140737488355328) (hbase : base ≤ w.heap.size) :
   ∃ v' w', (Builtin.append_ #[t, t] ty #[v, .slice A m c]).run P w = .ok v' w' ∧ w'.ownsRow base e size v' (n + m) (xs ++ news) ∧ w.grownBy w' v.ownBlock ∧
     (v'.ownBlock = v.ownBlock ∨ v'.ownBlock = some w.heap.size) := by
 rcases A with _ | ad
 · have hm0 := hA rfl
   subst hm0
   have hn : news = [] := List.eq_nil_of_length_eq_zero (by omega)
   subst hn
   exact ⟨v, w, run_append_nil w base t ty e i size ht hi v n xs hown c, by simpa using hown, World.grownBy.refl w _, .inl rfl⟩
 · obtain ⟨v', w', hrun, h2, h3, _, h5⟩ := run_append_own_at (P := P) w base t ty e i z size bytes ht hi hz hsize hby hzs h0 v n xs hown ad m c news hm (hr ad rfl) h1 h63 hbytes hbase
   exact ⟨v', w', hrun, h2, h3, h5⟩
theorem wpList_append_k {ops : Array Oper} {rest : List Oper} {o : Oper} {a : Act} {Q : Exit → Act → World → Prop} (hgd : o.guard = none) (s x : Operand) (t : TypeId)
   (ho : o.op = .call { callee := .builtin .append, args := #[s, x], argTypes := #[t, t] })
   (base : Nat) (e : TypeId) (i : TypeInfo) (z : Value) (size bytes : Nat) (ht : P.underlying t = some (.slice e)) (hi : P.info? e = some i) (hz : i.zero = some z)
   (hsize : i.size = size) (hby : i.bytes = bytes) (hzs : z.cells.size = size) (h0 : 0 < size)
   (v : Value) (n : Nat) (xs : List Value) (hs : a.eval s = v) (hown : w.ownsRow base e size v n xs)
   (A : Option Addr) (m c : Nat) (news : List Value) (hx : a.eval x = .slice A m c) (hm : news.length = m * size) (hA : A = none → m = 0) (hr : ∀ ad, A = some ad → ∀ j u, news[j]? = some u → w.cell? (ad.add j) = some u) (h1 : ∀ u ∈ news, u.oneCell' = true)
   (h63 : n + m ≤ maxLen) (hbytes : (n + m) * bytes ≤ 140737488355328) (hbase : base ≤ w.heap.size)
   (h : ∀ A' c' w', w'.ownsRow base e size (.slice A' (n + m) c') (n + m) (xs ++ news) → w.grownBy w' v.ownBlock → wpList P ops Q rest (a.put o.dst (.slice A' (n + m) c')) w') : wpList P ops Q (o :: rest) a w := by
 refine wpList_plain hgd fun K hK => ?_
 obtain ⟨v', w', hrun, h2, h3, h4⟩ := run_append_k (P := P) w base t o.type e i z size bytes ht hi hz hsize hby hzs h0 v n xs hown A m c news hm hA hr h1 h63 hbytes hbase
 obtain ⟨A', c', rfl, -, -⟩ := own_formK h2
 unfold Oper.wp execOp
 simp only [ho, resolve, invoke, builtin, Sem.run_bind, Sem.run_pure, Result.andThen_ok, List.map_toArray, List.map_cons, List.map_nil, hs, hx, hrun]
 exact hK _ _ (h A' c' w' h2 h3)
end
end Go.Proofs.YtjbcbnemdhbhbaaGreatDoor

import Derived.Test.YtjbcbnemdhbhbaaGreatDoorG33
import Derived.Test.YtjbcbnemdhbhbaaGreatDoorG34
import Derived.Test.YtjbcbnemdhbhbaaGreatDoorG1
import Derived.Deep.RegionHeld3
namespace Go.Proofs.YtjbcbnemdhbhbaaGreatDoor
open Go.RowKit
set_option maxRecDepth 100000
set_option linter.unusedVariables false
set_option linter.unusedSimpArgs false
theorem hereV_at (l : List (Nat × Nat)) {i : Nat} (h : i < 512) : (hereV l).toArray[i]? = some (.bool (decide (i ∈ Fr.pg l))) := by
 simp [hereV, Fr.here_at l h]
theorem hereV_take (l : List (Nat × Nat)) (j : Nat) (hj : j < l.length) : hereV (l.take (j + 1)) = (hereV (l.take j)).set l[j].2 (.bool true) := by
 unfold hereV
 rw [Fr.here_add (l.take j) (l.take (j + 1)) (p := l[j].2) (fun i => by rw [List.take_succ_eq_append_getElem hj]; unfold Fr.pg; rw [List.map_append, List.mem_append]; simp)]
 rw [List.map_set]
set_option maxHeartbeats 16000000 in
theorem fmay_ok {w : World} {A : Option Addr} {c : Nat} {l : List (Nat × Nat)} (next : Nat) (h : FRow w A l) (hs : Fr.Sorted l) (hk : ∀ x ∈ l, Fr.ok x = true) (hnd : (Fr.pg l).Nodup) (hl : l.length ≤ 40) (hn : next < 512) :
   Calls Tryz.prog 171 #[.int .i64 next, .slice A l.length c] w (fun e w' => e = .returned (.bool true) ∧ Below w.heap.size w w') := by
 have HR := Lib.hid h
 have HS := Lib.hid hs
 have HK := Lib.hid hk
 have HND := Lib.hid hnd
 have z1 : decide ((next : Int) < 0) = false := decide_eq_false (by omega)
 have z2 : decide ((512 : Int) ≤ (next : Int)) = false := decide_eq_false (by omega)
 have z2' : decide (512 ≤ next) = false := decide_eq_false (by omega)
 obtain ⟨n, hn9⟩ : ∃ n, n = l.length := ⟨_, rfl⟩
 have HN := Lib.hid hn9
 rw [← hn9] at hl ⊢
 have z3 : decide ((40 : Int) < (n : Int)) = false := decide_eq_false (by omega)
 have z4 : decide (40 < n) = false := decide_eq_false (by omega)
 have hz : Hid (∀ W : World, Bk (W.alloc (.cells (Array.replicate 512 (.bool false)) 163)) W.heap.size 163 (hereV []).toArray) := fun W => by
   have e : Array.replicate 512 (Value.bool false) = (hereV []).toArray := by
     unfold hereV
     rw [Fr.here_nil, List.map_replicate]
     rfl
   rw [← e]
   exact Bk.new W _ _
 clear h hs hk hnd hn hn9
 go_enter Tryz.func171, Tryz.ntmps171
 go_upto_region 5 with fail
 go_loopw [21] (fun i wr => ∃ j : Nat, i = .int .i64 j ∧ j ≤ n ∧ Hid (Bk wr w.heap.size 163 (hereV (l.take j)).toArray ∧ Below w.heap.size w wr)) (fun i _ => n - (intOf i).toNat)
 case atStart => exact ⟨0, rfl, Nat.zero_le _, Lib.hid ⟨hz.out w, (Below.refl _ w).alloc (Nat.le_refl _) _⟩⟩
 case round =>
   obtain ⟨j, rfl, hj, hI⟩ := hrel
   by_cases hlt : j < n
   · skip
     have z5 : decide ((j : Int) < (n : Int)) = true := decide_eq_true (by omega)
     have hlj : j < l.length := by have := HN.out; omega
     have hbl := hI.out.2
     obtain ⟨b, o, hA, hb, hx1, hx2⟩ := (HR.out.below hbl).at j hlj
     obtain ⟨x, hx⟩ : ∃ x, x = l[j] := ⟨_, rfl⟩
     rw [← hx] at hx1 hx2
     have hxm : x ∈ l := by rw [hx]; exact List.getElem_mem hlj
     have hxo := HK.out x hxm
     have hx512 : x.2 < 512 := by unfold Fr.ok at hxo; simp at hxo; omega
     have htk : l.take (j + 1) = l.take j ++ [x] := by rw [hx]; exact List.take_succ_eq_append_getElem hlj
     have hnot : x.2 ∉ Fr.pg (l.take j) := fun hm => by
       have h1 : (Fr.pg (l.take (j + 1))).Nodup := by
         refine List.Nodup.sublist ?_ HND.out
         unfold Fr.pg
         exact (List.take_sublist _ _).map _
       rw [htk] at h1
       unfold Fr.pg at h1 hm
       rw [List.map_append] at h1
       exact (List.nodup_append.1 h1).2.2 _ hm x.2 (by simp) rfl
     have hsn := hI.out.1
     have hcp := (hsn.cell x.2).trans (hereV_at (l.take j) hx512)
     rw [decide_eq_false hnot] at hcp
     have hfp := hsn.frozen x.2
     have lsn := hsn.lt
     have HRT := Lib.hid fun (W : World) => fright_ok x W hxo
     obtain ⟨x1, hx19⟩ : ∃ x1, x1 = x.1 := ⟨_, rfl⟩
     obtain ⟨x2, hx29⟩ : ∃ x2, x2 = x.2 := ⟨_, rfl⟩
     rw [← hx19] at hx1 HRT
     rw [← hx29] at hx2 HRT hcp hfp hx512
     have hset : (hereV (l.take (j + 1))).toArray = (hereV (l.take j)).toArray.setIfInBounds x2 (.bool true) := by
       rw [hereV_take l j hlj, hx29, hx]
       simp
     have HSET := Lib.hid hset
     have HSN := Lib.hid hsn
     have HBL := Lib.hid hbl
     have z6 : (x2 : Int) < 512 := by omega
     subst hA
     rcases Nat.eq_zero_or_pos j with hj0 | hj0
     · have z7 : decide ((0 : Int) < (j : Int)) = false := decide_eq_false (by omega)
       have z8 : decide (0 < j) = false := decide_eq_false (by omega)
       have HKS := Lib.hid (show ∀ W, Below (wr.alloc (.cells #[.int .i64 x1, .int .i64 x2] 62)).heap.size (wr.alloc (.cells #[.int .i64 x1, .int .i64 x2] 62)) W → W.cell? ⟨wr.heap.size, 0, none⟩ = some (.int .i64 x1) ∧ W.cell? ⟨wr.heap.size, 1, none⟩ = some (.int .i64 x2) ∧ W.cell? ⟨w.heap.size, x2, none⟩ = some (.bool false) from fun W hW => ⟨(bk_below (Bk.new wr 62 #[.int .i64 x1, .int .i64 x2]) hW).cell 0, (bk_below (Bk.new wr 62 #[.int .i64 x1, .int .i64 x2]) hW).cell 1, (((Off.refl [] wr).alloc _).cell (p := ⟨w.heap.size, x2, none⟩) lsn (by simp) |> fun e => (hW.cell (p := ⟨w.heap.size, x2, none⟩) (by simp; omega)).trans (e.trans hcp))⟩)
       clear hI hxo hnot hsn htk hset hx hxm hcp hbl hx19 hx29 hj0
       go_wp2_with fail
       have hund : undef = .tuple #[] := rfl
       first
         | go_region_with (first
           | (go_at_call 214; refine (HRT.out _).mono ?_; rintro e w3 ⟨rfl, hb3⟩; have hk3 := Lib.hid ((Below.refl (wr.alloc (.cells #[.int .i64 x1, .int .i64 x2] 62)).heap.size (wr.alloc (.cells #[.int .i64 x1, .int .i64 x2] 62))).drew.trans (hb3.mono (by simp))); obtain ⟨v0, v1, v2⟩ := HKS.out _ hk3.out; clear hb3)
           | fail)
         | fail
       all_goals
         have hb9 : Below wr.heap.size wr w3 := ((Below.refl _ wr).alloc (Nat.le_refl _) _).trans (hk3.out.mono (by simp))
         have hsn9 := bk_below (HSN.out.alloc (.cells #[.int .i64 x1, .int .i64 x2] 62)) hk3.out
         obtain ⟨v0, v1, v2⟩ := HKS.out _ hk3.out
         have g1 := hsn9.frozen x2
         have lsn9 := hsn9.lt
         have ln9 : wr.heap.size < w3.heap.size := by have := hk3.out.size; simp at this; omega
         have HN9 := Lib.hid (show Bk (w3.setCell ⟨w.heap.size, x2, none⟩ (.bool true)) w.heap.size 163 (hereV (l.take (j + 1))).toArray ∧ Below w.heap.size w (w3.setCell ⟨w.heap.size, x2, none⟩ (.bool true)) from
           ⟨by rw [HSET.out]; exact hsn9.put x2 (.bool true), ((Off.of_below (HBL.out.trans (hb9.mono HBL.out.size)) []).then ((Off.refl [w.heap.size] _).setCell (p := ⟨w.heap.size, x2, none⟩) (.inl (by simp)) (.bool true)) (fun g hg => by rw [List.mem_singleton] at hg; subst hg; exact .inr (Nat.le_refl _))).below (Nat.le_refl _) (by simp)⟩)
         clear hsn9 hb9
         go_wp2_with fail
         go_roundw
         case rel => first | exact ⟨j + 1, by go_num, by omega, HN9⟩ | ((repeat apply Exists.intro); exact ⟨⟨j + 1, by go_num, by omega, HN9⟩, rfl⟩)
         case measure => simp [intOf]; omega
     · have z7 : decide ((0 : Int) < (j : Int)) = true := decide_eq_true (by omega)
       have z8 : decide (0 < j) = true := decide_eq_true hj0
       obtain ⟨k, hjk⟩ : ∃ k, j = k + 1 := ⟨j - 1, by omega⟩
       have hk1 : ((j : Int) - 1) = (k : Int) := by omega
       have hk2 : IntKind.i64.wrap ((j : Int) - 1) = (k : Int) := by rw [hk1, IntKind.wrap_i64]; omega
       have hk3 : (0 : Int) ≤ (k : Int) := by omega
       have hk4 : (k : Int) ≤ (n : Int) := by omega
       obtain ⟨b2, o2, hA2, hb2, hy1, hy2⟩ := (HR.out.below hbl).at k (by omega)
       injection hA2 with hA2
       injection hA2 with e1 e2
       subst e1 e2
       obtain ⟨y, hy⟩ : ∃ y, y = l[k] := ⟨_, rfl⟩
       rw [← hy] at hy1 hy2
       have hcm : Fr.cmp y x < 0 := by
         have h1 := Fr.sorted_at HS.out k j (by omega) hlj
         rw [← hy, ← hx, Fr.cmp_lt] at h1
         exact of_decide_eq_true h1
       obtain ⟨z, hzc⟩ : ∃ z, z = Fr.cmp y x := ⟨_, rfl⟩
       have HO := Lib.hid fun (W : World) => forder_any y x W
       rw [← hzc] at hcm HO
       obtain ⟨y1, hy19⟩ : ∃ y1, y1 = y.1 := ⟨_, rfl⟩
       obtain ⟨y2, hy29⟩ : ∃ y2, y2 = y.2 := ⟨_, rfl⟩
       rw [← hy19] at hy1 HO
       rw [← hy29] at hy2 HO
       rw [← hx19, ← hx29] at HO
       have z9 : decide ((0 : Int) ≤ z) = false := decide_eq_false (by omega)
       have hkn : k < n := by omega
       have hki : (k : Int) < (n : Int) := by omega
       have HKS := Lib.hid (show ∀ W, Below (wr.alloc (.cells #[.int .i64 x1, .int .i64 x2] 62)).heap.size (wr.alloc (.cells #[.int .i64 x1, .int .i64 x2] 62)) W → W.cell? ⟨wr.heap.size, 0, none⟩ = some (.int .i64 x1) ∧ W.cell? ⟨wr.heap.size, 1, none⟩ = some (.int .i64 x2) ∧ W.cell? ⟨w.heap.size, x2, none⟩ = some (.bool false) ∧ W.cell? ⟨b, o + k * 2, none⟩ = some (.int .i64 y1) ∧ W.cell? ⟨b, o + k * 2 + 1, none⟩ = some (.int .i64 y2) from fun W hW => ⟨(bk_below (Bk.new wr 62 #[.int .i64 x1, .int .i64 x2]) hW).cell 0, (bk_below (Bk.new wr 62 #[.int .i64 x1, .int .i64 x2]) hW).cell 1, (((Off.refl [] wr).alloc _).cell (p := ⟨w.heap.size, x2, none⟩) lsn (by simp) |> fun e => (hW.cell (p := ⟨w.heap.size, x2, none⟩) (by simp; omega)).trans (e.trans hcp)), (hW.cell (p := ⟨b, o + k * 2, none⟩) (by simp; omega)).trans ((((Off.refl [] wr).alloc _).cell (p := ⟨b, o + k * 2, none⟩) hb (by simp)).trans hy1), (hW.cell (p := ⟨b, o + k * 2 + 1, none⟩) (by simp; omega)).trans ((((Off.refl [] wr).alloc _).cell (p := ⟨b, o + k * 2 + 1, none⟩) hb (by simp)).trans hy2)⟩)
       clear hI hxo hnot hsn htk hset hx hxm hcp hbl hx19 hx29 hy hzc hy19 hy29 hjk
       go_wp2_with fail
       have hk5 : IntKind.i64.wrap (k : Int) = (k : Int) := by rw [IntKind.wrap_i64]; omega
       go_region_held3 (fun W => W.cell? ⟨wr.heap.size, 0, none⟩ = some (.int .i64 x1) ∧ W.cell? ⟨wr.heap.size, 1, none⟩ = some (.int .i64 x2) ∧ W.cell? ⟨w.heap.size, x2, none⟩ = some (.bool false) ∧ W.cell? ⟨b, o + k * 2, none⟩ = some (.int .i64 y1) ∧ W.cell? ⟨b, o + k * 2 + 1, none⟩ = some (.int .i64 y2)) (first | exact HKS.out _ (Below.refl _ _).drew | exact HKS.out _ hk3.out | exact HKS.out _ hk4.out) (first
       | (go_at_call 214; refine (HRT.out _).mono ?_; rintro e w3 ⟨rfl, hb3⟩; have hk3 := Lib.hid ((Below.refl (wr.alloc (.cells #[.int .i64 x1, .int .i64 x2] 62)).heap.size (wr.alloc (.cells #[.int .i64 x1, .int .i64 x2] 62))).drew.trans (hb3.mono (by simp))); clear hb3)
       | (go_at_call 216; refine (HO.out _).mono ?_; rintro e w4 ⟨rfl, hb4⟩; have hk4 := Lib.hid (hk3.out.trans (hb4.mono hk3.out.size)); clear hb4)
       | fail)
       all_goals
         have hb9 : Below wr.heap.size wr w4 := ((Below.refl _ wr).alloc (Nat.le_refl _) _).trans (hk4.out.mono (by simp))
         have hsn9 := bk_below (HSN.out.alloc (.cells #[.int .i64 x1, .int .i64 x2] 62)) hk4.out
         obtain ⟨v0, v1, v2, v3, v4⟩ := HKS.out _ hk4.out
         have g1 := hsn9.frozen x2
         have lsn9 := hsn9.lt
         have ln9 : wr.heap.size < w4.heap.size := by have := hk4.out.size; simp at this; omega
         have HN9 := Lib.hid (show Bk (w4.setCell ⟨w.heap.size, x2, none⟩ (.bool true)) w.heap.size 163 (hereV (l.take (j + 1))).toArray ∧ Below w.heap.size w (w4.setCell ⟨w.heap.size, x2, none⟩ (.bool true)) from
           ⟨by rw [HSET.out]; exact hsn9.put x2 (.bool true), ((Off.of_below (HBL.out.trans (hb9.mono HBL.out.size)) []).then ((Off.refl [w.heap.size] _).setCell (p := ⟨w.heap.size, x2, none⟩) (.inl (by simp)) (.bool true)) (fun g hg => by rw [List.mem_singleton] at hg; subst hg; exact .inr (Nat.le_refl _))).below (Nat.le_refl _) (by simp)⟩)
         clear hsn9 hb9
         go_wp2_with fail
         go_roundw
         case rel => first | exact ⟨j + 1, by go_num, by omega, HN9⟩ | ((repeat apply Exists.intro); exact ⟨⟨j + 1, by go_num, by omega, HN9⟩, rfl⟩)
         case measure => simp [intOf]; omega
   · have z5 : decide ((j : Int) < (n : Int)) = false := decide_eq_false (by omega)
     have HB := Lib.hid hI.out.2
     clear hI
     go_wp2_with fail
     go_ret
     exact ⟨rfl, HB.out⟩
end Go.Proofs.YtjbcbnemdhbhbaaGreatDoor

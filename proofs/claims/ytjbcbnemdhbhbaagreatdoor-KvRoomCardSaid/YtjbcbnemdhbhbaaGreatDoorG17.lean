import Derived.Test.YtjbcbnemdhbhbaaGreatDoorG13
import Derived.Test.YtjbcbnemdhbhbaaGreatDoorG16
import Derived.Lib.Overlaps
namespace Go.Proofs.YtjbcbnemdhbhbaaGreatDoor
open Go.RowKit
set_option maxRecDepth 100000
set_option linter.unusedVariables false
set_option linter.unusedSimpArgs false
set_option maxHeartbeats 8000000 in
theorem insert_place (g B b i cap : Nat) (l : List Ce) (c : Ce) (w : World) (h : COwn w B (.slice (some ⟨g, 0, none⟩) l.length cap) l) (hB : B ≤ w.heap.size) (hi : i < l.length) (hc1 : l.length < cap) (hl : l.length ≤ 10000) (hc : Bk w b 170 #[.string c.key, .string c.val, .int .i64 c.over, .int .i64 c.size, .int .i64 c.child]) (hgb : g ≠ b) :
   Calls Tryz.prog 107 #[.slice (some ⟨g, 0, none⟩) l.length cap, .int .i64 i, .slice (some ⟨b, 0, none⟩) 1 1] w (TellsO B (.slice (some ⟨g, 0, none⟩) l.length cap) (insC l i c) w) := by
 have hF : ∀ (j : Nat) (u : Value), (flatC l)[j]? = some u → w.cell? ⟨g, j, none⟩ = some u := fun j u hu => by
   have := h.as.flat rfl j u hu
   rwa [Nat.zero_add] at this
 have htk : (flatC (l.take i)).length = i * 5 := by rw [flatC_len, List.length_take]; omega
 have hdk : (flatC (l.drop i)).length = (l.length - i) * 5 := by rw [flatC_len, List.length_drop]
 obtain ⟨-, hcase⟩ := id h
 rcases hcase with ⟨h0, -⟩ | ⟨g', cap', cur, h0, hBg, hbk, hn9, hcm, hcs, htake⟩
 · cases h0
 injection h0 with e1 e2 e3
 injection e1 with e1
 injection e1 with e1 _
 subst e1 e3
 clear e2
 have hgl := lt_of_block hbk
 have h5 : c.vals.length = 5 := rfl
 have hkl : (flatC l).length = l.length * 5 := flatC_len l
 obtain ⟨v1, W1, hb1, hO1, hs1, hrun1⟩ := copy_cells g ((i + 1) * 5) (l.length - i) (cap - (i + 1)) ⟨g, i * 5, none⟩ (l.length + 1 - i) (cap - i) cur (flatC (l.drop i)) w.drew (Bk.drew hbk) (by rw [hdk, show Nat.min (l.length + 1 - i) (l.length - i) = l.length - i by show min _ _ = _; omega]) (drop_cells (n := l.length) (W := w.drew) hF (by omega)) (by rw [hdk, hcs]; omega) (flatC_oneCell _)
 obtain ⟨v2, W2, hb2, hO2, hs2, hrun2⟩ := copy_cells g (i * 5) (l.length + 1 - i) (cap - i) ⟨b, 0, none⟩ 1 1 _ c.vals W1 hb1 (by rw [show Nat.min 1 (l.length + 1 - i) = 1 by show min 1 _ = 1; omega]; rfl) (bk_cells (hO1.bk hc.drew (by simp; exact fun e => hgb e.symm))) (by simp; rw [hdk, hcs, h5]; omega) (vals_one c)
 have HEND := Lib.hid (show COwn W2 B (.slice (some ⟨g, 0, none⟩) (insC l i c).length cap) (insC l i c) by
   refine ⟨by rw [flatC_len], .inr ⟨g, cap, _, rfl, hBg, hb2, by rw [insC_len _ _ _ (by omega)]; omega, hcm, ?_, ?_⟩⟩
   · simp; rw [hdk, hcs, h5]; omega
   · rw [insC_flat, insC_len _ _ _ (by omega)]
     have e0 : cur.toList.length = cap * 5 := by simp [hcs]
     have e1 : (cur.toList.take ((i + 1) * 5) ++ flatC (l.drop i) ++ cur.toList.drop ((i + 1) * 5 + (flatC (l.drop i)).length)).toArray.toList = cur.toList.take ((i + 1) * 5) ++ (flatC (l.drop i) ++ cur.toList.drop ((i + 1) * 5 + (flatC (l.drop i)).length)) := by simp
     have e2 : (cur.toList.take ((i + 1) * 5)).length = (i + 1) * 5 := by rw [List.length_take, e0]; omega
     have e3 : (cur.toList.take ((i + 1) * 5)).take (i * 5) = flatC (l.take i) := by
       rw [List.take_take, show min (i * 5) ((i + 1) * 5) = i * 5 by omega]
       have e4 : cur.toList.take (i * 5) = (cur.toList.take (l.length * 5)).take (i * 5) := by rw [List.take_take, show min (i * 5) (l.length * 5) = i * 5 by omega]
       rw [e4, htake]
       have e5 : flatC l = flatC (l.take i) ++ flatC (l.drop i) := by rw [← flatC_app, List.take_append_drop]
       rw [e5]
       exact List.take_left' htk
     rw [e1]
     obtain ⟨Z, hZ⟩ : ∃ Z, Z = cur.toList.take ((i + 1) * 5) := ⟨_, rfl⟩
     obtain ⟨Y, hY⟩ : ∃ Y, Y = flatC (l.drop i) ++ cur.toList.drop ((i + 1) * 5 + (flatC (l.drop i)).length) := ⟨_, rfl⟩
     rw [← hZ] at e2 e3 ⊢
     rw [← hY]
     have e6 : (Z ++ Y).take (i * 5) = flatC (l.take i) := by rw [List.take_append_of_le_length (by rw [e2]; omega), e3]
     have e7 : (Z ++ Y).drop (i * 5 + c.vals.length) = Y := by rw [h5, show i * 5 + 5 = (i + 1) * 5 by omega, List.drop_left' e2]
     rw [e6, e7, hY]
     show List.take _ (flatC (l.take i) ++ c.vals ++ (flatC (l.drop i) ++ _)) = _
     rw [← List.append_assoc (flatC (l.take i)), ← List.append_assoc (flatC (l.take i) ++ c.vals)]
     rw [show (l.length + 1) * 5 = (flatC (l.take i) ++ c.vals ++ flatC (l.drop i)).length by rw [List.length_append, List.length_append, htk, h5, hdk]; omega]
     exact List.take_left)
 have HOF := Lib.hid (show Off [g] w W2 from ((Off.refl [g] w).drew.trans hO1).trans hO2)
 have HR1 := Lib.hid hrun1
 have HR2 := Lib.hid hrun2
 have hov : ∀ lb cb, (callFunc 164 #[.slice (some ⟨b, 0, none⟩) 1 1, .slice (some ⟨g, (i + 1) * 5, none⟩) lb cb]).run Tryz.prog w = .ok (.value (.bool false)) w := fun lb cb => by
   rw [run_callFunc_extern Tryz.func164 (by kernel_rfl) (by kernel_rfl) (by kernel_rfl) (e := Extern.SlicesOverlaps.overlaps #[174, 174] #[4]) (by kernel_rfl),
     Lib.run_overlaps_apart w 174 4 170 Tryz.underlying174 5 (fun _ => by kernel_rfl) ⟨b, 0, none⟩ ⟨g, (i + 1) * 5, none⟩ 1 1 lb cb (fun e => hgb e.symm) 170 170 5 cur.size (by unfold World.shape?; rw [show w.heap[b]? = _ from hc]; rfl) (by unfold World.shape?; rw [hbk]) (by rw [hcs]; omega) (hc.frozen 0) (hc.frozen 5)]
   rfl
 have hcb : cap ≤ 9223372036854775807 := by unfold maxLen at hcm; omega
 have z1 : ((i : Int) == (l.length : Int)) = false := by rw [beq_eq_false_iff_ne]; omega
 have z2 : (i == l.length) = false := by rw [beq_eq_false_iff_ne]; omega
 have z3 : ¬ (cap = i) := by omega
 have z4 : decide ((cap : Int) < (l.length : Int) + 1) = false := decide_eq_false (by omega)
 have hw2 : IntKind.i64.wrap ((i : Int) + 1) = (i : Int) + 1 := IntWalk.i64_in _ (by omega)
 have z5 : (l.length : Int) + 1 ≤ (cap : Int) := by omega
 have z6 : l.length + 1 ≤ cap := by omega
 have z7 : ¬ (cap = i + 1) := by omega
 have z8 : (i : Int) + 1 ≤ (l.length : Int) + 1 := by omega
 have z9 : (0 : Int) ≤ (i : Int) + 1 := by omega
 have z10 : ((i : Int) + 1).toNat = i + 1 := by omega
 have z11 : i + 1 ≤ l.length + 1 := by omega
 have z12 : (i : Int) ≤ (l.length : Int) + 1 := by omega
 have z13 : (l.length : Int) ≤ (cap : Int) := by omega
 have HOV := Lib.hid hov
 have hovv := hov (l.length - i) (cap - (i + 1))
 clear h hF hbk hcs htake hcm hc htk hdk hkl h5 hb1 hO1 hs1 hrun1 hb2 hO2 hs2 hrun2 hov
 go_enter Tryz.func107, Tryz.ntmps107
 go_upto_region 15 with fail
 go_still_tail 8, (by kernel_rfl)
 change wpList _ _ _ _ _ w.drew
 refine wpList_copy_run rfl (.tmp 73) (.tmp 76) 174 174 rfl _ _ _ _ rfl rfl HR1.out ?_
 go_upto_region 17 with (refine wpList_copy_run (o := ⟨some 82, _, _, _, _, _⟩) rfl (.tmp 80) (.tmp 81) 174 174 rfl _ _ _ _ rfl rfl HR2.out ?_)
 go_wp2_with fail
 go_ret
 exact ⟨[g], _, cap, by simp [Value.ownBlock], HOF.out, by rw [insC_len _ _ _ (by omega)]; rfl, HEND.out, fun x hx => .inl hx⟩
theorem insert_any (A : Option Addr) (B b i cap : Nat) (l : List Ce) (c : Ce) (w : World) (h : COwn w B (.slice A l.length cap) l) (hB : B ≤ w.heap.size) (hi : i ≤ l.length) (hl : l.length ≤ 10000) (hc : Bk w b 170 #[.string c.key, .string c.val, .int .i64 c.over, .int .i64 c.size, .int .i64 c.child]) (hgb : Value.ownBlock (.slice A l.length cap) ≠ some b) :
   Calls Tryz.prog 107 #[.slice A l.length cap, .int .i64 i, .slice (some ⟨b, 0, none⟩) 1 1] w (TellsO B (.slice A l.length cap) (insC l i c) w) := by
 by_cases he : i = l.length
 · subst he
   have e : insC l l.length c = l ++ [c] := by unfold insC; simp
   rw [e]
   exact insert_end A cap B b l c w h hB hl hc
 · obtain ⟨g, rfl, -, -, -, h1, -⟩ := h.full (by omega)
   have hne : g ≠ b := fun e => hgb (by rw [e]; rfl)
   by_cases hcap : cap = l.length
   · subst hcap
     exact insert_grow g B b i l c w h hB (by omega) hl hc
   · exact insert_place g B b i cap l c w h hB (by omega) (by omega) hl hc hne
end Go.Proofs.YtjbcbnemdhbhbaaGreatDoor

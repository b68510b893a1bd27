import Derived.Test.YtjbcbnemdhbhbaaGreatDoorG29
import Derived.Test.YtjbcbnemdhbhbaaGreatDoorG3
namespace Go.Proofs.YtjbcbnemdhbhbaaGreatDoor
open Go.RowKit
set_option maxRecDepth 100000
set_option linter.unusedVariables false
set_option linter.unusedSimpArgs false
def AddPost (f : Nat) (S : List Nat) (l : List (Nat × Nat)) (w : World) (e : Ending) (w' : World) : Prop := e = .returned (.int .i64 0) ∧ ∃ S', FLO w' f S' l ∧ Off S w w' ∧ Fresh w S S'
set_option maxHeartbeats 16000000 in
theorem fadd_ok {w : World} {f : Nat} {S : List Nat} {l : List (Nat × Nat)} (h : FLO w f S l) (hs : Fr.Sorted l) (hl : l.length ≤ 900) (x : Nat × Nat) (hx : Fr.ok x = true) (hn : x.2 ∉ Fr.pg l) :
   Calls Tryz.prog 159 #[.pointer (some ⟨f, 0, none⟩), .agg #[.int .i64 x.1, .int .i64 x.2]] w (AddPost f S (Fr.ins l x) w) := by
 have hp : x.2 < 512 := by unfold Fr.ok at hx; simp at hx; omega
 obtain ⟨⟨A, c, h1, h2, h3⟩, h6, h7⟩ := h
 have H1 := Lib.hid h1
 have H2 := Lib.hid h2
 have H3 := Lib.hid h3
 have H6 := Lib.hid h6
 have H7 := Lib.hid h7
 have HRT := Lib.hid fun (W : World) => fright_ok x W hx
 have HSE := Lib.hid fun (W : World) (hb : Below w.heap.size w W) => fsearch_any (c := c) (h2.row.1.below hb) hs (by omega) x
 have c0 := (h1.cell 0).trans (flCells_zero A c l)
 have lf := h1.lt
 have cp := (h1.cell (1 + x.2)).trans (flCells_at A c l x.2 hp)
 rw [decide_eq_false hn] at cp
 have f0 := h1.frozen 0
 have fp := h1.frozen (1 + x.2)
 obtain ⟨p, hp9⟩ : ∃ p, p = x.2 := ⟨_, rfl⟩
 have HP := Lib.hid hp9
 rw [← hp9] at cp fp hp
 have HX := Lib.hid (show ∀ W, Below (w.heap.size + 1) (w.alloc (.cells #[.int .i64 x.1, .int .i64 x.2] 62)) W → W.cell? ⟨f, 0, none⟩ = some (.slice A l.length c) ∧ W.cell? ⟨w.heap.size, 0, none⟩ = some (.int .i64 x.1) ∧ W.cell? ⟨w.heap.size, 1, none⟩ = some (.int .i64 p) ∧ W.cell? ⟨f, 1 + p, none⟩ = some (.bool false) from fun W hW => by
   have q1 := bk_below (Bk.new w 62 #[.int .i64 x.1, .int .i64 x.2]) (w' := W) (by simpa using hW)
   have hb : Below w.heap.size w W := ((Below.refl _ w).alloc (Nat.le_refl _) _).trans (hW.mono (by omega))
   exact ⟨(hb.cell (p := ⟨f, 0, none⟩) lf).trans c0, q1.cell 0, by rw [HP.out]; exact q1.cell 1, (hb.cell (p := ⟨f, 1 + p, none⟩) lf).trans cp⟩)
 have z1 : decide ((p : Int) < 512) = true := decide_eq_true (by omega)
 have hpp : (p : Int) < 512 := by omega
 obtain ⟨n, hn9⟩ : ∃ n, n = l.length := ⟨_, rfl⟩
 have HN := Lib.hid hn9
 rw [← hn9] at c0 HX hl HSE
 clear h1 h2 h3 h6 h7 hs hx hn hp9 hn9
 go_enter Tryz.func159, Tryz.ntmps159
 go_wp2_with fail
 (with_reducible refine (HRT.out _).mono ?_)
 rintro e w1 ⟨rfl, hb1⟩
 have HB1 := Lib.hid (show Below (w.heap.size + 1) (w.alloc (.cells #[.int .i64 x.1, .int .i64 x.2] 62)) w1 from by simpa using hb1)
 obtain ⟨x0, x1, x2, x3⟩ := HX.out w1 HB1.out
 have lf1 : f < w1.heap.size := by have := HB1.out.size; simp at this; omega
 have lw1 : w.heap.size < w1.heap.size := by have := HB1.out.size; simp at this; omega
 clear hb1
 go_wp2_with fail
 go_quiet (fail)
 go_wp2_with fail
 have hb2 := below_drewN HB1.out nq
 generalize w1.drewN nq = v1 at hb2 ⊢
 clear x0 x1 x2 x3 lf1 lw1
 have HB2 := Lib.hid hb2
 have hsz := hb2.size
 simp at hsz
 have lf2 : f < v1.heap.size := by omega
 have lw2 : w.heap.size < v1.heap.size := by omega
 have HX2 := Lib.hid fun (W : World) (hW : Below v1.heap.size v1 W) => HX.out W (hb2.trans (hW.mono (by omega)))
 clear hb2
 go_region_held3 (fun W => W.cell? ⟨f, 0, none⟩ = some (.slice A n c) ∧ W.cell? ⟨w.heap.size, 0, none⟩ = some (.int .i64 x.1) ∧ W.cell? ⟨w.heap.size, 1, none⟩ = some (.int .i64 p)) (first | (refine (fun h => ⟨h.1, h.2.1, h.2.2.1⟩) (HX2.out _ ?_); with_reducible (first | exact (Below.refl _ _).drew | exact HBR.out)) | fail) (first
   | (go_at_call 215; go_must ((rw [HP.out]); (with_reducible refine (HSE.out _ (((Below.refl _ w).alloc (Nat.le_refl _) _).trans ((HB2.out.drew).mono (by omega)))).mono ?_); rintro e w3 ⟨q, rfl, hb3⟩; have HBR := Lib.hid (show Below v1.heap.size v1 w3 from (Below.refl _ _).drew.trans hb3); clear hb3)))
 have hbr := HBR.out
 have hb3 : Below (w.heap.size + 1) (w.alloc (.cells #[.int .i64 x.1, .int .i64 x.2] 62)) w3 := HB2.out.trans (hbr.mono (by omega))
 have hs3 := hbr.size
 have lf3 : f < w3.heap.size := by omega
 have lw3 : w.heap.size < w3.heap.size := by omega
 have ff0 : w3.frozen? ⟨f, 0, none⟩ = false := ((bcell (((Below.refl _ w).alloc (Nat.le_refl _) _).trans (hb3.mono (by omega)))).2 f 0 (by omega)).trans f0
 have HB3 := Lib.hid hb3
 have HX3 := Lib.hid fun (W : World) (hW : Below w3.heap.size w3 W) => HX.out W (hb3.trans (hW.mono (by omega)))
 clear hbr hb3
 obtain ⟨x0, x1, x2, x3⟩ := HX3.out w3 (Below.refl _ _)
 have HOWN3 := Lib.hid (show FOwn w3 0 (.slice A n c) l from by rw [HN.out]; exact (Off.of_below (((Below.refl _ w).alloc (Nat.le_refl _) _).trans (HB3.out.mono (by omega))) []).own H2.out (by simp))
 go_wp2_with fail
 have HIN := Lib.hid (show ∀ (b : Nat) (W : World), FOwn W 0 (.slice A n c) l → Bk W b 62 #[.int .i64 x.1, .int .i64 p] → Value.ownBlock (.slice A n c) ≠ some b → Calls Tryz.prog 217 #[.slice A n c, .int .i64 (Fr.spot l x), .slice (some ⟨b, 0, none⟩) 1 1] W (TellsFO 0 (.slice A n c) (Fr.ins l x) W) from fun b W h1 h2 h3 => by
   rw [HN.out] at h1 h3 ⊢
   rw [HP.out] at h2
   exact finsert_any A 0 b (Fr.spot l x) c l x W h1 (Nat.zero_le _) (Fr.spot_le l x) (by rw [← HN.out]; omega) h2 h3)
 have HOB := Lib.hid (show Value.ownBlock (.slice A n c) ≠ some w3.heap.size from fun e => by have := (World.ownsRow.lt HOWN3.out _ e).2; omega)
 have HW4 := Lib.hid (show FOwn ((w3.alloc (.cells #[.int .i64 x.1, .int .i64 p] 62)).drew) 0 (.slice A n c) l ∧ Bk ((w3.alloc (.cells #[.int .i64 x.1, .int .i64 p] 62)).drew) w3.heap.size 62 #[.int .i64 x.1, .int .i64 p] ∧ Bk ((w3.alloc (.cells #[.int .i64 x.1, .int .i64 p] 62)).drew) f 165 (flCells A c l) from
   ⟨((Off.refl [] w3).alloc _).drew.own HOWN3.out (by simp), (Bk.new w3 _ _).drew, ((Off.of_below (((Below.refl _ w).alloc (Nat.le_refl _) _).trans (HB3.out.mono (by omega))) []).bk H1.out (by simp) |>.alloc _).drew⟩)
 have HNF := Lib.hid (show Value.ownBlock (.slice A n c) ≠ some f from own_ne HOWN3.out ((Off.of_below (((Below.refl _ w).alloc (Nat.le_refl _) _).trans (HB3.out.mono (by omega))) []).bk H1.out (by simp)) (by decide))
 have hz3 : w3.heap.size < ((w3.alloc (.cells #[.int .i64 x.1, .int .i64 p] 62)).drew).heap.size := by simp
 go_region_law ((first
   | (go_simp; go_at_call 217; (with_reducible refine (HIN.out w3.heap.size _ HW4.out.1 HW4.out.2.1 HOB.out).mono ?_); rintro e w4 ⟨S4, A4, c4, hS4, ho4, rfl, hown4, hnew4⟩; have hbk4 := ho4.bk HW4.out.2.2 (fun hs => HNF.out (hS4 _ hs)); have y0 : w4.cell? ⟨f, 0, none⟩ = some (.slice A l.length c) := (hbk4.cell 0).trans (flCells_zero A c l); have y1 := hbk4.frozen 0; have y2 := hbk4.lt)
   | fail))
 all_goals
   have hS4b : ∀ g ∈ S4, g < w.heap.size ∧ A = some ⟨g, 0, none⟩ := fun g hg => by
     have h9 := hS4 g hg
     obtain ⟨a, rfl⟩ : ∃ a, A = some a := by
       cases A with
       | none => simp [Value.ownBlock] at h9
       | some a => exact ⟨a, rfl⟩
     have h8 := (H2.out.row).2.2.2.2.1 a rfl
     rw [h8.1] at h9
     have e : a.block = g := by simpa [Value.ownBlock] using h9
     subst e
     exact ⟨h8.2.2, by rw [← h8.1]⟩
   have hb4 : Bk w4 w.heap.size 62 #[.int .i64 x.1, .int .i64 x.2] := ho4.bk ((bk_below (bk_below (Bk.new w 62 #[.int .i64 x.1, .int .i64 x.2]) (w' := w3) (by have := HB3.out; simpa using this)) ((Below.refl _ _).alloc (Nat.le_refl _) _)).drew) (fun hs => by have := (hS4b _ hs).1; omega)
   have hfb : f ≠ w.heap.size := by omega
   have hb5 := hb4.far (p := ⟨f, 0, none⟩) (fun e => hfb e.symm) (.slice A4 (Fr.ins l x).length c4)
   have hf5 := hbk4.put 0 (.slice A4 (Fr.ins l x).length c4)
   have ho5 := (Off.refl [f] w4).setCell (p := ⟨f, 0, none⟩) (.inl (by simp)) (.slice A4 (Fr.ins l x).length c4)
   generalize w4.setCell ⟨f, 0, none⟩ (.slice A4 (Fr.ins l x).length c4) = w5 at hb5 hf5 ho5 ⊢
   have u1 : w5.cell? ⟨w.heap.size, 1, none⟩ = some (.int .i64 p) := by rw [HP.out]; exact hb5.cell 1
   have u2 := hf5.frozen (1 + p)
   have u3 : w5.cell? ⟨f, 1 + p, none⟩ = some (.bool (decide (p ∈ Fr.pg l))) := by
     rw [hf5.cell (1 + p), Array.getElem?_setIfInBounds, if_neg (by omega)]
     exact flCells_at A c l p hp
   have u4 := hf5.lt
   have u5 := hb5.lt
   have HF5 := Lib.hid hf5
   have HO4 := Lib.hid ho4
   have HO5 := Lib.hid ho5
   have HS4 := Lib.hid hS4b
   have HOWN4 := Lib.hid hown4
   have HNEW4 := Lib.hid hnew4
   have HBK4 := Lib.hid hbk4
   clear hb4 hb5 hf5 ho5 hS4b hown4 hnew4 hbk4 ho4 hS4 y0 y1 y2 x0 x1 x2 x3
   go_wp2_with fail
   go_region_law (fail)
   all_goals
     go_wp2_with fail
     go_ret
     have hne4 := own_ne HOWN4.out HBK4.out (by decide)
     have hoff6 : Off [f] w4 ((w5.setCell ⟨f, 1 + p, none⟩ (.bool true)).drew) := (HO5.out.setCell (p := ⟨f, 1 + p, none⟩) (.inl (by simp)) _).drew
     have hown6 := hoff6.own HOWN4.out (fun g hg hs => by rw [List.mem_singleton] at hs; subst hs; exact hne4 hg)
     have hset := fset_here A A4 c c4 l (Fr.ins l x) p true hp (by rw [HP.out]; exact Fr.here_ins l x)
     have hbk6 : Bk ((w5.setCell ⟨f, 1 + p, none⟩ (.bool true)).drew) f 165 (flCells A4 c4 (Fr.ins l x)) := by rw [← hset]; exact (HF5.out.put (1 + p) _).drew
     have hA4 : ∀ a, A4 = some a → Value.ownBlock (.slice A4 (Fr.ins l x).length c4) = some a.block ∧ a.block < w4.heap.size := fun a ha => by
       have h8 := (HOWN4.out.row).2.2.2.2.1 a ha
       refine ⟨?_, h8.2.2⟩
       rw [ha, h8.1]
       rfl
     have hoall : Off S w ((w5.setCell ⟨f, 1 + p, none⟩ (.bool true)).drew) := by
       have o3 : Off S w w3 := Off.of_below (((Below.refl _ w).alloc (Nat.le_refl _) _).trans (HB3.out.mono (by omega))) S
       have o4 := (o3.alloc (.cells #[.int .i64 x.1, .int .i64 p] 62)).drew.then HO4.out (fun g hg => .inl (H3.out ⟨g, 0, none⟩ (HS4.out g hg).2))
       exact o4.then hoff6 (fun g hg => by rw [List.mem_singleton] at hg; subst hg; exact .inl H6.out)
     refine ⟨rfl, f :: (Value.ownBlock (.slice A4 (Fr.ins l x).length c4)).toList, ⟨⟨A4, c4, hbk6, hown6, fun a ha => ?_⟩, by simp, fun b hb => ?_⟩, hoall, fun b hb => ?_⟩
     · rw [(hA4 a ha).1]; simp
     · rcases List.mem_cons.1 hb with rfl | hb
       · exact hbk6.lt
       · rw [Option.mem_toList] at hb
         exact (World.ownsRow.lt hown6 b hb).2
     · rcases List.mem_cons.1 hb with rfl | hb
       · exact .inl H6.out
       · rw [Option.mem_toList] at hb
         rcases HNEW4.out b hb with h9 | h9
         · left
           obtain ⟨a, rfl⟩ : ∃ a, A = some a := by
             cases A with
             | none => simp [Value.ownBlock] at h9
             | some a => exact ⟨a, rfl⟩
           have h8 := (H2.out.row).2.2.2.2.1 a rfl
           have h7 := H3.out a rfl
           rw [h8.1] at h9 h7
           have e : a.block = b := by simpa [Value.ownBlock] using h9
           rw [← e]
           exact h7
         · right
           simp at h9
           omega
end Go.Proofs.YtjbcbnemdhbhbaaGreatDoor

import Derived.Test.YtjbcbnemdhbhbaaGreatDoorG45
namespace Go.Proofs.YtjbcbnemdhbhbaaGreatDoor
open Go.RowKit
set_option maxRecDepth 100000
set_option linter.unusedVariables false
set_option linter.unusedSimpArgs false
theorem stxn_any {w : World} {sp b : Nat} {i : Int} {m : MetaV} {pv : Value} {over : Bool} (h : SnapG w sp b i m pv over) : Calls Tryz.prog 23 #[.pointer (some ⟨sp, 0, none⟩)] w (fun e w' => e = .returned (.int .i64 m.t) ∧ w = w') := by
 have c2 := Bk.cell h 2
 have ls := Bk.lt h
 clear h
 go_enter Tryz.func23, Tryz.ntmps23
 go_wp2_with fail
 go_ret
 exact ⟨rfl, rfl⟩
theorem info_reader : (Tryz.prog.info? 89).map (fun i => (i.zero, i.size, i.bytes)) = some (some (.agg #[.pointer none, .slice none 0 0]), 2, 32) := by kernel_rfl
def actV (k n : Int) (key val : ByteArray) : Value := .agg #[.int .i64 k, .int .i64 n, .string key, .string val, .int .i64 0, .slice none 0 0]
def Does7 (u : Nat) (d : Di) (s' : St) (i : Int) (t next : Value) (mb : Bool) (w : World) (e : Ending) (w' : World) : Prop :=
 e = .returned (.bool true) ∧ ∃ sp gg cap, DbAt w' { d with s := s' } ∧ SnapG w' sp d.b i d.P.m d.pv false ∧ Bk w' u 33 (lwCells d.g d.b t (.slice (some ⟨gg, 0, none⟩) 1 cap) (.slice none 0 0) next mb) ∧
   w'.ownsRow 0 89 2 (.slice (some ⟨gg, 0, none⟩) 1 cap) 1 [.pointer (some ⟨sp, 0, none⟩), .slice none 0 0] ∧ Off [u, d.r] w w' ∧ w.heap.size ≤ sp ∧ w.heap.size ≤ gg ∧ u ≠ gg ∧ sp ≠ gg
theorem does7_mid {w1 w4 : World} {u : Nat} {d : Di} {sp : Nat} {i : Int} {t next : Value} {mb : Bool} (hu : Bk w1 u 33 (lwCells d.g d.b t (.slice none 0 0) (.slice none 0 0) next mb)) (h : DbAt w1 d) (hs : SnapG w1 sp d.b i d.P.m d.pv false) (hub : u ∉ d.blocks) {gg cap4 : Nat}
   (hown : w4.ownsRow 0 89 2 (.slice (some ⟨gg, 0, none⟩) (0 + 1) cap4) (0 + 1) ([] ++ [.pointer (some ⟨sp, 0, none⟩), .slice none 0 0]))
   (hgrow : (w1.alloc (.cells #[.pointer (some ⟨sp, 0, none⟩), .slice none 0 0] 89)).drew.grownBy w4 (Value.slice none 0 0).ownBlock) (hat : (Value.slice none 0 0).ownBlock = some gg ∨ gg = w1.heap.size + 1) :
   gg = w1.heap.size + 1 ∧ DbAt (w4.setCell ⟨u, 3, none⟩ (.slice (some ⟨gg, 0, none⟩) 1 cap4)) d ∧ SnapG (w4.setCell ⟨u, 3, none⟩ (.slice (some ⟨gg, 0, none⟩) 1 cap4)) sp d.b i d.P.m d.pv false ∧
   Bk (w4.setCell ⟨u, 3, none⟩ (.slice (some ⟨gg, 0, none⟩) 1 cap4)) u 33 (lwCells d.g d.b t (.slice (some ⟨gg, 0, none⟩) 1 cap4) (.slice none 0 0) next mb) ∧
   (w4.setCell ⟨u, 3, none⟩ (.slice (some ⟨gg, 0, none⟩) 1 cap4)).ownsRow 0 89 2 (.slice (some ⟨gg, 0, none⟩) 1 cap4) 1 [.pointer (some ⟨sp, 0, none⟩), .slice none 0 0] ∧ Off [u] w1 (w4.setCell ⟨u, 3, none⟩ (.slice (some ⟨gg, 0, none⟩) 1 cap4)) := by
 have hg : gg = w1.heap.size + 1 := by
   rcases hat with h1 | h1
   · cases h1
   · exact h1
 have ho4 : Off [] w1 w4 := ((Off.refl [] w1).alloc _).drew.grown hgrow (fun g hg => by cases hg)
 have ho : Off [u] w1 (w4.setCell ⟨u, 3, none⟩ (.slice (some ⟨gg, 0, none⟩) 1 cap4)) := (ho4.mono (fun g hg => by cases hg)).setCell (p := ⟨u, 3, none⟩) (.inl (by simp)) _
 have hlu := hu.lt
 have hsu : sp ≠ u := Bk.ne hs hu (by decide)
 refine ⟨hg, h.off ho (fun x hx hm => ?_), ho.bk hs (by simpa using hsu), (ho4.bk hu (by simp)).put 3 _, ?_, ho⟩
 · rw [List.mem_singleton] at hm
   subst hm
   exact hub hx
 · exact ((Off.refl [u] w4).setCell (p := ⟨u, 3, none⟩) (.inl (by simp)) (.slice (some ⟨gg, 0, none⟩) 1 cap4)).own hown (fun x hx => by
     have e : gg = x := by injection hx
     simp
     omega)
set_option maxHeartbeats 16000000 in
theorem does7 {w : World} {u : Nat} {d : Di} {s' : St} {i : Int} {t next : Value} {mb : Bool} (hu : Bk w u 33 (lwCells d.g d.b t (.slice none 0 0) (.slice none 0 0) next mb)) (h : DbAt w d) (hE : d.s.enter d.P.m.t = (s', i, 0)) (hub : u ∉ d.blocks) (n : Int) (key val : ByteArray) :
   Calls Tryz.prog 26 #[.pointer (some ⟨u, 0, none⟩), actV 7 n key val] w (Does7 u d s' i t next mb w) := by
 have hub2 : u ≠ d.r := fun e => hub (by simp [Di.blocks, e])
 have HS := Lib.hid fun (W : World) (hb : Below w.heap.size w W) => snap_g (h.below hb) hE
 have HU := Lib.hid hu
 have HDB := Lib.hid h
 have HUB := Lib.hid hub
 have HU2 := Lib.hid hub2
 have HKW := Lib.hid (show ∀ W, Off [d.r] w W → Bk W u 33 (lwCells d.g d.b t (.slice none 0 0) (.slice none 0 0) next mb) from fun W hW => hW.bk hu (by simpa using hub2))
 have lu := hu.lt
 have u1 := hu.cell 1
 obtain ⟨i0, hi, iz0, iz1, iz2⟩ := info_parts info_reader
 unfold actV
 clear hu h hE hub hub2
 have hf0 := mfld0
 go_enter Tryz.func26, Tryz.ntmps26
 go_wp2_with fail
 (go_at_call 15)
 refine (HS.out _ ((Below.refl _ w).alloc (Nat.le_refl _) _)).mono ?_
 rintro e w1 ⟨sp, rfl, ho1, hd1, hs1, hn1⟩
 have HO1 := Lib.hid (show Off [d.r] w w1 from ((Off.refl [d.r] w).alloc _).trans ho1)
 have HD1 := Lib.hid hd1
 have HS1 := Lib.hid hs1
 have hU1 := HKW.out w1 HO1.out
 have HU1 := Lib.hid hU1
 have HN1 := Lib.hid (show w.heap.size ≤ sp from by simp at hn1; omega)
 have v1 := hU1.cell 1
 have v3 := hU1.cell 3
 have v4 := hU1.cell 4
 have lu1 := hU1.lt
 have f3 := hU1.frozen 3
 have HX := Lib.hid (Bk.new w 58 #[.int .i64 7, .int .i64 n, .string key, .string val, .int .i64 0, .slice none 0 0])
 clear ho1 hd1 hs1 hU1 hn1
 go_wp2_with fail
 have HNO := Lib.hid (show ∀ W : World, W.ownsRow 0 89 2 (.slice none 0 0) 0 [] from fun W => World.ownsRow_nil _ _ _ _)
 go_region_law ((refine step_append_lies _ (by rfl) _ _ 30 (by rfl) 0 89 i0 (.agg #[.pointer none, .slice none 0 0]) 2 32 Tryz.underlying30 hi iz0 iz1 iz2 (by rfl) (by omega) _ _ _ (by rfl) (HNO.out _) ⟨w1.heap.size, 0, none⟩ 1 1 [.pointer (some ⟨sp, 0, none⟩), .slice none 0 0] (by rfl) (by rfl) (World.news_of_block (cs := #[.pointer (some ⟨sp, 0, none⟩), .slice none 0 0]) (heap_alloc_new w1 _)) (by simp [Value.oneCell']) (by omega) (by unfold maxLen; omega) (by omega) (Nat.zero_le _) (w1.heap.size + 1) (by simp) ?_; intro gg cap4 w4 hown4 hgrow4 hat4 hlt4; have hbk4 := (hgrow4.block u (by simp; omega) (by simp [Value.ownBlock])).trans (HU1.out.alloc (.cells #[.pointer (some ⟨sp, 0, none⟩), .slice none 0 0] 89)); have y0 := Bk.cell hbk4 3; have y1 := Bk.frozen hbk4 3; have y2 := Bk.lt hbk4; have y4 := Bk.cell hbk4 4))
 all_goals
   have hm := does7_mid (d := { d with s := s' }) HU1.out HD1.out HS1.out HUB.out hown4 hgrow4 hat4
   have HMID := Lib.hid hm
   have v1 := hm.2.2.2.1.cell 1
   have lu5 := hm.2.2.2.1.lt
   generalize w4.setCell ⟨u, 3, none⟩ (.slice (some ⟨gg, 0, none⟩) 1 cap4) = w5 at HMID v1 lu5 ⊢
   clear hm hown4 hgrow4 hat4 hlt4 hbk4 y0 y1 y2 y4
   have HTX := Lib.hid fun (W : World) (hW : Below w5.heap.size w5 W) => stxn_any (bk_below HMID.out.2.2.1 hW)
   have HMT := Lib.hid fun (W : World) (hW : Below w5.heap.size w5 W) => dbmeta_g (HMID.out.2.1.below hW)
   have HKS := Lib.hid (show ∀ W, Below w5.heap.size w5 W → W.cell? ⟨u, 1, none⟩ = some (.pointer (some ⟨d.b, 0, none⟩)) from fun W hW => (bk_below HMID.out.2.2.2.1 hW).cell 1)
   go_wp2_with fail
   go_region_held3 (fun W => W.cell? ⟨u, 1, none⟩ = some (.pointer (some ⟨d.b, 0, none⟩))) (first | exact HKS.out _ (Below.refl _ _).drew | exact HKS.out _ hk6.out) (first
     | (go_at_call 23; refine (HTX.out _ (by first | exact (Below.refl _ _).drew | exact hk6.out)).mono ?_; rintro e wT ⟨rfl, rfl⟩)
     | (go_at_call 14; refine (HMT.out _ (by exact (Below.refl _ _).drew)).mono ?_; rintro e w6 ⟨rfl, hb6⟩; have hk6 := Lib.hid (show Below w5.heap.size w5 w6 from (Below.refl _ w5).drew.trans hb6); clear hb6)
     | fail)
   all_goals
     have hfin : Does7 u d s' i t next mb w (.returned (.bool true)) w6 := by
       obtain ⟨m1, m2, m3, m4, m5, m6⟩ := HMID.out
       have hb6 := hk6.out
       have hn1 := HN1.out
       have hlt1 := Bk.lt HS1.out
       have hsz1 := HO1.out.size
       have hlu := HU.out.lt
       have o1 : Off [u, d.r] w w1 := HO1.out.mono (fun g hg => .inl (by simp at hg ⊢; exact .inr hg))
       have o2 : Off [u, d.r] w1 w5 := m6.mono (fun g hg => .inl (by simp at hg ⊢; exact .inl hg))
       exact ⟨rfl, sp, gg, cap4, m2.below hb6, bk_below m3 hb6, bk_below m4 hb6, (Off.of_below hb6 []).own m5 (by simp), (o1.trans o2).trans (Off.of_below hb6 _), hn1, by omega, by omega, by omega⟩
     have HFIN := Lib.hid hfin
     clear hfin
     go_wp2_with fail
     go_ret
     exact HFIN.out
end Go.Proofs.YtjbcbnemdhbhbaaGreatDoor

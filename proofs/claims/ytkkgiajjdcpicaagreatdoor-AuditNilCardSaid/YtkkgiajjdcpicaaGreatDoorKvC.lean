/- An empty file's reader: Close, Pages, Names. -/
import Derived.Test.YtkkgiajjdcpicaaGreatDoorKvA
import Derived.Test.YtkkgiajjdcpicaaGreatDoorKvB
import Derived.Defers
namespace Go.Proofs.YtkkgiajjdcpicaaGreatDoor
open Go.RowKit
set_option maxRecDepth 100000
set_option linter.unusedVariables false
set_option linter.unusedSimpArgs false
set_option maxHeartbeats 8000000 in
theorem sclose_ok {w : World} {b q r f g sp : Nat} {P : PgS} {s : St} {i : Int} (h : Db w b q r f g P s) (hs : SnapAt w sp b i P.m false) : Calls Tryz.prog 21 #[.pointer (some ⟨sp, 0, none⟩)] w (fun e w' => ∃ n : Int, e = .returned (.int .i64 n) ∧ Off [sp, r] w w' ∧ Db w' b q r f g P (s.leave i).1) := by
  have HM := Lib.hid (smay_ok hs)
  have ls := Bk.lt hs
  have lb := h.top.lt
  have s8 := Bk.cell hs 8
  have f8 := Bk.frozen hs 8
  have nsb : sp ≠ b := Bk.ne hs h.top (by decide)
  have nsr : sp ≠ r := Bk.ne hs h.rd (by decide)
  have hof : Off [sp, r] w (w.setCell ⟨sp, 8, none⟩ (.bool true)) := (Off.refl _ w).setCell (p := ⟨sp, 8, none⟩) (.inl (by simp)) _
  have hks : ∀ W, Off [r] (w.setCell ⟨sp, 8, none⟩ (.bool true)) W → W.cell? ⟨sp, 0, none⟩ = some (.pointer (some ⟨b, 0, none⟩)) ∧ W.cell? ⟨b, 1, none⟩ = some (.pointer (some ⟨r, 0, none⟩)) ∧ W.cell? ⟨sp, 1, none⟩ = some (.int .i64 i) := fun W hW => by
    have k1 := hW.bk (Bk.put hs 8 (.bool true)) (by simpa using nsr)
    have k2 := hW.bk (h.top.far (p := ⟨sp, 8, none⟩) (Ne.symm nsb) (.bool true)) (by have := h.ner.1; simpa using this)
    exact ⟨k1.cell 0, k2.cell 1, k1.cell 1⟩
  have HKS := Lib.hid hks
  have hrd : Bk (w.setCell ⟨sp, 8, none⟩ (.bool true)) r 148 s.cells := h.rd.far (p := ⟨sp, 8, none⟩) (Ne.symm nsr) _
  have HL := Lib.hid (leave_any r i s (w.setCell ⟨sp, 8, none⟩ (.bool true)).drew hrd.drew)
  obtain ⟨s2, n2, hsn⟩ : ∃ s2 n2, s.leave i = (s2, n2) := ⟨_, _, rfl⟩
  rw [hsn] at HL
  have HDD := Lib.hid (show ∀ W, Off [r] (w.setCell ⟨sp, 8, none⟩ (.bool true)) W → Bk W r 148 s2.cells → Db W b q r f g P s2 from fun W hW hr2 => by
    have hq : ∀ x ∈ [b, q, r, f], x ∉ [sp] := fun x hx hm => by
      obtain ⟨cs, hp⟩ := h.pgCell
      obtain ⟨fcs, h1, -⟩ := h.fr
      rw [List.mem_singleton] at hm
      subst hm
      simp only [List.mem_cons, List.not_mem_nil, or_false] at hx
      rcases hx with e | e | e | e
      · exact nsb e
      · subst e; exact (Bk.ne hs hp (by decide)) rfl
      · exact nsr e
      · subst e; exact (Bk.ne hs h1 (by decide)) rfl
    exact (h.off (U := [sp]) ((Off.refl _ w).setCell (p := ⟨sp, 8, none⟩) (.inl (by simp)) (.bool true)) hq).readers hW hr2)
  have HOF := Lib.hid hof
  have HSN := Lib.hid hsn
  clear h hs hks hrd hof hsn
  go_enter Tryz.func21, Tryz.ntmps21
  go_wp2_with fail
  refine HM.out.mono ?_
  rintro e w1 ⟨rfl, rfl⟩
  go_wp2_with fail
  go_region_held3 (fun W => W.cell? ⟨sp, 0, none⟩ = some (.pointer (some ⟨b, 0, none⟩)) ∧ W.cell? ⟨b, 1, none⟩ = some (.pointer (some ⟨r, 0, none⟩)) ∧ W.cell? ⟨sp, 1, none⟩ = some (.int .i64 i)) (first | exact HKS.out _ (Off.refl _ _).drew | exact HKS.out _ ho2.out) (first
    | (go_at_call 57; refine HL.out.mono ?_; rintro e w2 ⟨rfl, hr2, hof2⟩; have HR2 := Lib.hid hr2; have ho2 := Lib.hid ((Off.refl [r] _).drew.trans hof2); clear hr2 hof2))
  all_goals
    go_wp2_with fail
    go_ret
    exact ⟨_, rfl, HOF.out.trans (ho2.out.mono (fun x hx => .inl (by simp at hx; simp [hx]))), by rw [HSN.out]; exact HDD.out _ ho2.out HR2.out⟩
set_option maxHeartbeats 8000000 in
theorem sclose_d {w : World} {b q r f g sp : Nat} {P : PgS} {s : St} {i : Int} {u : FrameMode} (h : Db w b q r f g P s) (hs : SnapAt w sp b i P.m false) : CallsD Tryz.prog 21 #[.pointer (some ⟨sp, 0, none⟩)] u w (fun e u' w' => u' = u ∧ ∃ n : Int, e = .returned (.int .i64 n) ∧ Off [sp, r] w w' ∧ Db w' b q r f g P (s.leave i).1) := by
  have HM := Lib.hid (smay_ok hs)
  have ls := Bk.lt hs
  have lb := h.top.lt
  have s8 := Bk.cell hs 8
  have f8 := Bk.frozen hs 8
  have nsb : sp ≠ b := Bk.ne hs h.top (by decide)
  have nsr : sp ≠ r := Bk.ne hs h.rd (by decide)
  have hof : Off [sp, r] w (w.setCell ⟨sp, 8, none⟩ (.bool true)) := (Off.refl _ w).setCell (p := ⟨sp, 8, none⟩) (.inl (by simp)) _
  have hks : ∀ W, Off [r] (w.setCell ⟨sp, 8, none⟩ (.bool true)) W → W.cell? ⟨sp, 0, none⟩ = some (.pointer (some ⟨b, 0, none⟩)) ∧ W.cell? ⟨b, 1, none⟩ = some (.pointer (some ⟨r, 0, none⟩)) ∧ W.cell? ⟨sp, 1, none⟩ = some (.int .i64 i) := fun W hW => by
    have k1 := hW.bk (Bk.put hs 8 (.bool true)) (by simpa using nsr)
    have k2 := hW.bk (h.top.far (p := ⟨sp, 8, none⟩) (Ne.symm nsb) (.bool true)) (by have := h.ner.1; simpa using this)
    exact ⟨k1.cell 0, k2.cell 1, k1.cell 1⟩
  have HKS := Lib.hid hks
  have hrd : Bk (w.setCell ⟨sp, 8, none⟩ (.bool true)) r 148 s.cells := h.rd.far (p := ⟨sp, 8, none⟩) (Ne.symm nsr) _
  have HL := Lib.hid (leave_any r i s (w.setCell ⟨sp, 8, none⟩ (.bool true)).drew hrd.drew)
  obtain ⟨s2, n2, hsn⟩ : ∃ s2 n2, s.leave i = (s2, n2) := ⟨_, _, rfl⟩
  rw [hsn] at HL
  have HDD := Lib.hid (show ∀ W, Off [r] (w.setCell ⟨sp, 8, none⟩ (.bool true)) W → Bk W r 148 s2.cells → Db W b q r f g P s2 from fun W hW hr2 => by
    have hq : ∀ x ∈ [b, q, r, f], x ∉ [sp] := fun x hx hm => by
      obtain ⟨cs, hp⟩ := h.pgCell
      obtain ⟨fcs, h1, -⟩ := h.fr
      rw [List.mem_singleton] at hm
      subst hm
      simp only [List.mem_cons, List.not_mem_nil, or_false] at hx
      rcases hx with e | e | e | e
      · exact nsb e
      · subst e; exact (Bk.ne hs hp (by decide)) rfl
      · exact nsr e
      · subst e; exact (Bk.ne hs h1 (by decide)) rfl
    exact (h.off (U := [sp]) ((Off.refl _ w).setCell (p := ⟨sp, 8, none⟩) (.inl (by simp)) (.bool true)) hq).readers hW hr2)
  have HOF := Lib.hid hof
  have HSN := Lib.hid hsn
  clear h hs hks hrd hof hsn
  go_enter_d Tryz.func21, Tryz.ntmps21
  go_wp2_with fail
  refine HM.out.mono ?_
  rintro e w1 ⟨rfl, rfl⟩
  go_wp2_with fail
  go_region_held3 (fun W => W.cell? ⟨sp, 0, none⟩ = some (.pointer (some ⟨b, 0, none⟩)) ∧ W.cell? ⟨b, 1, none⟩ = some (.pointer (some ⟨r, 0, none⟩)) ∧ W.cell? ⟨sp, 1, none⟩ = some (.int .i64 i)) (first | exact HKS.out _ (Off.refl _ _).drew | exact HKS.out _ ho2.out) (first
    | (go_at_call 57; refine HL.out.mono ?_; rintro e w2 ⟨rfl, hr2, hof2⟩; have HR2 := Lib.hid hr2; have ho2 := Lib.hid ((Off.refl [r] _).drew.trans hof2); clear hr2 hof2))
  all_goals
    go_wp2_with fail
    go_ret
    exact ⟨_, rfl, HOF.out.trans (ho2.out.mono (fun x hx => .inl (by simp at hx; simp [hx]))), by rw [HSN.out]; exact HDD.out _ ho2.out HR2.out⟩
set_option maxHeartbeats 16000000 in
theorem spages_ok {w : World} {b q r f g sp : Nat} {P : PgS} {s : St} {i t ff p l : Int} (h : Db w b q r f g P s) (hs : SnapAt w sp b i ⟨t, 0, ff, p, l⟩ false) : Calls Tryz.prog 28 #[.pointer (some ⟨sp, 0, none⟩)] w (fun e w' => e = .returned (.tuple #[.slice none 0 0, .int .i64 0]) ∧ Below w.heap.size w w') := by
  have HM := Lib.hid (smay_ok hs)
  have ls := Bk.lt hs
  have lb := h.top.lt
  have HS := Lib.hid hs
  have HT := Lib.hid h.top
  have HR := Lib.hid fun (v : Value) (W : World) => reach_zero v W
  have HN := Lib.hid fun (T : TypeId) (v : Value) (W : World) => cnew_zero T v W
  have HSO := Lib.hid fun (W : World) => sort_none W
  have c0 := Bk.cell hs 0
  have c3 := Bk.cell hs 3
  have c7 := Bk.cell hs 7
  have b0 := h.top.cell 0
  clear h hs
  go_enter Tryz.func28, Tryz.ntmps28
  go_wp2_with fail
  refine HM.out.mono ?_
  rintro e w1 ⟨rfl, rfl⟩
  go_wp2_with fail
  have hz := Bk.new w 109 #[.pointer (some ⟨q, 0, none⟩)]
  have HZ := Lib.hid hz
  have HKS := Lib.hid (show ∀ W, Below (w.alloc (.cells #[.pointer (some ⟨q, 0, none⟩)] 109)).heap.size (w.alloc (.cells #[.pointer (some ⟨q, 0, none⟩)] 109)) W → W.cell? ⟨w.heap.size, 0, none⟩ = some (.pointer (some ⟨q, 0, none⟩)) ∧ W.cell? ⟨sp, 3, none⟩ = some (.int .i64 0) from fun W hW => ⟨(bk_below hz hW).cell 0, (bk_below (Bk.alloc HS.out _) hW).cell 3⟩)
  have lz := hz.lt
  clear hz
  go_region_held3 (fun W => W.cell? ⟨w.heap.size, 0, none⟩ = some (.pointer (some ⟨q, 0, none⟩)) ∧ W.cell? ⟨sp, 3, none⟩ = some (.int .i64 0)) (first | exact HKS.out _ (Below.refl _ _).drew) (first
    | (go_at_call 62; refine (HR.out _ _).mono ?_; rintro e w2 ⟨rfl, rfl⟩)
    | fail)
  all_goals
    go_wp2_with fail
    have hB0 : Below w.heap.size w (((w.alloc (.cells #[.pointer (some ⟨q, 0, none⟩)] 109)).alloc (.cells #[.slice none 0 0, .slice none 0 0] 64)).drew) := (((Below.refl _ w).alloc (Nat.le_refl _) _).alloc (by simp) _).drew
    refine (concat_none _ _ (show Bk _ (w.heap.size + 1) 64 #[.slice none 0 0, .slice none 0 0] from ((by simpa using Bk.new (w.alloc (.cells #[.pointer (some ⟨q, 0, none⟩)] 109)) 64 #[.slice none 0 0, .slice none 0 0] : Bk ((w.alloc (.cells #[.pointer (some ⟨q, 0, none⟩)] 109)).alloc (.cells #[.slice none 0 0, .slice none 0 0] 64)) (w.heap.size + 1) 64 #[.slice none 0 0, .slice none 0 0])).drew)).mono ?_
    rintro e w2 ⟨rfl, hb2⟩
    have HZ2 := Lib.hid (bk_below ((Bk.alloc HZ.out (.cells #[.slice none 0 0, .slice none 0 0] 64)).drew) hb2)
    have HB2 := Lib.hid (hB0.trans (hb2.mono hB0.size))
    have lz2 := HZ2.out.lt
    clear hB0 hb2 lz
    have HKT := Lib.hid (show ∀ W, Below w2.heap.size w2 W → W.cell? ⟨w.heap.size, 0, none⟩ = some (.pointer (some ⟨q, 0, none⟩)) ∧ W.cell? ⟨sp, 3, none⟩ = some (.int .i64 0) from fun W hW => ⟨(bk_below HZ2.out hW).cell 0, (bk_below (bk_below HS.out HB2.out) hW).cell 3⟩)
    go_wp2_with fail
    go_region_held3 (fun W => W.cell? ⟨w.heap.size, 0, none⟩ = some (.pointer (some ⟨q, 0, none⟩)) ∧ W.cell? ⟨sp, 3, none⟩ = some (.int .i64 0)) (first | exact HKT.out _ (Below.refl _ _).drew | exact HKT.out _ hk3.out) (first
      | (go_at_call 64; refine (HN.out _ _ _).mono ?_; rintro e w3 ⟨rfl, hc3, hb3⟩; have HC3 := Lib.hid hc3; have hk3 := Lib.hid ((Below.refl w2.heap.size w2).drew.trans (hb3.mono (by simp))); clear hc3 hb3)
      | fail)
    all_goals
      have lc3 := HC3.out.lt
      go_wp2_with fail
      refine (cfirst_zero _ _ _ HC3.out).mono ?_
      rintro e w4 ⟨rfl, ho4⟩
      have HO4 := Lib.hid ho4
      clear ho4
      go_wp2_with fail
      refine wp_loop_rounds 2 ?_
      rw [rounds_succ]
      go_wp2_with fail
      refine (HSO.out _).mono ?_
      rintro e w5 ⟨rfl, hb5⟩
      have HB5 := Lib.hid hb5
      clear hb5
      go_wp2_with fail
      go_ret2
      have hB4 : Below w.heap.size w w4 := ((Off.of_below (HB2.out.trans (hk3.out.mono HB2.out.size)) []).then HO4.out (fun x hx => by rw [List.mem_singleton] at hx; subst hx; exact .inr (by simpa using HB2.out.size))).below (Nat.le_refl _) (by simp)
      exact ⟨rfl, hB4.trans (HB5.out.mono hB4.size)⟩
set_option maxHeartbeats 16000000 in
theorem snames_ok {w : World} {b q r f g sp : Nat} {P : PgS} {s : St} {i t ff p l : Int} (h : Db w b q r f g P s) (hs : SnapAt w sp b i ⟨t, 0, ff, p, l⟩ false) : Calls Tryz.prog 32 #[.pointer (some ⟨sp, 0, none⟩)] w (fun e w' => e = .returned (.tuple #[.slice none 0 0, .int .i64 0]) ∧ Below w.heap.size w w') := by
  have HM := Lib.hid (smay_ok hs)
  have ls := Bk.lt hs
  have lb := h.top.lt
  have HKS := Lib.hid (show ∀ W, Below w.heap.size w W → W.cell? ⟨sp, 0, none⟩ = some (.pointer (some ⟨b, 0, none⟩)) ∧ W.cell? ⟨b, 0, none⟩ = some (.pointer (some ⟨q, 0, none⟩)) ∧ W.cell? ⟨sp, 3, none⟩ = some (.int .i64 0) from fun W hW => ⟨(bk_below hs hW).cell 0, (bk_below h.top hW).cell 0, (bk_below hs hW).cell 3⟩)
  have HN := Lib.hid fun (T : TypeId) (v : Value) (W : World) => cnew_zero T v W
  clear h hs
  go_enter Tryz.func32, Tryz.ntmps32
  go_wp2_with fail
  refine HM.out.mono ?_
  rintro e w1 ⟨rfl, rfl⟩
  go_wp2_with fail
  go_region_held3 (fun W => W.cell? ⟨sp, 0, none⟩ = some (.pointer (some ⟨b, 0, none⟩)) ∧ W.cell? ⟨b, 0, none⟩ = some (.pointer (some ⟨q, 0, none⟩)) ∧ W.cell? ⟨sp, 3, none⟩ = some (.int .i64 0)) (first | exact HKS.out _ (Below.refl _ _).drew | exact HKS.out _ hk3.out) (first
    | (go_at_call 64; refine (HN.out _ _ _).mono ?_; rintro e w3 ⟨rfl, hc3, hb3⟩; have HC3 := Lib.hid hc3; have hk3 := Lib.hid ((Below.refl w.heap.size w).drew.trans (hb3.mono (by simp))); clear hc3 hb3)
    | fail)
  all_goals
    have lc3 := HC3.out.lt
    go_wp2_with fail
    refine (cfirst_zero _ _ _ HC3.out).mono ?_
    rintro e w4 ⟨rfl, ho4⟩
    have HO4 := Lib.hid ho4
    clear ho4
    go_wp2_with fail
    refine wp_loop_rounds 2 ?_
    rw [rounds_succ]
    go_wp2_with fail
    go_ret2
    exact ⟨rfl, ((Off.of_below hk3.out []).then HO4.out (fun x hx => by rw [List.mem_singleton] at hx; subst hx; exact .inr (by simp))).below (Nat.le_refl _) (by simp)⟩
end Go.Proofs.YtkkgiajjdcpicaaGreatDoor

/- The audit of an empty file, and of none. -/
import Derived.Test.YtkkgiajjdcpicaaGreatDoorKvD
import Derived.Defers
namespace Go.Proofs.YtkkgiajjdcpicaaGreatDoor
open Go.RowKit
set_option maxRecDepth 100000
set_option linter.unusedVariables false
set_option linter.unusedSimpArgs false
theorem snames_nil (w : World) : Calls Tryz.prog 32 #[.pointer none] w (fun e w' => e = .returned (.tuple #[.slice none 0 0, .int .i64 2]) ∧ w = w') := by
  have HM := Lib.hid fun (W : World) => smay_nil W
  go_enter Tryz.func32, Tryz.ntmps32
  go_wp2_with fail
  refine (HM.out _).mono ?_
  rintro e w1 ⟨rfl, rfl⟩
  go_wp2_with fail
  go_ret2
  exact ⟨rfl, rfl⟩
theorem anames_nil (w : World) : Calls Tryz.prog 8 #[.pointer none] w (fun e w' => e = .returned (.tuple #[.slice none 0 0, .int .i64 2]) ∧ w = w') := by
  have HM := Lib.hid fun (W : World) => snames_nil W
  go_enter Tryz.func8, Tryz.ntmps8
  go_wp2_with fail
  refine (HM.out _).mono ?_
  rintro e w1 ⟨rfl, rfl⟩
  go_wp2_with fail
  go_ret2
  exact ⟨rfl, rfl⟩
theorem each_nil (v : Value) (w : World) : Calls Tryz.prog 30 #[.pointer none, v] w (fun e w' => e = .returned (.int .i64 2) ∧ w = w') := by
  have HM := Lib.hid fun (W : World) => anames_nil W
  go_enter Tryz.func30, Tryz.ntmps30
  go_wp2_with fail
  refine (HM.out _).mono ?_
  rintro e w1 ⟨rfl, rfl⟩
  go_wp2_with fail
  go_ret
  exact ⟨rfl, rfl⟩
theorem list_nil (n : Int) (w : World) : Calls Tryz.prog 9 #[.pointer none, .int .i64 n] w (fun e w' => e = .returned (.tuple #[.slice none 0 0, .int .i64 2]) ∧ Below w.heap.size w w') := by
  have HM := Lib.hid fun (v : Value) (W : World) => each_nil v W
  have hmf : ∀ (fn : Fn) (first cap : Array Value) (w : World), (Instr.makeFunc fn first cap).run Tryz.prog w = .ok (.func fn first cap) w := fun _ _ _ _ => rfl
  go_enter Tryz.func9, Tryz.ntmps9
  go_wp2_with fail
  refine (HM.out _ _).mono ?_
  rintro e w1 ⟨rfl, rfl⟩
  go_wp2_with fail
  go_ret2
  exact ⟨rfl, (((Below.refl _ w).alloc (Nat.le_refl _) _).alloc (by simp) _)⟩
theorem sum_nil (w : World) : Calls Tryz.prog 10 #[.pointer none] w (fun e w' => e = .returned (.tuple #[.int .u32 0, .int .i64 2]) ∧ Below w.heap.size w w') := by
  have HM := Lib.hid fun (v : Value) (W : World) => each_nil v W
  have hmf : ∀ (fn : Fn) (first cap : Array Value) (w : World), (Instr.makeFunc fn first cap).run Tryz.prog w = .ok (.func fn first cap) w := fun _ _ _ _ => rfl
  go_enter Tryz.func10, Tryz.ntmps10
  go_wp2_with fail
  refine (HM.out _ _).mono ?_
  rintro e w1 ⟨rfl, rfl⟩
  go_wp2_with fail
  go_ret2
  exact ⟨rfl, (Below.refl _ w).alloc (Nat.le_refl _) _⟩
theorem snap_nil (w : World) : Calls Tryz.prog 12 #[.pointer none] w (fun e w' => e = .returned (.tuple #[.pointer none, .int .i64 2]) ∧ w = w') := by
  go_enter Tryz.func12, Tryz.ntmps12
  go_wp2_with fail
  go_ret2
  exact ⟨rfl, rfl⟩
set_option maxHeartbeats 4000000 in
theorem anames_ok {w : World} {b q r f g sp : Nat} {P : PgS} {s : St} {i t ff p l : Int} (h : Db w b q r f g P s) (hs : SnapAt w sp b i ⟨t, 0, ff, p, l⟩ false) : Calls Tryz.prog 8 #[.pointer (some ⟨sp, 0, none⟩)] w (fun e w' => e = .returned (.tuple #[.slice none 0 0, .int .i64 0]) ∧ Below w.heap.size w w') := by
  have HM := Lib.hid (snames_ok h hs)
  clear h hs
  go_enter Tryz.func8, Tryz.ntmps8
  go_wp2_with fail
  refine HM.out.mono ?_
  rintro e w1 ⟨rfl, hb⟩
  have HB := Lib.hid hb
  clear hb
  go_wp2_with fail
  go_ret2
  exact ⟨rfl, HB.out⟩
set_option maxHeartbeats 4000000 in
theorem each_ok {w : World} {b q r f g sp : Nat} {P : PgS} {s : St} {i t ff p l : Int} (v : Value) (h : Db w b q r f g P s) (hs : SnapAt w sp b i ⟨t, 0, ff, p, l⟩ false) : Calls Tryz.prog 30 #[.pointer (some ⟨sp, 0, none⟩), v] w (fun e w' => e = .returned (.int .i64 0) ∧ Below w.heap.size w w') := by
  have HM := Lib.hid (anames_ok h hs)
  clear h hs
  go_enter Tryz.func30, Tryz.ntmps30
  go_wp2_with fail
  refine HM.out.mono ?_
  rintro e w1 ⟨rfl, hb⟩
  have HB := Lib.hid hb
  clear hb
  go_wp2_with fail
  refine wp_loop_rounds 2 ?_
  rw [rounds_succ]
  go_wp2_with fail
  go_ret
  exact ⟨rfl, HB.out⟩
theorem one_made : ∃ cs : Array Value, ∀ W : World, (Instr.makeSlice 64 (.int .i64 1) (.int .i64 1)).run Tryz.prog W = .ok (.slice (some ⟨W.heap.size, 0, none⟩) 1 1) (W.alloc (.cells cs 3)) := by
  have hinfo : (Tryz.prog.info? 3).map (fun i => (i.zero, i.size, i.bytes)) = some (some (.int .i64 0), 1, 8) := by kernel_rfl
  obtain ⟨i, hi, hz, hs, hb⟩ := info_parts hinfo
  refine ⟨madeCells #[.int .i64 0] 1, fun W => ?_⟩
  have hr := run_make (P := Tryz.prog) W 64 3 i _ Tryz.underlying64 hi hz .i64 .i64 1 1 (by omega) (Int.le_refl _) (by rw [hb]; omega) (by omega)
  rw [hs] at hr
  exact hr
set_option maxHeartbeats 8000000 in
theorem pages_ok (v : Value) (w : World) : Calls Tryz.prog 29 #[v, .int .i64 1, .slice none 0 0, .slice none 0 0] w (fun e w' => e = .returned (.tuple #[]) ∧ Below w.heap.size w w') := by
  have hmf : ∀ (fn : Fn) (first cap : Array Value) (w : World), (Instr.makeFunc fn first cap).run Tryz.prog w = .ok (.func fn first cap) w := fun _ _ _ _ => rfl
  obtain ⟨cs, hmk⟩ := one_made
  go_enter Tryz.func29, Tryz.ntmps29
  go_wp2_with fail
  refine wp_loop_rounds 2 ?_
  rw [rounds_succ]
  go_wp2_with fail
  refine wp_loop_rounds 2 ?_
  rw [rounds_succ]
  go_wp2_with fail
  refine wp_loop_rounds 2 ?_
  rw [rounds_succ]
  go_wp2_with fail
  refine bodyPost_end (results_none rfl _ _ _) rfl ?_
  exact ⟨rfl, (((Below.refl _ w).alloc (Nat.le_refl _) _).alloc (by simp) _).alloc (by simp; omega) _⟩
/-- A report of nothing, but for the transaction. -/
def repCells (t : Int) : Array Value := #[.int .i64 t, .int .i64 0, .int .i64 0, .int .i64 0, .int .i64 0, .int .i64 0, .int .i64 0, .int .i64 0]
theorem Bk.eightSet {w : World} {q : Nat} {t : TypeId} {v0 v1 v2 v3 v4 v5 v6 v7 : Value} (h : Bk w q t #[v0, v1, v2, v3, v4, v5, v6, v7]) (a0 a1 a2 a3 a4 a5 a6 a7 : Value) :
    Bk ((((((((w.setCell ⟨q, 0, none⟩ a0).setCell ⟨q, 1, none⟩ a1).setCell ⟨q, 2, none⟩ a2).setCell ⟨q, 3, none⟩ a3).setCell ⟨q, 4, none⟩ a4).setCell ⟨q, 5, none⟩ a5).setCell ⟨q, 6, none⟩ a6).setCell ⟨q, 7, none⟩ a7) q t #[a0, a1, a2, a3, a4, a5, a6, a7] :=
  by
  have h0 := h.put 0 a0
  have h1 := h0.put 1 a1
  have h2 := h1.put 2 a2
  have h3 := h2.put 3 a3
  have h4 := h3.put 4 a4
  have h5 := h4.put 5 a5
  have h6 := h5.put 6 a6
  have h7 := h6.put 7 a7
  simpa using h7
theorem rep_results {tm : Array Value} {w : World} {b : Nat} {c0 c1 c2 c3 c4 c5 c6 c7 : Value} {x : Int} (h2 : tm[2]? = some (.pointer (some ⟨b, 0, none⟩))) (h3 : tm[3]? = some (.int .i64 x)) (h : Bk w b 24 #[c0, c1, c2, c3, c4, c5, c6, c7]) :
    Sem.run Tryz.prog (results Tryz.f7 tm) w = .ok (.tuple #[.agg #[c0, c1, c2, c3, c4, c5, c6, c7], .int .i64 x]) w := by
  obtain ⟨y0, y1, y2, y3, y4, y5, y6, y7⟩ := h.eight
  simp [results, Tryz.results7, go_sem, h2, h3, y0, y1, y2, y3, y4, y5, y6, y7]
set_option maxHeartbeats 8000000 in
theorem check_nil (w : World) : Calls Tryz.prog 7 #[.pointer none] w (fun e w' => e = .returned (.tuple #[.agg (repCells 0), .int .i64 2]) ∧ Below w.heap.size w w') := by
  have HM := Lib.hid fun (W : World) => snap_nil W
  go_enter_defers Tryz.func7, Tryz.ntmps7
  go_wp2_with fail
  refine (HM.out _).mono ?_
  rintro e w1 ⟨rfl, rfl⟩
  go_wp2_with fail
  refine ⟨_, rep_results rfl rfl (Bk.new w _ _), rfl, (Below.refl _ w).alloc (Nat.le_refl _) _⟩
set_option maxHeartbeats 8000000 in
theorem check_full {w : World} {b q r f g : Nat} {P : PgS} {s : St} (h : Db w b q r f g P s) (hE : s.enter P.m.t = (s, 0, 9)) : Calls Tryz.prog 7 #[.pointer (some ⟨b, 0, none⟩)] w (fun e w' => e = .returned (.tuple #[.agg (repCells 0), .int .i64 9]) ∧ Off [r] w w') := by
  have HD := Lib.hid (h.below ((Below.refl _ w).alloc (Nat.le_refl _) (.cells (repCells 0) 24)))
  have HM := Lib.hid (snap_full HD.out hE)
  clear h
  unfold repCells at HM HD
  go_enter_defers Tryz.func7, Tryz.ntmps7
  go_wp2_with fail
  refine HM.out.mono ?_
  rintro e w1 ⟨rfl, ho, hd⟩
  have hr : r < w.heap.size + 1 := by have := HD.out.rd.lt; simpa using this
  have hnr : w.heap.size ≠ r := fun he => by
    have h1 := Bk.new w 24 (repCells 0)
    unfold repCells at h1
    exact Bk.ne h1 HD.out.rd (by decide) he
  have hb := ho.bk (Bk.new w 24 _) (by simpa using hnr)
  obtain ⟨y0, y1, y2, y3, y4, y5, y6, y7⟩ := hb.eight
  have lw := hb.lt
  have HB := Lib.hid hb
  have z0 := hb.frozen 0
  have z1 := hb.frozen 1
  have z2 := hb.frozen 2
  have z3 := hb.frozen 3
  have z4 := hb.frozen 4
  have z5 := hb.frozen 5
  have z6 := hb.frozen 6
  have z7 := hb.frozen 7
  have HO := Lib.hid ho
  clear hb ho hd
  go_wp2_with fail
  exact ⟨_, rep_results rfl rfl (HB.out.eightSet _ _ _ _ _ _ _ _), rfl, ((Off.refl [r] w).alloc _).trans HO.out |>.then ((((((((Off.refl [w.heap.size] w1).setCell (.inl (by simp)) _).setCell (.inl (by simp)) _).setCell (.inl (by simp)) _).setCell (.inl (by simp)) _).setCell (.inl (by simp)) _).setCell (.inl (by simp)) _).setCell (.inl (by simp)) _ |>.setCell (.inl (by simp)) _) (fun x hx => by rw [List.mem_singleton] at hx; exact .inr (by omega))⟩
theorem Db.old {w : World} {b q r f g : Nat} {P : PgS} {s : St} (h : Db w b q r f g P s) : ∀ x ∈ [b, q, r, f], x < w.heap.size := fun x hx => by
  obtain ⟨cs, hp⟩ := h.pgCell
  obtain ⟨fcs, h1, -⟩ := h.fr
  simp only [List.mem_cons, List.not_mem_nil, or_false] at hx
  rcases hx with rfl | rfl | rfl | rfl
  · exact h.top.lt
  · exact hp.lt
  · exact h.rd.lt
  · exact h1.lt
def repOf (b q r f g sp : Nat) (P : PgS) (s : St) (i : Int) (R : Nat) (w W : World) : Prop := Db W b q r f g P s ∧ SnapAt W sp b i ⟨1, 0, 0, 1, 20⟩ false ∧ Bk W R 24 (repCells 0) ∧ Off [r] w W
theorem repOf.names {b q r f g sp : Nat} {P : PgS} {s : St} {i : Int} {R : Nat} {w W : World} (h : repOf b q r f g sp P s i R w W) : Calls Tryz.prog 8 #[.pointer (some ⟨sp, 0, none⟩)] W (fun e w' => e = .returned (.tuple #[.slice none 0 0, .int .i64 0]) ∧ Below W.heap.size W w') := anames_ok h.1 h.2.1
theorem repOf.each {b q r f g sp : Nat} {P : PgS} {s : St} {i : Int} {R : Nat} {w W : World} (h : repOf b q r f g sp P s i R w W) (v : Value) : Calls Tryz.prog 30 #[.pointer (some ⟨sp, 0, none⟩), v] W (fun e w' => e = .returned (.int .i64 0) ∧ Below W.heap.size W w') := each_ok v h.1 h.2.1
theorem repOf.below {b q r f g sp : Nat} {P : PgS} {s : St} {i : Int} {R : Nat} {w W W' : World} (h : repOf b q r f g sp P s i R w W) (hb : Below W.heap.size W W') : repOf b q r f g sp P s i R w W' :=
  ⟨h.1.below hb, bk_below h.2.1 hb, bk_below h.2.2.1 hb, h.2.2.2.trans (Off.of_below hb [r])⟩
set_option maxHeartbeats 32000000 in
theorem check_ok {w : World} {b q r f g : Nat} {P : PgS} {s s' : St} {i : Int} (h : Db w b q r f g P s) (hm : P.m = ⟨1, 0, 0, 1, 20⟩) (hE : s.enter 1 = (s', i, 0)) : Calls Tryz.prog 7 #[.pointer (some ⟨b, 0, none⟩)] w (fun e w' => e = .returned (.tuple #[.agg (repCells 1), .int .i64 0]) ∧ Off [r] w w') := by
  have HD := Lib.hid (h.below ((Below.refl _ w).alloc (Nat.le_refl _) (.cells (repCells 0) 24)))
  have HSN := Lib.hid (snap_ok HD.out (by rw [hm]; exact hE))
  have hmf : ∀ (fn : Fn) (first cap : Array Value) (w : World), (Instr.makeFunc fn first cap).run Tryz.prog w = .ok (.func fn first cap) w := fun _ _ _ _ => rfl
  have HPM := Lib.hid hm
  have HOL := Lib.hid h.old
  clear h hm
  unfold repCells at HSN HD
  go_enter_defers Tryz.func7, Tryz.ntmps7
  go_wp2_with fail
  refine HSN.out.mono ?_
  rintro e w1 ⟨sp, rfl, ho, hd, hs, hsp⟩
  have hnr : w.heap.size ≠ r := fun he => by
    have h1 := Bk.new w 24 (repCells 0)
    unfold repCells at h1
    exact Bk.ne h1 HD.out.rd (by decide) he
  have h1 : repOf b q r f g sp P s' i w.heap.size w w1 := ⟨hd, by rw [HPM.out] at hs; exact hs, ho.bk (Bk.new w 24 (repCells 0)) (by simpa using hnr), ((Off.refl [r] w).alloc _).trans ho⟩
  have H1 := Lib.hid h1
  have lb := h1.1.top.lt
  have ls := Bk.lt h1.2.1
  have HPG := Lib.hid (spages_ok h1.1 h1.2.1)
  have HSP : Hid (w.heap.size ≤ sp) := show _ ≤ _ by simp at hsp; omega
  clear h1 ho hd hs HD HSN hsp hnr
  go_wp2_with fail
  refine HPG.out.mono ?_
  rintro e w2 ⟨rfl, hb2⟩
  have h2 := H1.out.below hb2
  have H2 := Lib.hid h2
  have HME := Lib.hid (dbmeta_any h2.1)
  rw [HPM.out] at HME
  clear h2 hb2 H1 HPG
  go_wp2_with fail
  refine HME.out.mono ?_
  rintro e w3 ⟨rfl, hb3⟩
  have h3 := H2.out.below hb3
  have H3 := Lib.hid h3
  clear h3 hb3 H2 HME
  go_wp2_with fail
  have hz := Bk.new w3 56 #[.int .i64 1, .int .i64 0, .int .i64 0, .int .i64 1, .int .i64 20]
  have h3a := H3.out.below ((Below.refl _ w3).alloc (Nat.le_refl _) (.cells #[.int .i64 1, .int .i64 0, .int .i64 0, .int .i64 1, .int .i64 20] 56))
  generalize w3.alloc (.cells #[.int .i64 1, .int .i64 0, .int .i64 0, .int .i64 1, .int .i64 20] 56) = W3 at hz h3a ⊢
  generalize w3.heap.size = M at hz ⊢
  have H3a := Lib.hid h3a
  have lz := hz.lt
  have lb3 := h3a.1.top.lt
  have HKS := Lib.hid (show ∀ W, Below W3.heap.size W3 W → W.cell? ⟨M, 0, none⟩ = some (.int .i64 1) ∧ W.cell? ⟨M, 3, none⟩ = some (.int .i64 1) from fun W hW => ⟨(bk_below hz hW).cell 0, (bk_below hz hW).cell 3⟩)
  have HF := Lib.hid fun (W : World) (hW : Below W3.heap.size W3 W) => dbfree_any (h3a.1.below hW)
  have hbn : Below W3.heap.size W3 (W3.alloc (.cells #[.int .i64 0, .int .i64 0, .int .i64 0, .int .i64 0, .int .i64 0, .int .i64 0, .int .i64 0, .int .i64 0] 24)).drew := ((Below.refl _ W3).alloc (Nat.le_refl _) _).drew
  have HBN := Lib.hid hbn
  clear hz h3a lb ls H3 hbn
  go_region_held3 (fun W => W.cell? ⟨M, 0, none⟩ = some (.int .i64 1) ∧ W.cell? ⟨M, 3, none⟩ = some (.int .i64 1)) (first | (refine HKS.out _ ?_; with_reducible (first | exact (Below.refl _ _).drew | exact hk4.out | exact HBN.out | exact (Below.alloc hk4.out hk4.out.size _) | exact ((((((((hk4.out.setCell (Nat.le_refl _) _).setCell (Nat.le_refl _) _).setCell (Nat.le_refl _) _).setCell (Nat.le_refl _) _).setCell (Nat.le_refl _) _).setCell (Nat.le_refl _) _).setCell (Nat.le_refl _) _).setCell (Nat.le_refl _) _))) | fail) (first
    | (go_at_call 24; refine (HF.out _ HBN.out).mono ?_; rintro e w4 ⟨rfl, hb4⟩; have hk4 := Lib.hid (show Below W3.heap.size W3 w4 from HBN.out.trans (hb4.mono HBN.out.size)); have hbk := bk_below ((Bk.new W3 24 #[.int .i64 0, .int .i64 0, .int .i64 0, .int .i64 0, .int .i64 0, .int .i64 0, .int .i64 0, .int .i64 0]).drew) hb4; have z0 := hbk.frozen 0; have z1 := hbk.frozen 1; have z2 := hbk.frozen 2; have z3 := hbk.frozen 3; have z4 := hbk.frozen 4; have z5 := hbk.frozen 5; have z6 := hbk.frozen 6; have z7 := hbk.frozen 7; have y0 := hbk.cell 0; have y1 := hbk.cell 1; have y2 := hbk.cell 2; have y3 := hbk.cell 3; have y4 := hbk.cell 4; have y5 := hbk.cell 5; have y6 := hbk.cell 6; have y7 := hbk.cell 7; have lbk := hbk.lt; have HBK := Lib.hid hbk; clear hbk hb4)
    | (go_at_call 24; refine (HF.out _ (Below.refl _ _).drew).mono ?_; rintro e w4 ⟨rfl, hb4⟩; have hk4 := Lib.hid (show Below W3.heap.size W3 w4 from (Below.refl _ _).drew.trans hb4); clear hb4)
    | fail)
  all_goals
    go_wp2_with fail
    first
      | (have hb5 : Below W3.heap.size W3 ((((((((w4.setCell ⟨W3.heap.size, 0, none⟩ (.int .i64 1)).setCell ⟨W3.heap.size, 1, none⟩ (.int .i64 (IntKind.i64.wrap 0))).setCell ⟨W3.heap.size, 2, none⟩ (.int .i64 0)).setCell ⟨W3.heap.size, 3, none⟩ (.int .i64 0)).setCell ⟨W3.heap.size, 4, none⟩ (.int .i64 0)).setCell ⟨W3.heap.size, 5, none⟩ (.int .i64 0)).setCell ⟨W3.heap.size, 6, none⟩ (.int .i64 0)).setCell ⟨W3.heap.size, 7, none⟩ (.int .i64 0)) := ((((((((hk4.out.setCell (Nat.le_refl _) _).setCell (Nat.le_refl _) _).setCell (Nat.le_refl _) _).setCell (Nat.le_refl _) _).setCell (Nat.le_refl _) _).setCell (Nat.le_refl _) _).setCell (Nat.le_refl _) _).setCell (Nat.le_refl _) _)
         have hr5 : Bk ((((((((w4.setCell ⟨W3.heap.size, 0, none⟩ (.int .i64 1)).setCell ⟨W3.heap.size, 1, none⟩ (.int .i64 (IntKind.i64.wrap 0))).setCell ⟨W3.heap.size, 2, none⟩ (.int .i64 0)).setCell ⟨W3.heap.size, 3, none⟩ (.int .i64 0)).setCell ⟨W3.heap.size, 4, none⟩ (.int .i64 0)).setCell ⟨W3.heap.size, 5, none⟩ (.int .i64 0)).setCell ⟨W3.heap.size, 6, none⟩ (.int .i64 0)).setCell ⟨W3.heap.size, 7, none⟩ (.int .i64 0)) W3.heap.size 24 (repCells 1) := HBK.out.eightSet _ _ _ _ _ _ _ _
         generalize ((((((((w4.setCell ⟨W3.heap.size, 0, none⟩ (.int .i64 1)).setCell ⟨W3.heap.size, 1, none⟩ (.int .i64 (IntKind.i64.wrap 0))).setCell ⟨W3.heap.size, 2, none⟩ (.int .i64 0)).setCell ⟨W3.heap.size, 3, none⟩ (.int .i64 0)).setCell ⟨W3.heap.size, 4, none⟩ (.int .i64 0)).setCell ⟨W3.heap.size, 5, none⟩ (.int .i64 0)).setCell ⟨W3.heap.size, 6, none⟩ (.int .i64 0)).setCell ⟨W3.heap.size, 7, none⟩ (.int .i64 0)) = W5 at hb5 hr5 ⊢
         obtain ⟨R2, hRe⟩ : ∃ R2, R2 = W3.heap.size := ⟨_, rfl⟩
         have hR2 : Hid (W3.heap.size ≤ R2) := show _ ≤ _ from Nat.le_of_eq hRe.symm
         rw [← hRe] at hr5 ⊢
         clear hRe)
      | (have hb5 : Below W3.heap.size W3 (w4.alloc (.cells #[.int .i64 1, .int .i64 (IntKind.i64.wrap 0), .int .i64 0, .int .i64 0, .int .i64 0, .int .i64 0, .int .i64 0, .int .i64 0] 24)) := hk4.out.alloc hk4.out.size _
         have hr5 : Bk (w4.alloc (.cells #[.int .i64 1, .int .i64 (IntKind.i64.wrap 0), .int .i64 0, .int .i64 0, .int .i64 0, .int .i64 0, .int .i64 0, .int .i64 0] 24)) w4.heap.size 24 (repCells 1) := Bk.new w4 _ _
         generalize (w4.alloc (.cells #[.int .i64 1, .int .i64 (IntKind.i64.wrap 0), .int .i64 0, .int .i64 0, .int .i64 0, .int .i64 0, .int .i64 0, .int .i64 0] 24)) = W5 at hb5 hr5 ⊢
         obtain ⟨R2, hRe⟩ : ∃ R2, R2 = w4.heap.size := ⟨_, rfl⟩
         have hR2 : Hid (W3.heap.size ≤ R2) := show _ ≤ _ from by rw [hRe]; exact hk4.out.size
         rw [← hRe] at hr5 ⊢
         clear hRe)
      | fail
    have h5 := H3a.out.below hb5
    have HB5 := Lib.hid hb5
    have HKT := Lib.hid (show ∀ W, Below W5.heap.size W5 W → W.cell? ⟨M, 3, none⟩ = some (.int .i64 1) from fun W hW => (HKS.out _ (hb5.trans (hW.mono hb5.size))).2)
    have HF5 := Lib.hid fun (W : World) (hW : Below W5.heap.size W5 W) => dbfree_any (h5.1.below hW)
    have HPA := Lib.hid fun (v : Value) (W : World) => pages_ok v W
    have H5 := Lib.hid h5
    have HR5 := Lib.hid hr5
    clear h5 hr5 hb5
    first
      | go_region_held3 (fun W => W.cell? ⟨M, 3, none⟩ = some (.int .i64 1)) (first | (refine HKT.out _ ?_; with_reducible (first | exact (Below.refl _ _).drew | exact hk6.out | exact hk7.out)) | fail) (first
        | (go_at_call 24; refine (HF5.out _ (Below.refl _ _).drew).mono ?_; rintro e w6 ⟨rfl, hb6⟩; have hk6 := Lib.hid (show Below W5.heap.size W5 w6 from (Below.refl _ _).drew.trans hb6); clear hb6)
        | (go_at_call 29; refine (HPA.out _ _).mono ?_; rintro e w7 ⟨rfl, hb7⟩; have hk7 := Lib.hid (show Below W5.heap.size W5 w7 from hk6.out.trans (hb7.mono hk6.out.size)); clear hb7)
        | fail)
      | fail
    have h7 := H5.out.below hk7.out
    have hr7 := bk_below HR5.out hk7.out
    have HN7 := Lib.hid h7.names
    have H7 := Lib.hid h7
    have HR7 := Lib.hid hr7
    clear h7 hr7
    go_wp2_with fail
    refine HN7.out.mono ?_
    rintro e w8 ⟨rfl, hb8⟩
    have h8 := H7.out.below hb8
    have hr8 := bk_below HR7.out hb8
    have H8 := Lib.hid h8
    have HR8 := Lib.hid hr8
    have HB7 := Lib.hid (HB5.out.trans (hk7.out.mono HB5.out.size))
    have HB8 := Lib.hid (HB7.out.trans (hb8.mono HB7.out.size))
    unfold repCells at hr8
    have lr8 := hr8.lt
    have y6 := hr8.cell 6
    have z6 := hr8.frozen 6
    clear h8 hr8 hb8
    go_wp2_with fail
    have h9 := H3a.out.below (HB8.out.setCell (p := ⟨R2, 6, none⟩) hR2.out (.int .i64 0))
    have hr9 : Bk (w8.setCell ⟨R2, 6, none⟩ (.int .i64 0)) R2 24 (repCells 1) := by
      have := HR8.out.put 6 (.int .i64 0)
      unfold repCells at this ⊢
      simpa using this
    generalize w8.setCell ⟨R2, 6, none⟩ (.int .i64 0) = w9 at h9 hr9 ⊢
    refine (h9.each _).mono ?_
    rintro e w10 ⟨rfl, hb10⟩
    have h10 := h9.below hb10
    have hr10 := bk_below hr9 hb10
    have H10 := Lib.hid h10
    have hz10 := h10.2.2.1
    have HR := Lib.hid hz10
    unfold repCells at hr10 hz10
    have lr10 := hr10.lt
    have l10 := hz10.lt
    obtain ⟨y0, y1, y2, y3, y4, y5, y6, y7⟩ := hr10.eight
    obtain ⟨x0, x1, x2, x3, x4, x5, x6, x7⟩ := hz10.eight
    have z0 := hz10.frozen 0
    have z1 := hz10.frozen 1
    have z2 := hz10.frozen 2
    have z3 := hz10.frozen 3
    have z4 := hz10.frozen 4
    have z5 := hz10.frozen 5
    have z6 := hz10.frozen 6
    have z7 := hz10.frozen 7
    clear h9 hr9 hb10 h10 hr10 hz10
    go_wp2_with fail
    have hof : Off [w.heap.size] w10 ((((((((w10.setCell ⟨w.heap.size, 0, none⟩ (.int .i64 1)).setCell ⟨w.heap.size, 1, none⟩ (.int .i64 0)).setCell ⟨w.heap.size, 2, none⟩ (.int .i64 0)).setCell ⟨w.heap.size, 3, none⟩ (.int .i64 0)).setCell ⟨w.heap.size, 4, none⟩ (.int .i64 0)).setCell ⟨w.heap.size, 5, none⟩ (.int .i64 0)).setCell ⟨w.heap.size, 6, none⟩ (.int .i64 0)).setCell ⟨w.heap.size, 7, none⟩ (.int .i64 0)) := (((((((((Off.refl [w.heap.size] w10).setCell (.inl (by simp)) _).setCell (.inl (by simp)) _).setCell (.inl (by simp)) _).setCell (.inl (by simp)) _).setCell (.inl (by simp)) _).setCell (.inl (by simp)) _).setCell (.inl (by simp)) _).setCell (.inl (by simp)) _)
    have hbk : Bk ((((((((w10.setCell ⟨w.heap.size, 0, none⟩ (.int .i64 1)).setCell ⟨w.heap.size, 1, none⟩ (.int .i64 0)).setCell ⟨w.heap.size, 2, none⟩ (.int .i64 0)).setCell ⟨w.heap.size, 3, none⟩ (.int .i64 0)).setCell ⟨w.heap.size, 4, none⟩ (.int .i64 0)).setCell ⟨w.heap.size, 5, none⟩ (.int .i64 0)).setCell ⟨w.heap.size, 6, none⟩ (.int .i64 0)).setCell ⟨w.heap.size, 7, none⟩ (.int .i64 0)) w.heap.size 24 (repCells 1) := HR.out.eightSet _ _ _ _ _ _ _ _
    generalize ((((((((w10.setCell ⟨w.heap.size, 0, none⟩ (.int .i64 1)).setCell ⟨w.heap.size, 1, none⟩ (.int .i64 0)).setCell ⟨w.heap.size, 2, none⟩ (.int .i64 0)).setCell ⟨w.heap.size, 3, none⟩ (.int .i64 0)).setCell ⟨w.heap.size, 4, none⟩ (.int .i64 0)).setCell ⟨w.heap.size, 5, none⟩ (.int .i64 0)).setCell ⟨w.heap.size, 6, none⟩ (.int .i64 0)).setCell ⟨w.heap.size, 7, none⟩ (.int .i64 0)) = w11 at hof hbk ⊢
    have hsr : sp ≠ w.heap.size := Bk.ne H10.out.2.1 HR.out (by decide)
    have hdb := H10.out.1.off hof (fun x hx hm => by rw [List.mem_singleton] at hm; have := HOL.out x hx; omega)
    have hsn : SnapAt w11 sp b i ⟨1, 0, 0, 1, 20⟩ false := hof.bk H10.out.2.1 (by simpa using hsr)
    refine leaves_cons (f := 21) (args := #[.pointer (some ⟨sp, 0, none⟩)]) (by simp) (by simp [go_sem]) ?_
    refine (sclose_d hdb (by rw [HPM.out]; exact hsn)).mono ?_
    rintro e u' w12 ⟨rfl, n, rfl, ho12, hd12⟩
    have hr12 : Bk w12 w.heap.size 24 (repCells 1) := ho12.bk hbk (by
      have := HOL.out r (by simp)
      simp
      exact ⟨fun h => hsr h.symm, by omega⟩)
    refine ⟨_, rep_results rfl rfl hr12, rfl, ?_⟩
    exact ((H10.out.2.2.2.then hof (fun x hx => by rw [List.mem_singleton] at hx; exact .inr (by omega))).then ho12 (fun x hx => by
      simp only [List.mem_cons, List.not_mem_nil, or_false] at hx
      rcases hx with rfl | rfl
      · exact .inr HSP.out
      · exact .inl (by simp)))
end Go.Proofs.YtkkgiajjdcpicaaGreatDoor

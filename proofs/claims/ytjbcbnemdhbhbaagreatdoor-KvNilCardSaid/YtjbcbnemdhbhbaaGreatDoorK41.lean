import Derived.Test.YtjbcbnemdhbhbaaGreatDoorK10
namespace Go.Proofs.YtjbcbnemdhbhbaaGreatDoor
open Go.RowKit
open Go.PlainAid
set_option maxRecDepth 100000
set_option linter.unusedVariables false
set_option linter.unusedSimpArgs false
def PgPost (g q : Nat) (S T : List Nat) (D' : DevS) (P' : PgS) (r : Int) (w : World) (e : Ending) (w' : World) : Prop :=
  e = .returned (.int .i64 r) ∧ ∃ S' T', Dev w' g S' D' ∧ Pg w' q T' g P' ∧ (∀ b ∈ T', b ∉ S') ∧ Off (S ++ T) w w' ∧ Fresh w S S' ∧ Fresh w T T'
theorem Off.left {S T : List Nat} {w w' : World} (h : Off S w w') : Off (S ++ T) w w' := h.mono (fun x hx => .inl (List.mem_append.2 (.inl hx)))
theorem apart_fresh {w : World} {S S' T : List Nat} (h : ∀ b ∈ T, b ∉ S) (hf : Fresh w S S') (hT : ∀ b ∈ T, b < w.heap.size) : ∀ b ∈ T, b ∉ S' := fun b hb hs => by
  rcases hf b hs with h1 | h1
  · exact h b hb h1
  · have := hT b hb; omega
theorem seal_end {w w0 w2 w3 : World} {g q : Nat} {S S' T : List Nat} {D' : DevS} {P : PgS} {m : MetaV} (hp : Pg w q T g P) (hap : ∀ b ∈ T, b ∉ S) (hs : P.sealed = none) (hS : ∀ b ∈ S, b < w.heap.size)
    (h02 : Below w.heap.size w w2) (hbk : Bk w2 w.heap.size 40 m.cells) (hd : Dev w3 g S' D') (ho : Off S w2 w3) (hf : Fresh w2 S S') :
    ∃ S' T', Dev (w3.setCell ⟨q, 12, none⟩ (.pointer (some ⟨w.heap.size, 0, none⟩))) g S' D' ∧ Pg (w3.setCell ⟨q, 12, none⟩ (.pointer (some ⟨w.heap.size, 0, none⟩))) q T' g { P with sealed := some m } ∧ (∀ b ∈ T', b ∉ S') ∧
      Off (S ++ T) w (w3.setCell ⟨q, 12, none⟩ (.pointer (some ⟨w.heap.size, 0, none⟩))) ∧ Fresh w S S' ∧ Fresh w T T' := by
  have hT := hp.old
  obtain ⟨sl, lg, h⟩ := hp
  have hf' : Fresh w S S' := fun b hb => (hf b hb).imp_right (Nat.le_trans h02.size)
  have hapS := apart_fresh hap hf' hT
  have hqS : q ∉ S := hap q h.inT.1
  have hnS : w.heap.size ∉ S := fun hx => by have := hS _ hx; omega
  have hnS' : w.heap.size ∉ S' := fun hx => by
    rcases hf _ hx with h1 | h1
    · exact hnS h1
    · have := hbk.lt; omega
  have hO : Off S w w3 := (Off.of_below h02 S).trans ho
  have h3 : PgAt w3 q T g P sl lg := h.off hO hap
  have hO4 : Off [q] w3 (w3.setCell ⟨q, 12, none⟩ (.pointer (some ⟨w.heap.size, 0, none⟩))) := (Off.refl [q] w3).setCell (.inl (by simp)) _
  have hqlt := h.cells.lt
  refine ⟨S', w.heap.size :: T, hd.off hO4 (fun b hb hq => by simp at hq; subst hq; exact hapS _ h.inT.1 hb), ⟨.pointer (some ⟨w.heap.size, 0, none⟩), lg, ?_⟩, ?_, ?_, hf', ?_⟩
  · refine ⟨h3.cells.put 12 _, ⟨w.heap.size, by simp, rfl, hO4.bk (ho.bk hbk hnS) (by simp; omega)⟩, hO4.own h3.log (fun b hb => ?_), ⟨List.mem_cons_of_mem _ h.inT.1, fun b hb => List.mem_cons_of_mem _ (h.inT.2 b hb)⟩, ?_⟩
    · have hne := own_ne h3.log h3.cells (by decide)
      rw [hb] at hne
      simp
      exact fun e => hne (by rw [e])
    · intro b hb
      have hsz : w.heap.size < (w3.setCell ⟨q, 12, none⟩ (.pointer (some ⟨w.heap.size, 0, none⟩))).heap.size := by
        have := hbk.lt
        have := ho.size
        have := hO4.size
        omega
      rcases List.mem_cons.1 hb with rfl | hb
      · exact hsz
      · have := hT b hb; omega
  · intro b hb
    rcases List.mem_cons.1 hb with rfl | hb
    · exact hnS'
    · exact hapS b hb
  · exact (hO.left).then hO4 (fun x hx => .inl (by simp at hx; subst hx; exact List.mem_append.2 (.inr h.inT.1)))
  · intro b hb
    rcases List.mem_cons.1 hb with rfl | hb
    · exact .inr (Nat.le_refl _)
    · exact .inl hb
set_option maxHeartbeats 4000000 in
theorem seal_any {g q : Nat} {S T : List Nat} {D D' : DevS} {P : PgS} {w : World} (hd : Dev w g S D) (hp : Pg w q T g P) (hap : ∀ b ∈ T, b ∉ S) (hr : RowAt w) (hrS : 0 ∉ S) (hsd : P.sealed = none)
    (m : MetaV) (hm : m.ok = true) (hl : m.l = P.m.l) (ht : m.t = P.m.t + 1) (ht0 : 0 ≤ P.m.t) (hb : D.steps ≤ 1000000000) (r : Int) (hw : D.write (m.t % 2) m.bytes = (D', r)) :
    Calls Tryz.prog 53 #[.pointer (some ⟨q, 0, none⟩), .agg m.cells] w (PgPost g q S T D' (if r = 0 then { P with sealed := some m } else P) r w) := by
  have HD := Lib.hid hd
  have HP := Lib.hid hp
  have HAP := Lib.hid hap
  have HR := Lib.hid hr
  have HRS := Lib.hid hrS
  have HSD := Lib.hid hsd
  have HB := Lib.hid hb
  have HSZ : Hid (m.bytes.size ≤ maxLen) := show _ ≤ _ by rw [MetaV.size hm]; decide
  have HW := Lib.hid hw
  have htm : m.t ≤ 1099511627776 := (rightM_yes hm).2.1
  have HPK : Hid (∀ W, RowAt W → Calls Tryz.prog 117 #[.agg m.cells] W (fun e w' => e = .returned (.tuple #[.string m.bytes, .int .i64 0]) ∧ Below W.heap.size W w')) := fun W hW => by
    have h := packM_any m.t m.r m.f m.p m.l W hW
    have he : metaE m.t m.r m.f m.p m.l = 0 := metaE_right hm
    unfold PackMPost at h
    rw [he] at h
    exact h
  have HM : Hid (m = m) := rfl
  obtain ⟨sl, lg, hpa⟩ := hp
  have hsl : sl = .pointer none := by have := hpa.sld; rw [hsd] at this; exact this
  subst hsl
  have HPA := Lib.hid hpa
  have HQC : Hid (∀ W, Off S w W → W.cell? ⟨q, 0, none⟩ = some (ptr g) ∧ W.cell? ⟨q, 1, none⟩ = some (.int .i64 P.m.t) ∧ W.cell? ⟨q, 5, none⟩ = some (.int .i64 P.m.l) ∧ W.cell? ⟨q, 12, none⟩ = some (.pointer none) ∧ W.frozen? ⟨q, 12, none⟩ = false ∧ q < W.heap.size) := fun W hW => by
    have hk := hW.bk HPA.out.cells (HAP.out q HPA.out.inT.1)
    obtain ⟨c0, c1, c2, c3, c4, c5, c6, c7, c8, c9, c10, c11, c12, c13⟩ := hk.fourteen
    exact ⟨c0, c1, c5, c12, hk.frozen 12, hk.lt⟩
  have HBX : Hid (Bk (w.alloc (.cells m.cells 40)) w.heap.size 40 m.cells) := Bk.new _ _ _
  have HB0 : Hid (Below w.heap.size w (w.alloc (.cells m.cells 40))) := (Below.refl _ w).alloc (Nat.le_refl _) _
  have HEND : Hid (∀ w2 w3 S', Below w.heap.size w w2 → Bk w2 w.heap.size 40 m.cells → Dev w3 g S' D' → Off S w2 w3 → Fresh w2 S S' → _) := fun w2 w3 S' a1 a2 a3 a4 a5 => seal_end (w0 := w) HP.out HAP.out HSD.out HD.out.old a1 a2 a3 a4 a5
  have HBC : Hid (∀ W, Bk W w.heap.size 40 m.cells → W.cell? ⟨w.heap.size, 0, none⟩ = some (.int .i64 m.t) ∧ W.cell? ⟨w.heap.size, 1, none⟩ = some (.int .i64 m.r) ∧ W.cell? ⟨w.heap.size, 2, none⟩ = some (.int .i64 m.f) ∧ W.cell? ⟨w.heap.size, 3, none⟩ = some (.int .i64 m.p) ∧ W.cell? ⟨w.heap.size, 4, none⟩ = some (.int .i64 m.l)) := fun W h => h.five
  obtain ⟨mt, mr, mf, mp, ml⟩ := m
  unfold MetaV.cells at *
  simp only at *
  generalize MetaV.bytes ⟨mt, mr, mf, mp, ml⟩ = mb at *
  have q1 : IntKind.i64.wrap (mt - 1) = P.m.t := by rw [show mt - 1 = P.m.t by omega]; exact IntWalk.i64_in _ (by omega)
  have q2 : mt - 1 = P.m.t := by omega
  obtain ⟨par, hpar⟩ : ∃ par, par = mt % 2 := ⟨_, rfl⟩
  have q3 : mt % 2 = par := hpar.symm
  have q4 : mt.tmod 2 = par := by rw [Int.tmod_eq_emod_of_nonneg (by omega)]; exact q3
  have q5 : IntKind.i64.wrap par = par := IntWalk.i64_in _ (by omega)
  rw [q3] at HW
  have hll : ml = P.m.l := hl
  have HWP : Hid (D.write par mb = (D', r)) := HW
  subst hll
  have hpt : IntKind.i64.wrap P.m.t = P.m.t := IntWalk.i64_in _ (by omega)
  clear hd hap hr hrS hsd hm hl ht hb hw hpa HW hpar HM HSD
  by_cases hr0 : r = 0
  · subst hr0
    rw [if_pos rfl]
    go_enter Tryz.func53, Tryz.ntmps53
    obtain ⟨b0, b1, b2, b3, b4⟩ := HBC.out _ HBX.out
    go_wp2_with fail
    (go_at_call 117)
    refine (HPK.out _ (HR.out.below HB0.out)).mono ?_
    rintro e w2 ⟨rfl, hb2⟩
    have HB2 := Lib.hid (HB0.out.trans (hb2.mono HB0.out.size))
    have HX2 := Lib.hid (bk_below HBX.out hb2)
    have HD2 := Lib.hid (HD.out.below HB2.out)
    clear hb2 b0 b1 b2 b3 b4
    obtain ⟨b0, b1, b2, b3, b4⟩ := HBC.out _ HX2.out
    obtain ⟨c0, c1, c5, c12, f12, hql⟩ := HQC.out _ (Off.of_below HB2.out S)
    go_wp2_with fail
    go_quiet (fail)
    go_wp2_with fail
    go_quiet (fail)
    go_wp2_with fail
    have HKS : Hid (∀ W, Off S w2 W → W.cell? ⟨q, 0, none⟩ = some (ptr g) ∧ W.cell? ⟨w.heap.size, 0, none⟩ = some (.int .i64 mt)) := fun W hW => ⟨(HQC.out _ ((Off.of_below HB2.out S).trans hW)).1, (HBC.out _ (hW.bk HX2.out (fun hx => by have := HD.out.old _ hx; omega))).1⟩
    clear c0 c1 c5 c12 f12 b0 b1 b2 b3 b4
    go_region_held3 (fun W => W.cell? ⟨q, 0, none⟩ = some (ptr g) ∧ W.cell? ⟨w.heap.size, 0, none⟩ = some (.int .i64 mt))
      (first | exact HKS.out _ ((Off.refl S w2).drewN _) | exact HKS.out _ ((((Off.refl S w2).drewN _).drewN _).drew) | exact HKS.out _ (by assumption))
      ((go_at_call 118; refine (dwrite_from (HD2.out.drewN _) par mb D' _ HB.out HSZ.out HWP.out).mono ?_; rintro e w3 ⟨rfl, hp3⟩; obtain ⟨S3, hd3, ho3, hf3⟩ := hp3; have hoS := ((Off.refl S w2).drewN _).trans ho3))
    all_goals
      have HS3 := Lib.hid hd3
      have HO3 := Lib.hid hoS
      have HF3 : Hid (Fresh w2 S S3) := fun b hb => hf3 b hb
      obtain ⟨c0, c1, c5, c12, f12, hql⟩ := HQC.out _ ((Off.of_below HB2.out S).trans hoS)
      clear hd3 hoS hf3 ho3 c0 c1 c5
      go_wp2_with fail
      go_ret
      exact ⟨rfl, HEND.out w2 w3 S3 HB2.out HX2.out HS3.out HO3.out HF3.out⟩
  · rw [if_neg hr0]
    have qr : (r != 0) = true := by simpa using hr0
    clear hr0
    go_enter Tryz.func53, Tryz.ntmps53
    obtain ⟨b0, b1, b2, b3, b4⟩ := HBC.out _ HBX.out
    go_wp2_with fail
    (go_at_call 117)
    refine (HPK.out _ (HR.out.below HB0.out)).mono ?_
    rintro e w2 ⟨rfl, hb2⟩
    have HB2 := Lib.hid (HB0.out.trans (hb2.mono HB0.out.size))
    have HX2 := Lib.hid (bk_below HBX.out hb2)
    have HD2 := Lib.hid (HD.out.below HB2.out)
    clear hb2 b0 b1 b2 b3 b4
    obtain ⟨b0, b1, b2, b3, b4⟩ := HBC.out _ HX2.out
    obtain ⟨c0, c1, c5, c12, f12, hql⟩ := HQC.out _ (Off.of_below HB2.out S)
    go_wp2_with fail
    go_quiet (fail)
    go_wp2_with fail
    go_quiet (fail)
    go_wp2_with fail
    have HKS : Hid (∀ W, Off S w2 W → W.cell? ⟨q, 0, none⟩ = some (ptr g) ∧ W.cell? ⟨w.heap.size, 0, none⟩ = some (.int .i64 mt)) := fun W hW => ⟨(HQC.out _ ((Off.of_below HB2.out S).trans hW)).1, (HBC.out _ (hW.bk HX2.out (fun hx => by have := HD.out.old _ hx; omega))).1⟩
    clear c0 c1 c5 c12 f12 b0 b1 b2 b3 b4
    go_region_held3 (fun W => W.cell? ⟨q, 0, none⟩ = some (ptr g) ∧ W.cell? ⟨w.heap.size, 0, none⟩ = some (.int .i64 mt))
      (first | exact HKS.out _ ((Off.refl S w2).drewN _) | exact HKS.out _ ((((Off.refl S w2).drewN _).drewN _).drew) | exact HKS.out _ (by assumption))
      ((go_at_call 118; refine (dwrite_from (HD2.out.drewN _) par mb D' _ HB.out HSZ.out HWP.out).mono ?_; rintro e w3 ⟨rfl, hp3⟩; obtain ⟨S3, hd3, ho3, hf3⟩ := hp3; have hoS := ((Off.refl S w2).drewN _).trans ho3))
    all_goals
      have HS3 := Lib.hid hd3
      have HO3 := Lib.hid hoS
      have HF3 : Hid (Fresh w2 S S3) := fun b hb => hf3 b hb
      clear hd3 hoS hf3 ho3
      go_wp2_with fail
      go_ret
      refine ⟨rfl, S3, T, HS3.out, HP.out.off ((Off.of_below HB2.out S).trans HO3.out) HAP.out, apart_fresh HAP.out (fun b hb => (HF3.out b hb).imp_right (Nat.le_trans HB2.out.size)) HP.out.old, ((Off.of_below HB2.out S).trans HO3.out).left, fun b hb => (HF3.out b hb).imp_right (Nat.le_trans HB2.out.size), Fresh.refl _ _⟩
theorem twelve_cells (c0 c1 c2 c3 c4 c5 c6 c7 c8 c9 c10 c11 c12 c13 nt nr nf np nl vb mt mr mf mp ml vs : Value) :
    ((((((((((((#[c0, c1, c2, c3, c4, c5, c6, c7, c8, c9, c10, c11, c12, c13].setIfInBounds 6 nt).setIfInBounds 7 nr).setIfInBounds 8 nf).setIfInBounds 9 np).setIfInBounds 10 nl).setIfInBounds 11 vb).setIfInBounds 1 mt).setIfInBounds 2 mr).setIfInBounds 3 mf).setIfInBounds 4 mp).setIfInBounds 5 ml).setIfInBounds 12 vs) = #[c0, mt, mr, mf, mp, ml, nt, nr, nf, np, nl, vb, vs, c13] := by simp only [List.setIfInBounds_toArray, List.set_cons_succ, List.set_cons_zero]
theorem twelve_puts {w2 : World} {q : Nat} {t : TypeId} {c0 c1 c2 c3 c4 c5 c6 c7 c8 c9 c10 c11 c12 c13 : Value} (h : Bk w2 q t #[c0, c1, c2, c3, c4, c5, c6, c7, c8, c9, c10, c11, c12, c13]) (nt nr nf np nl vb mt mr mf mp ml vs : Value) :
    Bk ((((((((((((w2.setCell ⟨q, 6, none⟩ nt).setCell ⟨q, 7, none⟩ nr).setCell ⟨q, 8, none⟩ nf).setCell ⟨q, 9, none⟩ np).setCell ⟨q, 10, none⟩ nl).setCell ⟨q, 11, none⟩ vb).setCell ⟨q, 1, none⟩ mt).setCell ⟨q, 2, none⟩ mr).setCell ⟨q, 3, none⟩ mf).setCell ⟨q, 4, none⟩ mp).setCell ⟨q, 5, none⟩ ml).setCell ⟨q, 12, none⟩ vs) q t #[c0, mt, mr, mf, mp, ml, nt, nr, nf, np, nl, vb, vs, c13] := by
  have h1 := ((((((((((((h.put 6 nt).put 7 nr).put 8 nf).put 9 np).put 10 nl).put 11 vb).put 1 mt).put 2 mr).put 3 mf).put 4 mp).put 5 ml).put 12 vs)
  rw [twelve_cells] at h1
  exact h1
theorem twelve_off (w2 : World) (q : Nat) (nt nr nf np nl vb mt mr mf mp ml vs : Value) : Off [q] w2 ((((((((((((w2.setCell ⟨q, 6, none⟩ nt).setCell ⟨q, 7, none⟩ nr).setCell ⟨q, 8, none⟩ nf).setCell ⟨q, 9, none⟩ np).setCell ⟨q, 10, none⟩ nl).setCell ⟨q, 11, none⟩ vb).setCell ⟨q, 1, none⟩ mt).setCell ⟨q, 2, none⟩ mr).setCell ⟨q, 3, none⟩ mf).setCell ⟨q, 4, none⟩ mp).setCell ⟨q, 5, none⟩ ml).setCell ⟨q, 12, none⟩ vs) :=
  (((((((((((((Off.refl [q] w2).setCell (p := ⟨q, 6, none⟩) (.inl List.mem_cons_self) nt).setCell (p := ⟨q, 7, none⟩) (.inl List.mem_cons_self) nr).setCell (p := ⟨q, 8, none⟩) (.inl List.mem_cons_self) nf).setCell (p := ⟨q, 9, none⟩) (.inl List.mem_cons_self) np).setCell (p := ⟨q, 10, none⟩) (.inl List.mem_cons_self) nl).setCell (p := ⟨q, 11, none⟩) (.inl List.mem_cons_self) vb).setCell (p := ⟨q, 1, none⟩) (.inl List.mem_cons_self) mt).setCell (p := ⟨q, 2, none⟩) (.inl List.mem_cons_self) mr).setCell (p := ⟨q, 3, none⟩) (.inl List.mem_cons_self) mf).setCell (p := ⟨q, 4, none⟩) (.inl List.mem_cons_self) mp).setCell (p := ⟨q, 5, none⟩) (.inl List.mem_cons_self) ml).setCell (p := ⟨q, 12, none⟩) (.inl List.mem_cons_self) vs)
set_option maxHeartbeats 8000000 in
theorem done_any {g q : Nat} {S T : List Nat} {D D' : DevS} {P : PgS} {w : World} (hd : Dev w g S D) (hp : Pg w q T g P) (hap : ∀ b ∈ T, b ∉ S) (m : MetaV) (hsd : P.sealed = some m) (hb : D.steps ≤ 1000000000) (r : Int) (hw : D.sync = (D', r)) :
    Calls Tryz.prog 119 #[.pointer (some ⟨q, 0, none⟩)] w (PgPost g q S T D' (if r = 0 then ⟨m, P.m, true, none, P.log⟩ else P) r w) := by
  have HD := Lib.hid hd
  have HP := Lib.hid hp
  have HAP := Lib.hid hap
  have HB := Lib.hid hb
  have HW := Lib.hid hw
  obtain ⟨sl, lg, hpa⟩ := hp
  have hsl := hpa.sld
  rw [hsd] at hsl
  obtain ⟨b, hbT, hsl, hbk⟩ := hsl
  subst hsl
  have HPA := Lib.hid hpa
  have HBK := Lib.hid hbk
  have hbq : b ≠ q := Bk.ne hbk hpa.cells (by decide)
  have HBT := Lib.hid hbT
  have HQC : Hid (∀ W, Off S w W → Bk W q 188 (pgCells g P.m P.o P.both (.pointer (some ⟨b, 0, none⟩)) lg) ∧ Bk W b 40 m.cells) := fun W hW => ⟨hW.bk HPA.out.cells (HAP.out q HPA.out.inT.1), hW.bk HBK.out (HAP.out b HBT.out)⟩
  obtain ⟨P1, P2, P3, P4, P5⟩ := P
  obtain ⟨mt, mr, mf, mp, ml⟩ := m
  obtain ⟨nt, nr, nf, np, nl⟩ := P1
  obtain ⟨ot, or, of, op, ol⟩ := P2
  simp only at *
  obtain ⟨c0, c1, c2, c3, c4, c5, c6, c7, c8, c9, c10, c11, c12, c13⟩ := (HQC.out _ (Off.refl S w)).1.fourteen
  clear hd hap hsd hb hw hpa hbk hbT
  by_cases hr0 : r = 0
  · subst hr0
    rw [if_pos rfl]
    go_enter Tryz.func119, Tryz.ntmps119
    go_wp2_with fail
    (go_at_call 116)
    refine (dsync_from HD.out D' 0 HB.out HW.out).mono ?_
    rintro e w2 ⟨rfl, hp2⟩
    obtain ⟨S2, hd2, ho2, hf2⟩ := hp2
    have HS2 := Lib.hid hd2
    have HO2 := Lib.hid ho2
    have HF2 := Lib.hid hf2
    clear hd2 ho2 hf2 c0 c1 c2 c3 c4 c5 c6 c7 c8 c9 c10 c11 c12 c13
    have HQ2 := Lib.hid (HQC.out _ HO2.out).1
    have HB2 := Lib.hid (HQC.out _ HO2.out).2
    obtain ⟨c0, c1, c2, c3, c4, c5, c6, c7, c8, c9, c10, c11, c12, c13⟩ := HQ2.out.fourteen
    obtain ⟨d0, d1, d2, d3, d4⟩ := HB2.out.five
    have f1 := HQ2.out.frozen 1
    have f2 := HQ2.out.frozen 2
    have f3 := HQ2.out.frozen 3
    have f4 := HQ2.out.frozen 4
    have f5 := HQ2.out.frozen 5
    have f6 := HQ2.out.frozen 6
    have f7 := HQ2.out.frozen 7
    have f8 := HQ2.out.frozen 8
    have f9 := HQ2.out.frozen 9
    have f10 := HQ2.out.frozen 10
    have f11 := HQ2.out.frozen 11
    have f12 := HQ2.out.frozen 12
    go_wp2_with fail
    go_ret
    have hfin := twelve_puts HQ2.out (.int .i64 nt) (.int .i64 nr) (.int .i64 nf) (.int .i64 np) (.int .i64 nl) (.bool true) (.int .i64 mt) (.int .i64 mr) (.int .i64 mf) (.int .i64 mp) (.int .i64 ml) (.pointer none)
    have hof := twelve_off w2 q (.int .i64 nt) (.int .i64 nr) (.int .i64 nf) (.int .i64 np) (.int .i64 nl) (.bool true) (.int .i64 mt) (.int .i64 mr) (.int .i64 mf) (.int .i64 mp) (.int .i64 ml) (.pointer none)
    have hT := HP.out.old
    have hapS := apart_fresh HAP.out HF2.out hT
    have hqT := HPA.out.inT.1
    refine ⟨rfl, S2, T, HS2.out.off hof (fun x hx hq => by simp at hq; subst hq; exact hapS _ hqT hx), ⟨.pointer none, lg, hfin, rfl, hof.own (HO2.out.own HPA.out.log (fun x hx => HAP.out _ (HPA.out.inT.2 x hx))) (fun x hx => ?_), HPA.out.inT, fun x hx => ?_⟩, hapS, ?_, HF2.out, Fresh.refl _ _⟩
    · have hne := own_ne HPA.out.log HPA.out.cells (by decide)
      rw [hx] at hne
      simp
      exact fun e => hne (by rw [e])
    · have h1 := hT x hx
      have h2 := HO2.out.size
      have h3 := hof.size
      omega
    · exact HO2.out.left.then hof (fun x hx => .inl (by simp at hx; subst hx; exact List.mem_append.2 (.inr hqT)))
  · rw [if_neg hr0]
    have qr : (r != 0) = true := by simpa using hr0
    clear hr0
    go_enter Tryz.func119, Tryz.ntmps119
    go_wp2_with fail
    (go_at_call 116)
    refine (dsync_from HD.out D' r HB.out HW.out).mono ?_
    rintro e w2 ⟨rfl, hp2⟩
    obtain ⟨S2, hd2, ho2, hf2⟩ := hp2
    have HS2 := Lib.hid hd2
    have HO2 := Lib.hid ho2
    have HF2 := Lib.hid hf2
    clear hd2 ho2 hf2
    go_wp2_with fail
    go_ret
    exact ⟨rfl, S2, T, HS2.out, HP.out.off HO2.out HAP.out, apart_fresh HAP.out HF2.out HP.out.old, HO2.out.left, HF2.out, Fresh.refl _ _⟩
end Go.Proofs.YtjbcbnemdhbhbaaGreatDoor

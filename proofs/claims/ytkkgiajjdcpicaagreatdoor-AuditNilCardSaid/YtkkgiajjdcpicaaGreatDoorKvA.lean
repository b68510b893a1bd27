/- A file in which nothing was written yet: Meta, Free, Snap, may, Close. -/
import Derived.Test.YtkkgiajjdcpicaaGreatDoorPagerMake
import Derived.Test.YtkkgiajjdcpicaaGreatDoorReaders
import Derived.Deep.RegionHeld3
import Derived.WalkSpells
namespace Go.Proofs.YtkkgiajjdcpicaaGreatDoor
open Go.RowKit
set_option maxRecDepth 100000
set_option linter.unusedVariables false
set_option linter.unusedSimpArgs false
/-- An empty file in memory: its pager q (device g), its readers r, its free pages f. -/
structure Db (w : World) (b q r f g : Nat) (P : PgS) (s : St) : Prop where
  top : Bk w b 87 #[.pointer (some ⟨q, 0, none⟩), .pointer (some ⟨r, 0, none⟩), .pointer (some ⟨f, 0, none⟩), .slice none 0 0, .pointer none]
  pg : Pg w q [q] g P
  rd : Bk w r 148 s.cells
  fr : ∃ fcs, Bk w f 153 fcs ∧ fcs[0]? = some (.slice none 0 0)
theorem Db.off {w w' : World} {b q r f g : Nat} {P : PgS} {s : St} {U : List Nat} (h : Db w b q r f g P s) (ho : Off U w w') (hU : ∀ x ∈ [b, q, r, f], x ∉ U) : Db w' b q r f g P s := by
  obtain ⟨fcs, h1, h2⟩ := h.fr
  exact ⟨ho.bk h.top (hU b (by simp)), h.pg.off ho (fun x hx => by rw [List.mem_singleton] at hx; subst hx; exact hU x (by simp)), ho.bk h.rd (hU r (by simp)), fcs, ho.bk h1 (hU f (by simp)), h2⟩
theorem Db.below {w w' : World} {b q r f g : Nat} {P : PgS} {s : St} (h : Db w b q r f g P s) (hb : Below w.heap.size w w') : Db w' b q r f g P s := h.off (Off.of_below hb []) (by simp)
theorem Db.pgCell {w : World} {b q r f g : Nat} {P : PgS} {s : St} (h : Db w b q r f g P s) : ∃ cs, Bk w q 175 cs := by
  obtain ⟨sl, lg, hp⟩ := h.pg
  exact ⟨_, hp.cells⟩
theorem Db.ner {w : World} {b q r f g : Nat} {P : PgS} {s : St} (h : Db w b q r f g P s) : b ≠ r ∧ q ≠ r ∧ f ≠ r := by
  obtain ⟨cs, hp⟩ := h.pgCell
  obtain ⟨fcs, h1, -⟩ := h.fr
  exact ⟨h.top.ne h.rd (by decide), hp.ne h.rd (by decide), h1.ne h.rd (by decide)⟩
/-- Its readers are others. -/
theorem Db.readers {w w' : World} {b q r f g : Nat} {P : PgS} {s s' : St} (h : Db w b q r f g P s) (ho : Off [r] w w') (hr : Bk w' r 148 s'.cells) : Db w' b q r f g P s' := by
  obtain ⟨n1, n2, n3⟩ := h.ner
  obtain ⟨fcs, h1, h2⟩ := h.fr
  exact ⟨ho.bk h.top (by simpa using n1), h.pg.off ho (fun x hx => by rw [List.mem_singleton] at hx; subst hx; simpa using n2), hr, fcs, ho.bk h1 (by simpa using n3), h2⟩
theorem mfld0 (t r f p l : Int) (W : World) : Sem.run Tryz.prog (Instr.field 56 (.agg #[.int .i64 t, .int .i64 r, .int .i64 f, .int .i64 p, .int .i64 l]) 0) W = .ok (.int .i64 t) W := by
  have h := Tryz.underlying56
  simp [Instr.field, run_underlying h, part, asAgg, go_sem]
theorem mfld2 (t r f p l : Int) (W : World) : Sem.run Tryz.prog (Instr.field 56 (.agg #[.int .i64 t, .int .i64 r, .int .i64 f, .int .i64 p, .int .i64 l]) 2) W = .ok (.int .i64 f) W := by
  have h := Tryz.underlying56
  simp [Instr.field, run_underlying h, part, asAgg, go_sem]
theorem Bk.setFive {w : World} {q : Nat} {t : TypeId} {v0 v1 v2 v3 v4 : Value} (h : Bk w q t #[v0, v1, v2, v3, v4]) (a0 a1 a2 a3 a4 : Value) :
    (w.setCell ⟨q, 0, none⟩ a0).cell? ⟨q, 0, none⟩ = some a0 ∧ ((w.setCell ⟨q, 0, none⟩ a0).setCell ⟨q, 1, none⟩ a1).cell? ⟨q, 1, none⟩ = some a1 ∧ (((w.setCell ⟨q, 0, none⟩ a0).setCell ⟨q, 1, none⟩ a1).setCell ⟨q, 2, none⟩ a2).cell? ⟨q, 2, none⟩ = some a2 ∧
    ((((w.setCell ⟨q, 0, none⟩ a0).setCell ⟨q, 1, none⟩ a1).setCell ⟨q, 2, none⟩ a2).setCell ⟨q, 3, none⟩ a3).cell? ⟨q, 3, none⟩ = some a3 ∧ (((((w.setCell ⟨q, 0, none⟩ a0).setCell ⟨q, 1, none⟩ a1).setCell ⟨q, 2, none⟩ a2).setCell ⟨q, 3, none⟩ a3).setCell ⟨q, 4, none⟩ a4).cell? ⟨q, 4, none⟩ = some a4 := by
  have h0 := h.put 0 a0
  have h1 := h0.put 1 a1
  have h2 := h1.put 2 a2
  have h3 := h2.put 3 a3
  have h4 := h3.put 4 a4
  exact ⟨h0.cell 0, h1.cell 1, h2.cell 2, h3.cell 3, h4.cell 4⟩
set_option maxHeartbeats 8000000 in
theorem dbmeta_any {w : World} {b q r f g : Nat} {P : PgS} {s : St} (h : Db w b q r f g P s) : Calls Tryz.prog 18 #[.pointer (some ⟨b, 0, none⟩)] w (SaysM P.m w) := by
  have c0 := h.top.cell 0
  have lb := h.top.lt
  have HP := Lib.hid (pmeta_any (h.pg.below ((Below.refl _ w).alloc (Nat.le_refl _) (.cells #[.int .i64 0, .int .i64 0, .int .i64 0, .int .i64 0, .int .i64 0] 56))))
  clear h
  go_enter Tryz.func18, Tryz.ntmps18
  go_wp2_with fail
  refine HP.out.mono ?_
  rintro e w1 ⟨rfl, hb1⟩
  have hz := bk_below (Bk.new w 56 #[.int .i64 0, .int .i64 0, .int .i64 0, .int .i64 0, .int .i64 0]) hb1
  have HZ := Lib.hid hz
  have HB := Lib.hid (((Below.refl _ w).alloc (Nat.le_refl _) (.cells #[.int .i64 0, .int .i64 0, .int .i64 0, .int .i64 0, .int .i64 0] 56)).trans (hb1.mono (by simp)))
  have lz := hz.lt
  obtain ⟨x0, x1, x2, x3, x4⟩ := hz.five
  have y0 := hz.frozen 0
  have y1 := hz.frozen 1
  have y2 := hz.frozen 2
  have y3 := hz.frozen 3
  have y4 := hz.frozen 4
  clear hz hb1
  go_wp2_with fail
  obtain ⟨s0, s1, s2, s3, s4⟩ := HZ.out.setFive (.int .i64 P.m.t) (.int .i64 P.m.r) (.int .i64 P.m.f) (.int .i64 P.m.p) (.int .i64 P.m.l)
  refine bodyPost_ret (v := .agg #[.int .i64 P.m.t, .int .i64 P.m.r, .int .i64 P.m.f, .int .i64 P.m.p, .int .i64 P.m.l]) (by simp [results, Tryz.results18, go_sem, lz, s0, s1, s2, s3, s4]) rfl ⟨rfl, ?_⟩
  exact ((Off.of_below HB.out []).then ((((((Off.refl [w.heap.size] w1).setCell (.inl (by simp)) _).setCell (.inl (by simp)) _).setCell (.inl (by simp)) _).setCell (.inl (by simp)) _).setCell (.inl (by simp)) _) (fun x hx => by rw [List.mem_singleton] at hx; subst hx; exact .inr (Nat.le_refl _))).below (Nat.le_refl _) (by simp)
theorem eql_none (W : World) : (binOp .eql 62 (.slice none 0 0) (.slice none 0 0)).run Tryz.prog W = .ok (.bool true) W := by
  exact run_eql_nil_slice W 62 127 none 0 0 0 0 Tryz.underlying62
set_option maxHeartbeats 4000000 in
theorem clone_none (w : World) : Calls Tryz.prog 86 #[.slice none 0 0] w (fun e w' => e = .returned (.slice none 0 0) ∧ Below w.heap.size w w') := by
  have heq : ∀ W : World, (binOp .eql 62 (.slice none 0 0) (.slice none 0 0)).run Tryz.prog W = .ok (.bool true) W := fun W => eql_none W
  go_enter Tryz.func86, Tryz.ntmps86
  go_wp2_with fail
  go_ret
  exact ⟨rfl, Below.refl _ _⟩
set_option maxHeartbeats 4000000 in
theorem dbfree_any {w : World} {b q r f g : Nat} {P : PgS} {s : St} (h : Db w b q r f g P s) : Calls Tryz.prog 24 #[.pointer (some ⟨b, 0, none⟩)] w (fun e w' => e = .returned (.slice none 0 0) ∧ Below w.heap.size w w') := by
  have c2 := h.top.cell 2
  have lb := h.top.lt
  obtain ⟨fcs, h1, h2⟩ := h.fr
  have f0 := (h1.cell 0).trans h2
  have lf := h1.lt
  have HC := Lib.hid fun (W : World) => clone_none W
  have HA : Hid (Calls Tryz.prog 58 #[.pointer (some ⟨f, 0, none⟩)] w (fun e w' => e = .returned (.slice none 0 0) ∧ Below w.heap.size w w')) := by
    show Calls _ _ _ _ _
    clear h h1 h2 c2 lb
    go_enter Tryz.func58, Tryz.ntmps58
    go_wp2_with fail
    refine (HC.out _).mono ?_
    rintro e w1 ⟨rfl, hb⟩
    have HB := Lib.hid hb
    clear hb
    go_wp2_with fail
    go_ret
    exact ⟨rfl, HB.out⟩
  clear h h1 h2 f0 lf
  go_enter Tryz.func24, Tryz.ntmps24
  go_wp2_with fail
  refine HA.out.mono ?_
  rintro e w1 ⟨rfl, hb⟩
  have HB := Lib.hid hb
  clear hb
  go_wp2_with fail
  go_ret
  exact ⟨rfl, HB.out⟩
/-- A reader in memory. -/
def SnapAt (w : World) (s b : Nat) (i : Int) (m : MetaV) (over : Bool) : Prop := Bk w s 90 #[.pointer (some ⟨b, 0, none⟩), .int .i64 i, .int .i64 m.t, .int .i64 m.r, .int .i64 m.f, .int .i64 m.p, .int .i64 m.l, .slice none 0 0, .bool over]
theorem smay_ok {w : World} {sp b : Nat} {i : Int} {m : MetaV} (h : SnapAt w sp b i m false) : Calls Tryz.prog 54 #[.pointer (some ⟨sp, 0, none⟩)] w (fun e w' => e = .returned (.int .i64 0) ∧ w = w') := by
  have c8 := Bk.cell h 8
  have ls := Bk.lt h
  clear h
  go_enter Tryz.func54, Tryz.ntmps54
  go_wp2_with fail
  go_ret
  exact ⟨rfl, rfl⟩
theorem smay_nil (w : World) : Calls Tryz.prog 54 #[.pointer none] w (fun e w' => e = .returned (.int .i64 2) ∧ w = w') := by
  go_enter Tryz.func54, Tryz.ntmps54
  go_wp2_with fail
  go_ret
  exact ⟨rfl, rfl⟩
set_option maxHeartbeats 8000000 in
theorem snap_full {w : World} {b q r f g : Nat} {P : PgS} {s : St} (h : Db w b q r f g P s) (hE : s.enter P.m.t = (s, 0, 9)) : Calls Tryz.prog 12 #[.pointer (some ⟨b, 0, none⟩)] w (fun e w' => e = .returned (.tuple #[.pointer none, .int .i64 9]) ∧ Off [r] w w' ∧ Db w' b q r f g P s) := by
  have lb := h.top.lt
  have hf0 := mfld0
  have HD := Lib.hid h
  have HM := Lib.hid (dbmeta_any (h.below (Below.refl _ w).drew))
  have HEN := Lib.hid fun (W : World) (hW : Below w.heap.size w W) => (show Calls Tryz.prog 40 #[.pointer (some ⟨r, 0, none⟩), .int .i64 P.m.t] W (EnterPost 0 9 r s.cells W) from by have := enter_any r P.m.t s W (bk_below h.rd hW); rw [hE] at this; exact this)
  have HKS := Lib.hid (show ∀ W, Off [r] w W → W.cell? ⟨b, 1, none⟩ = some (.pointer (some ⟨r, 0, none⟩)) from fun W hW => (hW.bk h.top (by have := h.ner.1; simpa using this)).cell 1)
  clear h hE
  go_enter Tryz.func12, Tryz.ntmps12
  go_wp2_with fail
  go_region_held3 (fun W => W.cell? ⟨b, 1, none⟩ = some (.pointer (some ⟨r, 0, none⟩))) (first | exact HKS.out _ (Off.refl _ _).drew | exact HKS.out _ hk1.out | exact HKS.out _ hk2.out) (first
    | (go_at_call 18; refine HM.out.mono ?_; rintro e w1 ⟨rfl, hb1⟩; have HB1 := Lib.hid (show Below w.heap.size w w1 from (Below.refl _ w).drew.trans hb1); have hk1 := Lib.hid (Off.of_below HB1.out [r]); clear hb1)
    | (go_at_call 40; refine (HEN.out _ HB1.out).mono ?_; rintro e w2 ⟨rfl, hr2, ho2⟩; have HR2 := Lib.hid hr2; have hk2 := Lib.hid (hk1.out.trans ho2); clear hr2 ho2))
  all_goals
    go_wp2_with fail
    go_ret2
    exact ⟨rfl, hk2.out, HD.out.readers hk2.out HR2.out⟩
set_option maxHeartbeats 8000000 in
theorem snap_ok {w : World} {b q r f g : Nat} {P : PgS} {s s' : St} {i : Int} (h : Db w b q r f g P s) (hE : s.enter P.m.t = (s', i, 0)) : Calls Tryz.prog 12 #[.pointer (some ⟨b, 0, none⟩)] w (fun e w' => ∃ sp, e = .returned (.tuple #[.pointer (some ⟨sp, 0, none⟩), .int .i64 0]) ∧ Off [r] w w' ∧ Db w' b q r f g P s' ∧ SnapAt w' sp b i P.m false ∧ w.heap.size ≤ sp) := by
  have lb := h.top.lt
  have hf0 := mfld0
  have HD := Lib.hid h
  have HM := Lib.hid (dbmeta_any (h.below (Below.refl _ w).drew))
  have HEN := Lib.hid fun (W : World) (hW : Below w.heap.size w W) => (show Calls Tryz.prog 40 #[.pointer (some ⟨r, 0, none⟩), .int .i64 P.m.t] W (EnterPost i 0 r s'.cells W) from by have := enter_any r P.m.t s W (bk_below h.rd hW); rw [hE] at this; exact this)
  have HKS := Lib.hid (show ∀ W, Off [r] w W → W.cell? ⟨b, 1, none⟩ = some (.pointer (some ⟨r, 0, none⟩)) from fun W hW => (hW.bk h.top (by have := h.ner.1; simpa using this)).cell 1)
  clear h hE
  go_enter Tryz.func12, Tryz.ntmps12
  go_wp2_with fail
  go_region_held3 (fun W => W.cell? ⟨b, 1, none⟩ = some (.pointer (some ⟨r, 0, none⟩))) (first | exact HKS.out _ (Off.refl _ _).drew | exact HKS.out _ hk1.out | exact HKS.out _ hk2.out) (first
    | (go_at_call 18; refine HM.out.mono ?_; rintro e w1 ⟨rfl, hb1⟩; have HB1 := Lib.hid (show Below w.heap.size w w1 from (Below.refl _ w).drew.trans hb1); have hk1 := Lib.hid (Off.of_below HB1.out [r]); clear hb1)
    | (go_at_call 40; refine (HEN.out _ HB1.out).mono ?_; rintro e w2 ⟨rfl, hr2, ho2⟩; have HR2 := Lib.hid hr2; have hk2 := Lib.hid (hk1.out.trans ho2); clear hr2 ho2))
  all_goals
    have hd2 := HD.out.readers hk2.out HR2.out
    have HM2 := Lib.hid (dbmeta_any (hd2.below (Below.refl _ w2).drew))
    have HD2 := Lib.hid hd2
    have lb2 := hd2.top.lt
    have HKT := Lib.hid (show ∀ W, Below w2.heap.size w2 W → W.cell? ⟨b, 3, none⟩ = some (.slice none 0 0) from fun W hW => (bk_below HD2.out.top hW).cell 3)
    clear hd2
    go_wp2_with fail
    go_region_held3 (fun W => W.cell? ⟨b, 3, none⟩ = some (.slice none 0 0)) (first | exact HKT.out _ (Below.refl _ _).drew | exact HKT.out _ hk3.out | exact HKT.out _ (hk3.out.alloc hk3.out.size _)) (first
      | (go_at_call 18; refine HM2.out.mono ?_; rintro e w3 ⟨rfl, hb3⟩; have hk3 := Lib.hid (show Below w2.heap.size w2 w3 from (Below.refl _ w2).drew.trans hb3); clear hb3))
    all_goals
      go_wp2_with fail
      go_ret2
      exact ⟨w3.heap.size, rfl, (hk2.out.trans (Off.of_below hk3.out [r])).alloc _, (HD2.out.below hk3.out).off ((Off.refl [] _).alloc _) (by simp), Bk.new w3 _ _, Nat.le_trans hk2.out.size hk3.out.size⟩
end Go.Proofs.YtkkgiajjdcpicaaGreatDoor

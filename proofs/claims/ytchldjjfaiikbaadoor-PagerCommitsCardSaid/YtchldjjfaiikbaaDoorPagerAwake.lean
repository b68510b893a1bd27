/- The example of the pager's law: begin, awake. -/
import Derived.Test.YtchldjjfaiikbaaDoorPlainFormat
namespace Go.Proofs.YtchldjjfaiikbaaDoor
open Go.RowKit
open Go.PlainAid
set_option maxRecDepth 100000
set_option linter.unusedVariables false
set_option linter.unusedSimpArgs false

def SaysM (m : MetaV) (w : World) (e : Ending) (w' : World) : Prop := e = .returned (.agg #[.int .i64 m.t, .int .i64 m.r, .int .i64 m.f, .int .i64 m.p, .int .i64 m.l]) ∧ Below w.heap.size w w'
theorem pmeta_any {w : World} {q : Nat} {T : List Nat} {g : Nat} {P : PgS} (h : Pg w q T g P) :
    Calls Tryd.prog 11 #[.pointer (some ⟨q, 0, none⟩)] w (SaysM P.m w) := by
  obtain ⟨sl, lg, h⟩ := h
  obtain ⟨c0, c1, c2, c3, c4, c5, c6, c7, c8, c9, c10, c11, c12, c13⟩ := h.cells.fourteen
  have hlt := h.cells.lt
  clear h
  go_enter Tryd.func11, Tryd.ntmps11
  go_wp2_with fail
  exact bodyPost_ret (v := .agg #[.int .i64 P.m.t, .int .i64 P.m.r, .int .i64 P.m.f, .int .i64 P.m.p, .int .i64 P.m.l]) (by simp [results, Tryd.results11, go_sem]) rfl ⟨rfl, (Below.refl _ w).alloc (Nat.le_refl _) _⟩
theorem pmeta_nil (w : World) : Calls Tryd.prog 11 #[.pointer none] w (SaysM MetaV.zero w) := by
  go_enter Tryd.func11, Tryd.ntmps11
  go_wp2_with fail
  exact bodyPost_ret (v := .agg #[.int .i64 0, .int .i64 0, .int .i64 0, .int .i64 0, .int .i64 0]) (by simp [results, Tryd.results11, go_sem]) rfl ⟨rfl, (Below.refl _ w).alloc (Nat.le_refl _) _⟩
def SaysO (m : MetaV) (b : Bool) (w : World) (e : Ending) (w' : World) : Prop := e = .returned (.tuple #[.agg #[.int .i64 m.t, .int .i64 m.r, .int .i64 m.f, .int .i64 m.p, .int .i64 m.l], .bool b]) ∧ Below w.heap.size w w'
theorem pother_nil (w : World) : Calls Tryd.prog 16 #[.pointer none] w (SaysO MetaV.zero false w) := by
  go_enter Tryd.func16, Tryd.ntmps16
  go_wp2_with fail
  exact bodyPost_ret (v := .tuple #[.agg #[.int .i64 0, .int .i64 0, .int .i64 0, .int .i64 0, .int .i64 0], .bool false]) (by simp [results, Tryd.results16, go_sem]) rfl ⟨rfl, (Below.refl _ w).alloc (Nat.le_refl _) _⟩
set_option maxHeartbeats 4000000 in
theorem pother_any {w : World} {q : Nat} {T : List Nat} {g : Nat} {P : PgS} (h : Pg w q T g P) :
    Calls Tryd.prog 16 #[.pointer (some ⟨q, 0, none⟩)] w (SaysO P.o P.both w) := by
  obtain ⟨sl, lg, h⟩ := h
  have hlt := h.cells.lt
  have HC : Hid (∀ o : Obj, (w.alloc o).cell? ⟨q, 6, none⟩ = some (.int .i64 P.o.t) ∧ (w.alloc o).cell? ⟨q, 7, none⟩ = some (.int .i64 P.o.r) ∧ (w.alloc o).cell? ⟨q, 8, none⟩ = some (.int .i64 P.o.f) ∧ (w.alloc o).cell? ⟨q, 9, none⟩ = some (.int .i64 P.o.p) ∧ (w.alloc o).cell? ⟨q, 10, none⟩ = some (.int .i64 P.o.l) ∧ (w.alloc o).cell? ⟨q, 11, none⟩ = some (.bool P.both)) := fun o => by
    obtain ⟨c0, c1, c2, c3, c4, c5, c6, c7, c8, c9, c10, c11, c12, c13⟩ := (h.cells.alloc o).fourteen
    exact ⟨c6, c7, c8, c9, c10, c11⟩
  obtain ⟨c0, c1, c2, c3, c4, c5, c6, c7, c8, c9, c10, c11, c12, c13⟩ := h.cells.fourteen
  clear h
  go_enter Tryd.func16, Tryd.ntmps16
  go_wp2_with fail
  go_region_held3 (fun W => W.cell? ⟨q, 6, none⟩ = some (.int .i64 P.o.t) ∧ W.cell? ⟨q, 7, none⟩ = some (.int .i64 P.o.r) ∧ W.cell? ⟨q, 8, none⟩ = some (.int .i64 P.o.f) ∧ W.cell? ⟨q, 9, none⟩ = some (.int .i64 P.o.p) ∧ W.cell? ⟨q, 10, none⟩ = some (.int .i64 P.o.l) ∧ W.cell? ⟨q, 11, none⟩ = some (.bool P.both))
    (first | exact HC.out _ | go_keep) (fail)
  all_goals
    go_wp2_with fail
    exact bodyPost_ret (v := .tuple #[.agg #[.int .i64 P.o.t, .int .i64 P.o.r, .int .i64 P.o.f, .int .i64 P.o.p, .int .i64 P.o.l], .bool P.both]) (by simp [results, Tryd.results16, go_sem]) rfl ⟨rfl, ((Below.refl _ w).alloc (Nat.le_refl _) _).drew⟩

theorem format_to {g : Nat} {S : List Nat} {D D' : DevS} {w : World} (hd : Dev w g S D) (limit : Int) (hr : RowAt w) (hS : 0 ∉ S) (hb : D.steps ≤ 999999990) (h : 4 ≤ limit ∧ limit ≤ 512 ∧ 4 * limit ≤ (D.sec.length : Int)) (r : Int) (hf : formatD D limit = (D', r)) :
    Calls Tryd.prog 9 #[ptr g, .int .i64 limit] w (DevPost g S D' (.int .i64 r) w) := by
  have h1 := format_ok hd limit hr hS hb h
  rw [hf] at h1
  exact h1
/-- What Open leaves where the two metas say a file. -/
def OpensPost (g : Nat) (P : PgS) (w : World) (e : Ending) (w' : World) : Prop :=
  ∃ q, w.heap.size ≤ q ∧ e = .returned (.tuple #[.pointer (some ⟨q, 0, none⟩), .int .i64 0]) ∧ Pg w' q [q] g P ∧ Below w.heap.size w w'
theorem open_to {g : Nat} {S : List Nat} {D : DevS} {P : PgS} {w : World} (hd : Dev w g S D) (hr : RowAt w) (hb : D.steps ≤ 1000000000) (h0 : openR D = 0) (hP : openP D = P) :
    Calls Tryd.prog 10 #[ptr g] w (OpensPost g P w) := by
  refine (open_any hd hr hb).mono ?_
  rintro e w' ⟨hb, ⟨h1, _⟩ | ⟨_, q, h2, h3, h4⟩⟩
  · exact absurd h0 h1
  · exact ⟨q, h2, h3, by rw [← hP]; exact h4, hb⟩
theorem open_not {g : Nat} {S : List Nat} {D : DevS} {w : World} (hd : Dev w g S D) (hr : RowAt w) (hb : D.steps ≤ 1000000000) (r : Int) (h0 : openR D = r) (hr0 : r ≠ 0) :
    Calls Tryd.prog 10 #[ptr g] w (fun e w' => e = .returned (.tuple #[.pointer none, .int .i64 r]) ∧ Below w.heap.size w w') := by
  refine (open_any hd hr hb).mono ?_
  rintro e w' ⟨hb, ⟨_, h2⟩ | ⟨h2, _⟩⟩
  · exact ⟨by rw [h2, h0], hb⟩
  · exact absurd (h0.symm.trans h2) hr0

/-- A device and its file, made by a call. -/
structure Made (w w' : World) (g q : Nat) (S T : List Nat) (D : DevS) (P : PgS) : Prop where
  dev : Dev w' g S D
  pg : Pg w' q T g P
  bel : Below w.heap.size w w'
  newS : ∀ b ∈ S, w.heap.size ≤ b
  newT : ∀ b ∈ T, w.heap.size ≤ b
  apart : ∀ b ∈ T, b ∉ S
def BeginPost (w : World) (e : Ending) (w' : World) : Prop :=
  ∃ g q S, e = .returned (.tuple #[ptr g, ptr q]) ∧ Made w w' g q S [q] (fmtDev 24 6) (fmtPg 6)

theorem post_new {g : Nat} {S : List Nat} {D' : DevS} {w0 w w' : World} (hb : Below w0.heap.size w0 w) (hS : ∀ b ∈ S, w0.heap.size ≤ b) (h : ∃ S', Dev w' g S' D' ∧ Off S w w' ∧ Fresh w S S') :
    ∃ S', Dev w' g S' D' ∧ Below w0.heap.size w0 w' ∧ ∀ b ∈ S', w0.heap.size ≤ b := by
  obtain ⟨S', h1, h2, h3⟩ := h
  exact ⟨S', h1, hb.trans (h2.below hb.size hS), fun b hb' => (h3 b hb').elim (hS b) (fun h => Nat.le_trans hb.size h)⟩
theorem row_not {w : World} (h : RowAt w) {S : List Nat} (hS : ∀ b ∈ S, w.heap.size ≤ b) : 0 ∉ S := fun hx => by
  have := hS _ hx
  have := h.lt
  omega

set_option maxHeartbeats 4000000 in
theorem begin_any (w : World) (hr : RowAt w) : Calls Tryd.prog 22 #[] w (BeginPost w) := by
  have HR := Lib.hid hr
  have HN : Hid (∀ W, Calls Tryd.prog 8 #[.int .i64 24] W (NewPost 24 W)) := fun W => dnew_any 24 W (by decide) (by decide)
  have HF : Hid (formatD (DevS.new 24) 6 = (fmtDev 24 6, 0)) := format_new (by omega) (by omega)
  have HO : Hid (openR (fmtDev 24 6) = 0 ∧ openP (fmtDev 24 6) = fmtPg 6) := fmt_open (by omega) (by omega)
  clear hr
  go_enter Tryd.func22, Tryd.ntmps22
  go_wp2_with fail
  (go_at_call 8)
  refine (HN.out _).mono ?_
  rintro e w1 ⟨g, S1, rfl, hd1, hbel1, hS1⟩
  have HD1 := Lib.hid hd1
  have H1 : Hid (Below w.heap.size w w1 ∧ ∀ b ∈ S1, w.heap.size ≤ b) := ⟨hbel1, hS1⟩
  clear hd1 hbel1 hS1
  go_wp2_with fail
  (go_at_call 9)
  refine (format_to HD1.out 6 (HR.out.below H1.out.1) (row_not HR.out H1.out.2) (by decide) ⟨by decide, by decide, by simp [DevS.new]⟩ 0 HF.out).mono ?_
  rintro e w2 ⟨rfl, hp2⟩
  obtain ⟨S2, hd2, hbel2, hS2⟩ := post_new H1.out.1 H1.out.2 hp2
  have HD2 := Lib.hid hd2
  have H2 : Hid (Below w.heap.size w w2 ∧ ∀ b ∈ S2, w.heap.size ≤ b) := ⟨hbel2, hS2⟩
  clear hd2 hbel2 hS2 hp2
  go_wp2_with fail
  (go_at_call 10)
  refine (open_to HD2.out (HR.out.below H2.out.1) (by decide) HO.out.1 HO.out.2).mono ?_
  rintro e w3 ⟨q, hq, rfl, hpg, hbel3⟩
  have HM : Hid (Made w w3 g q S2 [q] (fmtDev 24 6) (fmtPg 6)) := ⟨HD2.out.below hbel3, hpg, H2.out.1.trans (hbel3.mono H2.out.1.size), H2.out.2, fun b hb => by simp at hb; subst hb; exact Nat.le_trans H2.out.1.size hq, fun b hb hs => by simp at hb; subst hb; have := HD2.out.old _ hs; omega⟩
  clear hpg hbel3
  go_wp2_with fail
  go_ret2
  exact ⟨g, q, S2, rfl, HM.out⟩

set_option maxHeartbeats 4000000 in
theorem pawake_any (w : World) (hr : RowAt w) : Calls Tryd.prog 7 #[] w (TellsQ true w) := by
  have HR := Lib.hid hr
  clear hr
  go_enter Tryd.func7, Tryd.ntmps7
  go_wp2_with fail
  (go_at_call 22)
  refine (begin_any _ HR.out).mono ?_
  rintro e w1 ⟨g, q, S, rfl, hm⟩
  have HM := Lib.hid hm
  clear hm
  go_wp2_with fail
  (go_at_call 16)
  refine (show Calls Tryd.prog 16 #[ptr q] w1 (SaysO ⟨0, 0, 0, 1, 6⟩ true w1) from pother_any HM.out.pg).mono ?_
  rintro e w2 ⟨rfl, hb2⟩
  have HP2 := Lib.hid (HM.out.pg.below hb2)
  have HB2 := Lib.hid (HM.out.bel.trans (hb2.mono HM.out.bel.size))
  clear hb2
  go_wp2_with fail
  (go_at_call 11)
  have HP3 : Hid (Pg (w2.alloc (.cells #[.int .i64 0, .int .i64 0, .int .i64 0, .int .i64 1, .int .i64 6] 32)) q [q] g (fmtPg 6)) := HP2.out.off ((Off.refl [] w2).alloc _) (by simp)
  refine (show Calls Tryd.prog 11 #[ptr q] (w2.alloc (.cells #[.int .i64 0, .int .i64 0, .int .i64 0, .int .i64 1, .int .i64 6] 32)) (SaysM ⟨1, 0, 0, 1, 6⟩ _) from pmeta_any HP3.out).mono ?_
  rintro e w4 ⟨rfl, hb4⟩
  have hbk := bk_below (Bk.new w2 32 #[.int .i64 0, .int .i64 0, .int .i64 0, .int .i64 1, .int .i64 6]) hb4
  have HB4 := Lib.hid ((below_new HB2.out (.cells #[.int .i64 0, .int .i64 0, .int .i64 0, .int .i64 1, .int .i64 6] 32)).trans (hb4.mono (below_new HB2.out _).size))
  obtain ⟨c0, c1, c2, c3, c4⟩ := hbk.five
  clear hb4 hbk
  have e1 : ∀ W, (binOp .eql 32 (.agg #[.int .i64 1, .int .i64 0, .int .i64 0, .int .i64 1, .int .i64 6]) (.agg #[.int .i64 1, .int .i64 0, .int .i64 0, .int .i64 1, .int .i64 6])).run Tryd.prog W = .ok (.bool true) W := fun W => by kernel_rfl
  have e2 : ∀ W, (binOp .eql 32 (.agg #[.int .i64 0, .int .i64 0, .int .i64 0, .int .i64 1, .int .i64 6]) (.agg #[.int .i64 0, .int .i64 0, .int .i64 0, .int .i64 1, .int .i64 6])).run Tryd.prog W = .ok (.bool true) W := fun W => by kernel_rfl
  go_wp2_with fail
  go_ret
  exact ⟨rfl, HB4.out⟩
end Go.Proofs.YtchldjjfaiikbaaDoor

/- A pager's Meta; what Format and Open leave (out of PagerAwake, without the pager's own law). -/
import Derived.Test.YtkkgiajjdcpicaaGreatDoorPlainFormat
namespace Go.Proofs.YtkkgiajjdcpicaaGreatDoor
open Go.RowKit
open Go.PlainAid
set_option maxRecDepth 100000
set_option linter.unusedVariables false
set_option linter.unusedSimpArgs false

def SaysM (m : MetaV) (w : World) (e : Ending) (w' : World) : Prop := e = .returned (.agg #[.int .i64 m.t, .int .i64 m.r, .int .i64 m.f, .int .i64 m.p, .int .i64 m.l]) ∧ Below w.heap.size w w'
theorem pmeta_any {w : World} {q : Nat} {T : List Nat} {g : Nat} {P : PgS} (h : Pg w q T g P) :
    Calls Tryz.prog 53 #[.pointer (some ⟨q, 0, none⟩)] w (SaysM P.m w) := by
  obtain ⟨sl, lg, h⟩ := h
  obtain ⟨c0, c1, c2, c3, c4, c5, c6, c7, c8, c9, c10, c11, c12, c13⟩ := h.cells.fourteen
  have hlt := h.cells.lt
  clear h
  go_enter Tryz.func53, Tryz.ntmps53
  go_wp2_with fail
  exact bodyPost_ret (v := .agg #[.int .i64 P.m.t, .int .i64 P.m.r, .int .i64 P.m.f, .int .i64 P.m.p, .int .i64 P.m.l]) (by simp [results, Tryz.results53, go_sem]) rfl ⟨rfl, (Below.refl _ w).alloc (Nat.le_refl _) _⟩
theorem pmeta_nil (w : World) : Calls Tryz.prog 53 #[.pointer none] w (SaysM MetaV.zero w) := by
  go_enter Tryz.func53, Tryz.ntmps53
  go_wp2_with fail
  exact bodyPost_ret (v := .agg #[.int .i64 0, .int .i64 0, .int .i64 0, .int .i64 0, .int .i64 0]) (by simp [results, Tryz.results53, go_sem]) rfl ⟨rfl, (Below.refl _ w).alloc (Nat.le_refl _) _⟩
theorem format_to {g : Nat} {S : List Nat} {D D' : DevS} {w : World} (hd : Dev w g S D) (limit : Int) (hr : RowAt w) (hS : 0 ∉ S) (hb : D.steps ≤ 999999990) (h : 4 ≤ limit ∧ limit ≤ 512 ∧ 4 * limit ≤ (D.sec.length : Int)) (r : Int) (hf : formatD D limit = (D', r)) :
    Calls Tryz.prog 74 #[ptr g, .int .i64 limit] w (DevPost g S D' (.int .i64 r) w) := by
  have h1 := format_ok hd limit hr hS hb h
  rw [hf] at h1
  exact h1
/-- What Open leaves where the two metas say a file. -/
def OpensPost (g : Nat) (P : PgS) (w : World) (e : Ending) (w' : World) : Prop :=
  ∃ q, w.heap.size ≤ q ∧ e = .returned (.tuple #[.pointer (some ⟨q, 0, none⟩), .int .i64 0]) ∧ Pg w' q [q] g P ∧ Below w.heap.size w w'
theorem open_to {g : Nat} {S : List Nat} {D : DevS} {P : PgS} {w : World} (hd : Dev w g S D) (hr : RowAt w) (hb : D.steps ≤ 1000000000) (h0 : openR D = 0) (hP : openP D = P) :
    Calls Tryz.prog 75 #[ptr g] w (OpensPost g P w) := by
  refine (open_any hd hr hb).mono ?_
  rintro e w' ⟨hb, ⟨h1, _⟩ | ⟨_, q, h2, h3, h4⟩⟩
  · exact absurd h0 h1
  · exact ⟨q, h2, h3, by rw [← hP]; exact h4, hb⟩
theorem open_not {g : Nat} {S : List Nat} {D : DevS} {w : World} (hd : Dev w g S D) (hr : RowAt w) (hb : D.steps ≤ 1000000000) (r : Int) (h0 : openR D = r) (hr0 : r ≠ 0) :
    Calls Tryz.prog 75 #[ptr g] w (fun e w' => e = .returned (.tuple #[.pointer none, .int .i64 r]) ∧ Below w.heap.size w w') := by
  refine (open_any hd hr hb).mono ?_
  rintro e w' ⟨hb, ⟨_, h2⟩ | ⟨h2, _⟩⟩
  · exact ⟨by rw [h2, h0], hb⟩
  · exact absurd (h0.symm.trans h2) hr0

/-- A device and its file, made by a call. -/
structure Made (w w' : World) (g q : Nat) (S T : List Nat) (D : DevS) (P : PgS) : Prop where
  dev : Dev w' g S D
  pg : Pg w' q T g P
  bel : Below w.heap.size w w'
  newS : ∀ b ∈ S, w.heap.size ≤ b
  newT : ∀ b ∈ T, w.heap.size ≤ b
  apart : ∀ b ∈ T, b ∉ S
theorem post_new {g : Nat} {S : List Nat} {D' : DevS} {w0 w w' : World} (hb : Below w0.heap.size w0 w) (hS : ∀ b ∈ S, w0.heap.size ≤ b) (h : ∃ S', Dev w' g S' D' ∧ Off S w w' ∧ Fresh w S S') :
    ∃ S', Dev w' g S' D' ∧ Below w0.heap.size w0 w' ∧ ∀ b ∈ S', w0.heap.size ≤ b := by
  obtain ⟨S', h1, h2, h3⟩ := h
  exact ⟨S', h1, hb.trans (h2.below hb.size hS), fun b hb' => (h3 b hb').elim (hS b) (fun h => Nat.le_trans hb.size h)⟩
theorem row_not {w : World} (h : RowAt w) {S : List Nat} (hS : ∀ b ∈ S, w.heap.size ≤ b) : 0 ∉ S := fun hx => by
  have := hS _ hx
  have := h.lt
  omega

end Go.Proofs.YtkkgiajjdcpicaaGreatDoor

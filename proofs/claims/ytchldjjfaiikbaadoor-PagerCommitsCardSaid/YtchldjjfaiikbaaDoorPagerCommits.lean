/- PagerCommits: the walk. -/
import Derived.Test.YtchldjjfaiikbaaDoorPlainCommit
namespace Go.Proofs.YtchldjjfaiikbaaDoor
open Go.RowKit
open Go.PlainAid
set_option maxRecDepth 100000
set_option linter.unusedVariables false
set_option linter.unusedSimpArgs false

theorem Made.below {w wr w' : World} {g q : Nat} {S T : List Nat} {D : DevS} {P : PgS} (h : Made w wr g q S T D P) (hb : Below wr.heap.size wr w') : Made w w' g q S T D P :=
  ⟨h.dev.below hb, h.pg.below hb, h.bel.trans (hb.mono h.bel.size), h.newS, h.newT, h.apart⟩
theorem Made.alloc {w wr : World} {g q : Nat} {S T : List Nat} {D : DevS} {P : PgS} (h : Made w wr g q S T D P) (o : Obj) : Made w (wr.alloc o) g q S T D P := h.below ((Below.refl _ wr).alloc (Nat.le_refl _) o)
theorem Made.onDev {w wr w' : World} {g q : Nat} {S T : List Nat} {D D' : DevS} {P : PgS} (h : Made w wr g q S T D P) (k : ∃ S', Dev w' g S' D' ∧ Off S wr w' ∧ Fresh wr S S') :
    ∃ S', Made w w' g q S' T D' P ∧ Off (S ++ T) wr w' ∧ Fresh wr S S' ∧ Fresh wr T T := by
  obtain ⟨S', h1, h2, h3⟩ := k
  exact ⟨S', ⟨h1, h.pg.off h2 h.apart, h.bel.trans (h2.below h.bel.size h.newS), fun b hb => (h3 b hb).elim (h.newS b) (Nat.le_trans h.bel.size), h.newT, apart_fresh h.apart h3 h.pg.old⟩, h2.left, h3, Fresh.refl _ _⟩
theorem Made.onPg {w wr w' : World} {g q : Nat} {S T : List Nat} {D D' : DevS} {P P' : PgS} (h : Made w wr g q S T D P) (k : ∃ S' T', Dev w' g S' D' ∧ Pg w' q T' g P' ∧ (∀ b ∈ T', b ∉ S') ∧ Off (S ++ T) wr w' ∧ Fresh wr S S' ∧ Fresh wr T T') :
    ∃ S' T', Made w w' g q S' T' D' P' ∧ Off (S ++ T) wr w' ∧ Fresh wr S S' ∧ Fresh wr T T' := by
  obtain ⟨S', T', h1, h2, h3, h4, h5, h6⟩ := k
  exact ⟨S', T', ⟨h1, h2, h.bel.trans (h4.below h.bel.size (fun b hb => (List.mem_append.1 hb).elim (h.newS b) (h.newT b))), fun b hb => (h5 b hb).elim (h.newS b) (Nat.le_trans h.bel.size), fun b hb => (h6 b hb).elim (h.newT b) (Nat.le_trans h.bel.size), h3⟩, h4, h5, h6⟩

theorem pseal_yes {w wr : World} {g q : Nat} {S T : List Nat} {D D' : DevS} {P : PgS} (h : Made w wr g q S T D P) (hr : RowAt w) (hsd : P.sealed = none)
    (m : MetaV) (hm : m.ok = true) (hl : m.l = P.m.l) (ht : m.t = P.m.t + 1) (ht0 : 0 ≤ P.m.t) (hb : D.steps ≤ 1000000000) (hw : D.write (m.t % 2) m.bytes = (D', 0)) :
    Calls Tryd.prog 19 #[ptr q, .agg m.cells] wr (PgPost g q S T D' { P with sealed := some m } 0 wr) := by
  have h1 := seal_any h.dev h.pg h.apart (hr.below h.bel) (row_not hr h.newS) hsd m hm hl ht ht0 hb 0 hw
  rw [if_pos rfl] at h1
  exact h1
theorem pseal_no {w wr : World} {g q : Nat} {S T : List Nat} {D D' : DevS} {P : PgS} (h : Made w wr g q S T D P) (hr : RowAt w) (hsd : P.sealed = none)
    (m : MetaV) (hm : m.ok = true) (hl : m.l = P.m.l) (ht : m.t = P.m.t + 1) (ht0 : 0 ≤ P.m.t) (hb : D.steps ≤ 1000000000) (hw : D.write (m.t % 2) m.bytes = (D', 6)) :
    Calls Tryd.prog 19 #[ptr q, .agg m.cells] wr (PgPost g q S T D' P 6 wr) := by
  have h1 := seal_any h.dev h.pg h.apart (hr.below h.bel) (row_not hr h.newS) hsd m hm hl ht ht0 hb 6 hw
  rw [if_neg (by decide)] at h1
  exact h1
theorem pdone_yes {w wr : World} {g q : Nat} {S T : List Nat} {D D' : DevS} {P : PgS} {m : MetaV} (h : Made w wr g q S T D { P with sealed := some m }) (hb : D.steps ≤ 1000000000) (hw : D.sync = (D', 0)) :
    Calls Tryd.prog 20 #[ptr q] wr (PgPost g q S T D' ⟨m, P.m, true, none, P.log⟩ 0 wr) := by
  have h1 := done_any h.dev h.pg h.apart m rfl hb 0 hw
  rw [if_pos rfl] at h1
  exact h1
theorem pdone_no {w wr : World} {g q : Nat} {S T : List Nat} {D D' : DevS} {P : PgS} {m : MetaV} (h : Made w wr g q S T D { P with sealed := some m }) (hb : D.steps ≤ 1000000000) (hw : D.sync = (D', 6)) :
    Calls Tryd.prog 20 #[ptr q] wr (PgPost g q S T D' { P with sealed := some m } 6 wr) := by
  have h1 := done_any h.dev h.pg h.apart m rfl hb 6 hw
  rw [if_neg (by decide)] at h1
  exact h1

theorem andMask (n : Int) (k : Nat) (hk : k < 1024) : ∃ m : Nat, m ≤ k ∧ bits .and .i64 n (k : Int) = (m : Int) := by
  have h : (BitVec.ofInt 64 n &&& BitVec.ofInt 64 (k : Int)).toNat ≤ k := by
    rw [BitVec.toNat_and]
    refine Nat.le_trans Nat.and_le_right ?_
    rw [BitVec.ofInt_natCast, BitVec.toNat_ofNat]
    exact Nat.mod_le _ _
  refine ⟨_, h, ?_⟩
  show IntKind.i64.wrap ((BitVec.ofInt 64 n &&& BitVec.ofInt 64 (k : Int)).toNat : Int) = _
  exact IntWalk.i64_in _ (by omega)

theorem two_fmt : Two (fmtDev 24 6) (fmt1 6) (fmt0 6) := by
  refine ⟨rfl, rfl, by simp [fmtDev], fmt1_ok (by omega), fmt0_ok (by omega), rfl, by decide, .inr ⟨by decide, by decide, ?_, ?_⟩⟩
  · simp [fmtDev]
  · simp [fmtDev]
theorem Two.fused {D : DevS} {m o : MetaV} (h : Two D m o) (f : Int) : Two { D with fuse := f } m o := ⟨h.on, h.row, h.len, h.mok, h.ook, h.ml, h.lt, h.at'⟩

/-- Where the play stands behind k commits. -/
structure Play (k : Nat) (D : DevS) (P : PgS) : Prop where
  two : ∃ o, Two D P.m o ∧ o.t + 1 = P.m.t
  idle : P.sealed = none
  t : P.m.t = 1 + (k : Int)
  fuse : D.fuse = 0
  steps : D.steps ≤ 3 + 2 * (k : Int)
theorem play_start : Play 0 (fmtDev 24 6) (fmtPg 6) := ⟨⟨fmt0 6, two_fmt, rfl⟩, rfl, rfl, rfl, by decide⟩
def nextM (t root : Int) : MetaV := ⟨t, root, 0, 4, 6⟩
theorem nextM_ok {t root : Int} (h : 0 ≤ t ∧ t ≤ 1000) (hr : 0 ≤ root ∧ root < 4) : (nextM t root).ok = true := show rightM t root 0 4 6 = true from rightM_of (by omega)
theorem Play.step {k : Nat} {D : DevS} {P : PgS} (h : Play k D P) (hk : k ≤ 7) :
    ∃ D1 D2, D.write ((nextM (P.m.t + 1) 0).t % 2) (nextM (P.m.t + 1) 0).bytes = (D1, 0) ∧ D1.sync = (D2, 0) ∧ D1.steps ≤ 1000000000 ∧ D2.steps ≤ 1000000000 ∧ Play (k + 1) D2 ⟨nextM (P.m.t + 1) 0, P.m, true, none, P.log⟩ := by
  obtain ⟨o, h1, h2⟩ := h.two
  have ht := h.t
  have hs := h.steps
  obtain ⟨D1, D2, a, b, c, d, e, f⟩ := commit_plain (m' := nextM (P.m.t + 1) 0) h1 h2 (nextM_ok (by omega) (by omega)) rfl rfl h.fuse
  refine ⟨D1, D2, a, b, by omega, by omega, ⟨⟨P.m, c, rfl⟩, rfl, ?_, d, ?_⟩⟩
  · show P.m.t + 1 = 1 + ((k + 1 : Nat) : Int)
    omega
  · rw [f]
    omega

/-- Two metas of the law's own, apart from the file's blocks. -/
structure Kept (W : World) (S T : List Nat) (x y : Nat) (a b : MetaV) : Prop where
  ax : Bk W x 32 a.cells
  ay : Bk W y 32 b.cells
  xS : x ∉ S ++ T
  yS : y ∉ S ++ T
theorem Kept.step {W W' : World} {S T S' T' : List Nat} {x y : Nat} {a b : MetaV} (h : Kept W S T x y a b) (ho : Off (S ++ T) W W') (hS : Fresh W S S') (hT : Fresh W T T') : Kept W' S' T' x y a b := by
  have key : ∀ z, z ∉ S ++ T → z < W.heap.size → z ∉ S' ++ T' := fun z hz hlt hx => by
    rcases List.mem_append.1 hx with hx | hx
    · rcases hS z hx with h1 | h1
      · exact hz (List.mem_append.2 (.inl h1))
      · omega
    · rcases hT z hx with h1 | h1
      · exact hz (List.mem_append.2 (.inr h1))
      · omega
  exact ⟨ho.bk h.ax h.xS, ho.bk h.ay h.yS, key x h.xS h.ax.lt, key y h.yS h.ay.lt⟩
theorem Kept.below {W W' : World} {S T : List Nat} {x y : Nat} {a b : MetaV} (h : Kept W S T x y a b) (hb : Below W.heap.size W W') : Kept W' S T x y a b := ⟨bk_below h.ax hb, bk_below h.ay hb, h.xS, h.yS⟩
theorem kept_new {w W : World} {g q : Nat} {S T : List Nat} {D : DevS} {P : PgS} (h : Made w W g q S T D P) (a b : MetaV) :
    Kept ((W.alloc (.cells a.cells 32)).alloc (.cells b.cells 32)) S T W.heap.size (W.heap.size + 1) a b := by
  have hS := h.dev.old
  have hT := h.pg.old
  refine ⟨(Bk.new W _ _).alloc _, bk_new_at _ _ _ _ (by simp), fun hx => ?_, fun hx => ?_⟩
  · rcases List.mem_append.1 hx with hx | hx
    · have := hS _ hx; omega
    · have := hT _ hx; omega
  · rcases List.mem_append.1 hx with hx | hx
    · have := hS _ hx; omega
    · have := hT _ hx; omega
theorem dfuse_from {g : Nat} {S : List Nat} {D : DevS} {w : World} (hd : Dev w g S D) (ho : D.off = false) (n : Int) (hn : n ≤ 9223372036854775807) :
    Calls Tryd.prog 23 #[ptr g, .int .i64 n] w (DevPost g S { D with fuse := max 0 n } (.int .i64 0) w) := by
  have h1 := dfuse_any hd n hn
  have e : D.setFuse n = ({ D with fuse := max 0 n }, 0) := by unfold DevS.setFuse; rw [ho]; rfl
  rw [e] at h1
  exact h1
theorem don_from {g : Nat} {S : List Nat} {D : DevS} {w : World} (hd : Dev w g S D) (b : Bool) (h : D.off = !b) :
    Calls Tryd.prog 24 #[ptr g] w (TellsT b w) := by
  have h1 := don_any hd
  rw [h, Bool.not_not] at h1
  exact h1
theorem dcut_from {g : Nat} {S : List Nat} {D D' : DevS} {w : World} (hd : Dev w g S D) (r : Int) (h : D.cut = (D', r)) :
    Calls Tryd.prog 25 #[ptr g] w (DevPost g S D' (.int .i64 r) w) := by
  have h1 := dcut_any hd
  rw [h] at h1
  exact h1
theorem dstart_from {g : Nat} {S : List Nat} {D D' : DevS} {w : World} (hd : Dev w g S D) (A : Option Addr) (picks : List Int) (cap : Nat) (hp : Sl w A (picks.map (Value.int .i64))) (hpl : picks.length ≤ maxLen) (hpw : ∀ p ∈ picks, p ≤ 9223372036854775807)
    (hA : picks ≠ [] → ∀ a, A = some a → a.block ∉ S) (hb : D.steps ≤ 1000000000) (r : Int) (h : D.start picks = (D', r)) :
    Calls Tryd.prog 26 #[ptr g, .slice A picks.length cap] w (DevPost g S D' (.int .i64 r) w) := by
  have h1 := dstart_any hd A picks cap hp hpl hpw hA hb
  rw [h] at h1
  exact h1
theorem dsteps_from {g : Nat} {S : List Nat} {D : DevS} {w : World} (hd : Dev w g S D) : Calls Tryd.prog 27 #[ptr g] w fun e w' => e = .returned (.int .i64 D.steps) ∧ w = w' := dsteps_any hd
theorem wf_max {n : Int} (h : (Lit.int .i64 n).wf = true) : n ≤ 9223372036854775807 := by
  simp [Lit.wf, IntKind.min, IntKind.max, IntKind.bits, IntKind.signed] at h
  omega
/-- An old slice's block is none of the device's. -/
theorem sl_apart {w : World} {A : Option Addr} {zs : List Int} {S : List Nat} (h : Sl w A (zs.map (Value.int .i64))) (hS : ∀ b ∈ S, w.heap.size ≤ b) : zs ≠ [] → ∀ a, A = some a → a.block ∉ S := by
  intro hn a ha hx
  obtain ⟨p, l, rfl⟩ := List.exists_cons_of_ne_nil hn
  obtain ⟨b, o, hA, hb, _⟩ := h 0 (.int .i64 p) rfl
  rw [hA] at ha
  injection ha with ha
  subst ha
  have := hS _ hx
  simp only at this
  omega
/-- The cells of the two metas. -/
def KCells (W : World) (x : Nat) (pt pr pf pp pl : Int) (R3 : Nat) : Prop := W.cell? ⟨x, 0, none⟩ = some (.int .i64 pt) ∧ W.cell? ⟨x, 1, none⟩ = some (.int .i64 pr) ∧ W.cell? ⟨x, 2, none⟩ = some (.int .i64 pf) ∧ W.cell? ⟨x, 3, none⟩ = some (.int .i64 pp) ∧ W.cell? ⟨x, 4, none⟩ = some (.int .i64 pl) ∧
  W.cell? ⟨x + 1, 0, none⟩ = some (.int .i64 (pt + 1)) ∧ W.cell? ⟨x + 1, 1, none⟩ = some (.int .i64 (R3 : Int)) ∧ W.cell? ⟨x + 1, 2, none⟩ = some (.int .i64 0) ∧ W.cell? ⟨x + 1, 3, none⟩ = some (.int .i64 4) ∧ W.cell? ⟨x + 1, 4, none⟩ = some (.int .i64 6)
theorem kcells {W : World} {S T : List Nat} {x : Nat} {pt pr pf pp pl : Int} {R3 : Nat} (h : Kept W S T x (x + 1) ⟨pt, pr, pf, pp, pl⟩ ⟨pt + 1, (R3 : Int), 0, 4, 6⟩) : KCells W x pt pr pf pp pl R3 := by
  obtain ⟨a0, a1, a2, a3, a4⟩ := h.ax.five
  obtain ⟨b0, b1, b2, b3, b4⟩ := h.ay.five
  exact ⟨a0, a1, a2, a3, a4, b0, b1, b2, b3, b4⟩
theorem diff_meta (t r f p l t' r' f' p' l' : Int) (h : t ≠ t') (w : World) : (binOp .eql 32 (.agg #[.int .i64 t, .int .i64 r, .int .i64 f, .int .i64 p, .int .i64 l]) (.agg #[.int .i64 t', .int .i64 r', .int .i64 f', .int .i64 p', .int .i64 l'])).run Tryd.prog w = .ok (.bool false) w := by
  rw [run_eql_struct]
  have h' : (t == t') = false := by simpa using h
  simp [go_sem, Result.andThen, h']
theorem field_t (a b c d e : Int) (W : World) : (Instr.field 32 (.agg #[.int .i64 a, .int .i64 b, .int .i64 c, .int .i64 d, .int .i64 e]) 0).run Tryd.prog W = .ok (.int .i64 a) W := by kernel_rfl
/-- The world ahead of the last commit, from where each way is walked by itself. -/
def TellsT1 (w : World) (e : Ending) (w' : World) : Prop := Holds w e w'

theorem play_fused {k : Nat} {D : DevS} {P : PgS} (h : Play k D P) (hk : k ≤ 7) (R : Nat) (hR : R ≤ 3) (f : Int) (picks : List Int) :
    (∃ D1 E, ({ D with fuse := max 0 f } : DevS).write ((nextM (P.m.t + 1) R).t % 2) (nextM (P.m.t + 1) R).bytes = (D1, 6) ∧ D1.off = true ∧ D1.start picks = (E, 0) ∧ (∃ o, Two E P.m o) ∧ D1.steps ≤ 1000000000 ∧ E.steps ≤ 1000000000) ∨
    (∃ D1 D2 E, ({ D with fuse := max 0 f } : DevS).write ((nextM (P.m.t + 1) R).t % 2) (nextM (P.m.t + 1) R).bytes = (D1, 0) ∧ D1.sync = (D2, 6) ∧ D2.off = true ∧ D2.start picks = (E, 0) ∧ ((∃ o, Two E P.m o) ∨ Two E (nextM (P.m.t + 1) R) P.m) ∧ D1.steps ≤ 1000000000 ∧ D2.steps ≤ 1000000000 ∧ E.steps ≤ 1000000000) ∨
    (∃ D1 D2 D3 E, ({ D with fuse := max 0 f } : DevS).write ((nextM (P.m.t + 1) R).t % 2) (nextM (P.m.t + 1) R).bytes = (D1, 0) ∧ D1.sync = (D2, 0) ∧ D2.off = false ∧ D2.cut = (D3, 0) ∧ D3.start picks = (E, 0) ∧ Two E (nextM (P.m.t + 1) R) P.m ∧ D1.steps ≤ 1000000000 ∧ D2.steps ≤ 1000000000 ∧ D3.steps ≤ 1000000000 ∧ E.steps ≤ 1000000000) := by
  obtain ⟨o, h1, h2⟩ := h.two
  have ht := h.t
  have hs := h.steps
  have hst : ({ D with fuse := max 0 f } : DevS).steps = D.steps := rfl
  rcases commit_fused (m' := nextM (P.m.t + 1) R) (h1.fused (max 0 f)) h2 (nextM_ok (by omega) (by omega)) rfl rfl (by show 0 ≤ max 0 f; omega) picks with ⟨D1, E, a, b, c, d, e1, e2⟩ | ⟨D1, D2, E, a, b, c, d, e, e1, e2, e3⟩ | ⟨D1, D2, D3, E, a, b, c, d, e, f', e1, e2, e3, e4⟩
  · exact .inl ⟨D1, E, a, b, c, ⟨o, d⟩, by omega, by omega⟩
  · exact .inr (.inl ⟨D1, D2, E, a, b, c, d, e.imp_left (fun h => ⟨o, h⟩), by omega, by omega, by omega⟩)
  · exact .inr (.inr ⟨D1, D2, D3, E, a, b, c, d, e, f', by omega, by omega, by omega, by omega⟩)

set_option maxHeartbeats 16000000 in
theorem pagerCommits_walk (txns root fuse : Int) (A : Option Addr) (cap : Nat) (zs : List Int) (w : World) (_ : (Lit.int .i64 txns).wf = true) (_ : (Lit.int .i64 root).wf = true) (hfw : (Lit.int .i64 fuse).wf = true)
    (hlen : zs.length ≤ maxLen) (hz : ∀ n ∈ zs, (Lit.int .i64 n).wf = true) (hA : Sl w A (zs.map (Value.int .i64))) (hr : RowAt w) :
    Calls Tryd.prog 6 #[.int .i64 txns, .int .i64 root, .int .i64 fuse, .slice A zs.length cap] w (Holds w) := by
  have HR := Lib.hid hr
  obtain ⟨N, hN, hNe⟩ := andMask txns 7 (by decide)
  obtain ⟨R3, hR3, hRe⟩ := andMask root 3 (by decide)
  have hNe' : bits .and .i64 txns 7 = (N : Int) := hNe
  have hRe' : bits .and .i64 root 3 = (R3 : Int) := hRe
  have HSL := Lib.hid hA
  have HLN := Lib.hid hlen
  have HZ := Lib.hid hz
  have HFW := Lib.hid hfw
  clear hr hNe hRe hlen hz hA hfw
  go_enter Tryd.func6, Tryd.ntmps6
  go_wp2_with fail
  (go_at_call 7)
  refine (pawake_any _ HR.out).mono ?_
  rintro e w1 ⟨rfl, hb1⟩
  have HB1 := Lib.hid hb1
  have HR1 := Lib.hid (HR.out.below hb1)
  clear hb1
  go_wp2_with fail
  (go_at_call 22)
  refine (begin_any _ HR1.out).mono ?_
  rintro e w2 ⟨g, q, S2, rfl, hm⟩
  have HM2 : Hid (Made w w2 g q S2 [q] (fmtDev 24 6) (fmtPg 6)) := ⟨hm.dev, hm.pg, HB1.out.trans (hm.bel.mono HB1.out.size), fun b hb => Nat.le_trans HB1.out.size (hm.newS b hb), fun b hb => Nat.le_trans HB1.out.size (hm.newT b hb), hm.apart⟩
  clear hm
  go_wp2_with fail
  go_loopw [11] (fun v wr => ∃ (k : Nat) (S T : List Nat) (D : DevS) (P : PgS), k ≤ N ∧ v = .int .i64 (k : Int) ∧ Made w wr g q S T D P ∧ Play k D P) (fun v _ => N - (intOf v).toNat)
  case atStart => exact ⟨0, S2, [q], _, _, Nat.zero_le _, rfl, HM2.out, play_start⟩
  case round =>
    obtain ⟨k, S, T, D, P, hk, rfl, hm, hpl⟩ := hrel
    have HM := Lib.hid hm
    have HP := Lib.hid hpl
    clear hm hpl
    by_cases hlt : k < N
    · have t1 : decide ((k : Int) < (N : Int)) = true := by simp; omega
      obtain ⟨D1, D2, a1, a2, s1, s2, a3⟩ := HP.out.step (by omega)
      have A1 := Lib.hid a1
      have A2 := Lib.hid a2
      have A3 := Lib.hid a3
      have HS : Hid (D.steps ≤ 1000000000) := show _ ≤ _ by have := HP.out.steps; omega
      have S1 := Lib.hid s1
      have b0 : 0 ≤ P.m.t := by have := HP.out.t; omega
      have b1 : P.m.t ≤ 100 := by have := HP.out.t; omega
      have HPM : Hid (∀ W, Made w W g q S T D P → Calls Tryd.prog 11 #[ptr q] W (SaysM P.m W)) := fun W h => pmeta_any h.pg
      have HL6 : Hid (P.m.l = 6) := by obtain ⟨o, h1, _⟩ := HP.out.two; exact h1.ml
      have hfld := fun W => field_t P.m.t P.m.r P.m.f P.m.p P.m.l W
      clear a1 a2 a3 s1 s2
      go_wp2_with fail
      (go_at_call 11)
      refine (HPM.out _ HM.out).mono ?_
      rintro e w4 ⟨rfl, hb4⟩
      have HM4 := Lib.hid (HM.out.below hb4)
      clear hb4
      go_wp2_with fail
      (go_at_call 19)
      refine (pseal_yes HM4.out HR.out HP.out.idle (nextM (P.m.t + 1) 0) (nextM_ok (by omega) (by omega)) HL6.out.symm rfl b0 HS.out A1.out).mono ?_
      rintro e w5 ⟨rfl, hp5⟩
      obtain ⟨S5, T5, hm5, ho5, hf5, hg5⟩ := HM4.out.onPg hp5
      have HM5 := Lib.hid hm5
      clear hm5 ho5 hf5 hg5 hp5
      go_wp2_with fail
      (go_at_call 20)
      refine (pdone_yes HM5.out S1.out A2.out).mono ?_
      rintro e w6 ⟨rfl, hp6⟩
      obtain ⟨S6, T6, hm6, ho6, hf6, hg6⟩ := HM5.out.onPg hp6
      have HM6 := Lib.hid hm6
      clear hm6 ho6 hf6 hg6 hp6
      go_wp2_with fail
      go_roundw
      case rel =>
        first
          | exact ⟨k + 1, S6, T6, D2, _, by omega, by go_num, HM6.out, A3.out⟩
          | ((repeat apply Exists.intro); exact ⟨⟨k + 1, S6, T6, D2, _, by omega, by go_num, HM6.out, A3.out⟩, rfl⟩)
      case measure => simp [intOf]; omega
    · obtain rfl : k = N := by omega
      have t1 : decide ((k : Int) < (k : Int)) = false := by simp
      go_wp2_with fail
      (go_at_call 11)
      have HPM : Hid (∀ W, Made w W g q S T D P → Calls Tryd.prog 11 #[ptr q] W (SaysM P.m W)) := fun W h => pmeta_any h.pg
      refine (HPM.out _ HM.out).mono ?_
      rintro e w4 ⟨rfl, hb4⟩
      have HM4 := Lib.hid (HM.out.below hb4)
      clear hb4
      have b0 : 0 ≤ P.m.t := by have := HP.out.t; omega
      have b1 : P.m.t ≤ 100 := by have := HP.out.t; omega
      have HL6 : Hid (P.m.l = 6) := by obtain ⟨o, h1, _⟩ := HP.out.two; exact h1.ml
      have HMa := Lib.hid ((HM4.out.alloc (.cells P.m.cells 32)).alloc (.cells (nextM (P.m.t + 1) (R3 : Int)).cells 32))
      have HKa := Lib.hid (kept_new HM4.out P.m (nextM (P.m.t + 1) (R3 : Int)))
      have HOF : Hid (D.off = false) := by obtain ⟨o, h1, _⟩ := HP.out.two; exact h1.on
      have HST : Hid (D.steps ≤ 999999990) := show _ ≤ _ by have := HP.out.steps; omega
      have HCF := Lib.hid (play_fused HP.out (by omega) R3 hR3 fuse zs)
      obtain ⟨pm, po, pb, psl, plog⟩ := P
      have hid := HP.out.idle
      simp only at hid
      subst hid
      obtain ⟨pt, pr, pf, pp, pl⟩ := pm
      unfold MetaV.cells nextM at *
      simp only at *
      go_wp2_with fail
      (go_at_call 23)
      refine (dfuse_from HMa.out.dev HOF.out fuse (wf_max HFW.out)).mono ?_
      rintro e w5 ⟨rfl, hp5⟩
      obtain ⟨S5, hm5, ho5, hf5, hg5⟩ := HMa.out.onDev hp5
      have HM5 := Lib.hid hm5
      have HK5 := Lib.hid (HKa.out.step ho5 hf5 hg5)
      clear hm5 ho5 hf5 hg5 hp5
      obtain ⟨d0, d1, d2, d3, d4⟩ := HK5.out.ay.five
      go_wp2_with fail
      (go_at_call 19)
      have OKM : Hid ((nextM (pt + 1) (R3 : Int)).ok = true) := nextM_ok (by omega) (by omega)
      have HST5 : Hid (({ D with fuse := max 0 fuse } : DevS).steps ≤ 1000000000) := show D.steps ≤ _ by have := HST.out; omega
      have e1 := fun W => same_meta pt pr pf pp pl W
      have e2 := fun W => same_meta (pt + 1) (R3 : Int) 0 4 6 W
      have e3 := fun W => diff_meta (pt + 1) (R3 : Int) 0 4 6 pt pr pf pp pl (by omega) W
      clear d0 d1 d2 d3 d4
      rcases HCF.out with ⟨D1, E, a, b, c, ⟨o, d⟩, s1, s2⟩ | ⟨D1, D2, E, a, b, c, d, ee, s1, s2, s3⟩ | ⟨D1, D2, D3, E, a, b, c, d, ee, ff, s1, s2, s3, s4⟩
      · have HWa := Lib.hid a
        have HWb := Lib.hid b
        have HWc := Lib.hid c
        have HTW := Lib.hid d
        have HB1' := Lib.hid s1
        have HBE := Lib.hid s2
        clear a b c d s1 s2 HCF
        refine (pseal_no HM5.out HR.out rfl ⟨pt + 1, (R3 : Int), 0, 4, 6⟩ OKM.out HL6.out.symm rfl b0 HST5.out HWa.out).mono ?_
        rintro e w6 ⟨rfl, hp6⟩
        obtain ⟨S6, T6, hm6, ho6, hf6, hg6⟩ := HM5.out.onPg hp6
        have HM6 := Lib.hid hm6
        have HK6 := Lib.hid (HK5.out.step ho6 hf6 hg6)
        clear hm6 ho6 hf6 hg6 hp6
        go_wp2_with fail
        (go_at_call 24)
        refine (don_from HM6.out.dev false HWb.out).mono ?_
        rintro e wX ⟨rfl, rfl⟩
        go_wp2_with fail
        (go_at_call 26)
        refine (dstart_from HM6.out.dev A zs cap (HSL.out.below HM6.out.bel) HLN.out (fun p hp => wf_max (HZ.out p hp)) (sl_apart HSL.out HM6.out.newS) HB1'.out 0 HWc.out).mono ?_
        rintro e w7 ⟨rfl, hp7⟩
        obtain ⟨S7, hm7, ho7, hf7, hg7⟩ := HM6.out.onDev hp7
        have HM7 := Lib.hid hm7
        have HK7 := Lib.hid (HK6.out.step ho7 hf7 hg7)
        clear hm7 ho7 hf7 hg7 hp7
        go_wp2_with fail
        (go_at_call 27)
        refine (dsteps_from HM7.out.dev).mono ?_
        rintro e wX ⟨rfl, rfl⟩
        go_wp2_with fail
        (go_at_call 10)
        obtain ⟨hop1, x0, bb0, hop2⟩ := HTW.out.opens
        have HOP1 := Lib.hid hop1
        have HOP2 := Lib.hid hop2
        clear hop1 hop2
        refine (open_to HM7.out.dev (HR.out.below HM7.out.bel) HBE.out HOP1.out HOP2.out).mono ?_
        rintro e w8 ⟨q2, hq2, rfl, hpg2, hb8⟩
        have HP8 := Lib.hid hpg2
        have HM8 := Lib.hid (HM7.out.below hb8)
        have HK8 := Lib.hid (HK7.out.below hb8)
        clear hpg2 hb8 hq2
        go_wp2_with fail
        (go_at_call 27)
        refine (dsteps_from HM8.out.dev).mono ?_
        rintro e wX ⟨rfl, rfl⟩
        go_wp2_with fail
        have HPQ : Hid (∀ W, Pg W q2 [q2] g ⟨⟨pt, pr, pf, pp, pl⟩, x0, bb0, none, []⟩ → Calls Tryd.prog 11 #[ptr q2] W (SaysM ⟨pt, pr, pf, pp, pl⟩ W)) := fun W h => pmeta_any h
        obtain ⟨k0, k1, k2, k3, k4, k5, k6, k7, k8, k9⟩ := kcells HK8.out
        have hund : undef = .tuple #[] := rfl
        first
          | go_region_with ((go_at_call 11; refine (HPQ.out _ (HP8.out.below (Below.refl _ _).drew)).mono ?_; rintro e wY ⟨rfl, hbY⟩; have HKY := HK8.out.below (Below.trans (Below.refl _ _).drew hbY); have HPY := HP8.out.below (Below.trans (Below.refl _ _).drew hbY); have HBY := HM8.out.bel.trans (Below.mono (Below.trans (Below.refl _ _).drew hbY) HM8.out.bel.size); obtain ⟨y0, y1, y2, y3, y4, y5, y6, y7, y8, y9⟩ := kcells HKY; clear hbY))
          | fail
        all_goals
          go_wp2_with fail
          go_ret
          exact ⟨rfl, by first | exact HBZ | exact HBY⟩
      · have HWa := Lib.hid a
        have HWb := Lib.hid b
        have HWc := Lib.hid c
        have HWd := Lib.hid d
        have HTW0 := Lib.hid ee
        have HB1' := Lib.hid s1
        have HB2' := Lib.hid s2
        have HBE := Lib.hid s3
        clear a b c d ee s1 s2 s3 HCF
        refine (pseal_yes HM5.out HR.out rfl ⟨pt + 1, (R3 : Int), 0, 4, 6⟩ OKM.out HL6.out.symm rfl b0 HST5.out HWa.out).mono ?_
        rintro e w6 ⟨rfl, hp6⟩
        obtain ⟨S6, T6, hm6, ho6, hf6, hg6⟩ := HM5.out.onPg hp6
        have HM6 := Lib.hid hm6
        have HK6 := Lib.hid (HK5.out.step ho6 hf6 hg6)
        clear hm6 ho6 hf6 hg6 hp6
        go_wp2_with fail
        (go_at_call 20)
        refine (pdone_no (P := ⟨⟨pt, pr, pf, pp, pl⟩, po, pb, none, plog⟩) (m := ⟨pt + 1, (R3 : Int), 0, 4, 6⟩) HM6.out HB1'.out HWb.out).mono ?_
        rintro e w16 ⟨rfl, hp16⟩
        obtain ⟨S16, T16, hm16, ho16, hf16, hg16⟩ := HM6.out.onPg hp16
        have HM16 := Lib.hid hm16
        have HK16 := Lib.hid (HK6.out.step ho16 hf16 hg16)
        clear hm16 ho16 hf16 hg16 hp16
        go_wp2_with fail
        (go_at_call 24)
        refine (don_from HM16.out.dev false HWc.out).mono ?_
        rintro e wX ⟨rfl, rfl⟩
        go_wp2_with fail
        (go_at_call 26)
        refine (dstart_from HM16.out.dev A zs cap (HSL.out.below HM16.out.bel) HLN.out (fun p hp => wf_max (HZ.out p hp)) (sl_apart HSL.out HM16.out.newS) HB2'.out 0 HWd.out).mono ?_
        rintro e w7 ⟨rfl, hp7⟩
        obtain ⟨S7, hm7, ho7, hf7, hg7⟩ := HM16.out.onDev hp7
        have HM7 := Lib.hid hm7
        have HK7 := Lib.hid (HK16.out.step ho7 hf7 hg7)
        clear hm7 ho7 hf7 hg7 hp7
        rcases HTW0.out with ⟨o, htw⟩ | htw
        · have HTW := Lib.hid htw
          clear htw HTW0
          go_wp2_with fail
          (go_at_call 27)
          refine (dsteps_from HM7.out.dev).mono ?_
          rintro e wX ⟨rfl, rfl⟩
          go_wp2_with fail
          (go_at_call 10)
          obtain ⟨hop1, x0, bb0, hop2⟩ := HTW.out.opens
          have HOP1 := Lib.hid hop1
          have HOP2 := Lib.hid hop2
          clear hop1 hop2
          refine (open_to HM7.out.dev (HR.out.below HM7.out.bel) HBE.out HOP1.out HOP2.out).mono ?_
          rintro e w8 ⟨q2, hq2, rfl, hpg2, hb8⟩
          have HP8 := Lib.hid hpg2
          have HM8 := Lib.hid (HM7.out.below hb8)
          have HK8 := Lib.hid (HK7.out.below hb8)
          clear hpg2 hb8 hq2
          go_wp2_with fail
          (go_at_call 27)
          refine (dsteps_from HM8.out.dev).mono ?_
          rintro e wX ⟨rfl, rfl⟩
          go_wp2_with fail
          have HPQ : Hid (∀ W, Pg W q2 [q2] g ⟨⟨pt, pr, pf, pp, pl⟩, x0, bb0, none, []⟩ → Calls Tryd.prog 11 #[ptr q2] W (SaysM ⟨pt, pr, pf, pp, pl⟩ W)) := fun W h => pmeta_any h
          obtain ⟨k0, k1, k2, k3, k4, k5, k6, k7, k8, k9⟩ := kcells HK8.out
          have hund : undef = .tuple #[] := rfl
          first
            | go_region_with ((go_at_call 11; refine (HPQ.out _ (HP8.out.below (Below.refl _ _).drew)).mono ?_; rintro e wY ⟨rfl, hbY⟩; have HKY := HK8.out.below (Below.trans (Below.refl _ _).drew hbY); have HPY := HP8.out.below (Below.trans (Below.refl _ _).drew hbY); have HBY := HM8.out.bel.trans (Below.mono (Below.trans (Below.refl _ _).drew hbY) HM8.out.bel.size); obtain ⟨y0, y1, y2, y3, y4, y5, y6, y7, y8, y9⟩ := kcells HKY; clear hbY))
            | fail
          all_goals
            go_wp2_with fail
            go_ret
            exact ⟨rfl, by first | exact HBZ | exact HBY⟩
        · have HTW := Lib.hid htw
          clear htw HTW0
          go_wp2_with fail
          (go_at_call 27)
          refine (dsteps_from HM7.out.dev).mono ?_
          rintro e wX ⟨rfl, rfl⟩
          go_wp2_with fail
          (go_at_call 10)
          obtain ⟨hop1, x0, bb0, hop2⟩ := HTW.out.opens
          have HOP1 := Lib.hid hop1
          have HOP2 := Lib.hid hop2
          clear hop1 hop2
          refine (open_to HM7.out.dev (HR.out.below HM7.out.bel) HBE.out HOP1.out HOP2.out).mono ?_
          rintro e w8 ⟨q2, hq2, rfl, hpg2, hb8⟩
          have HP8 := Lib.hid hpg2
          have HM8 := Lib.hid (HM7.out.below hb8)
          have HK8 := Lib.hid (HK7.out.below hb8)
          clear hpg2 hb8 hq2
          go_wp2_with fail
          (go_at_call 27)
          refine (dsteps_from HM8.out.dev).mono ?_
          rintro e wX ⟨rfl, rfl⟩
          go_wp2_with fail
          have HPQ : Hid (∀ W, Pg W q2 [q2] g ⟨⟨pt + 1, (R3 : Int), 0, 4, 6⟩, x0, bb0, none, []⟩ → Calls Tryd.prog 11 #[ptr q2] W (SaysM ⟨pt + 1, (R3 : Int), 0, 4, 6⟩ W)) := fun W h => pmeta_any h
          obtain ⟨k0, k1, k2, k3, k4, k5, k6, k7, k8, k9⟩ := kcells HK8.out
          have hund : undef = .tuple #[] := rfl
          first
            | go_region_with ((first | (go_at_call 11; refine (HPQ.out _ HPY).mono ?_; rintro e wZ ⟨rfl, hbZ⟩; have HBZ := HBY.trans (hbZ.mono HBY.size); have HKZ := HKY.below hbZ; obtain ⟨z0, z1, z2, z3, z4, z5, z6, z7, z8, z9⟩ := kcells HKZ; clear hbZ) | (go_at_call 11; refine (HPQ.out _ (HP8.out.below (Below.refl _ _).drew)).mono ?_; rintro e wY ⟨rfl, hbY⟩; have HKY := HK8.out.below (Below.trans (Below.refl _ _).drew hbY); have HPY := HP8.out.below (Below.trans (Below.refl _ _).drew hbY); have HBY := HM8.out.bel.trans (Below.mono (Below.trans (Below.refl _ _).drew hbY) HM8.out.bel.size); obtain ⟨y0, y1, y2, y3, y4, y5, y6, y7, y8, y9⟩ := kcells HKY; clear hbY)))
            | fail
          all_goals
            go_wp2_with fail
            go_ret
            exact ⟨rfl, by first | exact HBZ | exact HBY⟩
      · have HWa := Lib.hid a
        have HWb := Lib.hid b
        have HWc := Lib.hid c
        have HWd := Lib.hid d
        have HWe := Lib.hid ee
        have HTW := Lib.hid ff
        have HB1' := Lib.hid s1
        have HB3' := Lib.hid s3
        have HBE := Lib.hid s4
        clear a b c d ee ff s1 s2 s3 s4 HCF
        refine (pseal_yes HM5.out HR.out rfl ⟨pt + 1, (R3 : Int), 0, 4, 6⟩ OKM.out HL6.out.symm rfl b0 HST5.out HWa.out).mono ?_
        rintro e w6 ⟨rfl, hp6⟩
        obtain ⟨S6, T6, hm6, ho6, hf6, hg6⟩ := HM5.out.onPg hp6
        have HM6 := Lib.hid hm6
        have HK6 := Lib.hid (HK5.out.step ho6 hf6 hg6)
        clear hm6 ho6 hf6 hg6 hp6
        go_wp2_with fail
        (go_at_call 20)
        refine (pdone_yes (P := ⟨⟨pt, pr, pf, pp, pl⟩, po, pb, none, plog⟩) (m := ⟨pt + 1, (R3 : Int), 0, 4, 6⟩) HM6.out HB1'.out HWb.out).mono ?_
        rintro e w16 ⟨rfl, hp16⟩
        obtain ⟨S16, T16, hm16, ho16, hf16, hg16⟩ := HM6.out.onPg hp16
        have HM16 := Lib.hid hm16
        have HK16 := Lib.hid (HK6.out.step ho16 hf16 hg16)
        clear hm16 ho16 hf16 hg16 hp16
        go_wp2_with fail
        (go_at_call 24)
        refine (don_from HM16.out.dev true HWc.out).mono ?_
        rintro e wX ⟨rfl, rfl⟩
        go_wp2_with fail
        (go_at_call 25)
        refine (dcut_from HM16.out.dev 0 HWd.out).mono ?_
        rintro e w17 ⟨rfl, hp17⟩
        obtain ⟨S17, hm17, ho17, hf17, hg17⟩ := HM16.out.onDev hp17
        have HM17 := Lib.hid hm17
        have HK17 := Lib.hid (HK16.out.step ho17 hf17 hg17)
        clear hm17 ho17 hf17 hg17 hp17
        go_wp2_with fail
        (go_at_call 26)
        refine (dstart_from HM17.out.dev A zs cap (HSL.out.below HM17.out.bel) HLN.out (fun p hp => wf_max (HZ.out p hp)) (sl_apart HSL.out HM17.out.newS) HB3'.out 0 HWe.out).mono ?_
        rintro e w7 ⟨rfl, hp7⟩
        obtain ⟨S7, hm7, ho7, hf7, hg7⟩ := HM17.out.onDev hp7
        have HM7 := Lib.hid hm7
        have HK7 := Lib.hid (HK17.out.step ho7 hf7 hg7)
        clear hm7 ho7 hf7 hg7 hp7
        go_wp2_with fail
        (go_at_call 27)
        refine (dsteps_from HM7.out.dev).mono ?_
        rintro e wX ⟨rfl, rfl⟩
        go_wp2_with fail
        (go_at_call 10)
        obtain ⟨hop1, x0, bb0, hop2⟩ := HTW.out.opens
        have HOP1 := Lib.hid hop1
        have HOP2 := Lib.hid hop2
        clear hop1 hop2
        refine (open_to HM7.out.dev (HR.out.below HM7.out.bel) HBE.out HOP1.out HOP2.out).mono ?_
        rintro e w8 ⟨q2, hq2, rfl, hpg2, hb8⟩
        have HP8 := Lib.hid hpg2
        have HM8 := Lib.hid (HM7.out.below hb8)
        have HK8 := Lib.hid (HK7.out.below hb8)
        clear hpg2 hb8 hq2
        go_wp2_with fail
        (go_at_call 27)
        refine (dsteps_from HM8.out.dev).mono ?_
        rintro e wX ⟨rfl, rfl⟩
        go_wp2_with fail
        have HPQ : Hid (∀ W, Pg W q2 [q2] g ⟨⟨pt + 1, (R3 : Int), 0, 4, 6⟩, x0, bb0, none, []⟩ → Calls Tryd.prog 11 #[ptr q2] W (SaysM ⟨pt + 1, (R3 : Int), 0, 4, 6⟩ W)) := fun W h => pmeta_any h
        obtain ⟨k0, k1, k2, k3, k4, k5, k6, k7, k8, k9⟩ := kcells HK8.out
        have hund : undef = .tuple #[] := rfl
        first
          | go_region_with ((go_at_call 11; refine (HPQ.out _ (HP8.out.below (Below.refl _ _).drew)).mono ?_; rintro e wY ⟨rfl, hbY⟩; have HKY := HK8.out.below (Below.trans (Below.refl _ _).drew hbY); have HPY := HP8.out.below (Below.trans (Below.refl _ _).drew hbY); have HBY := HM8.out.bel.trans (Below.mono (Below.trans (Below.refl _ _).drew hbY) HM8.out.bel.size); obtain ⟨y0, y1, y2, y3, y4, y5, y6, y7, y8, y9⟩ := kcells HKY; clear hbY))
          | fail
        all_goals
          go_wp2_with fail
          go_ret
          exact ⟨rfl, by first | exact HBZ | exact HBY⟩
end Go.Proofs.YtchldjjfaiikbaaDoor

import Derived.Test.YtjbcbnemdhbhbaaGreatDoorK0
import Derived.LoopN
import Derived.Deep.OwnRows
import Derived.RegionTactic
import Derived.BigRegion
import Derived.Test.YtjbcbnemdhbhbaaGreatDoorK10
import Derived.Deep.RegionHeld3
import Derived.WalkSpells
import Derived.Defers
import Derived.Test.YtjbcbnemdhbhbaaGreatDoorK14
import Derived.Test.YtjbcbnemdhbhbaaGreatDoorK6
import Derived.Sort.OwnSortedInts
import Derived.Shelf.SortM.Plain
import Derived.Shelf.SortM.SortNone
import Derived.Test.YtjbcbnemdhbhbaaGreatDoorK20
namespace Go.Proofs.YtjbcbnemdhbhbaaGreatDoor
open Go.RowKit
open Go.PlainAid
set_option maxRecDepth 100000
set_option linter.unusedVariables false
set_option linter.unusedSimpArgs false
abbrev slotCells (t0 : Int) (u0 : Bool) (t1 : Int) (u1 : Bool) (t2 : Int) (u2 : Bool) (t3 : Int) (u3 : Bool) : Array Value :=
  #[.int .i64 t0, .bool u0, .int .i64 t1, .bool u1, .int .i64 t2, .bool u2, .int .i64 t3, .bool u3]
theorem Bk.eight {w : World} {g : Nat} {t : TypeId} {c0 c1 c2 c3 c4 c5 c6 c7 : Value} (h : Bk w g t #[c0, c1, c2, c3, c4, c5, c6, c7]) :
    w.cell? ⟨g, 0, none⟩ = some c0 ∧ w.cell? ⟨g, 1, none⟩ = some c1 ∧ w.cell? ⟨g, 2, none⟩ = some c2 ∧ w.cell? ⟨g, 3, none⟩ = some c3 ∧ w.cell? ⟨g, 4, none⟩ = some c4 ∧ w.cell? ⟨g, 5, none⟩ = some c5 ∧ w.cell? ⟨g, 6, none⟩ = some c6 ∧ w.cell? ⟨g, 7, none⟩ = some c7 :=
  ⟨by simpa using h.cell 0, by simpa using h.cell 1, by simpa using h.cell 2, by simpa using h.cell 3, by simpa using h.cell 4, by simpa using h.cell 5, by simpa using h.cell 6, by simpa using h.cell 7⟩
structure St where
  a : Option Int
  b : Option Int
  c : Option Int
  d : Option Int
def St.empty : St := ⟨none, none, none, none⟩
def St.cells (s : St) : Array Value := slotCells (s.a.getD 0) s.a.isSome (s.b.getD 0) s.b.isSome (s.c.getD 0) s.c.isSome (s.d.getD 0) s.d.isSome
def inRange (n : Int) : Bool := decide (0 ≤ n) && decide (n ≤ 1099511627776)
def St.enter (s : St) (n : Int) : St × Int × Int :=
  if inRange n then
    match s.a, s.b, s.c, s.d with
    | none, _, _, _ => ({ s with a := some n }, 0, 0)
    | some _, none, _, _ => ({ s with b := some n }, 1, 0)
    | some _, some _, none, _ => ({ s with c := some n }, 2, 0)
    | some _, some _, some _, none => ({ s with d := some n }, 3, 0)
    | some _, some _, some _, some _ => (s, 0, 9)
  else (s, 0, 1)
def St.at (s : St) (i : Int) : Option Int := if i = 0 then s.a else if i = 1 then s.b else if i = 2 then s.c else if i = 3 then s.d else none
def St.clear (s : St) (i : Int) : St := if i = 0 then { s with a := none } else if i = 1 then { s with b := none } else if i = 2 then { s with c := none } else if i = 3 then { s with d := none } else s
def St.leave (s : St) (i : Int) : St × Int :=
  if i < 0 ∨ 3 < i then (s, 1) else match s.at i with | none => (s, 7) | some _ => (s.clear i, 0)
def St.reads (s : St) (i : Int) : Int × Bool := match s.at i with | none => (0, false) | some n => (n, true)
def EnterPost (i e : Int) (g : Nat) (cs : Array Value) (w : World) (en : Ending) (w' : World) : Prop :=
  en = .returned (.tuple #[.int .i64 i, .int .i64 e]) ∧ Bk w' g 195 cs ∧ Off [g] w w'
set_option maxHeartbeats 4000000 in
theorem enter_0 (g : Nat) (n t0 t1 t2 t3 : Int) (u1 u2 u3 : Bool) (w : World) (hb : Bk w g 195 (slotCells t0 false t1 u1 t2 u2 t3 u3)) (h0 : 0 ≤ n) (h1 : n ≤ 1099511627776) :
    Calls Tryz.prog 56 #[.pointer (some ⟨g, 0, none⟩), .int .i64 n] w (EnterPost 0 0 g (slotCells n true t1 u1 t2 u2 t3 u3) w) := by
  have HB := Lib.hid hb
  obtain ⟨c0, c1, c2, c3, c4, c5, c6, c7⟩ := hb.eight
  have g0 := hb.frozen 0
  have g1 := hb.frozen 1
  have q0 : decide (n < 0) = false := by simp; omega
  have q1 : decide (1099511627776 < n) = false := by simp; omega
  clear hb
  go_enter Tryz.func56, Tryz.ntmps56
  go_wp2_with fail
  refine wp_loop_rounds 5 ?_
  repeat any_goals (rw [rounds_succ]; go_wp2_with fail)
  go_ret2
  exact ⟨rfl, (HB.out.put 0 _).put 1 _, ((Off.refl _ _).setCell (.inl (by simp)) _).setCell (.inl (by simp)) _⟩
set_option maxHeartbeats 4000000 in
theorem enter_1 (g : Nat) (n t0 t1 t2 t3 : Int) (u2 u3 : Bool) (w : World) (hb : Bk w g 195 (slotCells t0 true t1 false t2 u2 t3 u3)) (h0 : 0 ≤ n) (h1 : n ≤ 1099511627776) :
    Calls Tryz.prog 56 #[.pointer (some ⟨g, 0, none⟩), .int .i64 n] w (EnterPost 1 0 g (slotCells t0 true n true t2 u2 t3 u3) w) := by
  have HB := Lib.hid hb
  obtain ⟨c0, c1, c2, c3, c4, c5, c6, c7⟩ := hb.eight
  have g0 := hb.frozen 2
  have g1 := hb.frozen 3
  have q0 : decide (n < 0) = false := by simp; omega
  have q1 : decide (1099511627776 < n) = false := by simp; omega
  clear hb
  go_enter Tryz.func56, Tryz.ntmps56
  go_wp2_with fail
  refine wp_loop_rounds 5 ?_
  repeat any_goals (rw [rounds_succ]; go_wp2_with fail)
  go_ret2
  exact ⟨rfl, (HB.out.put 2 _).put 3 _, ((Off.refl _ _).setCell (.inl (by simp)) _).setCell (.inl (by simp)) _⟩
set_option maxHeartbeats 4000000 in
theorem enter_2 (g : Nat) (n t0 t1 t2 t3 : Int) (u3 : Bool) (w : World) (hb : Bk w g 195 (slotCells t0 true t1 true t2 false t3 u3)) (h0 : 0 ≤ n) (h1 : n ≤ 1099511627776) :
    Calls Tryz.prog 56 #[.pointer (some ⟨g, 0, none⟩), .int .i64 n] w (EnterPost 2 0 g (slotCells t0 true t1 true n true t3 u3) w) := by
  have HB := Lib.hid hb
  obtain ⟨c0, c1, c2, c3, c4, c5, c6, c7⟩ := hb.eight
  have g0 := hb.frozen 4
  have g1 := hb.frozen 5
  have q0 : decide (n < 0) = false := by simp; omega
  have q1 : decide (1099511627776 < n) = false := by simp; omega
  clear hb
  go_enter Tryz.func56, Tryz.ntmps56
  go_wp2_with fail
  refine wp_loop_rounds 5 ?_
  repeat any_goals (rw [rounds_succ]; go_wp2_with fail)
  go_ret2
  exact ⟨rfl, (HB.out.put 4 _).put 5 _, ((Off.refl _ _).setCell (.inl (by simp)) _).setCell (.inl (by simp)) _⟩
set_option maxHeartbeats 4000000 in
theorem enter_3 (g : Nat) (n t0 t1 t2 t3 : Int) (w : World) (hb : Bk w g 195 (slotCells t0 true t1 true t2 true t3 false)) (h0 : 0 ≤ n) (h1 : n ≤ 1099511627776) :
    Calls Tryz.prog 56 #[.pointer (some ⟨g, 0, none⟩), .int .i64 n] w (EnterPost 3 0 g (slotCells t0 true t1 true t2 true n true) w) := by
  have HB := Lib.hid hb
  obtain ⟨c0, c1, c2, c3, c4, c5, c6, c7⟩ := hb.eight
  have g0 := hb.frozen 6
  have g1 := hb.frozen 7
  have q0 : decide (n < 0) = false := by simp; omega
  have q1 : decide (1099511627776 < n) = false := by simp; omega
  clear hb
  go_enter Tryz.func56, Tryz.ntmps56
  go_wp2_with fail
  refine wp_loop_rounds 5 ?_
  repeat any_goals (rw [rounds_succ]; go_wp2_with fail)
  go_ret2
  exact ⟨rfl, (HB.out.put 6 _).put 7 _, ((Off.refl _ _).setCell (.inl (by simp)) _).setCell (.inl (by simp)) _⟩
set_option maxHeartbeats 4000000 in
theorem enter_4 (g : Nat) (n t0 t1 t2 t3 : Int) (w : World) (hb : Bk w g 195 (slotCells t0 true t1 true t2 true t3 true)) (h0 : 0 ≤ n) (h1 : n ≤ 1099511627776) :
    Calls Tryz.prog 56 #[.pointer (some ⟨g, 0, none⟩), .int .i64 n] w (EnterPost 0 9 g (slotCells t0 true t1 true t2 true t3 true) w) := by
  have HB := Lib.hid hb
  obtain ⟨c0, c1, c2, c3, c4, c5, c6, c7⟩ := hb.eight
  have g0 := hb.frozen 8
  have g1 := hb.frozen 9
  have q0 : decide (n < 0) = false := by simp; omega
  have q1 : decide (1099511627776 < n) = false := by simp; omega
  clear hb
  go_enter Tryz.func56, Tryz.ntmps56
  go_wp2_with fail
  refine wp_loop_rounds 5 ?_
  repeat any_goals (rw [rounds_succ]; go_wp2_with fail)
  go_ret2
  exact ⟨rfl, HB.out, Off.refl _ _⟩
set_option maxHeartbeats 4000000 in
theorem enter_bad (g : Nat) (n : Int) (cs : Array Value) (w : World) (hb : Bk w g 195 cs) (h0 : n < 0 ∨ 1099511627776 < n) :
    Calls Tryz.prog 56 #[.pointer (some ⟨g, 0, none⟩), .int .i64 n] w (EnterPost 0 1 g cs w) := by
  have HB := Lib.hid hb
  have hq : decide (n < 0) = true ∨ (decide (n < 0) = false ∧ decide (1099511627776 < n) = true) := by simp; omega
  clear hb
  rcases hq with q0 | ⟨q0, q1⟩
  all_goals
    go_enter Tryz.func56, Tryz.ntmps56
    go_wp2_with fail
    go_ret2
    exact ⟨rfl, HB.out, Off.refl _ _⟩
theorem enter_any (g : Nat) (n : Int) (s : St) (w : World) (hb : Bk w g 195 s.cells) :
    Calls Tryz.prog 56 #[.pointer (some ⟨g, 0, none⟩), .int .i64 n] w (EnterPost (s.enter n).2.1 (s.enter n).2.2 g (s.enter n).1.cells w) := by
  cases hr : inRange n with
  | false =>
    have e : s.enter n = (s, 0, 1) := by unfold St.enter; rw [hr]; rfl
    rw [e]
    refine enter_bad g n s.cells w hb ?_
    unfold inRange at hr
    simp at hr
    omega
  | true =>
    have h2 : 0 ≤ n ∧ n ≤ 1099511627776 := by unfold inRange at hr; simpa using hr
    have e : s.enter n = (match s.a, s.b, s.c, s.d with
      | none, _, _, _ => ({ s with a := some n }, 0, 0)
      | some _, none, _, _ => ({ s with b := some n }, 1, 0)
      | some _, some _, none, _ => ({ s with c := some n }, 2, 0)
      | some _, some _, some _, none => ({ s with d := some n }, 3, 0)
      | some _, some _, some _, some _ => (s, 0, 9)) := by unfold St.enter; rw [hr]; rfl
    rw [e]
    obtain ⟨a, b, c, d⟩ := s
    cases a with
    | none => exact enter_0 g n _ _ _ _ _ _ _ w hb h2.1 h2.2
    | some a =>
      cases b with
      | none => exact enter_1 g n _ _ _ _ _ _ w hb h2.1 h2.2
      | some b =>
        cases c with
        | none => exact enter_2 g n _ _ _ _ _ w hb h2.1 h2.2
        | some c =>
          cases d with
          | none => exact enter_3 g n _ _ _ _ w hb h2.1 h2.2
          | some d => exact enter_4 g n _ _ _ _ w hb h2.1 h2.2
theorem rdnew_any (w : World) : Calls Tryz.prog 101 #[] w fun e w' => e = .returned (.pointer (some ⟨w.heap.size, 0, none⟩)) ∧ Bk w' w.heap.size 195 St.empty.cells ∧ Below w.heap.size w w' := by
  go_enter Tryz.func101, Tryz.ntmps101
  go_wp2_with fail
  go_ret
  exact ⟨rfl, Bk.new _ _ _, (Below.refl _ _).alloc (Nat.le_refl _) _⟩
end Go.Proofs.YtjbcbnemdhbhbaaGreatDoor
namespace Go.Proofs.YtjbcbnemdhbhbaaGreatDoor
open Go.RowKit
set_option maxRecDepth 100000
set_option linter.unusedVariables false
set_option linter.unusedSimpArgs false
structure Db (w : World) (b q r f g : Nat) (P : PgS) (s : St) : Prop where
  top : Bk w b 99 #[.pointer (some ⟨q, 0, none⟩), .pointer (some ⟨r, 0, none⟩), .pointer (some ⟨f, 0, none⟩), .slice none 0 0, .pointer none]
  pg : Pg w q [q] g P
  rd : Bk w r 195 s.cells
  fr : ∃ fcs, Bk w f 165 fcs ∧ fcs[0]? = some (.slice none 0 0)
theorem Db.off {w w' : World} {b q r f g : Nat} {P : PgS} {s : St} {U : List Nat} (h : Db w b q r f g P s) (ho : Off U w w') (hU : ∀ x ∈ [b, q, r, f], x ∉ U) : Db w' b q r f g P s := by
  obtain ⟨fcs, h1, h2⟩ := h.fr
  exact ⟨ho.bk h.top (hU b (by simp)), h.pg.off ho (fun x hx => by rw [List.mem_singleton] at hx; subst hx; exact hU x (by simp)), ho.bk h.rd (hU r (by simp)), fcs, ho.bk h1 (hU f (by simp)), h2⟩
theorem Db.below {w w' : World} {b q r f g : Nat} {P : PgS} {s : St} (h : Db w b q r f g P s) (hb : Below w.heap.size w w') : Db w' b q r f g P s := h.off (Off.of_below hb []) (by simp)
theorem Db.pgCell {w : World} {b q r f g : Nat} {P : PgS} {s : St} (h : Db w b q r f g P s) : ∃ cs, Bk w q 188 cs := by
  obtain ⟨sl, lg, hp⟩ := h.pg
  exact ⟨_, hp.cells⟩
theorem Db.ner {w : World} {b q r f g : Nat} {P : PgS} {s : St} (h : Db w b q r f g P s) : b ≠ r ∧ q ≠ r ∧ f ≠ r := by
  obtain ⟨cs, hp⟩ := h.pgCell
  obtain ⟨fcs, h1, -⟩ := h.fr
  exact ⟨h.top.ne h.rd (by decide), hp.ne h.rd (by decide), h1.ne h.rd (by decide)⟩
theorem Db.readers {w w' : World} {b q r f g : Nat} {P : PgS} {s s' : St} (h : Db w b q r f g P s) (ho : Off [r] w w') (hr : Bk w' r 195 s'.cells) : Db w' b q r f g P s' := by
  obtain ⟨n1, n2, n3⟩ := h.ner
  obtain ⟨fcs, h1, h2⟩ := h.fr
  exact ⟨ho.bk h.top (by simpa using n1), h.pg.off ho (fun x hx => by rw [List.mem_singleton] at hx; subst hx; simpa using n2), hr, fcs, ho.bk h1 (by simpa using n3), h2⟩
theorem mfld0 (t r f p l : Int) (W : World) : Sem.run Tryz.prog (Instr.field 40 (.agg #[.int .i64 t, .int .i64 r, .int .i64 f, .int .i64 p, .int .i64 l]) 0) W = .ok (.int .i64 t) W := by
  have h := Tryz.underlying40
  simp [Instr.field, run_underlying h, part, asAgg, go_sem]
theorem mfld2 (t r f p l : Int) (W : World) : Sem.run Tryz.prog (Instr.field 40 (.agg #[.int .i64 t, .int .i64 r, .int .i64 f, .int .i64 p, .int .i64 l]) 2) W = .ok (.int .i64 f) W := by
  have h := Tryz.underlying40
  simp [Instr.field, run_underlying h, part, asAgg, go_sem]
theorem Bk.setFive {w : World} {q : Nat} {t : TypeId} {v0 v1 v2 v3 v4 : Value} (h : Bk w q t #[v0, v1, v2, v3, v4]) (a0 a1 a2 a3 a4 : Value) :
    (w.setCell ⟨q, 0, none⟩ a0).cell? ⟨q, 0, none⟩ = some a0 ∧ ((w.setCell ⟨q, 0, none⟩ a0).setCell ⟨q, 1, none⟩ a1).cell? ⟨q, 1, none⟩ = some a1 ∧ (((w.setCell ⟨q, 0, none⟩ a0).setCell ⟨q, 1, none⟩ a1).setCell ⟨q, 2, none⟩ a2).cell? ⟨q, 2, none⟩ = some a2 ∧
    ((((w.setCell ⟨q, 0, none⟩ a0).setCell ⟨q, 1, none⟩ a1).setCell ⟨q, 2, none⟩ a2).setCell ⟨q, 3, none⟩ a3).cell? ⟨q, 3, none⟩ = some a3 ∧ (((((w.setCell ⟨q, 0, none⟩ a0).setCell ⟨q, 1, none⟩ a1).setCell ⟨q, 2, none⟩ a2).setCell ⟨q, 3, none⟩ a3).setCell ⟨q, 4, none⟩ a4).cell? ⟨q, 4, none⟩ = some a4 := by
  have h0 := h.put 0 a0
  have h1 := h0.put 1 a1
  have h2 := h1.put 2 a2
  have h3 := h2.put 3 a3
  have h4 := h3.put 4 a4
  exact ⟨h0.cell 0, h1.cell 1, h2.cell 2, h3.cell 3, h4.cell 4⟩
def SnapAt (w : World) (s b : Nat) (i : Int) (m : MetaV) (over : Bool) : Prop := Bk w s 115 #[.pointer (some ⟨b, 0, none⟩), .int .i64 i, .int .i64 m.t, .int .i64 m.r, .int .i64 m.f, .int .i64 m.p, .int .i64 m.l, .slice none 0 0, .bool over]
theorem smay_ok {w : World} {sp b : Nat} {i : Int} {m : MetaV} (h : SnapAt w sp b i m false) : Calls Tryz.prog 57 #[.pointer (some ⟨sp, 0, none⟩)] w (fun e w' => e = .returned (.int .i64 0) ∧ w = w') := by
  have c8 := Bk.cell h 8
  have ls := Bk.lt h
  clear h
  go_enter Tryz.func57, Tryz.ntmps57
  go_wp2_with fail
  go_ret
  exact ⟨rfl, rfl⟩
theorem smay_nil (w : World) : Calls Tryz.prog 57 #[.pointer none] w (fun e w' => e = .returned (.int .i64 2) ∧ w = w') := by
  go_enter Tryz.func57, Tryz.ntmps57
  go_wp2_with fail
  go_ret
  exact ⟨rfl, rfl⟩
end Go.Proofs.YtjbcbnemdhbhbaaGreatDoor
namespace Go.Proofs.YtjbcbnemdhbhbaaGreatDoor
open Go.RowKit
set_option maxRecDepth 100000
set_option linter.unusedVariables false
set_option linter.unusedSimpArgs false
theorem cnew_zero (T : TypeId) (v : Value) (w : World) : Calls Tryz.prog 75 #[.iface T v, .int .i64 0] w (fun e w' => e = .returned (.pointer (some ⟨w.heap.size, 0, none⟩)) ∧ Bk w' w.heap.size 215 #[.iface T v, .int .i64 0, .slice none 0 0] ∧ Below w.heap.size w w') := by
  go_enter Tryz.func75, Tryz.ntmps75
  go_wp2_with fail
  go_ret
  exact ⟨rfl, Bk.new w _ _, (Below.refl _ w).alloc (Nat.le_refl _) _⟩
set_option maxHeartbeats 4000000 in
theorem cfirst_zero (v : Value) (c : Nat) (w : World) (h : Bk w c 215 #[v, .int .i64 0, .slice none 0 0]) : Calls Tryz.prog 76 #[.pointer (some ⟨c, 0, none⟩)] w (fun e w' => e = .returned (.tuple #[.bool false, .int .i64 0]) ∧ Off [c] w w') := by
  have HB : Hid (∀ f : Value, Calls Tryz.prog 137 #[.pointer (some ⟨c, 0, none⟩), f] w (fun e w' => e = .returned (.tuple #[.bool false, .int .i64 0]) ∧ Off [c] w w')) := fun f => by
    have c1 := h.cell 1
    have c2 := h.cell 2
    have f2 := h.frozen 2
    have lc := h.lt
    clear h
    go_enter Tryz.func137, Tryz.ntmps137
    go_wp2_with fail
    go_ret2
    exact ⟨rfl, (Off.refl [c] w).setCell (p := ⟨c, 2, none⟩) (.inl (by simp)) _⟩
  clear h
  go_enter Tryz.func76, Tryz.ntmps76
  go_wp2_with fail
  refine (HB.out _).mono ?_
  rintro e w1 ⟨rfl, hb⟩
  have HE := Lib.hid hb
  clear hb
  go_wp2_with fail
  go_ret2
  exact ⟨rfl, HE.out⟩
theorem grow_zero (w : World) : Calls Tryz.prog 136 #[.slice none 0 0, .int .i64 0] w (fun e w' => e = .returned (.slice none 0 0) ∧ w = w') := by
  go_enter Tryz.func136, Tryz.ntmps136
  go_wp2_with fail
  go_ret
  exact ⟨rfl, rfl⟩
end Go.Proofs.YtjbcbnemdhbhbaaGreatDoor
namespace Go.Proofs.YtjbcbnemdhbhbaaGreatDoor
open Go.RowKit
set_option maxRecDepth 100000
set_option linter.unusedVariables false
set_option linter.unusedSimpArgs false
set_option maxHeartbeats 16000000 in
theorem snames_ok {w : World} {b q r f g sp : Nat} {P : PgS} {s : St} {i t ff p l : Int} (h : Db w b q r f g P s) (hs : SnapAt w sp b i ⟨t, 0, ff, p, l⟩ false) : Calls Tryz.prog 90 #[.pointer (some ⟨sp, 0, none⟩)] w (fun e w' => e = .returned (.tuple #[.slice none 0 0, .int .i64 0]) ∧ Below w.heap.size w w') := by
  have HM := Lib.hid (smay_ok hs)
  have ls := Bk.lt hs
  have lb := h.top.lt
  have HKS := Lib.hid (show ∀ W, Below w.heap.size w W → W.cell? ⟨sp, 0, none⟩ = some (.pointer (some ⟨b, 0, none⟩)) ∧ W.cell? ⟨b, 0, none⟩ = some (.pointer (some ⟨q, 0, none⟩)) ∧ W.cell? ⟨sp, 3, none⟩ = some (.int .i64 0) from fun W hW => ⟨(bk_below hs hW).cell 0, (bk_below h.top hW).cell 0, (bk_below hs hW).cell 3⟩)
  have HN := Lib.hid fun (T : TypeId) (v : Value) (W : World) => cnew_zero T v W
  clear h hs
  go_enter Tryz.func90, Tryz.ntmps90
  go_wp2_with fail
  refine HM.out.mono ?_
  rintro e w1 ⟨rfl, rfl⟩
  go_wp2_with fail
  go_region_held3 (fun W => W.cell? ⟨sp, 0, none⟩ = some (.pointer (some ⟨b, 0, none⟩)) ∧ W.cell? ⟨b, 0, none⟩ = some (.pointer (some ⟨q, 0, none⟩)) ∧ W.cell? ⟨sp, 3, none⟩ = some (.int .i64 0)) (first | exact HKS.out _ (Below.refl _ _).drew | exact HKS.out _ hk3.out) (first
    | (go_at_call 75; refine (HN.out _ _ _).mono ?_; rintro e w3 ⟨rfl, hc3, hb3⟩; have HC3 := Lib.hid hc3; have hk3 := Lib.hid ((Below.refl w.heap.size w).drew.trans (hb3.mono (by simp))); clear hc3 hb3)
    | fail)
  all_goals
    have lc3 := HC3.out.lt
    go_wp2_with fail
    refine (cfirst_zero _ _ _ HC3.out).mono ?_
    rintro e w4 ⟨rfl, ho4⟩
    have HO4 := Lib.hid ho4
    clear ho4
    go_wp2_with fail
    refine wp_loop_rounds 2 ?_
    rw [rounds_succ]
    go_wp2_with fail
    go_ret2
    exact ⟨rfl, ((Off.of_below hk3.out []).then HO4.out (fun x hx => by rw [List.mem_singleton] at hx; subst hx; exact .inr (by simp))).below (Nat.le_refl _) (by simp)⟩
end Go.Proofs.YtjbcbnemdhbhbaaGreatDoor
namespace Go.Proofs.YtjbcbnemdhbhbaaGreatDoor
open Go.RowKit
set_option maxRecDepth 100000
set_option linter.unusedVariables false
set_option linter.unusedSimpArgs false
theorem kvformat_any {L : Ending → World → Prop} {a : Value} {n : Int} {w : World} (h : Calls Tryz.prog 98 #[a, .int .i64 n] w (fun e w' => (∃ x : Int, e = .returned (.int .i64 x)) ∧ L e w')) : Calls Tryz.prog 42 #[a, .int .i64 n] w L := by
  have H := Lib.hid h
  clear h
  go_enter Tryz.func42, Tryz.ntmps42
  go_wp2_with fail
  refine H.out.mono ?_
  rintro e w1 ⟨⟨v, rfl⟩, hl⟩
  have HL := Lib.hid hl
  clear hl
  go_wp2_with fail
  exact HL.out
end Go.Proofs.YtjbcbnemdhbhbaaGreatDoor
namespace Go.Proofs.YtjbcbnemdhbhbaaGreatDoor
open Go.RowKit
set_option maxRecDepth 100000
set_option linter.unusedVariables false
set_option linter.unusedSimpArgs false
set_option maxHeartbeats 4000000 in
theorem anames_ok {w : World} {b q r f g sp : Nat} {P : PgS} {s : St} {i t ff p l : Int} (h : Db w b q r f g P s) (hs : SnapAt w sp b i ⟨t, 0, ff, p, l⟩ false) : Calls Tryz.prog 35 #[.pointer (some ⟨sp, 0, none⟩)] w (fun e w' => e = .returned (.tuple #[.slice none 0 0, .int .i64 0]) ∧ Below w.heap.size w w') := by
  have HM := Lib.hid (snames_ok h hs)
  clear h hs
  go_enter Tryz.func35, Tryz.ntmps35
  go_wp2_with fail
  refine HM.out.mono ?_
  rintro e w1 ⟨rfl, hb⟩
  have HB := Lib.hid hb
  clear hb
  go_wp2_with fail
  go_ret2
  exact ⟨rfl, HB.out⟩
set_option maxHeartbeats 4000000 in
theorem each_ok {w : World} {b q r f g sp : Nat} {P : PgS} {s : St} {i t ff p l : Int} (v : Value) (h : Db w b q r f g P s) (hs : SnapAt w sp b i ⟨t, 0, ff, p, l⟩ false) : Calls Tryz.prog 87 #[.pointer (some ⟨sp, 0, none⟩), v] w (fun e w' => e = .returned (.int .i64 0) ∧ Below w.heap.size w w') := by
  have HM := Lib.hid (anames_ok h hs)
  clear h hs
  go_enter Tryz.func87, Tryz.ntmps87
  go_wp2_with fail
  refine HM.out.mono ?_
  rintro e w1 ⟨rfl, hb⟩
  have HB := Lib.hid hb
  clear hb
  go_wp2_with fail
  refine wp_loop_rounds 2 ?_
  rw [rounds_succ]
  go_wp2_with fail
  go_ret
  exact ⟨rfl, HB.out⟩
def repCells (t : Int) : Array Value := #[.int .i64 t, .int .i64 0, .int .i64 0, .int .i64 0, .int .i64 0, .int .i64 0, .int .i64 0, .int .i64 0]
theorem Db.old {w : World} {b q r f g : Nat} {P : PgS} {s : St} (h : Db w b q r f g P s) : ∀ x ∈ [b, q, r, f], x < w.heap.size := fun x hx => by
  obtain ⟨cs, hp⟩ := h.pgCell
  obtain ⟨fcs, h1, -⟩ := h.fr
  simp only [List.mem_cons, List.not_mem_nil, or_false] at hx
  rcases hx with rfl | rfl | rfl | rfl
  · exact h.top.lt
  · exact hp.lt
  · exact h.rd.lt
  · exact h1.lt
def repOf (b q r f g sp : Nat) (P : PgS) (s : St) (i : Int) (R : Nat) (w W : World) : Prop := Db W b q r f g P s ∧ SnapAt W sp b i ⟨1, 0, 0, 1, 20⟩ false ∧ Bk W R 69 (repCells 0) ∧ Off [r] w W
theorem repOf.names {b q r f g sp : Nat} {P : PgS} {s : St} {i : Int} {R : Nat} {w W : World} (h : repOf b q r f g sp P s i R w W) : Calls Tryz.prog 35 #[.pointer (some ⟨sp, 0, none⟩)] W (fun e w' => e = .returned (.tuple #[.slice none 0 0, .int .i64 0]) ∧ Below W.heap.size W w') := anames_ok h.1 h.2.1
theorem repOf.each {b q r f g sp : Nat} {P : PgS} {s : St} {i : Int} {R : Nat} {w W : World} (h : repOf b q r f g sp P s i R w W) (v : Value) : Calls Tryz.prog 87 #[.pointer (some ⟨sp, 0, none⟩), v] W (fun e w' => e = .returned (.int .i64 0) ∧ Below W.heap.size W w') := each_ok v h.1 h.2.1
theorem repOf.below {b q r f g sp : Nat} {P : PgS} {s : St} {i : Int} {R : Nat} {w W W' : World} (h : repOf b q r f g sp P s i R w W) (hb : Below W.heap.size W W') : repOf b q r f g sp P s i R w W' :=
  ⟨h.1.below hb, bk_below h.2.1 hb, bk_below h.2.2.1 hb, h.2.2.2.trans (Off.of_below hb [r])⟩
end Go.Proofs.YtjbcbnemdhbhbaaGreatDoor
namespace Go.Proofs.YtjbcbnemdhbhbaaGreatDoor
open Go.RowKit
theorem own_formK {w : World} {B : Nat} {e : TypeId} {s n : Nat} {v : Value} {xs : List Value} (h : w.ownsRow B e s v n xs) : ∃ A c, v = .slice A n c ∧ (n ≠ 0 → ∃ g, A = some ⟨g, 0, none⟩) ∧ c ≤ maxLen := by
  rcases h.2 with ⟨rfl, rfl⟩ | ⟨g, cap, _, rfl, _, _, _, hc, _⟩
  · exact ⟨none, 0, rfl, fun h => absurd rfl h, Nat.zero_le _⟩
  · exact ⟨_, cap, rfl, fun _ => ⟨g, rfl⟩, hc⟩
section
variable {P : Program} (w : World)
theorem run_append_k (base : Nat) (t ty e : TypeId) (i : TypeInfo) (z : Value) (size bytes : Nat) (ht : P.underlying t = some (.slice e)) (hi : P.info? e = some i) (hz : i.zero = some z)
    (hsize : i.size = size) (hby : i.bytes = bytes) (hzs : z.cells.size = size) (h0 : 0 < size)
    (v : Value) (n : Nat) (xs : List Value) (hown : w.ownsRow base e size v n xs)
    (A : Option Addr) (m c : Nat) (news : List Value) (hm : news.length = m * size) (hA : A = none → m = 0) (hr : ∀ ad, A = some ad → ∀ j u, news[j]? = some u → w.cell? (ad.add j) = some u) (h1 : ∀ u ∈ news, u.oneCell' = true)
    (h63 : n + m ≤ maxLen) (hbytes : (n + m) * bytes ≤ 140737488355328) (hbase : base ≤ w.heap.size) :
    ∃ v' w', (Builtin.append_ #[t, t] ty #[v, .slice A m c]).run P w = .ok v' w' ∧ w'.ownsRow base e size v' (n + m) (xs ++ news) ∧ w.grownBy w' v.ownBlock ∧
      (v'.ownBlock = v.ownBlock ∨ v'.ownBlock = some w.heap.size) := by
  rcases A with _ | ad
  · have hm0 := hA rfl
    subst hm0
    have hn : news = [] := List.eq_nil_of_length_eq_zero (by omega)
    subst hn
    exact ⟨v, w, run_append_nil w base t ty e i size ht hi v n xs hown c, by simpa using hown, World.grownBy.refl w _, .inl rfl⟩
  · obtain ⟨v', w', hrun, h2, h3, _, h5⟩ := run_append_own_at (P := P) w base t ty e i z size bytes ht hi hz hsize hby hzs h0 v n xs hown ad m c news hm (hr ad rfl) h1 h63 hbytes hbase
    exact ⟨v', w', hrun, h2, h3, h5⟩
theorem wpList_append_k {ops : Array Oper} {rest : List Oper} {o : Oper} {a : Act} {Q : Exit → Act → World → Prop} (hgd : o.guard = none) (s x : Operand) (t : TypeId)
    (ho : o.op = .call { callee := .builtin .append, args := #[s, x], argTypes := #[t, t] })
    (base : Nat) (e : TypeId) (i : TypeInfo) (z : Value) (size bytes : Nat) (ht : P.underlying t = some (.slice e)) (hi : P.info? e = some i) (hz : i.zero = some z)
    (hsize : i.size = size) (hby : i.bytes = bytes) (hzs : z.cells.size = size) (h0 : 0 < size)
    (v : Value) (n : Nat) (xs : List Value) (hs : a.eval s = v) (hown : w.ownsRow base e size v n xs)
    (A : Option Addr) (m c : Nat) (news : List Value) (hx : a.eval x = .slice A m c) (hm : news.length = m * size) (hA : A = none → m = 0) (hr : ∀ ad, A = some ad → ∀ j u, news[j]? = some u → w.cell? (ad.add j) = some u) (h1 : ∀ u ∈ news, u.oneCell' = true)
    (h63 : n + m ≤ maxLen) (hbytes : (n + m) * bytes ≤ 140737488355328) (hbase : base ≤ w.heap.size)
    (h : ∀ A' c' w', w'.ownsRow base e size (.slice A' (n + m) c') (n + m) (xs ++ news) → w.grownBy w' v.ownBlock → wpList P ops Q rest (a.put o.dst (.slice A' (n + m) c')) w') : wpList P ops Q (o :: rest) a w := by
  refine wpList_plain hgd fun K hK => ?_
  obtain ⟨v', w', hrun, h2, h3, h4⟩ := run_append_k (P := P) w base t o.type e i z size bytes ht hi hz hsize hby hzs h0 v n xs hown A m c news hm hA hr h1 h63 hbytes hbase
  obtain ⟨A', c', rfl, -, -⟩ := own_formK h2
  unfold Oper.wp execOp
  simp only [ho, resolve, invoke, builtin, Sem.run_bind, Sem.run_pure, Result.andThen_ok, List.map_toArray, List.map_cons, List.map_nil, hs, hx, hrun]
  exact hK _ _ (h A' c' w' h2 h3)
end
end Go.Proofs.YtjbcbnemdhbhbaaGreatDoor
namespace Go.Proofs.YtjbcbnemdhbhbaaGreatDoor
open Go.RowKit
open Go.PlainAid Go.Sort Go.Shelf
set_option maxRecDepth 100000
set_option linter.unusedVariables false
set_option linter.unusedSimpArgs false
set_option linter.unnecessarySimpa false
def srt (l : List Int) : List Int := l.mergeSort fun x y => decide (x ≤ y)
theorem srt_len (l : List Int) : (srt l).length = l.length := by unfold srt; rw [List.length_mergeSort]
def SortPost (base : Nat) (v : Value) (zs : List Int) (w : World) (e : Ending) (w' : World) : Prop :=
  e = .returned (.tuple #[]) ∧ w'.ownsRow base 3 1 v zs.length ((srt zs).map (Value.int .i64)) ∧ w.grownBy w' v.ownBlock
theorem sort_own (base : Nat) (v : Value) (zs : List Int) (w : World) (h : w.ownsRow base 3 1 v zs.length (zs.map (Value.int .i64))) (hl : zs.length ≤ 1000) :
    Calls Tryz.prog 79 #[v] w (SortPost base v zs w) := by
  have h0 := h
  rcases h.2 with ⟨rfl, hn⟩ | ⟨g, cap, cur, rfl, hb, hh, hc, hm, hs, ht⟩
  · obtain rfl : zs = [] := List.eq_nil_of_length_eq_zero hn
    refine (AnyM.slices_Sort_int_none Tryz.sortA none 0 w).mono ?_
    rintro e w' ⟨rfl, rfl⟩
    exact ⟨rfl, by simpa [srt] using h0, World.grownBy.refl _ _⟩
  · have hH := holds_of_blockI (ss := zs) hh (by rw [Nat.mul_one] at ht; exact ht)
    refine (AnyM.slices_Sort_int Tryz.sortA g 0 cap zs w hH (lt_of_block hh) (by omega)).mono ?_
    rintro e w' ⟨rfl, n, os, rfl⟩
    exact ⟨rfl, ownsRow_sortedI (ts := srt zs) (srt_len zs) hb hh hc hm hs, grownBy_sortedI _⟩
def St.liveK (s : St) : Nat → List Int
  | 0 => []
  | 1 => s.a.toList
  | 2 => s.a.toList ++ s.b.toList
  | 3 => s.a.toList ++ s.b.toList ++ s.c.toList
  | _ => s.a.toList ++ s.b.toList ++ s.c.toList ++ s.d.toList
def St.live (s : St) : List Int := s.a.toList ++ s.b.toList ++ s.c.toList ++ s.d.toList
theorem St.liveK_le (s : St) (k : Nat) : (s.liveK k).length ≤ 4 := by
  obtain ⟨a, b, c, d⟩ := s
  match k with
  | 0 => simp [St.liveK]
  | 1 => cases a <;> simp [St.liveK]
  | 2 => cases a <;> cases b <;> simp [St.liveK]
  | 3 => cases a <;> cases b <;> cases c <;> simp [St.liveK]
  | k + 4 => cases a <;> cases b <;> cases c <;> cases d <;> simp [St.liveK]
def LiveAt (w : World) (s : St) (k : Nat) (v : Value) (wr : World) : Prop :=
  k ≤ 4 ∧ wr.ownsRow w.heap.size 3 1 v (s.liveK k).length ((s.liveK k).map (Value.int .i64)) ∧ Below w.heap.size w wr
def LivePost (zs : List Int) (w : World) (e : Ending) (w' : World) : Prop :=
  ∃ v, e = .returned v ∧ w'.ownsRow w.heap.size 3 1 v zs.length (zs.map (Value.int .i64)) ∧ Below w.heap.size w w'
theorem info_intL : (Tryz.prog.info? 3).map (fun i => (i.zero, i.size, i.bytes)) = some (some (.int .i64 0), 1, 8) := by kernel_rfl
theorem idx0 (t0 t1 t2 t3 : Int) (u0 u1 u2 u3 : Bool) (W : World) : (Instr.index 193 (.agg (slotCells t0 u0 t1 u1 t2 u2 t3 u3)) (.int .i64 0)).run Tryz.prog W = .ok (.agg #[.int .i64 t0, .bool u0]) W := by kernel_rfl
theorem idx1 (t0 t1 t2 t3 : Int) (u0 u1 u2 u3 : Bool) (W : World) : (Instr.index 193 (.agg (slotCells t0 u0 t1 u1 t2 u2 t3 u3)) (.int .i64 1)).run Tryz.prog W = .ok (.agg #[.int .i64 t1, .bool u1]) W := by kernel_rfl
theorem idx2 (t0 t1 t2 t3 : Int) (u0 u1 u2 u3 : Bool) (W : World) : (Instr.index 193 (.agg (slotCells t0 u0 t1 u1 t2 u2 t3 u3)) (.int .i64 2)).run Tryz.prog W = .ok (.agg #[.int .i64 t2, .bool u2]) W := by kernel_rfl
theorem idx3 (t0 t1 t2 t3 : Int) (u0 u1 u2 u3 : Bool) (W : World) : (Instr.index 193 (.agg (slotCells t0 u0 t1 u1 t2 u2 t3 u3)) (.int .i64 3)).run Tryz.prog W = .ok (.agg #[.int .i64 t3, .bool u3]) W := by kernel_rfl
theorem sl_one (W : World) (e : TypeId) (v : Value) : Sl (W.alloc (.cells #[v] e)) (some ⟨W.heap.size, 0, none⟩) [v] := by
  intro j u hu
  cases j with
  | zero =>
    simp at hu
    subst hu
    have hb := Bk.new W e #[v]
    exact ⟨W.heap.size, 0, rfl, hb.lt, by simpa using hb.cell 0⟩
  | succ j => simp at hu
set_option maxHeartbeats 4000000 in
theorem live_any (g : Nat) (s : St) (w : World) (hb : Bk w g 195 s.cells) :
    Calls Tryz.prog 62 #[.pointer (some ⟨g, 0, none⟩)] w (LivePost (srt s.live) w) := by
  have HS := Lib.hid (show LiveAt w s 0 (.slice none 0 0) w from ⟨by omega, World.ownsRow_nil _ _ _ _, Below.refl _ _⟩)
  have hb' : Bk w g 195 (slotCells (s.a.getD 0) s.a.isSome (s.b.getD 0) s.b.isSome (s.c.getD 0) s.c.isSome (s.d.getD 0) s.d.isSome) := hb
  have HL : Hid (∀ k, k < 4 → ∃ (t : Int) (u : Bool), (u = true ∧ s.liveK (k + 1) = s.liveK k ++ [t] ∨ u = false ∧ s.liveK (k + 1) = s.liveK k) ∧ ∀ W : World, (Instr.index 193 (.agg (slotCells (s.a.getD 0) s.a.isSome (s.b.getD 0) s.b.isSome (s.c.getD 0) s.c.isSome (s.d.getD 0) s.d.isSome)) (.int .i64 (k : Int))).run Tryz.prog W = .ok (.agg #[.int .i64 t, .bool u]) W) := by
    intro k hk
    obtain ⟨a, b, c, d⟩ := s
    have : k = 0 ∨ k = 1 ∨ k = 2 ∨ k = 3 := by omega
    rcases this with rfl | rfl | rfl | rfl
    · exact ⟨_, _, by cases a <;> simp [St.liveK], idx0 _ _ _ _ _ _ _ _⟩
    · exact ⟨_, _, by cases b <;> simp [St.liveK], idx1 _ _ _ _ _ _ _ _⟩
    · exact ⟨_, _, by cases c <;> simp [St.liveK], idx2 _ _ _ _ _ _ _ _⟩
    · exact ⟨_, _, by cases d <;> simp [St.liveK], idx3 _ _ _ _ _ _ _ _⟩
  generalize s.a.getD 0 = t0 at *
  generalize s.a.isSome = b0 at *
  generalize s.b.getD 0 = t1 at *
  generalize s.b.isSome = b1 at *
  generalize s.c.getD 0 = t2 at *
  generalize s.c.isSome = b2 at *
  generalize s.d.getD 0 = t3 at *
  generalize s.d.isSome = b3 at *
  obtain ⟨c0, c1, c2, c3, c4, c5, c6, c7⟩ := hb'.eight
  have HG := Lib.hid hb'.lt
  clear hb hb'
  go_enter Tryz.func62, Tryz.ntmps62
  go_wp2_with fail
  clear c0 c1 c2 c3 c4 c5 c6 c7
  go_loopw [3, 12] (fun v i wr => ∃ k : Nat, i = .int .i64 k ∧ LiveAt w s k v wr) (fun _ i _ => 4 - (intOf i).toNat)
  case atStart => exact ⟨0, rfl, HS.out⟩
  case round =>
    clear HS
    obtain ⟨k, rfl, hk, hown, hbl⟩ := hrel
    have hkl := s.liveK_le k
    by_cases h4 : k < 4
    · obtain ⟨t, u, hu, hix⟩ := HL.out k h4
      have HBL := Lib.hid hbl
      have hws := hbl.size
      rcases hu with ⟨rfl, hlk⟩ | ⟨rfl, hlk⟩
      · have HLK := Lib.hid hlk
        have HOWN := Lib.hid ((hown.alloc (.cells #[.int .i64 t, .bool true] 192)).alloc (.cells #[.int .i64 t] 3))
        obtain ⟨i0, hi, hz0, hz1, hz2⟩ := info_parts info_intL
        clear hlk hbl hown
        have HSL := Lib.hid (show Sl ((wr.alloc (.cells #[.int .i64 t, .bool true] 192)).alloc (.cells #[.int .i64 t] 3)) (some ⟨wr.heap.size + 1, 0, none⟩) [.int .i64 t] by
          have := sl_one (wr.alloc (.cells #[.int .i64 t, .bool true] 192)) 3 (.int .i64 t)
          simpa using this)
        go_wp2_with (at_builtin; refine wpList_append_sl _ rfl (.tmp 17) (.tmp 20) 51 rfl w.heap.size 3 i0 (.int .i64 0) 8 Tryz.underlying51 hi hz0 hz1 hz2 rfl u3 _ _ rfl HOWN.out (some ⟨wr.heap.size + 1, 0, none⟩) 1 1 [.int .i64 t] rfl rfl HSL.out (by simp [Value.oneCell']) (by unfold maxLen; omega) (by omega) (by simp; omega) ?_; intro v5 w5 hown5 hgrow5 hat5)
        have hb5 : Below w.heap.size w w5 := ((HBL.out.alloc hws _).alloc (by simp; omega) _).grown hgrow5 (by simp; omega) (fun k hk => ((HOWN.out).lt k hk).1)
        go_roundw
        case rel => exact ⟨k + 1, by go_num, by omega, by rw [HLK.out]; simpa using hown5, hb5⟩
        case measure => simp [intOf]; omega
      · have HLK := Lib.hid hlk
        have HOWN := Lib.hid (hown.alloc (.cells #[.int .i64 t, .bool false] 192))
        clear hlk hbl hown
        go_wp2_with fail
        go_roundw
        case rel => exact ⟨k + 1, by go_num, by omega, by rw [HLK.out]; exact HOWN.out, HBL.out.alloc hws _⟩
        case measure => simp [intOf]; omega
    · obtain rfl : k = 4 := by omega
      have HSO := Lib.hid (sort_own w.heap.size u3 (s.liveK 4) wr hown (by omega))
      have HBL := Lib.hid hbl
      have HOWN := Lib.hid hown
      rw [show ((4 : Nat) : Int) = 4 from rfl]
      clear hown hbl HL hk h4
      go_wp2_with fail
      refine HSO.out.mono ?_
      rintro e w6 ⟨rfl, hown6, hgrow6⟩
      have hb6 : Below w.heap.size w w6 := HBL.out.grown hgrow6 HBL.out.size (fun k hk => (HOWN.out.lt k hk).1)
      go_wp2_with fail
      go_ret
      exact ⟨_, rfl, by rw [srt_len]; exact hown6, hb6⟩
def TellsN (n : Int) (w : World) (e : Ending) (w' : World) : Prop := e = .returned (.int .i64 n) ∧ Below w.heap.size w w'
theorem tellsN_of {n m : Int} {w w' : World} (h : n = m) (hb : Below w.heap.size w w') : TellsN n w (.returned (.int .i64 m)) w' := by subst h; exact ⟨rfl, hb⟩
def oldestOf (l : List Int) (now : Int) : Int := match l with | [] => now | x :: _ => min now x
def St.oldest (s : St) (now : Int) : Int := oldestOf (srt s.live) now
set_option maxHeartbeats 4000000 in
theorem oldest_any (g : Nat) (now : Int) (s : St) (w : World) (hb : Bk w g 195 s.cells) :
    Calls Tryz.prog 170 #[.pointer (some ⟨g, 0, none⟩), .int .i64 now] w (TellsN (s.oldest now) w) := by
  have HL := live_any g s w hb
  have HE := Lib.hid (show s.oldest now = oldestOf (srt s.live) now from rfl)
  have hll : (srt s.live).length ≤ 4 := by rw [srt_len]; exact s.liveK_le 4
  generalize srt s.live = zs at *
  have HL2 := Lib.hid HL
  clear HL hb
  go_enter Tryz.func170, Tryz.ntmps170
  go_wp2_with fail
  refine HL2.out.mono ?_
  rintro e w1 ⟨v, rfl, hown, hb1⟩
  obtain ⟨A, c, rfl, hc1, hc2, hn, hsl, _⟩ := own_slice hown
  have HB1 := Lib.hid hb1
  clear hown hb1 hn
  cases zs with
  | nil =>
    clear hsl
    go_wp2_with fail
    go_ret
    exact tellsN_of (by rw [HE.out]; rfl) HB1.out
  | cons x l =>
    obtain ⟨b, o, rfl, hlt, hcell⟩ := hsl 0 (.int .i64 x) rfl
    simp only [Nat.add_zero] at hcell
    have hl2 : l.length ≤ 3 := by simpa using hll
    rw [show ((x :: l).length) = l.length + 1 from rfl]
    rw [show ((x :: l).length) = l.length + 1 from rfl] at hc1
    have HE2 := Lib.hid (show s.oldest now = min now x from HE.out)
    generalize l.length = m at *
    clear hsl hll HE
    go_wp2_with fail
    go_ret
    exact tellsN_of HE2.out HB1.out
end Go.Proofs.YtjbcbnemdhbhbaaGreatDoor
namespace Go.Proofs.YtjbcbnemdhbhbaaGreatDoor
open Go.RowKit
set_option maxRecDepth 100000
set_option linter.unusedVariables false
set_option linter.unusedSimpArgs false
def TellsGI (n : Nat) (w : World) (e : Ending) (w' : World) : Prop := Below w.heap.size w w' ∧ ∃ v, e = .returned v ∧ w'.ownsRow w.heap.size 3 1 v 0 []
set_option maxHeartbeats 4000000 in
theorem growi_pos (n : Nat) (w : World) (h0 : 0 < n) (hn : n ≤ 10000) : Calls Tryz.prog 136 #[.slice none 0 0, .int .i64 n] w (TellsGI n w) := by
  obtain ⟨i0, hi, iz0, iz1, iz2⟩ := info_parts info_int
  have z1 : decide ((n : Int) < 0) = false := decide_eq_false (by omega)
  have z2 : decide ((0 : Int) < (n : Int)) = true := decide_eq_true (by omega)
  have hbd := nextslicecap_le_wide (need := 0 + n) (old := 0) (by omega)
  have HAP := Lib.hid fun (W : World) => Lib.run_append_grow_zeros (P := Tryz.prog) W 51 3 51 3 i0 _ .i64 .i64 Tryz.underlying51 Tryz.underlying3 hi iz0 none 0 0 [] (by simp [Builtin.firstCells]) n h0 (by rw [iz1]; omega) (by omega) (by omega) (by rw [iz2]; omega) (by rw [iz2]; have := Nat.mul_le_mul_right 8 hbd; omega)
  have hap : ∀ W : World, ∃ c, n ≤ c ∧ ∃ cur : Array Value, cur.size = c * 1 ∧ c ≤ maxLen ∧ (Builtin.append_ #[51, 3] 51 #[.slice none 0 0, .int .i64 n]).run Tryz.prog W = .ok (.slice (some ⟨W.heap.size, 0, none⟩) n c) (W.drew.alloc (.cells cur 3)) := fun W => by
    have h := HAP.out W
    rw [Nat.zero_add] at h
    have hge := grownCap_ge W n 0 3
    refine ⟨_, hge, _, ?_, grownCap_le_maxLen W n 0 _ (by unfold maxLen; omega), h⟩
    have e5 : (Value.int .i64 0).cells.size = 1 := rfl
    simp only [Array.size_append, size_zeroCells, e5]
    simp
    omega
  obtain ⟨c, hc, cur, hcs, hcm, HW⟩ := hap w
  have HC := Lib.hid hcs
  have hcb : c ≤ 9223372036854775807 := by unfold maxLen at hcm; omega
  have HM := Lib.hid hcm
  have HWR := Lib.hid HW
  clear hbd hap hcs hcm HAP HW
  go_enter Tryz.func136, Tryz.ntmps136
  go_wp2_with (at_builtin; refine wpList_append_run rfl (.tmp 20) (.tmp 21) 51 3 rfl _ _ _ _ rfl rfl HWR.out ?_)
  go_ret
  refine ⟨(Below.refl _ w).drew.alloc (Nat.le_refl _) _, _, rfl, ?_⟩
  refine ⟨rfl, .inr ⟨w.heap.size, c, cur, rfl, Nat.le_refl _, ?_, Nat.zero_le _, HM.out, HC.out, rfl⟩⟩
  exact heap_alloc_new w.drew _
theorem growi_any (n : Nat) (w : World) (hn : n ≤ 10000) : Calls Tryz.prog 136 #[.slice none 0 0, .int .i64 n] w (TellsGI n w) := by
  by_cases h : 0 < n
  · exact growi_pos n w h hn
  · obtain rfl : n = 0 := by omega
    refine (grow_zero w).mono ?_
    rintro e w' ⟨rfl, rfl⟩
    exact ⟨Below.refl _ _, _, rfl, World.ownsRow_nil _ _ _ _⟩
set_option maxHeartbeats 16000000 in
theorem concat3_any {w : World} {k : Nat} {A0 A1 A2 : Option Addr} {c0 c1 c2 : Nat} {l0 l1 l2 : List Nat} (h : Bk w k 51 #[.slice A0 l0.length c0, .slice A1 l1.length c1, .slice A2 l2.length c2]) (h0 : Sl w A0 (ints l0)) (h1 : Sl w A1 (ints l1)) (h2 : Sl w A2 (ints l2)) (hl : l0.length + l1.length + l2.length ≤ 10000) :
    Calls Tryz.prog 74 #[.slice (some ⟨k, 0, none⟩) 3 3] w (fun e w' => Below w.heap.size w w' ∧ ∃ A c, e = .returned (.slice A (l0 ++ (l1 ++ l2)).length c) ∧ w'.ownsRow w.heap.size 3 1 (.slice A (l0 ++ (l1 ++ l2)).length c) (l0 ++ (l1 ++ l2)).length (ints (l0 ++ (l1 ++ l2)))) := by
  obtain ⟨i0, hi, iz0, iz1, iz2⟩ := info_parts info_int
  have q0 := h.cell 0
  have q1 := h.cell 1
  have q2 := h.cell 2
  have lk := h.lt
  have HK := Lib.hid h
  have HS0 := Lib.hid h0
  have HS1 := Lib.hid h1
  have HS2 := Lib.hid h2
  obtain ⟨n0, hn0⟩ : ∃ n, n = l0.length := ⟨_, rfl⟩
  obtain ⟨n1, hn1⟩ : ∃ n, n = l1.length := ⟨_, rfl⟩
  obtain ⟨n2, hn2⟩ : ∃ n, n = l2.length := ⟨_, rfl⟩
  rw [← hn0] at q0
  rw [← hn1] at q1
  rw [← hn2] at q2
  have HN0 := Lib.hid hn0
  have HN1 := Lib.hid hn1
  have HN2 := Lib.hid hn2
  have b0 : n0 ≤ 10000 := by omega
  have b1 : n0 + n1 ≤ 10000 := by omega
  have b2 : n0 + n1 + n2 ≤ 10000 := by omega
  have y0 : decide (((0 : Int) + (n0 : Int)) < 0) = false := decide_eq_false (by omega)
  have y1 : decide (((n0 : Int) + (n1 : Int)) < 0) = false := decide_eq_false (by omega)
  have y2 : decide (((n0 : Int) + (n1 : Int) + (n2 : Int)) < 0) = false := decide_eq_false (by omega)
  have HG := Lib.hid fun (W : World) => growi_any (n0 + n1 + n2) W b2
  clear h h0 h1 h2 hn0 hn1 hn2 hl
  go_enter Tryz.func74, Tryz.ntmps74
  go_wp2_with fail
  refine wp_loop_rounds 5 ?_
  rw [rounds_succ]
  go_wp2_with fail
  rw [rounds_succ]
  go_wp2_with fail
  rw [rounds_succ]
  go_wp2_with fail
  rw [rounds_succ]
  go_wp2_with fail
  refine (HG.out _).mono ?_
  rintro e w1 ⟨hb1, v0, rfl, hown0⟩
  have HB1 := Lib.hid hb1
  have hk1 := bk_below HK.out hb1
  have HO0 := Lib.hid hown0
  clear hb1 hown0
  have r0 := hk1.cell 0
  have lk1 := hk1.lt
  rw [← HN0.out] at r0
  clear hk1 q0 q1 q2 lk
  go_wp2_with fail
  refine wp_loop_rounds 5 ?_
  rw [rounds_succ]
  go_wp2_with (at_builtin; refine wpList_append_sl _ rfl (.tmp 31) (.tmp 32) 51 rfl w.heap.size 3 i0 (.int .i64 0) 8 Tryz.underlying51 hi iz0 iz1 iz2 rfl v0 0 [] rfl HO0.out A0 n0 c0 (ints l0) (by rw [HN0.out, ints_len]) rfl (HS0.out.below HB1.out) (ints_one l0) (by unfold maxLen; omega) (by omega) HB1.out.size ?_; intro v1 w2 hown hgrow hiff)
  have HO1 := Lib.hid hown
  have HB2 := Lib.hid (((Off.of_below HB1.out []).grown hgrow (fun g hg => .inr (HO0.out.lt g hg).1)).below (Nat.le_refl _) (by simp))
  have hk2 := bk_below HK.out HB2.out
  have r1 := hk2.cell 1
  rw [← HN1.out] at r1
  have lk2 := hk2.lt
  clear hown hgrow hiff hk2 r0 lk1
  go_wp2_with fail
  rw [rounds_succ]
  go_wp2_with (at_builtin; refine wpList_append_sl _ rfl (.tmp 31) (.tmp 32) 51 rfl w.heap.size 3 i0 (.int .i64 0) 8 Tryz.underlying51 hi iz0 iz1 iz2 rfl v1 (0 + n0) ([] ++ ints l0) rfl HO1.out A1 n1 c1 (ints l1) (by rw [HN1.out, ints_len]) rfl (HS1.out.below HB2.out) (ints_one l1) (by unfold maxLen; omega) (by omega) HB2.out.size ?_; intro v2 w3 hown hgrow hiff)
  have HO2 := Lib.hid hown
  have HB3 := Lib.hid (((Off.of_below HB2.out []).grown hgrow (fun g hg => .inr (HO1.out.lt g hg).1)).below (Nat.le_refl _) (by simp))
  have hk3 := bk_below HK.out HB3.out
  have r2 := hk3.cell 2
  rw [← HN2.out] at r2
  have lk3 := hk3.lt
  clear hown hgrow hiff hk3 r1 lk2
  go_wp2_with fail
  rw [rounds_succ]
  go_wp2_with (at_builtin; refine wpList_append_sl _ rfl (.tmp 31) (.tmp 32) 51 rfl w.heap.size 3 i0 (.int .i64 0) 8 Tryz.underlying51 hi iz0 iz1 iz2 rfl v2 (0 + n0 + n1) ([] ++ ints l0 ++ ints l1) rfl HO2.out A2 n2 c2 (ints l2) (by rw [HN2.out, ints_len]) rfl (HS2.out.below HB3.out) (ints_one l2) (by unfold maxLen; omega) (by omega) HB3.out.size ?_; intro v3 w4 hown hgrow hiff)
  have HO3 := Lib.hid hown
  have HB4 := Lib.hid (((Off.of_below HB3.out []).grown hgrow (fun g hg => .inr (HO2.out.lt g hg).1)).below (Nat.le_refl _) (by simp))
  have hk4 := bk_below HK.out HB4.out
  have lk4 := hk4.lt
  clear hown hgrow hiff hk4 r2 lk3
  go_wp2_with fail
  rw [rounds_succ]
  go_wp2_with fail
  go_ret
  obtain ⟨A, c, hv, -⟩ := own_formK HO3.out
  subst hv
  have e1 : 0 + n0 + n1 + n2 = (l0 ++ (l1 ++ l2)).length := by rw [List.length_append, List.length_append, ← HN0.out, ← HN1.out, ← HN2.out]; omega
  have e2 : [] ++ ints l0 ++ ints l1 ++ ints l2 = ints (l0 ++ (l1 ++ l2)) := by simp [ints]
  have h9 := HO3.out
  rw [e2, e1] at h9
  exact ⟨HB4.out, A, c, congrArg (fun z => Ending.returned (.slice A z c)) e1, h9⟩
end Go.Proofs.YtjbcbnemdhbhbaaGreatDoor

/- Contracts of the table of readers: New, Enter, Leave, Reads. -/
import Derived.Test.YtkkgiajjdcpicaaGreatDoorKit
import Derived.LoopN
import Derived.Deep.OwnRows
import Derived.RegionTactic
import Derived.BigRegion
namespace Go.Proofs.YtkkgiajjdcpicaaGreatDoor
open Go.RowKit
open Go.PlainAid
set_option maxRecDepth 100000
set_option linter.unusedVariables false
set_option linter.unusedSimpArgs false

/-- Four slots: what is read, and whether. -/
abbrev slotCells (t0 : Int) (u0 : Bool) (t1 : Int) (u1 : Bool) (t2 : Int) (u2 : Bool) (t3 : Int) (u3 : Bool) : Array Value :=
  #[.int .i64 t0, .bool u0, .int .i64 t1, .bool u1, .int .i64 t2, .bool u2, .int .i64 t3, .bool u3]

theorem Bk.eight {w : World} {g : Nat} {t : TypeId} {c0 c1 c2 c3 c4 c5 c6 c7 : Value} (h : Bk w g t #[c0, c1, c2, c3, c4, c5, c6, c7]) :
    w.cell? ⟨g, 0, none⟩ = some c0 ∧ w.cell? ⟨g, 1, none⟩ = some c1 ∧ w.cell? ⟨g, 2, none⟩ = some c2 ∧ w.cell? ⟨g, 3, none⟩ = some c3 ∧ w.cell? ⟨g, 4, none⟩ = some c4 ∧ w.cell? ⟨g, 5, none⟩ = some c5 ∧ w.cell? ⟨g, 6, none⟩ = some c6 ∧ w.cell? ⟨g, 7, none⟩ = some c7 :=
  ⟨by simpa using h.cell 0, by simpa using h.cell 1, by simpa using h.cell 2, by simpa using h.cell 3, by simpa using h.cell 4, by simpa using h.cell 5, by simpa using h.cell 6, by simpa using h.cell 7⟩

/-- The slots as the chapter has them. -/
structure St where
  a : Option Int
  b : Option Int
  c : Option Int
  d : Option Int
def St.empty : St := ⟨none, none, none, none⟩
def St.cells (s : St) : Array Value := slotCells (s.a.getD 0) s.a.isSome (s.b.getD 0) s.b.isSome (s.c.getD 0) s.c.isSome (s.d.getD 0) s.d.isSome
def inRange (n : Int) : Bool := decide (0 ≤ n) && decide (n ≤ 1099511627776)
def St.enter (s : St) (n : Int) : St × Int × Int :=
  if inRange n then
    match s.a, s.b, s.c, s.d with
    | none, _, _, _ => ({ s with a := some n }, 0, 0)
    | some _, none, _, _ => ({ s with b := some n }, 1, 0)
    | some _, some _, none, _ => ({ s with c := some n }, 2, 0)
    | some _, some _, some _, none => ({ s with d := some n }, 3, 0)
    | some _, some _, some _, some _ => (s, 0, 9)
  else (s, 0, 1)
def St.at (s : St) (i : Int) : Option Int := if i = 0 then s.a else if i = 1 then s.b else if i = 2 then s.c else if i = 3 then s.d else none
def St.clear (s : St) (i : Int) : St := if i = 0 then { s with a := none } else if i = 1 then { s with b := none } else if i = 2 then { s with c := none } else if i = 3 then { s with d := none } else s
def St.leave (s : St) (i : Int) : St × Int :=
  if i < 0 ∨ 3 < i then (s, 1) else match s.at i with | none => (s, 7) | some _ => (s.clear i, 0)
def St.reads (s : St) (i : Int) : Int × Bool := match s.at i with | none => (0, false) | some n => (n, true)

def EnterPost (i e : Int) (g : Nat) (cs : Array Value) (w : World) (en : Ending) (w' : World) : Prop :=
  en = .returned (.tuple #[.int .i64 i, .int .i64 e]) ∧ Bk w' g 148 cs ∧ Off [g] w w'
def LeavePost (e : Int) (g : Nat) (cs : Array Value) (w : World) (en : Ending) (w' : World) : Prop :=
  en = .returned (.int .i64 e) ∧ Bk w' g 148 cs ∧ Off [g] w w'
def ReadsPost (n : Int) (u : Bool) (w : World) (en : Ending) (w' : World) : Prop := en = .returned (.tuple #[.int .i64 n, .bool u]) ∧ Off [] w w'


set_option maxHeartbeats 4000000 in
theorem enter_0 (g : Nat) (n t0 t1 t2 t3 : Int) (u1 u2 u3 : Bool) (w : World) (hb : Bk w g 148 (slotCells t0 false t1 u1 t2 u2 t3 u3)) (h0 : 0 ≤ n) (h1 : n ≤ 1099511627776) :
    Calls Tryz.prog 40 #[.pointer (some ⟨g, 0, none⟩), .int .i64 n] w (EnterPost 0 0 g (slotCells n true t1 u1 t2 u2 t3 u3) w) := by
  have HB := Lib.hid hb
  obtain ⟨c0, c1, c2, c3, c4, c5, c6, c7⟩ := hb.eight
  have g0 := hb.frozen 0
  have g1 := hb.frozen 1
  have q0 : decide (n < 0) = false := by simp; omega
  have q1 : decide (1099511627776 < n) = false := by simp; omega
  clear hb
  go_enter Tryz.func40, Tryz.ntmps40
  go_wp2_with fail
  refine wp_loop_rounds 5 ?_
  repeat any_goals (rw [rounds_succ]; go_wp2_with fail)
  go_ret2
  exact ⟨rfl, (HB.out.put 0 _).put 1 _, ((Off.refl _ _).setCell (.inl (by simp)) _).setCell (.inl (by simp)) _⟩

set_option maxHeartbeats 4000000 in
theorem enter_1 (g : Nat) (n t0 t1 t2 t3 : Int) (u2 u3 : Bool) (w : World) (hb : Bk w g 148 (slotCells t0 true t1 false t2 u2 t3 u3)) (h0 : 0 ≤ n) (h1 : n ≤ 1099511627776) :
    Calls Tryz.prog 40 #[.pointer (some ⟨g, 0, none⟩), .int .i64 n] w (EnterPost 1 0 g (slotCells t0 true n true t2 u2 t3 u3) w) := by
  have HB := Lib.hid hb
  obtain ⟨c0, c1, c2, c3, c4, c5, c6, c7⟩ := hb.eight
  have g0 := hb.frozen 2
  have g1 := hb.frozen 3
  have q0 : decide (n < 0) = false := by simp; omega
  have q1 : decide (1099511627776 < n) = false := by simp; omega
  clear hb
  go_enter Tryz.func40, Tryz.ntmps40
  go_wp2_with fail
  refine wp_loop_rounds 5 ?_
  repeat any_goals (rw [rounds_succ]; go_wp2_with fail)
  go_ret2
  exact ⟨rfl, (HB.out.put 2 _).put 3 _, ((Off.refl _ _).setCell (.inl (by simp)) _).setCell (.inl (by simp)) _⟩

set_option maxHeartbeats 4000000 in
theorem enter_2 (g : Nat) (n t0 t1 t2 t3 : Int) (u3 : Bool) (w : World) (hb : Bk w g 148 (slotCells t0 true t1 true t2 false t3 u3)) (h0 : 0 ≤ n) (h1 : n ≤ 1099511627776) :
    Calls Tryz.prog 40 #[.pointer (some ⟨g, 0, none⟩), .int .i64 n] w (EnterPost 2 0 g (slotCells t0 true t1 true n true t3 u3) w) := by
  have HB := Lib.hid hb
  obtain ⟨c0, c1, c2, c3, c4, c5, c6, c7⟩ := hb.eight
  have g0 := hb.frozen 4
  have g1 := hb.frozen 5
  have q0 : decide (n < 0) = false := by simp; omega
  have q1 : decide (1099511627776 < n) = false := by simp; omega
  clear hb
  go_enter Tryz.func40, Tryz.ntmps40
  go_wp2_with fail
  refine wp_loop_rounds 5 ?_
  repeat any_goals (rw [rounds_succ]; go_wp2_with fail)
  go_ret2
  exact ⟨rfl, (HB.out.put 4 _).put 5 _, ((Off.refl _ _).setCell (.inl (by simp)) _).setCell (.inl (by simp)) _⟩

set_option maxHeartbeats 4000000 in
theorem enter_3 (g : Nat) (n t0 t1 t2 t3 : Int) (w : World) (hb : Bk w g 148 (slotCells t0 true t1 true t2 true t3 false)) (h0 : 0 ≤ n) (h1 : n ≤ 1099511627776) :
    Calls Tryz.prog 40 #[.pointer (some ⟨g, 0, none⟩), .int .i64 n] w (EnterPost 3 0 g (slotCells t0 true t1 true t2 true n true) w) := by
  have HB := Lib.hid hb
  obtain ⟨c0, c1, c2, c3, c4, c5, c6, c7⟩ := hb.eight
  have g0 := hb.frozen 6
  have g1 := hb.frozen 7
  have q0 : decide (n < 0) = false := by simp; omega
  have q1 : decide (1099511627776 < n) = false := by simp; omega
  clear hb
  go_enter Tryz.func40, Tryz.ntmps40
  go_wp2_with fail
  refine wp_loop_rounds 5 ?_
  repeat any_goals (rw [rounds_succ]; go_wp2_with fail)
  go_ret2
  exact ⟨rfl, (HB.out.put 6 _).put 7 _, ((Off.refl _ _).setCell (.inl (by simp)) _).setCell (.inl (by simp)) _⟩

set_option maxHeartbeats 4000000 in
theorem enter_4 (g : Nat) (n t0 t1 t2 t3 : Int) (w : World) (hb : Bk w g 148 (slotCells t0 true t1 true t2 true t3 true)) (h0 : 0 ≤ n) (h1 : n ≤ 1099511627776) :
    Calls Tryz.prog 40 #[.pointer (some ⟨g, 0, none⟩), .int .i64 n] w (EnterPost 0 9 g (slotCells t0 true t1 true t2 true t3 true) w) := by
  have HB := Lib.hid hb
  obtain ⟨c0, c1, c2, c3, c4, c5, c6, c7⟩ := hb.eight
  have g0 := hb.frozen 8
  have g1 := hb.frozen 9
  have q0 : decide (n < 0) = false := by simp; omega
  have q1 : decide (1099511627776 < n) = false := by simp; omega
  clear hb
  go_enter Tryz.func40, Tryz.ntmps40
  go_wp2_with fail
  refine wp_loop_rounds 5 ?_
  repeat any_goals (rw [rounds_succ]; go_wp2_with fail)
  go_ret2
  exact ⟨rfl, HB.out, Off.refl _ _⟩

set_option maxHeartbeats 4000000 in
theorem enter_bad (g : Nat) (n : Int) (cs : Array Value) (w : World) (hb : Bk w g 148 cs) (h0 : n < 0 ∨ 1099511627776 < n) :
    Calls Tryz.prog 40 #[.pointer (some ⟨g, 0, none⟩), .int .i64 n] w (EnterPost 0 1 g cs w) := by
  have HB := Lib.hid hb
  have hq : decide (n < 0) = true ∨ (decide (n < 0) = false ∧ decide (1099511627776 < n) = true) := by simp; omega
  clear hb
  rcases hq with q0 | ⟨q0, q1⟩
  all_goals
    go_enter Tryz.func40, Tryz.ntmps40
    go_wp2_with fail
    go_ret2
    exact ⟨rfl, HB.out, Off.refl _ _⟩

theorem enter_any (g : Nat) (n : Int) (s : St) (w : World) (hb : Bk w g 148 s.cells) :
    Calls Tryz.prog 40 #[.pointer (some ⟨g, 0, none⟩), .int .i64 n] w (EnterPost (s.enter n).2.1 (s.enter n).2.2 g (s.enter n).1.cells w) := by
  cases hr : inRange n with
  | false =>
    have e : s.enter n = (s, 0, 1) := by unfold St.enter; rw [hr]; rfl
    rw [e]
    refine enter_bad g n s.cells w hb ?_
    unfold inRange at hr
    simp at hr
    omega
  | true =>
    have h2 : 0 ≤ n ∧ n ≤ 1099511627776 := by unfold inRange at hr; simpa using hr
    have e : s.enter n = (match s.a, s.b, s.c, s.d with
      | none, _, _, _ => ({ s with a := some n }, 0, 0)
      | some _, none, _, _ => ({ s with b := some n }, 1, 0)
      | some _, some _, none, _ => ({ s with c := some n }, 2, 0)
      | some _, some _, some _, none => ({ s with d := some n }, 3, 0)
      | some _, some _, some _, some _ => (s, 0, 9)) := by unfold St.enter; rw [hr]; rfl
    rw [e]
    obtain ⟨a, b, c, d⟩ := s
    cases a with
    | none => exact enter_0 g n _ _ _ _ _ _ _ w hb h2.1 h2.2
    | some a =>
      cases b with
      | none => exact enter_1 g n _ _ _ _ _ _ w hb h2.1 h2.2
      | some b =>
        cases c with
        | none => exact enter_2 g n _ _ _ _ _ w hb h2.1 h2.2
        | some c =>
          cases d with
          | none => exact enter_3 g n _ _ _ _ w hb h2.1 h2.2
          | some d => exact enter_4 g n _ _ _ _ w hb h2.1 h2.2


set_option maxHeartbeats 4000000 in
theorem leave_0f (g : Nat) (t0 t1 t2 t3 : Int) (u1 u2 u3 : Bool) (w : World) (hb : Bk w g 148 (slotCells t0 false t1 u1 t2 u2 t3 u3)) :
    Calls Tryz.prog 57 #[.pointer (some ⟨g, 0, none⟩), .int .i64 0] w (LeavePost 7 g (slotCells t0 false t1 u1 t2 u2 t3 u3) w) := by
  have HB := Lib.hid hb
  obtain ⟨c0, c1, c2, c3, c4, c5, c6, c7⟩ := hb.eight
  have g0 := hb.frozen 0
  have g1 := hb.frozen 1
  clear hb
  go_enter Tryz.func57, Tryz.ntmps57
  go_wp2_with fail
  go_ret
  exact ⟨rfl, HB.out, Off.refl _ _⟩

set_option maxHeartbeats 4000000 in
theorem leave_0t (g : Nat) (t0 t1 t2 t3 : Int) (u1 u2 u3 : Bool) (w : World) (hb : Bk w g 148 (slotCells t0 true t1 u1 t2 u2 t3 u3)) :
    Calls Tryz.prog 57 #[.pointer (some ⟨g, 0, none⟩), .int .i64 0] w (LeavePost 0 g (slotCells 0 false t1 u1 t2 u2 t3 u3) w) := by
  have HB := Lib.hid hb
  obtain ⟨c0, c1, c2, c3, c4, c5, c6, c7⟩ := hb.eight
  have g0 := hb.frozen 0
  have g1 := hb.frozen 1
  clear hb
  go_enter Tryz.func57, Tryz.ntmps57
  go_wp2_with fail
  go_ret
  exact ⟨rfl, (HB.out.put 0 _).put 1 _, ((Off.refl _ _).setCell (.inl (by simp)) _).setCell (.inl (by simp)) _⟩

set_option maxHeartbeats 4000000 in
theorem leave_1f (g : Nat) (t0 t1 t2 t3 : Int) (u0 u2 u3 : Bool) (w : World) (hb : Bk w g 148 (slotCells t0 u0 t1 false t2 u2 t3 u3)) :
    Calls Tryz.prog 57 #[.pointer (some ⟨g, 0, none⟩), .int .i64 1] w (LeavePost 7 g (slotCells t0 u0 t1 false t2 u2 t3 u3) w) := by
  have HB := Lib.hid hb
  obtain ⟨c0, c1, c2, c3, c4, c5, c6, c7⟩ := hb.eight
  have g0 := hb.frozen 2
  have g1 := hb.frozen 3
  clear hb
  go_enter Tryz.func57, Tryz.ntmps57
  go_wp2_with fail
  go_ret
  exact ⟨rfl, HB.out, Off.refl _ _⟩

set_option maxHeartbeats 4000000 in
theorem leave_1t (g : Nat) (t0 t1 t2 t3 : Int) (u0 u2 u3 : Bool) (w : World) (hb : Bk w g 148 (slotCells t0 u0 t1 true t2 u2 t3 u3)) :
    Calls Tryz.prog 57 #[.pointer (some ⟨g, 0, none⟩), .int .i64 1] w (LeavePost 0 g (slotCells t0 u0 0 false t2 u2 t3 u3) w) := by
  have HB := Lib.hid hb
  obtain ⟨c0, c1, c2, c3, c4, c5, c6, c7⟩ := hb.eight
  have g0 := hb.frozen 2
  have g1 := hb.frozen 3
  clear hb
  go_enter Tryz.func57, Tryz.ntmps57
  go_wp2_with fail
  go_ret
  exact ⟨rfl, (HB.out.put 2 _).put 3 _, ((Off.refl _ _).setCell (.inl (by simp)) _).setCell (.inl (by simp)) _⟩

set_option maxHeartbeats 4000000 in
theorem leave_2f (g : Nat) (t0 t1 t2 t3 : Int) (u0 u1 u3 : Bool) (w : World) (hb : Bk w g 148 (slotCells t0 u0 t1 u1 t2 false t3 u3)) :
    Calls Tryz.prog 57 #[.pointer (some ⟨g, 0, none⟩), .int .i64 2] w (LeavePost 7 g (slotCells t0 u0 t1 u1 t2 false t3 u3) w) := by
  have HB := Lib.hid hb
  obtain ⟨c0, c1, c2, c3, c4, c5, c6, c7⟩ := hb.eight
  have g0 := hb.frozen 4
  have g1 := hb.frozen 5
  clear hb
  go_enter Tryz.func57, Tryz.ntmps57
  go_wp2_with fail
  go_ret
  exact ⟨rfl, HB.out, Off.refl _ _⟩

set_option maxHeartbeats 4000000 in
theorem leave_2t (g : Nat) (t0 t1 t2 t3 : Int) (u0 u1 u3 : Bool) (w : World) (hb : Bk w g 148 (slotCells t0 u0 t1 u1 t2 true t3 u3)) :
    Calls Tryz.prog 57 #[.pointer (some ⟨g, 0, none⟩), .int .i64 2] w (LeavePost 0 g (slotCells t0 u0 t1 u1 0 false t3 u3) w) := by
  have HB := Lib.hid hb
  obtain ⟨c0, c1, c2, c3, c4, c5, c6, c7⟩ := hb.eight
  have g0 := hb.frozen 4
  have g1 := hb.frozen 5
  clear hb
  go_enter Tryz.func57, Tryz.ntmps57
  go_wp2_with fail
  go_ret
  exact ⟨rfl, (HB.out.put 4 _).put 5 _, ((Off.refl _ _).setCell (.inl (by simp)) _).setCell (.inl (by simp)) _⟩

set_option maxHeartbeats 4000000 in
theorem leave_3f (g : Nat) (t0 t1 t2 t3 : Int) (u0 u1 u2 : Bool) (w : World) (hb : Bk w g 148 (slotCells t0 u0 t1 u1 t2 u2 t3 false)) :
    Calls Tryz.prog 57 #[.pointer (some ⟨g, 0, none⟩), .int .i64 3] w (LeavePost 7 g (slotCells t0 u0 t1 u1 t2 u2 t3 false) w) := by
  have HB := Lib.hid hb
  obtain ⟨c0, c1, c2, c3, c4, c5, c6, c7⟩ := hb.eight
  have g0 := hb.frozen 6
  have g1 := hb.frozen 7
  clear hb
  go_enter Tryz.func57, Tryz.ntmps57
  go_wp2_with fail
  go_ret
  exact ⟨rfl, HB.out, Off.refl _ _⟩

set_option maxHeartbeats 4000000 in
theorem leave_3t (g : Nat) (t0 t1 t2 t3 : Int) (u0 u1 u2 : Bool) (w : World) (hb : Bk w g 148 (slotCells t0 u0 t1 u1 t2 u2 t3 true)) :
    Calls Tryz.prog 57 #[.pointer (some ⟨g, 0, none⟩), .int .i64 3] w (LeavePost 0 g (slotCells t0 u0 t1 u1 t2 u2 0 false) w) := by
  have HB := Lib.hid hb
  obtain ⟨c0, c1, c2, c3, c4, c5, c6, c7⟩ := hb.eight
  have g0 := hb.frozen 6
  have g1 := hb.frozen 7
  clear hb
  go_enter Tryz.func57, Tryz.ntmps57
  go_wp2_with fail
  go_ret
  exact ⟨rfl, (HB.out.put 6 _).put 7 _, ((Off.refl _ _).setCell (.inl (by simp)) _).setCell (.inl (by simp)) _⟩

set_option maxHeartbeats 4000000 in
theorem leave_bad (g : Nat) (i : Int) (cs : Array Value) (w : World) (hb : Bk w g 148 cs) (h : i < 0 ∨ 3 < i) :
    Calls Tryz.prog 57 #[.pointer (some ⟨g, 0, none⟩), .int .i64 i] w (LeavePost 1 g cs w) := by
  have HB := Lib.hid hb
  have hq : decide (i < 0) = true ∨ (decide (i < 0) = false ∧ decide (4 ≤ i) = true) := by simp; omega
  clear hb
  rcases hq with q0 | ⟨q0, q1⟩
  all_goals
    go_enter Tryz.func57, Tryz.ntmps57
    go_wp2_with fail
    go_ret
    exact ⟨rfl, HB.out, Off.refl _ _⟩

theorem leave_any (g : Nat) (i : Int) (s : St) (w : World) (hb : Bk w g 148 s.cells) :
    Calls Tryz.prog 57 #[.pointer (some ⟨g, 0, none⟩), .int .i64 i] w (LeavePost (s.leave i).2 g (s.leave i).1.cells w) := by
  by_cases h : i < 0 ∨ 3 < i
  · have e : s.leave i = (s, 1) := by unfold St.leave; rw [if_pos h]
    rw [e]
    exact leave_bad g i s.cells w hb h
  · have hi : i = 0 ∨ i = 1 ∨ i = 2 ∨ i = 3 := by omega
    obtain ⟨a, b, c, d⟩ := s
    rcases hi with rfl | rfl | rfl | rfl
    · cases a with
      | none => exact leave_0f g _ _ _ _ _ _ _ w hb
      | some a => exact leave_0t g _ _ _ _ _ _ _ w hb
    · cases b with
      | none => exact leave_1f g _ _ _ _ _ _ _ w hb
      | some b => exact leave_1t g _ _ _ _ _ _ _ w hb
    · cases c with
      | none => exact leave_2f g _ _ _ _ _ _ _ w hb
      | some c => exact leave_2t g _ _ _ _ _ _ _ w hb
    · cases d with
      | none => exact leave_3f g _ _ _ _ _ _ _ w hb
      | some d => exact leave_3t g _ _ _ _ _ _ _ w hb


theorem rdnew_any (w : World) : Calls Tryz.prog 77 #[] w fun e w' => e = .returned (.pointer (some ⟨w.heap.size, 0, none⟩)) ∧ Bk w' w.heap.size 148 St.empty.cells ∧ Below w.heap.size w w' := by
  go_enter Tryz.func77, Tryz.ntmps77
  go_wp2_with fail
  go_ret
  exact ⟨rfl, Bk.new _ _ _, (Below.refl _ _).alloc (Nat.le_refl _) _⟩

theorem enter_nil (n : Int) (w : World) : Calls Tryz.prog 40 #[.pointer none, .int .i64 n] w fun e w' => e = .returned (.tuple #[.int .i64 0, .int .i64 2]) ∧ w = w' := by
  go_enter Tryz.func40, Tryz.ntmps40
  go_wp2_with fail
  go_ret2
  exact ⟨rfl, rfl⟩
theorem leave_nil (n : Int) (w : World) : Calls Tryz.prog 57 #[.pointer none, .int .i64 n] w fun e w' => e = .returned (.int .i64 2) ∧ w = w' := by
  go_enter Tryz.func57, Tryz.ntmps57
  go_wp2_with fail
  go_ret
  exact ⟨rfl, rfl⟩
end Go.Proofs.YtkkgiajjdcpicaaGreatDoor

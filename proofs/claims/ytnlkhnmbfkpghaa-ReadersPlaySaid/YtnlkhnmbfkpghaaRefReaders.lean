/- Contracts of the reference's table of readers. -/
import Derived.Test.YtnlkhnmbfkpghaaReadersGuard
namespace Go.Proofs.Ytnlkhnmbfkpghaa
open Go.RowKit
open Go.PlainAid
set_option maxRecDepth 100000
set_option linter.unusedVariables false
set_option linter.unusedSimpArgs false

abbrev refRow (v0 v1 v2 v3 : Int) : Array Value := #[.int .i64 v0, .int .i64 v1, .int .i64 v2, .int .i64 v3]
def St.refs (s : St) : Array Value := refRow (s.a.getD (-1)) (s.b.getD (-1)) (s.c.getD (-1)) (s.d.getD (-1))
/-- The reference's table: its head in block h, its row in block b. -/
def RefAt (w : World) (h b : Nat) (cs : Array Value) : Prop := Bk w h 49 #[.slice (some ⟨b, 0, none⟩) 4 4] ∧ Bk w b 3 cs
theorem RefAt.below {w w' : World} {h b : Nat} {cs : Array Value} (k : RefAt w h b cs) (hb : Below w.heap.size w w') : RefAt w' h b cs := ⟨bk_below k.1 hb, bk_below k.2 hb⟩
theorem RefAt.off {S : List Nat} {w w' : World} {h b : Nat} {cs : Array Value} (k : RefAt w h b cs) (ho : Off S w w') (h1 : h ∉ S) (h2 : b ∉ S) : RefAt w' h b cs := ⟨ho.bk k.1 h1, ho.bk k.2 h2⟩
def St.Ok (s : St) : Prop := (∀ v, s.a = some v → 0 ≤ v) ∧ (∀ v, s.b = some v → 0 ≤ v) ∧ (∀ v, s.c = some v → 0 ≤ v) ∧ (∀ v, s.d = some v → 0 ≤ v)
theorem Bk.one {w : World} {g : Nat} {t : TypeId} {c0 : Value} (h : Bk w g t #[c0]) : w.cell? ⟨g, 0, none⟩ = some c0 := by simpa using h.cell 0

def REnterPost (i e : Int) (h b : Nat) (cs : Array Value) (w : World) (en : Ending) (w' : World) : Prop := en = .returned (.tuple #[.int .i64 i, .int .i64 e]) ∧ RefAt w' h b cs ∧ Off [b] w w'
def RLeavePost (e : Int) (h b : Nat) (cs : Array Value) (w : World) (en : Ending) (w' : World) : Prop := en = .returned (.int .i64 e) ∧ RefAt w' h b cs ∧ Off [b] w w'

theorem RefAt.put {w : World} {h b : Nat} {cs : Array Value} (k : RefAt w h b cs) (i : Nat) (u : Value) : RefAt (w.setCell ⟨b, i, none⟩ u) h b (cs.setIfInBounds i u) :=
  ⟨k.1.far (p := ⟨b, i, none⟩) (Bk.ne k.1 k.2 (by decide)) u, k.2.put i u⟩


set_option maxHeartbeats 4000000 in
theorem renter_0 (h b : Nat) (n v0 v1 v2 v3 : Int) (w : World) (hr : RefAt w h b (refRow v0 v1 v2 v3)) (h0 : 0 ≤ n) (h1 : n ≤ 1099511627776)  (q0 : v0 < 0) :
    Calls Try.prog 12 #[.pointer (some ⟨h, 0, none⟩), .int .i64 n] w (REnterPost 0 0 h b (refRow n v1 v2 v3) w) := by
  have HR := Lib.hid hr
  have c := hr.1.one
  obtain ⟨c0, c1, c2, c3⟩ := hr.2.four
  have g0 := hr.2.frozen 0
  have q0' : decide (n < 0) = false := by simp; omega
  have q1' : decide (1099511627776 < n) = false := by simp; omega
  clear hr
  go_enter Try.func12, Try.ntmps12
  go_wp2_with fail
  refine wp_loop_rounds 5 ?_
  repeat any_goals (rw [rounds_succ]; go_wp2_with fail)
  go_ret2
  exact ⟨rfl, HR.out.put 0 _, (Off.refl _ _).setCell (.inl (by simp)) _⟩

set_option maxHeartbeats 4000000 in
theorem renter_1 (h b : Nat) (n v0 v1 v2 v3 : Int) (w : World) (hr : RefAt w h b (refRow v0 v1 v2 v3)) (h0 : 0 ≤ n) (h1 : n ≤ 1099511627776) (p0 : 0 ≤ v0) (q1 : v1 < 0) :
    Calls Try.prog 12 #[.pointer (some ⟨h, 0, none⟩), .int .i64 n] w (REnterPost 1 0 h b (refRow v0 n v2 v3) w) := by
  have HR := Lib.hid hr
  have c := hr.1.one
  obtain ⟨c0, c1, c2, c3⟩ := hr.2.four
  have g0 := hr.2.frozen 1
  have q0' : decide (n < 0) = false := by simp; omega
  have q1' : decide (1099511627776 < n) = false := by simp; omega
  clear hr
  go_enter Try.func12, Try.ntmps12
  go_wp2_with fail
  refine wp_loop_rounds 5 ?_
  repeat any_goals (rw [rounds_succ]; go_wp2_with fail)
  go_ret2
  exact ⟨rfl, HR.out.put 1 _, (Off.refl _ _).setCell (.inl (by simp)) _⟩

set_option maxHeartbeats 4000000 in
theorem renter_2 (h b : Nat) (n v0 v1 v2 v3 : Int) (w : World) (hr : RefAt w h b (refRow v0 v1 v2 v3)) (h0 : 0 ≤ n) (h1 : n ≤ 1099511627776) (p0 : 0 ≤ v0) (p1 : 0 ≤ v1) (q2 : v2 < 0) :
    Calls Try.prog 12 #[.pointer (some ⟨h, 0, none⟩), .int .i64 n] w (REnterPost 2 0 h b (refRow v0 v1 n v3) w) := by
  have HR := Lib.hid hr
  have c := hr.1.one
  obtain ⟨c0, c1, c2, c3⟩ := hr.2.four
  have g0 := hr.2.frozen 2
  have q0' : decide (n < 0) = false := by simp; omega
  have q1' : decide (1099511627776 < n) = false := by simp; omega
  clear hr
  go_enter Try.func12, Try.ntmps12
  go_wp2_with fail
  refine wp_loop_rounds 5 ?_
  repeat any_goals (rw [rounds_succ]; go_wp2_with fail)
  go_ret2
  exact ⟨rfl, HR.out.put 2 _, (Off.refl _ _).setCell (.inl (by simp)) _⟩

set_option maxHeartbeats 4000000 in
theorem renter_3 (h b : Nat) (n v0 v1 v2 v3 : Int) (w : World) (hr : RefAt w h b (refRow v0 v1 v2 v3)) (h0 : 0 ≤ n) (h1 : n ≤ 1099511627776) (p0 : 0 ≤ v0) (p1 : 0 ≤ v1) (p2 : 0 ≤ v2) (q3 : v3 < 0) :
    Calls Try.prog 12 #[.pointer (some ⟨h, 0, none⟩), .int .i64 n] w (REnterPost 3 0 h b (refRow v0 v1 v2 n) w) := by
  have HR := Lib.hid hr
  have c := hr.1.one
  obtain ⟨c0, c1, c2, c3⟩ := hr.2.four
  have g0 := hr.2.frozen 3
  have q0' : decide (n < 0) = false := by simp; omega
  have q1' : decide (1099511627776 < n) = false := by simp; omega
  clear hr
  go_enter Try.func12, Try.ntmps12
  go_wp2_with fail
  refine wp_loop_rounds 5 ?_
  repeat any_goals (rw [rounds_succ]; go_wp2_with fail)
  go_ret2
  exact ⟨rfl, HR.out.put 3 _, (Off.refl _ _).setCell (.inl (by simp)) _⟩

set_option maxHeartbeats 4000000 in
theorem renter_4 (h b : Nat) (n v0 v1 v2 v3 : Int) (w : World) (hr : RefAt w h b (refRow v0 v1 v2 v3)) (h0 : 0 ≤ n) (h1 : n ≤ 1099511627776) (p0 : 0 ≤ v0) (p1 : 0 ≤ v1) (p2 : 0 ≤ v2) (p3 : 0 ≤ v3) :
    Calls Try.prog 12 #[.pointer (some ⟨h, 0, none⟩), .int .i64 n] w (REnterPost 0 9 h b (refRow v0 v1 v2 v3) w) := by
  have HR := Lib.hid hr
  have c := hr.1.one
  obtain ⟨c0, c1, c2, c3⟩ := hr.2.four
  have g0 := hr.2.frozen 3
  have q0' : decide (n < 0) = false := by simp; omega
  have q1' : decide (1099511627776 < n) = false := by simp; omega
  clear hr
  go_enter Try.func12, Try.ntmps12
  go_wp2_with fail
  refine wp_loop_rounds 5 ?_
  repeat any_goals (rw [rounds_succ]; go_wp2_with fail)
  go_ret2
  exact ⟨rfl, HR.out, Off.refl _ _⟩

set_option maxHeartbeats 4000000 in
theorem renter_bad (h b : Nat) (n : Int) (cs : Array Value) (w : World) (hr : RefAt w h b cs) (h0 : n < 0 ∨ 1099511627776 < n) :
    Calls Try.prog 12 #[.pointer (some ⟨h, 0, none⟩), .int .i64 n] w (REnterPost 0 1 h b cs w) := by
  have HR := Lib.hid hr
  have hq : decide (n < 0) = true ∨ (decide (n < 0) = false ∧ decide (1099511627776 < n) = true) := by simp; omega
  clear hr
  rcases hq with q0 | ⟨q0, q1⟩
  all_goals
    go_enter Try.func12, Try.ntmps12
    go_wp2_with fail
    go_ret2
    exact ⟨rfl, HR.out, Off.refl _ _⟩

theorem renter_any (h b : Nat) (n : Int) (s : St) (hok : s.Ok) (w : World) (hr : RefAt w h b s.refs) :
    Calls Try.prog 12 #[.pointer (some ⟨h, 0, none⟩), .int .i64 n] w (REnterPost (s.enter n).2.1 (s.enter n).2.2 h b (s.enter n).1.refs w) := by
  cases hn : inRange n with
  | false =>
    have e : s.enter n = (s, 0, 1) := by unfold St.enter; rw [hn]; rfl
    rw [e]
    refine renter_bad h b n s.refs w hr ?_
    unfold inRange at hn
    simp at hn
    omega
  | true =>
    have h2 : 0 ≤ n ∧ n ≤ 1099511627776 := by unfold inRange at hn; simpa using hn
    have e : s.enter n = (match s.a, s.b, s.c, s.d with
      | none, _, _, _ => ({ s with a := some n }, 0, 0)
      | some _, none, _, _ => ({ s with b := some n }, 1, 0)
      | some _, some _, none, _ => ({ s with c := some n }, 2, 0)
      | some _, some _, some _, none => ({ s with d := some n }, 3, 0)
      | some _, some _, some _, some _ => (s, 0, 9)) := by unfold St.enter; rw [hn]; rfl
    rw [e]
    obtain ⟨a, b', c, d⟩ := s
    obtain ⟨k0, k1, k2, k3⟩ := hok
    cases a with
    | none => exact renter_0 h b n _ _ _ _ w hr h2.1 h2.2 (show (-1 : Int) < 0 by decide)
    | some a =>
      cases b' with
      | none => exact renter_1 h b n _ _ _ _ w hr h2.1 h2.2 (k0 a rfl) (show (-1 : Int) < 0 by decide)
      | some b' =>
        cases c with
        | none => exact renter_2 h b n _ _ _ _ w hr h2.1 h2.2 (k0 a rfl) (k1 b' rfl) (show (-1 : Int) < 0 by decide)
        | some c =>
          cases d with
          | none => exact renter_3 h b n _ _ _ _ w hr h2.1 h2.2 (k0 a rfl) (k1 b' rfl) (k2 c rfl) (show (-1 : Int) < 0 by decide)
          | some d => exact renter_4 h b n _ _ _ _ w hr h2.1 h2.2 (k0 a rfl) (k1 b' rfl) (k2 c rfl) (k3 d rfl)


set_option maxHeartbeats 4000000 in
theorem rleave_0f (h b : Nat) (v0 v1 v2 v3 : Int) (w : World) (hr : RefAt w h b (refRow v0 v1 v2 v3)) (q : v0 < 0) :
    Calls Try.prog 13 #[.pointer (some ⟨h, 0, none⟩), .int .i64 0] w (RLeavePost 7 h b (refRow v0 v1 v2 v3) w) := by
  have HR := Lib.hid hr
  have c := hr.1.one
  obtain ⟨c0, c1, c2, c3⟩ := hr.2.four
  have g0 := hr.2.frozen 0
  clear hr
  go_enter Try.func13, Try.ntmps13
  go_wp2_with fail
  go_ret
  exact ⟨rfl, HR.out, Off.refl _ _⟩

set_option maxHeartbeats 4000000 in
theorem rleave_0t (h b : Nat) (v0 v1 v2 v3 : Int) (w : World) (hr : RefAt w h b (refRow v0 v1 v2 v3)) (q : 0 ≤ v0) :
    Calls Try.prog 13 #[.pointer (some ⟨h, 0, none⟩), .int .i64 0] w (RLeavePost 0 h b (refRow (-1) v1 v2 v3) w) := by
  have HR := Lib.hid hr
  have c := hr.1.one
  obtain ⟨c0, c1, c2, c3⟩ := hr.2.four
  have g0 := hr.2.frozen 0
  clear hr
  go_enter Try.func13, Try.ntmps13
  go_wp2_with fail
  go_ret
  exact ⟨rfl, HR.out.put 0 _, (Off.refl _ _).setCell (.inl (by simp)) _⟩

set_option maxHeartbeats 4000000 in
theorem rleave_1f (h b : Nat) (v0 v1 v2 v3 : Int) (w : World) (hr : RefAt w h b (refRow v0 v1 v2 v3)) (q : v1 < 0) :
    Calls Try.prog 13 #[.pointer (some ⟨h, 0, none⟩), .int .i64 1] w (RLeavePost 7 h b (refRow v0 v1 v2 v3) w) := by
  have HR := Lib.hid hr
  have c := hr.1.one
  obtain ⟨c0, c1, c2, c3⟩ := hr.2.four
  have g0 := hr.2.frozen 1
  clear hr
  go_enter Try.func13, Try.ntmps13
  go_wp2_with fail
  go_ret
  exact ⟨rfl, HR.out, Off.refl _ _⟩

set_option maxHeartbeats 4000000 in
theorem rleave_1t (h b : Nat) (v0 v1 v2 v3 : Int) (w : World) (hr : RefAt w h b (refRow v0 v1 v2 v3)) (q : 0 ≤ v1) :
    Calls Try.prog 13 #[.pointer (some ⟨h, 0, none⟩), .int .i64 1] w (RLeavePost 0 h b (refRow v0 (-1) v2 v3) w) := by
  have HR := Lib.hid hr
  have c := hr.1.one
  obtain ⟨c0, c1, c2, c3⟩ := hr.2.four
  have g0 := hr.2.frozen 1
  clear hr
  go_enter Try.func13, Try.ntmps13
  go_wp2_with fail
  go_ret
  exact ⟨rfl, HR.out.put 1 _, (Off.refl _ _).setCell (.inl (by simp)) _⟩

set_option maxHeartbeats 4000000 in
theorem rleave_2f (h b : Nat) (v0 v1 v2 v3 : Int) (w : World) (hr : RefAt w h b (refRow v0 v1 v2 v3)) (q : v2 < 0) :
    Calls Try.prog 13 #[.pointer (some ⟨h, 0, none⟩), .int .i64 2] w (RLeavePost 7 h b (refRow v0 v1 v2 v3) w) := by
  have HR := Lib.hid hr
  have c := hr.1.one
  obtain ⟨c0, c1, c2, c3⟩ := hr.2.four
  have g0 := hr.2.frozen 2
  clear hr
  go_enter Try.func13, Try.ntmps13
  go_wp2_with fail
  go_ret
  exact ⟨rfl, HR.out, Off.refl _ _⟩

set_option maxHeartbeats 4000000 in
theorem rleave_2t (h b : Nat) (v0 v1 v2 v3 : Int) (w : World) (hr : RefAt w h b (refRow v0 v1 v2 v3)) (q : 0 ≤ v2) :
    Calls Try.prog 13 #[.pointer (some ⟨h, 0, none⟩), .int .i64 2] w (RLeavePost 0 h b (refRow v0 v1 (-1) v3) w) := by
  have HR := Lib.hid hr
  have c := hr.1.one
  obtain ⟨c0, c1, c2, c3⟩ := hr.2.four
  have g0 := hr.2.frozen 2
  clear hr
  go_enter Try.func13, Try.ntmps13
  go_wp2_with fail
  go_ret
  exact ⟨rfl, HR.out.put 2 _, (Off.refl _ _).setCell (.inl (by simp)) _⟩

set_option maxHeartbeats 4000000 in
theorem rleave_3f (h b : Nat) (v0 v1 v2 v3 : Int) (w : World) (hr : RefAt w h b (refRow v0 v1 v2 v3)) (q : v3 < 0) :
    Calls Try.prog 13 #[.pointer (some ⟨h, 0, none⟩), .int .i64 3] w (RLeavePost 7 h b (refRow v0 v1 v2 v3) w) := by
  have HR := Lib.hid hr
  have c := hr.1.one
  obtain ⟨c0, c1, c2, c3⟩ := hr.2.four
  have g0 := hr.2.frozen 3
  clear hr
  go_enter Try.func13, Try.ntmps13
  go_wp2_with fail
  go_ret
  exact ⟨rfl, HR.out, Off.refl _ _⟩

set_option maxHeartbeats 4000000 in
theorem rleave_3t (h b : Nat) (v0 v1 v2 v3 : Int) (w : World) (hr : RefAt w h b (refRow v0 v1 v2 v3)) (q : 0 ≤ v3) :
    Calls Try.prog 13 #[.pointer (some ⟨h, 0, none⟩), .int .i64 3] w (RLeavePost 0 h b (refRow v0 v1 v2 (-1)) w) := by
  have HR := Lib.hid hr
  have c := hr.1.one
  obtain ⟨c0, c1, c2, c3⟩ := hr.2.four
  have g0 := hr.2.frozen 3
  clear hr
  go_enter Try.func13, Try.ntmps13
  go_wp2_with fail
  go_ret
  exact ⟨rfl, HR.out.put 3 _, (Off.refl _ _).setCell (.inl (by simp)) _⟩

set_option maxHeartbeats 4000000 in
theorem rleave_bad (h b : Nat) (i : Int) (cs : Array Value) (w : World) (hr : RefAt w h b cs) (h0 : i < 0 ∨ 3 < i) :
    Calls Try.prog 13 #[.pointer (some ⟨h, 0, none⟩), .int .i64 i] w (RLeavePost 1 h b cs w) := by
  have HR := Lib.hid hr
  have hq : decide (i < 0) = true ∨ (decide (i < 0) = false ∧ decide (3 < i) = true) := by simp; omega
  clear hr
  rcases hq with q0 | ⟨q0, q1⟩
  all_goals
    go_enter Try.func13, Try.ntmps13
    go_wp2_with fail
    go_ret
    exact ⟨rfl, HR.out, Off.refl _ _⟩

theorem rleave_any (h b : Nat) (i : Int) (s : St) (hok : s.Ok) (w : World) (hr : RefAt w h b s.refs) :
    Calls Try.prog 13 #[.pointer (some ⟨h, 0, none⟩), .int .i64 i] w (RLeavePost (s.leave i).2 h b (s.leave i).1.refs w) := by
  by_cases h0 : i < 0 ∨ 3 < i
  · have e : s.leave i = (s, 1) := by unfold St.leave; rw [if_pos h0]
    rw [e]
    exact rleave_bad h b i s.refs w hr h0
  · have hi : i = 0 ∨ i = 1 ∨ i = 2 ∨ i = 3 := by omega
    obtain ⟨a, b', c, d⟩ := s
    obtain ⟨k0, k1, k2, k3⟩ := hok
    rcases hi with rfl | rfl | rfl | rfl
    · cases a with
      | none => exact rleave_0f h b _ _ _ _ w hr (show (-1 : Int) < 0 by decide)
      | some a => exact rleave_0t h b _ _ _ _ w hr (k0 a rfl)
    · cases b' with
      | none => exact rleave_1f h b _ _ _ _ w hr (show (-1 : Int) < 0 by decide)
      | some b' => exact rleave_1t h b _ _ _ _ w hr (k1 b' rfl)
    · cases c with
      | none => exact rleave_2f h b _ _ _ _ w hr (show (-1 : Int) < 0 by decide)
      | some c => exact rleave_2t h b _ _ _ _ w hr (k2 c rfl)
    · cases d with
      | none => exact rleave_3f h b _ _ _ _ w hr (show (-1 : Int) < 0 by decide)
      | some d => exact rleave_3t h b _ _ _ _ w hr (k3 d rfl)


set_option maxHeartbeats 4000000 in
theorem rreads_0f (h b : Nat) (v0 v1 v2 v3 : Int) (w : World) (hr : RefAt w h b (refRow v0 v1 v2 v3)) (q : v0 < 0) :
    Calls Try.prog 18 #[.pointer (some ⟨h, 0, none⟩), .int .i64 0] w (ReadsPost 0 false w) := by
  have c := hr.1.one
  obtain ⟨c0, c1, c2, c3⟩ := hr.2.four
  clear hr
  go_enter Try.func18, Try.ntmps18
  go_wp2_with fail
  go_ret2
  exact ⟨rfl, Off.refl _ _⟩

set_option maxHeartbeats 4000000 in
theorem rreads_0t (h b : Nat) (v0 v1 v2 v3 : Int) (w : World) (hr : RefAt w h b (refRow v0 v1 v2 v3)) (q : 0 ≤ v0) :
    Calls Try.prog 18 #[.pointer (some ⟨h, 0, none⟩), .int .i64 0] w (ReadsPost v0 true w) := by
  have c := hr.1.one
  obtain ⟨c0, c1, c2, c3⟩ := hr.2.four
  clear hr
  go_enter Try.func18, Try.ntmps18
  go_wp2_with fail
  go_ret2
  exact ⟨rfl, Off.refl _ _⟩

set_option maxHeartbeats 4000000 in
theorem rreads_1f (h b : Nat) (v0 v1 v2 v3 : Int) (w : World) (hr : RefAt w h b (refRow v0 v1 v2 v3)) (q : v1 < 0) :
    Calls Try.prog 18 #[.pointer (some ⟨h, 0, none⟩), .int .i64 1] w (ReadsPost 0 false w) := by
  have c := hr.1.one
  obtain ⟨c0, c1, c2, c3⟩ := hr.2.four
  clear hr
  go_enter Try.func18, Try.ntmps18
  go_wp2_with fail
  go_ret2
  exact ⟨rfl, Off.refl _ _⟩

set_option maxHeartbeats 4000000 in
theorem rreads_1t (h b : Nat) (v0 v1 v2 v3 : Int) (w : World) (hr : RefAt w h b (refRow v0 v1 v2 v3)) (q : 0 ≤ v1) :
    Calls Try.prog 18 #[.pointer (some ⟨h, 0, none⟩), .int .i64 1] w (ReadsPost v1 true w) := by
  have c := hr.1.one
  obtain ⟨c0, c1, c2, c3⟩ := hr.2.four
  clear hr
  go_enter Try.func18, Try.ntmps18
  go_wp2_with fail
  go_ret2
  exact ⟨rfl, Off.refl _ _⟩

set_option maxHeartbeats 4000000 in
theorem rreads_2f (h b : Nat) (v0 v1 v2 v3 : Int) (w : World) (hr : RefAt w h b (refRow v0 v1 v2 v3)) (q : v2 < 0) :
    Calls Try.prog 18 #[.pointer (some ⟨h, 0, none⟩), .int .i64 2] w (ReadsPost 0 false w) := by
  have c := hr.1.one
  obtain ⟨c0, c1, c2, c3⟩ := hr.2.four
  clear hr
  go_enter Try.func18, Try.ntmps18
  go_wp2_with fail
  go_ret2
  exact ⟨rfl, Off.refl _ _⟩

set_option maxHeartbeats 4000000 in
theorem rreads_2t (h b : Nat) (v0 v1 v2 v3 : Int) (w : World) (hr : RefAt w h b (refRow v0 v1 v2 v3)) (q : 0 ≤ v2) :
    Calls Try.prog 18 #[.pointer (some ⟨h, 0, none⟩), .int .i64 2] w (ReadsPost v2 true w) := by
  have c := hr.1.one
  obtain ⟨c0, c1, c2, c3⟩ := hr.2.four
  clear hr
  go_enter Try.func18, Try.ntmps18
  go_wp2_with fail
  go_ret2
  exact ⟨rfl, Off.refl _ _⟩

set_option maxHeartbeats 4000000 in
theorem rreads_3f (h b : Nat) (v0 v1 v2 v3 : Int) (w : World) (hr : RefAt w h b (refRow v0 v1 v2 v3)) (q : v3 < 0) :
    Calls Try.prog 18 #[.pointer (some ⟨h, 0, none⟩), .int .i64 3] w (ReadsPost 0 false w) := by
  have c := hr.1.one
  obtain ⟨c0, c1, c2, c3⟩ := hr.2.four
  clear hr
  go_enter Try.func18, Try.ntmps18
  go_wp2_with fail
  go_ret2
  exact ⟨rfl, Off.refl _ _⟩

set_option maxHeartbeats 4000000 in
theorem rreads_3t (h b : Nat) (v0 v1 v2 v3 : Int) (w : World) (hr : RefAt w h b (refRow v0 v1 v2 v3)) (q : 0 ≤ v3) :
    Calls Try.prog 18 #[.pointer (some ⟨h, 0, none⟩), .int .i64 3] w (ReadsPost v3 true w) := by
  have c := hr.1.one
  obtain ⟨c0, c1, c2, c3⟩ := hr.2.four
  clear hr
  go_enter Try.func18, Try.ntmps18
  go_wp2_with fail
  go_ret2
  exact ⟨rfl, Off.refl _ _⟩

set_option maxHeartbeats 4000000 in
theorem rreads_bad (h : Nat) (i : Int) (w : World) (h0 : i < 0 ∨ 3 < i) :
    Calls Try.prog 18 #[.pointer (some ⟨h, 0, none⟩), .int .i64 i] w (ReadsPost 0 false w) := by
  have hq : decide (i < 0) = true ∨ (decide (i < 0) = false ∧ decide (3 < i) = true) := by simp; omega
  rcases hq with q0 | ⟨q0, q1⟩
  all_goals
    go_enter Try.func18, Try.ntmps18
    go_wp2_with fail
    go_ret2
    exact ⟨rfl, Off.refl _ _⟩

theorem rreads_any (h b : Nat) (i : Int) (s : St) (hok : s.Ok) (w : World) (hr : RefAt w h b s.refs) :
    Calls Try.prog 18 #[.pointer (some ⟨h, 0, none⟩), .int .i64 i] w (ReadsPost (s.reads i).1 (s.reads i).2 w) := by
  by_cases h0 : i < 0 ∨ 3 < i
  · have e : s.reads i = (0, false) := by
      unfold St.reads St.at
      rw [if_neg (by omega), if_neg (by omega), if_neg (by omega), if_neg (by omega)]
    rw [e]
    exact rreads_bad h i w h0
  · have hi : i = 0 ∨ i = 1 ∨ i = 2 ∨ i = 3 := by omega
    obtain ⟨a, b', c, d⟩ := s
    obtain ⟨k0, k1, k2, k3⟩ := hok
    rcases hi with rfl | rfl | rfl | rfl
    · cases a with
      | none => exact rreads_0f h b _ _ _ _ w hr (show (-1 : Int) < 0 by decide)
      | some a => exact rreads_0t h b _ _ _ _ w hr (k0 a rfl)
    · cases b' with
      | none => exact rreads_1f h b _ _ _ _ w hr (show (-1 : Int) < 0 by decide)
      | some b' => exact rreads_1t h b _ _ _ _ w hr (k1 b' rfl)
    · cases c with
      | none => exact rreads_2f h b _ _ _ _ w hr (show (-1 : Int) < 0 by decide)
      | some c => exact rreads_2t h b _ _ _ _ w hr (k2 c rfl)
    · cases d with
      | none => exact rreads_3f h b _ _ _ _ w hr (show (-1 : Int) < 0 by decide)
      | some d => exact rreads_3t h b _ _ _ _ w hr (k3 d rfl)

def RNewPost (w : World) (e : Ending) (w' : World) : Prop := ∃ h b, e = .returned (.pointer (some ⟨h, 0, none⟩)) ∧ RefAt w' h b St.empty.refs ∧ w.heap.size ≤ h ∧ w.heap.size ≤ b ∧ Below w.heap.size w w'
set_option maxHeartbeats 4000000 in
theorem rrnew_any (w : World) : Calls Try.prog 11 #[] w (RNewPost w) := by
  go_enter Try.func11, Try.ntmps11
  go_wp2_with fail
  go_ret
  refine ⟨w.heap.size + 1, w.heap.size, rfl, ⟨?_, (Bk.new _ _ _).alloc _⟩, by omega, by omega, ((Below.refl _ _).alloc (Nat.le_refl _) _).alloc (by simp) _⟩
  have := Bk.new (w.alloc (.cells #[.int .i64 (-1), .int .i64 (-1), .int .i64 (-1), .int .i64 (-1)] 3)) 49 #[.slice (some ⟨w.heap.size, 0, none⟩) 4 4]
  simpa using this

/-- How often a number stands in the first k places. -/
def timesK (v0 v1 v2 v3 n : Int) : Nat → Nat
  | 0 => 0
  | 1 => (if v0 = n then 1 else 0)
  | 2 => (if v0 = n then 1 else 0) + (if v1 = n then 1 else 0)
  | 3 => (if v0 = n then 1 else 0) + (if v1 = n then 1 else 0) + (if v2 = n then 1 else 0)
  | _ => (if v0 = n then 1 else 0) + (if v1 = n then 1 else 0) + (if v2 = n then 1 else 0) + (if v3 = n then 1 else 0)
theorem ite_le1 (p : Prop) [Decidable p] : (if p then 1 else 0 : Nat) ≤ 1 := by split <;> omega
theorem timesK_le (v0 v1 v2 v3 n : Int) (k : Nat) (hk : k ≤ 4) : timesK v0 v1 v2 v3 n k ≤ k := by
  have h0 := ite_le1 (v0 = n)
  have h1 := ite_le1 (v1 = n)
  have h2 := ite_le1 (v2 = n)
  have h3 := ite_le1 (v3 = n)
  have : k = 0 ∨ k = 1 ∨ k = 2 ∨ k = 3 ∨ k = 4 := by omega
  rcases this with rfl | rfl | rfl | rfl | rfl <;> simp only [timesK] <;> omega
def TellsN0 (n : Int) (w : World) (e : Ending) (w' : World) : Prop := e = .returned (.int .i64 n) ∧ w = w'
theorem tellsN0_of {n m : Int} {w : World} (h : n = m) : TellsN0 n w (.returned (.int .i64 m)) w := by subst h; exact ⟨rfl, rfl⟩

set_option maxHeartbeats 4000000 in
theorem rtimes_any (h b : Nat) (n v0 v1 v2 v3 : Int) (w : World) (hr : RefAt w h b (refRow v0 v1 v2 v3)) :
    Calls Try.prog 20 #[.pointer (some ⟨h, 0, none⟩), .int .i64 n] w (TellsN0 (timesK v0 v1 v2 v3 n 4 : Int) w) := by
  have c := hr.1.one
  obtain ⟨c0, c1, c2, c3⟩ := hr.2.four
  clear hr
  go_enter Try.func20, Try.ntmps20
  go_wp2_with fail
  go_loop [5, 6] (fun m i => ∃ (k q : Nat), i = .int .i64 k ∧ m = .int .i64 q ∧ k ≤ 4 ∧ q ≤ k ∧ Hid (q = timesK v0 v1 v2 v3 n k)) (fun _ i => 4 - (intOf i).toNat)
  case atStart => exact ⟨0, 0, rfl, rfl, by omega, by omega, show _ = _ from rfl⟩
  case round =>
    obtain ⟨k, q, rfl, rfl, hk, hq, HQ⟩ := hrel
    have hkk : k = 0 ∨ k = 1 ∨ k = 2 ∨ k = 3 ∨ k = 4 := by omega
    clear hk
    rcases hkk with rfl | rfl | rfl | rfl | rfl

    · rw [show ((0 : Nat) : Int) = 0 from rfl]
      by_cases he : v0 = n
      · have HT := Lib.hid (show timesK v0 v1 v2 v3 n 1 = q + 1 by rw [HQ.out]; unfold timesK; simp [he])
        have hqq : (v0 == n) = true := by simpa using he
        clear he HQ
        go_wp2_with fail
        go_round
        case rel => exact ⟨1, q + 1, rfl, by go_num, by omega, by omega, HT.out.symm⟩
        case measure => simp [intOf]
      · have HT := Lib.hid (show timesK v0 v1 v2 v3 n 1 = q by rw [HQ.out]; unfold timesK; simp [he])
        have hqq : (v0 == n) = false := by simpa using he
        clear he HQ
        go_wp2_with fail
        go_round
        case rel => exact ⟨1, q, rfl, rfl, by omega, by omega, HT.out.symm⟩
        case measure => simp [intOf]
    · rw [show ((1 : Nat) : Int) = 1 from rfl]
      by_cases he : v1 = n
      · have HT := Lib.hid (show timesK v0 v1 v2 v3 n 2 = q + 1 by rw [HQ.out]; unfold timesK; simp [he])
        have hqq : (v1 == n) = true := by simpa using he
        clear he HQ
        go_wp2_with fail
        go_round
        case rel => exact ⟨2, q + 1, rfl, by go_num, by omega, by omega, HT.out.symm⟩
        case measure => simp [intOf]
      · have HT := Lib.hid (show timesK v0 v1 v2 v3 n 2 = q by rw [HQ.out]; unfold timesK; simp [he])
        have hqq : (v1 == n) = false := by simpa using he
        clear he HQ
        go_wp2_with fail
        go_round
        case rel => exact ⟨2, q, rfl, rfl, by omega, by omega, HT.out.symm⟩
        case measure => simp [intOf]
    · rw [show ((2 : Nat) : Int) = 2 from rfl]
      by_cases he : v2 = n
      · have HT := Lib.hid (show timesK v0 v1 v2 v3 n 3 = q + 1 by rw [HQ.out]; unfold timesK; simp [he])
        have hqq : (v2 == n) = true := by simpa using he
        clear he HQ
        go_wp2_with fail
        go_round
        case rel => exact ⟨3, q + 1, rfl, by go_num, by omega, by omega, HT.out.symm⟩
        case measure => simp [intOf]
      · have HT := Lib.hid (show timesK v0 v1 v2 v3 n 3 = q by rw [HQ.out]; unfold timesK; simp [he])
        have hqq : (v2 == n) = false := by simpa using he
        clear he HQ
        go_wp2_with fail
        go_round
        case rel => exact ⟨3, q, rfl, rfl, by omega, by omega, HT.out.symm⟩
        case measure => simp [intOf]
    · rw [show ((3 : Nat) : Int) = 3 from rfl]
      by_cases he : v3 = n
      · have HT := Lib.hid (show timesK v0 v1 v2 v3 n 4 = q + 1 by rw [HQ.out]; unfold timesK; simp [he])
        have hqq : (v3 == n) = true := by simpa using he
        clear he HQ
        go_wp2_with fail
        go_round
        case rel => exact ⟨4, q + 1, rfl, by go_num, by omega, by omega, HT.out.symm⟩
        case measure => simp [intOf]
      · have HT := Lib.hid (show timesK v0 v1 v2 v3 n 4 = q by rw [HQ.out]; unfold timesK; simp [he])
        have hqq : (v3 == n) = false := by simpa using he
        clear he HQ
        go_wp2_with fail
        go_round
        case rel => exact ⟨4, q, rfl, rfl, by omega, by omega, HT.out.symm⟩
        case measure => simp [intOf]
    · rw [show ((4 : Nat) : Int) = 4 from rfl]
      go_wp2_with fail
      go_ret
      exact tellsN0_of (by rw [← HQ.out])

set_option maxHeartbeats 4000000 in
theorem rcount_any (h b : Nat) (v0 v1 v2 v3 : Int) (w : World) (hr : RefAt w h b (refRow v0 v1 v2 v3)) :
    Calls Try.prog 15 #[.pointer (some ⟨h, 0, none⟩)] w (TellsN0 (4 - (timesK v0 v1 v2 v3 (-1) 4 : Int)) w) := by
  have H := rtimes_any h b (-1) v0 v1 v2 v3 w hr
  have hl := timesK_le v0 v1 v2 v3 (-1) 4 (by omega)
  generalize timesK v0 v1 v2 v3 (-1) 4 = q at *
  have HH := Lib.hid H
  clear H hr
  go_enter Try.func15, Try.ntmps15
  go_wp2_with fail
  refine HH.out.mono ?_
  rintro e w' ⟨rfl, rfl⟩
  go_wp2_with fail
  go_ret
  exact ⟨rfl, rfl⟩

def min1 (now v : Int) : Int := if 0 ≤ v then min now v else now
/-- The least that counts of the first k places. -/
def minK (v0 v1 v2 v3 now : Int) : Nat → Int
  | 0 => now
  | 1 => min1 now v0
  | 2 => min1 (min1 now v0) v1
  | 3 => min1 (min1 (min1 now v0) v1) v2
  | _ => min1 (min1 (min1 (min1 now v0) v1) v2) v3

set_option maxHeartbeats 4000000 in
theorem roldest_raw (h b : Nat) (now v0 v1 v2 v3 : Int) (w : World) (hr : RefAt w h b (refRow v0 v1 v2 v3)) :
    Calls Try.prog 16 #[.pointer (some ⟨h, 0, none⟩), .int .i64 now] w (TellsN0 (minK v0 v1 v2 v3 now 4) w) := by
  have c := hr.1.one
  obtain ⟨c0, c1, c2, c3⟩ := hr.2.four
  clear hr
  go_enter Try.func16, Try.ntmps16
  go_wp2_with fail
  go_loop [1, 5] (fun m i => ∃ (k : Nat) (q : Int), i = .int .i64 k ∧ m = .int .i64 q ∧ k ≤ 4 ∧ Hid (q = minK v0 v1 v2 v3 now k)) (fun _ i => 4 - (intOf i).toNat)
  case atStart => exact ⟨0, now, rfl, rfl, by omega, show _ = _ from rfl⟩
  case round =>
    obtain ⟨k, q, rfl, rfl, hk, HQ⟩ := hrel
    have hkk : k = 0 ∨ k = 1 ∨ k = 2 ∨ k = 3 ∨ k = 4 := by omega
    clear hk
    rcases hkk with rfl | rfl | rfl | rfl | rfl

    · rw [show ((0 : Nat) : Int) = 0 from rfl]
      have hcs : (v0 < 0 ∧ Hid (minK v0 v1 v2 v3 now 1 = q)) ∨ (0 ≤ v0 ∧ v0 < q ∧ Hid (minK v0 v1 v2 v3 now 1 = v0)) ∨ (0 ≤ v0 ∧ q ≤ v0 ∧ Hid (minK v0 v1 v2 v3 now 1 = q)) := by
        have e : minK v0 v1 v2 v3 now 1 = (if 0 ≤ v0 then min q v0 else q) := by rw [HQ.out]; rfl
        rw [e]
        by_cases h1 : 0 ≤ v0
        · by_cases h2 : v0 < q
          · exact .inr (.inl ⟨h1, h2, show _ = _ by rw [if_pos h1]; omega⟩)
          · exact .inr (.inr ⟨h1, by omega, show _ = _ by rw [if_pos h1]; omega⟩)
        · exact .inl ⟨by omega, show _ = _ by rw [if_neg h1]⟩
      clear HQ
      rcases hcs with ⟨h1, HT⟩ | ⟨h1, h2, HT⟩ | ⟨h1, h2, HT⟩
      all_goals
        go_wp2_with fail
        go_round
        case rel => first | exact ⟨1, q, rfl, rfl, by omega, HT.out.symm⟩ | exact ⟨1, v0, rfl, rfl, by omega, HT.out.symm⟩
        case measure => simp [intOf]
    · rw [show ((1 : Nat) : Int) = 1 from rfl]
      have hcs : (v1 < 0 ∧ Hid (minK v0 v1 v2 v3 now 2 = q)) ∨ (0 ≤ v1 ∧ v1 < q ∧ Hid (minK v0 v1 v2 v3 now 2 = v1)) ∨ (0 ≤ v1 ∧ q ≤ v1 ∧ Hid (minK v0 v1 v2 v3 now 2 = q)) := by
        have e : minK v0 v1 v2 v3 now 2 = (if 0 ≤ v1 then min q v1 else q) := by rw [HQ.out]; rfl
        rw [e]
        by_cases h1 : 0 ≤ v1
        · by_cases h2 : v1 < q
          · exact .inr (.inl ⟨h1, h2, show _ = _ by rw [if_pos h1]; omega⟩)
          · exact .inr (.inr ⟨h1, by omega, show _ = _ by rw [if_pos h1]; omega⟩)
        · exact .inl ⟨by omega, show _ = _ by rw [if_neg h1]⟩
      clear HQ
      rcases hcs with ⟨h1, HT⟩ | ⟨h1, h2, HT⟩ | ⟨h1, h2, HT⟩
      all_goals
        go_wp2_with fail
        go_round
        case rel => first | exact ⟨2, q, rfl, rfl, by omega, HT.out.symm⟩ | exact ⟨2, v1, rfl, rfl, by omega, HT.out.symm⟩
        case measure => simp [intOf]
    · rw [show ((2 : Nat) : Int) = 2 from rfl]
      have hcs : (v2 < 0 ∧ Hid (minK v0 v1 v2 v3 now 3 = q)) ∨ (0 ≤ v2 ∧ v2 < q ∧ Hid (minK v0 v1 v2 v3 now 3 = v2)) ∨ (0 ≤ v2 ∧ q ≤ v2 ∧ Hid (minK v0 v1 v2 v3 now 3 = q)) := by
        have e : minK v0 v1 v2 v3 now 3 = (if 0 ≤ v2 then min q v2 else q) := by rw [HQ.out]; rfl
        rw [e]
        by_cases h1 : 0 ≤ v2
        · by_cases h2 : v2 < q
          · exact .inr (.inl ⟨h1, h2, show _ = _ by rw [if_pos h1]; omega⟩)
          · exact .inr (.inr ⟨h1, by omega, show _ = _ by rw [if_pos h1]; omega⟩)
        · exact .inl ⟨by omega, show _ = _ by rw [if_neg h1]⟩
      clear HQ
      rcases hcs with ⟨h1, HT⟩ | ⟨h1, h2, HT⟩ | ⟨h1, h2, HT⟩
      all_goals
        go_wp2_with fail
        go_round
        case rel => first | exact ⟨3, q, rfl, rfl, by omega, HT.out.symm⟩ | exact ⟨3, v2, rfl, rfl, by omega, HT.out.symm⟩
        case measure => simp [intOf]
    · rw [show ((3 : Nat) : Int) = 3 from rfl]
      have hcs : (v3 < 0 ∧ Hid (minK v0 v1 v2 v3 now 4 = q)) ∨ (0 ≤ v3 ∧ v3 < q ∧ Hid (minK v0 v1 v2 v3 now 4 = v3)) ∨ (0 ≤ v3 ∧ q ≤ v3 ∧ Hid (minK v0 v1 v2 v3 now 4 = q)) := by
        have e : minK v0 v1 v2 v3 now 4 = (if 0 ≤ v3 then min q v3 else q) := by rw [HQ.out]; rfl
        rw [e]
        by_cases h1 : 0 ≤ v3
        · by_cases h2 : v3 < q
          · exact .inr (.inl ⟨h1, h2, show _ = _ by rw [if_pos h1]; omega⟩)
          · exact .inr (.inr ⟨h1, by omega, show _ = _ by rw [if_pos h1]; omega⟩)
        · exact .inl ⟨by omega, show _ = _ by rw [if_neg h1]⟩
      clear HQ
      rcases hcs with ⟨h1, HT⟩ | ⟨h1, h2, HT⟩ | ⟨h1, h2, HT⟩
      all_goals
        go_wp2_with fail
        go_round
        case rel => first | exact ⟨4, q, rfl, rfl, by omega, HT.out.symm⟩ | exact ⟨4, v3, rfl, rfl, by omega, HT.out.symm⟩
        case measure => simp [intOf]
    · rw [show ((4 : Nat) : Int) = 4 from rfl]
      go_wp2_with fail
      go_ret
      exact tellsN0_of (by rw [← HQ.out])

theorem minK_least (s : St) (hok : s.Ok) (now : Int) : minK (s.a.getD (-1)) (s.b.getD (-1)) (s.c.getD (-1)) (s.d.getD (-1)) now 4 = s.oldest now := by
  rw [St.oldest_eq]
  obtain ⟨a, b, c, d⟩ := s
  obtain ⟨k0, k1, k2, k3⟩ := hok
  cases a <;> cases b <;> cases c <;> cases d <;> simp_all [minK, min1, St.live, least] <;> omega
theorem roldest_any (h b : Nat) (now : Int) (s : St) (hok : s.Ok) (w : World) (hr : RefAt w h b s.refs) :
    Calls Try.prog 16 #[.pointer (some ⟨h, 0, none⟩), .int .i64 now] w (TellsN0 (s.oldest now) w) := by
  have := roldest_raw h b now _ _ _ _ w hr
  rw [minK_least s hok now] at this
  exact this

theorem times_live (s : St) (hok : s.Ok) (n : Int) (hn : 0 ≤ n) : timesK (s.a.getD (-1)) (s.b.getD (-1)) (s.c.getD (-1)) (s.d.getD (-1)) n 4 = s.live.count n := by
  obtain ⟨a, b, c, d⟩ := s
  have hm : ¬ (-1 : Int) = n := by omega
  cases a <;> cases b <;> cases c <;> cases d <;> simp [timesK, St.live, hm, List.count_cons, List.count_nil] <;> (repeat' split) <;> omega
theorem count_live (s : St) (hok : s.Ok) : 4 - (timesK (s.a.getD (-1)) (s.b.getD (-1)) (s.c.getD (-1)) (s.d.getD (-1)) (-1) 4 : Int) = (s.live.length : Int) := by
  obtain ⟨a, b, c, d⟩ := s
  obtain ⟨k0, k1, k2, k3⟩ := hok
  have hne : ∀ v : Int, 0 ≤ v → ¬ v = -1 := fun v hv => by omega
  cases a <;> cases b <;> cases c <;> cases d <;> simp_all [timesK, St.live]
theorem rcount_live (h b : Nat) (s : St) (hok : s.Ok) (w : World) (hr : RefAt w h b s.refs) : Calls Try.prog 15 #[.pointer (some ⟨h, 0, none⟩)] w (TellsN0 (s.live.length : Int) w) := by
  have := rcount_any h b _ _ _ _ w hr
  rw [count_live s hok] at this
  exact this
theorem rtimes_live (h b : Nat) (n : Int) (hn : 0 ≤ n) (s : St) (hok : s.Ok) (w : World) (hr : RefAt w h b s.refs) : Calls Try.prog 20 #[.pointer (some ⟨h, 0, none⟩), .int .i64 n] w (TellsN0 (s.live.count n : Int) w) := by
  have := rtimes_any h b n _ _ _ _ w hr
  rw [times_live s hok n hn] at this
  exact this
end Go.Proofs.Ytnlkhnmbfkpghaa

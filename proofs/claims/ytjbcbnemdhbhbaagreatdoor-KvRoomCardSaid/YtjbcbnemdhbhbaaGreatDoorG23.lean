import Derived.Test.YtjbcbnemdhbhbaaGreatDoorG1
import Derived.LoopN
import Derived.Deep.OwnRows
import Derived.RegionTactic
import Derived.BigRegion
import Derived.Test.YtjbcbnemdhbhbaaGreatDoorG0
import Derived.Sort.OwnSortedInts
import Derived.Shelf.SortM.Plain
import Derived.Shelf.SortM.SortNone
namespace Go.Proofs.YtjbcbnemdhbhbaaGreatDoor
open Go.RowKit
open Go.PlainAid
set_option maxRecDepth 100000
set_option linter.unusedVariables false
set_option linter.unusedSimpArgs false
abbrev slotCells (t0 : Int) (u0 : Bool) (t1 : Int) (u1 : Bool) (t2 : Int) (u2 : Bool) (t3 : Int) (u3 : Bool) : Array Value :=
 #[.int .i64 t0, .bool u0, .int .i64 t1, .bool u1, .int .i64 t2, .bool u2, .int .i64 t3, .bool u3]
theorem Bk.eight {w : World} {g : Nat} {t : TypeId} {c0 c1 c2 c3 c4 c5 c6 c7 : Value} (h : Bk w g t #[c0, c1, c2, c3, c4, c5, c6, c7]) :
   w.cell? ⟨g, 0, none⟩ = some c0 ∧ w.cell? ⟨g, 1, none⟩ = some c1 ∧ w.cell? ⟨g, 2, none⟩ = some c2 ∧ w.cell? ⟨g, 3, none⟩ = some c3 ∧ w.cell? ⟨g, 4, none⟩ = some c4 ∧ w.cell? ⟨g, 5, none⟩ = some c5 ∧ w.cell? ⟨g, 6, none⟩ = some c6 ∧ w.cell? ⟨g, 7, none⟩ = some c7 :=
 ⟨by simpa using h.cell 0, by simpa using h.cell 1, by simpa using h.cell 2, by simpa using h.cell 3, by simpa using h.cell 4, by simpa using h.cell 5, by simpa using h.cell 6, by simpa using h.cell 7⟩
structure St where
 a : Option Int
 b : Option Int
 c : Option Int
 d : Option Int
def St.empty : St := ⟨none, none, none, none⟩
def St.cells (s : St) : Array Value := slotCells (s.a.getD 0) s.a.isSome (s.b.getD 0) s.b.isSome (s.c.getD 0) s.c.isSome (s.d.getD 0) s.d.isSome
def inRange (n : Int) : Bool := decide (0 ≤ n) && decide (n ≤ 1099511627776)
def St.enter (s : St) (n : Int) : St × Int × Int :=
 if inRange n then
   match s.a, s.b, s.c, s.d with
   | none, _, _, _ => ({ s with a := some n }, 0, 0)
   | some _, none, _, _ => ({ s with b := some n }, 1, 0)
   | some _, some _, none, _ => ({ s with c := some n }, 2, 0)
   | some _, some _, some _, none => ({ s with d := some n }, 3, 0)
   | some _, some _, some _, some _ => (s, 0, 9)
 else (s, 0, 1)
def St.at (s : St) (i : Int) : Option Int := if i = 0 then s.a else if i = 1 then s.b else if i = 2 then s.c else if i = 3 then s.d else none
def St.clear (s : St) (i : Int) : St := if i = 0 then { s with a := none } else if i = 1 then { s with b := none } else if i = 2 then { s with c := none } else if i = 3 then { s with d := none } else s
def St.leave (s : St) (i : Int) : St × Int :=
 if i < 0 ∨ 3 < i then (s, 1) else match s.at i with | none => (s, 7) | some _ => (s.clear i, 0)
def St.reads (s : St) (i : Int) : Int × Bool := match s.at i with | none => (0, false) | some n => (n, true)
def EnterPost (i e : Int) (g : Nat) (cs : Array Value) (w : World) (en : Ending) (w' : World) : Prop :=
 en = .returned (.tuple #[.int .i64 i, .int .i64 e]) ∧ Bk w' g 195 cs ∧ Off [g] w w'
set_option maxHeartbeats 4000000 in
theorem enter_0 (g : Nat) (n t0 t1 t2 t3 : Int) (u1 u2 u3 : Bool) (w : World) (hb : Bk w g 195 (slotCells t0 false t1 u1 t2 u2 t3 u3)) (h0 : 0 ≤ n) (h1 : n ≤ 1099511627776) :
   Calls Tryz.prog 56 #[.pointer (some ⟨g, 0, none⟩), .int .i64 n] w (EnterPost 0 0 g (slotCells n true t1 u1 t2 u2 t3 u3) w) := by
 have HB := Lib.hid hb
 obtain ⟨c0, c1, c2, c3, c4, c5, c6, c7⟩ := hb.eight
 have g0 := hb.frozen 0
 have g1 := hb.frozen 1
 have q0 : decide (n < 0) = false := by simp; omega
 have q1 : decide (1099511627776 < n) = false := by simp; omega
 clear hb
 go_enter Tryz.func56, Tryz.ntmps56
 go_wp2_with fail
 refine wp_loop_rounds 5 ?_
 repeat any_goals (rw [rounds_succ]; go_wp2_with fail)
 go_ret2
 exact ⟨rfl, (HB.out.put 0 _).put 1 _, ((Off.refl _ _).setCell (.inl (by simp)) _).setCell (.inl (by simp)) _⟩
set_option maxHeartbeats 4000000 in
theorem enter_1 (g : Nat) (n t0 t1 t2 t3 : Int) (u2 u3 : Bool) (w : World) (hb : Bk w g 195 (slotCells t0 true t1 false t2 u2 t3 u3)) (h0 : 0 ≤ n) (h1 : n ≤ 1099511627776) :
   Calls Tryz.prog 56 #[.pointer (some ⟨g, 0, none⟩), .int .i64 n] w (EnterPost 1 0 g (slotCells t0 true n true t2 u2 t3 u3) w) := by
 have HB := Lib.hid hb
 obtain ⟨c0, c1, c2, c3, c4, c5, c6, c7⟩ := hb.eight
 have g0 := hb.frozen 2
 have g1 := hb.frozen 3
 have q0 : decide (n < 0) = false := by simp; omega
 have q1 : decide (1099511627776 < n) = false := by simp; omega
 clear hb
 go_enter Tryz.func56, Tryz.ntmps56
 go_wp2_with fail
 refine wp_loop_rounds 5 ?_
 repeat any_goals (rw [rounds_succ]; go_wp2_with fail)
 go_ret2
 exact ⟨rfl, (HB.out.put 2 _).put 3 _, ((Off.refl _ _).setCell (.inl (by simp)) _).setCell (.inl (by simp)) _⟩
set_option maxHeartbeats 4000000 in
theorem enter_2 (g : Nat) (n t0 t1 t2 t3 : Int) (u3 : Bool) (w : World) (hb : Bk w g 195 (slotCells t0 true t1 true t2 false t3 u3)) (h0 : 0 ≤ n) (h1 : n ≤ 1099511627776) :
   Calls Tryz.prog 56 #[.pointer (some ⟨g, 0, none⟩), .int .i64 n] w (EnterPost 2 0 g (slotCells t0 true t1 true n true t3 u3) w) := by
 have HB := Lib.hid hb
 obtain ⟨c0, c1, c2, c3, c4, c5, c6, c7⟩ := hb.eight
 have g0 := hb.frozen 4
 have g1 := hb.frozen 5
 have q0 : decide (n < 0) = false := by simp; omega
 have q1 : decide (1099511627776 < n) = false := by simp; omega
 clear hb
 go_enter Tryz.func56, Tryz.ntmps56
 go_wp2_with fail
 refine wp_loop_rounds 5 ?_
 repeat any_goals (rw [rounds_succ]; go_wp2_with fail)
 go_ret2
 exact ⟨rfl, (HB.out.put 4 _).put 5 _, ((Off.refl _ _).setCell (.inl (by simp)) _).setCell (.inl (by simp)) _⟩
set_option maxHeartbeats 4000000 in
theorem enter_3 (g : Nat) (n t0 t1 t2 t3 : Int) (w : World) (hb : Bk w g 195 (slotCells t0 true t1 true t2 true t3 false)) (h0 : 0 ≤ n) (h1 : n ≤ 1099511627776) :
   Calls Tryz.prog 56 #[.pointer (some ⟨g, 0, none⟩), .int .i64 n] w (EnterPost 3 0 g (slotCells t0 true t1 true t2 true n true) w) := by
 have HB := Lib.hid hb
 obtain ⟨c0, c1, c2, c3, c4, c5, c6, c7⟩ := hb.eight
 have g0 := hb.frozen 6
 have g1 := hb.frozen 7
 have q0 : decide (n < 0) = false := by simp; omega
 have q1 : decide (1099511627776 < n) = false := by simp; omega
 clear hb
 go_enter Tryz.func56, Tryz.ntmps56
 go_wp2_with fail
 refine wp_loop_rounds 5 ?_
 repeat any_goals (rw [rounds_succ]; go_wp2_with fail)
 go_ret2
 exact ⟨rfl, (HB.out.put 6 _).put 7 _, ((Off.refl _ _).setCell (.inl (by simp)) _).setCell (.inl (by simp)) _⟩
set_option maxHeartbeats 4000000 in
theorem enter_4 (g : Nat) (n t0 t1 t2 t3 : Int) (w : World) (hb : Bk w g 195 (slotCells t0 true t1 true t2 true t3 true)) (h0 : 0 ≤ n) (h1 : n ≤ 1099511627776) :
   Calls Tryz.prog 56 #[.pointer (some ⟨g, 0, none⟩), .int .i64 n] w (EnterPost 0 9 g (slotCells t0 true t1 true t2 true t3 true) w) := by
 have HB := Lib.hid hb
 obtain ⟨c0, c1, c2, c3, c4, c5, c6, c7⟩ := hb.eight
 have g0 := hb.frozen 8
 have g1 := hb.frozen 9
 have q0 : decide (n < 0) = false := by simp; omega
 have q1 : decide (1099511627776 < n) = false := by simp; omega
 clear hb
 go_enter Tryz.func56, Tryz.ntmps56
 go_wp2_with fail
 refine wp_loop_rounds 5 ?_
 repeat any_goals (rw [rounds_succ]; go_wp2_with fail)
 go_ret2
 exact ⟨rfl, HB.out, Off.refl _ _⟩
set_option maxHeartbeats 4000000 in
theorem enter_bad (g : Nat) (n : Int) (cs : Array Value) (w : World) (hb : Bk w g 195 cs) (h0 : n < 0 ∨ 1099511627776 < n) :
   Calls Tryz.prog 56 #[.pointer (some ⟨g, 0, none⟩), .int .i64 n] w (EnterPost 0 1 g cs w) := by
 have HB := Lib.hid hb
 have hq : decide (n < 0) = true ∨ (decide (n < 0) = false ∧ decide (1099511627776 < n) = true) := by simp; omega
 clear hb
 rcases hq with q0 | ⟨q0, q1⟩
 all_goals
   go_enter Tryz.func56, Tryz.ntmps56
   go_wp2_with fail
   go_ret2
   exact ⟨rfl, HB.out, Off.refl _ _⟩
theorem enter_any (g : Nat) (n : Int) (s : St) (w : World) (hb : Bk w g 195 s.cells) :
   Calls Tryz.prog 56 #[.pointer (some ⟨g, 0, none⟩), .int .i64 n] w (EnterPost (s.enter n).2.1 (s.enter n).2.2 g (s.enter n).1.cells w) := by
 cases hr : inRange n with
 | false =>
   have e : s.enter n = (s, 0, 1) := by unfold St.enter; rw [hr]; rfl
   rw [e]
   refine enter_bad g n s.cells w hb ?_
   unfold inRange at hr
   simp at hr
   omega
 | true =>
   have h2 : 0 ≤ n ∧ n ≤ 1099511627776 := by unfold inRange at hr; simpa using hr
   have e : s.enter n = (match s.a, s.b, s.c, s.d with
     | none, _, _, _ => ({ s with a := some n }, 0, 0)
     | some _, none, _, _ => ({ s with b := some n }, 1, 0)
     | some _, some _, none, _ => ({ s with c := some n }, 2, 0)
     | some _, some _, some _, none => ({ s with d := some n }, 3, 0)
     | some _, some _, some _, some _ => (s, 0, 9)) := by unfold St.enter; rw [hr]; rfl
   rw [e]
   obtain ⟨a, b, c, d⟩ := s
   cases a with
   | none => exact enter_0 g n _ _ _ _ _ _ _ w hb h2.1 h2.2
   | some a =>
     cases b with
     | none => exact enter_1 g n _ _ _ _ _ _ w hb h2.1 h2.2
     | some b =>
       cases c with
       | none => exact enter_2 g n _ _ _ _ _ w hb h2.1 h2.2
       | some c =>
         cases d with
         | none => exact enter_3 g n _ _ _ _ w hb h2.1 h2.2
         | some d => exact enter_4 g n _ _ _ _ w hb h2.1 h2.2
theorem rdnew_any (w : World) : Calls Tryz.prog 101 #[] w fun e w' => e = .returned (.pointer (some ⟨w.heap.size, 0, none⟩)) ∧ Bk w' w.heap.size 195 St.empty.cells ∧ Below w.heap.size w w' := by
 go_enter Tryz.func101, Tryz.ntmps101
 go_wp2_with fail
 go_ret
 exact ⟨rfl, Bk.new _ _ _, (Below.refl _ _).alloc (Nat.le_refl _) _⟩
end Go.Proofs.YtjbcbnemdhbhbaaGreatDoor
namespace Go.Proofs.YtjbcbnemdhbhbaaGreatDoor
open Go.RowKit
open Go.PlainAid Go.Sort Go.Shelf
set_option maxRecDepth 100000
set_option linter.unusedVariables false
set_option linter.unusedSimpArgs false
set_option linter.unnecessarySimpa false
def srt (l : List Int) : List Int := l.mergeSort fun x y => decide (x ≤ y)
theorem srt_len (l : List Int) : (srt l).length = l.length := by unfold srt; rw [List.length_mergeSort]
def SortPost (base : Nat) (v : Value) (zs : List Int) (w : World) (e : Ending) (w' : World) : Prop :=
 e = .returned (.tuple #[]) ∧ w'.ownsRow base 3 1 v zs.length ((srt zs).map (Value.int .i64)) ∧ w.grownBy w' v.ownBlock
theorem sort_own (base : Nat) (v : Value) (zs : List Int) (w : World) (h : w.ownsRow base 3 1 v zs.length (zs.map (Value.int .i64))) (hl : zs.length ≤ 1000) :
   Calls Tryz.prog 79 #[v] w (SortPost base v zs w) := by
 have h0 := h
 rcases h.2 with ⟨rfl, hn⟩ | ⟨g, cap, cur, rfl, hb, hh, hc, hm, hs, ht⟩
 · obtain rfl : zs = [] := List.eq_nil_of_length_eq_zero hn
   refine (AnyM.slices_Sort_int_none Tryz.sortA none 0 w).mono ?_
   rintro e w' ⟨rfl, rfl⟩
   exact ⟨rfl, by simpa [srt] using h0, World.grownBy.refl _ _⟩
 · have hH := holds_of_blockI (ss := zs) hh (by rw [Nat.mul_one] at ht; exact ht)
   refine (AnyM.slices_Sort_int Tryz.sortA g 0 cap zs w hH (lt_of_block hh) (by omega)).mono ?_
   rintro e w' ⟨rfl, n, os, rfl⟩
   exact ⟨rfl, ownsRow_sortedI (ts := srt zs) (srt_len zs) hb hh hc hm hs, grownBy_sortedI _⟩
def St.liveK (s : St) : Nat → List Int
 | 0 => []
 | 1 => s.a.toList
 | 2 => s.a.toList ++ s.b.toList
 | 3 => s.a.toList ++ s.b.toList ++ s.c.toList
 | _ => s.a.toList ++ s.b.toList ++ s.c.toList ++ s.d.toList
def St.live (s : St) : List Int := s.a.toList ++ s.b.toList ++ s.c.toList ++ s.d.toList
theorem St.liveK_le (s : St) (k : Nat) : (s.liveK k).length ≤ 4 := by
 obtain ⟨a, b, c, d⟩ := s
 match k with
 | 0 => simp [St.liveK]
 | 1 => cases a <;> simp [St.liveK]
 | 2 => cases a <;> cases b <;> simp [St.liveK]
 | 3 => cases a <;> cases b <;> cases c <;> simp [St.liveK]
 | k + 4 => cases a <;> cases b <;> cases c <;> cases d <;> simp [St.liveK]
def LiveAt (w : World) (s : St) (k : Nat) (v : Value) (wr : World) : Prop :=
 k ≤ 4 ∧ wr.ownsRow w.heap.size 3 1 v (s.liveK k).length ((s.liveK k).map (Value.int .i64)) ∧ Below w.heap.size w wr
def LivePost (zs : List Int) (w : World) (e : Ending) (w' : World) : Prop :=
 ∃ v, e = .returned v ∧ w'.ownsRow w.heap.size 3 1 v zs.length (zs.map (Value.int .i64)) ∧ Below w.heap.size w w'
theorem info_intL : (Tryz.prog.info? 3).map (fun i => (i.zero, i.size, i.bytes)) = some (some (.int .i64 0), 1, 8) := by kernel_rfl
theorem idx0 (t0 t1 t2 t3 : Int) (u0 u1 u2 u3 : Bool) (W : World) : (Instr.index 193 (.agg (slotCells t0 u0 t1 u1 t2 u2 t3 u3)) (.int .i64 0)).run Tryz.prog W = .ok (.agg #[.int .i64 t0, .bool u0]) W := by kernel_rfl
theorem idx1 (t0 t1 t2 t3 : Int) (u0 u1 u2 u3 : Bool) (W : World) : (Instr.index 193 (.agg (slotCells t0 u0 t1 u1 t2 u2 t3 u3)) (.int .i64 1)).run Tryz.prog W = .ok (.agg #[.int .i64 t1, .bool u1]) W := by kernel_rfl
theorem idx2 (t0 t1 t2 t3 : Int) (u0 u1 u2 u3 : Bool) (W : World) : (Instr.index 193 (.agg (slotCells t0 u0 t1 u1 t2 u2 t3 u3)) (.int .i64 2)).run Tryz.prog W = .ok (.agg #[.int .i64 t2, .bool u2]) W := by kernel_rfl
theorem idx3 (t0 t1 t2 t3 : Int) (u0 u1 u2 u3 : Bool) (W : World) : (Instr.index 193 (.agg (slotCells t0 u0 t1 u1 t2 u2 t3 u3)) (.int .i64 3)).run Tryz.prog W = .ok (.agg #[.int .i64 t3, .bool u3]) W := by kernel_rfl
theorem sl_one (W : World) (e : TypeId) (v : Value) : Sl (W.alloc (.cells #[v] e)) (some ⟨W.heap.size, 0, none⟩) [v] := by
 intro j u hu
 cases j with
 | zero =>
   simp at hu
   subst hu
   have hb := Bk.new W e #[v]
   exact ⟨W.heap.size, 0, rfl, hb.lt, by simpa using hb.cell 0⟩
 | succ j => simp at hu
set_option maxHeartbeats 4000000 in
theorem live_any (g : Nat) (s : St) (w : World) (hb : Bk w g 195 s.cells) :
   Calls Tryz.prog 62 #[.pointer (some ⟨g, 0, none⟩)] w (LivePost (srt s.live) w) := by
 have HS := Lib.hid (show LiveAt w s 0 (.slice none 0 0) w from ⟨by omega, World.ownsRow_nil _ _ _ _, Below.refl _ _⟩)
 have hb' : Bk w g 195 (slotCells (s.a.getD 0) s.a.isSome (s.b.getD 0) s.b.isSome (s.c.getD 0) s.c.isSome (s.d.getD 0) s.d.isSome) := hb
 have HL : Hid (∀ k, k < 4 → ∃ (t : Int) (u : Bool), (u = true ∧ s.liveK (k + 1) = s.liveK k ++ [t] ∨ u = false ∧ s.liveK (k + 1) = s.liveK k) ∧ ∀ W : World, (Instr.index 193 (.agg (slotCells (s.a.getD 0) s.a.isSome (s.b.getD 0) s.b.isSome (s.c.getD 0) s.c.isSome (s.d.getD 0) s.d.isSome)) (.int .i64 (k : Int))).run Tryz.prog W = .ok (.agg #[.int .i64 t, .bool u]) W) := by
   intro k hk
   obtain ⟨a, b, c, d⟩ := s
   have : k = 0 ∨ k = 1 ∨ k = 2 ∨ k = 3 := by omega
   rcases this with rfl | rfl | rfl | rfl
   · exact ⟨_, _, by cases a <;> simp [St.liveK], idx0 _ _ _ _ _ _ _ _⟩
   · exact ⟨_, _, by cases b <;> simp [St.liveK], idx1 _ _ _ _ _ _ _ _⟩
   · exact ⟨_, _, by cases c <;> simp [St.liveK], idx2 _ _ _ _ _ _ _ _⟩
   · exact ⟨_, _, by cases d <;> simp [St.liveK], idx3 _ _ _ _ _ _ _ _⟩
 generalize s.a.getD 0 = t0 at *
 generalize s.a.isSome = b0 at *
 generalize s.b.getD 0 = t1 at *
 generalize s.b.isSome = b1 at *
 generalize s.c.getD 0 = t2 at *
 generalize s.c.isSome = b2 at *
 generalize s.d.getD 0 = t3 at *
 generalize s.d.isSome = b3 at *
 obtain ⟨c0, c1, c2, c3, c4, c5, c6, c7⟩ := hb'.eight
 have HG := Lib.hid hb'.lt
 clear hb hb'
 go_enter Tryz.func62, Tryz.ntmps62
 go_wp2_with fail
 clear c0 c1 c2 c3 c4 c5 c6 c7
 go_loopw [3, 12] (fun v i wr => ∃ k : Nat, i = .int .i64 k ∧ LiveAt w s k v wr) (fun _ i _ => 4 - (intOf i).toNat)
 case atStart => exact ⟨0, rfl, HS.out⟩
 case round =>
   clear HS
   obtain ⟨k, rfl, hk, hown, hbl⟩ := hrel
   have hkl := s.liveK_le k
   by_cases h4 : k < 4
   · obtain ⟨t, u, hu, hix⟩ := HL.out k h4
     have HBL := Lib.hid hbl
     have hws := hbl.size
     rcases hu with ⟨rfl, hlk⟩ | ⟨rfl, hlk⟩
     · have HLK := Lib.hid hlk
       have HOWN := Lib.hid ((hown.alloc (.cells #[.int .i64 t, .bool true] 192)).alloc (.cells #[.int .i64 t] 3))
       obtain ⟨i0, hi, hz0, hz1, hz2⟩ := info_parts info_intL
       clear hlk hbl hown
       have HSL := Lib.hid (show Sl ((wr.alloc (.cells #[.int .i64 t, .bool true] 192)).alloc (.cells #[.int .i64 t] 3)) (some ⟨wr.heap.size + 1, 0, none⟩) [.int .i64 t] by
         have := sl_one (wr.alloc (.cells #[.int .i64 t, .bool true] 192)) 3 (.int .i64 t)
         simpa using this)
       go_wp2_with (at_builtin; refine wpList_append_sl _ rfl (.tmp 17) (.tmp 20) 51 rfl w.heap.size 3 i0 (.int .i64 0) 8 Tryz.underlying51 hi hz0 hz1 hz2 rfl u3 _ _ rfl HOWN.out (some ⟨wr.heap.size + 1, 0, none⟩) 1 1 [.int .i64 t] rfl rfl HSL.out (by simp [Value.oneCell']) (by unfold maxLen; omega) (by omega) (by simp; omega) ?_; intro v5 w5 hown5 hgrow5 hat5)
       have hb5 : Below w.heap.size w w5 := ((HBL.out.alloc hws _).alloc (by simp; omega) _).grown hgrow5 (by simp; omega) (fun k hk => ((HOWN.out).lt k hk).1)
       go_roundw
       case rel => exact ⟨k + 1, by go_num, by omega, by rw [HLK.out]; simpa using hown5, hb5⟩
       case measure => simp [intOf]; omega
     · have HLK := Lib.hid hlk
       have HOWN := Lib.hid (hown.alloc (.cells #[.int .i64 t, .bool false] 192))
       clear hlk hbl hown
       go_wp2_with fail
       go_roundw
       case rel => exact ⟨k + 1, by go_num, by omega, by rw [HLK.out]; exact HOWN.out, HBL.out.alloc hws _⟩
       case measure => simp [intOf]; omega
   · obtain rfl : k = 4 := by omega
     have HSO := Lib.hid (sort_own w.heap.size u3 (s.liveK 4) wr hown (by omega))
     have HBL := Lib.hid hbl
     have HOWN := Lib.hid hown
     rw [show ((4 : Nat) : Int) = 4 from rfl]
     clear hown hbl HL hk h4
     go_wp2_with fail
     refine HSO.out.mono ?_
     rintro e w6 ⟨rfl, hown6, hgrow6⟩
     have hb6 : Below w.heap.size w w6 := HBL.out.grown hgrow6 HBL.out.size (fun k hk => (HOWN.out.lt k hk).1)
     go_wp2_with fail
     go_ret
     exact ⟨_, rfl, by rw [srt_len]; exact hown6, hb6⟩
def TellsN (n : Int) (w : World) (e : Ending) (w' : World) : Prop := e = .returned (.int .i64 n) ∧ Below w.heap.size w w'
theorem tellsN_of {n m : Int} {w w' : World} (h : n = m) (hb : Below w.heap.size w w') : TellsN n w (.returned (.int .i64 m)) w' := by subst h; exact ⟨rfl, hb⟩
def oldestOf (l : List Int) (now : Int) : Int := match l with | [] => now | x :: _ => min now x
def St.oldest (s : St) (now : Int) : Int := oldestOf (srt s.live) now
set_option maxHeartbeats 4000000 in
theorem oldest_any (g : Nat) (now : Int) (s : St) (w : World) (hb : Bk w g 195 s.cells) :
   Calls Tryz.prog 170 #[.pointer (some ⟨g, 0, none⟩), .int .i64 now] w (TellsN (s.oldest now) w) := by
 have HL := live_any g s w hb
 have HE := Lib.hid (show s.oldest now = oldestOf (srt s.live) now from rfl)
 have hll : (srt s.live).length ≤ 4 := by rw [srt_len]; exact s.liveK_le 4
 generalize srt s.live = zs at *
 have HL2 := Lib.hid HL
 clear HL hb
 go_enter Tryz.func170, Tryz.ntmps170
 go_wp2_with fail
 refine HL2.out.mono ?_
 rintro e w1 ⟨v, rfl, hown, hb1⟩
 obtain ⟨A, c, rfl, hc1, hc2, hn, hsl, _⟩ := own_slice hown
 have HB1 := Lib.hid hb1
 clear hown hb1 hn
 cases zs with
 | nil =>
   clear hsl
   go_wp2_with fail
   go_ret
   exact tellsN_of (by rw [HE.out]; rfl) HB1.out
 | cons x l =>
   obtain ⟨b, o, rfl, hlt, hcell⟩ := hsl 0 (.int .i64 x) rfl
   simp only [Nat.add_zero] at hcell
   have hl2 : l.length ≤ 3 := by simpa using hll
   rw [show ((x :: l).length) = l.length + 1 from rfl]
   rw [show ((x :: l).length) = l.length + 1 from rfl] at hc1
   have HE2 := Lib.hid (show s.oldest now = min now x from HE.out)
   generalize l.length = m at *
   clear hsl hll HE
   go_wp2_with fail
   go_ret
   exact tellsN_of HE2.out HB1.out
end Go.Proofs.YtjbcbnemdhbhbaaGreatDoor

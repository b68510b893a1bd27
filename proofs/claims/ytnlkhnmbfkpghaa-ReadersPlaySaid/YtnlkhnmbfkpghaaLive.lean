/- Contracts of slices.Sort at a row of the call's own, and of the table's Live. -/
import Derived.Test.YtnlkhnmbfkpghaaReaders
import Derived.Test.YtnlkhnmbfkpghaaShelf
import Derived.Sort.OwnSortedInts
namespace Go.Proofs.Ytnlkhnmbfkpghaa
open Go.RowKit
open Go.PlainAid
set_option maxRecDepth 100000
set_option linter.unusedVariables false
set_option linter.unusedSimpArgs false
set_option linter.unnecessarySimpa false

def srt (l : List Int) : List Int := l.mergeSort fun x y => decide (x ≤ y)
theorem srt_len (l : List Int) : (srt l).length = l.length := by unfold srt; rw [List.length_mergeSort]

def SortPost (base : Nat) (v : Value) (zs : List Int) (w : World) (e : Ending) (w' : World) : Prop :=
  e = .returned (.tuple #[]) ∧ w'.ownsRow base 3 1 v zs.length ((srt zs).map (Value.int .i64)) ∧ w.grownBy w' v.ownBlock

theorem sort_own (base : Nat) (v : Value) (zs : List Int) (w : World) (h : w.ownsRow base 3 1 v zs.length (zs.map (Value.int .i64))) (hl : zs.length ≤ 1000) :
    Calls Try.prog 21 #[v] w (SortPost base v zs w) := by
  have h0 := h
  rcases h.2 with ⟨rfl, hn⟩ | ⟨g, cap, cur, rfl, hb, hh, hc, hm, hs, ht⟩
  · obtain rfl : zs = [] := List.eq_nil_of_length_eq_zero hn
    refine (Try.slices_Sort_int_none none 0 w).mono ?_
    rintro e w' ⟨rfl, rfl⟩
    exact ⟨rfl, by simpa [srt] using h0, World.grownBy.refl _ _⟩
  · have hH := holds_of_blockI (ss := zs) hh (by rw [Nat.mul_one] at ht; exact ht)
    refine (Try.slices_Sort_int g 0 cap zs w hH (lt_of_block hh) (by omega)).mono ?_
    rintro e w' ⟨rfl, n, os, rfl⟩
    exact ⟨rfl, ownsRow_sortedI (ts := srt zs) (srt_len zs) hb hh hc hm hs, grownBy_sortedI _⟩

def St.liveK (s : St) : Nat → List Int
  | 0 => []
  | 1 => s.a.toList
  | 2 => s.a.toList ++ s.b.toList
  | 3 => s.a.toList ++ s.b.toList ++ s.c.toList
  | _ => s.a.toList ++ s.b.toList ++ s.c.toList ++ s.d.toList
def St.live (s : St) : List Int := s.a.toList ++ s.b.toList ++ s.c.toList ++ s.d.toList
theorem St.liveK_le (s : St) (k : Nat) : (s.liveK k).length ≤ 4 := by
  obtain ⟨a, b, c, d⟩ := s
  match k with
  | 0 => simp [St.liveK]
  | 1 => cases a <;> simp [St.liveK]
  | 2 => cases a <;> cases b <;> simp [St.liveK]
  | 3 => cases a <;> cases b <;> cases c <;> simp [St.liveK]
  | k + 4 => cases a <;> cases b <;> cases c <;> cases d <;> simp [St.liveK]

def LiveAt (w : World) (s : St) (k : Nat) (v : Value) (wr : World) : Prop :=
  k ≤ 4 ∧ wr.ownsRow w.heap.size 3 1 v (s.liveK k).length ((s.liveK k).map (Value.int .i64)) ∧ Below w.heap.size w wr
def LivePost (zs : List Int) (w : World) (e : Ending) (w' : World) : Prop :=
  ∃ v, e = .returned v ∧ w'.ownsRow w.heap.size 3 1 v zs.length (zs.map (Value.int .i64)) ∧ Below w.heap.size w w'

theorem info_int : (Try.prog.info? 3).map (fun i => (i.zero, i.size, i.bytes)) = some (some (.int .i64 0), 1, 8) := by kernel_rfl

theorem idx0 (t0 t1 t2 t3 : Int) (u0 u1 u2 u3 : Bool) (W : World) : (Instr.index 45 (.agg (slotCells t0 u0 t1 u1 t2 u2 t3 u3)) (.int .i64 0)).run Try.prog W = .ok (.agg #[.int .i64 t0, .bool u0]) W := by kernel_rfl
theorem idx1 (t0 t1 t2 t3 : Int) (u0 u1 u2 u3 : Bool) (W : World) : (Instr.index 45 (.agg (slotCells t0 u0 t1 u1 t2 u2 t3 u3)) (.int .i64 1)).run Try.prog W = .ok (.agg #[.int .i64 t1, .bool u1]) W := by kernel_rfl
theorem idx2 (t0 t1 t2 t3 : Int) (u0 u1 u2 u3 : Bool) (W : World) : (Instr.index 45 (.agg (slotCells t0 u0 t1 u1 t2 u2 t3 u3)) (.int .i64 2)).run Try.prog W = .ok (.agg #[.int .i64 t2, .bool u2]) W := by kernel_rfl
theorem idx3 (t0 t1 t2 t3 : Int) (u0 u1 u2 u3 : Bool) (W : World) : (Instr.index 45 (.agg (slotCells t0 u0 t1 u1 t2 u2 t3 u3)) (.int .i64 3)).run Try.prog W = .ok (.agg #[.int .i64 t3, .bool u3]) W := by kernel_rfl

theorem sl_one (W : World) (e : TypeId) (v : Value) : Sl (W.alloc (.cells #[v] e)) (some ⟨W.heap.size, 0, none⟩) [v] := by
  intro j u hu
  cases j with
  | zero =>
    simp at hu
    subst hu
    have hb := Bk.new W e #[v]
    exact ⟨W.heap.size, 0, rfl, hb.lt, by simpa using hb.cell 0⟩
  | succ j => simp at hu

set_option maxHeartbeats 4000000 in
theorem live_any (g : Nat) (s : St) (w : World) (hb : Bk w g 47 s.cells) :
    Calls Try.prog 19 #[.pointer (some ⟨g, 0, none⟩)] w (LivePost (srt s.live) w) := by
  have HS := Lib.hid (show LiveAt w s 0 (.slice none 0 0) w from ⟨by omega, World.ownsRow_nil _ _ _ _, Below.refl _ _⟩)
  have hb' : Bk w g 47 (slotCells (s.a.getD 0) s.a.isSome (s.b.getD 0) s.b.isSome (s.c.getD 0) s.c.isSome (s.d.getD 0) s.d.isSome) := hb
  have HL : Hid (∀ k, k < 4 → ∃ (t : Int) (u : Bool), (u = true ∧ s.liveK (k + 1) = s.liveK k ++ [t] ∨ u = false ∧ s.liveK (k + 1) = s.liveK k) ∧ ∀ W : World, (Instr.index 45 (.agg (slotCells (s.a.getD 0) s.a.isSome (s.b.getD 0) s.b.isSome (s.c.getD 0) s.c.isSome (s.d.getD 0) s.d.isSome)) (.int .i64 (k : Int))).run Try.prog W = .ok (.agg #[.int .i64 t, .bool u]) W) := by
    intro k hk
    obtain ⟨a, b, c, d⟩ := s
    have : k = 0 ∨ k = 1 ∨ k = 2 ∨ k = 3 := by omega
    rcases this with rfl | rfl | rfl | rfl
    · exact ⟨_, _, by cases a <;> simp [St.liveK], idx0 _ _ _ _ _ _ _ _⟩
    · exact ⟨_, _, by cases b <;> simp [St.liveK], idx1 _ _ _ _ _ _ _ _⟩
    · exact ⟨_, _, by cases c <;> simp [St.liveK], idx2 _ _ _ _ _ _ _ _⟩
    · exact ⟨_, _, by cases d <;> simp [St.liveK], idx3 _ _ _ _ _ _ _ _⟩
  generalize s.a.getD 0 = t0 at *
  generalize s.a.isSome = b0 at *
  generalize s.b.getD 0 = t1 at *
  generalize s.b.isSome = b1 at *
  generalize s.c.getD 0 = t2 at *
  generalize s.c.isSome = b2 at *
  generalize s.d.getD 0 = t3 at *
  generalize s.d.isSome = b3 at *
  obtain ⟨c0, c1, c2, c3, c4, c5, c6, c7⟩ := hb'.eight
  have HG := Lib.hid hb'.lt
  clear hb hb'
  go_enter Try.func19, Try.ntmps19
  go_wp2_with fail
  clear c0 c1 c2 c3 c4 c5 c6 c7
  go_loopw [3, 12] (fun v i wr => ∃ k : Nat, i = .int .i64 k ∧ LiveAt w s k v wr) (fun _ i _ => 4 - (intOf i).toNat)
  case atStart => exact ⟨0, rfl, HS.out⟩
  case round =>
    clear HS
    obtain ⟨k, rfl, hk, hown, hbl⟩ := hrel
    have hkl := s.liveK_le k
    by_cases h4 : k < 4
    · obtain ⟨t, u, hu, hix⟩ := HL.out k h4
      have HBL := Lib.hid hbl
      have hws := hbl.size
      rcases hu with ⟨rfl, hlk⟩ | ⟨rfl, hlk⟩
      · have HLK := Lib.hid hlk
        have HOWN := Lib.hid ((hown.alloc (.cells #[.int .i64 t, .bool true] 44)).alloc (.cells #[.int .i64 t] 3))
        obtain ⟨i0, hi, hz0, hz1, hz2⟩ := info_parts info_int
        clear hlk hbl hown
        have HSL := Lib.hid (show Sl ((wr.alloc (.cells #[.int .i64 t, .bool true] 44)).alloc (.cells #[.int .i64 t] 3)) (some ⟨wr.heap.size + 1, 0, none⟩) [.int .i64 t] by
          have := sl_one (wr.alloc (.cells #[.int .i64 t, .bool true] 44)) 3 (.int .i64 t)
          simpa using this)
        go_wp2_with (at_builtin; refine wpList_append_sl _ rfl (.tmp 17) (.tmp 20) 39 rfl w.heap.size 3 i0 (.int .i64 0) 8 Try.underlying39 hi hz0 hz1 hz2 rfl u3 _ _ rfl HOWN.out (some ⟨wr.heap.size + 1, 0, none⟩) 1 1 [.int .i64 t] rfl rfl HSL.out (by simp [Value.oneCell']) (by unfold maxLen; omega) (by omega) (by simp; omega) ?_; intro v5 w5 hown5 hgrow5 hat5)
        have hb5 : Below w.heap.size w w5 := ((HBL.out.alloc hws _).alloc (by simp; omega) _).grown hgrow5 (by simp; omega) (fun k hk => ((HOWN.out).lt k hk).1)
        go_roundw
        case rel => exact ⟨k + 1, by go_num, by omega, by rw [HLK.out]; simpa using hown5, hb5⟩
        case measure => simp [intOf]; omega
      · have HLK := Lib.hid hlk
        have HOWN := Lib.hid (hown.alloc (.cells #[.int .i64 t, .bool false] 44))
        clear hlk hbl hown
        go_wp2_with fail
        go_roundw
        case rel => exact ⟨k + 1, by go_num, by omega, by rw [HLK.out]; exact HOWN.out, HBL.out.alloc hws _⟩
        case measure => simp [intOf]; omega
    · obtain rfl : k = 4 := by omega
      have HSO := Lib.hid (sort_own w.heap.size u3 (s.liveK 4) wr hown (by omega))
      have HBL := Lib.hid hbl
      have HOWN := Lib.hid hown
      rw [show ((4 : Nat) : Int) = 4 from rfl]
      clear hown hbl HL hk h4
      go_wp2_with fail
      refine HSO.out.mono ?_
      rintro e w6 ⟨rfl, hown6, hgrow6⟩
      have hb6 : Below w.heap.size w w6 := HBL.out.grown hgrow6 HBL.out.size (fun k hk => (HOWN.out.lt k hk).1)
      go_wp2_with fail
      go_ret
      exact ⟨_, rfl, by rw [srt_len]; exact hown6, hb6⟩

def TellsN (n : Int) (w : World) (e : Ending) (w' : World) : Prop := e = .returned (.int .i64 n) ∧ Below w.heap.size w w'
theorem tellsN_of {n m : Int} {w w' : World} (h : n = m) (hb : Below w.heap.size w w') : TellsN n w (.returned (.int .i64 m)) w' := by subst h; exact ⟨rfl, hb⟩
def oldestOf (l : List Int) (now : Int) : Int := match l with | [] => now | x :: _ => min now x
def St.oldest (s : St) (now : Int) : Int := oldestOf (srt s.live) now

set_option maxHeartbeats 4000000 in
theorem oldest_any (g : Nat) (now : Int) (s : St) (w : World) (hb : Bk w g 47 s.cells) :
    Calls Try.prog 10 #[.pointer (some ⟨g, 0, none⟩), .int .i64 now] w (TellsN (s.oldest now) w) := by
  have HL := live_any g s w hb
  have HE := Lib.hid (show s.oldest now = oldestOf (srt s.live) now from rfl)
  have hll : (srt s.live).length ≤ 4 := by rw [srt_len]; exact s.liveK_le 4
  generalize srt s.live = zs at *
  have HL2 := Lib.hid HL
  clear HL hb
  go_enter Try.func10, Try.ntmps10
  go_wp2_with fail
  refine HL2.out.mono ?_
  rintro e w1 ⟨v, rfl, hown, hb1⟩
  obtain ⟨A, c, rfl, hc1, hc2, hn, hsl, _⟩ := own_slice hown
  have HB1 := Lib.hid hb1
  clear hown hb1 hn
  cases zs with
  | nil =>
    clear hsl
    go_wp2_with fail
    go_ret
    exact tellsN_of (by rw [HE.out]; rfl) HB1.out
  | cons x l =>
    obtain ⟨b, o, rfl, hlt, hcell⟩ := hsl 0 (.int .i64 x) rfl
    simp only [Nat.add_zero] at hcell
    have hl2 : l.length ≤ 3 := by simpa using hll
    rw [show ((x :: l).length) = l.length + 1 from rfl]
    rw [show ((x :: l).length) = l.length + 1 from rfl] at hc1
    have HE2 := Lib.hid (show s.oldest now = min now x from HE.out)
    generalize l.length = m at *
    clear hsl hll HE
    go_wp2_with fail
    go_ret
    exact tellsN_of HE2.out HB1.out

def ClearPost (n : Int) (g : Nat) (w : World) (e : Ending) (w' : World) : Prop := e = .returned (.int .i64 n) ∧ Bk w' g 47 St.empty.cells ∧ Off [g] w w'

set_option maxHeartbeats 4000000 in
theorem clear_any (g : Nat) (s : St) (w : World) (hb : Bk w g 47 s.cells) :
    Calls Try.prog 14 #[.pointer (some ⟨g, 0, none⟩)] w (ClearPost (s.live.length : Int) g w) := by
  have HL := live_any g s w hb
  have hb' : Bk w g 47 (slotCells (s.a.getD 0) s.a.isSome (s.b.getD 0) s.b.isSome (s.c.getD 0) s.c.isSome (s.d.getD 0) s.d.isSome) := hb
  have hn0 : (srt s.live).length = s.live.length := srt_len _
  generalize srt s.live = zs at *
  have HL2 := Lib.hid HL
  have HBK := Lib.hid hb'
  have HN := Lib.hid hn0
  clear HL hb hb' hn0
  go_enter Try.func14, Try.ntmps14
  go_wp2_with fail
  refine HL2.out.mono ?_
  rintro e w1 ⟨v, rfl, hown, hb1⟩
  obtain ⟨A, c, rfl, hc1, hc2, hn, hsl, _⟩ := own_slice hown
  have HB1 := Lib.hid hb1
  have K1 := Lib.hid (bk_below HBK.out hb1)
  clear hown hb1 hn hsl
  obtain ⟨c0, c1, c2, c3, c4, c5, c6, c7⟩ := K1.out.eight
  have g0 := K1.out.frozen 0
  have g1 := K1.out.frozen 1
  have g2 := K1.out.frozen 2
  have g3 := K1.out.frozen 3
  have g4 := K1.out.frozen 4
  have g5 := K1.out.frozen 5
  have g6 := K1.out.frozen 6
  have g7 := K1.out.frozen 7
  go_wp2_with fail
  go_ret
  refine ⟨by rw [← HN.out]; rfl, (((((((K1.out.put 0 _).put 1 _).put 2 _).put 3 _).put 4 _).put 5 _).put 6 _).put 7 _, ?_⟩
  exact (((((((((Off.of_below HB1.out [g]).setCell (.inl (by simp)) _).setCell (.inl (by simp)) _).setCell (.inl (by simp)) _).setCell (.inl (by simp)) _).setCell (.inl (by simp)) _).setCell (.inl (by simp)) _).setCell (.inl (by simp)) _).setCell (.inl (by simp)) _)

theorem live_nil (w : World) : Calls Try.prog 19 #[.pointer none] w fun e w' => e = .returned (.slice none 0 0) ∧ w = w' := by
  go_enter Try.func19, Try.ntmps19
  go_wp2_with fail
  go_ret
  exact ⟨rfl, rfl⟩
theorem oldest_nil (n : Int) (w : World) : Calls Try.prog 10 #[.pointer none, .int .i64 n] w fun e w' => e = .returned (.int .i64 n) ∧ w = w' := by
  have H := Lib.hid fun W => live_nil W
  go_enter Try.func10, Try.ntmps10
  go_wp2_with (go_at_call 19; refine (H.out _).mono ?_; rintro e w' ⟨rfl, rfl⟩)
  go_ret
  exact ⟨rfl, rfl⟩
theorem clear_nil (w : World) : Calls Try.prog 14 #[.pointer none] w fun e w' => e = .returned (.int .i64 0) ∧ w = w' := by
  go_enter Try.func14, Try.ntmps14
  go_wp2_with fail
  go_ret
  exact ⟨rfl, rfl⟩
end Go.Proofs.Ytnlkhnmbfkpghaa

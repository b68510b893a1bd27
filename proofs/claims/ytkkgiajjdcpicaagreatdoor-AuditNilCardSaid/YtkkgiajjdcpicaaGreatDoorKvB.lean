/- What an empty tree, an empty row ask of tree, cursor, slices. -/
import Derived.Test.YtkkgiajjdcpicaaGreatDoorKit
import Derived.Test.YtkkgiajjdcpicaaGreatDoorAppend
import Derived.LoopN
import Derived.BigRegion
namespace Go.Proofs.YtkkgiajjdcpicaaGreatDoor
open Go.RowKit
set_option maxRecDepth 100000
set_option linter.unusedVariables false
set_option linter.unusedSimpArgs false
theorem reach_zero (v : Value) (w : World) : Calls Tryz.prog 62 #[v, .int .i64 0] w (fun e w' => e = .returned (.tuple #[.slice none 0 0, .int .i64 0]) ∧ w = w') := by
  go_enter Tryz.func62, Tryz.ntmps62
  go_wp2_with fail
  go_ret2
  exact ⟨rfl, rfl⟩
theorem cnew_zero (T : TypeId) (v : Value) (w : World) : Calls Tryz.prog 64 #[.iface T v, .int .i64 0] w (fun e w' => e = .returned (.pointer (some ⟨w.heap.size, 0, none⟩)) ∧ Bk w' w.heap.size 190 #[.iface T v, .int .i64 0, .slice none 0 0] ∧ Below w.heap.size w w') := by
  go_enter Tryz.func64, Tryz.ntmps64
  go_wp2_with fail
  go_ret
  exact ⟨rfl, Bk.new w _ _, (Below.refl _ w).alloc (Nat.le_refl _) _⟩
set_option maxHeartbeats 4000000 in
theorem cfirst_zero (v : Value) (c : Nat) (w : World) (h : Bk w c 190 #[v, .int .i64 0, .slice none 0 0]) : Calls Tryz.prog 65 #[.pointer (some ⟨c, 0, none⟩)] w (fun e w' => e = .returned (.tuple #[.bool false, .int .i64 0]) ∧ Off [c] w w') := by
  have HB : Hid (∀ f : Value, Calls Tryz.prog 113 #[.pointer (some ⟨c, 0, none⟩), f] w (fun e w' => e = .returned (.tuple #[.bool false, .int .i64 0]) ∧ Off [c] w w')) := fun f => by
    have c1 := h.cell 1
    have c2 := h.cell 2
    have f2 := h.frozen 2
    have lc := h.lt
    clear h
    go_enter Tryz.func113, Tryz.ntmps113
    go_wp2_with fail
    go_ret2
    exact ⟨rfl, (Off.refl [c] w).setCell (p := ⟨c, 2, none⟩) (.inl (by simp)) _⟩
  clear h
  go_enter Tryz.func65, Tryz.ntmps65
  go_wp2_with fail
  refine (HB.out _).mono ?_
  rintro e w1 ⟨rfl, hb⟩
  have HE := Lib.hid hb
  clear hb
  go_wp2_with fail
  go_ret2
  exact ⟨rfl, HE.out⟩
theorem grow_zero (w : World) : Calls Tryz.prog 112 #[.slice none 0 0, .int .i64 0] w (fun e w' => e = .returned (.slice none 0 0) ∧ w = w') := by
  go_enter Tryz.func112, Tryz.ntmps112
  go_wp2_with fail
  go_ret
  exact ⟨rfl, rfl⟩
set_option maxHeartbeats 8000000 in
theorem concat_none (k : Nat) (w : World) (h : Bk w k 64 #[.slice none 0 0, .slice none 0 0]) : Calls Tryz.prog 63 #[.slice (some ⟨k, 0, none⟩) 2 2] w (fun e w' => e = .returned (.slice none 0 0) ∧ Below w.heap.size w w') := by
  have c0 := h.cell 0
  have c1 := h.cell 1
  have lk := h.lt
  have HG := Lib.hid fun (W : World) => grow_zero W
  clear h
  go_enter Tryz.func63, Tryz.ntmps63
  go_wp2_with fail
  refine wp_loop_rounds 4 ?_
  rw [rounds_succ]
  go_wp2_with fail
  rw [rounds_succ]
  go_wp2_with fail
  rw [rounds_succ]
  go_wp2_with fail
  refine (HG.out _).mono ?_
  rintro e w1 ⟨rfl, rfl⟩
  go_wp2_with fail
  refine wp_loop_rounds 4 ?_
  rw [rounds_succ]
  go_wp2_with fail
  rw [rounds_succ]
  go_wp2_with fail
  rw [rounds_succ]
  go_wp2_with fail
  go_ret
  exact ⟨rfl, Below.refl _ _⟩
set_option maxHeartbeats 4000000 in
theorem len_zero (w : World) : Calls Tryz.prog 118 #[.int .u64 0] w (fun e w' => (∃ n : Int, e = .returned (.int .i64 n)) ∧ w = w') := by
  have H : Hid (∀ W, Calls Tryz.prog 180 #[.int .u64 0] W (fun e w' => (∃ n : Int, e = .returned (.int .i64 n)) ∧ W = w')) := fun W => by
    go_enter Tryz.func180, Tryz.ntmps180
    go_wp2_with fail
    go_ret
    exact ⟨⟨_, rfl⟩, rfl⟩
  go_enter Tryz.func118, Tryz.ntmps118
  go_wp2_with fail
  refine (H.out _).mono ?_
  rintro e w1 ⟨⟨n, rfl⟩, rfl⟩
  go_wp2_with fail
  go_ret
  exact ⟨⟨_, rfl⟩, rfl⟩
set_option maxHeartbeats 8000000 in
theorem sort_none (w : World) : Calls Tryz.prog 68 #[.slice none 0 0] w (fun e w' => e = .returned (.tuple #[]) ∧ Below w.heap.size w w') := by
  have HL := Lib.hid fun (W : World) => len_zero W
  have HI : Hid (∀ W, Calls Tryz.prog 170 #[.slice none 0 0, .int .i64 0, .int .i64 0] W (fun e w' => e = .returned (.tuple #[]) ∧ W = w')) := fun W => by
    go_enter Tryz.func170, Tryz.ntmps170
    go_wp2_with fail
    refine wp_loop_rounds 2 ?_
    rw [rounds_succ]
    go_wp2_with fail
    refine bodyPost_end (results_none rfl _ _ _) rfl ?_
    exact ⟨rfl, rfl⟩
  have HP : Hid (∀ (n : Int) W, Calls Tryz.prog 117 #[.slice none 0 0, .int .i64 0, .int .i64 0, .int .i64 n] W (fun e w' => e = .returned (.tuple #[]) ∧ W = w')) := fun n W => by
    go_enter Tryz.func117, Tryz.ntmps117
    go_wp2_with fail
    refine wp_loop_rounds 2 ?_
    rw [rounds_succ]
    go_wp2_with fail
    refine (HI.out _).mono ?_
    rintro e w1 ⟨rfl, rfl⟩
    go_wp2_with fail
    first
      | (refine bodyPost_end (results_none rfl _ _ _) rfl ?_)
      | (refine bodyPost_ret (results_none rfl _ _ _) rfl ?_)
      | fail
    exact ⟨rfl, rfl⟩
  go_enter Tryz.func68, Tryz.ntmps68
  go_wp2_with fail
  refine (HL.out _).mono ?_
  rintro e w1 ⟨⟨n, rfl⟩, rfl⟩
  go_wp2_with fail
  refine (HP.out _ _).mono ?_
  rintro e w1 ⟨rfl, rfl⟩
  go_wp2_with fail
  refine bodyPost_end (results_none rfl _ _ _) rfl ?_
  exact ⟨rfl, Below.refl _ _⟩
end Go.Proofs.YtkkgiajjdcpicaaGreatDoor

/- Walks of rollbooklaw07.awake and of the law ReadersNil. -/
import Derived.Test.YtnlkhnmbfkpghaaPlainLive
namespace Go.Proofs.Ytnlkhnmbfkpghaa
open Go.RowKit
open Go.PlainAid
set_option maxRecDepth 100000
set_option linter.unusedVariables false
set_option linter.unusedSimpArgs false

def s1 : St := ⟨some 5, none, none, none⟩
def s2 : St := ⟨some 5, some 3, none, none⟩
theorem old2 : s2.oldest 9 = 3 := by rw [St.oldest_eq]; decide
theorem old1 : s1.oldest 9 = 5 := by rw [St.oldest_eq]; decide

theorem below_off {S : List Nat} {a b c : World} (h : Below a.heap.size a b) (k : Off S b c) (hS : ∀ g ∈ S, a.heap.size ≤ g) : Below a.heap.size a c :=
  h.trans (k.below h.size hS)

set_option maxHeartbeats 4000000 in
theorem rawake_any (w : World) : Calls Try.prog 6 #[] w (TellsQ true w) := by
  have H0 := Lib.hid (rdnew_any w)
  have H1 := Lib.hid fun (W : World) (hb : Bk W w.heap.size 47 St.empty.cells) => (show Calls Try.prog 8 #[.pointer (some ⟨w.heap.size, 0, none⟩), .int .i64 5] W (EnterPost 0 0 w.heap.size s1.cells W) from enter_any w.heap.size 5 St.empty W hb)
  have H2 := Lib.hid fun (W : World) (hb : Bk W w.heap.size 47 s1.cells) => (show Calls Try.prog 8 #[.pointer (some ⟨w.heap.size, 0, none⟩), .int .i64 3] W (EnterPost 1 0 w.heap.size s2.cells W) from enter_any w.heap.size 3 s1 W hb)
  have H3 := fun (W : World) (hb : Bk W w.heap.size 47 s2.cells) => oldest_any w.heap.size 9 s2 W hb
  rw [old2] at H3
  have H4 := Lib.hid fun (W : World) (hb : Bk W w.heap.size 47 s2.cells) => (show Calls Try.prog 9 #[.pointer (some ⟨w.heap.size, 0, none⟩), .int .i64 1] W (LeavePost 0 w.heap.size s1.cells W) from leave_any w.heap.size 1 s2 W hb)
  have H5 := fun (W : World) (hb : Bk W w.heap.size 47 s1.cells) => oldest_any w.heap.size 9 s1 W hb
  rw [old1] at H5
  have G3 := Lib.hid H3
  have G5 := Lib.hid H5
  clear H3 H5
  go_enter Try.func6, Try.ntmps6
  go_wp2_with fail
  refine H0.out.mono ?_
  rintro e w1 ⟨rfl, hk1, hb1⟩
  have K1 := Lib.hid hk1
  have X1 := Lib.hid hb1
  clear hk1 hb1
  go_wp2_with fail
  refine (H1.out _ K1.out).mono ?_
  rintro e w2 ⟨rfl, hk2, ho2⟩
  have K2 := Lib.hid hk2
  have X2 := Lib.hid (below_off X1.out ho2 (by simp))
  clear hk2 ho2
  go_wp2_with fail
  refine (H2.out _ K2.out).mono ?_
  rintro e w3 ⟨rfl, hk3, ho3⟩
  have K3 := Lib.hid hk3
  have X3 := Lib.hid (below_off X2.out ho3 (by simp))
  clear hk3 ho3
  go_wp2_with fail
  refine (G3.out _ K3.out).mono ?_
  rintro e w4 ⟨rfl, hb4⟩
  have K4 := Lib.hid (bk_below K3.out hb4)
  have X4 := Lib.hid (X3.out.trans (hb4.mono X3.out.size))
  clear hb4
  go_wp2_with fail
  refine (H4.out _ K4.out).mono ?_
  rintro e w5 ⟨rfl, hk5, ho5⟩
  have K5 := Lib.hid hk5
  have X5 := Lib.hid (below_off X4.out ho5 (by simp))
  clear hk5 ho5
  go_wp2_with fail
  refine (G5.out _ K5.out).mono ?_
  rintro e w6 ⟨rfl, hb6⟩
  have X6 := Lib.hid (X5.out.trans (hb6.mono X5.out.size))
  clear hb6
  go_wp2_with fail
  go_ret
  exact tellsQ_of rfl X6.out

set_option maxHeartbeats 4000000 in
theorem readersNil_walk (n : Int) (w : World) (_ : (Lit.int .i64 n).wf = true) : Calls Try.prog 5 #[.int .i64 n] w (Holds w) := by
  have HA := Lib.hid (rawake_any w)
  have E1 := Lib.hid fun W => enter_nil n W
  have E2 := Lib.hid fun W => reads_nil n W
  have E3 := Lib.hid fun W => leave_nil n W
  have E4 := Lib.hid fun W => oldest_nil n W
  have E5 := Lib.hid fun W => live_nil W
  have E6 := Lib.hid fun W => clear_nil W
  go_enter Try.func5, Try.ntmps5
  go_wp2_with fail
  refine HA.out.mono ?_
  rintro e w1 ⟨rfl, hb1⟩
  go_wp2_with (first
    | (go_at_call 8; refine (E1.out _).mono ?_; rintro e w' ⟨rfl, rfl⟩)
    | (go_at_call 17; refine (E2.out _).mono ?_; rintro e w' ⟨rfl, rfl⟩)
    | (go_at_call 9; refine (E3.out _).mono ?_; rintro e w' ⟨rfl, rfl⟩)
    | (go_at_call 10; refine (E4.out _).mono ?_; rintro e w' ⟨rfl, rfl⟩)
    | (go_at_call 19; refine (E5.out _).mono ?_; rintro e w' ⟨rfl, rfl⟩)
    | (go_at_call 14; refine (E6.out _).mono ?_; rintro e w' ⟨rfl, rfl⟩)
    | fail)
  go_ret
  exact ⟨rfl, hb1⟩
end Go.Proofs.Ytnlkhnmbfkpghaa

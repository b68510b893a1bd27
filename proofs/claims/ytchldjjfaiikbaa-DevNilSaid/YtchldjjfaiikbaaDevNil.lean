/- DevNil: the walk. -/
import Derived.Test.YtchldjjfaiikbaaDevAwake
namespace Go.Proofs.Ytchldjjfaiikbaa
open Go.RowKit
open Go.PlainAid
set_option maxRecDepth 100000
set_option linter.unusedVariables false
set_option linter.unusedSimpArgs false

set_option maxHeartbeats 4000000 in
theorem devNil_walk (x : ActV) (w : World) (_ : x.Ok w) : Calls Try.prog 6 #[x.val] w (Holds w) := by
  have HBK : Hid (Bk (w.alloc (.cells x.cells 33)) w.heap.size 33 x.cells) := Bk.new _ _ _
  have HT : Hid (∀ W, Calls Try.prog 11 #[.pointer none, x.val] W (NilPost W)) := fun W => does_nil x W
  have HKS : Hid (∀ W, Bk W w.heap.size 33 x.cells → W.cell? ⟨w.heap.size, 0, none⟩ = some (.int .i64 x.kind) ∧ W.cell? ⟨w.heap.size, 1, none⟩ = some (.int .i64 x.i) ∧ W.cell? ⟨w.heap.size, 2, none⟩ = some (.int .i64 x.n) ∧ W.cell? ⟨w.heap.size, 3, none⟩ = some (.int .u8 (x.c.toNat : Int)) ∧ W.cell? ⟨w.heap.size, 4, none⟩ = some (.string x.text) ∧ W.cell? ⟨w.heap.size, 5, none⟩ = some (.slice x.A x.picks.length x.cap)) := fun W h => h.six
  obtain ⟨kind, i, n, c, text, A, picks, cap⟩ := x
  unfold ActV.val ActV.cells at *
  simp only at *
  go_enter Try.func6, Try.ntmps6
  go_wp2_with fail
  (go_at_call 7)
  refine (awake_any _).mono ?_
  rintro e w1 ⟨rfl, hb1⟩
  have HB1 := Lib.hid (bk_below HBK.out hb1)
  have H1 := Lib.hid (((Below.refl _ w).alloc (Nat.le_refl _) (.cells #[.int .i64 kind, .int .i64 i, .int .i64 n, .int .u8 (c.toNat : Int), .string text, .slice A picks.length cap] 33)).trans (hb1.mono (by simp)))
  clear hb1
  obtain ⟨c0, c1, c2, c3, c4, c5⟩ := HKS.out _ HB1.out
  go_wp2_with (first
    | (go_at_call 25; refine (dread_nil i _).mono ?_; rintro e w2 ⟨rfl, rfl⟩)
    | fail)
  (go_at_call 11)
  refine (HT.out _).mono ?_
  rintro e w2 ⟨rfl, hb2⟩
  have HB2 := Lib.hid (bk_below HB1.out hb2)
  have H2 := Lib.hid (H1.out.trans (hb2.mono H1.out.size))
  clear hb2 c0 c1 c2 c3 c4 c5
  obtain ⟨c0, c1, c2, c3, c4, c5⟩ := HKS.out _ HB2.out
  go_wp2_with (first
    | (go_at_call 10; refine (don_nil _).mono ?_; rintro e w3 ⟨rfl, rfl⟩)
    | (go_at_call 23; refine (dsize_nil _).mono ?_; rintro e w3 ⟨rfl, rfl⟩)
    | (go_at_call 13; refine (dlasts_nil i _).mono ?_; rintro e w3 ⟨rfl, rfl⟩)
    | (go_at_call 16; refine (dwaits_nil i _).mono ?_; rintro e w3 ⟨rfl, rfl⟩)
    | (go_at_call 18; refine (dwrites_nil _).mono ?_; rintro e w3 ⟨rfl, rfl⟩)
    | (go_at_call 21; refine (dsteps_nil _).mono ?_; rintro e w3 ⟨rfl, rfl⟩)
    | fail)
  go_ret
  exact ⟨rfl, H2.out⟩
end Go.Proofs.Ytchldjjfaiikbaa

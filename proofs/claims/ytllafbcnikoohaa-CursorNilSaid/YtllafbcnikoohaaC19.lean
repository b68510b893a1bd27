/- Merged by program: CursorNil. -/
import Derived.Test.YtllafbcnikoohaaC18
/- CursorNil's walk. -/
namespace Go.Proofs.Ytllafbcnikoohaa
open Go.RowKit
set_option maxRecDepth 100000
set_option linter.unusedVariables false
set_option linter.unusedSimpArgs false
theorem begin_nil (f : Value) (w : World) : Calls Try.prog 25 #[.pointer none, f] w (fun e w' => e = .returned (.tuple #[.bool false, .int .i64 2]) ∧ Below w.heap.size w w') := by
  go_enter Try.func25, Try.ntmps25
  go_wp2_with fail
  go_ret2
  exact ⟨rfl, Below.refl _ _⟩
theorem step_nil (b : Int) (f : Value) (w : World) : Calls Try.prog 28 #[.pointer none, .int .i64 b, f] w (fun e w' => e = .returned (.tuple #[.bool false, .int .i64 2]) ∧ Below w.heap.size w w') := by
  go_enter Try.func28, Try.ntmps28
  go_wp2_with fail
  go_ret2
  exact ⟨rfl, Below.refl _ _⟩
theorem on_nil (w : World) : Calls Try.prog 27 #[.pointer none] w (fun e w' => e = .returned (.tuple #[ceV Ce.zero, .bool false]) ∧ Below w.heap.size w w') := by
  go_enter Try.func27, Try.ntmps27
  go_wp2_with fail
  exact bodyPost_ret (v := .tuple #[ceV Ce.zero, .bool false]) (by simp [results, Try.results27, go_sem, ceV, Ce.zero]) rfl ⟨rfl, (Below.refl _ w).alloc (Nat.le_refl _) _⟩
theorem first_nil (w : World) : Calls Try.prog 18 #[.pointer none] w (fun e w' => e = .returned (.tuple #[.bool false, .int .i64 2]) ∧ Below w.heap.size w w') := by
  have H := Lib.hid fun f (W : World) => begin_nil f W
  go_enter Try.func18, Try.ntmps18
  go_wp2_with fail
  refine (H.out _ _).mono ?_
  rintro e w1 ⟨rfl, hb⟩
  have HB := Lib.hid hb
  clear hb
  go_wp2_with fail
  go_ret2
  exact ⟨rfl, HB.out⟩
theorem next_nil (w : World) : Calls Try.prog 14 #[.pointer none] w (fun e w' => e = .returned (.tuple #[.bool false, .int .i64 2]) ∧ Below w.heap.size w w') := by
  have H := Lib.hid fun b f (W : World) => step_nil b f W
  go_enter Try.func14, Try.ntmps14
  go_wp2_with fail
  refine (H.out _ _ _).mono ?_
  rintro e w1 ⟨rfl, hb⟩
  have HB := Lib.hid hb
  clear hb
  go_wp2_with fail
  go_ret2
  exact ⟨rfl, HB.out⟩
theorem seek_nil (key : ByteArray) (w : World) : Calls Try.prog 11 #[.pointer none, .string key] w (fun e w' => e = .returned (.tuple #[.bool false, .int .i64 2]) ∧ Below w.heap.size w w') := by
  have H := Lib.hid fun f (W : World) => begin_nil f W
  go_enter Try.func11, Try.ntmps11
  go_wp2_with fail
  refine (H.out _ _).mono ?_
  rintro e w1 ⟨rfl, hb⟩
  have HB := Lib.hid (((Below.refl _ w).alloc (Nat.le_refl _) _).trans (hb.mono (by simp)))
  clear hb
  go_wp2_with fail
  go_ret2
  exact ⟨rfl, HB.out⟩
theorem key_nil (w : World) : Calls Try.prog 12 #[.pointer none] w (fun e w' => e = .returned (.string ⟨#[]⟩) ∧ Below w.heap.size w w') := by
  have H := Lib.hid fun (W : World) => on_nil W
  unfold ceV Ce.zero at H
  go_enter Try.func12, Try.ntmps12
  go_wp2_with fail
  refine (H.out _).mono ?_
  rintro e w1 ⟨rfl, hb⟩
  have HB := Lib.hid hb
  clear hb
  go_wp2_with fail
  go_ret
  exact ⟨rfl, HB.out.alloc HB.out.size _⟩
theorem value_nil (w : World) : Calls Try.prog 19 #[.pointer none] w (fun e w' => e = .returned (.tuple #[.string ⟨#[]⟩, .int .i64 2]) ∧ Below w.heap.size w w') := by
  go_enter Try.func19, Try.ntmps19
  go_wp2_with fail
  go_ret2
  exact ⟨rfl, Below.refl _ _⟩
set_option maxHeartbeats 16000000 in
theorem cursorNil_walk (key : ByteArray) (w : World) : Calls Try.prog 5 #[.string key] w (Holds w) := by
  have HA := Lib.hid (awake10 w)
  have H1 := Lib.hid fun (W : World) => first_nil W
  have H2 := Lib.hid fun (W : World) => seek_nil key W
  have H3 := Lib.hid fun (W : World) => next_nil W
  have H4 := Lib.hid fun (W : World) => value_nil W
  have H5 := Lib.hid fun (W : World) => key_nil W
  go_enter Try.func5, Try.ntmps5
  go_wp2_with fail
  refine HA.out.mono ?_
  rintro e w1 ⟨rfl, hb⟩
  have HB1 := Lib.hid hb
  clear hb
  go_wp2_with fail
  refine (H1.out _).mono ?_
  rintro e w2 ⟨rfl, hb⟩
  have HB2 := Lib.hid (HB1.out.trans (hb.mono HB1.out.size))
  clear hb
  go_wp2_with fail
  refine (H2.out _).mono ?_
  rintro e w3 ⟨rfl, hb⟩
  have HB3 := Lib.hid (HB2.out.trans (hb.mono HB2.out.size))
  clear hb
  go_wp2_with fail
  refine (H3.out _).mono ?_
  rintro e w4 ⟨rfl, hb⟩
  have HB4 := Lib.hid (HB3.out.trans (hb.mono HB3.out.size))
  clear hb
  go_wp2_with fail
  refine (H4.out _).mono ?_
  rintro e w5 ⟨rfl, hb⟩
  have HB5 := Lib.hid (HB4.out.trans (hb.mono HB4.out.size))
  clear hb
  go_wp2_with fail
  refine (H5.out _).mono ?_
  rintro e w6 ⟨rfl, hb⟩
  have HB6 := Lib.hid (HB5.out.trans (hb.mono HB5.out.size))
  clear hb
  go_wp2_with fail
  go_ret
  exact ⟨rfl, HB6.out⟩
end Go.Proofs.Ytllafbcnikoohaa

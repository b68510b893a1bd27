/- Contracts of the device: Size, is, step, On, Cut, Fuse, Steps, Writes, Lasts, Waits, Read. -/
import Derived.Test.YtkkgiajjdcpicaaGreatDoorDevAt
namespace Go.Proofs.YtkkgiajjdcpicaaGreatDoor
open Go.RowKit
open Go.PlainAid
set_option maxRecDepth 100000
set_option linter.unusedVariables false
set_option linter.unusedSimpArgs false

abbrev ptr (g : Nat) : Value := .pointer (some ⟨g, 0, none⟩)

theorem dsize_any {g : Nat} {S : List Nat} {D : DevS} {w : World} (hd : Dev w g S D) :
    Calls Tryz.prog 124 #[ptr g] w fun e w' => e = .returned (.int .i64 (D.sec.length : Int)) ∧ w = w' := by
  obtain ⟨l, m, nn, B, C, h⟩ := hd
  obtain ⟨c0, c1, c2, c3, c4, c5⟩ := h.cells.six
  clear h
  go_enter Tryz.func124, Tryz.ntmps124
  go_wp2_with fail
  go_ret
  exact ⟨rfl, rfl⟩
theorem dsize_nil (w : World) : Calls Tryz.prog 124 #[.pointer none] w fun e w' => e = .returned (.int .i64 0) ∧ w = w' := by
  go_enter Tryz.func124, Tryz.ntmps124
  go_wp2_with fail
  go_ret
  exact ⟨rfl, rfl⟩

def TellsT (q : Bool) (w : World) (e : Ending) (w' : World) : Prop := e = .returned (.bool q) ∧ w = w'
theorem dis_any {g : Nat} {S : List Nat} {D : DevS} {w : World} (hd : Dev w g S D) (i : Int) :
    Calls Tryz.prog 163 #[ptr g, .int .i64 i] w (TellsT (D.isIn i) w) := by
  obtain ⟨l, m, nn, B, C, h⟩ := hd
  obtain ⟨c0, c1, c2, c3, c4, c5⟩ := h.cells.six
  clear h
  have hcs : (decide (0 ≤ i) = false ∧ Hid (D.isIn i = false)) ∨ (0 ≤ i ∧ decide (0 ≤ i) = true ∧ decide (i < (D.sec.length : Int)) = false ∧ Hid (D.isIn i = false)) ∨ (0 ≤ i ∧ decide (0 ≤ i) = true ∧ decide (i < (D.sec.length : Int)) = true ∧ Hid (D.isIn i = true)) := by
    unfold DevS.isIn
    by_cases h1 : 0 ≤ i
    · by_cases h2 : i < (D.sec.length : Int)
      · exact .inr (.inr ⟨h1, by simpa using h1, by simpa using h2, show _ = _ by simp; omega⟩)
      · exact .inr (.inl ⟨h1, by simpa using h1, by simpa using h2, show _ = _ by simp; omega⟩)
    · exact .inl ⟨by simpa using h1, show _ = _ by simp; omega⟩
  rcases hcs with ⟨q1, HB⟩ | ⟨h0, q1, q2, HB⟩ | ⟨h0, q1, q2, HB⟩
  all_goals
    go_enter Tryz.func163, Tryz.ntmps163
    go_wp2_with fail
    go_ret
    exact ⟨by rw [HB.out]; rfl, rfl⟩
theorem dis_nil (i : Int) (w : World) : Calls Tryz.prog 163 #[.pointer none, .int .i64 i] w (TellsT false w) := by
  go_enter Tryz.func163, Tryz.ntmps163
  go_wp2_with fail
  go_ret
  exact ⟨rfl, rfl⟩

/-- A step: what is left of the fuse, whether the power is off. -/
def StepPost (g : Nat) (q : Bool) (cs : Array Value) (w : World) (e : Ending) (w' : World) : Prop := e = .returned (.bool q) ∧ Bk w' g 138 cs ∧ Off [g] w w'
theorem dstep_off (g l n m : Nat) (fuse steps writes : Int) (w : World) (h : Bk w g 138 (devCells l n m true fuse steps writes)) :
    Calls Tryz.prog 158 #[ptr g] w (StepPost g false (devCells l n m true fuse steps writes) w) := by
  have HB := Lib.hid h
  obtain ⟨c0, c1, c2, c3, c4, c5⟩ := h.six
  clear h
  go_enter Tryz.func158, Tryz.ntmps158
  go_wp2_with fail
  go_ret
  exact ⟨rfl, HB.out, Off.refl _ _⟩
set_option maxHeartbeats 4000000 in
theorem dstep_one (g l n m : Nat) (steps writes : Int) (w : World) (h : Bk w g 138 (devCells l n m false 1 steps writes)) (h1 : 0 ≤ steps) (h2 : steps ≤ 1000000000) :
    Calls Tryz.prog 158 #[ptr g] w (StepPost g false (devCells l n m true 0 (steps + 1) writes) w) := by
  have HB := Lib.hid h
  obtain ⟨c0, c1, c2, c3, c4, c5⟩ := h.six
  have g2 := h.frozen 2
  have g3 := h.frozen 3
  have g4 := h.frozen 4
  clear h
  go_enter Tryz.func158, Tryz.ntmps158
  go_wp2_with fail
  go_ret
  exact ⟨rfl, ((HB.out.put 4 _).put 2 _).put 3 _, (((Off.refl _ _).setCell (.inl (by simp)) _).setCell (.inl (by simp)) _).setCell (.inl (by simp)) _⟩
set_option maxHeartbeats 4000000 in
theorem dstep_zero (g l n m : Nat) (steps writes : Int) (w : World) (h : Bk w g 138 (devCells l n m false 0 steps writes)) (h1 : 0 ≤ steps) (h2 : steps ≤ 1000000000) :
    Calls Tryz.prog 158 #[ptr g] w (StepPost g true (devCells l n m false 0 (steps + 1) writes) w) := by
  have HB := Lib.hid h
  obtain ⟨c0, c1, c2, c3, c4, c5⟩ := h.six
  have g3 := h.frozen 3
  have g4 := h.frozen 4
  clear h
  go_enter Tryz.func158, Tryz.ntmps158
  go_wp2_with fail
  go_ret
  exact ⟨rfl, (HB.out.put 4 _).put 3 _, ((Off.refl _ _).setCell (.inl (by simp)) _).setCell (.inl (by simp)) _⟩
set_option maxHeartbeats 4000000 in
theorem dstep_more (g l n m : Nat) (fuse steps writes : Int) (w : World) (h : Bk w g 138 (devCells l n m false fuse steps writes)) (h1 : 0 ≤ steps) (h2 : steps ≤ 1000000000) (f0 : 2 ≤ fuse) (f1 : fuse ≤ 9223372036854775807) :
    Calls Tryz.prog 158 #[ptr g] w (StepPost g true (devCells l n m false (fuse - 1) (steps + 1) writes) w) := by
  have HB := Lib.hid h
  obtain ⟨c0, c1, c2, c3, c4, c5⟩ := h.six
  have g3 := h.frozen 3
  have g4 := h.frozen 4
  have q1 : (fuse == 1) = false := by simp; omega
  have q2 : decide (fuse - 1 < 0) = false := by simp; omega
  have q3 : (0 : Int) ≤ fuse - 1 := by omega
  have q4 : decide ((0 : Int) < fuse - 1) = true := by simp; omega
  have q5 : IntKind.i64.wrap (fuse - 1) = fuse - 1 := IntWalk.i64_in _ (by omega)
  have q6 : max 0 (fuse - 1) = fuse - 1 := by omega
  clear h
  go_enter Tryz.func158, Tryz.ntmps158
  go_wp2_with fail
  go_ret
  exact ⟨rfl, (HB.out.put 4 _).put 3 _, ((Off.refl _ _).setCell (.inl (by simp)) _).setCell (.inl (by simp)) _⟩

/-- A step of a device. -/
theorem dstep_any {g l n m : Nat} {D : DevS} {w : World} (h : Bk w g 138 (devCells l n m D.off D.fuse D.steps D.writes)) (hk : D.Ok) (hs : D.steps ≤ 1000000000) :
    Calls Tryz.prog 158 #[ptr g] w (StepPost g D.stepOk (devCells l n m D.stepped.off D.stepped.fuse D.stepped.steps D.stepped.writes) w) := by
  have h0 := hk.steps0
  have f0 := hk.fuse0
  have f1 := hk.fuse1
  obtain ⟨sec, row, off, fuse, steps, writes⟩ := D
  unfold DevS.stepOk DevS.stepped
  simp only at *
  cases off with
  | true => exact dstep_off g l n m fuse steps writes w h
  | false =>
    by_cases c1 : fuse = 1
    · subst c1; exact dstep_one g l n m steps writes w h h0 hs
    · by_cases c2 : fuse = 0
      · subst c2; exact dstep_zero g l n m steps writes w h h0 hs
      · have e1 : (fuse == 1) = false := by simpa using c1
        have e2 : max 0 (fuse - 1) = fuse - 1 := by omega
        simp only [e1, e2]
        exact dstep_more g l n m fuse steps writes w h h0 hs (by omega) f1

theorem don_any {g : Nat} {S : List Nat} {D : DevS} {w : World} (hd : Dev w g S D) :
    Calls Tryz.prog 141 #[ptr g] w (TellsT (!D.off) w) := by
  obtain ⟨l, m, nn, B, C, h⟩ := hd
  obtain ⟨c0, c1, c2, c3, c4, c5⟩ := h.cells.six
  clear h
  cases ho : D.off
  all_goals
    rw [ho] at c2
    clear ho
    go_enter Tryz.func141, Tryz.ntmps141
    go_wp2_with fail
    go_ret
    exact ⟨rfl, rfl⟩
theorem don_nil (w : World) : Calls Tryz.prog 141 #[.pointer none] w (TellsT false w) := by
  go_enter Tryz.func141, Tryz.ntmps141
  go_wp2_with fail
  go_ret
  exact ⟨rfl, rfl⟩
theorem dsteps_any {g : Nat} {S : List Nat} {D : DevS} {w : World} (hd : Dev w g S D) :
    Calls Tryz.prog 139 #[ptr g] w fun e w' => e = .returned (.int .i64 D.steps) ∧ w = w' := by
  obtain ⟨l, m, nn, B, C, h⟩ := hd
  obtain ⟨c0, c1, c2, c3, c4, c5⟩ := h.cells.six
  clear h
  go_enter Tryz.func139, Tryz.ntmps139
  go_wp2_with fail
  go_ret
  exact ⟨rfl, rfl⟩
theorem dsteps_nil (w : World) : Calls Tryz.prog 139 #[.pointer none] w fun e w' => e = .returned (.int .i64 0) ∧ w = w' := by
  go_enter Tryz.func139, Tryz.ntmps139
  go_wp2_with fail
  go_ret
  exact ⟨rfl, rfl⟩
end Go.Proofs.YtkkgiajjdcpicaaGreatDoor

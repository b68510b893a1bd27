/- Contracts of msg: Answer, isAnswer, over the package's table. -/
import Derived.Test.YtbiglfpikfjbpaaDoorMsgBare
import Derived.LoopN
namespace Go.Proofs.YtbiglfpikfjbpaaDoor
open Go.RowKit
set_option maxRecDepth 100000
set_option linter.unusedVariables false
set_option linter.unusedSimpArgs false

/-- The table: which operation is answered by which. -/
def ansRow : List Int := [0, 1, 3, 5, 6, 7, 8, 9, 10, 11, 12, 13, 14, 15, 23, 24]
def AnsAt (w : World) : Prop := ∀ k, k < 16 → w.cell? ⟨0, k, none⟩ = some (.int .i64 (ansRow.getD k 0))
theorem AnsAt.off {S : List Nat} {w w' : World} (h : AnsAt w) (ho : Off S w w') (hs : 0 ∉ S) : AnsAt w' := fun k hk =>
  (ho.cell (p := ⟨0, k, none⟩) (block_lt_of_cell (h k hk)) hs).trans (h k hk)
theorem AnsAt.below {w w' : World} (h : AnsAt w) (hb : Below w.heap.size w w') : AnsAt w' := h.off (Off.of_below hb []) (by simp)
theorem AnsAt.lt {w : World} (h : AnsAt w) : 0 < w.heap.size := block_lt_of_cell (h 0 (by decide))
/-- Which operation answers one. -/
def answerOf (op : Int) : Int := if op = 0 then 1 else if op = 3 then 5 else if op = 6 then 7 else if op = 8 then 9 else if op = 10 then 11 else if op = 12 then 13 else if op = 14 then 15 else if op = 23 then 24 else -1
def isAnsB (op : Int) : Bool := op == 1 || (op == 5 || (op == 7 || (op == 9 || (op == 11 || (op == 13 || (op == 15 || op == 24))))))

theorem sixteen {w : World} (h : AnsAt w) : w.cell? ⟨0, 0, none⟩ = some (.int .i64 0) ∧ w.cell? ⟨0, 1, none⟩ = some (.int .i64 1) ∧ w.cell? ⟨0, 2, none⟩ = some (.int .i64 3) ∧ w.cell? ⟨0, 3, none⟩ = some (.int .i64 5) ∧
    w.cell? ⟨0, 4, none⟩ = some (.int .i64 6) ∧ w.cell? ⟨0, 5, none⟩ = some (.int .i64 7) ∧ w.cell? ⟨0, 6, none⟩ = some (.int .i64 8) ∧ w.cell? ⟨0, 7, none⟩ = some (.int .i64 9) ∧
    w.cell? ⟨0, 8, none⟩ = some (.int .i64 10) ∧ w.cell? ⟨0, 9, none⟩ = some (.int .i64 11) ∧ w.cell? ⟨0, 10, none⟩ = some (.int .i64 12) ∧ w.cell? ⟨0, 11, none⟩ = some (.int .i64 13) ∧
    w.cell? ⟨0, 12, none⟩ = some (.int .i64 14) ∧ w.cell? ⟨0, 13, none⟩ = some (.int .i64 15) ∧ w.cell? ⟨0, 14, none⟩ = some (.int .i64 23) ∧ w.cell? ⟨0, 15, none⟩ = some (.int .i64 24) :=
  ⟨h 0 (by decide), h 1 (by decide), h 2 (by decide), h 3 (by decide), h 4 (by decide), h 5 (by decide), h 6 (by decide), h 7 (by decide), h 8 (by decide), h 9 (by decide), h 10 (by decide), h 11 (by decide), h 12 (by decide), h 13 (by decide), h 14 (by decide), h 15 (by decide)⟩

theorem ix0 (W : World) : (Instr.index 85 (.agg #[.int .i64 0, .int .i64 1, .int .i64 3, .int .i64 5, .int .i64 6, .int .i64 7, .int .i64 8, .int .i64 9, .int .i64 10, .int .i64 11, .int .i64 12, .int .i64 13, .int .i64 14, .int .i64 15, .int .i64 23, .int .i64 24]) (.int .i64 0)).run Tryd.prog W = .ok (.agg #[.int .i64 0, .int .i64 1]) W := by kernel_rfl
theorem ix1 (W : World) : (Instr.index 85 (.agg #[.int .i64 0, .int .i64 1, .int .i64 3, .int .i64 5, .int .i64 6, .int .i64 7, .int .i64 8, .int .i64 9, .int .i64 10, .int .i64 11, .int .i64 12, .int .i64 13, .int .i64 14, .int .i64 15, .int .i64 23, .int .i64 24]) (.int .i64 1)).run Tryd.prog W = .ok (.agg #[.int .i64 3, .int .i64 5]) W := by kernel_rfl
theorem ix2 (W : World) : (Instr.index 85 (.agg #[.int .i64 0, .int .i64 1, .int .i64 3, .int .i64 5, .int .i64 6, .int .i64 7, .int .i64 8, .int .i64 9, .int .i64 10, .int .i64 11, .int .i64 12, .int .i64 13, .int .i64 14, .int .i64 15, .int .i64 23, .int .i64 24]) (.int .i64 2)).run Tryd.prog W = .ok (.agg #[.int .i64 6, .int .i64 7]) W := by kernel_rfl
theorem ix3 (W : World) : (Instr.index 85 (.agg #[.int .i64 0, .int .i64 1, .int .i64 3, .int .i64 5, .int .i64 6, .int .i64 7, .int .i64 8, .int .i64 9, .int .i64 10, .int .i64 11, .int .i64 12, .int .i64 13, .int .i64 14, .int .i64 15, .int .i64 23, .int .i64 24]) (.int .i64 3)).run Tryd.prog W = .ok (.agg #[.int .i64 8, .int .i64 9]) W := by kernel_rfl
theorem ix4 (W : World) : (Instr.index 85 (.agg #[.int .i64 0, .int .i64 1, .int .i64 3, .int .i64 5, .int .i64 6, .int .i64 7, .int .i64 8, .int .i64 9, .int .i64 10, .int .i64 11, .int .i64 12, .int .i64 13, .int .i64 14, .int .i64 15, .int .i64 23, .int .i64 24]) (.int .i64 4)).run Tryd.prog W = .ok (.agg #[.int .i64 10, .int .i64 11]) W := by kernel_rfl
theorem ix5 (W : World) : (Instr.index 85 (.agg #[.int .i64 0, .int .i64 1, .int .i64 3, .int .i64 5, .int .i64 6, .int .i64 7, .int .i64 8, .int .i64 9, .int .i64 10, .int .i64 11, .int .i64 12, .int .i64 13, .int .i64 14, .int .i64 15, .int .i64 23, .int .i64 24]) (.int .i64 5)).run Tryd.prog W = .ok (.agg #[.int .i64 12, .int .i64 13]) W := by kernel_rfl
theorem ix6 (W : World) : (Instr.index 85 (.agg #[.int .i64 0, .int .i64 1, .int .i64 3, .int .i64 5, .int .i64 6, .int .i64 7, .int .i64 8, .int .i64 9, .int .i64 10, .int .i64 11, .int .i64 12, .int .i64 13, .int .i64 14, .int .i64 15, .int .i64 23, .int .i64 24]) (.int .i64 6)).run Tryd.prog W = .ok (.agg #[.int .i64 14, .int .i64 15]) W := by kernel_rfl
theorem ix7 (W : World) : (Instr.index 85 (.agg #[.int .i64 0, .int .i64 1, .int .i64 3, .int .i64 5, .int .i64 6, .int .i64 7, .int .i64 8, .int .i64 9, .int .i64 10, .int .i64 11, .int .i64 12, .int .i64 13, .int .i64 14, .int .i64 15, .int .i64 23, .int .i64 24]) (.int .i64 7)).run Tryd.prog W = .ok (.agg #[.int .i64 23, .int .i64 24]) W := by kernel_rfl
set_option maxHeartbeats 4000000 in
theorem answer_any (op : Int) (w : World) (ha : AnsAt w) : Calls Tryd.prog 13 #[.int .i64 op] w (TellsI (answerOf op) w) := by
  obtain ⟨r, hr⟩ : ∃ r, r = answerOf op := ⟨_, rfl⟩
  rw [← hr]
  have HR := Lib.hid hr
  clear hr
  have hsx := sixteen ha
  have HSX := Lib.hid hsx
  clear ha hsx
  have hops : op = 0 ∨ op = 3 ∨ op = 6 ∨ op = 8 ∨ op = 10 ∨ op = 12 ∨ op = 14 ∨ op = 23 ∨ (op ≠ 0 ∧ op ≠ 3 ∧ op ≠ 6 ∧ op ≠ 8 ∧ op ≠ 10 ∧ op ≠ 12 ∧ op ≠ 14 ∧ op ≠ 23) := by omega
  rcases hops with h | h | h | h | h | h | h | h | h
  rotate_right
  · obtain ⟨n0, n3, n6, n8, n10, n12, n14, n23⟩ := h
    have b0 : ((0 : Int) == op) = false := by simp; omega
    have b3 : ((3 : Int) == op) = false := by simp; omega
    have b6 : ((6 : Int) == op) = false := by simp; omega
    have b8 : ((8 : Int) == op) = false := by simp; omega
    have b10 : ((10 : Int) == op) = false := by simp; omega
    have b12 : ((12 : Int) == op) = false := by simp; omega
    have b14 : ((14 : Int) == op) = false := by simp; omega
    have b23 : ((23 : Int) == op) = false := by simp; omega
    have HV : Hid (answerOf op = -1) := show _ = _ by unfold answerOf; rw [if_neg n0, if_neg n3, if_neg n6, if_neg n8, if_neg n10, if_neg n12, if_neg n14, if_neg n23]
    clear n0 n3 n6 n8 n10 n12 n14 n23
    obtain ⟨c0, c1, c2, c3, c4, c5, c6, c7, c8, c9, c10, c11, c12, c13, c14, c15⟩ := HSX.out
    go_enter Tryd.func13, Tryd.ntmps13
    have x0 := ix0
    have x1 := ix1
    have x2 := ix2
    have x3 := ix3
    have x4 := ix4
    have x5 := ix5
    have x6 := ix6
    have x7 := ix7
    go_wp2_with fail
    refine wp_loop_rounds 10 ?_
    repeat any_goals (rw [rounds_succ]; go_wp2_with fail)
    go_ret
    exact tellsI_of (by rw [HR.out]; first | rw [HV.out] | rfl) (by repeat (first | exact Below.refl _ _ | refine Below.alloc ?_ (by simp <;> omega) _))
  all_goals
    subst h
    have HV : Hid (True) := trivial
    obtain ⟨c0, c1, c2, c3, c4, c5, c6, c7, c8, c9, c10, c11, c12, c13, c14, c15⟩ := HSX.out
    go_enter Tryd.func13, Tryd.ntmps13
    have x0 := ix0
    have x1 := ix1
    have x2 := ix2
    have x3 := ix3
    have x4 := ix4
    have x5 := ix5
    have x6 := ix6
    have x7 := ix7
    go_wp2_with fail
    refine wp_loop_rounds 10 ?_
    repeat any_goals (rw [rounds_succ]; go_wp2_with fail)
    go_ret
    exact tellsI_of (by rw [HR.out]; first | rw [HV.out] | rfl) (by repeat (first | exact Below.refl _ _ | refine Below.alloc ?_ (by simp <;> omega) _))
set_option maxHeartbeats 4000000 in
theorem isAnswer_any (op : Int) (w : World) (ha : AnsAt w) : Calls Tryd.prog 56 #[.int .i64 op] w (TellsQ (isAnsB op) w) := by
  obtain ⟨r, hr⟩ : ∃ r, r = isAnsB op := ⟨_, rfl⟩
  rw [← hr]
  have HR := Lib.hid hr
  clear hr
  have hsx := sixteen ha
  have HSX := Lib.hid hsx
  clear ha hsx
  have hops : op = 1 ∨ op = 5 ∨ op = 7 ∨ op = 9 ∨ op = 11 ∨ op = 13 ∨ op = 15 ∨ op = 24 ∨ (op ≠ 1 ∧ op ≠ 5 ∧ op ≠ 7 ∧ op ≠ 9 ∧ op ≠ 11 ∧ op ≠ 13 ∧ op ≠ 15 ∧ op ≠ 24) := by omega
  rcases hops with h | h | h | h | h | h | h | h | h
  rotate_right
  · obtain ⟨n1, n5, n7, n9, n11, n13, n15, n24⟩ := h
    have b1 : ((1 : Int) == op) = false := by simp; omega
    have b5 : ((5 : Int) == op) = false := by simp; omega
    have b7 : ((7 : Int) == op) = false := by simp; omega
    have b9 : ((9 : Int) == op) = false := by simp; omega
    have b11 : ((11 : Int) == op) = false := by simp; omega
    have b13 : ((13 : Int) == op) = false := by simp; omega
    have b15 : ((15 : Int) == op) = false := by simp; omega
    have b24 : ((24 : Int) == op) = false := by simp; omega
    have HV : Hid (isAnsB op = false) := show _ = _ by unfold isAnsB; simp [n1, n5, n7, n9, n11, n13, n15, n24]
    clear n1 n5 n7 n9 n11 n13 n15 n24
    obtain ⟨c0, c1, c2, c3, c4, c5, c6, c7, c8, c9, c10, c11, c12, c13, c14, c15⟩ := HSX.out
    go_enter Tryd.func56, Tryd.ntmps56
    have x0 := ix0
    have x1 := ix1
    have x2 := ix2
    have x3 := ix3
    have x4 := ix4
    have x5 := ix5
    have x6 := ix6
    have x7 := ix7
    go_wp2_with fail
    refine wp_loop_rounds 10 ?_
    repeat any_goals (rw [rounds_succ]; go_wp2_with fail)
    go_ret
    exact tellsQ_of (by rw [HR.out]; first | rw [HV.out] | rfl) (by repeat (first | exact Below.refl _ _ | refine Below.alloc ?_ (by simp <;> omega) _))
  all_goals
    subst h
    have HV : Hid (True) := trivial
    obtain ⟨c0, c1, c2, c3, c4, c5, c6, c7, c8, c9, c10, c11, c12, c13, c14, c15⟩ := HSX.out
    go_enter Tryd.func56, Tryd.ntmps56
    have x0 := ix0
    have x1 := ix1
    have x2 := ix2
    have x3 := ix3
    have x4 := ix4
    have x5 := ix5
    have x6 := ix6
    have x7 := ix7
    go_wp2_with fail
    refine wp_loop_rounds 10 ?_
    repeat any_goals (rw [rounds_succ]; go_wp2_with fail)
    go_ret
    exact tellsQ_of (by rw [HR.out]; first | rw [HV.out] | rfl) (by repeat (first | exact Below.refl _ _ | refine Below.alloc ?_ (by simp <;> omega) _))
end Go.Proofs.YtbiglfpikfjbpaaDoor

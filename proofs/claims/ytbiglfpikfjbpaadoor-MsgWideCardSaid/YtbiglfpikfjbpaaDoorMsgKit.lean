/- What the door's rows share: the listed variable (msg's table) opened. -/
import Derived.Test.YtbiglfpikfjbpaaDoorRows
import Derived.Test.YtbiglfpikfjbpaaDoorTie
import Derived.Test.YtbiglfpikfjbpaaDoorMsgAnswer
import Derived.ProofKit
import Derived.LaidMore
import Derived.OpenShut
import Derived.ShutString
import Derived.ChangeOld
import Derived.Stop.Joined
import Derived.Lib.SmallJoins
namespace Go.Proofs.YtbiglfpikfjbpaaDoor
open Go.ChangeShapes Go.WideShapes Go.ChangeAt Go.RowKit Go.Joins
set_option maxRecDepth 100000
set_option linter.unusedVariables false

theorem ownD : ownKnob Tryd.prog.godebug = none := by kernel_rfl
theorem laidOutD : laidOutB Tryd.prog = true := by kernel_rfl
theorem gAns : Tryd.prog.globalNamed "rollbook/msg.answers" = some 0 := by kernel_rfl
theorem tAns : (Tryd.prog.globals[0]?).map (·.type) = some 85 := by kernel_rfl
abbrev theLaid : List (String × DataW Unit) := [("rollbook/msg.answers", Rows.laid_rollbook_msg_answers)]

/-- The door's own heap meets the condition. -/
theorem door_met (os : Os) (args : Array Value) : laidMetH Tryd.prog theLaid ((World.doorLaid Tryd.prog 400 os).forCall (fun _ _ => 0) ⟨#[], args, []⟩).memory :=
  laidMetH_of_parts3 (fuel := 8) (laidMet_of_run' 8 (by kernel_rfl) (by kernel_rfl)) (by kernel_rfl) (by kernel_rfl)

theorem laid_pair (i j : Nat) (hi : i < 8) (hj : j < 2) : ∃ l, (match (Rows.laid_rollbook_msg_answers : DataW Unit) with | .agg l => l[i]? | _ => Option.none) = some (.agg l) ∧ l[j]? = some (.lit (.int .i64 (ansRow.getD (i * 2 + j) 0))) := by
  unfold Rows.laid_rollbook_msg_answers
  have h1 : i = 0 ∨ i = 1 ∨ i = 2 ∨ i = 3 ∨ i = 4 ∨ i = 5 ∨ i = 6 ∨ i = 7 := by omega
  have h2 : j = 0 ∨ j = 1 := by omega
  rcases h1 with rfl | rfl | rfl | rfl | rfl | rfl | rfl | rfl <;> rcases h2 with rfl | rfl <;> exact ⟨_, rfl, rfl⟩

theorem of_laid {W : World} (h : laidMetH Tryd.prog theLaid W) : AnsAt W := by
  rw [MakeChecks.laidMetH_plain _ _ _ (by kernel_rfl)] at h
  obtain ⟨ps, ⟨g0, t0, cs0, f0, p0, q0, hg0, ht0, hv0, hd0, _, _⟩, _, _⟩ := h
  obtain rfl := Option.some.inj (gAns.symm.trans hg0)
  obtain rfl := Option.some.inj (tAns.symm.trans ht0)
  obtain ⟨xs, m, rfl, hx, hlen, hn, hel⟩ := DataW.trod_array Tryd.underlying85 hd0
  have c1 : Tryd.prog.cellsOf 3 = 1 := by kernel_rfl
  have c2 : Tryd.prog.cellsOf 84 = 2 := by kernel_rfl
  rw [c2] at hel
  have hx1 : Rows.laid_rollbook_msg_answers = DataW.agg (xs.map (·.1)) := (Prod.mk.injEq _ _ _ _ ▸ hx).1
  intro k hk
  have hi : k / 2 < 8 := by omega
  have hj : k % 2 < 2 := by omega
  have hkk : k / 2 * 2 + k % 2 = k := by omega
  obtain ⟨l, e4, e5⟩ := laid_pair (k / 2) (k % 2) hi hj
  rw [hkk] at e5
  rw [hx1] at e4
  simp only at e4
  have h1 := hel (k / 2) hi
  have hxk : k / 2 < xs.length := by omega
  rw [List.getElem?_eq_getElem hxk] at h1
  have e6 : (xs.map (·.1))[k / 2]? = some (xs[k / 2]).1 := by rw [List.getElem?_map, List.getElem?_eq_getElem hxk]; rfl
  rw [e6] at e4
  have e7 : (xs[k / 2]).1 = .agg l := Option.some.inj e4
  obtain ⟨ys, m2, _, hy, hlen2, hn2, hel2⟩ := DataW.trod_array Tryd.underlying84 h1
  rw [c1] at hel2
  have h2 := hel2 (k % 2) hj
  have hyk : k % 2 < ys.length := by omega
  rw [List.getElem?_eq_getElem hyk] at h2
  have e8 : l = ys.map (·.1) := by
    rw [hy] at e7
    injection e7 with e7
    exact e7.symm
  have e9 : l[k % 2]? = some (ys[k % 2]).1 := by rw [e8, List.getElem?_map, List.getElem?_eq_getElem hyk]; rfl
  rw [e9] at e5
  have e10 := Option.some.inj e5
  obtain ⟨n, e1, e2, _⟩ := DataW.trod_int Tryd.underlying3 h2
  rw [World.var?_cell hg0 hv0 k]
  have hc : cs0.toList[k]? = some (.int .i64 n) := by
    have h3 := congrArg (fun l => l[0]?) e1
    simp only [List.getElem?_take, List.getElem?_drop, Nat.mul_one, Nat.zero_lt_one, if_true, Nat.add_zero] at h3
    rw [if_pos hj, hkk] at h3
    simpa using h3
  rw [Array.getElem?_toList] at hc
  rw [hc]
  rw [e2] at e10
  injection e10 with e10
  injection e10 with _ e10
  rw [e10]
end Go.Proofs.YtbiglfpikfjbpaaDoor

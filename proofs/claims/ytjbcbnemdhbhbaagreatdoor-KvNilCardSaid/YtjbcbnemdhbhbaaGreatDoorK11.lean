import Derived.Test.YtjbcbnemdhbhbaaGreatDoorRows
import Derived.Test.YtjbcbnemdhbhbaaGreatDoorTie
import Derived.Test.YtjbcbnemdhbhbaaGreatDoorK0
import Derived.ProofKit
import Derived.LaidMore
import Derived.OpenShut
import Derived.ShutString
import Derived.ChangeOld
import Derived.Stop.Joined
import Derived.Lib.SmallJoins
namespace Go.Proofs.YtjbcbnemdhbhbaaGreatDoor
open Go.ChangeShapes Go.WideShapes Go.ChangeAt Go.RowKit Go.Joins
set_option maxRecDepth 100000
set_option linter.unusedVariables false
theorem ownD : ownKnob Tryz.prog.godebug = none := by kernel_rfl
theorem laidOutD : laidOutB Tryz.prog = true := by kernel_rfl
theorem gRow : Tryz.prog.globalNamed "rollbook/crc.row" = some 0 := by kernel_rfl
theorem tRow : (Tryz.prog.globals[0]?).map (·.type) = some 231 := by kernel_rfl
abbrev theLaid : List (String × DataW Unit) := [("rollbook/crc.row", Rows.laid_rollbook_crc_row)]
theorem door_met (os : Os) (args : Array Value) : laidMetH Tryz.prog theLaid ((World.doorLaid Tryz.prog 400 os).forCall (fun _ _ => 0) ⟨#[], args, []⟩).memory :=
  laidMetH_of_parts3 (fuel := 8) (laidMet_of_run' 8 (by kernel_rfl) (by kernel_rfl)) (by kernel_rfl) (by kernel_rfl)
theorem of_laid {W : World} (h : laidMetH Tryz.prog theLaid W) : RowAt W := by
  rw [MakeChecks.laidMetH_plain _ _ _ (by kernel_rfl)] at h
  obtain ⟨ps, ⟨g0, t0, cs0, f0, p0, q0, hg0, ht0, hv0, hd0, _, _⟩, _, _⟩ := h
  obtain rfl := Option.some.inj (gRow.symm.trans hg0)
  obtain rfl := Option.some.inj (tRow.symm.trans ht0)
  obtain ⟨xs, m, rfl, hx, hlen, hn, hel⟩ := DataW.trod_array Tryz.underlying231 hd0
  have c1 : Tryz.prog.cellsOf 81 = 1 := by kernel_rfl
  rw [c1] at hel
  have hx1 : Rows.laid_rollbook_crc_row = DataW.agg (xs.map (·.1)) := (Prod.mk.injEq _ _ _ _ ▸ hx).1
  intro k hk
  have h1 := hel k hk
  have hxk : k < xs.length := by omega
  rw [List.getElem?_eq_getElem hxk] at h1
  obtain ⟨n, e1, e2, _⟩ := DataW.trod_int Tryz.underlying81 h1
  rw [World.var?_cell hg0 hv0 k]
  have hc : cs0.toList[k]? = some (.int .u32 n) := by
    have h2 := congrArg (fun l => l[0]?) e1
    simp only [List.getElem?_take, Nat.mul_one] at h2
    simpa using h2
  rw [Array.getElem?_toList] at hc
  rw [hc]
  have e3 : (xs.map (·.1))[k]? = some (.lit (.int .u32 n)) := by
    rw [List.getElem?_map, List.getElem?_eq_getElem hxk, e2]
    rfl
  have e4 : ∀ k, k < 16 → (match (Rows.laid_rollbook_crc_row : DataW Unit) with | .agg l => l[k]? | _ => Option.none) = some (.lit (.int .u32 ((Crc.row.getD k 0 : Nat) : Int))) := by
    intro k hk
    unfold Rows.laid_rollbook_crc_row
    have : k = 0 ∨ k = 1 ∨ k = 2 ∨ k = 3 ∨ k = 4 ∨ k = 5 ∨ k = 6 ∨ k = 7 ∨ k = 8 ∨ k = 9 ∨ k = 10 ∨ k = 11 ∨ k = 12 ∨ k = 13 ∨ k = 14 ∨ k = 15 := by omega
    rcases this with rfl | rfl | rfl | rfl | rfl | rfl | rfl | rfl | rfl | rfl | rfl | rfl | rfl | rfl | rfl | rfl <;> rfl
  have e5 := e4 k hk
  rw [hx1] at e5
  simp only at e5
  rw [e3] at e5
  injection e5 with e5
  injection e5 with e5
  injection e5 with _ e5
  rw [e5]
section
variable {H : Type} {enc : TypeId × Value → H} {W : World} {base b0 : Nat} {spare : Nat → Bool} {held : Bool} {r : Reach} {v : Value} {d : DataW H} {p : List MemPlace}
end
end Go.Proofs.YtjbcbnemdhbhbaaGreatDoor

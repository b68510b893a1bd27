/- What the door's rows share: the listed variable opened, pages and metas as arguments opened. -/
import Derived.Test.YtchldjjfaiikbaaDoorRows
import Derived.Test.YtchldjjfaiikbaaDoorTie
import Derived.Test.YtchldjjfaiikbaaDoorCrc
import Derived.ProofKit
import Derived.LaidMore
import Derived.OpenShut
import Derived.ShutString
import Derived.ChangeOld
import Derived.Stop.Joined
import Derived.Lib.SmallJoins
namespace Go.Proofs.YtchldjjfaiikbaaDoor
open Go.ChangeShapes Go.WideShapes Go.ChangeAt Go.RowKit Go.Joins
set_option maxRecDepth 100000
set_option linter.unusedVariables false

theorem ownD : ownKnob Tryd.prog.godebug = none := by kernel_rfl
theorem laidOutD : laidOutB Tryd.prog = true := by kernel_rfl
theorem gRow : Tryd.prog.globalNamed "rollbook/crc.row" = some 0 := by kernel_rfl
theorem tRow : (Tryd.prog.globals[0]?).map (·.type) = some 120 := by kernel_rfl
abbrev theLaid : List (String × DataW Unit) := [("rollbook/crc.row", Rows.laid_rollbook_crc_row)]

/-- The door's own heap meets the condition. -/
theorem door_met (os : Os) (args : Array Value) : laidMetH Tryd.prog theLaid ((World.doorLaid Tryd.prog 400 os).forCall (fun _ _ => 0) ⟨#[], args, []⟩).memory :=
  laidMetH_of_parts3 (fuel := 8) (laidMet_of_run' 8 (by kernel_rfl) (by kernel_rfl)) (by kernel_rfl) (by kernel_rfl)

theorem of_laid {W : World} (h : laidMetH Tryd.prog theLaid W) : RowAt W := by
  rw [MakeChecks.laidMetH_plain _ _ _ (by kernel_rfl)] at h
  obtain ⟨ps, ⟨g0, t0, cs0, f0, p0, q0, hg0, ht0, hv0, hd0, _, _⟩, _, _⟩ := h
  obtain rfl := Option.some.inj (gRow.symm.trans hg0)
  obtain rfl := Option.some.inj (tRow.symm.trans ht0)
  obtain ⟨xs, m, rfl, hx, hlen, hn, hel⟩ := DataW.trod_array Tryd.underlying120 hd0
  have c1 : Tryd.prog.cellsOf 97 = 1 := by kernel_rfl
  rw [c1] at hel
  have hx1 : Rows.laid_rollbook_crc_row = DataW.agg (xs.map (·.1)) := (Prod.mk.injEq _ _ _ _ ▸ hx).1
  intro k hk
  have h1 := hel k hk
  have hxk : k < xs.length := by omega
  rw [List.getElem?_eq_getElem hxk] at h1
  obtain ⟨n, e1, e2, _⟩ := DataW.trod_int Tryd.underlying97 h1
  rw [World.var?_cell hg0 hv0 k]
  have hc : cs0.toList[k]? = some (.int .u32 n) := by
    have h2 := congrArg (fun l => l[0]?) e1
    simp only [List.getElem?_take, Nat.mul_one] at h2
    simpa using h2
  rw [Array.getElem?_toList] at hc
  rw [hc]
  have e3 : (xs.map (·.1))[k]? = some (.lit (.int .u32 n)) := by
    rw [List.getElem?_map, List.getElem?_eq_getElem hxk, e2]
    rfl
  have e4 : ∀ k, k < 16 → (match (Rows.laid_rollbook_crc_row : DataW Unit) with | .agg l => l[k]? | _ => Option.none) = some (.lit (.int .u32 ((Crc.row.getD k 0 : Nat) : Int))) := by
    intro k hk
    unfold Rows.laid_rollbook_crc_row
    have : k = 0 ∨ k = 1 ∨ k = 2 ∨ k = 3 ∨ k = 4 ∨ k = 5 ∨ k = 6 ∨ k = 7 ∨ k = 8 ∨ k = 9 ∨ k = 10 ∨ k = 11 ∨ k = 12 ∨ k = 13 ∨ k = 14 ∨ k = 15 := by omega
    rcases this with rfl | rfl | rfl | rfl | rfl | rfl | rfl | rfl | rfl | rfl | rfl | rfl | rfl | rfl | rfl | rfl <;> rfl
  have e5 := e4 k hk
  rw [hx1] at e5
  simp only at e5
  rw [e3] at e5
  injection e5 with e5
  injection e5 with e5
  injection e5 with _ e5
  rw [e5]

section
variable {H : Type} {enc : TypeId × Value → H} {W : World} {base b0 : Nat} {spare : Nat → Bool} {held : Bool} {r : Reach} {v : Value} {d : DataW H} {p : List MemPlace}
theorem open_page (hv : Value.okWide Tryd.prog W r b0 42 v) (h : DataW.Trod enc Tryd.prog W base spare held 42 v d p) :
    ∃ (k n t : Int) (b : ByteArray), v = .agg #[.int .i64 k, .int .i64 n, .int .i64 t, .string b] ∧ b.size ≤ maxLen := by
  obtain ⟨v0, v1, v2, v3, y0, y1, y2, y3, m, rfl, _, _, h0, h1, h2, h3⟩ := open_agg4 Tryd.underlying42 (by kernel_rfl) (by kernel_rfl) hv h
  obtain ⟨k, e0, _, _⟩ := DataW.trod_int Tryd.underlying3 h0
  obtain ⟨n, e1, _, _⟩ := DataW.trod_int Tryd.underlying3 h1
  obtain ⟨t, e2, _, _⟩ := DataW.trod_int Tryd.underlying3 h2
  obtain ⟨b, e3, _, hb⟩ := DataW.trod_string Tryd.underlying9 h3
  injection e0 with e0
  injection e1 with e1
  injection e2 with e2
  injection e3 with e3
  subst e0 e1 e2 e3
  exact ⟨k, n, t, b, rfl, hb⟩
theorem open_meta (hv : Value.okWide Tryd.prog W r b0 32 v) (h : DataW.Trod enc Tryd.prog W base spare held 32 v d p) :
    ∃ (a0 a1 a2 a3 a4 : Int), v = .agg #[.int .i64 a0, .int .i64 a1, .int .i64 a2, .int .i64 a3, .int .i64 a4] := by
  obtain ⟨cs, rfl, hsz⟩ := okWide_struct Tryd.underlying32 hv
  obtain ⟨cl⟩ := cs
  have hc : Tryd.prog.cellsOf 3 = 1 := by kernel_rfl
  match cl, hsz.trans (show Tryd.prog.cellsOf 32 = 5 by kernel_rfl) with
  | [c0, c1, c2, c3, c4], _ =>
    obtain ⟨fuel, hf⟩ := h
    obtain ⟨xs, n, _, hx, _, hlen, hg⟩ := DataW.trod_struct Tryd.underlying32 hf
    match xs, hlen with
    | [y0, y1, y2, y3, y4], _ =>
      obtain ⟨a0, e0, _, _⟩ := DataW.trod_int Tryd.underlying3 (hg 0 _ rfl)
      obtain ⟨a1, e1, _, _⟩ := DataW.trod_int Tryd.underlying3 (hg 1 _ rfl)
      obtain ⟨a2, e2, _, _⟩ := DataW.trod_int Tryd.underlying3 (hg 2 _ rfl)
      obtain ⟨a3, e3, _, _⟩ := DataW.trod_int Tryd.underlying3 (hg 3 _ rfl)
      obtain ⟨a4, e4, _, _⟩ := DataW.trod_int Tryd.underlying3 (hg 4 _ rfl)
      simp [Value.cells, hc] at e0 e1 e2 e3 e4
      subst e0 e1 e2 e3 e4
      exact ⟨a0, a1, a2, a3, a4, rfl⟩
end
end Go.Proofs.YtchldjjfaiikbaaDoor

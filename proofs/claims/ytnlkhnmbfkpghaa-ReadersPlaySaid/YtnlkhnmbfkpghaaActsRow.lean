/- A slice of acts as an argument, opened. -/
import Derived.Test.YtnlkhnmbfkpghaaReadersGuard
import Derived.Test.YtnlkhnmbfkpghaaRowKit
import Derived.Deep.SlicePairs
namespace Go.Proofs.Ytnlkhnmbfkpghaa
open Go.ChangeShapes Go.WideShapes Go.ChangeAt Go.RowKit

theorem open_acts {H : Type} {enc : TypeId × Value → H} {W : World} {base b0 : Nat} {spare : Nat → Bool} {held : Bool} {r : Reach} {v : Value} {d : DataW H} {p : List MemPlace}
    (hv : Value.okWide Try.prog W r b0 22 v) (h : DataW.Trod enc Try.prog W base spare held 22 v d p) :
    ∃ (A : Option Addr) (n cap : Nat) (K N : Nat → Int), v = .slice A n cap ∧ n ≤ maxLen ∧ ActsAt W A n K N := by
  obtain ⟨a, len, cap, rfl⟩ := okWide_slice Try.underlying22 hv
  obtain ⟨fuel, hf⟩ := h
  rcases Go.Deep.open_slice_pairs Try.underlying22 Try.underlying27 (by kernel_rfl) rfl rfl (by kernel_rfl) (by kernel_rfl) hf with ⟨hcs, _⟩ | ⟨x, l, c, m, n, V0, V1, D0, D1, P0, P1, hcs, _, hl, hm, hz, _, hcell⟩
  · simp [Value.cells] at hcs
    obtain ⟨rfl, rfl, rfl⟩ := hcs
    exact ⟨none, 0, 0, fun _ => 0, fun _ => 0, rfl, Nat.zero_le _, fun i hi => by omega⟩
  · simp [Value.cells] at hcs
    obtain ⟨rfl, rfl, rfl⟩ := hcs
    have hlen : len ≤ m := by rw [hz]; split <;> omega
    have hint : ∀ i, i < m → ∃ k q : Int, V0 i = .int .i64 k ∧ V1 i = .int .i64 q := fun i hi => by
      obtain ⟨_, _, h3, h4⟩ := hcell i hi
      obtain ⟨k, e0, _, _⟩ := DataW.trod_int Try.underlying3 h3
      obtain ⟨q, e1, _, _⟩ := DataW.trod_int Try.underlying3 h4
      injection e0 with e0
      injection e1 with e1
      exact ⟨k, q, e0, e1⟩
    refine ⟨some x, len, cap, fun i => intOf (V0 i), fun i => intOf (V1 i), rfl, by omega, fun i hi => ?_⟩
    obtain ⟨h1, h2, _, _⟩ := hcell i (by omega)
    obtain ⟨k, q, e0, e1⟩ := hint i (by omega)
    rw [e0] at h1
    rw [e1] at h2
    obtain ⟨b, o, spot⟩ := x
    have h00 := (hcell 0 (by omega)).1
    rw [Nat.zero_mul] at h00
    have hspot : spot = none := by simpa [Addr.add] using World.cell?_spot h00
    subst hspot
    rw [add_plain] at h1 h2
    refine ⟨b, o, rfl, ?_, by show _ = some (Value.int .i64 (intOf (V0 i))); rw [h1, e0]; rfl, by show _ = some (Value.int .i64 (intOf (V1 i))); rw [Nat.add_assoc, h2, e1]; rfl⟩
    rcases Nat.lt_or_ge b W.heap.size with hlt | hge
    · exact hlt
    · simp [World.cell?, Array.getElem?_eq_none hge] at h1
end Go.Proofs.Ytnlkhnmbfkpghaa

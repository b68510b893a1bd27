/- Merged by program: RowKit CPairsRow. -/
import Derived.Test.YtllafbcnikoohaaC1
import Derived.ProofKit
import Derived.OpenShut
import Derived.ShutString
import Derived.ChangeOld
import Derived.SliceStrings
import Derived.Test.YtllafbcnikoohaaC23
import Derived.Deep.SlicePairs
/- Arguments of a row opened: a slice of strings, a slice of ints, nil or not. -/
namespace Go.Proofs.Ytllafbcnikoohaa
open Go.ChangeShapes Go.WideShapes Go.ChangeAt Go.RowKit

theorem add_plain (b o j : Nat) : (⟨b, o, none⟩ : Addr).add j = ⟨b, o + j, none⟩ := by
  unfold Addr.add
  by_cases h0 : j = 0 <;> simp [h0]

theorem sl_of_cells {W : World} {a : Addr} {xs : List Value} (h : ∀ i u, xs[i]? = some u → W.cell? (a.add i) = some u) : Sl W (some a) xs := by
  intro j u hu
  have hj : j < xs.length := (List.getElem?_eq_some_iff.1 hu).1
  have h0 := h 0 (xs[0]'(by omega)) (List.getElem?_eq_getElem (by omega))
  obtain ⟨b, o, spot⟩ := a
  have hspot : spot = none := by simpa [Addr.add] using World.cell?_spot h0
  subst hspot
  have h1 := h j u hu
  rw [add_plain] at h0 h1
  refine ⟨b, o, rfl, ?_, h1⟩
  rcases Nat.lt_or_ge b W.heap.size with hlt | hge
  · exact hlt
  · simp [World.cell?, Array.getElem?_eq_none hge] at h0

theorem open_strs {H : Type} {enc : TypeId × Value → H} {P : Program} {W : World} {base b0 : Nat} {spare : Nat → Bool} {held : Bool} {r : Reach} {t e : TypeId} {v : Value} {d : DataW H} {p : List MemPlace}
    (ht : P.underlying t = some (.slice e)) (he : P.underlying e = some .string) (hc : P.cellsOf e = 1) (hv : Value.okWide P W r b0 t v) (h : DataW.Trod enc P W base spare held t v d p) :
    ∃ (A : Option Addr) (ss : List ByteArray) (cap : Nat), v = .slice A ss.length cap ∧ ss.length ≤ maxLen ∧ (∀ s ∈ ss, s.size ≤ maxLen) ∧ Sl W A (ss.map Value.string) := by
  obtain ⟨a, len, cap, rfl⟩ := okWide_slice ht hv
  obtain ⟨fuel, hf⟩ := h
  rcases open_strings ht he hc hf with ⟨hcs, _⟩ | ⟨x, l, c, ss, hcs, _, hl, hm, hz, _, hcell, hws⟩
  · simp [Value.cells] at hcs
    obtain ⟨rfl, rfl, rfl⟩ := hcs
    exact ⟨none, [], 0, rfl, Nat.zero_le _, by simp, Sl.nil _ _⟩
  · simp [Value.cells] at hcs
    obtain ⟨rfl, rfl, rfl⟩ := hcs
    have hlen : len ≤ ss.length := by rw [hz]; split <;> omega
    have htl : (ss.take len).length = len := by rw [List.length_take]; omega
    refine ⟨some x, ss.take len, cap, by rw [htl], by rw [htl]; omega, fun s hs => hws s (List.mem_of_mem_take hs), sl_of_cells (fun i u hu => ?_)⟩
    rw [List.getElem?_map] at hu
    obtain ⟨y, hy, rfl⟩ := Option.map_eq_some_iff.1 hu
    obtain ⟨hi, hy⟩ := List.getElem?_eq_some_iff.1 hy
    rw [htl] at hi
    rw [hcell i (by omega), List.getD_eq_getElem?_getD, List.getElem?_eq_getElem (by omega), ← hy, List.getElem_take]
    rfl

theorem open_is {H : Type} {enc : TypeId × Value → H} {P : Program} {W : World} {base b0 : Nat} {spare : Nat → Bool} {held : Bool} {r : Reach} {t e : TypeId} {v : Value} {d : DataW H} {p : List MemPlace}
    (ht : P.underlying t = some (.slice e)) (he : P.underlying e = some (.int .i64)) (hc : P.cellsOf e = 1) (hv : Value.okWide P W r b0 t v) (h : DataW.Trod enc P W base spare held t v d p) :
    ∃ (A : Option Addr) (zs : List Int) (cap : Nat), v = .slice A zs.length cap ∧ zs.length ≤ maxLen ∧ (∀ n ∈ zs, (Lit.int .i64 n).wf = true) ∧ Sl W A (zs.map (Value.int .i64)) := by
  obtain ⟨a, len, cap, rfl⟩ := okWide_slice ht hv
  obtain ⟨fuel, hf⟩ := h
  rcases open_ints ht he hc hf with ⟨hcs, _⟩ | ⟨x, l, c, ss, hcs, _, hl, hm, hz, _, hcell, hws⟩
  · simp [Value.cells] at hcs
    obtain ⟨rfl, rfl, rfl⟩ := hcs
    exact ⟨none, [], 0, rfl, Nat.zero_le _, by simp, Sl.nil _ _⟩
  · simp [Value.cells] at hcs
    obtain ⟨rfl, rfl, rfl⟩ := hcs
    have hlen : len ≤ ss.length := by rw [hz]; split <;> omega
    have htl : (ss.take len).length = len := by rw [List.length_take]; omega
    refine ⟨some x, ss.take len, cap, by rw [htl], by rw [htl]; omega, fun s hs => hws s (List.mem_of_mem_take hs), sl_of_cells (fun i u hu => ?_)⟩
    rw [List.getElem?_map] at hu
    obtain ⟨y, hy, rfl⟩ := Option.map_eq_some_iff.1 hu
    obtain ⟨hi, hy⟩ := List.getElem?_eq_some_iff.1 hy
    rw [htl] at hi
    rw [hcell i (by omega), List.getD_eq_getElem?_getD, List.getElem?_eq_getElem (by omega), ← hy, List.getElem_take]
    rfl

end Go.Proofs.Ytllafbcnikoohaa
/- Slices of pairs and of acts as arguments, opened. -/
namespace Go.Proofs.Ytllafbcnikoohaa
open Go.ChangeShapes Go.WideShapes Go.ChangeAt Go.RowKit
set_option maxRecDepth 100000
theorem open_cpairs {H : Type} {enc : TypeId × Value → H} {W : World} {base b0 : Nat} {spare : Nat → Bool} {held : Bool} {r : Reach} {v : Value} {d : DataW H} {p : List MemPlace}
    (hv : Value.okWide Try.prog W r b0 22 v) (h : DataW.Trod enc Try.prog W base spare held 22 v d p) :
    ∃ (A : Option Addr) (n cap : Nat) (K V : Nat → ByteArray), v = .slice A n cap ∧ n ≤ maxLen ∧ PairsAt W A n K V := by
  obtain ⟨a, len, cap, rfl⟩ := okWide_slice Try.underlying22 hv
  obtain ⟨fuel, hf⟩ := h
  rcases Go.Deep.open_slice_pairs Try.underlying22 Try.underlying55 (by kernel_rfl) rfl rfl (by kernel_rfl) (by kernel_rfl) hf with ⟨hcs, _⟩ | ⟨x, l, c, m, n, V0, V1, D0, D1, P0, P1, hcs, _, hl, hm, hz, _, hcell⟩
  · simp [Value.cells] at hcs
    obtain ⟨rfl, rfl, rfl⟩ := hcs
    exact ⟨none, 0, 0, fun _ => ⟨#[]⟩, fun _ => ⟨#[]⟩, rfl, Nat.zero_le _, fun i hi => by omega⟩
  · simp [Value.cells] at hcs
    obtain ⟨rfl, rfl, rfl⟩ := hcs
    have hlen : len ≤ m := by rw [hz]; split <;> omega
    have hstr : ∀ i, ∃ k q : ByteArray, i < m → V0 i = .string k ∧ V1 i = .string q := fun i => by
      by_cases hi : i < m
      · obtain ⟨_, _, h3, h4⟩ := hcell i hi
        obtain ⟨k, e0, _, _⟩ := DataW.trod_string Try.underlying9 h3
        obtain ⟨q, e1, _, _⟩ := DataW.trod_string Try.underlying9 h4
        injection e0 with e0
        injection e1 with e1
        exact ⟨k, q, fun _ => ⟨e0, e1⟩⟩
      · exact ⟨⟨#[]⟩, ⟨#[]⟩, fun h => absurd h hi⟩
    refine ⟨some x, len, cap, fun i => (hstr i).choose, fun i => (hstr i).choose_spec.choose, rfl, by omega, fun i hi => ?_⟩
    obtain ⟨h1, h2, _, _⟩ := hcell i (by omega)
    obtain ⟨e0, e1⟩ := (hstr i).choose_spec.choose_spec (by omega)
    rw [e0] at h1
    rw [e1] at h2
    obtain ⟨b, o, spot⟩ := x
    have h00 := (hcell 0 (by omega)).1
    rw [Nat.zero_mul] at h00
    have hspot : spot = none := by simpa [Addr.add] using World.cell?_spot h00
    subst hspot
    rw [add_plain] at h1 h2
    refine ⟨b, o, rfl, ?_, h1, by rw [Nat.add_assoc]; exact h2⟩
    rcases Nat.lt_or_ge b W.heap.size with hlt | hge
    · exact hlt
    · simp [World.cell?, Array.getElem?_eq_none hge] at h1
theorem open_cacts {H : Type} {enc : TypeId × Value → H} {W : World} {base b0 : Nat} {spare : Nat → Bool} {held : Bool} {r : Reach} {v : Value} {d : DataW H} {p : List MemPlace}
    (hv : Value.okWide Try.prog W r b0 44 v) (h : DataW.Trod enc Try.prog W base spare held 44 v d p) :
    ∃ (A : Option Addr) (n cap : Nat) (K : Nat → Int) (V : Nat → ByteArray), v = .slice A n cap ∧ n ≤ maxLen ∧ CActsAt W A n K V := by
  obtain ⟨a, len, cap, rfl⟩ := okWide_slice Try.underlying44 hv
  obtain ⟨fuel, hf⟩ := h
  rcases Go.Deep.open_slice_pairs Try.underlying44 Try.underlying49 (by kernel_rfl) rfl rfl (by kernel_rfl) (by kernel_rfl) hf with ⟨hcs, _⟩ | ⟨x, l, c, m, n, V0, V1, D0, D1, P0, P1, hcs, _, hl, hm, hz, _, hcell⟩
  · simp [Value.cells] at hcs
    obtain ⟨rfl, rfl, rfl⟩ := hcs
    exact ⟨none, 0, 0, fun _ => 0, fun _ => ⟨#[]⟩, rfl, Nat.zero_le _, fun i hi => by omega⟩
  · simp [Value.cells] at hcs
    obtain ⟨rfl, rfl, rfl⟩ := hcs
    have hlen : len ≤ m := by rw [hz]; split <;> omega
    have hstr : ∀ i, ∃ (k : Int) (q : ByteArray), i < m → V0 i = .int .i64 k ∧ V1 i = .string q := fun i => by
      by_cases hi : i < m
      · obtain ⟨_, _, h3, h4⟩ := hcell i hi
        obtain ⟨k, e0, _, _⟩ := DataW.trod_int Try.underlying3 h3
        obtain ⟨q, e1, _, _⟩ := DataW.trod_string Try.underlying9 h4
        injection e0 with e0
        injection e1 with e1
        exact ⟨k, q, fun _ => ⟨e0, e1⟩⟩
      · exact ⟨0, ⟨#[]⟩, fun h => absurd h hi⟩
    refine ⟨some x, len, cap, fun i => (hstr i).choose, fun i => (hstr i).choose_spec.choose, rfl, by omega, fun i hi => ?_⟩
    obtain ⟨h1, h2, _, _⟩ := hcell i (by omega)
    obtain ⟨e0, e1⟩ := (hstr i).choose_spec.choose_spec (by omega)
    rw [e0] at h1
    rw [e1] at h2
    obtain ⟨b, o, spot⟩ := x
    have h00 := (hcell 0 (by omega)).1
    rw [Nat.zero_mul] at h00
    have hspot : spot = none := by simpa [Addr.add] using World.cell?_spot h00
    subst hspot
    rw [add_plain] at h1 h2
    refine ⟨b, o, rfl, ?_, h1, by rw [Nat.add_assoc]; exact h2⟩
    rcases Nat.lt_or_ge b W.heap.size with hlt | hge
    · exact hlt
    · simp [World.cell?, Array.getElem?_eq_none hge] at h1
end Go.Proofs.Ytllafbcnikoohaa

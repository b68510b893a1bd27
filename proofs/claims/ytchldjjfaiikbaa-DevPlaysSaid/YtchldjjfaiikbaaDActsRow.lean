/- A slice of acts on a device as an argument, opened. -/
import Derived.Test.YtchldjjfaiikbaaActRow
import Derived.Deep.SlicePairs
namespace Go.Proofs.Ytchldjjfaiikbaa
open Go.ChangeShapes Go.WideShapes Go.ChangeAt Go.RowKit
set_option maxRecDepth 100000
set_option linter.unusedVariables false

/-- The acts of a slice that begins at A. -/
def DActsAt (W : World) (A : Option Addr) (xs : List ActV) : Prop :=
  ∀ (i : Nat) (x : ActV), xs[i]? = some x → ∃ b o, A = some ⟨b, o, none⟩ ∧ b < W.heap.size ∧ (∀ j, j < 6 → W.cell? ⟨b, o + i * 6 + j, none⟩ = x.cells[j]?) ∧ x.Ok W

theorem list_of_lt {α : Type} {n : Nat} {p : Nat → α → Prop} (h : ∀ i, i < n → ∃ a, p i a) : ∃ l : List α, l.length = n ∧ ∀ i a, l[i]? = some a → p i a := by
  induction n with
  | zero => exact ⟨[], rfl, fun i a h => by simp at h⟩
  | succ n ih =>
    obtain ⟨l, hl, hp⟩ := ih (fun i hi => h i (by omega))
    obtain ⟨a, ha⟩ := h n (by omega)
    refine ⟨l ++ [a], by simp [hl], fun i b hb => ?_⟩
    by_cases hi : i < l.length
    · rw [List.getElem?_append_left hi] at hb
      exact hp i b hb
    · rw [List.getElem?_append_right (by omega)] at hb
      have hlt : i - l.length < 1 := (List.getElem?_eq_some_iff.1 hb).1
      obtain rfl : i = n := by omega
      rw [hl, Nat.sub_self] at hb
      injection hb with hb
      subst hb
      exact ha

theorem open_dacts {H : Type} {enc : TypeId × Value → H} {W : World} {base b0 : Nat} {spare : Nat → Bool} {held : Bool} {r : Reach} {v : Value} {d : DataW H} {p : List MemPlace}
    (hv : Value.okWide Try.prog W r b0 22 v) (h : DataW.Trod enc Try.prog W base spare held 22 v d p) :
    ∃ (A : Option Addr) (xs : List ActV) (cap : Nat), v = .slice A xs.length cap ∧ xs.length ≤ maxLen ∧ DActsAt W A xs := by
  obtain ⟨a, len, cap, rfl⟩ := okWide_slice Try.underlying22 hv
  obtain ⟨fuel, hf⟩ := h
  rcases Go.Deep.open_slice Try.underlying22 hf with ⟨hcs, _⟩ | ⟨x, l, c, m, n, D, Pl, hcs, hb, hl, hm, hmm, _, hx⟩
  · simp [Value.cells] at hcs
    obtain ⟨rfl, rfl, rfl⟩ := hcs
    exact ⟨none, [], 0, rfl, Nat.zero_le _, fun i x hx => by simp at hx⟩
  · simp [Value.cells] at hcs
    obtain ⟨rfl, rfl, rfl⟩ := hcs
    have hlm : len ≤ m := by rw [hmm]; split <;> omega
    have ce : Try.prog.cellsOf 33 = 6 := by kernel_rfl
    have each : ∀ i, i < len → ∃ y : ActV, (∀ j, j < 6 → W.cell? ((x.add (i * 6)).add j) = y.cells[j]?) ∧ y.Ok W := by
      intro i hi
      obtain ⟨cs', h1, h2⟩ := hx i (by omega)
      rw [ce] at h1
      obtain ⟨_, hlen, hcell⟩ := World.cells?_some h1
      match cs', hlen with
      | [c0, c1, c2, c3, c4, c5], _ =>
        obtain ⟨y, hy, hok⟩ := act_at h2
        refine ⟨y, fun j hj => ?_, hok⟩
        rw [hcell j hj, hy, Array.getElem?_toList]
    obtain ⟨xs, hxl, hxp⟩ := list_of_lt each
    refine ⟨some x, xs, cap, by rw [hxl], by omega, fun i y hy => ?_⟩
    obtain ⟨hce, hok⟩ := hxp i y hy
    have h0 := hce 0 (by decide)
    obtain ⟨b, o, spot⟩ := x
    have h0' : W.cell? (((⟨b, o, spot⟩ : Addr).add (i * 6)).add 0) = some (.int .i64 y.kind) := h0
    have hspot : spot = none := by
      have hil : i < xs.length := (List.getElem?_eq_some_iff.1 hy).1
      have hz := (hxp 0 xs[0] (by rw [List.getElem?_eq_getElem (by omega)])).1 0 (by decide)
      have hz' : W.cell? (((⟨b, o, spot⟩ : Addr).add (0 * 6)).add 0) = some (.int .i64 xs[0].kind) := hz
      simpa [Addr.add] using World.cell?_spot hz'
    subst hspot
    refine ⟨b, o, rfl, ?_, fun j hj => ?_, hok⟩
    · rw [add_plain, add_plain] at h0'
      rcases Nat.lt_or_ge b W.heap.size with hlt | hge
      · exact hlt
      · simp [World.cell?, Array.getElem?_eq_none hge] at h0'
    · have := hce j hj
      rwa [add_plain, add_plain] at this
end Go.Proofs.Ytchldjjfaiikbaa

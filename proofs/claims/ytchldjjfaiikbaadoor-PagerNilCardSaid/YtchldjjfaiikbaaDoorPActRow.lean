/- An act on a file as an argument, opened. -/
import Derived.Test.YtchldjjfaiikbaaDoorPagerNil
import Derived.Test.YtchldjjfaiikbaaDoorDoorKit
import Derived.Test.YtchldjjfaiikbaaDoorRowKit
namespace Go.Proofs.YtchldjjfaiikbaaDoor
open Go.ChangeShapes Go.WideShapes Go.ChangeAt Go.RowKit Go.Joins
set_option maxRecDepth 100000
set_option linter.unusedVariables false

section
variable {H : Type} {enc : TypeId × Value → H} {W : World} {base b0 : Nat} {spare : Nat → Bool} {held : Bool} {r : Reach} {fuel : Nat} {x : DataW H × List MemPlace}
theorem open_ints_d {P : Program} {t e : TypeId} {cs : List Value} (ht : P.underlying t = some (.slice e)) (he : P.underlying e = some (.int .i64)) (hc : P.cellsOf e = 1) (hf : DataW.trod enc P W base spare held fuel t cs = some x) :
    ∃ (A : Option Addr) (zs : List Int) (cap : Nat), cs = [.slice A zs.length cap] ∧ zs.length ≤ maxLen ∧ (∀ n ∈ zs, (Lit.int .i64 n).wf = true) ∧ Sl W A (zs.map (Value.int .i64)) := by
  rcases open_ints ht he hc hf with ⟨hcs, _⟩ | ⟨x, len, cap, ss, hcs, _, hl, hm, hz, _, hcell, hws⟩
  · exact ⟨none, [], 0, hcs, Nat.zero_le _, by simp, Sl.nil _ _⟩
  · have hlen : len ≤ ss.length := by rw [hz]; split <;> omega
    have htl : (ss.take len).length = len := by rw [List.length_take]; omega
    refine ⟨some x, ss.take len, cap, by rw [htl]; exact hcs, by rw [htl]; omega, fun s hs => hws s (List.mem_of_mem_take hs), sl_of_cells (fun i u hu => ?_)⟩
    rw [List.getElem?_map] at hu
    obtain ⟨y, hy, rfl⟩ := Option.map_eq_some_iff.1 hu
    obtain ⟨hi, hy⟩ := List.getElem?_eq_some_iff.1 hy
    rw [htl] at hi
    rw [hcell i (by omega), List.getD_eq_getElem?_getD, List.getElem?_eq_getElem (by omega), ← hy, List.getElem_take]
    rfl
theorem page_at {c0 c1 c2 c3 : Value} (hf : DataW.trod enc Tryd.prog W base spare held fuel 42 [c0, c1, c2, c3] = some x) : ∃ (k n t : Int) (b : ByteArray), [c0, c1, c2, c3] = [.int .i64 k, .int .i64 n, .int .i64 t, .string b] := by
  obtain ⟨xs, n, _, hx, _, hlen, hg⟩ := DataW.trod_struct Tryd.underlying42 hf
  have k1 : Tryd.prog.cellsOf 3 = 1 := by kernel_rfl
  have k3 : Tryd.prog.cellsOf 9 = 1 := by kernel_rfl
  match xs, hlen with
  | [y0, y1, y2, y3], _ =>
    obtain ⟨a0, e0, _, _⟩ := DataW.trod_int Tryd.underlying3 (hg 0 _ rfl)
    obtain ⟨a1, e1, _, _⟩ := DataW.trod_int Tryd.underlying3 (hg 1 _ rfl)
    obtain ⟨a2, e2, _, _⟩ := DataW.trod_int Tryd.underlying3 (hg 2 _ rfl)
    obtain ⟨a3, e3, _, _⟩ := DataW.trod_string Tryd.underlying9 (hg 3 _ rfl)
    simp [k1, k3] at e0 e1 e2 e3
    subst e0 e1 e2 e3
    exact ⟨a0, a1, a2, a3, rfl⟩
theorem meta_at {c0 c1 c2 c3 c4 : Value} (hf : DataW.trod enc Tryd.prog W base spare held fuel 32 [c0, c1, c2, c3, c4] = some x) : ∃ m : MetaV, [c0, c1, c2, c3, c4] = m.cells.toList := by
  obtain ⟨xs, n, _, hx, _, hlen, hg⟩ := DataW.trod_struct Tryd.underlying32 hf
  have k1 : Tryd.prog.cellsOf 3 = 1 := by kernel_rfl
  match xs, hlen with
  | [y0, y1, y2, y3, y4], _ =>
    obtain ⟨a0, e0, _, _⟩ := DataW.trod_int Tryd.underlying3 (hg 0 _ rfl)
    obtain ⟨a1, e1, _, _⟩ := DataW.trod_int Tryd.underlying3 (hg 1 _ rfl)
    obtain ⟨a2, e2, _, _⟩ := DataW.trod_int Tryd.underlying3 (hg 2 _ rfl)
    obtain ⟨a3, e3, _, _⟩ := DataW.trod_int Tryd.underlying3 (hg 3 _ rfl)
    obtain ⟨a4, e4, _, _⟩ := DataW.trod_int Tryd.underlying3 (hg 4 _ rfl)
    simp [k1] at e0 e1 e2 e3 e4
    subst e0 e1 e2 e3 e4
    exact ⟨⟨a0, a1, a2, a3, a4⟩, rfl⟩
theorem open_pact {v : Value} {d : DataW H} {p : List MemPlace} (hv : Value.okWide Tryd.prog W r b0 45 v) (h : DataW.Trod enc Tryd.prog W base spare held 45 v d p) : ∃ a : PActV, v = a.val := by
  obtain ⟨cs, rfl, hsz⟩ := okWide_struct Tryd.underlying45 hv
  obtain ⟨cl⟩ := cs
  have k1 : Tryd.prog.cellsOf 3 = 1 := by kernel_rfl
  have k2 : Tryd.prog.cellsOf 4 = 1 := by kernel_rfl
  have k3 : Tryd.prog.cellsOf 9 = 1 := by kernel_rfl
  have k4 : Tryd.prog.cellsOf 43 = 1 := by kernel_rfl
  have k5 : Tryd.prog.cellsOf 42 = 4 := by kernel_rfl
  have k6 : Tryd.prog.cellsOf 32 = 5 := by kernel_rfl
  match cl, hsz.trans (show Tryd.prog.cellsOf 45 = 14 by kernel_rfl) with
  | [c0, c1, c2, c3, c4, c5, c6, c7, c8, c9, c10, c11, c12, c13], _ =>
    obtain ⟨fuel, hf⟩ := h
    obtain ⟨xs, n, _, hx, _, hlen, hg⟩ := DataW.trod_struct Tryd.underlying45 hf
    match xs, hlen with
    | [y0, y1, y2, y3, y4, y5, y6], _ =>
      obtain ⟨a0, e0, _, _⟩ := DataW.trod_int Tryd.underlying3 (hg 0 _ rfl)
      have g1 := hg 1 _ rfl
      have g2 := hg 2 _ rfl
      have g3 := hg 3 _ rfl
      obtain ⟨a4, e4, _, _⟩ := DataW.trod_int Tryd.underlying3 (hg 4 _ rfl)
      obtain ⟨a5, e5, _, _⟩ := DataW.trod_string Tryd.underlying9 (hg 5 _ rfl)
      have g6 := hg 6 _ rfl
      simp [Value.cells, k1, k2, k3, k4, k5, k6] at e0 e4 e5 g1 g2 g3 g6
      subst e0 e4 e5
      obtain ⟨k, n, t, b, hp⟩ := page_at g1
      obtain ⟨m, hm⟩ := meta_at g2
      obtain ⟨q, e3, _⟩ := DataW.trod_bool Tryd.underlying4 g3
      obtain ⟨A, zs, cap, e6, _⟩ := open_ints_d Tryd.underlying43 Tryd.underlying3 k1 g6
      simp at hp e3 e6
      obtain ⟨rfl, rfl, rfl, rfl⟩ := hp
      subst e3 e6
      unfold MetaV.cells at hm
      simp at hm
      obtain ⟨rfl, rfl, rfl, rfl, rfl⟩ := hm
      exact ⟨⟨a0, k, n, t, b, m, q, a4, a5, A, zs.length, cap⟩, rfl⟩
end
end Go.Proofs.YtchldjjfaiikbaaDoor

/- An act on a device as an argument, opened; a row of acts. -/
import Derived.Test.YtchldjjfaiikbaaDevAwake
import Derived.Test.YtchldjjfaiikbaaRowKit
namespace Go.Proofs.Ytchldjjfaiikbaa
open Go.ChangeShapes Go.WideShapes Go.ChangeAt Go.RowKit
set_option maxRecDepth 100000
set_option linter.unusedVariables false

theorem open_ints_at {H : Type} {enc : TypeId × Value → H} {P : Program} {W : World} {base : Nat} {spare : Nat → Bool} {held : Bool} {t e : TypeId} {fuel : Nat} {cs : List Value} {x : DataW H × List MemPlace}
    (ht : P.underlying t = some (.slice e)) (he : P.underlying e = some (.int .i64)) (hc : P.cellsOf e = 1) (hf : DataW.trod enc P W base spare held fuel t cs = some x) :
    ∃ (A : Option Addr) (zs : List Int) (cap : Nat), cs = [.slice A zs.length cap] ∧ zs.length ≤ maxLen ∧ (∀ n ∈ zs, (Lit.int .i64 n).wf = true) ∧ Sl W A (zs.map (Value.int .i64)) := by
  rcases open_ints ht he hc hf with ⟨hcs, _⟩ | ⟨x, len, cap, ss, hcs, _, hl, hm, hz, _, hcell, hws⟩
  · exact ⟨none, [], 0, hcs, Nat.zero_le _, by simp, Sl.nil _ _⟩
  · have hlen : len ≤ ss.length := by rw [hz]; split <;> omega
    have htl : (ss.take len).length = len := by rw [List.length_take]; omega
    refine ⟨some x, ss.take len, cap, by rw [htl]; exact hcs, by rw [htl]; omega, fun s hs => hws s (List.mem_of_mem_take hs), sl_of_cells (fun i u hu => ?_)⟩
    rw [List.getElem?_map] at hu
    obtain ⟨y, hy, rfl⟩ := Option.map_eq_some_iff.1 hu
    obtain ⟨hi, hy⟩ := List.getElem?_eq_some_iff.1 hy
    rw [htl] at hi
    rw [hcell i (by omega), List.getD_eq_getElem?_getD, List.getElem?_eq_getElem (by omega), ← hy, List.getElem_take]
    rfl

theorem wf_le {n : Int} (h : (Lit.int .i64 n).wf = true) : n ≤ 9223372036854775807 := by
  simp [Lit.wf, IntKind.min, IntKind.max, IntKind.bits, IntKind.signed] at h
  omega
theorem wf_u8 {n : Int} (h : (Lit.int .u8 n).wf = true) : 0 ≤ n ∧ n < 256 := by
  simp [Lit.wf, IntKind.min, IntKind.max, IntKind.bits, IntKind.signed] at h
  omega

theorem act_at {H : Type} {enc : TypeId × Value → H} {W : World} {base : Nat} {spare : Nat → Bool} {held : Bool} {fuel : Nat} {c0 c1 c2 c3 c4 c5 : Value} {x : DataW H × List MemPlace}
    (hf : DataW.trod enc Try.prog W base spare held fuel 33 [c0, c1, c2, c3, c4, c5] = some x) : ∃ a : ActV, [c0, c1, c2, c3, c4, c5] = a.cells.toList ∧ a.Ok W := by
  obtain ⟨xs, n, _, hx, _, hlen, hg⟩ := DataW.trod_struct Try.underlying33 hf
  have k1 : Try.prog.cellsOf 3 = 1 := by kernel_rfl
  have k2 : Try.prog.cellsOf 5 = 1 := by kernel_rfl
  have k3 : Try.prog.cellsOf 9 = 1 := by kernel_rfl
  have k4 : Try.prog.cellsOf 23 = 1 := by kernel_rfl
  match xs, hlen with
  | [y0, y1, y2, y3, y4, y5], _ =>
    obtain ⟨a0, e0, _, _⟩ := DataW.trod_int Try.underlying3 (hg 0 _ rfl)
    obtain ⟨a1, e1, _, _⟩ := DataW.trod_int Try.underlying3 (hg 1 _ rfl)
    obtain ⟨a2, e2, _, w2⟩ := DataW.trod_int Try.underlying3 (hg 2 _ rfl)
    obtain ⟨a3, e3, _, w3⟩ := DataW.trod_int Try.underlying5 (hg 3 _ rfl)
    obtain ⟨a4, e4, _, w4⟩ := DataW.trod_string Try.underlying9 (hg 4 _ rfl)
    obtain ⟨A, zs, cap, e5, l5, w5, s5⟩ := open_ints_at Try.underlying23 Try.underlying3 k1 (hg 5 _ rfl)
    simp [k1, k2, k3, k4] at e0 e1 e2 e3 e4 e5
    subst e0 e1 e2 e3 e4 e5
    obtain ⟨u0, u1⟩ := wf_u8 w3
    refine ⟨⟨a0, a1, a2, UInt8.ofNat a3.toNat, a4, A, zs, cap⟩, ?_, ⟨wf_le w2, w4, l5, fun p hp => wf_le (w5 p hp), s5⟩⟩
    have : ((UInt8.ofNat a3.toNat).toNat : Int) = a3 := by
      rw [UInt8.toNat_ofNat']
      omega
    unfold ActV.cells
    simp only
    rw [this]
theorem open_act {H : Type} {enc : TypeId × Value → H} {W : World} {base b0 : Nat} {spare : Nat → Bool} {held : Bool} {r : Reach} {v : Value} {d : DataW H} {p : List MemPlace}
    (hv : Value.okWide Try.prog W r b0 33 v) (h : DataW.Trod enc Try.prog W base spare held 33 v d p) : ∃ a : ActV, v = a.val ∧ a.Ok W := by
  obtain ⟨cs, rfl, hsz⟩ := okWide_struct Try.underlying33 hv
  obtain ⟨cl⟩ := cs
  match cl, hsz.trans (show Try.prog.cellsOf 33 = 6 by kernel_rfl) with
  | [c0, c1, c2, c3, c4, c5], _ =>
    obtain ⟨fuel, hf⟩ := h
    obtain ⟨a, ha, hok⟩ := act_at (by simpa [Value.cells] using hf)
    refine ⟨a, ?_, hok⟩
    unfold ActV.val
    rw [show a.cells = ⟨[c0, c1, c2, c3, c4, c5]⟩ from by rw [ha]]
end Go.Proofs.Ytchldjjfaiikbaa

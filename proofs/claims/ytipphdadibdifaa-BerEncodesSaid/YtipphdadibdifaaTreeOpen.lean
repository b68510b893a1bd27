/- An argument of type api.Tlv, read as data, is a tree in memory. -/
import Derived.Test.YtipphdadibdifaaChecked
import Derived.Test.YtipphdadibdifaaTree
import Derived.Test.YtipphdadibdifaaRowKit
import Derived.Deep.Slices
import Derived.Deep.Fields
import Derived.ChangeSame
namespace Go.Proofs.Ytipphdadibdifaa
open Go.ChangeShapes Go.WideShapes Go.ChangeAt Go.RowKit Go.Deep

theorem kids_from {W : World} {A : Option Addr} {len : Nat} (h : ∀ i, i < len → ∃ (b o : Nat) (c0 c1 c2 c3 c4 : Value) (t : Tl), A = some ⟨b, o, none⟩ ∧ b < W.heap.size ∧ W.cell? ⟨b, o + i * 5, none⟩ = some c0 ∧ W.cell? ⟨b, o + i * 5 + 1, none⟩ = some c1 ∧
    W.cell? ⟨b, o + i * 5 + 2, none⟩ = some c2 ∧ W.cell? ⟨b, o + i * 5 + 3, none⟩ = some c3 ∧ W.cell? ⟨b, o + i * 5 + 4, none⟩ = some c4 ∧ TlAt W (fun _ => True) t #[c0, c1, c2, c3, c4]) :
    ∀ (k j : Nat), j + k = len → ∃ ks : List Tl, ks.length = k ∧ KsAt W (fun _ => True) ks A j := by
  intro k
  induction k with
  | zero => intro j _; exact ⟨[], rfl, by unfold KsAt; trivial⟩
  | succ k ih =>
    intro j hj
    obtain ⟨b, o, c0, c1, c2, c3, c4, t, hA, hb, q0, q1, q2, q3, q4, ht⟩ := h j (by omega)
    obtain ⟨ks, hl, hk⟩ := ih (j + 1) (by omega)
    refine ⟨t :: ks, by simp [hl], ?_⟩
    unfold KsAt
    exact ⟨⟨b, o, c0, c1, c2, c3, c4, hA, ⟨trivial, hb⟩, q0, q1, q2, q3, q4, ht⟩, hk⟩

section
variable {H : Type} {enc : TypeId × Value → H} {W : World} {base : Nat} {spare : Nat → Bool} {held : Bool}

theorem plain_of {a : Addr} {n : Nat} {cs : List Value} (hn : 0 < n) (h : W.cells? base (a.add (0 * 5)) n = some cs) : ∃ b o, a = ⟨b, o, none⟩ ∧ b < W.heap.size := by
  obtain ⟨_, hl, hat⟩ := World.cells?_some h
  have h0 := hat 0 hn
  have e : (a.add (0 * 5)).add 0 = a := by simp [Addr.add]
  rw [e] at h0
  have hv : cs[0]? = some (cs[0]'(by omega)) := List.getElem?_eq_getElem (by omega)
  rw [hv] at h0
  obtain ⟨b, o, spot⟩ := a
  have hspot : spot = none := World.cell?_spot h0
  subst hspot
  refine ⟨b, o, rfl, ?_⟩
  rcases Nat.lt_or_ge b W.heap.size with hlt | hge
  · exact hlt
  · simp [World.cell?, Array.getElem?_eq_none hge] at h0

theorem five_cells {b o i : Nat} {cs : List Value} (h : W.cells? base ((⟨b, o, none⟩ : Addr).add (i * 5)) 5 = some cs) :
    ∃ (c0 c1 c2 c3 c4 : Value), cs = [c0, c1, c2, c3, c4] ∧ W.cell? ⟨b, o + i * 5, none⟩ = some c0 ∧ W.cell? ⟨b, o + i * 5 + 1, none⟩ = some c1 ∧
    W.cell? ⟨b, o + i * 5 + 2, none⟩ = some c2 ∧ W.cell? ⟨b, o + i * 5 + 3, none⟩ = some c3 ∧ W.cell? ⟨b, o + i * 5 + 4, none⟩ = some c4 := by
  obtain ⟨_, hl, hat⟩ := World.cells?_some h
  match cs, hl with
  | [c0, c1, c2, c3, c4], _ =>
    have h0 := hat 0 (by omega)
    have h1 := hat 1 (by omega)
    have h2 := hat 2 (by omega)
    have h3 := hat 3 (by omega)
    have h4 := hat 4 (by omega)
    rw [add_plain, add_plain] at h0 h1 h2 h3 h4
    exact ⟨c0, c1, c2, c3, c4, rfl, by simpa using h0, by simpa using h1, by simpa using h2, by simpa using h3, by simpa using h4⟩

theorem tlv_of_trod (fuel : Nat) : ∀ (m : Nat), m ≤ fuel → ∀ (cs : List Value) (x : DataW H × List MemPlace), DataW.trod enc Try.prog W base spare held m 44 cs = some x → ∃ t, TlAt W (fun _ => True) t cs.toArray := by
  induction fuel with
  | zero =>
    intro m hm cs x h
    obtain rfl : m = 0 := by omega
    simp [DataW.trod] at h
  | succ fuel ih =>
    intro m hm cs x h
    obtain ⟨xs, n, rfl, hx, hlen, hxl, hf⟩ := DataW.trod_struct Try.underlying44 h
    have hc5 : Try.prog.cellsOf 44 = 5 := by kernel_rfl
    rw [hc5] at hlen
    have k3 : Try.prog.cellsOf 3 = 1 := by kernel_rfl
    have k4 : Try.prog.cellsOf 4 = 1 := by kernel_rfl
    have k9 : Try.prog.cellsOf 9 = 1 := by kernel_rfl
    have k42 : Try.prog.cellsOf 42 = 1 := by kernel_rfl
    have hx5 : xs.length = 5 := hxl
    match cs, hlen with
    | [c0, c1, c2, c3, c4], _ =>
      have g0 : DataW.trod enc Try.prog W base spare held n 3 [c0] = some xs[0] := by rw [← List.getElem?_eq_getElem (by omega)]; simpa [k3] using hf 0 _ rfl
      have g1 : DataW.trod enc Try.prog W base spare held n 4 [c1] = some xs[1] := by rw [← List.getElem?_eq_getElem (by omega)]; simpa [k4] using hf 1 _ rfl
      have g2 : DataW.trod enc Try.prog W base spare held n 3 [c2] = some xs[2] := by rw [← List.getElem?_eq_getElem (by omega)]; simpa [k3] using hf 2 _ rfl
      have g3 : DataW.trod enc Try.prog W base spare held n 9 [c3] = some xs[3] := by rw [← List.getElem?_eq_getElem (by omega)]; simpa [k9] using hf 3 _ rfl
      have g4 : DataW.trod enc Try.prog W base spare held n 42 [c4] = some xs[4] := by rw [← List.getElem?_eq_getElem (by omega)]; simpa [k42] using hf 4 _ rfl
      obtain ⟨a0, e0, _, w0⟩ := DataW.trod_int Try.underlying3 g0
      obtain ⟨a1, e1, _⟩ := DataW.trod_bool Try.underlying4 g1
      obtain ⟨a2, e2, _, w2⟩ := DataW.trod_int Try.underlying3 g2
      obtain ⟨a3, e3, _, w3⟩ := DataW.trod_string Try.underlying9 g3
      simp only [List.cons.injEq, and_true] at e0 e1 e2 e3
      subst e0 e1 e2 e3
      rcases DataW.trod_slice Try.underlying42 g4 with ⟨h0, _⟩ | ⟨a, len, cap, elems, rest, n', hn', hcs, _, hb, hl, hm', hlen', hel, _, _⟩
      · simp only [List.cons.injEq, and_true] at h0
        subst h0
        refine ⟨.mk a0 a1 a2 a3 [], ?_⟩
        unfold TlAt
        exact ⟨none, 0, rfl, Nat.zero_le _, w0, w2, w3, by unfold KsAt; trivial⟩
      · simp only [List.cons.injEq, and_true] at hcs
        subst hcs
        rw [hc5] at hel
        have hall : ∀ i, i < len → ∃ (b o : Nat) (c0 c1 c2 c3 c4 : Value) (t : Tl), some a = some ⟨b, o, none⟩ ∧ b < W.heap.size ∧ W.cell? ⟨b, o + i * 5, none⟩ = some c0 ∧ W.cell? ⟨b, o + i * 5 + 1, none⟩ = some c1 ∧
            W.cell? ⟨b, o + i * 5 + 2, none⟩ = some c2 ∧ W.cell? ⟨b, o + i * 5 + 3, none⟩ = some c3 ∧ W.cell? ⟨b, o + i * 5 + 4, none⟩ = some c4 ∧ TlAt W (fun _ => True) t #[c0, c1, c2, c3, c4] := by
          intro i hi
          have h0 := hel 0 (by omega)
          have hi' := hel i hi
          rw [List.getElem?_eq_getElem (by omega)] at h0 hi'
          obtain ⟨cs0, hcs0, _⟩ := Option.bind_eq_some_iff.1 h0
          obtain ⟨csi, hcsi, hti⟩ := Option.bind_eq_some_iff.1 hi'
          obtain ⟨b, o, rfl, hblt⟩ := plain_of (by decide) hcs0
          obtain ⟨d0, d1, d2, d3, d4, rfl, q0, q1, q2, q3, q4⟩ := five_cells hcsi
          obtain ⟨t, ht⟩ := ih n' (by omega) _ _ hti
          exact ⟨b, o, d0, d1, d2, d3, d4, t, rfl, hblt, q0, q1, q2, q3, q4, ht⟩
        obtain ⟨ks, hkl, hk⟩ := kids_from hall len 0 (by omega)
        refine ⟨.mk a0 a1 a2 a3 ks, ?_⟩
        unfold TlAt
        exact ⟨some a, cap, by rw [hkl], by omega, w0, w2, w3, hk⟩

theorem open_tlv {r : Reach} {b0 : Nat} {v : Value} {d : DataW H} {p : List MemPlace} (hv : Value.okWide Try.prog W r b0 44 v) (h : DataW.Trod enc Try.prog W base spare held 44 v d p) :
    ∃ (t : Tl) (cs : Array Value), v = .agg cs ∧ TlAt W (fun _ => True) t cs := by
  obtain ⟨cs, rfl, _⟩ := okWide_struct Try.underlying44 hv
  obtain ⟨fuel, hf⟩ := h
  obtain ⟨t, ht⟩ := tlv_of_trod fuel fuel (Nat.le_refl _) _ _ hf
  exact ⟨t, cs, rfl, ht⟩
end
end Go.Proofs.Ytipphdadibdifaa

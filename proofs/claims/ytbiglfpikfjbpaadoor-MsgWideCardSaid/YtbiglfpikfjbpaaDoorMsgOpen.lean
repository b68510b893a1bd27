/- An argument of type api.Message, read as data, is a message in memory. -/
import Derived.Test.YtbiglfpikfjbpaaDoorChecked
import Derived.Test.YtbiglfpikfjbpaaDoorMsgKit
import Derived.Test.YtbiglfpikfjbpaaDoorMsgData
import Derived.Deep.Slices
import Derived.Deep.Fields
import Derived.ChangeSame
namespace Go.Proofs.YtbiglfpikfjbpaaDoor
open Go.ChangeShapes Go.WideShapes Go.ChangeAt Go.RowKit Go.Deep
set_option maxRecDepth 100000
set_option linter.unusedVariables false
section
variable {H : Type} {enc : TypeId × Value → H} {W : World} {base : Nat} {spare : Nat → Bool} {held : Bool}
theorem plain_k {a : Addr} {k n : Nat} {cs : List Value} (hn : 0 < n) (h : W.cells? base (a.add (0 * k)) n = some cs) : ∃ b o, a = ⟨b, o, none⟩ ∧ b < W.heap.size := by
  obtain ⟨_, hl, hat⟩ := World.cells?_some h
  have h0 := hat 0 hn
  have e : (a.add (0 * k)).add 0 = a := by simp [Addr.add]
  rw [e] at h0
  have hv : cs[0]? = some (cs[0]'(by omega)) := List.getElem?_eq_getElem (by omega)
  rw [hv] at h0
  obtain ⟨b, o, spot⟩ := a
  have hspot : spot = none := World.cell?_spot h0
  subst hspot
  refine ⟨b, o, rfl, ?_⟩
  rcases Nat.lt_or_ge b W.heap.size with hlt | hge
  · exact hlt
  · simp [World.cell?, Array.getElem?_eq_none hge] at h0
theorem list_of {α : Type} {P : Nat → α → Prop} {len : Nat} (h : ∀ i, i < len → ∃ d, P i d) : ∃ ds : List α, ds.length = len ∧ ∀ i d, ds[i]? = some d → P i d := by
  induction len with
  | zero => exact ⟨[], rfl, fun i d h => by simp at h⟩
  | succ n ih =>
    obtain ⟨ds, h1, h2⟩ := ih (fun i hi => h i (by omega))
    obtain ⟨d, hd⟩ := h n (by omega)
    refine ⟨ds ++ [d], by simp [h1], fun i x hx => ?_⟩
    by_cases hi : i < n
    · exact h2 i x (by rwa [List.getElem?_append_left (by omega)] at hx)
    · have hl : i < (ds ++ [d]).length := (List.getElem?_eq_some_iff.1 hx).1
      simp [h1] at hl
      obtain rfl : i = n := by omega
      rw [List.getElem?_append_right (by omega)] at hx
      obtain rfl : d = x := by simpa [h1] using hx
      exact hd
theorem row_trod {α : Type} {At : World → (Nat → Prop) → α → List Value → Prop} {TS E : TypeId} {k : Nat} (hu : Tryd.prog.underlying TS = some (.slice E)) (hk : Tryd.prog.cellsOf E = k) (hk0 : 0 < k) {N : Nat}
    (hel : ∀ n, n < N → ∀ cs x, DataW.trod enc Tryd.prog W base spare held n E cs = some x → ∃ d, At W (fun _ => True) d cs) {m : Nat} (hm : m ≤ N) {c : Value} {x : DataW H × List MemPlace} (h : DataW.trod enc Tryd.prog W base spare held m TS [c] = some x) :
    ∃ (q : Rw) (ds : List α), c = .slice q.A q.n q.c ∧ RowOf k At W (fun _ => True) q ds := by
  rcases DataW.trod_slice hu h with ⟨h0, -⟩ | ⟨a, len, cap, elems, rest, n, hn, hcs, -, hb, hl, hcm, hle, hei, -, -⟩
  · simp only [List.cons.injEq, and_true] at h0
    subst h0
    exact ⟨Rw.none, [], rfl, RowOf.nil _ _⟩
  · simp only [List.cons.injEq, and_true] at hcs
    subst hcs
    rw [hk] at hei
    by_cases hz : len = 0
    · subst hz
      exact ⟨⟨some a, 0, cap⟩, [], rfl, rfl, Nat.zero_le _, hcm, fun i d h => by simp at h⟩
    have h0 := hei 0 (by omega)
    rw [List.getElem?_eq_getElem (by omega)] at h0
    obtain ⟨cs0, hcs0, -⟩ := Option.bind_eq_some_iff.1 h0
    obtain ⟨b, o, rfl, hblt⟩ := plain_k hk0 hcs0
    obtain ⟨ds, hdl, hds⟩ := list_of (α := α) (P := fun i d => ∃ c : List Value, c.length = k ∧ (∀ (j : Nat) (u : Value), c[j]? = some u → W.cell? ⟨b, o + i * k + j, none⟩ = some u) ∧ At W (fun _ => True) d c) (len := len) (fun i hi => by
      have hi' := hei i hi
      rw [List.getElem?_eq_getElem (by omega)] at hi'
      obtain ⟨csi, hcsi, hti⟩ := Option.bind_eq_some_iff.1 hi'
      obtain ⟨d, hd⟩ := hel n (by omega) _ _ hti
      obtain ⟨-, hl', hat⟩ := World.cells?_some hcsi
      refine ⟨d, csi, hl', fun j u hu => ?_, hd⟩
      have hj : j < k := by rw [← hl']; exact (List.getElem?_eq_some_iff.1 hu).1
      have := hat j hj
      rw [add_plain, add_plain, hu] at this
      exact this)
    refine ⟨⟨some ⟨b, o, none⟩, len, cap⟩, ds, rfl, hdl.symm, hl, hcm, fun i d hd => ?_⟩
    obtain ⟨c, h1, h2, h3⟩ := hds i d hd
    exact ⟨b, o, c, rfl, ⟨trivial, hblt⟩, h1, h2, h3⟩
theorem ci : Tryd.prog.cellsOf 3 = 1 := by kernel_rfl
theorem cb : Tryd.prog.cellsOf 4 = 1 := by kernel_rfl
theorem cst : Tryd.prog.cellsOf 9 = 1 := by kernel_rfl
theorem csl : Tryd.prog.cellsOf 22 = 1 := by kernel_rfl
theorem cfl : Tryd.prog.cellsOf 23 = 1 := by kernel_rfl
theorem cal : Tryd.prog.cellsOf 26 = 1 := by kernel_rfl
theorem cml : Tryd.prog.cellsOf 27 = 1 := by kernel_rfl
theorem ccl : Tryd.prog.cellsOf 28 = 1 := by kernel_rfl
theorem cfil : Tryd.prog.cellsOf 25 = 7 := by kernel_rfl
theorem strs_trod {m : Nat} {c : Value} {x : DataW H × List MemPlace} (h : DataW.trod enc Tryd.prog W base spare held m 22 [c] = some x) : ∃ (q : Rw) (ds : List ByteArray), c = .slice q.A q.n q.c ∧ SRow W (fun _ => True) q ds :=
  row_trod Tryd.underlying22 cst (by omega) (fun n _ cs x h => by
    obtain ⟨s, e, -, hs⟩ := DataW.trod_string Tryd.underlying9 h
    exact ⟨s, e, hs⟩) (Nat.le_refl _) h
theorem some_of {α : Type} {xs : List α} {i : Nat} {y : Option α} (h : y = xs[i]?) (hi : i < xs.length) : ∃ x, y = some x := ⟨xs[i], by rw [h, List.getElem?_eq_getElem hi]⟩
theorem attr_trod {m : Nat} {cs : List Value} {x : DataW H × List MemPlace} (h : DataW.trod enc Tryd.prog W base spare held m 52 cs = some x) : ∃ d, AttrAt W (fun _ => True) d cs := by
  obtain ⟨xs, n, -, -, hlen, hxl, hf⟩ := DataW.trod_struct Tryd.underlying52 h
  have hx : xs.length = 2 := hxl
  match cs, hlen.trans (show Tryd.prog.cellsOf 52 = 2 by kernel_rfl) with
  | [c0, c1], _ =>
    obtain ⟨y0, g0⟩ := some_of (hf 0 _ rfl) (by omega)
    obtain ⟨y1, g1⟩ := some_of (hf 1 _ rfl) (by omega)
    obtain ⟨s, e0, -, w0⟩ := DataW.trod_string Tryd.underlying9 g0
    simp [cst] at e0
    simp [csl] at g1
    obtain ⟨q, ds, rfl, hr⟩ := strs_trod g1
    exact ⟨(s, ds), q, by rw [e0], w0, hr⟩
theorem mod_trod {m : Nat} {cs : List Value} {x : DataW H × List MemPlace} (h : DataW.trod enc Tryd.prog W base spare held m 54 cs = some x) : ∃ d, ModAt W (fun _ => True) d cs := by
  obtain ⟨xs, n, -, -, hlen, hxl, hf⟩ := DataW.trod_struct Tryd.underlying54 h
  have hx : xs.length = 3 := hxl
  match cs, hlen.trans (show Tryd.prog.cellsOf 54 = 3 by kernel_rfl) with
  | [c0, c1, c2], _ =>
    obtain ⟨y0, g0⟩ := some_of (hf 0 _ rfl) (by omega)
    obtain ⟨y1, g1⟩ := some_of (hf 1 _ rfl) (by omega)
    obtain ⟨y2, g2⟩ := some_of (hf 2 _ rfl) (by omega)
    obtain ⟨k, e0, -, w0⟩ := DataW.trod_int Tryd.underlying3 g0
    obtain ⟨s, e1, -, w1⟩ := DataW.trod_string Tryd.underlying9 g1
    simp [ci] at e0
    simp [cst] at e1
    simp [csl] at g2
    obtain ⟨q, ds, rfl, hr⟩ := strs_trod g2
    exact ⟨(k, s, ds), q, by rw [e0, e1], ⟨w0, w1⟩, hr⟩
theorem ctl_trod {m : Nat} {cs : List Value} {x : DataW H × List MemPlace} (h : DataW.trod enc Tryd.prog W base spare held m 56 cs = some x) : ∃ d, CoAt W (fun _ => True) d cs := by
  obtain ⟨xs, n, -, -, hlen, hxl, hf⟩ := DataW.trod_struct Tryd.underlying56 h
  have hx : xs.length = 4 := hxl
  match cs, hlen.trans (show Tryd.prog.cellsOf 56 = 4 by kernel_rfl) with
  | [c0, c1, c2, c3], _ =>
    obtain ⟨y0, g0⟩ := some_of (hf 0 _ rfl) (by omega)
    obtain ⟨y1, g1⟩ := some_of (hf 1 _ rfl) (by omega)
    obtain ⟨y2, g2⟩ := some_of (hf 2 _ rfl) (by omega)
    obtain ⟨y3, g3⟩ := some_of (hf 3 _ rfl) (by omega)
    obtain ⟨s, e0, -, w0⟩ := DataW.trod_string Tryd.underlying9 g0
    obtain ⟨a, e1, -⟩ := DataW.trod_bool Tryd.underlying4 g1
    obtain ⟨b, e2, -⟩ := DataW.trod_bool Tryd.underlying4 g2
    obtain ⟨v, e3, -, w3⟩ := DataW.trod_string Tryd.underlying9 g3
    simp [cst] at e0
    simp [cb] at e1
    simp [cb] at e2
    simp [cst] at e3
    exact ⟨(s, a, b, v), by rw [e0, e1, e2, e3], w0, w3⟩
theorem fil_trod (fuel : Nat) : ∀ (m : Nat), m ≤ fuel → ∀ (cs : List Value) (x : DataW H × List MemPlace), DataW.trod enc Tryd.prog W base spare held m 25 cs = some x → ∃ f, FlAt W (fun _ => True) f cs := by
  induction fuel with
  | zero =>
    intro m hm cs x h
    obtain rfl : m = 0 := by omega
    simp [DataW.trod] at h
  | succ fuel ih =>
    intro m hm cs x h
    obtain ⟨xs, n, hn, -, hlen, hxl, hf⟩ := DataW.trod_struct Tryd.underlying25 h
    have hx : xs.length = 7 := hxl
    match cs, hlen.trans cfil with
    | [c0, c1, c2, c3, c4, c5, c6], _ =>
      obtain ⟨y0, g0⟩ := some_of (hf 0 _ rfl) (by omega)
      obtain ⟨y1, g1⟩ := some_of (hf 1 _ rfl) (by omega)
      obtain ⟨y2, g2⟩ := some_of (hf 2 _ rfl) (by omega)
      obtain ⟨y3, g3⟩ := some_of (hf 3 _ rfl) (by omega)
      obtain ⟨y4, g4⟩ := some_of (hf 4 _ rfl) (by omega)
      obtain ⟨y5, g5⟩ := some_of (hf 5 _ rfl) (by omega)
      obtain ⟨y6, g6⟩ := some_of (hf 6 _ rfl) (by omega)
      obtain ⟨k, e0, -, w0⟩ := DataW.trod_int Tryd.underlying3 g0
      obtain ⟨s1, e1, -, w1⟩ := DataW.trod_string Tryd.underlying9 g1
      obtain ⟨s2, e2, -, w2⟩ := DataW.trod_string Tryd.underlying9 g2
      obtain ⟨s3, e3, -, w3⟩ := DataW.trod_string Tryd.underlying9 g3
      obtain ⟨s5, e5, -, w5⟩ := DataW.trod_string Tryd.underlying9 g5
      simp [ci] at e0
      simp [cst] at e1
      simp [cst] at e2
      simp [cst] at e3
      simp [cst] at e5
      simp [csl] at g4
      simp [cfl] at g6
      obtain ⟨q, ds, rfl, hr⟩ := strs_trod g4
      obtain ⟨r, ks, rfl, hk⟩ := row_trod (α := Fl) (At := FlAt) Tryd.underlying23 cfil (by omega) (N := n) (fun n' hn' cs x h => ih n' (by omega) cs x h) (Nat.le_refl _) g6
      obtain ⟨h1, h2⟩ := flRow_iff.1 hk
      refine ⟨.mk k s1 s2 s3 ds s5 ks, ?_⟩
      unfold FlAt
      exact ⟨q, r, by rw [e0, e1, e2, e3, e5], ⟨w0, w1, w2, w3, w5⟩, hr, h1, h2⟩
end
end Go.Proofs.YtbiglfpikfjbpaaDoor

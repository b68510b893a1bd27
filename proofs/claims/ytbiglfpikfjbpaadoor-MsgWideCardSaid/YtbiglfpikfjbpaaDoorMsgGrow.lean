/- Rows of structs whose parts may lie elsewhere: a row that is read, a row that grows. Over any program. -/
import Derived.Test.YtbiglfpikfjbpaaDoorPlainMsg
namespace Go.Proofs.YtbiglfpikfjbpaaDoor
open Go.RowKit
set_option linter.unusedVariables false

/-- What keeps the blocks of S keeps a thing's parts. -/
def Stable {α : Type} (At : World → (Nat → Prop) → α → List Value → Prop) : Prop :=
  ∀ {w w' : World} {S T : Nat → Prop}, w.heap.size ≤ w'.heap.size → (∀ b, S b → b < w.heap.size → w'.heap[b]? = w.heap[b]?) → (∀ b, S b → b < w.heap.size → T b) → ∀ d c, At w S d c → At w' T d c

/-- A slice of things of k cells. -/
def RowOf {α : Type} (k : Nat) (At : World → (Nat → Prop) → α → List Value → Prop) (w : World) (S : Nat → Prop) (r : Rw) (ds : List α) : Prop :=
  r.n = ds.length ∧ r.n ≤ r.c ∧ r.c ≤ maxLen ∧ ∀ (i : Nat) (d : α), ds[i]? = some d → ∃ (b o : Nat) (c : List Value), r.A = some ⟨b, o, none⟩ ∧ (S b ∧ b < w.heap.size) ∧ c.length = k ∧
    (∀ (j : Nat) (u : Value), c[j]? = some u → w.cell? ⟨b, o + i * k + j, none⟩ = some u) ∧ At w S d c
theorem RowOf.nil {α : Type} {k : Nat} {At : World → (Nat → Prop) → α → List Value → Prop} (w : World) (S : Nat → Prop) : RowOf k At w S Rw.none [] :=
  ⟨rfl, Nat.le_refl _, Nat.zero_le _, fun i d h => by simp at h⟩
theorem RowOf.keep {α : Type} {k : Nat} {At : World → (Nat → Prop) → α → List Value → Prop} (hA : Stable At) {w w' : World} {S T : Nat → Prop} {r : Rw} {ds : List α} (h : RowOf k At w S r ds)
    (hs : w.heap.size ≤ w'.heap.size) (hk : ∀ b, S b → b < w.heap.size → w'.heap[b]? = w.heap[b]?) (hT : ∀ b, S b → b < w.heap.size → T b) : RowOf k At w' T r ds := by
  obtain ⟨h1, h2, h3, h4⟩ := h
  refine ⟨h1, h2, h3, fun i d hd => ?_⟩
  obtain ⟨b, o, c, q1, q2, q3, q4, q5⟩ := h4 i d hd
  refine ⟨b, o, c, q1, ⟨hT b q2.1 q2.2, Nat.lt_of_lt_of_le q2.2 hs⟩, q3, fun j u hu => ?_, hA hs hk hT d c q5⟩
  exact (World.cell?_of_block (a := ⟨b, o + i * k + j, none⟩) (hk b q2.1 q2.2)).trans (q4 j u hu)

theorem flatten_get {k : Nat} : ∀ (css : List (List Value)), (∀ c ∈ css, c.length = k) → ∀ (i : Nat) (c : List Value), css[i]? = some c → ∀ j, j < k → css.flatten[i * k + j]? = c[j]?
  | [], _, i, c, h, _, _ => by simp at h
  | x :: css, hl, i, c, h, j, hj => by
    have hx : x.length = k := hl x (by simp)
    cases i with
    | zero =>
      obtain rfl : x = c := by simpa using h
      rw [Nat.zero_mul, Nat.zero_add, List.flatten_cons, List.getElem?_append_left (by omega)]
    | succ i =>
      have := flatten_get css (fun c hc => hl c (by simp [hc])) i c (by simpa using h) j hj
      rw [List.flatten_cons, List.getElem?_append_right (by rw [hx, Nat.add_mul]; omega), ← this]
      congr 1
      rw [hx, Nat.add_mul]
      omega

/-- A row of the call's own that holds these things; what lies within them lies in other blocks from B on. -/
def GRow {α : Type} (E : TypeId) (k : Nat) (At : World → (Nat → Prop) → α → List Value → Prop) (w : World) (B : Nat) (v : Value) (ds : List α) : Prop :=
  ∃ css : List (List Value), css.length = ds.length ∧ (∀ c ∈ css, c.length = k) ∧ w.ownsRow B E k v ds.length css.flatten ∧
    ∀ (i : Nat) (d : α) (c : List Value), ds[i]? = some d → css[i]? = some c → At w (fun b => B ≤ b ∧ v.ownBlock ≠ some b) d c

section
variable {α : Type} {E : TypeId} {k : Nat} {At : World → (Nat → Prop) → α → List Value → Prop}
theorem GRow.nil (w : World) (B : Nat) : GRow E k At w B (.slice none 0 0) [] := ⟨[], rfl, fun c h => by simp at h, World.ownsRow_nil _ _ _ _, fun i d c h => by simp at h⟩
theorem GRow.keep (hA : Stable At) {w w' : World} {B : Nat} {v : Value} {ds : List α} (h : GRow E k At w B v ds) (hs : w.heap.size ≤ w'.heap.size) (hk : ∀ b, B ≤ b → b < w.heap.size → w'.heap[b]? = w.heap[b]?) : GRow E k At w' B v ds := by
  obtain ⟨css, h1, h2, h3, h4⟩ := h
  refine ⟨css, h1, h2, ?_, fun i d c hd hc => hA hs (fun b hb hlt => hk b hb.1 hlt) (fun _ h _ => h) d c (h4 i d c hd hc)⟩
  obtain ⟨a1, a2⟩ := h3
  refine ⟨a1, ?_⟩
  rcases a2 with a2 | ⟨g, cap, cur, rfl, hb, hh, r⟩
  · exact Or.inl a2
  · exact Or.inr ⟨g, cap, cur, rfl, hb, (hk g hb (lt_of_block hh)).trans hh, r⟩
theorem GRow.off (hA : Stable At) {w w' : World} {B : Nat} {v : Value} {ds : List α} {S : List Nat} (h : GRow E k At w B v ds) (ho : Off S w w') (hS : ∀ g ∈ S, g < B) : GRow E k At w' B v ds :=
  h.keep hA ho.size (fun b hb hlt => ho.block b hlt (fun hm => by have := hS b hm; omega))
theorem GRow.below (hA : Stable At) {w w' : World} {B : Nat} {v : Value} {ds : List α} (h : GRow E k At w B v ds) (hb : Below w.heap.size w w') : GRow E k At w' B v ds :=
  h.keep hA hb.size (fun b _ hlt => hb.block b hlt)
theorem GRow.lt {w : World} {B : Nat} {v : Value} {ds : List α} (h : GRow E k At w B v ds) : ∀ g, v.ownBlock = some g → B ≤ g ∧ g < w.heap.size := by
  obtain ⟨css, _, _, h3, _⟩ := h
  exact h3.lt

/-- One more: its cells stand behind the row's; its parts lie in blocks that are newer than the row's world w. -/
theorem GRow.push (hA : Stable At) {w w1 w2 w3 : World} {B : Nat} {v v' : Value} {ds : List α} {d : α} {c : List Value} {css : List (List Value)} (hB : B ≤ w.heap.size)
    (hcl : css.length = ds.length) (hck : ∀ c ∈ css, c.length = k) (hown : w.ownsRow B E k v ds.length css.flatten)
    (hall : ∀ (i : Nat) (d : α) (c : List Value), ds[i]? = some d → css[i]? = some c → At w (fun b => B ≤ b ∧ v.ownBlock ≠ some b) d c)
    (h1 : ∀ b, B ≤ b → b < w.heap.size → w1.heap[b]? = w.heap[b]?) (hs1 : w.heap.size ≤ w1.heap.size) (hc : c.length = k) (ht : At w1 (fun b => w.heap.size ≤ b) d c) (h2 : Below w1.heap.size w1 w2)
    (hown3 : w3.ownsRow B E k v' (ds.length + 1) (css.flatten ++ c)) (hgr : w2.grownBy w3 v.ownBlock) (hat : v'.ownBlock = v.ownBlock ∨ v'.ownBlock = some w2.heap.size) :
    GRow E k At w3 B v' (ds ++ [d]) := by
  have s2 := h2.size
  have s3 := hgr.size
  have hvlt := hown.lt
  have hne : ∀ b, b < w2.heap.size → v.ownBlock ≠ some b → v'.ownBlock ≠ some b := by
    intro b hb hn e
    rcases hat with h | h
    · exact hn (h ▸ e)
    · rw [h] at e; injection e with e; omega
  refine ⟨css ++ [c], by simp [hcl], fun x hx => ?_, by rw [List.flatten_append, List.length_append]; simpa using hown3, fun i x y hx hy => ?_⟩
  · rcases List.mem_append.1 hx with hx | hx
    · exact hck x hx
    · rw [List.mem_singleton.1 hx]; exact hc
  · by_cases hlt : i < ds.length
    · rw [List.getElem?_append_left hlt] at hx
      rw [List.getElem?_append_left (by omega)] at hy
      refine hA (by omega) (fun b hb hbl => ?_) (fun b hb hbl => ⟨hb.1, hne b (by omega) hb.2⟩) _ _ (hall i x y hx hy)
      exact (hgr.block b (by omega) (fun e => hb.2 e.symm)).trans ((h2.block b (by omega)).trans (h1 b hb.1 hbl))
    · have hi : i < (ds ++ [d]).length := (List.getElem?_eq_some_iff.1 hx).1
      rw [List.length_append, List.length_singleton] at hi
      obtain rfl : i = ds.length := by omega
      obtain rfl : d = x := by simpa using hx
      rw [← hcl] at hy
      obtain rfl : c = y := by simpa using hy
      refine hA (by omega) (fun b hb hbl => ?_) (fun b hb hbl => ⟨by omega, hne b (by omega) (fun e => by have := (hvlt b e).2; omega)⟩) _ _ ht
      exact (hgr.block b (by omega) (fun e => by have := (hvlt b e.symm).2; omega)).trans (h2.block b hbl)

/-- As a row that is read. -/
theorem GRow.row (hA : Stable At) {w : World} {B : Nat} {v : Value} {ds : List α} (h : GRow E k At w B v ds) : ∃ r : Rw, v = .slice r.A r.n r.c ∧ RowOf k At w (fun b => B ≤ b) r ds := by
  obtain ⟨css, h1, h2, h3, h4⟩ := h
  obtain ⟨hl, hr⟩ := h3
  rcases hr with ⟨rfl, hn⟩ | ⟨g, cap, cur, rfl, hb, hh, hc, hm, hcs, htk⟩
  · obtain rfl : ds = [] := List.eq_nil_of_length_eq_zero hn
    exact ⟨Rw.none, rfl, RowOf.nil _ _⟩
  · refine ⟨⟨some ⟨g, 0, none⟩, ds.length, cap⟩, rfl, rfl, by show ds.length ≤ cap; omega, hm, fun i d hd => ?_⟩
    have hi : i < ds.length := (List.getElem?_eq_some_iff.1 hd).1
    obtain ⟨c, hci⟩ : ∃ c, css[i]? = some c := ⟨css[i]'(by omega), List.getElem?_eq_getElem (by omega)⟩
    have hck := h2 c (List.mem_of_getElem? hci)
    refine ⟨g, 0, c, rfl, ⟨hb, lt_of_block hh⟩, hck, fun j u hu => ?_, hA (Nat.le_refl _) (fun _ _ _ => rfl) (fun _ h _ => h.1) _ _ (h4 i d c hd hci)⟩
    have hj : j < k := by rw [← hck]; exact (List.getElem?_eq_some_iff.1 hu).1
    rw [cell_of_row w g _ cur _ (0, 0) hh, Nat.zero_add]
    have hf := flatten_get css h2 i c hci j hj
    rw [hu] at hf
    have hlt : i * k + j < css.flatten.length := (List.getElem?_eq_some_iff.1 hf).1
    rw [← htk, List.getElem?_take_of_lt (by omega)] at hf
    rw [← Array.getElem?_toList]
    exact hf
end

/-- A string's one cell. -/
def StrAt (_ : World) (_ : Nat → Prop) (s : ByteArray) (c : List Value) : Prop := c = [.string s] ∧ s.size ≤ maxLen
theorem strAt_stable : Stable StrAt := fun _ _ _ _ _ h => h
abbrev SRow := RowOf 1 StrAt
end Go.Proofs.YtbiglfpikfjbpaaDoor

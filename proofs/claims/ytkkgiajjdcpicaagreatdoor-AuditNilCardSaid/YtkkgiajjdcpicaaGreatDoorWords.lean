/- Words for memory, over any program: a block known whole, worlds that differ in named blocks alone, slices that read as lists. -/
import Derived.WalkKit
import Derived.Deep.Draws
import Derived.Deep.AppendLies
import Derived.OneCell
import Derived.Laws.Rows
namespace Go.Proofs.YtkkgiajjdcpicaaGreatDoor
open Go.RowKit

/-- Block g is just these cells of type t, none of them frozen. -/
def Bk (w : World) (g : Nat) (t : TypeId) (cs : Array Value) : Prop := w.heap[g]? = some (.cells cs t (0, 0))

theorem Bk.lt {w : World} {g : Nat} {t : TypeId} {cs : Array Value} (h : Bk w g t cs) : g < w.heap.size := lt_of_block h
theorem Bk.cell {w : World} {g : Nat} {t : TypeId} {cs : Array Value} (h : Bk w g t cs) (i : Nat) : w.cell? ⟨g, i, none⟩ = cs[i]? := cell_of_row w g i cs t (0, 0) h
theorem Bk.frozen {w : World} {g : Nat} {t : TypeId} {cs : Array Value} (h : Bk w g t cs) (i : Nat) : w.frozen? ⟨g, i, none⟩ = false := by
  unfold Bk at h
  simp [World.frozen?, h]
theorem Bk.drewN {w : World} {g : Nat} {t : TypeId} {cs : Array Value} (h : Bk w g t cs) (n : Nat) : Bk (w.drewN n) g t cs := h
theorem Bk.drew {w : World} {g : Nat} {t : TypeId} {cs : Array Value} (h : Bk w g t cs) : Bk w.drew g t cs := h
theorem Bk.alloc {w : World} {g : Nat} {t : TypeId} {cs : Array Value} (h : Bk w g t cs) (o : Obj) : Bk (w.alloc o) g t cs := (Below.heap_alloc w o g h.lt).trans h
theorem Bk.new (w : World) (t : TypeId) (cs : Array Value) : Bk (w.alloc (.cells cs t)) w.heap.size t cs := heap_alloc_new w _
theorem Bk.put {w : World} {g : Nat} {t : TypeId} {cs : Array Value} (h : Bk w g t cs) (i : Nat) (u : Value) : Bk (w.setCell ⟨g, i, none⟩ u) g t (cs.setIfInBounds i u) := by
  unfold Bk at h ⊢
  simp [World.setCell, Array.getElem?_modify, h]
theorem Bk.far {w : World} {g : Nat} {t : TypeId} {cs : Array Value} (h : Bk w g t cs) {p : Addr} (hp : g ≠ p.block) (u : Value) : Bk (w.setCell p u) g t cs := (Below.heap_setCell w p u g hp).trans h
/-- Blocks of two element types are two. -/
theorem Bk.ne {w : World} {g g' : Nat} {t t' : TypeId} {cs cs' : Array Value} (h : Bk w g t cs) (h' : Bk w g' t' cs') (hne : t ≠ t') : g ≠ g' := by
  rintro rfl
  unfold Bk at h h'
  rw [h] at h'
  injection h' with h'
  injection h' with _ ht
  exact hne ht
theorem own_ne {w : World} {g base : Nat} {t e : TypeId} {size n : Nat} {v : Value} {xs : List Value} {cs : Array Value} (h : w.ownsRow base e size v n xs) (hg : Bk w g t cs) (hne : e ≠ t) : v.ownBlock ≠ some g := by
  rcases h.2 with ⟨rfl, _⟩ | ⟨g', cap, cur, rfl, _, hh, _⟩
  · simp [Value.ownBlock]
  · intro he
    obtain rfl : g' = g := by simpa [Value.ownBlock] using he
    exact Bk.ne (t := e) hh hg hne rfl

/-- Of the blocks that were there only those of S may have turned; the streams are as they were. -/
structure Off (S : List Nat) (w w' : World) : Prop where
  os : w'.os = w.os
  tape : w'.tape = w.tape
  output : w'.output = w.output
  size : w.heap.size ≤ w'.heap.size
  block : ∀ k, k < w.heap.size → k ∉ S → w'.heap[k]? = w.heap[k]?

theorem Off.refl (S : List Nat) (w : World) : Off S w w := ⟨rfl, rfl, rfl, Nat.le_refl _, fun _ _ _ => rfl⟩
theorem Off.trans {S : List Nat} {a b c : World} (h : Off S a b) (k : Off S b c) : Off S a c :=
  ⟨k.os.trans h.os, k.tape.trans h.tape, k.output.trans h.output, Nat.le_trans h.size k.size, fun i hi hn => (k.block i (Nat.lt_of_lt_of_le hi h.size) hn).trans (h.block i hi hn)⟩
/-- A second step may turn blocks that are new, besides. -/
theorem Off.then {S T : List Nat} {a b c : World} (h : Off S a b) (k : Off T b c) (hT : ∀ g ∈ T, g ∈ S ∨ a.heap.size ≤ g) : Off S a c :=
  ⟨k.os.trans h.os, k.tape.trans h.tape, k.output.trans h.output, Nat.le_trans h.size k.size, fun i hi hn =>
    (k.block i (Nat.lt_of_lt_of_le hi h.size) (fun ht => (hT i ht).elim hn (fun h1 => absurd hi (by omega)))).trans (h.block i hi hn)⟩
theorem Off.mono {S T : List Nat} {a b : World} (h : Off S a b) (hT : ∀ g ∈ S, g ∈ T ∨ a.heap.size ≤ g) : Off T a b :=
  ⟨h.os, h.tape, h.output, h.size, fun i hi hn => h.block i hi (fun ht => (hT i ht).elim hn (fun h1 => absurd hi (by omega)))⟩
theorem Off.drew {S : List Nat} {a w : World} (h : Off S a w) : Off S a w.drew := ⟨h.os, h.tape, h.output, h.size, h.block⟩
theorem Off.drewN {S : List Nat} {a w : World} (h : Off S a w) (n : Nat) : Off S a (w.drewN n) := ⟨h.os, h.tape, h.output, h.size, h.block⟩
theorem Off.alloc {S : List Nat} {a w : World} (h : Off S a w) (o : Obj) : Off S a (w.alloc o) :=
  ⟨h.os, h.tape, h.output, Nat.le_trans h.size (by simp), fun i hi hn => (Below.heap_alloc w o i (Nat.lt_of_lt_of_le hi h.size)).trans (h.block i hi hn)⟩
theorem Off.setCell {S : List Nat} {a w : World} (h : Off S a w) {p : Addr} (hp : p.block ∈ S ∨ a.heap.size ≤ p.block) (u : Value) : Off S a (w.setCell p u) :=
  ⟨h.os, h.tape, h.output, by simpa [World.setCell] using h.size, fun i hi hn => (Below.heap_setCell w p u i (by
    rintro rfl
    rcases hp with hp | hp
    · exact hn hp
    · omega)).trans (h.block i hi hn)⟩
theorem Off.grown {S : List Nat} {a w w' : World} {row : Option Nat} (h : Off S a w) (hg : w.grownBy w' row) (hr : ∀ g, row = some g → g ∈ S ∨ a.heap.size ≤ g) : Off S a w' :=
  ⟨hg.os.trans h.os, hg.tape.trans h.tape, hg.output.trans h.output, Nat.le_trans h.size hg.size, fun i hi hn =>
    (hg.block i (Nat.lt_of_lt_of_le hi h.size) (fun e => (hr i e.symm).elim hn (fun h1 => absurd hi (by omega)))).trans (h.block i hi hn)⟩
theorem Off.of_below {w w' : World} (h : Below w.heap.size w w') (S : List Nat) : Off S w w' := ⟨h.os, h.tape, h.output, h.size, fun i hi _ => h.block i hi⟩
/-- Where all of S is new, what was there below B is as it was. -/
theorem Off.below {S : List Nat} {w w' : World} (h : Off S w w') {B : Nat} (hB : B ≤ w.heap.size) (hS : ∀ g ∈ S, B ≤ g) : Below B w w' :=
  ⟨h.os, h.tape, h.output, h.size, fun i hi => h.block i (by omega) (fun hs => by have := hS i hs; omega)⟩
theorem Off.bk {S : List Nat} {w w' : World} (h : Off S w w') {g : Nat} {t : TypeId} {cs : Array Value} (hb : Bk w g t cs) (hg : g ∉ S) : Bk w' g t cs := (h.block g hb.lt hg).trans hb
theorem Off.cell {S : List Nat} {w w' : World} (h : Off S w w') {p : Addr} (hp : p.block < w.heap.size) (hn : p.block ∉ S) : w'.cell? p = w.cell? p := World.cell?_of_block (h.block p.block hp hn)
theorem Off.own {S : List Nat} {w w' : World} (h : Off S w w') {base : Nat} {e : TypeId} {size n : Nat} {v : Value} {xs : List Value} (ho : w.ownsRow base e size v n xs) (hn : ∀ g, v.ownBlock = some g → g ∉ S) : w'.ownsRow base e size v n xs := by
  obtain ⟨h1, h2⟩ := ho
  refine ⟨h1, ?_⟩
  rcases h2 with h2 | ⟨g, cap, cur, rfl, hb, hh, r⟩
  · exact Or.inl h2
  · exact Or.inr ⟨g, cap, cur, rfl, hb, (h.block g (lt_of_block hh) (hn g rfl)).trans hh, r⟩

theorem own_mono {w : World} {base base' : Nat} {e : TypeId} {size n : Nat} {v : Value} {xs : List Value} (ho : w.ownsRow base e size v n xs) (h : base' ≤ base) : w.ownsRow base' e size v n xs := by
  obtain ⟨h1, h2⟩ := ho
  refine ⟨h1, ?_⟩
  rcases h2 with h2 | ⟨g, cap, cur, rfl, hb, r⟩
  · exact Or.inl h2
  · exact Or.inr ⟨g, cap, cur, rfl, by omega, r⟩

/-- A slice that begins at A holds these cells (each element one cell). -/
def Sl (w : World) (A : Option Addr) (xs : List Value) : Prop := ∀ (j : Nat) (u : Value), xs[j]? = some u → ∃ b o, A = some ⟨b, o, none⟩ ∧ b < w.heap.size ∧ w.cell? ⟨b, o + j, none⟩ = some u

theorem Sl.nil (w : World) (A : Option Addr) : Sl w A [] := fun j u h => by simp at h
theorem Sl.off {S : List Nat} {w w' : World} {A : Option Addr} {xs : List Value} (h : Sl w A xs) (ho : Off S w w') (hn : ∀ a, A = some a → a.block ∉ S) : Sl w' A xs := by
  intro j u hu
  obtain ⟨b, o, rfl, hb, hc⟩ := h j u hu
  exact ⟨b, o, rfl, Nat.lt_of_lt_of_le hb ho.size, (ho.cell (p := ⟨b, o + j, none⟩) hb (hn ⟨b, o, none⟩ rfl)).trans hc⟩
theorem Sl.below {w w' : World} {A : Option Addr} {xs : List Value} (h : Sl w A xs) (ho : Below w.heap.size w w') : Sl w' A xs := by
  intro j u hu
  obtain ⟨b, o, rfl, hb, hc⟩ := h j u hu
  exact ⟨b, o, rfl, Nat.lt_of_lt_of_le hb ho.size, (ho.cell (p := ⟨b, o + j, none⟩) hb).trans hc⟩
theorem Sl.drewN {w : World} {A : Option Addr} {xs : List Value} (h : Sl w A xs) (n : Nat) : Sl (w.drewN n) A xs := h
theorem Sl.of_own {w : World} {base : Nat} {e : TypeId} {n n' c : Nat} {A : Option Addr} {xs : List Value} (h : w.ownsRow base e 1 (.slice A n' c) n xs) : Sl w A xs := by
  intro j u hu
  have hj : j < xs.length := (List.getElem?_eq_some_iff.1 hu).1
  have hl := h.1
  obtain ⟨g, cap, hv, _, hlt⟩ := h.form (by omega)
  injection hv with hA
  subst hA
  refine ⟨g, 0, rfl, hlt, ?_⟩
  have h1 := h.cells (g := g) rfl j u hu
  have e : (⟨g, 0, none⟩ : Addr).add j = ⟨g, 0 + j, none⟩ := by
    unfold Addr.add
    by_cases h0 : j = 0 <;> simp [h0]
  rw [e] at h1
  exact h1

/-- A row of the call's own as a slice's parts. -/
theorem own_slice {w : World} {base : Nat} {e : TypeId} {n : Nat} {v : Value} {xs : List Value} (h : w.ownsRow base e 1 v n xs) :
    ∃ (A : Option Addr) (c : Nat), v = .slice A n c ∧ n ≤ c ∧ c ≤ maxLen ∧ n = xs.length ∧ Sl w A xs ∧ ∀ a, A = some a → base ≤ a.block ∧ v.ownBlock = some a.block := by
  have h0 := h
  obtain ⟨h1, h2⟩ := h
  rcases h2 with ⟨rfl, rfl⟩ | ⟨g, cap, cur, rfl, hb, hh, hc, hm, r⟩
  · exact ⟨none, 0, rfl, Nat.le_refl _, Nat.zero_le _, by omega, Sl.of_own h0, fun a ha => by cases ha⟩
  · exact ⟨some ⟨g, 0, none⟩, cap, rfl, hc, hm, by omega, Sl.of_own h0, fun a ha => by cases ha; exact ⟨hb, rfl⟩⟩

end Go.Proofs.YtkkgiajjdcpicaaGreatDoor

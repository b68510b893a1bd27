/- Values of api.Tlv as trees, and how a tree lies in memory. -/
import Derived.Test.YtipphdadibdifaaWords
namespace Go.Proofs.Ytipphdadibdifaa
open Go.RowKit

/-- A value: class, made of values?, tag, bytes, the values within. -/
inductive Tl where
  | mk (cls : Int) (cons : Bool) (tag : Int) (body : ByteArray) (kids : List Tl)

mutual
/-- These five cells are the tree, whose rows lie in blocks of S. -/
def TlAt (w : World) (S : Nat → Prop) : Tl → Array Value → Prop
  | .mk c k t b ks, cs => ∃ (A : Option Addr) (cap : Nat), cs = #[.int .i64 c, .bool k, .int .i64 t, .string b, .slice A ks.length cap] ∧ ks.length ≤ maxLen ∧ (Lit.int .i64 c).wf = true ∧ (Lit.int .i64 t).wf = true ∧ b.size ≤ maxLen ∧ KsAt w S ks A 0
/-- From place j on there lie these trees. -/
def KsAt (w : World) (S : Nat → Prop) : List Tl → Option Addr → Nat → Prop
  | [], _, _ => True
  | k :: ks, A, j => (∃ (b o : Nat) (c0 c1 c2 c3 c4 : Value), A = some ⟨b, o, none⟩ ∧ (S b ∧ b < w.heap.size) ∧ w.cell? ⟨b, o + j * 5, none⟩ = some c0 ∧ w.cell? ⟨b, o + j * 5 + 1, none⟩ = some c1 ∧ w.cell? ⟨b, o + j * 5 + 2, none⟩ = some c2 ∧
      w.cell? ⟨b, o + j * 5 + 3, none⟩ = some c3 ∧ w.cell? ⟨b, o + j * 5 + 4, none⟩ = some c4 ∧ TlAt w S k #[c0, c1, c2, c3, c4]) ∧ KsAt w S ks A (j + 1)
end

mutual
/-- how deep a tree is. -/
def Tl.rank : Tl → Nat
  | .mk _ _ _ _ ks => Tl.ranks ks + 1
def Tl.ranks : List Tl → Nat
  | [] => 0
  | k :: ks => max k.rank (Tl.ranks ks)
end

theorem Tl.rank_mem {k : Tl} : ∀ {ks : List Tl}, k ∈ ks → k.rank ≤ Tl.ranks ks
  | [], h => by cases h
  | x :: ks, h => by
    rcases List.mem_cons.1 h with rfl | h
    · simp only [Tl.ranks]; omega
    · have := Tl.rank_mem h; simp only [Tl.ranks]; omega

mutual
/-- What keeps the blocks of S keeps the tree; it lies in T, too, where S is within T. -/
theorem TlAt.keep {w w' : World} {S T : Nat → Prop} (hs : w.heap.size ≤ w'.heap.size) (hk : ∀ b, S b → b < w.heap.size → w'.heap[b]? = w.heap[b]?) (hT : ∀ b, S b → b < w.heap.size → T b) : ∀ (t : Tl) (cs : Array Value), TlAt w S t cs → TlAt w' T t cs
  | .mk c k t b ks, cs, h => by
    unfold TlAt at h ⊢
    obtain ⟨A, cap, h1, h2, h3, h4, h5, h6⟩ := h
    exact ⟨A, cap, h1, h2, h3, h4, h5, KsAt.keep hs hk hT ks A 0 h6⟩
theorem KsAt.keep {w w' : World} {S T : Nat → Prop} (hs : w.heap.size ≤ w'.heap.size) (hk : ∀ b, S b → b < w.heap.size → w'.heap[b]? = w.heap[b]?) (hT : ∀ b, S b → b < w.heap.size → T b) : ∀ (ks : List Tl) (A : Option Addr) (j : Nat), KsAt w S ks A j → KsAt w' T ks A j
  | [], _, _, _ => by unfold KsAt; trivial
  | k :: ks, A, j, h => by
    unfold KsAt at h ⊢
    obtain ⟨⟨b, o, c0, c1, c2, c3, c4, hA, hlt, q0, q1, q2, q3, q4, ht⟩, hr⟩ := h
    have hc : ∀ o', w'.cell? ⟨b, o', none⟩ = w.cell? ⟨b, o', none⟩ := fun o' => World.cell?_of_block (a := ⟨b, o', none⟩) (hk b hlt.1 hlt.2)
    exact ⟨⟨b, o, c0, c1, c2, c3, c4, hA, ⟨hT b hlt.1 hlt.2, Nat.lt_of_lt_of_le hlt.2 hs⟩, (hc _).trans q0, (hc _).trans q1, (hc _).trans q2, (hc _).trans q3, (hc _).trans q4, TlAt.keep hs hk hT k _ ht⟩, KsAt.keep hs hk hT ks A (j + 1) hr⟩
end

theorem TlAt.below {w w' : World} {S : Nat → Prop} (hb : Below w.heap.size w w') (t : Tl) (cs : Array Value) (h : TlAt w S t cs) : TlAt w' S t cs :=
  TlAt.keep hb.size (fun b _ hlt => hb.block b hlt) (fun _ h _ => h) t cs h
theorem KsAt.below {w w' : World} {S : Nat → Prop} (hb : Below w.heap.size w w') (ks : List Tl) (A : Option Addr) (j : Nat) (h : KsAt w S ks A j) : KsAt w' S ks A j :=
  KsAt.keep hb.size (fun b _ hlt => hb.block b hlt) (fun _ h _ => h) ks A j h

/-- The tree at a place. -/
theorem KsAt.get {w : World} {S : Nat → Prop} : ∀ {ks : List Tl} {A : Option Addr} {j : Nat}, KsAt w S ks A j → ∀ (i : Nat) (h : i < ks.length), ∃ (b o : Nat) (c0 c1 c2 c3 c4 : Value), A = some ⟨b, o, none⟩ ∧ (S b ∧ b < w.heap.size) ∧
    w.cell? ⟨b, o + (j + i) * 5, none⟩ = some c0 ∧ w.cell? ⟨b, o + (j + i) * 5 + 1, none⟩ = some c1 ∧ w.cell? ⟨b, o + (j + i) * 5 + 2, none⟩ = some c2 ∧ w.cell? ⟨b, o + (j + i) * 5 + 3, none⟩ = some c3 ∧ w.cell? ⟨b, o + (j + i) * 5 + 4, none⟩ = some c4 ∧
    TlAt w S ks[i] #[c0, c1, c2, c3, c4]
  | [], _, _, _, _, h => by simp at h
  | k :: ks, A, j, hk, i, h => by
    unfold KsAt at hk
    obtain ⟨h0, hr⟩ := hk
    cases i with
    | zero => simpa using h0
    | succ i =>
      have := KsAt.get hr i (by simpa using h)
      rw [show j + 1 + i = j + (i + 1) by omega] at this
      simpa using this

end Go.Proofs.Ytipphdadibdifaa

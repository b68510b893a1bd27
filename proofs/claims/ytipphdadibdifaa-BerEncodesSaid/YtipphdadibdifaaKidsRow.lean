/- A row of trees of the call's own, grown tree by tree. -/
import Derived.Test.YtipphdadibdifaaTree
import Derived.Test.YtipphdadibdifaaBerNumbers
namespace Go.Proofs.Ytipphdadibdifaa
open Go.RowKit

/-- v is a row of the call's own that holds the trees ks; what lies within them lies in other blocks from B on. -/
def KRow (w : World) (B : Nat) (v : Value) (ks : List Tl) : Prop :=
  ∃ xs : List Value, w.ownsRow B 44 5 v ks.length xs ∧ ∀ (i : Nat) (h : i < ks.length), ∃ c0 c1 c2 c3 c4 : Value, xs[i * 5]? = some c0 ∧ xs[i * 5 + 1]? = some c1 ∧ xs[i * 5 + 2]? = some c2 ∧ xs[i * 5 + 3]? = some c3 ∧ xs[i * 5 + 4]? = some c4 ∧
    TlAt w (fun b => B ≤ b ∧ v.ownBlock ≠ some b) ks[i] #[c0, c1, c2, c3, c4]

theorem KRow.nil (w : World) (B : Nat) : KRow w B (.slice none 0 0) [] := ⟨[], World.ownsRow_nil _ _ _ _, fun i h => by simp at h⟩

theorem KRow.keep {w w' : World} {B : Nat} {v : Value} {ks : List Tl} (h : KRow w B v ks) (hs : w.heap.size ≤ w'.heap.size) (hk : ∀ b, B ≤ b → b < w.heap.size → w'.heap[b]? = w.heap[b]?) : KRow w' B v ks := by
  obtain ⟨xs, h1, h2⟩ := h
  refine ⟨xs, ?_, fun i hi => ?_⟩
  · obtain ⟨a1, a2⟩ := h1
    refine ⟨a1, ?_⟩
    rcases a2 with a2 | ⟨g, cap, cur, rfl, hb, hh, r⟩
    · exact Or.inl a2
    · exact Or.inr ⟨g, cap, cur, rfl, hb, (hk g hb (lt_of_block hh)).trans hh, r⟩
  · obtain ⟨c0, c1, c2, c3, c4, q0, q1, q2, q3, q4, ht⟩ := h2 i hi
    exact ⟨c0, c1, c2, c3, c4, q0, q1, q2, q3, q4, TlAt.keep hs (fun b hb hlt => hk b hb.1 hlt) (fun _ h _ => h) _ _ ht⟩

theorem KRow.below {w w' : World} {B : Nat} {v : Value} {ks : List Tl} (h : KRow w B v ks) (hb : Below w.heap.size w w') : KRow w' B v ks := h.keep hb.size (fun b _ hlt => hb.block b hlt)

theorem KRow.lt {w : World} {B : Nat} {v : Value} {ks : List Tl} (h : KRow w B v ks) : ∀ g, v.ownBlock = some g → B ≤ g ∧ g < w.heap.size := by
  obtain ⟨xs, h1, _⟩ := h
  exact h1.lt

theorem KRow.push {w w1 w2 w3 : World} {B : Nat} {v v' : Value} {ks : List Tl} {t : Tl} {c0 c1 c2 c3 c4 : Value} {xs : List Value} (hB : B ≤ w.heap.size)
    (hown : w.ownsRow B 44 5 v ks.length xs)
    (hall : ∀ (i : Nat) (h : i < ks.length), ∃ c0 c1 c2 c3 c4 : Value, xs[i * 5]? = some c0 ∧ xs[i * 5 + 1]? = some c1 ∧ xs[i * 5 + 2]? = some c2 ∧ xs[i * 5 + 3]? = some c3 ∧ xs[i * 5 + 4]? = some c4 ∧ TlAt w (fun b => B ≤ b ∧ v.ownBlock ≠ some b) ks[i] #[c0, c1, c2, c3, c4])
    (h1 : Below w.heap.size w w1) (ht : TlAt w1 (fun b => w.heap.size ≤ b) t #[c0, c1, c2, c3, c4]) (h2 : Below w1.heap.size w1 w2)
    (hown3 : w3.ownsRow B 44 5 v' (ks.length + 1) (xs ++ [c0, c1, c2, c3, c4])) (hgr : w2.grownBy w3 v.ownBlock) (hat : v'.ownBlock = v.ownBlock ∨ v'.ownBlock = some w2.heap.size) :
    KRow w3 B v' (ks ++ [t]) := by
  have s1 := h1.size
  have s2 := h2.size
  have s3 := hgr.size
  have hvlt := hown.lt
  have hl : xs.length = ks.length * 5 := hown.1
  have hne : ∀ b, b < w2.heap.size → v.ownBlock ≠ some b → v'.ownBlock ≠ some b := by
    intro b hb hn e
    rcases hat with h | h
    · exact hn (h ▸ e)
    · rw [h] at e; injection e with e; omega
  refine ⟨xs ++ [c0, c1, c2, c3, c4], by rw [List.length_append]; exact hown3, fun i hi => ?_⟩
  rw [List.length_append, List.length_singleton] at hi
  by_cases hlt : i < ks.length
  · obtain ⟨d0, d1, d2, d3, d4, q0, q1, q2, q3, q4, hti⟩ := hall i hlt
    have e : (ks ++ [t])[i]'(by simp; omega) = ks[i] := List.getElem_append_left hlt
    rw [e]
    refine ⟨d0, d1, d2, d3, d4, ?_, ?_, ?_, ?_, ?_, TlAt.keep (by omega) (fun b hb hbl => ?_) (fun b hb hbl => ⟨hb.1, hne b (by omega) hb.2⟩) _ _ hti⟩
    · rw [List.getElem?_append_left (by omega)]; exact q0
    · rw [List.getElem?_append_left (by omega)]; exact q1
    · rw [List.getElem?_append_left (by omega)]; exact q2
    · rw [List.getElem?_append_left (by omega)]; exact q3
    · rw [List.getElem?_append_left (by omega)]; exact q4
    · exact (hgr.block b (by omega) (fun e => hb.2 e.symm)).trans ((h2.block b (by omega)).trans (h1.block b hbl))
  · obtain rfl : i = ks.length := by omega
    have e : (ks ++ [t])[ks.length]'(by simp) = t := by simp
    rw [e]
    have hg : ∀ j, j < 5 → (xs ++ [c0, c1, c2, c3, c4])[ks.length * 5 + j]? = [c0, c1, c2, c3, c4][j]? := by
      intro j hj
      rw [List.getElem?_append_right (by omega)]
      congr 1
      omega
    refine ⟨c0, c1, c2, c3, c4, hg 0 (by omega), hg 1 (by omega), hg 2 (by omega), hg 3 (by omega), hg 4 (by omega), TlAt.keep (by omega) (fun b hb hbl => ?_) (fun b hb hbl => ⟨by omega, hne b (by omega) (fun e => by have := (hvlt b e).2; omega)⟩) _ _ ht⟩
    exact (hgr.block b (by omega) (fun e => by have := (hvlt b e.symm).2; omega)).trans (h2.block b hbl)

theorem KRow.kids {w : World} {B : Nat} {v : Value} {ks : List Tl} (h : KRow w B v ks) : ∃ (A : Option Addr) (cap : Nat), v = .slice A ks.length cap ∧ ks.length ≤ maxLen ∧ KsAt w (fun b => B ≤ b) ks A 0 := by
  obtain ⟨xs, h1, h2⟩ := h
  obtain ⟨hl, hr⟩ := h1
  rcases hr with ⟨rfl, hn⟩ | ⟨g, cap, cur, rfl, hb, hh, hc, hm, hcs, htk⟩
  · obtain rfl : ks = [] := List.eq_nil_of_length_eq_zero hn
    exact ⟨none, 0, rfl, Nat.zero_le _, by unfold KsAt; trivial⟩
  · refine ⟨some ⟨g, 0, none⟩, cap, rfl, by omega, ?_⟩
    have hcell : ∀ j u, xs[j]? = some u → w.cell? ⟨g, j, none⟩ = some u := by
      intro j u hu
      rw [cell_of_row w g j cur _ (0, 0) hh]
      have hj : j < xs.length := (List.getElem?_eq_some_iff.1 hu).1
      rw [← htk, List.getElem?_take_of_lt (by omega)] at hu
      rw [← Array.getElem?_toList]
      exact hu
    have hglt := lt_of_block hh
    have key : ∀ (n i : Nat), i + n = ks.length → KsAt w (fun b => B ≤ b) (ks.drop i) (some ⟨g, 0, none⟩) i := by
      intro n
      induction n with
      | zero => intro i hi; rw [List.drop_eq_nil_of_le (by omega)]; unfold KsAt; trivial
      | succ n ih =>
        intro i hi
        rw [List.drop_eq_getElem_cons (by omega)]
        unfold KsAt
        obtain ⟨c0, c1, c2, c3, c4, q0, q1, q2, q3, q4, ht⟩ := h2 i (by omega)
        refine ⟨⟨g, 0, c0, c1, c2, c3, c4, rfl, ⟨hb, hglt⟩, ?_, ?_, ?_, ?_, ?_, TlAt.keep (Nat.le_refl _) (fun _ _ _ => rfl) (fun _ h _ => h.1) _ _ ht⟩, ih (i + 1) (by omega)⟩
        · rw [Nat.zero_add]; exact hcell _ _ q0
        · rw [Nat.zero_add]; exact hcell _ _ q1
        · rw [Nat.zero_add]; exact hcell _ _ q2
        · rw [Nat.zero_add]; exact hcell _ _ q3
        · rw [Nat.zero_add]; exact hcell _ _ q4
    have := key ks.length 0 (by omega)
    rwa [List.drop_zero] at this

end Go.Proofs.Ytipphdadibdifaa

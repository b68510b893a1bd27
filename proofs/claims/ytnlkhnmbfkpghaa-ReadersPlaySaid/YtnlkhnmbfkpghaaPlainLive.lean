/- Plain Lean: sorted lists of versions; the least one. -/
import Derived.Test.YtnlkhnmbfkpghaaLive
namespace Go.Proofs.Ytnlkhnmbfkpghaa
open Go.RowKit
open Go.PlainAid

theorem srt_perm (l : List Int) : (srt l).Perm l := List.mergeSort_perm l _
theorem srt_pair (l : List Int) : (srt l).Pairwise (fun x y => x ≤ y) := by
  have h := List.pairwise_mergeSort (le := fun x y : Int => decide (x ≤ y)) (fun a b c => by simp; omega) (fun a b => by simp; omega) l
  unfold srt
  exact h.imp (fun h => by simpa using h)

/-- The least of a number and of a list. -/
def least (now : Int) : List Int → Int
  | [] => now
  | x :: l => min x (least now l)
theorem least_le (now : Int) (l : List Int) : least now l ≤ now ∧ (∀ x ∈ l, least now l ≤ x) ∧ (least now l = now ∨ least now l ∈ l) := by
  induction l with
  | nil => simp [least]
  | cons x l ih =>
    obtain ⟨h1, h2, h3⟩ := ih
    unfold least
    refine ⟨by omega, ?_, ?_⟩
    · intro y hy
      rcases List.mem_cons.1 hy with rfl | hy
      · omega
      · have := h2 y hy; omega
    · by_cases h : x ≤ least now l
      · right; rw [Int.min_eq_left h]; simp
      · rw [Int.min_eq_right (by omega)]
        rcases h3 with h3 | h3
        · exact .inl h3
        · exact .inr (by simp [h3])
theorem least_uniq {now m : Int} {l : List Int} (h1 : m ≤ now) (h2 : ∀ x ∈ l, m ≤ x) (h3 : m = now ∨ m ∈ l) : m = least now l := by
  obtain ⟨k1, k2, k3⟩ := least_le now l
  have a : least now l ≤ m := by
    rcases h3 with h3 | h3
    · omega
    · exact k2 m h3
  have b : m ≤ least now l := by
    rcases k3 with k3 | k3
    · omega
    · exact h2 _ k3
  omega
theorem oldestOf_least (l : List Int) (now : Int) : oldestOf (srt l) now = least now l := by
  have hp := srt_perm l
  have hs := srt_pair l
  refine least_uniq ?_ ?_ ?_
  · cases h : srt l with
    | nil => simp [oldestOf]
    | cons x r => simp [oldestOf]; omega
  · intro y hy
    have hy2 := hp.mem_iff.2 hy
    cases h : srt l with
    | nil => rw [h] at hy2; cases hy2
    | cons x r =>
      rw [h] at hy2 hs
      have : x ≤ y := by
        rcases List.mem_cons.1 hy2 with rfl | hy3
        · exact Int.le_refl _
        · exact (List.pairwise_cons.1 hs).1 y hy3
      simp only [oldestOf]
      omega
  · cases h : srt l with
    | nil => exact .inl rfl
    | cons x r =>
      simp only [oldestOf]
      by_cases hx : now ≤ x
      · exact .inl (by omega)
      · right
        rw [Int.min_eq_right (by omega)]
        exact hp.mem_iff.1 (by rw [h]; simp)
theorem St.oldest_eq (s : St) (now : Int) : s.oldest now = least now s.live := oldestOf_least _ _
end Go.Proofs.Ytnlkhnmbfkpghaa

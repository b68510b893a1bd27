/- Plain Lean: a stream that comes in two pieces. -/
import Derived.Test.YtipphdadibdifaaPlainFrame
namespace Go.Proofs.Ytipphdadibdifaa
namespace PB

theorem byByte_cons (a t : List UInt8) (c : UInt8) : byByte a (c :: t) = if good (a ++ [c]) = false then ([], [], true) else
    if whole (a ++ [c]) = true then ((a ++ [c]) :: (byByte [] t).1, (byByte [] t).2) else byByte (a ++ [c]) t := by rw [byByte]

theorem byByte_more : ∀ (p a q : List UInt8), (byByte a p).2.2 = false → byByte a (p ++ q) = ((byByte a p).1 ++ (byByte (byByte a p).2.1 q).1, (byByte (byByte a p).2.1 q).2) := by
  intro p
  induction p with
  | nil => intro a q _; simp [byByte]
  | cons c t ih =>
    intro a q h
    rw [List.cons_append]
    rw [byByte_cons a t c] at h ⊢
    rw [byByte_cons a (t ++ q) c]
    by_cases h1 : good (a ++ [c]) = false
    · rw [if_pos h1] at h; exact absurd h (by simp)
    rw [if_neg h1] at h
    rw [if_neg h1, if_neg h1]
    by_cases h2 : whole (a ++ [c]) = true
    · rw [if_pos h2] at h
      rw [if_pos h2, if_pos h2, ih [] q h]
      simp
    · rw [if_neg h2] at h
      rw [if_neg h2, if_neg h2, ih _ q h]

theorem byByte_stop : ∀ (p a q : List UInt8), (byByte a p).2.2 = true → byByte a (p ++ q) = byByte a p := by
  intro p
  induction p with
  | nil => intro a q h; simp [byByte] at h
  | cons c t ih =>
    intro a q h
    rw [List.cons_append]
    rw [byByte_cons a t c] at h ⊢
    rw [byByte_cons a (t ++ q) c]
    by_cases h1 : good (a ++ [c]) = false
    · rw [if_pos h1, if_pos h1]
    rw [if_neg h1] at h
    rw [if_neg h1, if_neg h1]
    by_cases h2 : whole (a ++ [c]) = true
    · rw [if_pos h2] at h
      rw [if_pos h2, if_pos h2, ih [] q h]
    · rw [if_neg h2] at h
      rw [if_neg h2, if_neg h2, ih _ q h]

end PB
end Go.Proofs.Ytipphdadibdifaa

/- Plain Lean: the value of bytes, as a tree, or what is amiss. -/
import Derived.Test.YtipphdadibdifaaTree
import Derived.Test.YtipphdadibdifaaPlainFrame
namespace Go.Proofs.Ytipphdadibdifaa
namespace PB

/-- how many bytes the first value says that it has. -/
def span (l : List UInt8) : Nat := (head l).1 + (head l).2.1

/-- The values that stand one behind the other; f reads one, none: it is too deep. -/
def kidsOf (f : Option (List UInt8 → Except Nat Tl)) : Nat → List UInt8 → Except Nat (List Tl)
  | 0, _ => .ok []
  | fu + 1, l =>
    if l = [] then .ok [] else
    match f with
    | none => .error 13
    | some g =>
      if (head l).2.2 ≠ 0 ∨ l.length < span l then .error 4 else
      match g (l.take (span l)) with
      | .error e => .error e
      | .ok t => match kidsOf (some g) fu (l.drop (span l)) with
        | .error e => .error e
        | .ok ts => .ok (t :: ts)

/-- The value of just these bytes. -/
def valOf (f : Option (List UInt8 → Except Nat Tl)) (l : List UInt8) : Except Nat Tl :=
  if (head l).2.2 ≠ 0 ∨ span l ≠ l.length then .error 4 else
  if byt l 0 / 32 % 2 = 0 then .ok (.mk (byt l 0 / 64 : Nat) false (byt l 0 % 32 : Nat) ⟨(l.drop (head l).1).toArray⟩ []) else
  match kidsOf f l.length (l.drop (head l).1) with
  | .error e => .error e
  | .ok ts => .ok (.mk (byt l 0 / 64 : Nat) true (byt l 0 % 32 : Nat) ByteArray.empty ts)

/-- .. with so many levels to go. -/
def val : Nat → List UInt8 → Except Nat Tl
  | 0 => valOf none
  | k + 1 => valOf (some (val k))

/-- the reader of the values within. -/
def sub : Nat → Option (List UInt8 → Except Nat Tl)
  | 0 => none
  | k + 1 => some (val k)

theorem val_eq (k : Nat) : val k = valOf (sub k) := by cases k <;> rfl

/-- A list in front of what is to come. -/
def pre (a : List Tl) : Except Nat (List Tl) → Except Nat (List Tl)
  | .error e => .error e
  | .ok ts => .ok (a ++ ts)

theorem pre_nil (r : Except Nat (List Tl)) : pre [] r = r := by cases r <;> rfl
theorem pre_pre (a b : List Tl) (r : Except Nat (List Tl)) : pre a (pre b r) = pre (a ++ b) r := by cases r <;> simp [pre]

theorem span_pos (l : List UInt8) (h : (head l).2.2 = 0) : 2 ≤ span l := by
  have := (head_fits l h).1
  unfold span
  omega

theorem kidsOf_fuel (g : Option (List UInt8 → Except Nat Tl)) : ∀ (f f' : Nat) (l : List UInt8), l.length ≤ f → l.length ≤ f' → kidsOf g f l = kidsOf g f' l := by
  intro f
  induction f with
  | zero =>
    intro f' l hf hf'
    obtain rfl : l = [] := List.eq_nil_of_length_eq_zero (by omega)
    cases f' <;> simp [kidsOf]
  | succ f ih =>
    intro f' l hf hf'
    cases f' with
    | zero =>
      obtain rfl : l = [] := List.eq_nil_of_length_eq_zero (by omega)
      simp [kidsOf]
    | succ f' =>
      unfold kidsOf
      by_cases h0 : l = []
      · rw [if_pos h0, if_pos h0]
      rw [if_neg h0, if_neg h0]
      cases g with
      | none => rfl
      | some g =>
        dsimp only
        by_cases h1 : (head l).2.2 ≠ 0 ∨ l.length < span l
        · rw [if_pos h1, if_pos h1]
        rw [if_neg h1, if_neg h1]
        have hp := span_pos l (by omega)
        have e := ih f' (l.drop (span l)) (by rw [List.length_drop]; omega) (by rw [List.length_drop]; omega)
        rw [e]

theorem kidsOf_nil (g : Option (List UInt8 → Except Nat Tl)) (f : Nat) : kidsOf g f [] = .ok [] := by cases f <;> simp [kidsOf]

theorem kidsOf_deep (f : Nat) (l : List UInt8) (h0 : 0 < l.length) (hf : l.length ≤ f) : kidsOf none f l = .error 13 := by
  obtain ⟨m, rfl⟩ : ∃ m, f = m + 1 := ⟨f - 1, by omega⟩
  unfold kidsOf
  rw [if_neg (by intro e; subst e; simp at h0)]

theorem kidsOf_form (g : List UInt8 → Except Nat Tl) (f : Nat) (l : List UInt8) (h0 : 0 < l.length) (hf : l.length ≤ f) (hb : (head l).2.2 ≠ 0 ∨ l.length < span l) : kidsOf (some g) f l = .error 4 := by
  obtain ⟨m, rfl⟩ : ∃ m, f = m + 1 := ⟨f - 1, by omega⟩
  unfold kidsOf
  rw [if_neg (by intro e; subst e; simp at h0)]
  dsimp only
  rw [if_pos hb]

theorem kidsOf_err (g : List UInt8 → Except Nat Tl) (f : Nat) (l : List UInt8) (e : Nat) (h0 : 0 < l.length) (hf : l.length ≤ f) (hb : ¬ ((head l).2.2 ≠ 0 ∨ l.length < span l)) (hg : g (l.take (span l)) = .error e) : kidsOf (some g) f l = .error e := by
  obtain ⟨m, rfl⟩ : ∃ m, f = m + 1 := ⟨f - 1, by omega⟩
  unfold kidsOf
  rw [if_neg (by intro e; subst e; simp at h0)]
  dsimp only
  rw [if_neg hb, hg]

theorem kidsOf_next (g : List UInt8 → Except Nat Tl) (f : Nat) (l : List UInt8) (t : Tl) (h0 : 0 < l.length) (hf : l.length ≤ f) (hb : ¬ ((head l).2.2 ≠ 0 ∨ l.length < span l)) (hg : g (l.take (span l)) = .ok t) :
    kidsOf (some g) f l = pre [t] (kidsOf (some g) f (l.drop (span l))) := by
  obtain ⟨m, rfl⟩ : ∃ m, f = m + 1 := ⟨f - 1, by omega⟩
  have hp := span_pos l (by omega)
  have e := kidsOf_fuel (some g) (m + 1) m (l.drop (span l)) (by rw [List.length_drop]; omega) (by rw [List.length_drop]; omega)
  rw [e]
  conv => lhs; unfold kidsOf
  rw [if_neg (by intro e; subst e; simp at h0)]
  dsimp only
  rw [if_neg hb, hg]
  dsimp only
  cases kidsOf (some g) m (l.drop (span l)) <;> rfl

end PB
end Go.Proofs.Ytipphdadibdifaa

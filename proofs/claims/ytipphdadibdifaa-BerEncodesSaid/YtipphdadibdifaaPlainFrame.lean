/- Plain Lean, no program: a stream of values, cut at once or byte by byte: the same values are told. -/
import Derived.Test.YtipphdadibdifaaPlainBer
namespace Go.Proofs.Ytipphdadibdifaa
namespace PB

theorem byt_app (a t : List UInt8) (k : Nat) (h : k < a.length) : byt (a ++ t) k = byt a k := by
  unfold byt
  rw [List.getD_eq_getElem?_getD, List.getD_eq_getElem?_getD, List.getElem?_append_left h]

/-- What is told of a beginning, but that it is too short, is told of the whole. -/
theorem head_app (a t : List UInt8) (h : (head a).2.2 ≠ 3) : head (a ++ t) = head a := by
  unfold head at h ⊢
  by_cases h0 : a.length = 0
  · rw [if_pos h0] at h; exact absurd rfl h
  have h0' : ¬ (a ++ t).length = 0 := by rw [List.length_append]; omega
  rw [if_neg h0] at h ⊢
  rw [if_neg h0', byt_app a t 0 (by omega)]
  by_cases h1 : byt a 0 % 32 = 31
  · rw [if_pos h1, if_pos h1]
  rw [if_neg h1] at h ⊢
  rw [if_neg h1]
  by_cases h2 : a.length < 2
  · rw [if_pos h2] at h; exact absurd rfl h
  have h2' : ¬ (a ++ t).length < 2 := by rw [List.length_append]; omega
  rw [if_neg h2] at h ⊢
  rw [if_neg h2', byt_app a t 1 (by omega)]
  by_cases h3 : byt a 1 < 128
  · rw [if_pos h3, if_pos h3]
  rw [if_neg h3] at h ⊢
  rw [if_neg h3]
  by_cases h4 : byt a 1 = 128 ∨ 132 < byt a 1
  · rw [if_pos h4, if_pos h4]
  rw [if_neg h4] at h ⊢
  rw [if_neg h4]
  by_cases h5 : a.length < 2 + (byt a 1 - 128)
  · rw [if_pos h5] at h; exact absurd rfl h
  have h5' : ¬ (a ++ t).length < 2 + (byt a 1 - 128) := by rw [List.length_append]; omega
  rw [if_neg h5, if_neg h5', List.drop_append_of_le_length (by omega), List.take_append_of_le_length (by rw [List.length_drop]; omega)]

/-- A head that is told right has its bytes. -/
theorem head_fits (a : List UInt8) (h : (head a).2.2 = 0) : 2 ≤ (head a).1 ∧ (head a).1 ≤ a.length := by
  unfold head at h ⊢
  by_cases h0 : a.length = 0
  · rw [if_pos h0] at h; exact absurd h (by decide)
  rw [if_neg h0] at h ⊢
  by_cases h1 : byt a 0 % 32 = 31
  · rw [if_pos h1] at h; exact absurd h (by decide)
  rw [if_neg h1] at h ⊢
  by_cases h2 : a.length < 2
  · rw [if_pos h2] at h; exact absurd h (by decide)
  rw [if_neg h2] at h ⊢
  by_cases h3 : byt a 1 < 128
  · rw [if_pos h3]; exact ⟨Nat.le_refl _, by simp only; omega⟩
  rw [if_neg h3] at h ⊢
  by_cases h4 : byt a 1 = 128 ∨ 132 < byt a 1
  · rw [if_pos h4] at h; exact absurd h (by decide)
  rw [if_neg h4] at h ⊢
  by_cases h5 : a.length < 2 + (byt a 1 - 128)
  · rw [if_pos h5] at h; exact absurd h (by decide)
  rw [if_neg h5]
  exact ⟨by simp only; omega, by simp only; omega⟩

/-- A head that is too short is of fewer than six bytes. -/
theorem head_short (a : List UInt8) (h : (head a).2.2 = 3) : a.length < 6 := by
  have hb := byt_lt a 1
  unfold head at h
  by_cases h2 : a.length < 2
  · omega
  by_cases h5 : a.length < 2 + (byt a 1 - 128) ∧ byt a 1 ≤ 132
  · omega
  rw [if_neg (by omega)] at h
  by_cases h1 : byt a 0 % 32 = 31
  · rw [if_pos h1] at h; exact absurd h (by decide)
  rw [if_neg h1, if_neg h2] at h
  by_cases h3 : byt a 1 < 128
  · rw [if_pos h3] at h; exact absurd h (by simp)
  rw [if_neg h3] at h
  by_cases h4 : byt a 1 = 128 ∨ 132 < byt a 1
  · rw [if_pos h4] at h; exact absurd h (by decide)
  rw [if_neg h4, if_neg (by omega)] at h
  exact absurd h (by simp)

/-- One byte more than too few: the head is no shorter than that. -/
theorem head_last (a : List UInt8) (c : UInt8) (h : (head a).2.2 = 3) (h' : (head (a ++ [c])).2.2 = 0) : a.length + 1 ≤ (head (a ++ [c])).1 := by
  rcases Nat.lt_or_ge a.length 2 with hl | hl
  · have := (head_fits _ h').1; omega
  have b1 : byt (a ++ [c]) 1 = byt a 1 := byt_app a [c] 1 (by omega)
  have b0 : byt (a ++ [c]) 0 = byt a 0 := byt_app a [c] 0 (by omega)
  have hlen : (a ++ [c]).length = a.length + 1 := by simp
  unfold head at h h' ⊢
  rw [b0, b1, hlen] at h' ⊢
  rw [if_neg (by omega)] at h h' ⊢
  by_cases h1 : byt a 0 % 32 = 31
  · rw [if_pos h1] at h; exact absurd h (by decide)
  rw [if_neg h1] at h h' ⊢
  rw [if_neg (by omega)] at h h' ⊢
  by_cases h3 : byt a 1 < 128
  · rw [if_pos h3] at h; exact absurd h (by simp)
  rw [if_neg h3] at h h' ⊢
  by_cases h4 : byt a 1 = 128 ∨ 132 < byt a 1
  · rw [if_pos h4] at h; exact absurd h (by decide)
  rw [if_neg h4] at h h' ⊢
  by_cases h5 : a.length < 2 + (byt a 1 - 128)
  · by_cases h6 : a.length + 1 < 2 + (byt a 1 - 128)
    · rw [if_pos h6] at h'; exact absurd h' (by decide)
    · rw [if_neg h6]; simp only; omega
  · rw [if_neg h5] at h; exact absurd h (by simp)

theorem total_app (a t : List UInt8) (h : (total a).2 ≠ 3) : total (a ++ t) = total a := by
  have h' : (head a).2.2 ≠ 3 := by
    intro e
    apply h
    unfold total
    rw [if_pos (by omega)]
    exact e
  unfold total
  rw [head_app a t h']

theorem total_ok (a : List UInt8) (h : (total a).2 = 0) : (head a).2.2 = 0 ∧ (total a).1 = (head a).1 + (head a).2.1 ∧ (total a).1 ≤ 8192 := by
  unfold total at h ⊢
  split at h
  · exact absurd h (by assumption)
  · rename_i h0
    split at h
    · exact absurd h (by decide)
    · rename_i h1
      rw [if_neg h0, if_neg h1]
      exact ⟨by omega, rfl, by simp only; omega⟩

theorem total_pos (a : List UInt8) (h : (total a).2 = 0) : 2 ≤ (total a).1 := by
  obtain ⟨h1, h2, _⟩ := total_ok a h
  have := (head_fits a h1).1
  omega

theorem total_nil : total [] = (0, 3) := rfl

theorem total_last (a : List UInt8) (c : UInt8) (h : (total a).2 = 3) (h' : (total (a ++ [c])).2 = 0) : a.length + 1 ≤ (total (a ++ [c])).1 := by
  obtain ⟨h1, h2, _⟩ := total_ok _ h'
  have h3 : (head a).2.2 = 3 := by
    unfold total at h
    split at h
    · exact h
    · split at h
      · exact absurd h (by decide)
      · exact absurd h (by simp)
  have := head_last a c h3 h1
  omega

/-- A value begins here that may be, or is not known yet. -/
def good (l : List UInt8) : Bool := byt l 0 == 48 && ((total l).2 == 0 || (total l).2 == 3)
/-- A value stands here whole. -/
def whole (l : List UInt8) : Bool := (total l).2 == 0 && decide ((total l).1 ≤ l.length)

/-- A stream cut at once: what is told, what is kept, is it broken? -/
def cut : Nat → List UInt8 → List (List UInt8) × List UInt8 × Bool
  | 0, l => ([], l, false)
  | f + 1, l =>
    if l = [] then ([], [], false) else
    if good l = false then ([], [], true) else
    if whole l = false then ([], l, false) else
    (l.take (total l).1 :: (cut f (l.drop (total l).1)).1, (cut f (l.drop (total l).1)).2)

theorem cut_fuel : ∀ (f g : Nat) (l : List UInt8), l.length ≤ f → l.length ≤ g → cut f l = cut g l := by
  intro f
  induction f with
  | zero =>
    intro g l hf hg
    obtain rfl : l = [] := List.eq_nil_of_length_eq_zero (by omega)
    cases g <;> simp [cut]
  | succ f ih =>
    intro g l hf hg
    cases g with
    | zero =>
      obtain rfl : l = [] := List.eq_nil_of_length_eq_zero (by omega)
      simp [cut]
    | succ g =>
      unfold cut
      by_cases h0 : l = []
      · rw [if_pos h0, if_pos h0]
      rw [if_neg h0, if_neg h0]
      by_cases h1 : good l = false
      · rw [if_pos h1, if_pos h1]
      rw [if_neg h1, if_neg h1]
      by_cases h2 : whole l = false
      · rw [if_pos h2, if_pos h2]
      rw [if_neg h2, if_neg h2]
      have ht : (total l).2 = 0 := by unfold whole at h2; simp at h2; exact h2.1
      have hp := total_pos l ht
      have e := ih g (l.drop (total l).1) (by rw [List.length_drop]; omega) (by rw [List.length_drop]; omega)
      rw [e]

/-- Byte by byte. -/
def byByte : List UInt8 → List UInt8 → List (List UInt8) × List UInt8 × Bool
  | a, [] => ([], a, false)
  | a, c :: t =>
    if good (a ++ [c]) = false then ([], [], true) else
    if whole (a ++ [c]) = true then ((a ++ [c]) :: (byByte [] t).1, (byByte [] t).2) else byByte (a ++ [c]) t

/-- Bytes at hand that are no whole value yet. -/
def Pend (a : List UInt8) : Prop := a = [] ∨ (good a = true ∧ whole a = false)

theorem good_app (a t : List UInt8) (h : a ≠ []) (hg : good a = false) : good (a ++ t) = false := by
  have hl : 0 < a.length := List.length_pos_iff.2 h
  unfold good at hg ⊢
  rw [byt_app a t 0 hl]
  by_cases h0 : byt a 0 = 48
  · have h3 : (total a).2 ≠ 3 := by intro e; simp [h0, e] at hg
    rw [total_app a t h3]; exact hg
  · simp [h0]

theorem whole_len (a : List UInt8) (c : UInt8) (hp : Pend a) (hw : whole (a ++ [c]) = true) : (total (a ++ [c])).1 = (a ++ [c]).length := by
  unfold whole at hw
  simp only [Bool.and_eq_true, beq_iff_eq, decide_eq_true_eq] at hw
  obtain ⟨h1, h2⟩ := hw
  have hl : (a ++ [c]).length = a.length + 1 := by simp
  rcases hp with rfl | ⟨hg, hn⟩
  · have := total_last [] c rfl h1
    simp at this h2 hl ⊢
    omega
  · unfold good at hg
    simp only [Bool.and_eq_true, Bool.or_eq_true, beq_iff_eq] at hg
    rcases hg.2 with h3 | h3
    · have e := total_app a [c] (by omega)
      rw [e] at h2 ⊢
      unfold whole at hn
      simp [h3] at hn
      omega
    · have := total_last a c h3 h1
      omega

/-- HOWEVER A STREAM COMES, THE SAME IS TOLD. -/
theorem byByte_cut : ∀ (s a : List UInt8), Pend a → byByte a s = cut (a ++ s).length (a ++ s) := by
  intro s
  induction s with
  | nil =>
    intro a hp
    rw [List.append_nil]
    unfold byByte
    rcases hp with rfl | ⟨hg, hw⟩
    · rfl
    · cases a with
      | nil => rfl
      | cons x a =>
        show _ = cut (a.length + 1) (x :: a)
        unfold cut
        rw [if_neg (by simp), if_neg (by simp [hg]), if_pos hw]
  | cons c t ih =>
    intro a hp
    have e : a ++ c :: t = (a ++ [c]) ++ t := by simp
    have hne : a ++ [c] ≠ [] := by simp
    have hl : 0 < (a ++ [c]).length := by simp
    rw [e]
    obtain ⟨m, hm⟩ : ∃ m, ((a ++ [c]) ++ t).length = m + 1 := ⟨a.length + t.length, by simp; omega⟩
    rw [hm]
    have hnil : ¬ (a ++ [c]) ++ t = [] := by simp
    unfold byByte
    by_cases h1 : good (a ++ [c]) = false
    · unfold cut
      rw [if_pos h1, if_neg hnil, if_pos (good_app _ t hne h1)]
    rw [if_neg h1]
    by_cases h2 : whole (a ++ [c]) = true
    · have hwl := whole_len a c hp h2
      have ht : (total (a ++ [c])).2 = 0 := by unfold whole at h2; simp at h2; exact h2.1
      have et := total_app (a ++ [c]) t (by omega)
      have hg : ¬ good ((a ++ [c]) ++ t) = false := by
        unfold good at h1 ⊢
        rw [et, byt_app _ t 0 hl]
        exact h1
      have hw : ¬ whole ((a ++ [c]) ++ t) = false := by
        unfold whole
        rw [et, hwl, ht]
        simp
      unfold cut
      rw [if_pos h2, if_neg hnil, if_neg hg, if_neg hw, et, hwl, List.take_left, List.drop_left, ih [] (Or.inl rfl), List.nil_append]
      have ef := cut_fuel t.length m t (Nat.le_refl _) (by rw [List.length_append] at hm; omega)
      rw [ef]
    · rw [if_neg h2, ih (a ++ [c]) (Or.inr ⟨by simpa using h1, by simpa using h2⟩), hm]

/-- What is kept is pending again. -/
theorem byByte_pend : ∀ (s a : List UInt8), Pend a → Pend (byByte a s).2.1 := by
  intro s
  induction s with
  | nil => intro a hp; exact hp
  | cons c t ih =>
    intro a hp
    unfold byByte
    by_cases h1 : good (a ++ [c]) = false
    · rw [if_pos h1]; exact Or.inl rfl
    rw [if_neg h1]
    by_cases h2 : whole (a ++ [c]) = true
    · rw [if_pos h2]; exact ih [] (Or.inl rfl)
    · rw [if_neg h2]; exact ih _ (Or.inr ⟨by simpa using h1, by simpa using h2⟩)

/-- A value that is not whole yet is shorter than the longest message. -/
theorem pend_len (a : List UInt8) (hp : Pend a) : a.length < 8192 := by
  rcases hp with rfl | ⟨hg, hw⟩
  · simp
  · unfold good at hg
    simp only [Bool.and_eq_true, Bool.or_eq_true, beq_iff_eq] at hg
    rcases hg.2 with h3 | h3
    · have h := (total_ok a h3).2.2
      unfold whole at hw
      simp [h3] at hw
      omega
    · have h4 : (head a).2.2 = 3 := by
        unfold total at h3
        split at h3
        · exact h3
        · split at h3
          · exact absurd h3 (by decide)
          · exact absurd h3 (by simp)
      have := head_short a h4
      omega

theorem cut_nil (f : Nat) : cut f [] = ([], [], false) := by cases f <;> simp [cut]

theorem cut_bad (f : Nat) (l : List UInt8) (h0 : 0 < l.length) (hf : l.length ≤ f) (hg : good l = false) : cut f l = ([], [], true) := by
  obtain ⟨m, rfl⟩ : ∃ m, f = m + 1 := ⟨f - 1, by omega⟩
  unfold cut
  rw [if_neg (by intro e; subst e; simp at h0), if_pos hg]

theorem cut_wait (f : Nat) (l : List UInt8) (h0 : 0 < l.length) (hf : l.length ≤ f) (hg : good l = true) (hw : whole l = false) : cut f l = ([], l, false) := by
  obtain ⟨m, rfl⟩ : ∃ m, f = m + 1 := ⟨f - 1, by omega⟩
  unfold cut
  rw [if_neg (by intro e; subst e; simp at h0), if_neg (by simp [hg]), if_pos hw]

theorem cut_next (f : Nat) (l : List UInt8) (h0 : 0 < l.length) (hf : l.length ≤ f) (hg : good l = true) (hw : whole l = true) :
    cut f l = (l.take (total l).1 :: (cut f (l.drop (total l).1)).1, (cut f (l.drop (total l).1)).2) := by
  obtain ⟨m, rfl⟩ : ∃ m, f = m + 1 := ⟨f - 1, by omega⟩
  have ht : (total l).2 = 0 := by unfold whole at hw; simp at hw; exact hw.1
  have hp := total_pos l ht
  have e := cut_fuel m (m + 1) (l.drop (total l).1) (by rw [List.length_drop]; omega) (by rw [List.length_drop]; omega)
  rw [← e]
  conv => lhs; unfold cut
  rw [if_neg (by intro e; subst e; simp at h0), if_neg (by simp [hg]), if_neg (by simp [hw])]

end PB
end Go.Proofs.Ytipphdadibdifaa

/- Plain Lean: a page's bytes, a meta's, turned in up to four neighbouring places, are none's. -/
import Derived.Test.YtnlkhnmbfkpghaaDoorTurned
namespace Go.Proofs.YtnlkhnmbfkpghaaDoor
open Go.RowKit
open Go.PlainAid
set_option maxRecDepth 100000

theorem anyB_no {f : Nat → Bool} : ∀ n, anyB f n = false → ∀ k, k < n → f k = false := by
  intro n
  induction n with
  | zero => intro _ k hk; omega
  | succ n ih =>
    intro h k hk
    unfold anyB at h
    simp only [Bool.or_eq_false_iff] at h
    by_cases e : k = n
    · rw [e]; exact h.2
    · exact ih h.1 k (by omega)

theorem byK_zero {y k : Nat} (h : y / 256 ^ k % 256 = 0) : byK y k = 0 := by unfold byK; rw [h]; rfl
theorem byK_ne {y k : Nat} (h : y / 256 ^ k % 256 ≠ 0) : byK y k ≠ 0 := by
  unfold byK
  intro e
  have := congrArg UInt8.toNat e
  rw [UInt8.toNat_ofNat'] at this
  simp at this
  omega
theorem by_some {y : Nat} (h0 : y ≠ 0) (hy : y < 4294967296) : ∃ k, k < 4 ∧ y / 256 ^ k % 256 ≠ 0 := by
  by_cases h1 : y % 256 = 0
  · by_cases h2 : y / 256 % 256 = 0
    · by_cases h3 : y / 65536 % 256 = 0
      · exact ⟨3, by omega, by simp; omega⟩
      · exact ⟨2, by omega, by simpa using h3⟩
    · exact ⟨1, by omega, by simpa using h2⟩
  · exact ⟨0, by omega, by simpa using h1⟩

theorem turn_zero {l : List UInt8} {p y j : Nat} (hj : j < 4) (hp : p + 4 ≤ l.length) (h : y / 256 ^ j % 256 = 0) : l[p + j]? = (turnK l p y 4)[p + j]? := by
  rw [turnK_at l p y 4 j hj hp, byK_zero h, UInt8.xor_zero, List.getD_eq_getElem?_getD, List.getElem?_eq_getElem (by omega)]
  rfl
theorem turn_ne {l : List UInt8} {p y : Nat} (hp : p + 4 ≤ l.length) (h0 : y ≠ 0) (hy : y < 4294967296) : l ≠ turnK l p y 4 := by
  intro e
  obtain ⟨k, hk, hne⟩ := by_some h0 hy
  have h1 := turnK_at l p y 4 k hk hp
  rw [← e, List.getElem?_eq_getElem (by omega), List.getD_eq_getElem?_getD, List.getElem?_eq_getElem (by omega)] at h1
  have h2 : l[p + k] = l[p + k] ^^^ byK y k := by simpa using h1
  have h3 := congrArg (fun z => l[p + k] ^^^ z) h2
  simp only [← UInt8.xor_assoc, UInt8.xor_self, UInt8.zero_xor] at h3
  exact byK_ne hne h3.symm

theorem turn_sides {l : List UInt8} {p y sum : Nat} (hp : p + 4 ≤ l.length) (h : mixedB p y sum = false) :
    (∀ i, sum ≤ i → i < sum + 4 → l[i]? = (turnK l p y 4)[i]?) ∨ (∀ i, i < sum ∨ sum + 4 ≤ i → l[i]? = (turnK l p y 4)[i]?) := by
  unfold mixedB at h
  rw [Bool.and_eq_false_iff] at h
  rcases h with h | h
  · left
    intro i h1 h2
    by_cases hi : i < p ∨ p + 4 ≤ i
    · exact (turnK_far l p y 4 i hi).symm
    · obtain ⟨j, rfl⟩ : ∃ j, i = p + j := ⟨i - p, by omega⟩
      refine turn_zero (by omega) hp ?_
      have := anyB_no 4 h j (by omega)
      unfold inB at this
      simp only [Bool.and_eq_false_iff, Bool.not_eq_false', beq_iff_eq, decide_eq_false_iff_not] at this
      omega
  · right
    intro i h1
    by_cases hi : i < p ∨ p + 4 ≤ i
    · exact (turnK_far l p y 4 i hi).symm
    · obtain ⟨j, rfl⟩ : ∃ j, i = p + j := ⟨i - p, by omega⟩
      refine turn_zero (by omega) hp ?_
      have := anyB_no 4 h j (by omega)
      unfold outB at this
      simp only [Bool.and_eq_false_iff, Bool.not_eq_false', beq_iff_eq, decide_eq_true_eq] at this
      omega

theorem isPage_list {s : ByteArray} {k n t : Int} {b : ByteArray} (h : IsPage s k n t b) : ∃ (kn nn tn : Nat), s.data.toList = pageS kn nn tn b.data.toList ∧ b.data.toList.length ≤ 488 := by
  obtain ⟨hr, hs⟩ := h
  have h7 := rightB_yes hr
  rw [packS_right hr] at hs
  exact ⟨_, _, _, by rw [← hs], h7.2.2.2.2.2.2⟩
theorem isMeta_list {s : ByteArray} {t r f p l : Int} (h : IsMeta s t r f p l) : ∃ (tn rn fn pn ln : Nat), s.data.toList = metaL tn rn fn pn ln := by
  obtain ⟨hr, hs⟩ := h
  rw [metaS_right hr] at hs
  exact ⟨_, _, _, _, _, by rw [← hs]⟩

theorem page_tells {s : ByteArray} {k n t : Int} {b : ByteArray} (h : IsPage s k n t b) {p y : Nat} (hp : p + 4 ≤ 512) (h0 : y ≠ 0) (hy : y < 4294967296)
    (hm : mixedB p y 18 = false) : unpB ⟨(turnK s.data.toList p y 4).toArray⟩ = false := by
  cases hu : unpB ⟨(turnK s.data.toList p y 4).toArray⟩ with
  | false => rfl
  | true =>
    obtain ⟨k1, n1, t1, e1, hb1⟩ := isPage_list h
    obtain ⟨k2, n2, t2, e2, hb2⟩ := isPage_list (unpB_yes hu)
    have hl : s.data.toList.length = 512 := by rw [e1]; exact pageS_len _ _ _ _ hb1
    have hl2 : (turnK s.data.toList p y 4).length = 512 := by rw [turnK_len, hl]
    have e2' : turnK s.data.toList p y 4 = _ := e2
    exact absurd (page_turned (p := p) hl hl2 (fun i hi => (turnK_far _ p y 4 i hi).symm) (by rw [e1]; exact page_sums _ _ _ _) (by rw [e2']; exact page_sums _ _ _ _) (turn_sides (by omega) hm)) (turn_ne (by omega) h0 hy)

theorem meta_tells {s : ByteArray} {t r f q l : Int} (h : IsMeta s t r f q l) {p y : Nat} (hp : p + 4 ≤ 128) (h0 : y ≠ 0) (hy : y < 4294967296)
    (hm : mixedB p y 32 = false) : unmB ⟨(turnK s.data.toList p y 4).toArray⟩ = false := by
  cases hu : unmB ⟨(turnK s.data.toList p y 4).toArray⟩ with
  | false => rfl
  | true =>
    obtain ⟨t1, r1, f1, p1, l1, e1⟩ := isMeta_list h
    obtain ⟨t2, r2, f2, p2, l2, e2⟩ := isMeta_list (unmB_yes hu)
    have hl : s.data.toList.length = 128 := by rw [e1]; exact metaL_len _ _ _ _ _
    have hl2 : (turnK s.data.toList p y 4).length = 128 := by rw [turnK_len, hl]
    have e2' : turnK s.data.toList p y 4 = _ := e2
    exact absurd (meta_turned (p := p) hl hl2 (fun i hi => (turnK_far _ p y 4 i hi).symm) (by rw [e1]; exact (meta_sums _ _ _ _ _).1) (by rw [e2']; exact (meta_sums _ _ _ _ _).1) (by rw [e2', e1, (meta_sums _ _ _ _ _).2, (meta_sums _ _ _ _ _).2]) (turn_sides (by omega) hm)) (turn_ne (by omega) h0 hy)
end Go.Proofs.YtnlkhnmbfkpghaaDoor

/- Walk of the law PageNewest. -/
import Derived.Test.YtnlkhnmbfkpghaaDoorRNewest
import Derived.Test.YtnlkhnmbfkpghaaDoorPageMetas
namespace Go.Proofs.YtnlkhnmbfkpghaaDoor
open Go.RowKit
open Go.PlainAid
set_option maxRecDepth 100000
set_option linter.unusedVariables false
set_option linter.unusedSimpArgs false

theorem nw_vals (a b : ByteArray) : (unmE a = 4 ∧ unmE b = 4 ∧ nwS a b = a ∧ nwN a b = 0) ∨ (unmE a = 4 ∧ unmE b = 0 ∧ nwS a b = b ∧ nwN a b = 1) ∨ (unmE a = 0 ∧ unmE b = 4 ∧ nwS a b = a ∧ nwN a b = 0) ∨
    (unmE a = 0 ∧ unmE b = 0 ∧ unmT a < unmT b ∧ nwS a b = b ∧ nwN a b = 1) ∨ (unmE a = 0 ∧ unmE b = 0 ∧ unmT b ≤ unmT a ∧ nwS a b = a ∧ nwN a b = 0) := by
  have hS : ∀ x, nwI a b = x → nwS a b = (if x then b else a) ∧ nwN a b = (if x then 1 else 0) := fun x h => by unfold nwS nwN; rw [h]; exact ⟨rfl, rfl⟩
  rcases unmE_cases a with ⟨ea, ha⟩ | ⟨ea, ha⟩ <;> rcases unmE_cases b with ⟨eb, hb⟩ | ⟨eb, hb⟩
  · by_cases ht : unmT a < unmT b
    · exact .inr (.inr (.inr (.inl ⟨ea, eb, ht, hS true (by unfold nwI; rw [ha, hb]; simp [ht])⟩)))
    · exact .inr (.inr (.inr (.inr ⟨ea, eb, by omega, hS false (by unfold nwI; rw [ha, hb]; simp [ht])⟩)))
  · exact .inr (.inr (.inl ⟨ea, eb, hS false (by unfold nwI; rw [hb]; rfl)⟩))
  · exact .inr (.inl ⟨ea, eb, hS true (by unfold nwI; rw [ha, hb]; rfl)⟩)
  · exact .inl ⟨ea, eb, hS false (by unfold nwI; rw [hb]; rfl)⟩

set_option maxHeartbeats 4000000 in
theorem pageNewest_long (a b : ByteArray) (w : World) (hr : RowAt w) (hb : 2000 < a.size ∨ 2000 < b.size) :
    Calls Tryd.prog 6 #[.string a, .string b] w (Holds w) := by
  have HA := Lib.hid (awake_any _ hr)
  have hq : decide (2000 < (a.size : Int)) = true ∨ (decide (2000 < (a.size : Int)) = false ∧ decide (2000 < (b.size : Int)) = true) := by
    simp
    omega
  clear hr hb
  rcases hq with q1 | ⟨q1, q2⟩
  all_goals
    go_enter Tryd.func6, Tryd.ntmps6
    go_wp2_with fail
    refine HA.out.mono ?_
    rintro e w1 ⟨rfl, hb1⟩
    go_wp2_with fail
    go_ret
    exact ⟨rfl, hb1⟩

set_option maxHeartbeats 8000000 in
theorem pageNewest_core (a b : ByteArray) (w : World) (hr : RowAt w) (ha : a.size ≤ 2000) (hb : b.size ≤ 2000) (t1 r1 f1 p1 l1 e1 t2 r2 f2 p2 l2 e2 tm rm fm pm lm em i : Int)
    (HN1 : Hid (∀ W, RowAt W → Calls Tryd.prog 23 #[.string a, .string b] W fun e w' => e = .returned (.tuple #[metaV tm rm fm pm lm, .int .i64 i, .int .i64 em]) ∧ Below W.heap.size W w'))
    (HN2 : Hid (∀ W, Calls Tryd.prog 24 #[.string a, .string b] W fun e w' => e = .returned (.tuple #[metaV tm rm fm pm lm, .int .i64 i, .int .i64 em]) ∧ Below W.heap.size W w'))
    (HU1 : Hid (∀ W, RowAt W → Calls Tryd.prog 17 #[.string a] W fun e w' => e = .returned (.tuple #[metaV t1 r1 f1 p1 l1, .int .i64 e1]) ∧ Below W.heap.size W w'))
    (HU2 : Hid (∀ W, RowAt W → Calls Tryd.prog 17 #[.string b] W fun e w' => e = .returned (.tuple #[metaV t2 r2 f2 p2 l2, .int .i64 e2]) ∧ Below W.heap.size W w'))
    (hcs : (e1 = 4 ∧ e2 = 4 ∧ em = 4) ∨ (e1 = 4 ∧ e2 = 0 ∧ em = 0 ∧ t2 ≤ tm) ∨ (e1 = 0 ∧ e2 = 4 ∧ em = 0 ∧ t1 ≤ tm) ∨ (e1 = 0 ∧ e2 = 0 ∧ em = 0 ∧ t1 ≤ tm ∧ t2 ≤ tm)) :
    Calls Tryd.prog 6 #[.string a, .string b] w (Holds w) := by
  have HA := Lib.hid (awake_any _ hr)
  have HRW := Lib.hid hr
  have q1 : decide (2000 < (a.size : Int)) = false := by simp; omega
  have q2 : decide (2000 < (b.size : Int)) = false := by simp; omega
  have hns := fun W : World => meta_nsame tm rm fm pm lm W
  clear hr
  rcases hcs with ⟨rfl, rfl, rfl⟩ | ⟨rfl, rfl, rfl, ht⟩ | ⟨rfl, rfl, rfl, ht⟩ | ⟨rfl, rfl, rfl, ht, ht2⟩
  all_goals
    go_enter Tryd.func6, Tryd.ntmps6
    go_wp2_with fail
    refine HA.out.mono ?_
    rintro e w1 ⟨rfl, hb1⟩
    have X1 := Lib.hid hb1
    have R1 := Lib.hid (HRW.out.below hb1)
    clear hb1
    go_wp2_with fail
    refine (HN1.out _ R1.out).mono ?_
    rintro e w2 ⟨rfl, hb2⟩
    have X2 := Lib.hid (X1.out.trans (hb2.mono X1.out.size))
    have R2 := Lib.hid (R1.out.below hb2)
    clear hb2
    go_wp2_with fail
    refine (HN2.out _).mono ?_
    rintro e w3 ⟨rfl, hb3⟩
    have hal : Below w2.heap.size w2 (w2.alloc (.cells #[.int .i64 tm, .int .i64 rm, .int .i64 fm, .int .i64 pm, .int .i64 lm] 33)) := (Below.refl _ _).alloc (Nat.le_refl _) _
    have hn := Bk.new w2 33 #[.int .i64 tm, .int .i64 rm, .int .i64 fm, .int .i64 pm, .int .i64 lm]
    have X3 := Lib.hid ((X2.out.trans (hal.mono X2.out.size)).trans (hb3.mono (by have := X2.out.size; simp; omega)))
    have A3 := Lib.hid (bk_below hn hb3)
    have R3 := Lib.hid ((R2.out.below hal).below hb3)
    clear hb3 hal hn
    have hal : Below w3.heap.size w3 (w3.alloc (.cells #[.int .i64 tm, .int .i64 rm, .int .i64 fm, .int .i64 pm, .int .i64 lm] 33)) := (Below.refl _ _).alloc (Nat.le_refl _) _
    have X4 := Lib.hid (X3.out.trans (hal.mono X3.out.size))
    have R4 := Lib.hid (R3.out.below hal)
    have A4 := Lib.hid (bk_below A3.out hal)
    obtain ⟨c0, c1, c2, c3, c4⟩ := A3.out.five
    have hlt3 := A3.out.lt
    clear hal
    go_wp2_with fail
    refine (HU1.out _ R4.out).mono ?_
    rintro e w5 ⟨rfl, hb5⟩
    have X5 := Lib.hid (X4.out.trans (hb5.mono X4.out.size))
    have A5 := Lib.hid (bk_below A4.out hb5)
    have R5 := Lib.hid (R4.out.below hb5)
    clear hb5 c0 c1 c2 c3 c4
    have hal : Below w5.heap.size w5 (w5.alloc (.cells #[.int .i64 t1, .int .i64 r1, .int .i64 f1, .int .i64 p1, .int .i64 l1] 33)) := (Below.refl _ _).alloc (Nat.le_refl _) _
    have hn := Bk.new w5 33 #[.int .i64 t1, .int .i64 r1, .int .i64 f1, .int .i64 p1, .int .i64 l1]
    have X6 := Lib.hid (X5.out.trans (hal.mono X5.out.size))
    have R6 := Lib.hid (R5.out.below hal)
    have A6 := Lib.hid (bk_below A5.out hal)
    have B6 := Lib.hid hn
    clear hal hn
    go_wp2_with fail
    refine (HU2.out _ R6.out).mono ?_
    rintro e w7 ⟨rfl, hb7⟩
    have X7 := Lib.hid (X6.out.trans (hb7.mono X6.out.size))
    have A7 := Lib.hid (bk_below A6.out hb7)
    have B7 := Lib.hid (bk_below B6.out hb7)
    clear hb7
    have c0 := A7.out.five.1
    have d0 := B7.out.five.1
    have hl1 := A7.out.lt
    have hl2 := B7.out.lt
    go_wp2_with fail
    go_ret
    exact ⟨by first | rfl | (simp; done) | (simp; omega), X7.out.alloc X7.out.size _⟩

theorem pageNewest_any (a b : ByteArray) (w : World) (_ : a.size ≤ maxLen) (_ : b.size ≤ maxLen) (hr : RowAt w) : Calls Tryd.prog 6 #[.string a, .string b] w (Holds w) := by
  by_cases h : 2000 < a.size ∨ 2000 < b.size
  · exact pageNewest_long a b w hr h
  · have e0 : ∀ x : ByteArray, unmE (nwS a b) = unmE x → unmE x = 0 → unmE (nwS a b) = 0 := fun x h1 h2 => h1.trans h2
    refine pageNewest_core a b w hr (by omega) (by omega) _ _ _ _ _ _ _ _ _ _ _ _ _ _ _ _ _ _ _ (Lib.hid fun W hW => newest_any a b W hW) (Lib.hid fun W => rnewest_any a b W) (Lib.hid fun W hW => unpackM_any a W hW) (Lib.hid fun W hW => unpackM_any b W hW) ?_
    rcases nw_vals a b with ⟨h1, h2, h3, h4⟩ | ⟨h1, h2, h3, h4⟩ | ⟨h1, h2, h3, h4⟩ | ⟨h1, h2, h3, h4, h5⟩ | ⟨h1, h2, h3, h4, h5⟩
    · exact .inl ⟨h1, h2, by rw [h3]; exact h1⟩
    · exact .inr (.inl ⟨h1, h2, by rw [h3]; exact h2, by rw [h3]; exact Int.le_refl _⟩)
    · exact .inr (.inr (.inl ⟨h1, h2, by rw [h3]; exact h1, by rw [h3]; exact Int.le_refl _⟩))
    · exact .inr (.inr (.inr ⟨h1, h2, by rw [h4]; exact h2, by rw [h4]; omega, by rw [h4]; exact Int.le_refl _⟩))
    · exact .inr (.inr (.inr ⟨h1, h2, by rw [h4]; exact h1, by rw [h4]; exact Int.le_refl _, by rw [h4]; exact h3⟩))
end Go.Proofs.YtnlkhnmbfkpghaaDoor

/- Contracts of page.RightMeta and of the reference's. -/
import Derived.Test.YtkkgiajjdcpicaaGreatDoorPlainMeta
import Derived.Test.YtkkgiajjdcpicaaGreatDoorUnpack
namespace Go.Proofs.YtkkgiajjdcpicaaGreatDoor
open Go.RowKit
open Go.PlainAid
set_option maxRecDepth 100000
set_option linter.unusedVariables false

abbrev metaV (t r f p l : Int) : Value := .agg #[.int .i64 t, .int .i64 r, .int .i64 f, .int .i64 p, .int .i64 l]

theorem within_of (n lo hi : Int) (q : Bool) (w : World) (HE : Hid ((decide (lo ≤ n) && decide (n ≤ hi)) = q)) : Calls Tryz.prog 213 #[.int .i64 n, .int .i64 lo, .int .i64 hi] w (TellsB q w) := by
  have hcs : (q = true ∧ lo ≤ n ∧ n ≤ hi) ∨ (q = false ∧ lo ≤ n ∧ decide (n ≤ hi) = false) ∨ (q = false ∧ n < lo) := by
    have := HE.out
    cases q
    · simp at this
      by_cases h1 : lo ≤ n
      · exact .inr (.inl ⟨rfl, h1, by simp; exact this h1⟩)
      · exact .inr (.inr ⟨rfl, by omega⟩)
    · simp at this
      exact .inl ⟨rfl, this.1, this.2⟩
  clear HE
  rcases hcs with ⟨rfl, h1, h2⟩ | ⟨rfl, h1, h2⟩ | ⟨rfl, h1⟩
  all_goals
    go_enter Tryz.func213, Tryz.ntmps213
    go_wp2_with fail
    go_ret
    exact ⟨rfl, rfl⟩
theorem within_any (n lo hi : Int) (w : World) : Calls Tryz.prog 213 #[.int .i64 n, .int .i64 lo, .int .i64 hi] w (TellsB (decide (lo ≤ n) && decide (n ≤ hi)) w) := within_of n lo hi _ w (show _ = _ from rfl)

theorem rightM_five (t r f p l : Int) : rightM t r f p l = ((decide (0 ≤ t) && decide (t ≤ 1099511627776)) && (decide (2 ≤ l) && decide (l ≤ 512)) && (decide (1 ≤ p) && decide (p ≤ l)) && (decide (0 ≤ r) && decide (r ≤ p - 1)) && (decide (0 ≤ f) && decide (f ≤ p - 1))) := by
  unfold rightM
  rw [Bool.eq_iff_iff]
  simp only [Bool.and_eq_true, decide_eq_true_eq]
  omega

set_option maxHeartbeats 8000000 in
theorem prightM_any (t r f p l : Int) (w : World) : Calls Tryz.prog 159 #[metaV t r f p l] w (TellsQ (rightM t r f p l) w) := by
  have h5 := rightM_five t r f p l
  have H1 := fun W => within_any t 0 1099511627776 W
  have H2 := fun W => within_any l 2 512 W
  have H3 := fun W => within_any p 1 l W
  have H4 := fun W => within_any r 0 (p - 1) W
  have H5 := fun W => within_any f 0 (p - 1) W
  have hp : (decide (1 ≤ p) && decide (p ≤ l)) = true → (decide (2 ≤ l) && decide (l ≤ 512)) = true → 1 ≤ p ∧ p ≤ 512 := by
    simp only [Bool.and_eq_true, decide_eq_true_eq]
    omega
  generalize rightM t r f p l = q at *
  generalize (decide (0 ≤ t) && decide (t ≤ 1099511627776)) = x1 at *
  generalize (decide (2 ≤ l) && decide (l ≤ 512)) = x2 at *
  generalize (decide (1 ≤ p) && decide (p ≤ l)) = x3 at *
  generalize (decide (0 ≤ r) && decide (r ≤ p - 1)) = x4 at *
  generalize (decide (0 ≤ f) && decide (f ≤ p - 1)) = x5 at *
  have HQ := Lib.hid h5
  clear h5
  have hb0 : Below w.heap.size w (w.alloc (.cells #[.int .i64 t, .int .i64 r, .int .i64 f, .int .i64 p, .int .i64 l] 56)) := (Below.refl _ _).alloc (Nat.le_refl _) _
  have HB := Lib.hid hb0
  have G1 := Lib.hid H1
  have G2 := Lib.hid H2
  have G3 := Lib.hid H3
  have G4 := Lib.hid H4
  have G5 := Lib.hid H5
  have hcs : x1 = false ∨ (x1 = true ∧ x2 = false) ∨ (x1 = true ∧ x2 = true ∧ x3 = false) ∨ (x1 = true ∧ x2 = true ∧ x3 = true ∧ x4 = false) ∨ (x1 = true ∧ x2 = true ∧ x3 = true ∧ x4 = true) := by
    cases x1 <;> cases x2 <;> cases x3 <;> cases x4 <;> simp
  clear hb0 H1 H2 H3 H4 H5
  rcases hcs with rfl | ⟨rfl, rfl⟩ | ⟨rfl, rfl, rfl⟩ | ⟨rfl, rfl, rfl, rfl⟩ | ⟨rfl, rfl, rfl, rfl⟩
  all_goals
    have HP : Hid (1 ≤ p ∧ p ≤ 512) ∨ True := by first | exact .inl (hp rfl rfl) | exact .inr trivial
    first | (obtain ⟨hp1, hp2⟩ := hp rfl rfl) | skip
    clear HP hp
    go_enter Tryz.func159, Tryz.ntmps159
    go_wp2_with (first
      | (go_at_call 213; (with_reducible refine (G1.out _).mono ?_); rintro e w' ⟨rfl, rfl⟩)
      | (go_at_call 213; (with_reducible refine (G2.out _).mono ?_); rintro e w' ⟨rfl, rfl⟩)
      | (go_at_call 213; (with_reducible refine (G3.out _).mono ?_); rintro e w' ⟨rfl, rfl⟩)
      | (go_at_call 213; (with_reducible refine (G4.out _).mono ?_); rintro e w' ⟨rfl, rfl⟩)
      | (go_at_call 213; (with_reducible refine (G5.out _).mono ?_); rintro e w' ⟨rfl, rfl⟩)
      | fail)
    go_ret
    exact tellsQ_of (by rw [HQ.out]; first | rfl | (cases x2 <;> cases x3 <;> cases x4 <;> cases x5 <;> rfl) | (cases x3 <;> cases x4 <;> cases x5 <;> rfl) | (cases x4 <;> cases x5 <;> rfl) | (cases x5 <;> rfl)) HB.out

theorem rightM_cases {t r f p l : Int} (h : rightM t r f p l = false) : t < 0 ∨ (0 ≤ t ∧ 1099511627776 < t) ∨ (0 ≤ t ∧ t ≤ 1099511627776 ∧ l < 2) ∨ (0 ≤ t ∧ t ≤ 1099511627776 ∧ 2 ≤ l ∧ 512 < l) ∨ (0 ≤ t ∧ t ≤ 1099511627776 ∧ 2 ≤ l ∧ l ≤ 512 ∧ p < 1) ∨
    (0 ≤ t ∧ t ≤ 1099511627776 ∧ 2 ≤ l ∧ l ≤ 512 ∧ 1 ≤ p ∧ l < p) ∨ (0 ≤ t ∧ t ≤ 1099511627776 ∧ 2 ≤ l ∧ l ≤ 512 ∧ 1 ≤ p ∧ p ≤ l ∧ r < 0) ∨ (0 ≤ t ∧ t ≤ 1099511627776 ∧ 2 ≤ l ∧ l ≤ 512 ∧ 1 ≤ p ∧ p ≤ l ∧ 0 ≤ r ∧ p ≤ r) ∨
    (0 ≤ t ∧ t ≤ 1099511627776 ∧ 2 ≤ l ∧ l ≤ 512 ∧ 1 ≤ p ∧ p ≤ l ∧ 0 ≤ r ∧ r < p ∧ f < 0) ∨ (0 ≤ t ∧ t ≤ 1099511627776 ∧ 2 ≤ l ∧ l ≤ 512 ∧ 1 ≤ p ∧ p ≤ l ∧ 0 ≤ r ∧ r < p ∧ 0 ≤ f ∧ p ≤ f) := by
  have hn := rightM_not h
  clear h
  rcases (show t < 0 ∨ 0 ≤ t by omega) with a1 | a1
  · exact .inl a1
  rcases (show 1099511627776 < t ∨ t ≤ 1099511627776 by omega) with a2 | a2
  · exact .inr (.inl ⟨a1, a2⟩)
  rcases (show l < 2 ∨ 2 ≤ l by omega) with a3 | a3
  · exact .inr (.inr (.inl ⟨a1, a2, a3⟩))
  rcases (show 512 < l ∨ l ≤ 512 by omega) with a4 | a4
  · exact .inr (.inr (.inr (.inl ⟨a1, a2, a3, a4⟩)))
  rcases (show p < 1 ∨ 1 ≤ p by omega) with a5 | a5
  · exact .inr (.inr (.inr (.inr (.inl ⟨a1, a2, a3, a4, a5⟩))))
  rcases (show l < p ∨ p ≤ l by omega) with a6 | a6
  · exact .inr (.inr (.inr (.inr (.inr (.inl ⟨a1, a2, a3, a4, a5, a6⟩)))))
  rcases (show r < 0 ∨ 0 ≤ r by omega) with a7 | a7
  · exact .inr (.inr (.inr (.inr (.inr (.inr (.inl ⟨a1, a2, a3, a4, a5, a6, a7⟩))))))
  rcases (show r < p ∨ p ≤ r by omega) with a8 | a8
  · rcases (show f < 0 ∨ 0 ≤ f by omega) with a9 | a9
    · exact .inr (.inr (.inr (.inr (.inr (.inr (.inr (.inr (.inl ⟨a1, a2, a3, a4, a5, a6, a7, a8, a9⟩))))))))
    · rcases (show f < p ∨ p ≤ f by omega) with a10 | a10
      · exact absurd ⟨a1, a2, a3, a4, a5, a6, a7, a8, a9, a10⟩ hn
      · exact .inr (.inr (.inr (.inr (.inr (.inr (.inr (.inr (.inr ⟨a1, a2, a3, a4, a5, a6, a7, a8, a9, a10⟩))))))))
  · exact .inr (.inr (.inr (.inr (.inr (.inr (.inr (.inl ⟨a1, a2, a3, a4, a5, a6, a7, a8⟩)))))))

end Go.Proofs.YtkkgiajjdcpicaaGreatDoor

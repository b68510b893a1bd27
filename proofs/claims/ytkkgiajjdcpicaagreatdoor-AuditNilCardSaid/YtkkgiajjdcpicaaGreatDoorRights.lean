/- Contracts of page.Right, page.RightMeta and of the reference's. -/
import Derived.Test.YtkkgiajjdcpicaaGreatDoorLay
namespace Go.Proofs.YtkkgiajjdcpicaaGreatDoor
open Go.RowKit
open Go.PlainAid
set_option maxRecDepth 100000

/-- may a page be? -/
def rightB (k n t : Int) (b : ByteArray) : Bool := decide (1 ≤ k) && decide (k ≤ 4) && decide (1 ≤ n) && decide (n < 512) && decide (0 ≤ t) && decide (t ≤ 1099511627776) && decide (b.size ≤ 488)

theorem rightB_yes {k n t : Int} {b : ByteArray} (h : rightB k n t b = true) : 1 ≤ k ∧ k ≤ 4 ∧ 1 ≤ n ∧ n < 512 ∧ 0 ≤ t ∧ t ≤ 1099511627776 ∧ b.size ≤ 488 := by
  unfold rightB at h
  simp only [Bool.and_eq_true, decide_eq_true_eq] at h
  obtain ⟨⟨⟨⟨⟨⟨a, b⟩, c⟩, d⟩, e⟩, f⟩, g⟩ := h
  exact ⟨a, b, c, d, e, f, g⟩
theorem rightB_no {k n t : Int} {b : ByteArray} (h : rightB k n t b = false) : k < 1 ∨ (1 ≤ k ∧ 4 < k) ∨ (1 ≤ k ∧ k ≤ 4 ∧ n < 1) ∨ (1 ≤ k ∧ k ≤ 4 ∧ 1 ≤ n ∧ 512 ≤ n) ∨ (1 ≤ k ∧ k ≤ 4 ∧ 1 ≤ n ∧ n < 512 ∧ t < 0) ∨
    (1 ≤ k ∧ k ≤ 4 ∧ 1 ≤ n ∧ n < 512 ∧ 0 ≤ t ∧ 1099511627776 < t) ∨ (1 ≤ k ∧ k ≤ 4 ∧ 1 ≤ n ∧ n < 512 ∧ 0 ≤ t ∧ t ≤ 1099511627776 ∧ 488 < b.size) := by
  unfold rightB at h
  simp only [Bool.and_eq_false_iff, decide_eq_false_iff_not] at h
  omega

set_option maxHeartbeats 2000000 in
theorem pright_yes (k n t : Int) (b : ByteArray) (w : World) (h : rightB k n t b = true) :
    Calls Tryz.prog 212 #[.agg #[.int .i64 k, .int .i64 n, .int .i64 t, .string b]] w (TellsQ true w) := by
  obtain ⟨h1, h2, h3, h4, h5, h6, h7⟩ := rightB_yes h
  have q1 : decide (1 ≤ k) = true := by simp; omega
  have q2 : decide (k ≤ 4) = true := by simp; omega
  have q3 : decide (1 ≤ n) = true := by simp; omega
  have q4 : decide (n < 512) = true := by simp; omega
  have q5 : decide (0 ≤ t) = true := by simp; omega
  have q6 : decide (t ≤ 1099511627776) = true := by simp; omega
  have q7 : decide ((b.size : Int) ≤ 488) = true := by simp; omega
  clear h h1 h2 h3 h4 h5 h6 h7
  go_enter Tryz.func212, Tryz.ntmps212
  go_wp2_with fail
  go_ret
  exact tellsQ_of rfl ((Below.refl _ _).alloc (Nat.le_refl _) _)

set_option maxHeartbeats 4000000 in
theorem pright_no (k n t : Int) (b : ByteArray) (w : World) (h : rightB k n t b = false) :
    Calls Tryz.prog 212 #[.agg #[.int .i64 k, .int .i64 n, .int .i64 t, .string b]] w (TellsQ false w) := by
  have hd := rightB_no h
  clear h
  rcases hd with h | ⟨h1, h⟩ | ⟨h1, h2, h⟩ | ⟨h1, h2, h3, h⟩ | ⟨h1, h2, h3, h4, h⟩ | ⟨h1, h2, h3, h4, h5, h⟩ | ⟨h1, h2, h3, h4, h5, h6, h⟩
  all_goals
    go_enter Tryz.func212, Tryz.ntmps212
    go_wp2_with fail
    go_ret
    exact tellsQ_of (by first | rfl | (symm; simp; omega)) ((Below.refl _ _).alloc (Nat.le_refl _) _)

theorem pright_any (k n t : Int) (b : ByteArray) (w : World) :
    Calls Tryz.prog 212 #[.agg #[.int .i64 k, .int .i64 n, .int .i64 t, .string b]] w (TellsQ (rightB k n t b) w) := by
  cases h : rightB k n t b with
  | true => exact pright_yes _ _ _ _ _ h
  | false => exact pright_no _ _ _ _ _ h

end Go.Proofs.YtkkgiajjdcpicaaGreatDoor

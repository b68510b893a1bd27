/- MsgAnswers: each operation that is answered has one answer of its own; no answer is answered. -/
import Derived.Test.YtbiglfpikfjbpaaDoorMsgAwake
namespace Go.Proofs.YtbiglfpikfjbpaaDoor
open Go.RowKit
set_option maxRecDepth 100000
set_option linter.unusedVariables false
set_option linter.unusedSimpArgs false
set_option maxHeartbeats 4000000 in
theorem msgAnswers_any (op : Int) (w : World) (ha : AnsAt w) : Calls Tryd.prog 5 #[.int .i64 op] w (Holds w) := by
  have H1 := Lib.hid (awake26 w ha)
  have H2 := Lib.hid (fun W hb => answer_any op W (ha.below hb))
  clear ha
  have hops : op = 0 ∨ op = 3 ∨ op = 6 ∨ op = 8 ∨ op = 10 ∨ op = 12 ∨ op = 14 ∨ op = 23 ∨ (op ≠ 0 ∧ op ≠ 3 ∧ op ≠ 6 ∧ op ≠ 8 ∧ op ≠ 10 ∧ op ≠ 12 ∧ op ≠ 14 ∧ op ≠ 23) := by omega
  rcases hops with rfl | rfl | rfl | rfl | rfl | rfl | rfl | rfl | ⟨n0, n3, n6, n8, n10, n12, n14, n23⟩
  · have e : answerOf 0 = 1 := rfl
    rw [e] at H2
    clear e
    go_enter Tryd.func5, Tryd.ntmps5
    go_wp2_with (first
      | (go_at_call 6; refine H1.out.mono ?_; rintro e w1 ⟨rfl, hb1⟩)
      | (go_at_call 13; refine (H2.out _ hb1).mono ?_; rintro e w2 ⟨rfl, hb2⟩)
      | fail)
    go_ret
    exact ⟨rfl, hb1.trans (hb2.mono hb1.size)⟩
  · have e : answerOf 3 = 5 := rfl
    rw [e] at H2
    clear e
    go_enter Tryd.func5, Tryd.ntmps5
    go_wp2_with (first
      | (go_at_call 6; refine H1.out.mono ?_; rintro e w1 ⟨rfl, hb1⟩)
      | (go_at_call 13; refine (H2.out _ hb1).mono ?_; rintro e w2 ⟨rfl, hb2⟩)
      | fail)
    go_ret
    exact ⟨rfl, hb1.trans (hb2.mono hb1.size)⟩
  · have e : answerOf 6 = 7 := rfl
    rw [e] at H2
    clear e
    go_enter Tryd.func5, Tryd.ntmps5
    go_wp2_with (first
      | (go_at_call 6; refine H1.out.mono ?_; rintro e w1 ⟨rfl, hb1⟩)
      | (go_at_call 13; refine (H2.out _ hb1).mono ?_; rintro e w2 ⟨rfl, hb2⟩)
      | fail)
    go_ret
    exact ⟨rfl, hb1.trans (hb2.mono hb1.size)⟩
  · have e : answerOf 8 = 9 := rfl
    rw [e] at H2
    clear e
    go_enter Tryd.func5, Tryd.ntmps5
    go_wp2_with (first
      | (go_at_call 6; refine H1.out.mono ?_; rintro e w1 ⟨rfl, hb1⟩)
      | (go_at_call 13; refine (H2.out _ hb1).mono ?_; rintro e w2 ⟨rfl, hb2⟩)
      | fail)
    go_ret
    exact ⟨rfl, hb1.trans (hb2.mono hb1.size)⟩
  · have e : answerOf 10 = 11 := rfl
    rw [e] at H2
    clear e
    go_enter Tryd.func5, Tryd.ntmps5
    go_wp2_with (first
      | (go_at_call 6; refine H1.out.mono ?_; rintro e w1 ⟨rfl, hb1⟩)
      | (go_at_call 13; refine (H2.out _ hb1).mono ?_; rintro e w2 ⟨rfl, hb2⟩)
      | fail)
    go_ret
    exact ⟨rfl, hb1.trans (hb2.mono hb1.size)⟩
  · have e : answerOf 12 = 13 := rfl
    rw [e] at H2
    clear e
    go_enter Tryd.func5, Tryd.ntmps5
    go_wp2_with (first
      | (go_at_call 6; refine H1.out.mono ?_; rintro e w1 ⟨rfl, hb1⟩)
      | (go_at_call 13; refine (H2.out _ hb1).mono ?_; rintro e w2 ⟨rfl, hb2⟩)
      | fail)
    go_ret
    exact ⟨rfl, hb1.trans (hb2.mono hb1.size)⟩
  · have e : answerOf 14 = 15 := rfl
    rw [e] at H2
    clear e
    go_enter Tryd.func5, Tryd.ntmps5
    go_wp2_with (first
      | (go_at_call 6; refine H1.out.mono ?_; rintro e w1 ⟨rfl, hb1⟩)
      | (go_at_call 13; refine (H2.out _ hb1).mono ?_; rintro e w2 ⟨rfl, hb2⟩)
      | fail)
    go_ret
    exact ⟨rfl, hb1.trans (hb2.mono hb1.size)⟩
  · have e : answerOf 23 = 24 := rfl
    rw [e] at H2
    clear e
    go_enter Tryd.func5, Tryd.ntmps5
    go_wp2_with (first
      | (go_at_call 6; refine H1.out.mono ?_; rintro e w1 ⟨rfl, hb1⟩)
      | (go_at_call 13; refine (H2.out _ hb1).mono ?_; rintro e w2 ⟨rfl, hb2⟩)
      | fail)
    go_ret
    exact ⟨rfl, hb1.trans (hb2.mono hb1.size)⟩
  · have e : answerOf op = -1 := by unfold answerOf; rw [if_neg n0, if_neg n3, if_neg n6, if_neg n8, if_neg n10, if_neg n12, if_neg n14, if_neg n23]
    rw [e] at H2
    clear e
    have b0 : (op == 0) = false := by simp; omega
    have b3 : (op == 3) = false := by simp; omega
    have b6 : (op == 6) = false := by simp; omega
    have b8 : (op == 8) = false := by simp; omega
    have b10 : (op == 10) = false := by simp; omega
    have b12 : (op == 12) = false := by simp; omega
    have b14 : (op == 14) = false := by simp; omega
    have b23 : (op == 23) = false := by simp; omega
    clear n0 n3 n6 n8 n10 n12 n14 n23
    go_enter Tryd.func5, Tryd.ntmps5
    go_wp2_with (first
      | (go_at_call 6; refine H1.out.mono ?_; rintro e w1 ⟨rfl, hb1⟩)
      | (go_at_call 13; refine (H2.out _ hb1).mono ?_; rintro e w2 ⟨rfl, hb2⟩)
      | fail)
    go_ret
    exact ⟨rfl, hb1.trans (hb2.mono hb1.size)⟩
end Go.Proofs.YtbiglfpikfjbpaaDoor

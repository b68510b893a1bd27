/- Contract of ber.whole: it tells, or it throws. -/
import Derived.Test.YtipphdadibdifaaHead
import Derived.Test.YtipphdadibdifaaPlainVal
namespace Go.Proofs.Ytipphdadibdifaa
open Go.RowKit
open Go.PlainAid

/-- A call that throws a trouble. -/
def Throws (er : Nat) (e : Ending) : Prop := e = .panicked [{ v := .iface 72 (.int .i64 er), recovered := false }]

set_option maxRecDepth 100000 in
theorem whole_no (s : ByteArray) (w : World) (hs : s.size ≤ 1000000) (h : (PB.head s.data.toList).2.2 ≠ 0 ∨ s.size < PB.span s.data.toList) :
    Calls Try.prog 49 #[.string s] w fun e w' => Throws 4 e ∧ ∃ n, w' = w.drewN n := by
  have hl := PB.head_le s.data.toList
  have hh := head_any s w (by unfold maxLen; omega)
  unfold PB.span at h
  generalize PB.head s.data.toList = p at hl hh h
  obtain ⟨a, n, er⟩ := p
  dsimp only at hl hh h
  obtain ⟨hl1, hl2⟩ := hl
  have HH := Lib.hid hh
  clear hh
  by_cases he : er = 0
  · subst he
    have h2 : decide ((s.size : Int) - a < n) = true := by simp; omega
    go_enter Try.func49, Try.ntmps49
    go_wp2_with (go_at_call 42; refine HH.out.mono ?_; rintro e w' ⟨rfl, nq, rfl⟩)
    exact ⟨rfl, rfl, _, rfl⟩
  · have h1 : ((er : Int) != 0) = true := by simp; omega
    clear he h
    go_enter Try.func49, Try.ntmps49
    go_wp2_with (go_at_call 42; refine HH.out.mono ?_; rintro e w' ⟨rfl, nq, rfl⟩)
    exact ⟨rfl, rfl, _, rfl⟩

set_option maxRecDepth 100000 in
theorem whole_yes (s : ByteArray) (w : World) (hs : s.size ≤ 1000000) (h : ¬ ((PB.head s.data.toList).2.2 ≠ 0 ∨ s.size < PB.span s.data.toList)) :
    Calls Try.prog 49 #[.string s] w fun e w' => e = .returned (.int .i64 (PB.span s.data.toList)) ∧ ∃ n, w' = w.drewN n := by
  have hl := PB.head_le s.data.toList
  have hh := head_any s w (by unfold maxLen; omega)
  unfold PB.span at h ⊢
  generalize PB.head s.data.toList = p at hl hh h
  obtain ⟨a, n, er⟩ := p
  dsimp only at hl hh h ⊢
  obtain ⟨hl1, hl2⟩ := hl
  have HH := Lib.hid hh
  clear hh
  obtain rfl : er = 0 := by omega
  have h2 : decide ((s.size : Int) - a < n) = false := by simp; omega
  have h3 : a + n ≤ s.size := by omega
  clear h
  go_enter Try.func49, Try.ntmps49
  go_wp2_with (go_at_call 42; refine HH.out.mono ?_; rintro e w' ⟨rfl, nq, rfl⟩)
  go_ret
  exact ⟨by go_num, _, rfl⟩

end Go.Proofs.Ytipphdadibdifaa

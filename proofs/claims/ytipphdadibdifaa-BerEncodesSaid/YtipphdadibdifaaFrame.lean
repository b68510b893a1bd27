/- Contracts of package frame: New, length, Feed, Rest, Broken. -/
import Derived.Test.YtipphdadibdifaaHead2
import Derived.Test.YtipphdadibdifaaPlainFrame
import Derived.Test.YtipphdadibdifaaWords
import Derived.Maps.AppendAt
import Derived.Deep.LoopGhost
import Derived.Outline
namespace Go.Proofs.Ytipphdadibdifaa
open Go.RowKit
open Go.PlainAid

/-- how long frame.length says the first value is. -/
def frontN (l : List UInt8) : Nat := if (PB.total l).2 = 0 then (PB.total l).1 else l.length + 1
theorem frontN_def (l : List UInt8) : frontN l = if (PB.total l).2 = 0 then (PB.total l).1 else l.length + 1 := rfl

/-- A call that tells an int and a bool and leaves memory as it is. -/
def TellsB (a : Int) (b : Bool) (w : World) (e : Ending) (w' : World) : Prop := e = .returned (.tuple #[.int .i64 a, .bool b]) ∧ ∃ n, w' = w.drewN n

set_option maxRecDepth 100000 in
theorem flength_bad (s : ByteArray) (w : World) (hs : s.size ≤ maxLen) (h0 : 0 < s.size) (hg : PB.good s.data.toList = false) :
    Calls Try.prog 34 #[.string s] w (TellsB 0 false w) := by
  have hl := length_any s w hs
  have hb := get_bt s 0 h0
  have t0 := byt_bt s 0
  unfold PB.good at hg
  generalize PB.total s.data.toList = p at hl hg
  obtain ⟨n, er⟩ := p
  dsimp only at hl hg
  have HH := Lib.hid hl
  clear hl
  by_cases h1 : bt s 0 = 48
  · have h2 : (bt s 0 != 48) = false := by simp [h1]
    have h3 : ((er : Int) == 0) = false := by
      have : PB.byt s.data.toList 0 = 48 := by omega
      simp [this] at hg; simp; omega
    have h4 : ((er : Int) == 3) = false := by
      have : PB.byt s.data.toList 0 = 48 := by omega
      simp [this] at hg; simp; omega
    clear h1 hg t0
    go_enter Try.func34, Try.ntmps34
    go_wp2_with (go_at_call 32; refine HH.out.mono ?_; rintro e w' ⟨rfl, nq, rfl⟩)
    go_ret2
    exact ⟨rfl, _, rfl⟩
  · have h2 : (bt s 0 != 48) = true := by simp [h1]
    clear h1 hg t0
    go_enter Try.func34, Try.ntmps34
    go_wp2_with fail
    go_ret2
    exact ⟨rfl, 0, rfl⟩

set_option maxRecDepth 100000 in
theorem flength_ok (s : ByteArray) (w : World) (hs : s.size < maxLen) (h0 : 0 < s.size) (hg : PB.good s.data.toList = true) :
    Calls Try.prog 34 #[.string s] w (TellsB (frontN s.data.toList) true w) := by
  have hl := length_any s w (Nat.le_of_lt hs)
  have hb := get_bt s 0 h0
  have t0 := byt_bt s 0
  have hf := frontN_def s.data.toList
  rw [len_size] at hf
  generalize frontN s.data.toList = m at hf
  unfold PB.good at hg
  generalize PB.total s.data.toList = p at hl hg hf
  obtain ⟨n, er⟩ := p
  dsimp only at hl hg hf
  unfold maxLen at hs
  simp only [Bool.and_eq_true, Bool.or_eq_true, beq_iff_eq] at hg
  obtain ⟨h1, hg⟩ := hg
  have HH := Lib.hid hl
  clear hl
  have h2 : (bt s 0 != 48) = false := by simp; omega
  clear t0 h1
  by_cases h3 : er = 0
  · subst h3
    rw [if_pos rfl] at hf
    subst hf
    clear hg
    go_enter Try.func34, Try.ntmps34
    go_wp2_with (go_at_call 32; refine HH.out.mono ?_; rintro e w' ⟨rfl, nq, rfl⟩)
    go_ret2
    exact ⟨rfl, _, rfl⟩
  · obtain rfl : er = 3 := by omega
    rw [if_neg h3] at hf
    subst hf
    clear hg h3
    go_enter Try.func34, Try.ntmps34
    go_wp2_with (go_at_call 32; refine HH.out.mono ?_; rintro e w' ⟨rfl, nq, rfl⟩)
    go_ret2
    exact ⟨by go_num, _, rfl⟩

end Go.Proofs.Ytipphdadibdifaa

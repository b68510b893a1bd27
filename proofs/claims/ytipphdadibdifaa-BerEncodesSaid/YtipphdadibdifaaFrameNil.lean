/- rollbooklaw27.FrameNil returns true for every string: a framer that is not there tells nothing. No condition. -/
import Derived.Test.YtipphdadibdifaaFrame2
namespace Go.Proofs.Ytipphdadibdifaa
open Go.RowKit
open Go.PlainAid

/-- A law's call: it returns true, and nothing that was there has turned. -/
def Holds (w : World) (e : Ending) (w' : World) : Prop := e = .returned (.bool true) ∧ Below w.heap.size w w'

theorem cut_ex1 : PB.cut 3 [48, 2, 2] = ([], [48, 2, 2], false) := by decide
theorem cut_ex2 : PB.cut 5 [48, 2, 2, 1, 48] = ([[48, 2, 2, 1]], [48], false) := by decide

theorem one_string {st : List ByteArray} {l : List UInt8} (h : st.map (·.data.toList) = [l]) : st = [⟨l.toArray⟩] := by
  match st, h with
  | [x], h =>
    simp at h
    subst h
    rfl

theorem str_of_list {r : ByteArray} {l : List UInt8} (h : r.data.toList = l) : r = ⟨l.toArray⟩ := by
  subst h; rfl

set_option maxRecDepth 100000 in
theorem awake27 (w : World) : Calls Try.prog 10 #[] w (Holds w) := by
  go_enter Try.func10, Try.ntmps10
  go_wp2_with fail
  refine (new_any _).mono ?_
  rintro e w1 ⟨rfl, rfl⟩
  have hb1 := Bk.new w 63 #[.string ByteArray.empty, .bool false]
  have hbel1 := (Below.refl w.heap.size w).alloc (Nat.le_refl _) (.cells #[.string ByteArray.empty, .bool false] 63)
  have hsz1 : w.heap.size < (w.alloc (.cells #[.string ByteArray.empty, .bool false] 63)).heap.size := hb1.lt
  generalize w.alloc (.cells #[.string ByteArray.empty, .bool false] 63) = w1 at *
  go_wp2_with fail
  refine (feed_any _ _ _ _ (by decide) hb1).mono ?_
  rintro e w2 ⟨v, st, r, rfl, hown, hst, hr, hbk, hoff⟩
  have hL : ByteArray.empty.data.toList ++ (⟨#[48, 2, 2]⟩ : ByteArray).data.toList = [48, 2, 2] := rfl
  rw [hL] at hst hr hbk ⊢
  rw [show ([48, 2, 2] : List UInt8).length = 3 from rfl, cut_ex1] at hst hr hbk ⊢
  dsimp only at hst hr hbk ⊢
  obtain rfl : st = [] := by simpa using hst
  obtain rfl := str_of_list hr
  obtain ⟨A, c, hv, hc, hc2, -, hsl, hA⟩ := own_slice hown
  rw [hv]
  have hsz2 := hoff.size
  have hbel2 : Below w.heap.size w w2 := hbel1.trans (hoff.below (by omega) (by simp))
  clear hst hr hown hv hsl hA hb1 hbel1 hoff
  simp only [List.length_nil]
  go_wp2_with fail
  refine (feed_any _ _ _ _ (by decide) hbk).mono ?_
  rintro e w3 ⟨v, st, r, rfl, hown, hst, hr, hbk3, hoff⟩
  have hL : (⟨#[48, 2, 2]⟩ : ByteArray).data.toList ++ (⟨#[1, 48]⟩ : ByteArray).data.toList = [48, 2, 2, 1, 48] := rfl
  rw [show (⟨[48, 2, 2].toArray⟩ : ByteArray).data.toList ++ (⟨#[1, 48]⟩ : ByteArray).data.toList = [48, 2, 2, 1, 48] from rfl] at hst hr hbk3 ⊢
  rw [show ([48, 2, 2, 1, 48] : List UInt8).length = 5 from rfl, cut_ex2] at hst hr hbk3 ⊢
  dsimp only at hst hr hbk3 ⊢
  obtain rfl := one_string hst
  obtain rfl := str_of_list hr
  obtain ⟨A2, c2, hv2, hc3, hc4, -, hsl2, hA2⟩ := own_slice hown
  obtain ⟨b2, o2, hA3, hb2, hcell⟩ := hsl2 0 _ rfl
  rw [Nat.add_zero] at hcell
  have hsz3 := hoff.size
  have hbel3 : Below w.heap.size w w3 := hbel2.trans (hoff.below (by omega) (by simp))
  rw [hv2, hA3]
  clear hst hr hown hv2 hsl2 hA2 hA3 hL hbk hbel2 hoff
  have hR := Lib.hid (rest_any _ _ _ _ hbk3)
  clear hbk3
  simp only [List.length_singleton]
  go_wp2_with (go_at_call 15; refine hR.out.mono ?_; rintro e w' ⟨rfl, rfl⟩)
  go_ret
  exact ⟨rfl, hbel3⟩

set_option maxRecDepth 100000 in
theorem frameNil_walk (s : ByteArray) (w : World) : Calls Try.prog 4 #[.string s] w (Holds w) := by
  have h1 := Lib.hid (awake27 w)
  have h2 := Lib.hid feed_nil
  have h3 := Lib.hid rest_nil
  have h4 := Lib.hid broken_nil
  go_enter Try.func4, Try.ntmps4
  go_wp2_with (first
    | (go_at_call 10; refine h1.out.mono ?_; rintro e w1 ⟨rfl, hb1⟩)
    | (go_at_call 12; refine (h2.out _ _).mono ?_; rintro e w2 ⟨rfl, rfl⟩)
    | (go_at_call 15; refine (h3.out _).mono ?_; rintro e w2 ⟨rfl, rfl⟩)
    | (go_at_call 16; refine (h4.out _).mono ?_; rintro e w2 ⟨rfl, rfl⟩))
  go_ret
  exact ⟨rfl, hb1⟩
end Go.Proofs.Ytipphdadibdifaa

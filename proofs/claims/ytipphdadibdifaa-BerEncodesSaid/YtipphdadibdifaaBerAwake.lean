/- The statements of layer 25 ask first: awake returns true. -/
import Derived.Test.YtipphdadibdifaaEncode
import Derived.Test.YtipphdadibdifaaHead2
import Derived.Test.YtipphdadibdifaaFrameNil
namespace Go.Proofs.Ytipphdadibdifaa
open Go.RowKit
open Go.PlainAid

set_option maxRecDepth 100000 in
theorem right_flat (c g : Int) (b : ByteArray) (w : World) (hc0 : 0 ≤ c) (hc3 : c ≤ 3) (hg0 : 0 ≤ g) (hg3 : g ≤ 30) :
    Calls Try.prog 38 #[.agg #[.int .i64 c, .bool false, .int .i64 g, .string b, .slice none 0 0], .int .i64 1] w fun e w' => e = .returned (.bool true) ∧ Below w.heap.size w w' := by
  have q1 : decide (c < 0) = false := by simp; omega
  have q2 : decide (3 < c) = false := by simp; omega
  have q3 : decide (g < 0) = false := by simp; omega
  have q4 : decide (31 ≤ g) = false := by simp; omega
  go_enter Try.func38, Try.ntmps38
  go_wp2_with fail
  go_ret
  exact ⟨rfl, (Below.refl _ _).alloc (Nat.le_refl _) _⟩

set_option maxRecDepth 100000 in
theorem encode_two (w : World) : Calls Try.prog 25 #[.agg (flat 0 2 ⟨#[1, 44]⟩)] w fun e w' => e = .returned (.tuple #[.string ⟨#[2, 2, 1, 44]⟩, .int .i64 0]) ∧ Below w.heap.size w w' := by
  have H1 := Lib.hid fun W : World => right_flat 0 2 ⟨#[1, 44]⟩ W (by decide) (by decide) (by decide) (by decide)
  have H2 := Lib.hid fun W : World => encode_flat 0 2 ⟨#[1, 44]⟩ none 0 0 W (by decide) (by decide) (by decide) (by decide) (by decide)
  have e : (⟨[UInt8.ofNat ((0 : Int) * 64 + 2).toNat].toArray⟩ ++ ⟨(PB.lenB (⟨#[1, 44]⟩ : ByteArray).size).toArray⟩ ++ ⟨#[1, 44]⟩ : ByteArray) = ⟨#[2, 2, 1, 44]⟩ := by decide
  rw [e] at H2
  clear e
  unfold flat
  go_enter Try.func25, Try.ntmps25
  go_wp2_with (first
    | (go_at_call 27; go_in)
    | (go_at_call 38; refine (H1.out _).mono ?_; rintro e w2 ⟨rfl, hb2⟩; obtain ⟨hcc, hff⟩ := bcell hb2)
    | (go_at_call 36; refine (H2.out _).mono ?_; rintro e w3 ⟨rfl, hb3⟩))
  go_ret2
  refine ⟨rfl, ?_⟩
  have h1 := ((Below.refl w.heap.size w).alloc (Nat.le_refl _) (.cells #[.int .i64 0, .bool false, .int .i64 2, .string ⟨#[1, 44]⟩, .slice none 0 0] 44)).alloc (by simp) (.cells #[.int .i64 0, .bool false, .int .i64 2, .string ⟨#[1, 44]⟩, .slice none 0 0] 44)
  have h2 := h1.trans (hb2.mono (by simp; omega))
  exact h2.trans (hb3.mono h2.size)

set_option maxRecDepth 100000 in
theorem awake25 (w : World) : Calls Try.prog 18 #[] w (Holds w) := by
  have H1 := Lib.hid (ofNumber_any 0 2 300 w (by decide) (by decide))
  have H2 := Lib.hid encode_two
  have H3 := Lib.hid fun W : World => length_any ⟨#[4, 128]⟩ W (by decide)
  have e : PB.total (⟨#[4, 128]⟩ : ByteArray).data.toList = (0, 4) := by decide
  rw [e] at H3
  have e2 : PB.ofNum 300 = [1, 44] := by decide
  have HE := Lib.hid e2
  clear e e2
  go_enter Try.func18, Try.ntmps18
  go_wp2_with (first
    | (go_at_call 20; refine H1.out.mono ?_; rintro e w1 ⟨⟨b, rfl, -, -, -, hb⟩, hb1⟩; rw [HE.out] at hb; obtain rfl := str_of_list hb; clear hb)
    | (go_at_call 25; refine (H2.out _).mono ?_; rintro e w2 ⟨rfl, hb2⟩)
    | (go_at_call 32; refine (H3.out _).mono ?_; rintro e w3 ⟨rfl, nq, rfl⟩))
  go_ret
  exact ⟨rfl, below_drewN (hb1.trans (hb2.mono hb1.size)) _⟩

end Go.Proofs.Ytipphdadibdifaa

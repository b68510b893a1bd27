/- Contract of the reference's Number. -/
import Derived.Test.YtipphdadibdifaaNumber
namespace Go.Proofs.Ytipphdadibdifaa
open Go.RowKit
open Go.PlainAid

/-- a number as 64 bits have it. -/
def m64 (x : Int) : Int := x % 18446744073709551616

/-- the number of the first j bytes; its sign alone at j = 0. -/
def sgnTo (b : ByteArray) (j : Nat) : Int := if j = 0 then (if bt b 0 < 128 then 0 else -1) else PB.sgn (b.data.toList.take j)

theorem sgnTo_pos (b : ByteArray) (h : bt b 0 < 128) : m64 (sgnTo b 0) = 0 := by
  unfold sgnTo
  rw [if_pos rfl, if_pos h]
  rfl
theorem sgnTo_neg (b : ByteArray) (h : ¬ bt b 0 < 128) : m64 (sgnTo b 0) = 18446744073709551615 := by
  unfold sgnTo
  rw [if_pos rfl, if_neg h]
  rfl
theorem sgnTo_next (b : ByteArray) (j : Nat) (h : j < b.size) : sgnTo b (j + 1) = sgnTo b j * 256 + bt b j := by
  unfold sgnTo
  rw [if_neg (by omega)]
  by_cases h0 : j = 0
  · subst h0
    rw [if_pos rfl, ← start_i8 b h]
    have h1 := bt_nonneg b 0
    have h2 := bt_le b 0
    have e2 : IntKind.i8.wrap (bt b 0) = if bt b 0 < 128 then bt b 0 else bt b 0 - 256 := by
      simp [IntKind.wrap, IntKind.bits, IntKind.signed]
      split <;> split <;> omega
    rw [e2, IntWalk.wrap64_in _ ⟨by split <;> omega, by split <;> omega⟩]
    split <;> omega
  · rw [if_neg h0, sgn_next b j (by omega) h]

theorem m64_step (s c : Int) : IntKind.u64.wrap (IntKind.u64.wrap (m64 s * 256) + c) = m64 (s * 256 + c) := by
  unfold m64
  rw [IntKind.wrap_u64, IntKind.wrap_u64]
  omega

theorem m64_back (b : ByteArray) (h0 : 0 < b.size) (h8 : b.size ≤ 8) : wrap64 (m64 (sgnTo b b.size)) = PB.sgn b.data.toList := by
  unfold sgnTo
  rw [if_neg (by omega), List.take_of_length_le (by rw [len_size]; omega)]
  have hb := PB.sgn_bound (b.size - 1) b.data.toList (by rw [len_size]; omega)
  have hh : PB.half (b.size - 1) ≤ 9223372036854775808 := by
    have : b.size - 1 = 0 ∨ b.size - 1 = 1 ∨ b.size - 1 = 2 ∨ b.size - 1 = 3 ∨ b.size - 1 = 4 ∨ b.size - 1 = 5 ∨ b.size - 1 = 6 ∨ b.size - 1 = 7 := by omega
    rcases this with h | h | h | h | h | h | h | h <;> (rw [h]; unfold PB.half; decide)
  generalize PB.sgn b.data.toList = s at *
  generalize PB.half (b.size - 1) = y at *
  unfold wrap64 m64
  omega

theorem tellsN_of {q q' er : Int} {w w' : World} (h : q' = q) (hb : Below w.heap.size w w') : TellsN q er w (.returned (.tuple #[.int .i64 q', .int .i64 er])) w' := by
  subst h
  exact ⟨rfl, hb⟩

set_option maxRecDepth 100000 in
theorem rnumber_no (c g : Int) (k : Bool) (b : ByteArray) (A : Option Addr) (n cap : Nat) (w : World) (hb : b.size ≤ maxLen) (h : PB.isNum k b.data.toList = false) :
    Calls Try.prog 24 #[.agg #[.int .i64 c, .bool k, .int .i64 g, .string b, .slice A n cap]] w (TellsN 0 4 w) := by
  unfold maxLen at hb
  unfold PB.isNum at h
  rw [len_size] at h
  have t0 := byt_bt b 0
  have t1 := byt_bt b 1
  cases k with
  | true =>
    go_enter Try.func24, Try.ntmps24
    go_wp2_with fail
    go_ret2
    exact ⟨rfl, (Below.refl _ _).alloc (Nat.le_refl _) _⟩
  | false =>
    by_cases h1 : b.size < 1
    · have q1 : decide ((b.size : Int) < 1) = true := by simp; omega
      clear h t0 t1
      go_enter Try.func24, Try.ntmps24
      go_wp2_with fail
      go_ret2
      exact ⟨rfl, (Below.refl _ _).alloc (Nat.le_refl _) _⟩
    have q1 : decide ((b.size : Int) < 1) = false := by simp; omega
    by_cases h8 : 8 < b.size
    · have q2 : decide ((8 : Int) < b.size) = true := by simp; omega
      clear h t0 t1
      go_enter Try.func24, Try.ntmps24
      go_wp2_with fail
      go_ret2
      exact ⟨rfl, (Below.refl _ _).alloc (Nat.le_refl _) _⟩
    have q2 : decide ((8 : Int) < b.size) = false := by simp; omega
    have hm : 1 < b.size ∧ (bt b 0 = 0 ∧ bt b 1 < 128 ∨ bt b 0 = 255 ∧ 128 ≤ bt b 1) := by
      simp [show 1 ≤ b.size by omega, show b.size ≤ 8 by omega] at h
      omega
    clear h t0 t1
    obtain ⟨hm1, hm2⟩ := hm
    have q3 : decide ((1 : Int) < b.size) = true := by simp; omega
    have hg0 := get_bt b 0 (by omega)
    have hg1 := get_bt b 1 (by omega)
    have h0 : 0 < b.size := by omega
    have b1n := bt_nonneg b 1
    rcases hm2 with ⟨h2, h3⟩ | ⟨h2, h3⟩
    · have q4 : (bt b 0 == 0) = true := by simp [h2]
      have q6 : ((bt b 1).tdiv 128 % 256 == 0) = true := by rw [Int.tdiv_eq_ediv_of_nonneg b1n]; simp; omega
      have b10 := bt_nonneg b 1
      clear h2
      go_enter Try.func24, Try.ntmps24
      go_wp2_with fail
      go_ret2
      exact ⟨rfl, (Below.refl _ _).alloc (Nat.le_refl _) _⟩
    · have q4 : (bt b 0 == 0) = false := by simp [h2]
      have q5 : (bt b 0 == 255) = true := by simp [h2]
      have q6 : ((bt b 1).tdiv 128 % 256 == 1) = true := by have := bt_le b 1; rw [Int.tdiv_eq_ediv_of_nonneg b1n]; simp; omega
      have b10 := bt_nonneg b 1
      clear h2
      go_enter Try.func24, Try.ntmps24
      go_wp2_with fail
      go_ret2
      exact ⟨rfl, (Below.refl _ _).alloc (Nat.le_refl _) _⟩

set_option maxRecDepth 100000 in
theorem rnumber_yes (c g : Int) (b : ByteArray) (A : Option Addr) (n cap : Nat) (w : World) (h : PB.isNum false b.data.toList = true) :
    Calls Try.prog 24 #[.agg #[.int .i64 c, .bool false, .int .i64 g, .string b, .slice A n cap]] w (TellsN (PB.sgn b.data.toList) 0 w) := by
  unfold PB.isNum at h
  rw [len_size] at h
  have t0 := byt_bt b 0
  have t1 := byt_bt b 1
  simp only [Bool.not_false, Bool.true_and, Bool.and_eq_true, decide_eq_true_eq, Bool.not_eq_true'] at h
  obtain ⟨⟨h1, h8⟩, hm⟩ := h
  have hm' : b.size = 1 ∨ (1 < b.size ∧ ¬ (bt b 0 = 0 ∧ bt b 1 < 128) ∧ ¬ (bt b 0 = 255 ∧ 128 ≤ bt b 1)) := by
    by_cases hx : b.size = 1
    · exact Or.inl hx
    · right
      simp [show 1 < b.size by omega] at hm
      omega
  clear hm t0 t1
  have q1 : decide ((b.size : Int) < 1) = false := by simp; omega
  have q2 : decide ((8 : Int) < b.size) = false := by simp; omega
  have hg0 := get_bt b 0 (by omega)
  have h0 : 0 < b.size := by omega
  have b1 := bt_nonneg b 0
  have b2 := bt_le b 0
  have b1n := bt_nonneg b 1
  have b1m := bt_le b 1
  have hcase : (∃ _ : decide ((1 : Int) < b.size) = false, b.size = 1) ∨ (1 < b.size ∧ (bt b 0 == 0) = true ∧ (bt b 1 / 128 == 0) = false ∧ (bt b 0 == 255) = false) ∨ (1 < b.size ∧ (bt b 0 == 0) = false ∧ (bt b 0 == 255) = true ∧ (bt b 1 / 128 == 1) = false) ∨ (1 < b.size ∧ (bt b 0 == 0) = false ∧ (bt b 0 == 255) = false) := by
    rcases hm' with hs | ⟨hs, hm1, hm2⟩
    · exact Or.inl ⟨by simp; omega, hs⟩
    · right
      by_cases hx : bt b 0 = 0
      · exact Or.inl ⟨hs, by simp [hx], by simp; omega, by simp; omega⟩
      · by_cases hy : bt b 0 = 255
        · exact Or.inr (Or.inl ⟨hs, by simp; omega, by simp [hy], by simp; omega⟩)
        · exact Or.inr (Or.inr ⟨hs, by simp; omega, by simp; omega⟩)
  clear hm'
  have hex : ∃ x : Int, x = bt b 1 := ⟨_, rfl⟩
  rcases hcase with ⟨q3, hs⟩ | ⟨hs, q4, q5, q6⟩ | ⟨hs, q4, q5, q6⟩ | ⟨hs, q4, q5⟩
  case' inl => have hs1 := Nat.le_of_eq hs; clear hs
  case' inr.inl => have hg1 := get_bt b 1 hs; have q3 : decide ((1 : Int) < b.size) = true := by simp; omega
  case' inr.inr.inl => have hg1 := get_bt b 1 hs; have q3 : decide ((1 : Int) < b.size) = true := by simp; omega
  case' inr.inr.inr => have hg1 := get_bt b 1 hs; have q3 : decide ((1 : Int) < b.size) = true := by simp; omega
  all_goals
    clear hex
    by_cases h128 : bt b 0 < 128
  any_goals (first | (exfalso; have z := q4; simp at z; omega) | (exfalso; have z := q5; simp at z; omega) | skip)
  all_goals
    go_enter Try.func24, Try.ntmps24
    go_wp2_with fail
    go_loop [5, 6] (fun x i => ∃ j : Nat, j ≤ b.size ∧ i = .int .i64 j ∧ x = .int .u64 (m64 (sgnTo b j))) (fun _ i => b.size - (intOf i).toNat)
    case atStart => exact ⟨0, by omega, rfl, by first | rw [sgnTo_pos b (by omega)] | rw [sgnTo_neg b (by omega)]⟩
    case round =>
      obtain ⟨j, hj, rfl, rfl⟩ := hrel
      by_cases hlt : j < b.size
      · have hb := get_bt b j hlt
        have hb1 := bt_nonneg b j
        have hb2 := bt_le b j
        have HX := Lib.hid (sgnTo_next b j hlt)
        generalize sgnTo b j = s at HX
        have HY := Lib.hid (m64_step s (bt b j))
        go_wp2_with fail
        go_round
        case rel => exact ⟨j + 1, by omega, by go_num, by rw [HY.out, HX.out]⟩
        case measure => simp [intOf]; omega
      · obtain rfl : j = b.size := by omega
        have HZ := Lib.hid (m64_back b h0 h8)
        go_wp2_with fail
        go_ret2
        exact tellsN_of HZ.out ((Below.refl _ _).alloc (Nat.le_refl _) _)

end Go.Proofs.Ytipphdadibdifaa

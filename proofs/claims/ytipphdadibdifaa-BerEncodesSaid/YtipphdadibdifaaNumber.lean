/- Contracts of ber.Number and the reference's Number. -/
import Derived.Test.YtipphdadibdifaaHead
import Derived.Test.YtipphdadibdifaaPlainNum
import Derived.Test.YtipphdadibdifaaWeigh
namespace Go.Proofs.Ytipphdadibdifaa
open Go.RowKit
open Go.PlainAid

/-- A call that tells a number and an error, and makes memory alone. -/
def TellsN (q : Int) (er : Int) (w : World) (e : Ending) (w' : World) : Prop := e = .returned (.tuple #[.int .i64 q, .int .i64 er]) ∧ Below w.heap.size w w'

set_option maxRecDepth 100000 in
theorem number_no (c g : Int) (k : Bool) (b : ByteArray) (A : Option Addr) (n cap : Nat) (w : World) (hb : b.size ≤ maxLen) (h : PB.isNum k b.data.toList = false) :
    Calls Try.prog 21 #[.agg #[.int .i64 c, .bool k, .int .i64 g, .string b, .slice A n cap]] w (TellsN 0 4 w) := by
  unfold maxLen at hb
  unfold PB.isNum at h
  rw [len_size] at h
  have t0 := byt_bt b 0
  have t1 := byt_bt b 1
  cases k with
  | true =>
    go_enter Try.func21, Try.ntmps21
    go_wp2_with fail
    go_ret2
    exact ⟨rfl, (Below.refl _ _).alloc (Nat.le_refl _) _⟩
  | false =>
    by_cases h1 : b.size < 1
    · have q1 : decide ((b.size : Int) < 1) = true := by simp; omega
      clear h t0 t1
      go_enter Try.func21, Try.ntmps21
      go_wp2_with fail
      go_ret2
      exact ⟨rfl, (Below.refl _ _).alloc (Nat.le_refl _) _⟩
    have q1 : decide ((b.size : Int) < 1) = false := by simp; omega
    by_cases h8 : 8 < b.size
    · have q2 : decide ((8 : Int) < b.size) = true := by simp; omega
      clear h t0 t1
      go_enter Try.func21, Try.ntmps21
      go_wp2_with fail
      go_ret2
      exact ⟨rfl, (Below.refl _ _).alloc (Nat.le_refl _) _⟩
    have q2 : decide ((8 : Int) < b.size) = false := by simp; omega
    have hm : 1 < b.size ∧ (bt b 0 = 0 ∧ bt b 1 < 128 ∨ bt b 0 = 255 ∧ 128 ≤ bt b 1) := by
      simp [show 1 ≤ b.size by omega, show b.size ≤ 8 by omega] at h
      omega
    clear h t0 t1
    obtain ⟨hm1, hm2⟩ := hm
    have q3 : decide ((1 : Int) < b.size) = true := by simp; omega
    have hg0 := get_bt b 0 (by omega)
    have hg1 := get_bt b 1 (by omega)
    have h0 : 0 < b.size := by omega
    rcases hm2 with ⟨h2, h3⟩ | ⟨h2, h3⟩
    · have q4 : (bt b 0 == 0) = true := by simp [h2]
      clear h2
      go_enter Try.func21, Try.ntmps21
      go_wp2_with fail
      go_ret2
      exact ⟨rfl, (Below.refl _ _).alloc (Nat.le_refl _) _⟩
    · have q4 : (bt b 0 == 0) = false := by simp [h2]
      have q5 : (bt b 0 == 255) = true := by simp [h2]
      clear h2
      go_enter Try.func21, Try.ntmps21
      go_wp2_with fail
      go_ret2
      exact ⟨rfl, (Below.refl _ _).alloc (Nat.le_refl _) _⟩

theorem half_small (k : Nat) (h : k ≤ 6) : PB.half k ≤ 36028797018963968 := by
  have : k = 0 ∨ k = 1 ∨ k = 2 ∨ k = 3 ∨ k = 4 ∨ k = 5 ∨ k = 6 := by omega
  rcases this with rfl | rfl | rfl | rfl | rfl | rfl | rfl <;> (unfold PB.half; decide)

theorem sgn_small (b : ByteArray) (j : Nat) (h1 : 1 ≤ j) (h : j < b.size) (h8 : b.size ≤ 8) : -36028797018963968 ≤ PB.sgn (b.data.toList.take j) ∧ PB.sgn (b.data.toList.take j) < 36028797018963968 := by
  have hb := PB.sgn_bound (j - 1) (b.data.toList.take j) (by rw [List.length_take, len_size]; omega)
  have hh := half_small (j - 1) (by omega)
  omega

theorem take_at (b : ByteArray) (j : Nat) (h : j < b.size) : b.data.toList.take (j + 1) = b.data.toList.take j ++ [b.data.toList.getD j 0] := by
  rw [List.take_succ_eq_append_getElem (by rw [len_size]; exact h), List.getD_eq_getElem?_getD, List.getElem?_eq_getElem (by rw [len_size]; exact h)]
  rfl

theorem sgn_next (b : ByteArray) (j : Nat) (h1 : 1 ≤ j) (h : j < b.size) : PB.sgn (b.data.toList.take (j + 1)) = PB.sgn (b.data.toList.take j) * 256 + bt b j := by
  have hne : b.data.toList.take j ≠ [] := by
    intro e
    have := congrArg List.length e
    rw [List.length_take, len_size, List.length_nil] at this
    omega
  rw [take_at b j h, PB.sgn_snoc _ _ hne, byt_bt]
  rfl

theorem start_i8 (b : ByteArray) (h : 0 < b.size) : wrap64 (IntKind.i8.wrap (bt b 0)) = PB.sgn (b.data.toList.take 1) := by
  have h1 := bt_nonneg b 0
  have h2 := bt_le b 0
  have e : PB.sgn (b.data.toList.take 1) = if bt b 0 < 128 then bt b 0 else bt b 0 - 256 := by
    have hl := take_at b 0 h
    rw [Nat.zero_add, List.take_zero, List.nil_append] at hl
    rw [hl, byt_bt]
    unfold PB.sgn PB.byt
    simp
    split <;> split <;> first | rfl | omega
  have e2 : IntKind.i8.wrap (bt b 0) = if bt b 0 < 128 then bt b 0 else bt b 0 - 256 := by
    simp [IntKind.wrap, IntKind.bits, IntKind.signed]
    split <;> split <;> omega
  rw [e, e2, IntWalk.wrap64_in _ ⟨by split <;> omega, by split <;> omega⟩]

set_option maxRecDepth 100000 in
theorem number_yes (c g : Int) (b : ByteArray) (A : Option Addr) (n cap : Nat) (w : World) (h : PB.isNum false b.data.toList = true) :
    Calls Try.prog 21 #[.agg #[.int .i64 c, .bool false, .int .i64 g, .string b, .slice A n cap]] w (TellsN (PB.sgn b.data.toList) 0 w) := by
  unfold PB.isNum at h
  rw [len_size] at h
  have t0 := byt_bt b 0
  have t1 := byt_bt b 1
  simp only [Bool.not_false, Bool.true_and, Bool.and_eq_true, decide_eq_true_eq, Bool.not_eq_true'] at h
  obtain ⟨⟨h1, h8⟩, hm⟩ := h
  have hm' : b.size = 1 ∨ (1 < b.size ∧ ¬ (bt b 0 = 0 ∧ bt b 1 < 128) ∧ ¬ (bt b 0 = 255 ∧ 128 ≤ bt b 1)) := by
    by_cases hx : b.size = 1
    · exact Or.inl hx
    · right
      simp [show 1 < b.size by omega] at hm
      omega
  clear hm t0 t1
  have q1 : decide ((b.size : Int) < 1) = false := by simp; omega
  have q2 : decide ((8 : Int) < b.size) = false := by simp; omega
  have hg0 := get_bt b 0 (by omega)
  have h0 : 0 < b.size := by omega
  have b1 := bt_nonneg b 0
  have b2 := bt_le b 0
  have HI := Lib.hid (start_i8 b h0)
  have hcase : (∃ _ : decide ((1 : Int) < b.size) = false, b.size = 1) ∨ (1 < b.size ∧ (bt b 0 == 0) = true ∧ decide (bt b 1 < 128) = false ∧ (bt b 0 == 255) = false) ∨ (1 < b.size ∧ (bt b 0 == 0) = false ∧ (bt b 0 == 255) = true ∧ decide (128 ≤ bt b 1) = false) ∨ (1 < b.size ∧ (bt b 0 == 0) = false ∧ (bt b 0 == 255) = false) := by
    rcases hm' with hs | ⟨hs, hm1, hm2⟩
    · exact Or.inl ⟨by simp; omega, hs⟩
    · right
      by_cases hx : bt b 0 = 0
      · exact Or.inl ⟨hs, by simp [hx], by simp; omega, by simp; omega⟩
      · by_cases hy : bt b 0 = 255
        · exact Or.inr (Or.inl ⟨hs, by simp; omega, by simp [hy], by simp; omega⟩)
        · exact Or.inr (Or.inr ⟨hs, by simp; omega, by simp; omega⟩)
  clear hm'
  have hex : ∃ x : Int, x = bt b 1 := ⟨_, rfl⟩
  rcases hcase with ⟨q3, hs⟩ | ⟨hs, q4, q5, q6⟩ | ⟨hs, q4, q5, q6⟩ | ⟨hs, q4, q5⟩
  case' inl => have hs1 := Nat.le_of_eq hs; clear hs
  case' inr.inl => have hg1 := get_bt b 1 hs; have q3 : decide ((1 : Int) < b.size) = true := by simp; omega
  case' inr.inr.inl => have hg1 := get_bt b 1 hs; have q3 : decide ((1 : Int) < b.size) = true := by simp; omega
  case' inr.inr.inr => have hg1 := get_bt b 1 hs; have q3 : decide ((1 : Int) < b.size) = true := by simp; omega
  all_goals
    clear hex
    go_enter Try.func21, Try.ntmps21
    go_wp2_with fail
    go_loop [5, 6] (fun x i => ∃ j : Nat, 1 ≤ j ∧ j ≤ b.size ∧ i = .int .i64 j ∧ x = .int .i64 (PB.sgn (b.data.toList.take j))) (fun _ i => b.size - (intOf i).toNat)
    case atStart => exact ⟨1, by omega, by omega, rfl, by rw [HI.out]⟩
    case round =>
      obtain ⟨j, hj1, hj, rfl, rfl⟩ := hrel
      by_cases hlt : j < b.size
      · have hb := get_bt b j hlt
        have hb1 := bt_nonneg b j
        have hb2 := bt_le b j
        obtain ⟨s1, s2⟩ := sgn_small b j hj1 hlt h8
        have HX := Lib.hid (sgn_next b j hj1 hlt)
        generalize PB.sgn (b.data.toList.take j) = s at s1 s2 HX
        have HY := Lib.hid (i64_or_byte s (bt b j) s1 s2 hb1 hb2)
        go_wp2_with fail
        go_round
        case rel => exact ⟨j + 1, by omega, by omega, by go_num, by rw [HY.out, HX.out]⟩
        case measure => simp [intOf]; omega
      · have hz : b.data.toList.take j = b.data.toList := List.take_of_length_le (by rw [len_size]; omega)
        rw [hz]
        clear hz
        go_wp2_with fail
        go_ret2
        exact ⟨rfl, (Below.refl _ _).alloc (Nat.le_refl _) _⟩

end Go.Proofs.Ytipphdadibdifaa

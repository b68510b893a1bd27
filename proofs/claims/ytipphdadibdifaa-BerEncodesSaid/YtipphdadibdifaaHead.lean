/- Contracts: ber.head and the reference's Head tell PB.head of the string's bytes; ber.Length and the reference's Total tell PB.total. For every string of the model. -/
import Derived.Test.YtipphdadibdifaaChecked
import Derived.Test.YtipphdadibdifaaPlainBer
import Derived.Test.YtipphdadibdifaaPlainBits
import Derived.WalkKit
import Derived.WalkSpells
import Derived.WalkLawsBesides
import Derived.Deep.QuietTactic
import Derived.BigQuiet
import Derived.Lib.Hide
namespace Go.Proofs.Ytipphdadibdifaa
open Go.RowKit
open Go.PlainAid

/-- A call that tells three ints and leaves memory as it is. -/
def Tells3 (a b c : Int) (w : World) (e : Ending) (w' : World) : Prop := e = .returned (.tuple #[.int .i64 a, .int .i64 b, .int .i64 c]) ∧ ∃ n, w' = w.drewN n
/-- A call that tells two ints and leaves memory as it is. -/
def Tells2 (a b : Int) (w : World) (e : Ending) (w' : World) : Prop := e = .returned (.tuple #[.int .i64 a, .int .i64 b]) ∧ ∃ n, w' = w.drewN n

theorem byt_bt (s : ByteArray) (k : Nat) : bt s k = (PB.byt s.data.toList k : Int) := bt_list s k
theorem len_size (s : ByteArray) : s.data.toList.length = s.size := rfl

theorem take_next (s : ByteArray) (j : Nat) (h : 2 + j < s.size) : (s.data.toList.drop 2).take (j + 1) = (s.data.toList.drop 2).take j ++ [s.data.toList.getD (2 + j) 0] := by
  have h' : j < (s.data.toList.drop 2).length := by rw [List.length_drop, len_size]; omega
  rw [List.take_succ_eq_append_getElem h', List.getElem_drop, List.getD_eq_getElem?_getD, List.getElem?_eq_getElem (by rw [len_size]; omega)]
  rfl

theorem num_next (s : ByteArray) (j : Nat) (h : 2 + j < s.size) : (PB.num ((s.data.toList.drop 2).take (j + 1)) : Int) = (PB.num ((s.data.toList.drop 2).take j) : Int) * 256 + bt s (2 + j) := by
  rw [take_next s j h, PB.num_snoc, byt_bt]
  unfold PB.byt
  omega

theorem num_small (s : ByteArray) (j : Nat) (h : j ≤ 3) : PB.num ((s.data.toList.drop 2).take j) < 16777216 := by
  have h1 := PB.num_lt ((s.data.toList.drop 2).take j)
  have hl : ((s.data.toList.drop 2).take j).length ≤ 3 := by rw [List.length_take]; omega
  have hp : 256 ^ ((s.data.toList.drop 2).take j).length ≤ 256 ^ 3 := Nat.pow_le_pow_right (by omega) hl
  rw [show (256 : Nat) ^ 3 = 16777216 from by decide] at hp
  generalize 256 ^ ((s.data.toList.drop 2).take j).length = x at h1 hp
  omega

/- ber.head, way by way -/

set_option maxRecDepth 100000 in
theorem head_nil (s : ByteArray) (w : World) (h0 : s.size = 0) :
    Calls Try.prog 42 #[.string s] w (Tells3 0 0 3 w) := by
  obtain rfl : s = ByteArray.empty := by simpa [ByteArray.size_eq_zero_iff] using h0
  go_enter Try.func42, Try.ntmps42
  go_wp2
  go_ret3
  exact ⟨rfl, 0, rfl⟩

set_option maxRecDepth 100000 in
theorem head_form (s : ByteArray) (w : World) (h0 : 0 < s.size) (h1 : bt s 0 % 32 = 31) :
    Calls Try.prog 42 #[.string s] w (Tells3 0 0 4 w) := by
  have hne := nonempty h0
  have hg := get_bt s 0 h0
  have e0 := u8_and31 _ (bt_nonneg s 0) (by have := bt_le s 0; omega)
  have h1' : (bt s 0 % 32 == 31) = true := by simp [h1]
  clear h1
  go_enter Try.func42, Try.ntmps42
  go_wp2_with fail
  go_ret3
  exact ⟨rfl, 0, rfl⟩

set_option maxRecDepth 100000 in
theorem head_one (s : ByteArray) (w : World) (h0 : 0 < s.size) (h2 : s.size < 2) (h1 : bt s 0 % 32 ≠ 31) :
    Calls Try.prog 42 #[.string s] w (Tells3 0 0 3 w) := by
  have hne := nonempty h0
  have hg := get_bt s 0 h0
  have e0 := u8_and31 _ (bt_nonneg s 0) (by have := bt_le s 0; omega)
  have h1' : (bt s 0 % 32 == 31) = false := by simp [h1]
  clear h1
  go_enter Try.func42, Try.ntmps42
  go_wp2_with fail
  go_ret3
  exact ⟨rfl, 0, rfl⟩

set_option maxRecDepth 100000 in
theorem head_small (s : ByteArray) (w : World) (hs : s.size ≤ maxLen) (h0 : 2 ≤ s.size) (h1 : bt s 0 % 32 ≠ 31) (h2 : bt s 1 < 128) :
    Calls Try.prog 42 #[.string s] w (Tells3 2 (bt s 1) 0 w) := by
  unfold maxLen at hs
  have hne := nonempty (s := s) (by omega)
  have hg := get_bt s 0 (by omega)
  have hg1 := get_bt s 1 (by omega)
  have e0 := u8_and31 _ (bt_nonneg s 0) (by have := bt_le s 0; omega)
  have h1' : (bt s 0 % 32 == 31) = false := by simp [h1]
  have h3 : 0 < s.size := by omega
  have h4 : 1 < s.size := by omega
  have b1 := bt_nonneg s 1
  have b2 := bt_le s 1
  clear h1
  go_enter Try.func42, Try.ntmps42
  go_wp2_with fail
  go_quiet (fail)
  go_wp2_with fail
  go_ret3
  exact ⟨rfl, _, rfl⟩

set_option maxRecDepth 100000 in
theorem head_none (s : ByteArray) (w : World) (hs : s.size ≤ maxLen) (h0 : 2 ≤ s.size) (h1 : bt s 0 % 32 ≠ 31) (h2 : 128 ≤ bt s 1) (h5 : bt s 1 = 128 ∨ 132 < bt s 1) :
    Calls Try.prog 42 #[.string s] w (Tells3 0 0 4 w) := by
  unfold maxLen at hs
  have hne := nonempty (s := s) (by omega)
  have hg := get_bt s 0 (by omega)
  have hg1 := get_bt s 1 (by omega)
  have e0 := u8_and31 _ (bt_nonneg s 0) (by have := bt_le s 0; omega)
  have h1' : (bt s 0 % 32 == 31) = false := by simp [h1]
  have h3 : 0 < s.size := by omega
  have h4 : 1 < s.size := by omega
  have b2 := bt_le s 1
  have e1 := u8_top (bt s 1) h2 b2
  clear h1
  rcases h5 with h5 | h5
  · have h6 : (bt s 1 - 128 == 0) = true := by simp; omega
    have h7 : 0 ≤ bt s 1 - 128 := by omega
    clear h5
    go_enter Try.func42, Try.ntmps42
    go_wp2_with fail
    go_ret3
    exact ⟨rfl, 0, rfl⟩
  · have h6 : (bt s 1 - 128 == 0) = false := by simp; omega
    have h8 : decide (4 < bt s 1 - 128) = true := by simp; omega
    go_enter Try.func42, Try.ntmps42
    go_wp2_with fail
    go_ret3
    exact ⟨rfl, 0, rfl⟩

set_option maxRecDepth 100000 in
theorem head_cut (s : ByteArray) (w : World) (hs : s.size ≤ maxLen) (h0 : 2 ≤ s.size) (h1 : bt s 0 % 32 ≠ 31) (h2 : 128 < bt s 1) (h5 : bt s 1 ≤ 132) (h9 : s.size < 2 + (bt s 1 - 128)) :
    Calls Try.prog 42 #[.string s] w (Tells3 0 0 3 w) := by
  unfold maxLen at hs
  have hne := nonempty (s := s) (by omega)
  have hg := get_bt s 0 (by omega)
  have hg1 := get_bt s 1 (by omega)
  have e0 := u8_and31 _ (bt_nonneg s 0) (by have := bt_le s 0; omega)
  have h1' : (bt s 0 % 32 == 31) = false := by simp [h1]
  have h3 : 0 < s.size := by omega
  have h4 : 1 < s.size := by omega
  have b2 := bt_le s 1
  have e1 := u8_top (bt s 1) (by omega) b2
  have h6 : (bt s 1 - 128 == 0) = false := by simp; omega
  have h8 : decide (4 < bt s 1 - 128) = false := by simp; omega
  clear h1
  go_enter Try.func42, Try.ntmps42
  go_wp2_with fail
  go_ret3
  exact ⟨rfl, 0, rfl⟩

set_option maxRecDepth 100000 in
theorem head_long (s : ByteArray) (w : World) (k : Nat) (hs : s.size ≤ maxLen) (h0 : 2 ≤ s.size) (h1 : bt s 0 % 32 ≠ 31) (hk1 : 0 < k) (hk4 : k ≤ 4) (hk : bt s 1 = 128 + k) (h9 : 2 + k ≤ s.size) :
    Calls Try.prog 42 #[.string s] w (Tells3 (2 + k) (PB.num ((s.data.toList.drop 2).take k)) 0 w) := by
  unfold maxLen at hs
  have hne := nonempty (s := s) (by omega)
  have hg := get_bt s 0 (by omega)
  have hg1 := get_bt s 1 (by omega)
  have e0 := u8_and31 _ (bt_nonneg s 0) (by have := bt_le s 0; omega)
  have h1' : (bt s 0 % 32 == 31) = false := by simp [h1]
  have h3 : 0 < s.size := by omega
  have h4 : 1 < s.size := by omega
  have b2 := bt_le s 1
  have e1 : bits BinOp.andNot IntKind.u8 (bt s 1) 128 = k := by rw [u8_top (bt s 1) (by omega) b2]; omega
  have h6 : ((k : Int) == 0) = false := by simp; omega
  have h8 : decide (4 < (k : Int)) = false := by simp; omega
  have h10 : ¬ bt s 1 < 128 := by omega
  have h11 : decide ((s.size : Int) < 2) = false := by simp; omega
  have h12 : decide ((s.size : Int) < 2 + k) = false := by simp; omega
  clear h1 hk
  go_enter Try.func42, Try.ntmps42
  go_wp2_with fail
  go_loop [6, 45] (fun n i => ∃ j : Nat, j ≤ k ∧ i = .int .i64 j ∧ n = .int .i64 (PB.num ((s.data.toList.drop 2).take j))) (fun _ i => k - (intOf i).toNat)
  case atStart => exact ⟨0, Nat.zero_le _, rfl, rfl⟩
  case round =>
    obtain ⟨j, hj, rfl, rfl⟩ := hrel
    by_cases hlt : j < k
    · have hlt' : decide ((j : Int) < k) = true := by simp; omega
      have hb := get_bt s (2 + j) (by omega)
      have hb1 := bt_nonneg s (2 + j)
      have hb2 := bt_le s (2 + j)
      have hi : 2 + j < s.size := by omega
      have HX := Lib.hid (num_next s j hi)
      have hnlt := num_small s j (by omega)
      obtain ⟨n, hn⟩ : ∃ n, n = PB.num ((s.data.toList.drop 2).take j) := ⟨_, rfl⟩
      rw [← hn] at HX hnlt ⊢
      have HY := Lib.hid (i64_or_256 n (bt s (2 + j)) (by omega) (by omega) hb1 hb2)
      clear hn
      go_wp2_with fail
      go_round
      case rel => exact ⟨j + 1, by omega, by go_num, by rw [HY.out, HX.out]⟩
      case measure => simp [intOf]; omega
    · have hlt' : decide ((j : Int) < k) = false := by simp; omega
      obtain rfl : j = k := by omega
      go_wp2_with fail
      go_ret3
      exact ⟨rfl, 0, rfl⟩

theorem head_any (s : ByteArray) (w : World) (hs : s.size ≤ maxLen) :
    Calls Try.prog 42 #[.string s] w (Tells3 (PB.head s.data.toList).1 (PB.head s.data.toList).2.1 (PB.head s.data.toList).2.2 w) := by
  unfold PB.head
  have t0 := byt_bt s 0
  have t1 := byt_bt s 1
  rw [len_size]
  split
  · exact head_nil s w (by omega)
  split
  · exact head_form s w (by omega) (by omega)
  split
  · exact head_one s w (by omega) (by omega) (by omega)
  split
  · have h := head_small s w hs (by omega) (by omega) (by omega)
    rw [t1] at h
    exact h
  split
  · exact head_none s w hs (by omega) (by omega) (by omega) (by omega)
  split
  · exact head_cut s w hs (by omega) (by omega) (by omega) (by omega) (by omega)
  · have h := head_long s w (PB.byt s.data.toList 1 - 128) hs (by omega) (by omega) (by omega) (by omega) (by omega) (by omega)
    have e : ((2 + (PB.byt s.data.toList 1 - 128) : Nat) : Int) = 2 + ((PB.byt s.data.toList 1 - 128 : Nat) : Int) := by omega
    simp only [e]
    exact h

end Go.Proofs.Ytipphdadibdifaa

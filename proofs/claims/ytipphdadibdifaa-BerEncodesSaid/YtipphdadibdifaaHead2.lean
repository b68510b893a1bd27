/- Contracts: the reference's Head tells PB.head; ber.Length and the reference's Total tell PB.total; frame.length. For every string of the model. -/
import Derived.Test.YtipphdadibdifaaHead
namespace Go.Proofs.Ytipphdadibdifaa
open Go.RowKit
open Go.PlainAid

set_option maxRecDepth 100000 in
theorem rhead_nil (s : ByteArray) (w : World) (h0 : s.size = 0) :
    Calls Try.prog 43 #[.string s] w (Tells3 0 0 3 w) := by
  obtain rfl : s = ByteArray.empty := by simpa [ByteArray.size_eq_zero_iff] using h0
  go_enter Try.func43, Try.ntmps43
  go_wp2
  go_ret3
  exact ⟨rfl, 0, rfl⟩

set_option maxRecDepth 100000 in
theorem rhead_form (s : ByteArray) (w : World) (h0 : 0 < s.size) (h1 : bt s 0 % 32 = 31) :
    Calls Try.prog 43 #[.string s] w (Tells3 0 0 4 w) := by
  have hg := get_bt s 0 h0
  have b1 := bt_nonneg s 0
  have b2 := bt_le s 0
  have h1' : (bt s 0 % 32 == 31) = true := by simp [h1]
  have h2 : decide ((1 : Int) ≤ s.size) = true := by simp; omega
  clear h1
  go_enter Try.func43, Try.ntmps43
  go_wp2_with fail
  go_ret3
  exact ⟨rfl, 0, rfl⟩

set_option maxRecDepth 100000 in
theorem rhead_one (s : ByteArray) (w : World) (h0 : 0 < s.size) (h2 : s.size < 2) (h1 : bt s 0 % 32 ≠ 31) :
    Calls Try.prog 43 #[.string s] w (Tells3 0 0 3 w) := by
  have hg := get_bt s 0 h0
  have b1 := bt_nonneg s 0
  have b2 := bt_le s 0
  have h1' : (bt s 0 % 32 == 31) = false := by simp [h1]
  have h3 : decide ((1 : Int) ≤ s.size) = true := by simp; omega
  clear h1
  go_enter Try.func43, Try.ntmps43
  go_wp2_with fail
  go_ret3
  exact ⟨rfl, 0, rfl⟩

set_option maxRecDepth 100000 in
theorem rhead_small (s : ByteArray) (w : World) (hs : s.size ≤ maxLen) (h0 : 2 ≤ s.size) (h1 : bt s 0 % 32 ≠ 31) (h2 : bt s 1 < 128) :
    Calls Try.prog 43 #[.string s] w (Tells3 2 (bt s 1) 0 w) := by
  unfold maxLen at hs
  have hg := get_bt s 0 (by omega)
  have hg1 := get_bt s 1 (by omega)
  have h1' : (bt s 0 % 32 == 31) = false := by simp [h1]
  have h3 : 0 < s.size := by omega
  have h4 : 1 < s.size := by omega
  have b0 := bt_nonneg s 0
  have b1 := bt_nonneg s 1
  have b2 := bt_le s 1
  have h5 : decide ((1 : Int) ≤ s.size) = true := by simp; omega
  clear h1
  go_enter Try.func43, Try.ntmps43
  go_wp2_with fail
  go_ret3
  exact ⟨rfl, 0, rfl⟩

set_option maxRecDepth 100000 in
theorem rhead_none (s : ByteArray) (w : World) (hs : s.size ≤ maxLen) (h0 : 2 ≤ s.size) (h1 : bt s 0 % 32 ≠ 31) (h2 : 128 ≤ bt s 1) (h5 : bt s 1 = 128 ∨ 132 < bt s 1) :
    Calls Try.prog 43 #[.string s] w (Tells3 0 0 4 w) := by
  unfold maxLen at hs
  have hg := get_bt s 0 (by omega)
  have hg1 := get_bt s 1 (by omega)
  have h1' : (bt s 0 % 32 == 31) = false := by simp [h1]
  have h3 : 0 < s.size := by omega
  have h4 : 1 < s.size := by omega
  have b0 := bt_nonneg s 0
  have b2 := bt_le s 1
  have h7 : decide ((1 : Int) ≤ s.size) = true := by simp; omega
  clear h1
  rcases h5 with h5 | h5
  · have h6 : decide (bt s 1 - 128 < 1) = true := by simp; omega
    clear h5
    go_enter Try.func43, Try.ntmps43
    go_wp2_with fail
    go_ret3
    exact ⟨rfl, 0, rfl⟩
  · have h6 : decide (bt s 1 - 128 < 1) = false := by simp; omega
    have h8 : decide (4 < bt s 1 - 128) = true := by simp; omega
    go_enter Try.func43, Try.ntmps43
    go_wp2_with fail
    go_ret3
    exact ⟨rfl, 0, rfl⟩

set_option maxRecDepth 100000 in
theorem rhead_cut (s : ByteArray) (w : World) (hs : s.size ≤ maxLen) (h0 : 2 ≤ s.size) (h1 : bt s 0 % 32 ≠ 31) (h2 : 128 < bt s 1) (h5 : bt s 1 ≤ 132) (h9 : s.size < 2 + (bt s 1 - 128)) :
    Calls Try.prog 43 #[.string s] w (Tells3 0 0 3 w) := by
  unfold maxLen at hs
  have hg := get_bt s 0 (by omega)
  have hg1 := get_bt s 1 (by omega)
  have h1' : (bt s 0 % 32 == 31) = false := by simp [h1]
  have h3 : 0 < s.size := by omega
  have h4 : 1 < s.size := by omega
  have b0 := bt_nonneg s 0
  have h7 : decide ((1 : Int) ≤ s.size) = true := by simp; omega
  have h6 : decide (bt s 1 - 128 < 1) = false := by simp; omega
  have h8 : decide (4 < bt s 1 - 128) = false := by simp; omega
  clear h1
  go_enter Try.func43, Try.ntmps43
  go_wp2_with fail
  go_ret3
  exact ⟨rfl, 0, rfl⟩

set_option maxRecDepth 100000 in
theorem rhead_long (s : ByteArray) (w : World) (k : Nat) (hs : s.size ≤ maxLen) (h0 : 2 ≤ s.size) (h1 : bt s 0 % 32 ≠ 31) (hk1 : 0 < k) (hk4 : k ≤ 4) (hk : bt s 1 = 128 + k) (h9 : 2 + k ≤ s.size) :
    Calls Try.prog 43 #[.string s] w (Tells3 (2 + k) (PB.num ((s.data.toList.drop 2).take k)) 0 w) := by
  unfold maxLen at hs
  have hg := get_bt s 0 (by omega)
  have hg1 : ((s[1]'(by omega)).toNat : Int) = 128 + k := by rw [get_bt s 1 (by omega)]; exact hk
  have h1' : (bt s 0 % 32 == 31) = false := by simp [h1]
  have h3 : 0 < s.size := by omega
  have h4 : 1 < s.size := by omega
  have b0 := bt_nonneg s 0
  have h7 : decide ((1 : Int) ≤ s.size) = true := by simp; omega
  have h6 : decide ((k : Int) < 1) = false := by simp; omega
  have h8 : decide (4 < (k : Int)) = false := by simp; omega
  have h11 : decide ((s.size : Int) < 2) = false := by simp; omega
  have h12 : decide ((s.size : Int) < 2 + k) = false := by simp; omega
  have h13 : (128 : Int) + k - 128 = k := by omega
  have h14 : decide ((128 : Int) + k < 128) = false := by simp; omega
  clear h1 hk
  go_enter Try.func43, Try.ntmps43
  go_wp2_with fail
  go_loop [5, 7] (fun n i => ∃ j : Nat, j ≤ k ∧ i = .int .i64 j ∧ n = .int .i64 (PB.num ((s.data.toList.drop 2).take j))) (fun _ i => k - (intOf i).toNat)
  case atStart => exact ⟨0, Nat.zero_le _, rfl, rfl⟩
  case round =>
    obtain ⟨j, hj, rfl, rfl⟩ := hrel
    by_cases hlt : j < k
    · have hlt' : decide ((j : Int) < k) = true := by simp; omega
      have hb := get_bt s (2 + j) (by omega)
      have hb1 := bt_nonneg s (2 + j)
      have hb2 := bt_le s (2 + j)
      have hi : 2 + j < s.size := by omega
      have HX := Lib.hid (num_next s j hi)
      have hnlt := num_small s j (by omega)
      obtain ⟨n, hn⟩ : ∃ n, n = PB.num ((s.data.toList.drop 2).take j) := ⟨_, rfl⟩
      rw [← hn] at HX hnlt ⊢
      clear hn
      go_wp2_with fail
      go_round
      case rel => exact ⟨j + 1, by omega, by go_num, by rw [HX.out]⟩
      case measure => simp [intOf]; omega
    · have hlt' : decide ((j : Int) < k) = false := by simp; omega
      obtain rfl : j = k := by omega
      go_wp2_with fail
      go_ret3
      exact ⟨rfl, 0, rfl⟩

theorem rhead_any (s : ByteArray) (w : World) (hs : s.size ≤ maxLen) :
    Calls Try.prog 43 #[.string s] w (Tells3 (PB.head s.data.toList).1 (PB.head s.data.toList).2.1 (PB.head s.data.toList).2.2 w) := by
  unfold PB.head
  have t0 := byt_bt s 0
  have t1 := byt_bt s 1
  rw [len_size]
  split
  · exact rhead_nil s w (by omega)
  split
  · exact rhead_form s w (by omega) (by omega)
  split
  · exact rhead_one s w (by omega) (by omega) (by omega)
  split
  · have h := rhead_small s w hs (by omega) (by omega) (by omega)
    rw [t1] at h
    exact h
  split
  · exact rhead_none s w hs (by omega) (by omega) (by omega) (by omega)
  split
  · exact rhead_cut s w hs (by omega) (by omega) (by omega) (by omega) (by omega)
  · have h := rhead_long s w (PB.byt s.data.toList 1 - 128) hs (by omega) (by omega) (by omega) (by omega) (by omega) (by omega)
    have e : ((2 + (PB.byt s.data.toList 1 - 128) : Nat) : Int) = 2 + ((PB.byt s.data.toList 1 - 128 : Nat) : Int) := by omega
    simp only [e]
    exact h

/- Length and Total -/

theorem length_any (s : ByteArray) (w : World) (hs : s.size ≤ maxLen) :
    Calls Try.prog 32 #[.string s] w (Tells2 (PB.total s.data.toList).1 (PB.total s.data.toList).2 w) := by
  have hl := PB.head_le s.data.toList
  have hh := head_any s w hs
  unfold PB.total
  generalize PB.head s.data.toList = p at hl hh
  obtain ⟨a, n, e⟩ := p
  dsimp only at hl hh ⊢
  obtain ⟨hl1, hl2⟩ := hl
  have HH := Lib.hid hh
  clear hh
  split
  · rename_i he
    have h1 : ((e : Int) != 0) = true := by simp; omega
    clear he
    go_enter Try.func32, Try.ntmps32
    go_wp2_with (go_at_call 42; refine HH.out.mono ?_; rintro e w' ⟨rfl, nq, rfl⟩)
    go_ret2
    exact ⟨rfl, _, rfl⟩
  · rename_i he
    obtain rfl : e = 0 := by omega
    clear he
    split
    · have h2 : decide ((8192 : Int) - a < n) = true := by simp; omega
      go_enter Try.func32, Try.ntmps32
      go_wp2_with (go_at_call 42; refine HH.out.mono ?_; rintro e w' ⟨rfl, nq, rfl⟩)
      go_ret2
      exact ⟨rfl, _, rfl⟩
    · have h2 : decide ((8192 : Int) - a < n) = false := by simp; omega
      go_enter Try.func32, Try.ntmps32
      go_wp2_with (go_at_call 42; refine HH.out.mono ?_; rintro e w' ⟨rfl, nq, rfl⟩)
      go_ret2
      exact ⟨by go_num, _, rfl⟩

theorem total_any (s : ByteArray) (w : World) (hs : s.size ≤ maxLen) :
    Calls Try.prog 33 #[.string s] w (Tells2 (PB.total s.data.toList).1 (PB.total s.data.toList).2 w) := by
  have hl := PB.head_le s.data.toList
  have hh := rhead_any s w hs
  unfold PB.total
  generalize PB.head s.data.toList = p at hl hh
  obtain ⟨a, n, e⟩ := p
  dsimp only at hl hh ⊢
  obtain ⟨hl1, hl2⟩ := hl
  have HH := Lib.hid hh
  clear hh
  split
  · rename_i he
    have h1 : ((e : Int) != 0) = true := by simp; omega
    clear he
    go_enter Try.func33, Try.ntmps33
    go_wp2_with (go_at_call 43; refine HH.out.mono ?_; rintro e w' ⟨rfl, nq, rfl⟩)
    go_ret2
    exact ⟨rfl, _, rfl⟩
  · rename_i he
    obtain rfl : e = 0 := by omega
    clear he
    split
    · have h2 : decide ((8192 : Int) < a + n) = true := by simp; omega
      go_enter Try.func33, Try.ntmps33
      go_wp2_with (go_at_call 43; refine HH.out.mono ?_; rintro e w' ⟨rfl, nq, rfl⟩)
      go_ret2
      exact ⟨rfl, _, rfl⟩
    · have h2 : decide ((8192 : Int) < a + n) = false := by simp; omega
      go_enter Try.func33, Try.ntmps33
      go_wp2_with (go_at_call 43; refine HH.out.mono ?_; rintro e w' ⟨rfl, nq, rfl⟩)
      go_ret2
      exact ⟨by go_num, _, rfl⟩

end Go.Proofs.Ytipphdadibdifaa

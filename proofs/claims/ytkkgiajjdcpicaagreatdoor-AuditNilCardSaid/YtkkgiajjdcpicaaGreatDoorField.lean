/- Contracts of field.Put and field.Take, and of the reference's, where they succeed. -/
import Derived.Test.YtkkgiajjdcpicaaGreatDoorKit
import Derived.Test.YtkkgiajjdcpicaaGreatDoorPlainBe
import Derived.Deep.OwnRows
namespace Go.Proofs.YtkkgiajjdcpicaaGreatDoor
open Go.RowKit
open Go.PlainAid

set_option maxRecDepth 100000
def TellsSE (s : ByteArray) (n : Int) (w : World) (e : Ending) (w' : World) : Prop := e = .returned (.tuple #[.string s, .int .i64 n]) ∧ Below w.heap.size w w'
theorem tellsSE_of {q q' : ByteArray} {n : Int} {w w' : World} (h : q = q') (hb : Below w.heap.size w w') : TellsSE q n w (.returned (.tuple #[.string q', .int .i64 n])) w' := by subst h; exact ⟨rfl, hb⟩

/-- What Put's row holds with i places to go. -/
def putCells (n k i : Nat) : Array Value := (List.replicate i (Value.int .u8 0) ++ u8s (Be.low n (k - i))).toArray

theorem putCells_step (n k m : Nat) (h : m < k) : (putCells n k (m + 1)).setIfInBounds m (.int .u8 ((n / 256 ^ (k - (m + 1)) : Nat) % 256 : Int)) = putCells n k m := by
  unfold putCells
  have e : k - m = (k - (m + 1)) + 1 := by omega
  rw [e]
  show _ = (List.replicate m (Value.int .u8 0) ++ (Value.int .u8 ((UInt8.ofNat (n / 256 ^ (k - (m + 1)) % 256)).toNat) :: u8s (Be.low n (k - (m + 1))))).toArray
  rw [List.replicate_succ', List.append_assoc, List.setIfInBounds_toArray, List.set_append_right _ _ (by simp)]
  simp

theorem pow256 (k : Nat) (h : k ≤ 8) : 256 ^ k ≤ 18446744073709551616 := Nat.le_trans (Nat.pow_le_pow_right (by decide) h) (by decide)

theorem made_u8 (k n : Nat) : madeCells #[Value.int .u8 0] k = putCells n k k := by
  unfold putCells
  rw [Nat.sub_self]
  apply Array.ext
  · simp [madeCells, u8s, Be.low]
  · intro i h1 h2
    simp [madeCells, u8s, Be.low]
    rw [Nat.mod_one]
    rfl

/-- Where Put's loop stands: i places to go. -/
def PutAt (w : World) (n k i : Nat) (wr : World) : Prop := i ≤ k ∧ Bk wr w.heap.size 5 (putCells n k i) ∧ Below w.heap.size w wr

theorem putCells_at (n k m : Nat) : (putCells n k (m + 1))[m]? = some (.int .u8 0) := by
  unfold putCells
  rw [List.getElem?_toArray, List.getElem?_append_left (by simp), List.getElem?_replicate, if_pos (by omega)]

theorem putCells_end (n k : Nat) (w : World) (W : World) (h : Bk W w.heap.size 5 (putCells n k 0)) :
    (convert 52 9 (.slice (some ⟨w.heap.size, 0, none⟩) k k)).run Tryz.prog W = .ok (.string ⟨(Be.low n k).toArray⟩) W := by
  refine conv_cells (by rw [Be.low_len]) fun j hj => ?_
  rw [Nat.zero_add, h.cell j]
  unfold putCells
  rw [List.getElem?_toArray, List.replicate_zero, List.nil_append, Nat.sub_zero]
  unfold u8s
  rw [List.getElem?_map, List.getElem?_eq_getElem hj]
  rfl

set_option maxRecDepth 100000 in
set_option maxHeartbeats 1000000 in
theorem put_ok (s : ByteArray) (n k : Nat) (w : World) (hs : s.size ≤ 1000000) (h1 : 1 ≤ k) (h8 : k ≤ 8) (hn : n < 256 ^ k) :
    Calls Tryz.prog 144 #[.string s, .int .u64 n, .int .i64 k] w (TellsSE (s ++ ⟨(Be.low n k).toArray⟩) 0 w) := by
  have hn64 : n < 18446744073709551616 := Nat.lt_of_lt_of_le hn (pow256 k h8)
  have hmk := run_make_row' (P := Tryz.prog) 52 5 (.int .u8 0) 1 Tryz.underlying52 info_u8 rfl .i64 .i64 k (by omega) (by omega) w
  rw [made_u8 k n] at hmk
  have HS := Lib.hid (show PutAt w n k k (w.alloc (.cells (putCells n k k) 5)) from ⟨Nat.le_refl _, Bk.new _ _ _, (Below.refl _ _).alloc (Nat.le_refl _) _⟩)
  have q1 : decide ((k : Int) < 1) = false := by simp; omega
  have q2 : decide (8 < (k : Int)) = false := by simp; omega
  have hq : (k < 8 ∧ decide ((k : Int) < 8) = true ∧ (n : Int) / 2 ^ (8 * k) = 0) ∨ (¬ k < 8 ∧ decide ((k : Int) < 8) = false) := by
    by_cases hk8 : k < 8
    · refine Or.inl ⟨hk8, by simp; omega, ?_⟩
      have e : (2 : Nat) ^ (8 * k) = 256 ^ k := by rw [Nat.pow_mul]
      have := Nat.div_eq_of_lt (show n < 2 ^ (8 * k) by rw [e]; exact hn)
      exact_mod_cast this
    · exact Or.inr ⟨hk8, by simp; omega⟩
  have HN64 := Lib.hid hn64
  clear hn hn64
  rcases hq with ⟨hk8, q3, e3⟩ | ⟨hk8, q3⟩
  all_goals
    go_enter Tryz.func144, Tryz.ntmps144
    go_wp2_with fail
    go_loopw [1, 9] (fun x i wr => ∃ (j : Nat), i = .int .i64 ((j : Int) - 1) ∧ x = .int .u64 ((n / 256 ^ (k - j) : Nat)) ∧ PutAt w n k j wr) (fun _ i _ => (intOf i + 1).toNat)
    case atStart => exact ⟨k, rfl, by rw [Nat.sub_self]; simp, HS.out⟩
    case round =>
      clear HS hmk
      obtain ⟨j, rfl, rfl, hj, hb, hbl⟩ := hrel
      cases j with
      | zero =>
        have hcv := putCells_end n k w wr hb
        have e : (((0 : Nat) : Int) - 1) = -1 := by omega
        rw [e]
        have hsz : (⟨(Be.low n k).toArray⟩ : ByteArray).size ≤ 8 := by rw [size_list, Be.low_len]; exact h8
        generalize (⟨(Be.low n k).toArray⟩ : ByteArray) = ls at *
        clear e hb
        go_wp2_with fail
        go_ret2
        exact tellsSE_of rfl hbl
      | succ m =>
        have e : (((m + 1 : Nat) : Int) - 1) = m := by omega
        rw [e]
        have hc := hb.cell m
        rw [putCells_at n k m] at hc
        have hf := hb.frozen m
        have HB := Lib.hid (hb.put m (.int .u8 ((n / 256 ^ (k - (m + 1)) : Nat) % 256 : Int)))
        have HST := Lib.hid (putCells_step n k m (by omega))
        have HL := Lib.hid hbl
        have HD := Lib.hid (show n / 256 ^ (k - (m + 1)) / 256 = n / 256 ^ (k - m) by rw [Be.div_step]; congr 2; omega)
        clear e hb hbl
        generalize n / 256 ^ (k - (m + 1)) = x at *
        go_wp2_with fail
        go_roundw
        case rel => exact ⟨m, by go_num, by rw [← HD.out]; go_num, by omega, by rw [← HST.out]; exact HB.out, HL.out.setCell (Nat.le_refl _) _⟩
        case measure => simp [intOf]
end Go.Proofs.YtkkgiajjdcpicaaGreatDoor

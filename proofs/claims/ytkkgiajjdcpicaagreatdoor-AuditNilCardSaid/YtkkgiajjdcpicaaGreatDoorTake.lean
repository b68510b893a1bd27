/- Contracts of field.Take, and of the reference's, where they succeed. -/
import Derived.Test.YtkkgiajjdcpicaaGreatDoorField
import Derived.Laws.BitsAllLaws
namespace Go.Proofs.YtkkgiajjdcpicaaGreatDoor
open Go.RowKit
open Go.PlainAid
set_option maxRecDepth 100000

/-- The number that stands there. -/
def numAt (s : ByteArray) (p k : Nat) : Nat := Be.num ((s.data.toList.drop p).take k)

def TellsUE (n : Nat) (w : World) (e : Ending) (w' : World) : Prop := e = .returned (.tuple #[.int .u64 n, .int .i64 0]) ∧ Below w.heap.size w w'
theorem tellsUE_of {n : Nat} {z : Int} {w w' : World} (h : (n : Int) = z) (hb : Below w.heap.size w w') : TellsUE n w (.returned (.tuple #[.int .u64 z, .int .i64 0])) w' := by subst h; exact ⟨rfl, hb⟩

theorem or_step (n c : Nat) (hn : n < 72057594037927936) (hc : c < 256) : bits .or .u64 ((n : Int) * 256) (c : Int) = ((n * 256 + c : Nat) : Int) := by
  have h := u64_or_nat (n * 256) c (by omega) (by omega)
  rw [nat_or_256 n c hc] at h
  rw [← h]
  congr 1

theorem num_take_lt (l : List UInt8) (j : Nat) (hj : j ≤ 7) : Be.num (l.take j) < 72057594037927936 := by
  have h := Be.num_lt (l.take j)
  have h2 : 256 ^ (l.take j).length ≤ 256 ^ 7 := Nat.pow_le_pow_right (by decide) (by rw [List.length_take]; omega)
  have h3 : 256 ^ 7 = 72057594037927936 := by decide
  omega

theorem num_take_snoc (l : List UInt8) (j : Nat) (h : j < l.length) : Be.num (l.take (j + 1)) = Be.num (l.take j) * 256 + l[j].toNat := by
  rw [List.take_succ_eq_append_getElem h, Be.num_snoc]

set_option maxHeartbeats 1000000 in
theorem take_ok (s : ByteArray) (p k : Nat) (w : World) (hs : s.size ≤ 1000000) (h1 : 1 ≤ k) (h8 : k ≤ 8) (hp : p + k ≤ s.size) :
    Calls Tryz.prog 104 #[.string s, .int .i64 p, .int .i64 k] w (TellsUE (numAt s p k) w) := by
  have q1 : decide ((k : Int) < 1) = false := by simp; omega
  have q2 : decide (8 < (k : Int)) = false := by simp; omega
  have q3 : decide ((p : Int) < 0) = false := by simp
  have q4 : p ≤ s.size := by omega
  have q5 : decide ((s.size : Int) - p < k) = false := by simp; omega
  have q6 : decide (s.size < p) = false := by simp; omega
  have hl : (s.extract p (p + k)).data.toList = (s.data.toList.drop p).take k := by rw [extract_list]; congr 1; omega
  have hsz : (s.extract p (p + k)).size = k := by rw [ByteArray.size_extract]; omega
  have HE := Lib.hid (show numAt s p k = Be.num (s.extract p (p + k)).data.toList by unfold numAt; rw [hl])
  obtain ⟨A, cap, W1, hcv, hown, hb1⟩ := conv_bytes (s.extract p (p + k)) (by rw [hsz]; unfold maxLen; omega) w
  rw [hsz] at hcv hown
  obtain ⟨A2, c2, hA2, -, -, -, hsl, -⟩ := hown.slice
  simp only [Value.slice.injEq, true_and] at hA2
  obtain ⟨rfl, rfl⟩ := hA2
  have hlen : (s.extract p (p + k)).data.toList.length = k := by rw [len_size, hsz]
  have HB := Lib.hid hb1
  have HS := Lib.hid hsl
  have HLEN := Lib.hid hlen
  generalize (s.extract p (p + k)).data.toList = l at *
  clear hl hsz hown hb1 hsl hlen
  go_enter Tryz.func104, Tryz.ntmps104
  go_wp2_with fail
  clear hcv
  go_loop [8, 43] (fun x i => ∃ (j : Nat), i = .int .i64 j ∧ x = .int .u64 (Be.num (l.take j) : Nat) ∧ j ≤ k) (fun _ i => k - (intOf i).toNat)
  case atStart => exact ⟨0, rfl, by simp [Be.num], Nat.zero_le _⟩
  case round =>
    obtain ⟨j, rfl, rfl, hj⟩ := hrel
    by_cases hlt : j < k
    · have hjl : j < l.length := by rw [HLEN.out]; exact hlt
      obtain ⟨b, o, rfl, hbl, hc⟩ := HS.out j (.int .u8 (l[j].toNat : Nat)) (by unfold u8s; rw [List.getElem?_map, List.getElem?_eq_getElem hjl]; rfl)
      have HN := Lib.hid (num_take_snoc l j hjl)
      have hx := num_take_lt l j (by omega)
      have e1 := or_step _ _ hx (show l[j].toNat < 256 by have := l[j].toNat_lt; omega)
      have hcl := l[j].toNat_lt
      generalize Be.num (l.take j) = x at *
      generalize l[j].toNat = c at *
      go_wp2_with fail
      go_round
      case rel => exact ⟨j + 1, by go_num, by rw [HN.out]; go_num, by omega⟩
      case measure => simp [intOf]; omega
    · obtain rfl : j = k := by omega
      have HT := Lib.hid (show l.take j = l from List.take_of_length_le (by rw [HLEN.out]; exact Nat.le_refl _))
      go_wp2_with fail
      go_ret2
      exact tellsUE_of (by rw [HE.out, HT.out]) HB.out

theorem drop_take_at (l : List UInt8) (p k j : Nat) (hj : j < k) (hp : p + k ≤ l.length) : ((l.drop p).take k)[j]'(by rw [List.length_take, List.length_drop]; omega) = l[p + j]'(by omega) := by
  simp

/-- Where the reference's Put stands: j places to go. -/
def RPutAt (w : World) (n k j : Nat) (v : Value) (wr : World) : Prop :=
  j ≤ k ∧ (∃ A c, v = .slice A (k - j) c) ∧ wr.ownsRow w.heap.size 5 1 v (k - j) (u8s ((Be.low n k).take (k - j))) ∧ Below w.heap.size w wr

theorem low_at (n k m : Nat) (h : m < k) : (Be.low n k).take (k - m) = (Be.low n k).take (k - (m + 1)) ++ [UInt8.ofNat (n / 256 ^ m % 256)] := by
  have e : k - m = (k - (m + 1)) + 1 := by omega
  have h0 := Be.low_of_div n (m + 1) (k - (m + 1))
  rw [show k - (m + 1) + (m + 1) = k by omega] at h0
  rw [← h0, e]
  have hl := Be.low_len (n / 256 ^ (m + 1)) (k - (m + 1))
  show ((Be.low (n / 256 ^ (m + 1)) (k - (m + 1))) ++ (UInt8.ofNat (n / 256 ^ m % 256) :: Be.low n m)).take (k - (m + 1) + 1) = ((Be.low (n / 256 ^ (m + 1)) (k - (m + 1))) ++ (UInt8.ofNat (n / 256 ^ m % 256) :: Be.low n m)).take (k - (m + 1)) ++ [UInt8.ofNat (n / 256 ^ m % 256)]
  generalize Be.low (n / 256 ^ (m + 1)) (k - (m + 1)) = a at *
  rw [← hl, List.take_left]
  simp [List.take_append, List.take_of_length_le]

theorem top_lt (n k : Nat) (h1 : 1 ≤ k) (hn : n < 256 ^ k) : n / 256 ^ (k - 1) < 256 := by
  refine Nat.div_lt_of_lt_mul ?_
  rw [← Nat.pow_succ, Nat.succ_eq_add_one, show k - 1 + 1 = k by omega]
  exact hn

theorem sl_new (w : World) (e : TypeId) (v : Value) : Sl (w.alloc (.cells #[v] e)) (some ⟨w.heap.size, 0, none⟩) [v] := by
  intro j u hu
  cases j with
  | zero =>
    simp at hu
    subst hu
    exact ⟨w.heap.size, 0, rfl, by simp, by simp⟩
  | succ j => simp at hu

end Go.Proofs.YtkkgiajjdcpicaaGreatDoor

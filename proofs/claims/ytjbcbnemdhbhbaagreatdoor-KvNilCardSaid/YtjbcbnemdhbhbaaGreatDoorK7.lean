import Derived.Test.YtjbcbnemdhbhbaaGreatDoorK5
import Derived.Test.YtjbcbnemdhbhbaaGreatDoorK6
import Derived.Laws.MakeOwn
import Derived.Laws.CopyOwn
import Derived.Test.YtjbcbnemdhbhbaaGreatDoorK2
import Derived.Test.YtjbcbnemdhbhbaaGreatDoorK0
namespace Go.Proofs.YtjbcbnemdhbhbaaGreatDoor
open Go.RowKit
open Go.PlainAid
set_option maxRecDepth 100000
set_option linter.unusedVariables false
set_option linter.unusedSimpArgs false
theorem mul_one_any (n : Nat) (hn : n ≤ 2048) (w : World) : Calls Tryz.prog 150 #[.int .u64 1, .int .u64 (n : Int)] w fun e w' => e = .returned (.tuple #[.int .u64 0, .int .u64 (n : Int)]) ∧ w = w' := by
  refine (Tryz.bits_Mul 1 n (by omega) (by omega) w).mono ?_
  rintro e w' ⟨rfl, rfl⟩
  refine ⟨?_, rfl⟩
  have h1 : 1 * n / 18446744073709551616 = 0 := by omega
  have h2 : 1 * n % 18446744073709551616 = n := by omega
  rw [h1, h2]
  rfl
def repRow (x : ByteArray) (n k : Nat) : List Value := List.replicate k (.string x) ++ List.replicate (n - k) (.string ByteArray.empty)
theorem repRow_len (x : ByteArray) {n k : Nat} (h : k ≤ n) : (repRow x n k).length = n := by simp [repRow]; omega
theorem repRow_end (x : ByteArray) (n : Nat) : repRow x n n = List.replicate n (.string x) := by simp [repRow]
theorem repRow_splice (x : ByteArray) (n k m : Nat) (h : k + m ≤ n) : splice (repRow x n k) k (List.replicate m (.string x)) = repRow x n (k + m) := by
  unfold splice repRow
  rw [List.take_left' (by simp), ← List.append_assoc, List.replicate_append_replicate, List.length_replicate, List.drop_append, List.drop_of_length_le (by simp), List.length_replicate, List.nil_append, List.drop_replicate]
  congr 2
  omega
theorem repRow_cell {w : World} {b n k : Nat} {x : ByteArray} (h : Bk w b 9 (repRow x n k).toArray) (m : Nat) (hm : m ≤ k) : ∀ (j : Nat) v, (List.replicate m (Value.string x))[j]? = some v → w.cell? ((⟨b, 0, none⟩ : Addr).add j) = some v := by
  intro j v hv
  obtain ⟨hj, rfl⟩ := List.getElem?_eq_some_iff.1 hv
  simp at hj
  rw [add_zero_addr, h.cell j]
  simp only [List.getElem_replicate]
  unfold repRow
  rw [List.getElem?_toArray, List.getElem?_append_left (by simp; omega), List.getElem?_replicate, if_pos (by omega)]
theorem rep_one (x : ByteArray) (m : Nat) : ∀ v ∈ List.replicate m (Value.string x), v.oneCell' = true := by
  intro v hv
  obtain ⟨_, rfl⟩ := List.mem_replicate.1 hv
  rfl
def RepPost (x : ByteArray) (n : Nat) (w : World) (e : Ending) (w' : World) : Prop :=
  e = .returned (.slice (some ⟨w.heap.size, 0, none⟩) n n) ∧ Bk w' w.heap.size 9 (List.replicate n (Value.string x)).toArray ∧ Below w.heap.size w w'
set_option maxHeartbeats 4000000 in
theorem repeat_strs (x : ByteArray) (b n : Nat) (w : World) (hb : Bk w b 9 #[.string x]) (h0 : 0 < n) (h1 : n ≤ 2048) :
    Calls Tryz.prog 97 #[.slice (some ⟨b, 0, none⟩) 1 1, .int .i64 (n : Int)] w (RepPost x n w) := by
  have HB := Lib.hid hb
  obtain ⟨inf, hi, hz0, hz1, hz2⟩ := info_parts info_str
  have hmk : ∀ W : World, (Instr.makeSlice 72 (.int .i64 (n : Int)) (.int .i64 (n : Int))).run Tryz.prog W = .ok (.slice (some ⟨W.heap.size, 0, none⟩) n n) (W.alloc (.cells (repRow x n 0).toArray 9)) := fun W => by
    have h := run_make (P := Tryz.prog) W 72 9 inf (.string ByteArray.empty) Tryz.underlying72 hi hz0 .i64 .i64 (n : Int) (n : Int) (by omega) (Int.le_refl _) (by rw [hz2]; omega) (by omega)
    rw [Int.toNat_natCast, hz1, Nat.mul_one] at h
    rw [h]
    have e : madeCells (Value.string ByteArray.empty).cells n = (repRow x n 0).toArray := by
      unfold madeCells repRow
      refine Array.ext (by simp) (fun i h1 h2 => ?_)
      simp [Value.cells, Nat.mod_one]
    rw [e]
  clear hi hz0 hz1 hz2 hb
  have q1 : decide ((n : Int) < 0) = false := by simp
  have q2 : decide ((9223372036854775807 : Int) < (n : Int)) = false := by simp; omega
  have HN := Lib.hid h1
  have hszs : (Tryz.prog.info? 9).map (·.size) = some 1 := by kernel_rfl
  have hmin : Nat.min 1 n = 1 := by simp [Nat.min_def]; omega
  have HMIN := Lib.hid hmin
  have HSRC : Hid (∀ j v, [Value.string x][j]? = some v → (w.alloc (.cells (repRow x n 0).toArray 9)).cell? ((⟨b, 0, none⟩ : Addr).add j) = some v) := fun j v hv => by
    obtain ⟨hj, rfl⟩ := List.getElem?_eq_some_iff.1 hv
    simp at hj
    subst hj
    rw [add_zero_addr]
    simpa using (HB.out.alloc (.cells (repRow x n 0).toArray 9)).cell 0
  have HFIT : Hid (0 + [Value.string x].length ≤ (repRow x n 0).length) := show _ ≤ _ by rw [repRow_len x (by omega)]; simp; omega
  have HSZS := Lib.hid hszs
  clear hmin hszs
  go_enter Tryz.func97, Tryz.ntmps97
  go_wp2_with (first
    | (go_at_call 150; refine (mul_one_any n HN.out _).mono ?_; rintro e w' ⟨rfl, rfl⟩)
    | (refine wpList_copy_splice rfl (.tmp 31) (.tmp 32) 72 72 rfl 9 Tryz.underlying72 HSZS.out _ _ n n 1 1 rfl rfl w.heap.size 0 (repRow x n 0) 9 (heap_alloc_new w _) [.string x] (by rw [HMIN.out]; rfl) (fun _ => ⟨rfl, _, rfl, HSRC.out⟩) HFIT.out (rep_one x 1) w.heap.size w (Below.alloc (Below.refl _ _) (Nat.le_refl _) _) (Nat.le_refl _) ?_; intro w2 hg2 hb2)
    | fail)
  have HB2 := Lib.hid hb2
  have hR : w.heap.size < w2.heap.size := lt_of_block hg2.out
  clear hb2
  go_loopw [8] (fun c wr => ∃ k : Nat, 1 ≤ k ∧ k ≤ n ∧ c = .int .i64 (k : Int) ∧ Bk wr w.heap.size 9 (repRow x n k).toArray ∧ Below w.heap.size w wr) (fun c _ => n - (intOf c).toNat)
  case atStart =>
    refine ⟨1, Nat.le_refl _, by omega, rfl, ?_, HB2.out⟩
    have h := hg2.out
    have e : splice (repRow x n 0) 0 [Value.string x] = repRow x n 1 := repRow_splice x n 0 1 (by omega)
    rw [e] at h
    exact h
  case round =>
    obtain ⟨k, hk1, hk2, rfl, hbk, hbel⟩ := hrel
    have HBK := Lib.hid hbk
    have HBE := Lib.hid hbel
    clear hbk hbel
    by_cases hlt : k < n
    · have hm1 : Nat.min k (n - k) ≤ k := Nat.min_le_left _ _
      have hm2 : Nat.min k (n - k) ≤ n - k := Nat.min_le_right _ _
      have hm0 : 0 < Nat.min k (n - k) := by simp only [Nat.min_def]; split <;> omega
      have HMN : Hid (Nat.min k (n - k) = Nat.min k (n - k)) := rfl
      generalize hM : Nat.min k (n - k) = M at *
      have HM := Lib.hid hM
      have i0 : (0 : Int) ≤ (k : Int) := by omega
      have i1 : (k : Int) ≤ (n : Int) := by omega
      have i2 : decide ((k : Int) < (n : Int)) = true := by simp; omega
      have i3 : IntKind.i64.wrap ((k : Int) + (M : Int)) = (k : Int) + (M : Int) := IntWalk.i64_in _ (by omega)
      have i4 : ¬ (n = k) := by omega
      have HLEN : Hid ((List.replicate M (Value.string x)).length = Nat.min k (n - k)) := show _ = _ by rw [HM.out]; simp
      have HF2 : Hid (k + (List.replicate M (Value.string x)).length ≤ (repRow x n k).length) := show _ ≤ _ by rw [repRow_len x hk2]; simp; omega
      have HSR : Hid (∀ j v, (List.replicate M (Value.string x))[j]? = some v → wr.cell? ((⟨w.heap.size, 0, none⟩ : Addr).add j) = some v) := repRow_cell HBK.out M hm1
      clear hM HMN
      go_wp2_with fail
      go_region_held3 (fun W => True) (trivial)
        ((refine step_copy_splice rfl (.tmp 41) (.tmp 44) 72 72 (by rfl) 9 Tryz.underlying72 HSZS.out _ _ (n - k) (n - k) k n (by rfl) (by rfl) w.heap.size k (repRow x n k) 9 HBK.out (List.replicate M (.string x)) HLEN.out (fun _ => ⟨rfl, _, rfl, HSR.out⟩) HF2.out (rep_one x M) w.heap.size w HBE.out.drew (Nat.le_refl _) ?_; intro w3 hg3 hb3))
      go_roundw
      case rel =>
        (repeat apply Exists.intro)
        refine ⟨⟨k + M, by omega, by omega, ?_, ?_, hb3⟩, rfl⟩
        · simp
        · have h := hg3.out
          rw [repRow_splice x n k M (by omega)] at h
          exact h
      case measure => simp [intOf]; omega
    · obtain rfl : k = n := by omega
      have i2 : decide ((k : Int) < (k : Int)) = false := by simp
      go_wp2_with fail
      go_ret
      exact ⟨rfl, by rw [← repRow_end]; exact HBK.out, HBE.out⟩
def zerosN (n : Nat) : Array Value := (u8s (List.replicate n 0)).toArray
theorem zerosN_made (n : Nat) : madeCells (Value.int .u8 0).cells n = zerosN n := by
  unfold madeCells zerosN u8s
  refine Array.ext (by simp) (fun i h1 h2 => ?_)
  simp [Value.cells, Nat.mod_one]
theorem zerosN_at (n j : Nat) (h : j < (List.replicate n (0 : UInt8)).length) : (zerosN n)[j]? = some (.int .u8 ((List.replicate n (0 : UInt8))[j].toNat : Int)) := by
  unfold zerosN u8s
  simp at h
  simp [h]
def zeros : Array Value := zerosN 128
theorem make_zeros (W : World) : (Instr.makeSlice 36 (.int .i64 128) (.int .i64 128)).run Tryz.prog W = .ok (.slice (some ⟨W.heap.size, 0, none⟩) 128 128) (W.alloc (.cells zeros 5)) := by
  obtain ⟨inf, hi, hz0, hz1, hz2⟩ := info_parts info_u8
  have h := run_make (P := Tryz.prog) W 36 5 inf (.int .u8 0) Tryz.underlying36 hi hz0 .i64 .i64 128 128 (by omega) (Int.le_refl _) (by rw [hz2]; omega) (by omega)
  rw [hz1, zerosN_made] at h
  exact h
theorem conv_zeros (w : World) : (convert 36 9 (.slice (some ⟨w.heap.size, 0, none⟩) 128 128)).run Tryz.prog (w.alloc (.cells zeros 5)) = .ok (.string DevS.noughts) (w.alloc (.cells zeros 5)) := by
  refine conv_cells (W := w.alloc (.cells zeros 5)) (g := w.heap.size) (o := 0) (L := List.replicate 128 0) List.length_replicate.symm (fun j hj => ?_)
  rw [Nat.zero_add, (Bk.new w 5 zeros).cell j]
  exact zerosN_at 128 j hj
def NewPost (n : Nat) (w : World) (e : Ending) (w' : World) : Prop :=
  ∃ g S, e = .returned (.tuple #[ptr g, .int .i64 0]) ∧ Dev w' g S (DevS.new n) ∧ Below w.heap.size w w' ∧ ∀ b ∈ S, w.heap.size ≤ b
theorem new_done {W : World} {n g l m : Nat} (h0 : 0 < n) (h1 : n ≤ 2048) (hl : Bk W l 9 (List.replicate n (Value.string DevS.noughts)).toArray)
    (hm : IMap Tryz.prog 3 W m 0 (fun _ => none)) (hg : Bk W g 156 (devCells l n m false 0 0 0)) : Dev W g [g, l, m] (DevS.new n) := by
  have e : (strs (DevS.new n).sec).toArray = (List.replicate n (Value.string DevS.noughts)).toArray := by simp [strs, DevS.new]
  have el : (DevS.new n).sec.length = n := by simp [DevS.new]
  refine ⟨l, m, 0, id, id, ⟨DevS.Ok.new h0 h1, by rw [el]; exact hg, by rw [e]; exact hl, ?_, Int.le_refl _, fun i hi => absurd rfl hi, fun i _ hi => absurd rfl hi, fun i hi => absurd rfl hi, ⟨by simp, by simp, by simp, fun i hi => absurd rfl hi⟩, ?_⟩⟩
  · have : waitV (DevS.new n).row id id = fun _ => none := by funext i; unfold waitV; simp [waitsOf, DevS.new]
    rw [this]
    exact hm
  · intro b hb
    simp at hb
    rcases hb with rfl | rfl | rfl
    · exact hg.lt
    · exact hl.lt
    · exact hm.lt
end Go.Proofs.YtjbcbnemdhbhbaaGreatDoor
namespace Go.Proofs.YtjbcbnemdhbhbaaGreatDoor
open Go.RowKit
open Go.PlainAid
set_option maxRecDepth 100000
set_option linter.unusedVariables false
set_option linter.unusedSimpArgs false
set_option maxHeartbeats 4000000 in
theorem dnew_any (n : Nat) (w : World) (h0 : 0 < n) (h1 : n ≤ 2048) :
    Calls Tryz.prog 41 #[.int .i64 (n : Int)] w (NewPost n w) := by
  have q0 : decide ((n : Int) < 1) = false := by simp; omega
  have q1 : decide ((2048 : Int) < (n : Int)) = false := by simp; omega
  have H0 := Lib.hid h0
  have H1 := Lib.hid h1
  have hmk := make_zeros
  have hcv := conv_zeros w
  have hmm := @run_makeMap Tryz.prog
  clear h0 h1
  obtain ⟨s0, hs0⟩ : ∃ s0, s0 = DevS.noughts := ⟨_, rfl⟩
  rw [← hs0] at hcv
  have HS0 := Lib.hid hs0
  clear hs0
  generalize zeros = z0 at *
  have hbk : Bk ((w.alloc (.cells z0 5)).alloc (.cells #[.string s0] 9)) (w.heap.size + 1) 9 #[.string s0] := by
    have h := Bk.new (w.alloc (.cells z0 5)) 9 #[.string s0]
    rw [show (w.alloc (.cells z0 5)).heap.size = w.heap.size + 1 from by simp] at h
    exact h
  have HBK := Lib.hid hbk
  clear hbk
  go_enter Tryz.func41, Tryz.ntmps41
  go_wp2_with (first
    | (go_at_call 97; (with_reducible refine (repeat_strs s0 (w.heap.size + 1) n _ HBK.out H0.out H1.out).mono ?_); rintro e w2 ⟨rfl, hb2, hbel2⟩; have HB2 := Lib.hid hb2; have HBEL2 := Lib.hid hbel2; clear hb2 hbel2)
    | fail)
  go_ret2
  have hb := HB2.out
  have hbel := HBEL2.out
  have hsz : ((w.alloc (.cells z0 5)).alloc (.cells #[.string s0] 9)).heap.size = w.heap.size + 1 + 1 := by simp
  rw [hsz] at hb hbel
  have hbw : Below w.heap.size w w2 := ((((Below.refl _ w).alloc (Nat.le_refl _) _).alloc (by simp) _).trans (hbel.mono (by omega)))
  have hlt := hb.lt
  have hg := Bk.new (w2.alloc (.map #[] 0)) 156 (devCells (w.heap.size + 1 + 1) n w2.heap.size false 0 0 0)
  have hsz2 : (w2.alloc (.map #[] 0)).heap.size = w2.heap.size + 1 := by simp
  rw [hsz2] at hg
  refine ⟨w2.heap.size + 1, [w2.heap.size + 1, w.heap.size + 1 + 1, w2.heap.size], rfl, new_done H0.out H1.out ?_ ?_ hg, ?_, ?_⟩
  · rw [← HS0.out]; exact (hb.alloc _).alloc _
  · exact (IMap.made w2 Tryz.prog 3).of_heap (Below.heap_alloc _ _ _ (by simp))
  · exact (hbw.alloc (by omega) _).alloc (by simp; omega) _
  · intro b hb
    simp at hb
    omega
end Go.Proofs.YtjbcbnemdhbhbaaGreatDoor
namespace Go.Proofs.YtjbcbnemdhbhbaaGreatDoor
open Go.RowKit
open Go.PlainAid
set_option maxRecDepth 100000
def rightB (k n t : Int) (b : ByteArray) : Bool := decide (1 ≤ k) && decide (k ≤ 4) && decide (1 ≤ n) && decide (n < 512) && decide (0 ≤ t) && decide (t ≤ 1099511627776) && decide (b.size ≤ 488)
theorem rightB_yes {k n t : Int} {b : ByteArray} (h : rightB k n t b = true) : 1 ≤ k ∧ k ≤ 4 ∧ 1 ≤ n ∧ n < 512 ∧ 0 ≤ t ∧ t ≤ 1099511627776 ∧ b.size ≤ 488 := by
  unfold rightB at h
  simp only [Bool.and_eq_true, decide_eq_true_eq] at h
  obtain ⟨⟨⟨⟨⟨⟨a, b⟩, c⟩, d⟩, e⟩, f⟩, g⟩ := h
  exact ⟨a, b, c, d, e, f, g⟩
theorem rightB_no {k n t : Int} {b : ByteArray} (h : rightB k n t b = false) : k < 1 ∨ (1 ≤ k ∧ 4 < k) ∨ (1 ≤ k ∧ k ≤ 4 ∧ n < 1) ∨ (1 ≤ k ∧ k ≤ 4 ∧ 1 ≤ n ∧ 512 ≤ n) ∨ (1 ≤ k ∧ k ≤ 4 ∧ 1 ≤ n ∧ n < 512 ∧ t < 0) ∨
    (1 ≤ k ∧ k ≤ 4 ∧ 1 ≤ n ∧ n < 512 ∧ 0 ≤ t ∧ 1099511627776 < t) ∨ (1 ≤ k ∧ k ≤ 4 ∧ 1 ≤ n ∧ n < 512 ∧ 0 ≤ t ∧ t ≤ 1099511627776 ∧ 488 < b.size) := by
  unfold rightB at h
  simp only [Bool.and_eq_false_iff, decide_eq_false_iff_not] at h
  omega
set_option maxHeartbeats 2000000 in
theorem pright_yes (k n t : Int) (b : ByteArray) (w : World) (h : rightB k n t b = true) :
    Calls Tryz.prog 229 #[.agg #[.int .i64 k, .int .i64 n, .int .i64 t, .string b]] w (TellsQ true w) := by
  obtain ⟨h1, h2, h3, h4, h5, h6, h7⟩ := rightB_yes h
  have q1 : decide (1 ≤ k) = true := by simp; omega
  have q2 : decide (k ≤ 4) = true := by simp; omega
  have q3 : decide (1 ≤ n) = true := by simp; omega
  have q4 : decide (n < 512) = true := by simp; omega
  have q5 : decide (0 ≤ t) = true := by simp; omega
  have q6 : decide (t ≤ 1099511627776) = true := by simp; omega
  have q7 : decide ((b.size : Int) ≤ 488) = true := by simp; omega
  clear h h1 h2 h3 h4 h5 h6 h7
  go_enter Tryz.func229, Tryz.ntmps229
  go_wp2_with fail
  go_ret
  exact tellsQ_of rfl ((Below.refl _ _).alloc (Nat.le_refl _) _)
set_option maxHeartbeats 4000000 in
theorem pright_no (k n t : Int) (b : ByteArray) (w : World) (h : rightB k n t b = false) :
    Calls Tryz.prog 229 #[.agg #[.int .i64 k, .int .i64 n, .int .i64 t, .string b]] w (TellsQ false w) := by
  have hd := rightB_no h
  clear h
  rcases hd with h | ⟨h1, h⟩ | ⟨h1, h2, h⟩ | ⟨h1, h2, h3, h⟩ | ⟨h1, h2, h3, h4, h⟩ | ⟨h1, h2, h3, h4, h5, h⟩ | ⟨h1, h2, h3, h4, h5, h6, h⟩
  all_goals
    go_enter Tryz.func229, Tryz.ntmps229
    go_wp2_with fail
    go_ret
    exact tellsQ_of (by first | rfl | (symm; simp; omega)) ((Below.refl _ _).alloc (Nat.le_refl _) _)
theorem pright_any (k n t : Int) (b : ByteArray) (w : World) :
    Calls Tryz.prog 229 #[.agg #[.int .i64 k, .int .i64 n, .int .i64 t, .string b]] w (TellsQ (rightB k n t b) w) := by
  cases h : rightB k n t b with
  | true => exact pright_yes _ _ _ _ _ h
  | false => exact pright_no _ _ _ _ _ h
end Go.Proofs.YtjbcbnemdhbhbaaGreatDoor
namespace Go.Proofs.YtjbcbnemdhbhbaaGreatDoor
open Go.RowKit
open Go.PlainAid
set_option maxRecDepth 100000
def pageHead (k n t len : Nat) : List UInt8 := [82, 66] ++ lays [(k, 1), (0, 1), (len, 2), (n, 4), (t, 8)]
def pageTail (b : List UInt8) : List UInt8 := [0, 0] ++ b ++ List.replicate (488 - b.length) 0
def pageSum (k n t : Nat) (b : List UInt8) : Nat := Crc.sum (pageHead k n t b.length ++ [0, 0, 0, 0] ++ pageTail b)
def pageS (k n t : Nat) (b : List UInt8) : List UInt8 := pageHead k n t b.length ++ Be.low (pageSum k n t b) 4 ++ pageTail b
def packS (k n t : Int) (b : ByteArray) : ByteArray := if rightB k n t b then ⟨(pageS k.toNat n.toNat t.toNat b.data.toList).toArray⟩ else ⟨#[]⟩
def packE (k n t : Int) (b : ByteArray) : Int := if rightB k n t b then 0 else 4
def PackPost (k n t : Int) (b : ByteArray) (w : World) (e : Ending) (w' : World) : Prop := e = .returned (.tuple #[.string (packS k n t b), .int .i64 (packE k n t b)]) ∧ Below w.heap.size w w'
theorem RowAt.lt {w : World} (h : RowAt w) : 0 < w.heap.size := by
  have h0 := h 0 (by decide)
  rcases Nat.lt_or_ge 0 w.heap.size with hl | hl
  · exact hl
  · simp [World.cell?, Array.getElem?_eq_none hl] at h0
theorem RowAt.below {w w' : World} (h : RowAt w) (hb : Below w.heap.size w w') : RowAt w' := fun k hk => (hb.cell (p := ⟨0, k, none⟩) h.lt).trans (h k hk)
theorem sum_lt (l : List UInt8) : Crc.sum l < 4294967296 := by unfold Crc.sum Crc.on; omega
theorem numsAt5 (w : World) (a0 a1 a2 a3 a4 k0 k1 k2 k3 k4 : Nat) (e : TypeId) :
    NumsAt (w.alloc (.cells #[.int .i64 a0, .int .i64 k0, .int .i64 a1, .int .i64 k1, .int .i64 a2, .int .i64 k2, .int .i64 a3, .int .i64 k3, .int .i64 a4, .int .i64 k4] e)) w.heap.size [(a0, k0), (a1, k1), (a2, k2), (a3, k3), (a4, k4)] := by
  have hb := Bk.new w e #[.int .i64 a0, .int .i64 k0, .int .i64 a1, .int .i64 k1, .int .i64 a2, .int .i64 k2, .int .i64 a3, .int .i64 k3, .int .i64 a4, .int .i64 k4]
  refine ⟨hb.lt, ?_⟩
  intro i hi
  have hc : i = 0 ∨ i = 1 ∨ i = 2 ∨ i = 3 ∨ i = 4 := by simp at hi; omega
  rcases hc with rfl | rfl | rfl | rfl | rfl <;> exact ⟨hb.cell _, hb.cell _⟩
theorem numsAt1 (w : World) (a0 k0 : Nat) (e : TypeId) : NumsAt (w.alloc (.cells #[.int .i64 a0, .int .i64 k0] e)) w.heap.size [(a0, k0)] := by
  have hb := Bk.new w e #[.int .i64 a0, .int .i64 k0]
  refine ⟨hb.lt, ?_⟩
  intro i hi
  obtain rfl : i = 0 := by simp at hi; omega
  exact ⟨hb.cell _, hb.cell _⟩
theorem fits5 (k n t len : Nat) (hk : k ≤ 4) (hn : n < 512) (ht : t ≤ 1099511627776) (hl : len ≤ 488) : Fits [(k, 1), (0, 1), (len, 2), (n, 4), (t, 8)] := by
  intro p hp
  simp only [List.mem_cons, List.not_mem_nil, or_false] at hp
  rcases hp with rfl | rfl | rfl | rfl | rfl <;> refine ⟨by simp, by simp, ?_, ?_⟩ <;> simp <;> omega
theorem fits_one4 (s : Nat) (h : s < 4294967296) : Fits [(s, 4)] := by
  intro p hp
  simp only [List.mem_singleton] at hp
  subst hp
  exact ⟨by simp, by simp, by simp; omega, by simp; omega⟩
set_option maxHeartbeats 4000000 in
theorem pack_any (k n t : Int) (b : ByteArray) (w : World) (hr : RowAt w) :
    Calls Tryz.prog 172 #[.agg #[.int .i64 k, .int .i64 n, .int .i64 t, .string b]] w (PackPost k n t b w) := by
  have HR := fun W : World => pright_any k n t b W
  have hb0 : Below w.heap.size w (w.alloc (.cells #[.int .i64 k, .int .i64 n, .int .i64 t, .string b] 126)) := (Below.refl _ _).alloc (Nat.le_refl _) _
  have hbk := Bk.new w 126 #[.int .i64 k, .int .i64 n, .int .i64 t, .string b]
  have hrow0 := hr.below hb0
  cases hq : rightB k n t b with
  | false =>
    rw [hq] at HR
    have H1 := Lib.hid HR
    have HS := Lib.hid (show packS k n t b = ⟨#[]⟩ ∧ packE k n t b = 4 by unfold packS packE; rw [hq]; exact ⟨rfl, rfl⟩)
    clear hq HR
    go_enter Tryz.func172, Tryz.ntmps172
    go_wp2_with (first
      | (go_at_call 229; refine (H1.out _).mono ?_; rintro e w2 ⟨rfl, hb2⟩)
      | fail)
    go_ret2
    exact ⟨by rw [HS.out.1, HS.out.2]; rfl, hb0.trans (hb2.mono hb0.size)⟩
  | true =>
    rw [hq] at HR
    have H1 := Lib.hid HR
    have hS : packS k n t b = ⟨(pageS k.toNat n.toNat t.toNat b.data.toList).toArray⟩ ∧ packE k n t b = 0 := by unfold packS packE; rw [hq]; exact ⟨rfl, rfl⟩
    have HS := Lib.hid hS
    obtain ⟨h1, h2, h3, h4, h5, h6, h7⟩ := rightB_yes hq
    clear hq HR hS
    obtain ⟨kn, rfl⟩ := Int.eq_ofNat_of_zero_le (show 0 ≤ k by omega)
    obtain ⟨nn, rfl⟩ := Int.eq_ofNat_of_zero_le (show 0 ≤ n by omega)
    obtain ⟨tn, rfl⟩ := Int.eq_ofNat_of_zero_le (show 0 ≤ t by omega)
    have hfit := fits5 kn nn tn b.size (by omega) (by omega) (by omega) h7
    have HL1 := Lib.hid fun W : World => lay_any ⟨#[82, 66]⟩ W.heap.size 5 [(kn, 1), (0, 1), (b.size, 2), (nn, 4), (tn, 8)] _ rfl (by simp) (by decide) (numsAt5 W kn 0 b.size nn tn 1 1 2 4 8 268) hfit
    have hhd : (⟨#[82, 66]⟩ ++ ⟨(lays [(kn, 1), (0, 1), (b.size, 2), (nn, 4), (tn, 8)]).toArray⟩ : ByteArray) = ⟨(pageHead kn nn tn b.size).toArray⟩ := by
      apply str_eq
      rw [append_list]
      rfl
    rw [hhd] at HL1
    have HL1a := Lib.hid (show ∀ W : World, Calls Tryz.prog 175 #[.string ⟨#[82, 66]⟩, .slice (some ⟨W.heap.size, 0, none⟩) 5 5] (W.alloc (.cells #[.int .i64 (kn : Int), .int .i64 1, .int .i64 0, .int .i64 1, .int .i64 (b.size : Int), .int .i64 2, .int .i64 (nn : Int), .int .i64 4, .int .i64 (tn : Int), .int .i64 8] 268))
      (TellsS ⟨(pageHead kn nn tn b.size).toArray⟩ (W.alloc (.cells #[.int .i64 (kn : Int), .int .i64 1, .int .i64 0, .int .i64 1, .int .i64 (b.size : Int), .int .i64 2, .int .i64 (nn : Int), .int .i64 4, .int .i64 (tn : Int), .int .i64 8] 268))) from HL1.out)
    clear HL1
    have hhs : (⟨(pageHead kn nn tn b.size).toArray⟩ : ByteArray).size ≤ 18 := by rw [size_list]; unfold pageHead lays; simp [Be.low_len]
    have hts0 : (⟨#[0, 0]⟩ ++ b : ByteArray).size = 2 + b.size := by rw [ByteArray.size_append]; rfl
    have HF := fun W : World => filled_any (⟨#[0, 0]⟩ ++ b) 490 W (by omega) (by decide)
    have htl : (⟨#[0, 0]⟩ ++ b ++ noughts (490 - (⟨#[0, 0]⟩ ++ b : ByteArray).size) : ByteArray) = ⟨(pageTail b.data.toList).toArray⟩ := by
      apply str_eq
      rw [append_list, append_list, hts0, noughts_list, show 490 - (2 + b.size) = 488 - b.size by omega]
      rfl
    rw [htl] at HF
    have HF2 := Lib.hid HF
    have hts : (⟨(pageTail b.data.toList).toArray⟩ : ByteArray).size ≤ 490 := by rw [size_list]; unfold pageTail; simp; omega
    have hsum : (⟨(pageHead kn nn tn b.size).toArray⟩ ++ ⟨#[0, 0, 0, 0]⟩ ++ ⟨(pageTail b.data.toList).toArray⟩ : ByteArray).data.toList = pageHead kn nn tn b.size ++ [0, 0, 0, 0] ++ pageTail b.data.toList := by
      rw [append_list, append_list]
    have hz3 : (⟨(pageHead kn nn tn b.size).toArray⟩ ++ ⟨#[0, 0, 0, 0]⟩ ++ ⟨(pageTail b.data.toList).toArray⟩ : ByteArray).size ≤ maxLen := by
      rw [ByteArray.size_append, ByteArray.size_append]
      have : (⟨#[0, 0, 0, 0]⟩ : ByteArray).size = 4 := rfl
      unfold maxLen
      omega
    have HSm := fun (W : World) (hW : RowAt W) => sum_any (⟨(pageHead kn nn tn b.size).toArray⟩ ++ ⟨#[0, 0, 0, 0]⟩ ++ ⟨(pageTail b.data.toList).toArray⟩) W hz3 hW
    rw [hsum] at HSm
    have hsl := sum_lt (pageHead kn nn tn b.size ++ [0, 0, 0, 0] ++ pageTail b.data.toList)
    have HS2 := Lib.hid (show packS (kn : Int) nn tn b = ⟨(pageHead kn nn tn b.size).toArray⟩ ++ ⟨(Be.low (Crc.sum (pageHead kn nn tn b.size ++ [0, 0, 0, 0] ++ pageTail b.data.toList)) 4).toArray⟩ ++ ⟨(pageTail b.data.toList).toArray⟩ ∧ packE (kn : Int) nn tn b = 0 by
      refine ⟨?_, HS.out.2⟩
      rw [HS.out.1]
      apply str_eq
      rw [append_list, append_list]
      rfl)
    generalize Crc.sum (pageHead kn nn tn b.size ++ [0, 0, 0, 0] ++ pageTail b.data.toList) = sm at *
    have HL2 := fun W : World => lay_any ⟨(pageHead kn nn tn b.size).toArray⟩ W.heap.size 1 [(sm, 4)] _ rfl (by simp) (by omega) (numsAt1 W sm 4 268) (fits_one4 sm hsl)
    have hl1 : lays [(sm, 4)] = Be.low sm 4 := by unfold lays; simp
    rw [hl1] at HL2
    have HL2a := (show ∀ W : World, Calls Tryz.prog 175 #[.string ⟨(pageHead kn nn tn b.size).toArray⟩, .slice (some ⟨W.heap.size, 0, none⟩) 1 1] (W.alloc (.cells #[.int .i64 (sm : Int), .int .i64 4] 268))
      (TellsS (⟨(pageHead kn nn tn b.size).toArray⟩ ++ ⟨(Be.low sm 4).toArray⟩) (W.alloc (.cells #[.int .i64 (sm : Int), .int .i64 4] 268))) from HL2)
    clear HL2
    have hls : (⟨(Be.low sm 4).toArray⟩ : ByteArray).size ≤ 4 := by rw [size_list, Be.low_len]; exact Nat.le_refl _
    have hlc : (⟨(pageHead kn nn tn b.size).toArray⟩ ++ ⟨(Be.low sm 4).toArray⟩ : ByteArray).size ≤ 22 := by rw [ByteArray.size_append]; omega
    generalize (⟨(pageHead kn nn tn b.size).toArray⟩ : ByteArray) = hd at *
    generalize (⟨(Be.low sm 4).toArray⟩ : ByteArray) = ls at *
    generalize (⟨(pageTail b.data.toList).toArray⟩ : ByteArray) = tl at *
    have HSM := Lib.hid HSm
    have HL22 := Lib.hid HL2a
    have HBK := Lib.hid hbk
    have HRW := Lib.hid hrow0
    have HB0 := Lib.hid hb0
    clear HS HSm HL2a HF hsum hz3 htl hts0 hhd hfit hl1 hbk hrow0 hb0 hr h1 h2 h3 h4 h5 h6
    go_enter Tryz.func172, Tryz.ntmps172
    go_wp2_with (first
      | (go_at_call 229; refine (H1.out _).mono ?_; rintro e w2 ⟨rfl, hb2⟩; obtain ⟨z0, z1, z2, z3⟩ := (bk_below HBK.out hb2).four; have HB2 := Lib.hid hb2; clear hb2)
      | (go_at_call 175; (with_reducible refine (HL1a.out _).mono ?_); rintro e w3 ⟨rfl, hb3⟩; have HB3 := Lib.hid (((Below.refl w2.heap.size w2).alloc (Nat.le_refl _) _).trans (hb3.mono (by simp))); obtain ⟨y0, y1, y2, y3⟩ := (bk_below (bk_below HBK.out HB2.out) HB3.out).four; clear hb3)
      | (go_at_call 176; refine (HF2.out _).mono ?_; rintro e w4 ⟨rfl, hb4⟩; have HB4 := Lib.hid hb4; have HRW4 := Lib.hid (((HRW.out.below HB2.out).below HB3.out).below hb4); clear hb4)
      | (go_at_call 177; refine (HSM.out _ HRW4.out).mono ?_; rintro e w' ⟨rfl, rfl⟩)
      | (go_at_call 175; (with_reducible refine (HL22.out _).mono ?_); rintro e w5 ⟨rfl, hb5⟩)
      | fail)
    go_ret2
    have a1 := HB0.out.trans (HB2.out.mono HB0.out.size)
    have a2 := a1.trans (HB3.out.mono a1.size)
    have a3 := a2.trans (HB4.out.mono a2.size)
    have a4 := a3.alloc a3.size (.cells #[.int .i64 (sm : Nat), .int .i64 4] 268)
    exact ⟨by rw [HS2.out.1, HS2.out.2]; rfl, a4.trans (hb5.mono a4.size)⟩
end Go.Proofs.YtjbcbnemdhbhbaaGreatDoor
namespace Go.Proofs.YtjbcbnemdhbhbaaGreatDoor
open Go.RowKit
open Go.PlainAid
set_option maxRecDepth 100000
theorem cut_mid (a x r : List UInt8) (p m : Nat) (ha : a.length = p) (hx : x.length = m) : ((a ++ (x ++ r)).drop p).take m = x := by
  subst ha; subst hx
  rw [List.drop_left, List.take_left]
theorem pageHead_len (k n t len : Nat) : (pageHead k n t len).length = 18 := by
  unfold pageHead lays
  simp [Be.low_len]
theorem pageTail_len (b : List UInt8) (h : b.length ≤ 488) : (pageTail b).length = 490 := by
  unfold pageTail
  simp
  omega
theorem pageS_len (k n t : Nat) (b : List UInt8) (h : b.length ≤ 488) : (pageS k n t b).length = 512 := by
  unfold pageS
  rw [List.length_append, List.length_append, pageHead_len, pageTail_len b h, Be.low_len]
theorem pageS_parts (k n t : Nat) (b : List UInt8) : pageS k n t b = [82, 66] ++ (Be.low k 1 ++ (Be.low 0 1 ++ (Be.low b.length 2 ++ (Be.low n 4 ++ (Be.low t 8 ++ (Be.low (pageSum k n t b) 4 ++ ([0, 0] ++ (b ++ List.replicate (488 - b.length) 0)))))))) := by
  unfold pageS pageHead pageTail lays
  simp [List.append_assoc]
theorem pageS_k (k n t : Nat) (b : List UInt8) (hk : k ≤ 4) : Be.num (((pageS k n t b).drop 2).take 1) = k := by
  rw [pageS_parts, cut_mid _ _ _ 2 1 rfl (Be.low_len _ _), Be.num_low_fit _ _ (by omega)]
theorem pageS_l (k n t : Nat) (b : List UInt8) (hb : b.length ≤ 488) : Be.num (((pageS k n t b).drop 4).take 2) = b.length := by
  rw [pageS_parts, ← List.append_assoc, ← List.append_assoc, cut_mid _ _ _ 4 2 (by simp [Be.low_len]) (Be.low_len _ _), Be.num_low_fit _ _ (by omega)]
theorem pageS_n (k n t : Nat) (b : List UInt8) (hn : n < 512) : Be.num (((pageS k n t b).drop 6).take 4) = n := by
  rw [pageS_parts, ← List.append_assoc, ← List.append_assoc, ← List.append_assoc, cut_mid _ _ _ 6 4 (by simp [Be.low_len]) (Be.low_len _ _), Be.num_low_fit _ _ (by omega)]
theorem pageS_t (k n t : Nat) (b : List UInt8) (ht : t ≤ 1099511627776) : Be.num (((pageS k n t b).drop 10).take 8) = t := by
  rw [pageS_parts, ← List.append_assoc, ← List.append_assoc, ← List.append_assoc, ← List.append_assoc, cut_mid _ _ _ 10 8 (by simp [Be.low_len]) (Be.low_len _ _), Be.num_low_fit _ _ (by omega)]
theorem pageS_b (k n t : Nat) (b : List UInt8) : ((pageS k n t b).drop 24).take b.length = b := by
  rw [pageS_parts, ← List.append_assoc, ← List.append_assoc, ← List.append_assoc, ← List.append_assoc, ← List.append_assoc, ← List.append_assoc, ← List.append_assoc, cut_mid _ _ _ 24 _ (by simp [Be.low_len]) rfl]
def IsPage (s : ByteArray) (k n t : Int) (b : ByteArray) : Prop := rightB k n t b = true ∧ packS k n t b = s
theorem packS_right {k n t : Int} {b : ByteArray} (h : rightB k n t b = true) : packS k n t b = ⟨(pageS k.toNat n.toNat t.toNat b.data.toList).toArray⟩ := by unfold packS; rw [h]; rfl
theorem packE_right {k n t : Int} {b : ByteArray} (h : rightB k n t b = true) : packE k n t b = 0 := by unfold packE; rw [h]; rfl
theorem packE_wrong {k n t : Int} {b : ByteArray} (h : rightB k n t b = false) : packE k n t b = 4 := by unfold packE; rw [h]; rfl
theorem IsPage.says {s : ByteArray} {k n t : Int} {b : ByteArray} (h : IsPage s k n t b) :
    s.size = 512 ∧ (∃ r, s.data.toList = 82 :: 66 :: r) ∧ k = numAt s 2 1 ∧ numAt s 4 2 = b.size ∧ n = numAt s 6 4 ∧ t = numAt s 10 8 ∧ b = s.extract 24 (24 + numAt s 4 2) := by
  obtain ⟨hr, hs⟩ := h
  obtain ⟨h1, h2, h3, h4, h5, h6, h7⟩ := rightB_yes hr
  rw [packS_right hr] at hs
  obtain ⟨kn, rfl⟩ := Int.eq_ofNat_of_zero_le (show 0 ≤ k by omega)
  obtain ⟨nn, rfl⟩ := Int.eq_ofNat_of_zero_le (show 0 ≤ n by omega)
  obtain ⟨tn, rfl⟩ := Int.eq_ofNat_of_zero_le (show 0 ≤ t by omega)
  simp only [Int.toNat_natCast] at hs
  have hl : s.data.toList = pageS kn nn tn b.data.toList := by rw [← hs]
  have e1 : numAt s 2 1 = kn := by unfold numAt; rw [hl]; exact pageS_k _ _ _ _ (by omega)
  have e2 : numAt s 4 2 = b.size := by unfold numAt; rw [hl]; exact pageS_l _ _ _ _ h7
  have e3 : numAt s 6 4 = nn := by unfold numAt; rw [hl]; exact pageS_n _ _ _ _ (by omega)
  have e4 : numAt s 10 8 = tn := by unfold numAt; rw [hl]; exact pageS_t _ _ _ _ (by omega)
  refine ⟨?_, ⟨_, by rw [hl, pageS_parts]; rfl⟩, by rw [e1], e2, by rw [e3], by rw [e4], ?_⟩
  · rw [← len_size, hl, pageS_len _ _ _ _ h7]
  · apply str_eq
    rw [extract_list, e2, hl, show 24 + b.size - 24 = b.size by omega]
    exact (pageS_b _ _ _ _).symm
def unpB (s : ByteArray) : Bool := rightB (numAt s 2 1) (numAt s 6 4) (numAt s 10 8) (s.extract 24 (24 + numAt s 4 2)) && decide (packS (numAt s 2 1) (numAt s 6 4) (numAt s 10 8) (s.extract 24 (24 + numAt s 4 2)) = s)
def unpK (s : ByteArray) : Int := if unpB s then (numAt s 2 1 : Int) else 0
def unpN (s : ByteArray) : Int := if unpB s then (numAt s 6 4 : Int) else 0
def unpT (s : ByteArray) : Int := if unpB s then (numAt s 10 8 : Int) else 0
def unpY (s : ByteArray) : ByteArray := if unpB s then s.extract 24 (24 + numAt s 4 2) else ⟨#[]⟩
def unpE (s : ByteArray) : Int := if unpB s then 0 else 4
theorem unpB_yes {s : ByteArray} (h : unpB s = true) : IsPage s (numAt s 2 1) (numAt s 6 4) (numAt s 10 8) (s.extract 24 (24 + numAt s 4 2)) := by
  unfold unpB at h
  simp only [Bool.and_eq_true, decide_eq_true_eq] at h
  exact h
theorem unpB_of {s : ByteArray} {k n t : Int} {b : ByteArray} (h : IsPage s k n t b) : unpB s = true := by
  obtain ⟨h1, h2, h3, h4, h5, h6, h7⟩ := h.says
  have h8 := h
  rw [h3, h5, h6, h7] at h8
  unfold unpB
  rw [h8.1, h8.2]
  simp
theorem unp_of {s : ByteArray} {k n t : Int} {b : ByteArray} (h : IsPage s k n t b) : unpK s = k ∧ unpN s = n ∧ unpT s = t ∧ unpY s = b ∧ unpE s = 0 := by
  have hu := unpB_of h
  obtain ⟨h1, h2, h3, h4, h5, h6, h7⟩ := h.says
  unfold unpK unpN unpT unpY unpE
  rw [hu]
  exact ⟨h3.symm, h5.symm, h6.symm, h7.symm, rfl⟩
theorem unp_no {s : ByteArray} (h : unpB s = false) : unpK s = 0 ∧ unpN s = 0 ∧ unpT s = 0 ∧ unpY s = ⟨#[]⟩ ∧ unpE s = 4 := by
  unfold unpK unpN unpT unpY unpE
  rw [h]
  exact ⟨rfl, rfl, rfl, rfl, rfl⟩
end Go.Proofs.YtjbcbnemdhbhbaaGreatDoor
namespace Go.Proofs.YtjbcbnemdhbhbaaGreatDoor
open Go.RowKit
open Go.PlainAid
set_option maxRecDepth 100000
def rightM (t r f p l : Int) : Bool := decide (0 ≤ t) && decide (t ≤ 1099511627776) && decide (2 ≤ l) && decide (l ≤ 512) && decide (1 ≤ p) && decide (p ≤ l) && decide (0 ≤ r) && decide (r < p) && decide (0 ≤ f) && decide (f < p)
theorem rightM_yes {t r f p l : Int} (h : rightM t r f p l = true) : 0 ≤ t ∧ t ≤ 1099511627776 ∧ 2 ≤ l ∧ l ≤ 512 ∧ 1 ≤ p ∧ p ≤ l ∧ 0 ≤ r ∧ r < p ∧ 0 ≤ f ∧ f < p := by
  unfold rightM at h
  simp only [Bool.and_eq_true, decide_eq_true_eq] at h
  omega
theorem rightM_of {t r f p l : Int} (h : 0 ≤ t ∧ t ≤ 1099511627776 ∧ 2 ≤ l ∧ l ≤ 512 ∧ 1 ≤ p ∧ p ≤ l ∧ 0 ≤ r ∧ r < p ∧ 0 ≤ f ∧ f < p) : rightM t r f p l = true := by
  unfold rightM
  simp only [Bool.and_eq_true, decide_eq_true_eq]
  omega
def metaHead (t r f p l : Nat) : List UInt8 := [82, 79, 76, 76, 66, 79, 79, 75] ++ lays [(t, 8), (r, 4), (f, 4), (p, 4), (l, 4)]
def metaL (t r f p l : Nat) : List UInt8 := metaHead t r f p l ++ Be.low (Crc.sum (metaHead t r f p l)) 4 ++ List.replicate 92 0
def metaS (t r f p l : Int) : ByteArray := if rightM t r f p l then ⟨(metaL t.toNat r.toNat f.toNat p.toNat l.toNat).toArray⟩ else ⟨#[]⟩
def metaE (t r f p l : Int) : Int := if rightM t r f p l then 0 else 4
theorem metaHead_len (t r f p l : Nat) : (metaHead t r f p l).length = 32 := by
  unfold metaHead lays
  simp [Be.low_len]
theorem metaL_len (t r f p l : Nat) : (metaL t r f p l).length = 128 := by
  unfold metaL
  rw [List.length_append, List.length_append, metaHead_len, Be.low_len, List.length_replicate]
theorem metaL_parts (t r f p l : Nat) : metaL t r f p l = [82, 79, 76, 76, 66, 79, 79, 75] ++ (Be.low t 8 ++ (Be.low r 4 ++ (Be.low f 4 ++ (Be.low p 4 ++ (Be.low l 4 ++ (Be.low (Crc.sum (metaHead t r f p l)) 4 ++ List.replicate 92 0)))))) := by
  conv => lhs; unfold metaL
  rw [show metaHead t r f p l ++ Be.low (Crc.sum (metaHead t r f p l)) 4 ++ List.replicate 92 0 = metaHead t r f p l ++ (Be.low (Crc.sum (metaHead t r f p l)) 4 ++ List.replicate 92 0) by rw [List.append_assoc]]
  generalize Be.low (Crc.sum (metaHead t r f p l)) 4 ++ List.replicate 92 0 = z
  unfold metaHead lays
  simp [List.append_assoc]
theorem metaL_t (t r f p l : Nat) (h : t ≤ 1099511627776) : Be.num (((metaL t r f p l).drop 8).take 8) = t := by
  rw [metaL_parts, cut_mid _ _ _ 8 8 rfl (Be.low_len _ _), Be.num_low_fit _ _ (by omega)]
theorem metaL_r (t r f p l : Nat) (h : r < 512) : Be.num (((metaL t r f p l).drop 16).take 4) = r := by
  rw [metaL_parts, ← List.append_assoc, cut_mid _ _ _ 16 4 (by simp [Be.low_len]) (Be.low_len _ _), Be.num_low_fit _ _ (by omega)]
theorem metaL_f (t r f p l : Nat) (h : f < 512) : Be.num (((metaL t r f p l).drop 20).take 4) = f := by
  rw [metaL_parts, ← List.append_assoc, ← List.append_assoc, cut_mid _ _ _ 20 4 (by simp [Be.low_len]) (Be.low_len _ _), Be.num_low_fit _ _ (by omega)]
theorem metaL_p (t r f p l : Nat) (h : p ≤ 512) : Be.num (((metaL t r f p l).drop 24).take 4) = p := by
  rw [metaL_parts, ← List.append_assoc, ← List.append_assoc, ← List.append_assoc, cut_mid _ _ _ 24 4 (by simp [Be.low_len]) (Be.low_len _ _), Be.num_low_fit _ _ (by omega)]
theorem metaL_l (t r f p l : Nat) (h : l ≤ 512) : Be.num (((metaL t r f p l).drop 28).take 4) = l := by
  rw [metaL_parts, ← List.append_assoc, ← List.append_assoc, ← List.append_assoc, ← List.append_assoc, cut_mid _ _ _ 28 4 (by simp [Be.low_len]) (Be.low_len _ _), Be.num_low_fit _ _ (by omega)]
def IsMeta (s : ByteArray) (t r f p l : Int) : Prop := rightM t r f p l = true ∧ metaS t r f p l = s
theorem metaS_right {t r f p l : Int} (h : rightM t r f p l = true) : metaS t r f p l = ⟨(metaL t.toNat r.toNat f.toNat p.toNat l.toNat).toArray⟩ := by unfold metaS; rw [h]; rfl
theorem metaE_right {t r f p l : Int} (h : rightM t r f p l = true) : metaE t r f p l = 0 := by unfold metaE; rw [h]; rfl
theorem metaS_wrong {t r f p l : Int} (h : rightM t r f p l = false) : metaS t r f p l = ⟨#[]⟩ := by unfold metaS; rw [h]; rfl
theorem metaE_wrong {t r f p l : Int} (h : rightM t r f p l = false) : metaE t r f p l = 4 := by unfold metaE; rw [h]; rfl
theorem IsMeta.says {s : ByteArray} {t r f p l : Int} (h : IsMeta s t r f p l) :
    s.size = 128 ∧ (∃ q, s.data.toList = 82 :: 79 :: 76 :: 76 :: 66 :: 79 :: 79 :: 75 :: q) ∧ t = numAt s 8 8 ∧ r = numAt s 16 4 ∧ f = numAt s 20 4 ∧ p = numAt s 24 4 ∧ l = numAt s 28 4 := by
  obtain ⟨hr, hs⟩ := h
  obtain ⟨h1, h2, h3, h4, h5, h6, h7, h8, h9, h10⟩ := rightM_yes hr
  rw [metaS_right hr] at hs
  obtain ⟨tn, rfl⟩ := Int.eq_ofNat_of_zero_le (show 0 ≤ t by omega)
  obtain ⟨rn, rfl⟩ := Int.eq_ofNat_of_zero_le (show 0 ≤ r by omega)
  obtain ⟨fn, rfl⟩ := Int.eq_ofNat_of_zero_le (show 0 ≤ f by omega)
  obtain ⟨pn, rfl⟩ := Int.eq_ofNat_of_zero_le (show 0 ≤ p by omega)
  obtain ⟨ln, rfl⟩ := Int.eq_ofNat_of_zero_le (show 0 ≤ l by omega)
  simp only [Int.toNat_natCast] at hs
  have hl : s.data.toList = metaL tn rn fn pn ln := by rw [← hs]
  have e1 : numAt s 8 8 = tn := by unfold numAt; rw [hl]; exact metaL_t _ _ _ _ _ (by omega)
  have e2 : numAt s 16 4 = rn := by unfold numAt; rw [hl]; exact metaL_r _ _ _ _ _ (by omega)
  have e3 : numAt s 20 4 = fn := by unfold numAt; rw [hl]; exact metaL_f _ _ _ _ _ (by omega)
  have e4 : numAt s 24 4 = pn := by unfold numAt; rw [hl]; exact metaL_p _ _ _ _ _ (by omega)
  have e5 : numAt s 28 4 = ln := by unfold numAt; rw [hl]; exact metaL_l _ _ _ _ _ (by omega)
  refine ⟨?_, ⟨_, by rw [hl, metaL_parts]; rfl⟩, by rw [e1], by rw [e2], by rw [e3], by rw [e4], by rw [e5]⟩
  rw [← len_size, hl, metaL_len]
def unmB (s : ByteArray) : Bool := rightM (numAt s 8 8) (numAt s 16 4) (numAt s 20 4) (numAt s 24 4) (numAt s 28 4) && decide (metaS (numAt s 8 8) (numAt s 16 4) (numAt s 20 4) (numAt s 24 4) (numAt s 28 4) = s)
def unmT (s : ByteArray) : Int := if unmB s then (numAt s 8 8 : Int) else 0
def unmR (s : ByteArray) : Int := if unmB s then (numAt s 16 4 : Int) else 0
def unmF (s : ByteArray) : Int := if unmB s then (numAt s 20 4 : Int) else 0
def unmP (s : ByteArray) : Int := if unmB s then (numAt s 24 4 : Int) else 0
def unmL (s : ByteArray) : Int := if unmB s then (numAt s 28 4 : Int) else 0
def unmE (s : ByteArray) : Int := if unmB s then 0 else 4
theorem unmB_yes {s : ByteArray} (h : unmB s = true) : IsMeta s (numAt s 8 8) (numAt s 16 4) (numAt s 20 4) (numAt s 24 4) (numAt s 28 4) := by
  unfold unmB at h
  simp only [Bool.and_eq_true, decide_eq_true_eq] at h
  exact h
theorem unmB_of {s : ByteArray} {t r f p l : Int} (h : IsMeta s t r f p l) : unmB s = true := by
  obtain ⟨h1, h2, h3, h4, h5, h6, h7⟩ := h.says
  have h8 := h
  rw [h3, h4, h5, h6, h7] at h8
  unfold unmB
  rw [h8.1, h8.2]
  simp
theorem unm_of {s : ByteArray} {t r f p l : Int} (h : IsMeta s t r f p l) : unmT s = t ∧ unmR s = r ∧ unmF s = f ∧ unmP s = p ∧ unmL s = l ∧ unmE s = 0 := by
  have hu := unmB_of h
  obtain ⟨h1, h2, h3, h4, h5, h6, h7⟩ := h.says
  unfold unmT unmR unmF unmP unmL unmE
  rw [hu]
  exact ⟨h3.symm, h4.symm, h5.symm, h6.symm, h7.symm, rfl⟩
theorem unm_no {s : ByteArray} (h : unmB s = false) : unmT s = 0 ∧ unmR s = 0 ∧ unmF s = 0 ∧ unmP s = 0 ∧ unmL s = 0 ∧ unmE s = 4 := by
  unfold unmT unmR unmF unmP unmL unmE
  rw [h]
  exact ⟨rfl, rfl, rfl, rfl, rfl, rfl⟩
end Go.Proofs.YtjbcbnemdhbhbaaGreatDoor

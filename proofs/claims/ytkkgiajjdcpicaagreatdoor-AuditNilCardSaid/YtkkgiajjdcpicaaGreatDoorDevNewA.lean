/- Contract of the device: New (with slices.Repeat at strings). -/
import Derived.Test.YtkkgiajjdcpicaaGreatDoorDevSync
import Derived.Test.YtkkgiajjdcpicaaGreatDoorShelf
import Derived.Laws.MakeOwn
import Derived.Laws.CopyOwn
namespace Go.Proofs.YtkkgiajjdcpicaaGreatDoor
open Go.RowKit
open Go.PlainAid
set_option maxRecDepth 100000
set_option linter.unusedVariables false
set_option linter.unusedSimpArgs false

theorem mul_one_any (n : Nat) (hn : n ≤ 2048) (w : World) : Calls Tryz.prog 123 #[.int .u64 1, .int .u64 (n : Int)] w fun e w' => e = .returned (.tuple #[.int .u64 0, .int .u64 (n : Int)]) ∧ w = w' := by
  refine (Tryz.bits_Mul 1 n (by omega) (by omega) w).mono ?_
  rintro e w' ⟨rfl, rfl⟩
  refine ⟨?_, rfl⟩
  have h1 : 1 * n / 18446744073709551616 = 0 := by omega
  have h2 : 1 * n % 18446744073709551616 = n := by omega
  rw [h1, h2]
  rfl

/-- The row while it is filled: k of n are there. -/
def repRow (x : ByteArray) (n k : Nat) : List Value := List.replicate k (.string x) ++ List.replicate (n - k) (.string ByteArray.empty)
theorem repRow_len (x : ByteArray) {n k : Nat} (h : k ≤ n) : (repRow x n k).length = n := by simp [repRow]; omega
theorem repRow_end (x : ByteArray) (n : Nat) : repRow x n n = List.replicate n (.string x) := by simp [repRow]
theorem repRow_splice (x : ByteArray) (n k m : Nat) (h : k + m ≤ n) : splice (repRow x n k) k (List.replicate m (.string x)) = repRow x n (k + m) := by
  unfold splice repRow
  rw [List.take_left' (by simp), ← List.append_assoc, List.replicate_append_replicate, List.length_replicate, List.drop_append, List.drop_of_length_le (by simp), List.length_replicate, List.nil_append, List.drop_replicate]
  congr 2
  omega
theorem repRow_cell {w : World} {b n k : Nat} {x : ByteArray} (h : Bk w b 9 (repRow x n k).toArray) (m : Nat) (hm : m ≤ k) : ∀ (j : Nat) v, (List.replicate m (Value.string x))[j]? = some v → w.cell? ((⟨b, 0, none⟩ : Addr).add j) = some v := by
  intro j v hv
  obtain ⟨hj, rfl⟩ := List.getElem?_eq_some_iff.1 hv
  simp at hj
  rw [add_zero_addr, h.cell j]
  simp only [List.getElem_replicate]
  unfold repRow
  rw [List.getElem?_toArray, List.getElem?_append_left (by simp; omega), List.getElem?_replicate, if_pos (by omega)]
theorem rep_one (x : ByteArray) (m : Nat) : ∀ v ∈ List.replicate m (Value.string x), v.oneCell' = true := by
  intro v hv
  obtain ⟨_, rfl⟩ := List.mem_replicate.1 hv
  rfl

def RepPost (x : ByteArray) (n : Nat) (w : World) (e : Ending) (w' : World) : Prop :=
  e = .returned (.slice (some ⟨w.heap.size, 0, none⟩) n n) ∧ Bk w' w.heap.size 9 (List.replicate n (Value.string x)).toArray ∧ Below w.heap.size w w'

set_option maxHeartbeats 4000000 in
theorem repeat_strs (x : ByteArray) (b n : Nat) (w : World) (hb : Bk w b 9 #[.string x]) (h0 : 0 < n) (h1 : n ≤ 2048) :
    Calls Tryz.prog 73 #[.slice (some ⟨b, 0, none⟩) 1 1, .int .i64 (n : Int)] w (RepPost x n w) := by
  have HB := Lib.hid hb
  obtain ⟨inf, hi, hz0, hz1, hz2⟩ := info_parts info_str
  have hmk : ∀ W : World, (Instr.makeSlice 28 (.int .i64 (n : Int)) (.int .i64 (n : Int))).run Tryz.prog W = .ok (.slice (some ⟨W.heap.size, 0, none⟩) n n) (W.alloc (.cells (repRow x n 0).toArray 9)) := fun W => by
    have h := run_make (P := Tryz.prog) W 28 9 inf (.string ByteArray.empty) Tryz.underlying28 hi hz0 .i64 .i64 (n : Int) (n : Int) (by omega) (Int.le_refl _) (by rw [hz2]; omega) (by omega)
    rw [Int.toNat_natCast, hz1, Nat.mul_one] at h
    rw [h]
    have e : madeCells (Value.string ByteArray.empty).cells n = (repRow x n 0).toArray := by
      unfold madeCells repRow
      refine Array.ext (by simp) (fun i h1 h2 => ?_)
      simp [Value.cells, Nat.mod_one]
    rw [e]
  clear hi hz0 hz1 hz2 hb
  have q1 : decide ((n : Int) < 0) = false := by simp
  have q2 : decide ((9223372036854775807 : Int) < (n : Int)) = false := by simp; omega
  have HN := Lib.hid h1
  have hszs : (Tryz.prog.info? 9).map (·.size) = some 1 := by kernel_rfl
  have hmin : Nat.min 1 n = 1 := by simp [Nat.min_def]; omega
  have HMIN := Lib.hid hmin
  have HSRC : Hid (∀ j v, [Value.string x][j]? = some v → (w.alloc (.cells (repRow x n 0).toArray 9)).cell? ((⟨b, 0, none⟩ : Addr).add j) = some v) := fun j v hv => by
    obtain ⟨hj, rfl⟩ := List.getElem?_eq_some_iff.1 hv
    simp at hj
    subst hj
    rw [add_zero_addr]
    simpa using (HB.out.alloc (.cells (repRow x n 0).toArray 9)).cell 0
  have HFIT : Hid (0 + [Value.string x].length ≤ (repRow x n 0).length) := show _ ≤ _ by rw [repRow_len x (by omega)]; simp; omega
  have HSZS := Lib.hid hszs
  clear hmin hszs
  go_enter Tryz.func73, Tryz.ntmps73
  go_wp2_with (first
    | (go_at_call 123; refine (mul_one_any n HN.out _).mono ?_; rintro e w' ⟨rfl, rfl⟩)
    | (refine wpList_copy_splice rfl (.tmp 31) (.tmp 32) 28 28 rfl 9 Tryz.underlying28 HSZS.out _ _ n n 1 1 rfl rfl w.heap.size 0 (repRow x n 0) 9 (heap_alloc_new w _) [.string x] (by rw [HMIN.out]; rfl) (fun _ => ⟨rfl, _, rfl, HSRC.out⟩) HFIT.out (rep_one x 1) w.heap.size w (Below.alloc (Below.refl _ _) (Nat.le_refl _) _) (Nat.le_refl _) ?_; intro w2 hg2 hb2)
    | fail)
  have HB2 := Lib.hid hb2
  have hR : w.heap.size < w2.heap.size := lt_of_block hg2.out
  clear hb2
  go_loopw [8] (fun c wr => ∃ k : Nat, 1 ≤ k ∧ k ≤ n ∧ c = .int .i64 (k : Int) ∧ Bk wr w.heap.size 9 (repRow x n k).toArray ∧ Below w.heap.size w wr) (fun c _ => n - (intOf c).toNat)
  case atStart =>
    refine ⟨1, Nat.le_refl _, by omega, rfl, ?_, HB2.out⟩
    have h := hg2.out
    have e : splice (repRow x n 0) 0 [Value.string x] = repRow x n 1 := repRow_splice x n 0 1 (by omega)
    rw [e] at h
    exact h
  case round =>
    obtain ⟨k, hk1, hk2, rfl, hbk, hbel⟩ := hrel
    have HBK := Lib.hid hbk
    have HBE := Lib.hid hbel
    clear hbk hbel
    by_cases hlt : k < n
    · have hm1 : Nat.min k (n - k) ≤ k := Nat.min_le_left _ _
      have hm2 : Nat.min k (n - k) ≤ n - k := Nat.min_le_right _ _
      have hm0 : 0 < Nat.min k (n - k) := by simp only [Nat.min_def]; split <;> omega
      have HMN : Hid (Nat.min k (n - k) = Nat.min k (n - k)) := rfl
      generalize hM : Nat.min k (n - k) = M at *
      have HM := Lib.hid hM
      have i0 : (0 : Int) ≤ (k : Int) := by omega
      have i1 : (k : Int) ≤ (n : Int) := by omega
      have i2 : decide ((k : Int) < (n : Int)) = true := by simp; omega
      have i3 : IntKind.i64.wrap ((k : Int) + (M : Int)) = (k : Int) + (M : Int) := IntWalk.i64_in _ (by omega)
      have i4 : ¬ (n = k) := by omega
      have HLEN : Hid ((List.replicate M (Value.string x)).length = Nat.min k (n - k)) := show _ = _ by rw [HM.out]; simp
      have HF2 : Hid (k + (List.replicate M (Value.string x)).length ≤ (repRow x n k).length) := show _ ≤ _ by rw [repRow_len x hk2]; simp; omega
      have HSR : Hid (∀ j v, (List.replicate M (Value.string x))[j]? = some v → wr.cell? ((⟨w.heap.size, 0, none⟩ : Addr).add j) = some v) := repRow_cell HBK.out M hm1
      clear hM HMN
      go_wp2_with fail
      go_region_held3 (fun W => True) (trivial)
        ((refine step_copy_splice rfl (.tmp 41) (.tmp 44) 28 28 (by rfl) 9 Tryz.underlying28 HSZS.out _ _ (n - k) (n - k) k n (by rfl) (by rfl) w.heap.size k (repRow x n k) 9 HBK.out (List.replicate M (.string x)) HLEN.out (fun _ => ⟨rfl, _, rfl, HSR.out⟩) HF2.out (rep_one x M) w.heap.size w HBE.out.drew (Nat.le_refl _) ?_; intro w3 hg3 hb3))
      go_roundw
      case rel =>
        (repeat apply Exists.intro)
        refine ⟨⟨k + M, by omega, by omega, ?_, ?_, hb3⟩, rfl⟩
        · simp
        · have h := hg3.out
          rw [repRow_splice x n k M (by omega)] at h
          exact h
      case measure => simp [intOf]; omega
    · obtain rfl : k = n := by omega
      have i2 : decide ((k : Int) < (k : Int)) = false := by simp
      go_wp2_with fail
      go_ret
      exact ⟨rfl, by rw [← repRow_end]; exact HBK.out, HBE.out⟩

/-- n noughts as cells. -/
def zerosN (n : Nat) : Array Value := (u8s (List.replicate n 0)).toArray
theorem zerosN_made (n : Nat) : madeCells (Value.int .u8 0).cells n = zerosN n := by
  unfold madeCells zerosN u8s
  refine Array.ext (by simp) (fun i h1 h2 => ?_)
  simp [Value.cells, Nat.mod_one]
theorem zerosN_at (n j : Nat) (h : j < (List.replicate n (0 : UInt8)).length) : (zerosN n)[j]? = some (.int .u8 ((List.replicate n (0 : UInt8))[j].toNat : Int)) := by
  unfold zerosN u8s
  simp at h
  simp [h]
def zeros : Array Value := zerosN 128
theorem make_zeros (W : World) : (Instr.makeSlice 52 (.int .i64 128) (.int .i64 128)).run Tryz.prog W = .ok (.slice (some ⟨W.heap.size, 0, none⟩) 128 128) (W.alloc (.cells zeros 5)) := by
  obtain ⟨inf, hi, hz0, hz1, hz2⟩ := info_parts info_u8
  have h := run_make (P := Tryz.prog) W 52 5 inf (.int .u8 0) Tryz.underlying52 hi hz0 .i64 .i64 128 128 (by omega) (Int.le_refl _) (by rw [hz2]; omega) (by omega)
  rw [hz1, zerosN_made] at h
  exact h
theorem conv_zeros (w : World) : (convert 52 9 (.slice (some ⟨w.heap.size, 0, none⟩) 128 128)).run Tryz.prog (w.alloc (.cells zeros 5)) = .ok (.string DevS.noughts) (w.alloc (.cells zeros 5)) := by
  refine conv_cells (W := w.alloc (.cells zeros 5)) (g := w.heap.size) (o := 0) (L := List.replicate 128 0) List.length_replicate.symm (fun j hj => ?_)
  rw [Nat.zero_add, (Bk.new w 5 zeros).cell j]
  exact zerosN_at 128 j hj

/-- What New leaves. -/
def NewPost (n : Nat) (w : World) (e : Ending) (w' : World) : Prop :=
  ∃ g S, e = .returned (.tuple #[ptr g, .int .i64 0]) ∧ Dev w' g S (DevS.new n) ∧ Below w.heap.size w w' ∧ ∀ b ∈ S, w.heap.size ≤ b

theorem new_done {W : World} {n g l m : Nat} (h0 : 0 < n) (h1 : n ≤ 2048) (hl : Bk W l 9 (List.replicate n (Value.string DevS.noughts)).toArray)
    (hm : IMap Tryz.prog 3 W m 0 (fun _ => none)) (hg : Bk W g 138 (devCells l n m false 0 0 0)) : Dev W g [g, l, m] (DevS.new n) := by
  have e : (strs (DevS.new n).sec).toArray = (List.replicate n (Value.string DevS.noughts)).toArray := by simp [strs, DevS.new]
  have el : (DevS.new n).sec.length = n := by simp [DevS.new]
  refine ⟨l, m, 0, id, id, ⟨DevS.Ok.new h0 h1, by rw [el]; exact hg, by rw [e]; exact hl, ?_, Int.le_refl _, fun i hi => absurd rfl hi, fun i _ hi => absurd rfl hi, fun i hi => absurd rfl hi, ⟨by simp, by simp, by simp, fun i hi => absurd rfl hi⟩, ?_⟩⟩
  · have : waitV (DevS.new n).row id id = fun _ => none := by funext i; unfold waitV; simp [waitsOf, DevS.new]
    rw [this]
    exact hm
  · intro b hb
    simp at hb
    rcases hb with rfl | rfl | rfl
    · exact hg.lt
    · exact hl.lt
    · exact hm.lt

set_option maxHeartbeats 4000000 in
theorem dnew_bad (n : Int) (w : World) (h : n < 1 ∨ 2048 < n) :
    Calls Tryz.prog 37 #[.int .i64 n] w fun e w' => e = .returned (.tuple #[.pointer none, .int .i64 1]) ∧ w = w' := by
  have hq : decide (n < 1) = true ∨ (decide (n < 1) = false ∧ decide (2048 < n) = true) := by simp; omega
  clear h
  rcases hq with q0 | ⟨q0, q1⟩
  all_goals
    go_enter Tryz.func37, Tryz.ntmps37
    go_wp2_with fail
    go_ret2
    exact ⟨rfl, rfl⟩

end Go.Proofs.YtkkgiajjdcpicaaGreatDoor

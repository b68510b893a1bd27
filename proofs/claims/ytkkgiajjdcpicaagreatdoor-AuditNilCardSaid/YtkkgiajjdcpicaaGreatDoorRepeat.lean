/- Contract of strings.Repeat at a text of one nought byte; before it those of (*strings.Builder).grow and Grow at a fresh builder, walked after the shelf's own. -/
import Derived.Test.YtkkgiajjdcpicaaGreatDoorKit
import Derived.Test.YtkkgiajjdcpicaaGreatDoorBuilderF
import Derived.Lib.MakeNoZero
import Derived.Laws.BitsAllLaws
namespace Go.Proofs.YtkkgiajjdcpicaaGreatDoor
open Go.RowKit
open Go.PlainAid
set_option maxRecDepth 1000000

theorem mask32 (c : Nat) (h : c < 4294967296) : bits .and .u64 (c : Int) 4294967295 = (c : Int) := by
  have := u64_and_nat c 4294967295 (by omega) (by decide)
  rw [show c &&& 4294967295 = c % 4294967296 from Nat.and_two_pow_sub_one_eq_mod c 32, Nat.mod_eq_of_lt h] at this
  exact this

set_option maxHeartbeats 1000000 in
theorem mul64_one (c : Nat) (w : World) (h : c ≤ 100000) :
    Calls Tryz.prog 184 #[.int .u64 1, .int .u64 c] w fun e w' => e = .returned (.tuple #[.int .u64 0, .int .u64 c]) ∧ w = w' := by
  have e1 := mask32 1 (by decide)
  have e2 := mask32 c (by omega)
  have e3 := mask32 0 (by decide)
  have e4 : (c : Int) / 4294967296 = 0 := by omega
  have e1' : bits .and .u64 1 4294967295 = 1 := e1
  have e3' : bits .and .u64 0 4294967295 = 0 := e3
  clear e1 e3
  go_enter Tryz.func184, Tryz.ntmps184
  go_wp2_with fail
  go_ret2
  simp

theorem mul_one (c : Nat) (w : World) (h : c ≤ 100000) :
    Calls Tryz.prog 123 #[.int .u64 1, .int .u64 c] w fun e w' => e = .returned (.tuple #[.int .u64 0, .int .u64 c]) ∧ w = w' := by
  have H := Lib.hid fun W : World => mul64_one c W h
  go_enter Tryz.func123, Tryz.ntmps123
  go_wp2_with (go_at_call 184; refine (H.out _).mono ?_; rintro e w' ⟨rfl, rfl⟩)
  go_ret2
  exact ⟨rfl, rfl⟩

set_option maxHeartbeats 2000000 in
theorem sb_grow_fresh (B b n : Nat) (w : World) (hB : B ≤ b) (hbk : w.heap[b]? = some (.cells #[.pointer (some ⟨b, 0, none⟩), .slice none 0 0] 200 (0, 0))) (hBw : B ≤ w.heap.size) (hn : n ≤ 100000) :
    Calls Tryz.prog 251 #[.pointer (some ⟨b, 0, none⟩), .int .i64 n] w fun e w' => e = .returned (.tuple #[]) ∧ (Lib.BuilderAt 200 5 B b (.pointer (some ⟨b, 0, none⟩)) [] w' ∧ Below B w w') := by
  obtain ⟨cs, hrun, hle, hmax⟩ := Lib.run_makeNoZero (P := Tryz.prog) w.drew #[3] 52 5 Tryz.underlying52 n (by omega)
  have hcall : (callFunc 267 #[.int .i64 (n : Int)]).run Tryz.prog w.drew = .ok (.value (.slice (some ⟨w.drew.heap.size, 0, none⟩) n cs.size)) (w.drew.drew.drew.alloc (.cells cs 5)) := by
    rw [run_callFunc_extern Tryz.func267 (by kernel_rfl) (by kernel_rfl) (by kernel_rfl) (e := Extern.BytealgMakeNoZero.makeNoZero #[3] #[52]) (by kernel_rfl), hrun]
    rfl
  have c1 : w.drew.cell? ⟨b, 1, none⟩ = some (.slice none 0 0) := by
    have : w.drew.heap[b]? = _ := hbk
    rw [Lib.cell_of_heap this]; rfl
  have hlt : b < w.heap.size := lt_of_block hbk
  have c2 : (w.alloc (.cells cs 5)).cell? ⟨b, 1, none⟩ = some (.slice none 0 0) := by
    have : (w.alloc (.cells cs 5)).heap[b]? = _ := (Lib.alloc_old w _ b hlt).trans hbk
    rw [Lib.cell_of_heap this]; rfl
  have f2 : (w.alloc (.cells cs 5)).frozen? ⟨b, 1, none⟩ = false := Lib.frozen_of_heap ((Lib.alloc_old w _ b hlt).trans hbk) 1
  have hcopy : ∀ W : World, (Builtin.copy_ #[52, 52] 3 #[.slice (some ⟨w.heap.size, 0, none⟩) 0 cs.size, .slice none 0 0]).run Tryz.prog W = .ok (goInt 0) W :=
    fun W => run_copy_none W 52 52 3 5 _ _ 0 cs.size 0 0 Tryz.underlying52 (by kernel_rfl) rfl
  have hfin := Lib.grown_fresh (T := 200) (e := 5) (cs := cs) hB hbk hBw (hmax (by unfold maxLen; omega)) sb_ne
  have hsw : (w.alloc (.cells cs 5)).setCell ⟨b, 1, none⟩ (.slice (some ⟨w.heap.size, 0, none⟩) 0 cs.size) = (w.setCell ⟨b, 1, none⟩ (.slice (some ⟨w.heap.size, 0, none⟩) 0 cs.size)).alloc (.cells cs 5) := World.setCell_alloc_past _ _ _ _ hlt
  rw [hsw] at hfin
  clear hsw
  go_enter Tryz.func251, Tryz.ntmps251
  go_wp2_with fail
  go_region
  all_goals (go_wp2_with fail; go_end0; exact ⟨rfl, hfin⟩)

set_option maxHeartbeats 2000000 in
theorem sb_Grow_fresh (B b n : Nat) (w : World) (hB : B ≤ b) (hbk : w.heap[b]? = some (.cells #[.pointer none, .slice none 0 0] 200 (0, 0))) (hBw : B ≤ w.heap.size) (hn : n ≤ 100000) (h1 : 1 ≤ n) :
    Calls Tryz.prog 229 #[.pointer (some ⟨b, 0, none⟩), .int .i64 n] w fun e w' => e = .returned (.tuple #[]) ∧ (SB B b [] w' ∧ Below B w w') := by
  have hbk1 : (w.setCell ⟨b, 0, none⟩ (.pointer (some ⟨b, 0, none⟩))).heap[b]? = some (.cells #[.pointer (some ⟨b, 0, none⟩), .slice none 0 0] 200 (0, 0)) := by
    simp [World.setCell, Array.getElem?_modify, hbk]
  have c1 : (w.setCell ⟨b, 0, none⟩ (.pointer (some ⟨b, 0, none⟩))).cell? ⟨b, 1, none⟩ = some (.slice none 0 0) := by rw [Lib.cell_of_heap hbk1]; rfl
  have hb1 : Below B w (w.setCell ⟨b, 0, none⟩ (.pointer (some ⟨b, 0, none⟩))) := (Below.refl B w).setCell (p := ⟨b, 0, none⟩) hB _
  have c1' : (w.setCell ⟨b, 0, none⟩ (.pointer (some ⟨b, 0, none⟩))).drew.cell? ⟨b, 1, none⟩ = some (.slice none 0 0) := c1
  have q1 : decide ((n : Int) < 0) = false := by simp
  have q2 : decide ((0 : Int) < n) = true := by simp; omega
  have HC := Lib.hid (sb_check_fresh b w (by rw [Lib.cell_of_heap hbk]; rfl) (by simp [World.shape?, hbk]) (Lib.frozen_of_heap hbk 0))
  have HG := Lib.hid (sb_grow_fresh B b n (w.setCell ⟨b, 0, none⟩ (.pointer (some ⟨b, 0, none⟩))).drew hB hbk1 (by simpa [World.setCell, World.drew, -World.drew_eq] using hBw) hn)
  have HB := Lib.hid hb1
  clear hbk hbk1 hb1
  go_enter Tryz.func229, Tryz.ntmps229
  go_wp2_with (go_at_call 181; refine HC.out.mono ?_; rintro e w' ⟨rfl, rfl⟩)
  go_region
  all_goals go_wp2_with (go_at_call 251; refine HG.out.mono ?_; rintro e w' ⟨rfl, h1, h2⟩)
  all_goals (go_end0; exact ⟨rfl, Or.inr h1, HB.out.drew.trans h2⟩)

/-- So many noughts. -/
def noughts (c : Nat) : ByteArray := ⟨(List.replicate c (0 : UInt8)).toArray⟩
theorem noughts_size (c : Nat) : (noughts c).size = c := by unfold noughts; rw [size_list, List.length_replicate]
theorem noughts_list (c : Nat) : (noughts c).data.toList = List.replicate c 0 := rfl
theorem noughts_cut (c k : Nat) (h : k ≤ c) : (noughts c).extract 0 k = noughts k := by
  apply str_eq
  rw [extract_list, noughts_list, noughts_list]
  simp [List.take_replicate]
  omega

theorem sb_pos {B b : Nat} {l : List UInt8} {w : World} (h : SB B b l w) : B ≤ b ∧ b < w.heap.size := by
  rcases h with h | h
  · exact ⟨h.1, h.lt⟩
  · exact ⟨h.1, h.lt⟩

theorem run_min_int3 {P : Program} {w : World} (ts : Array TypeId) (t : TypeId) (k k' k'' : IntKind) (x y z : Int) :
    (Builtin.min_ ts t #[.int k x, .int k' y, .int k'' z]).run P w = .ok (.int k (if z < (if y < x then y else x) then z else (if y < x then y else x))) w := by
  simp [Builtin.min_, Builtin.min2]

set_option maxHeartbeats 4000000 in
theorem repeat_any (c : Nat) (w : World) (hc : c ≤ 8000) :
    Calls Tryz.prog 214 #[.string ⟨#[0]⟩, .int .i64 c] w (TellsS (noughts c) w) := by
  by_cases h0 : c = 0
  · subst h0
    go_enter Tryz.func214, Tryz.ntmps214
    go_wp2_with fail
    go_ret
    exact ⟨rfl, Below.refl _ _⟩
  by_cases h1 : c = 1
  · subst h1
    go_enter Tryz.func214, Tryz.ntmps214
    go_wp2_with fail
    go_ret
    exact ⟨rfl, Below.refl _ _⟩
  have q0 : ((c : Int) == 0) = false := by simp; omega
  have q1 : ((c : Int) == 1) = false := by simp; omega
  have q2 : decide ((c : Int) < 0) = false := by simp
  have q3 : decide (9223372036854775807 < (c : Int)) = false := by simp; omega
  have q4 : decide (8192 < (c : Int)) = false := by simp; omega
  have h2 : 2 ≤ c := by omega
  have HM := Lib.hid fun W : World => mul_one c W (by omega)
  have HG := Lib.hid (sb_Grow_fresh w.heap.size w.heap.size c (w.alloc (.cells #[.pointer none, .slice none 0 0] 200)) (Nat.le_refl _) (heap_alloc_new w _) (by simp) (by omega) (by omega))
  have hbw : Below w.heap.size w (w.alloc (.cells #[.pointer none, .slice none 0 0] 200)) := (Below.refl _ _).alloc (Nat.le_refl _) _
  have HW := Lib.hid hbw
  clear h0 h1 hbw
  go_enter Tryz.func214, Tryz.ntmps214
  go_wp2_with (first
    | (go_at_call 123; refine (HM.out _).mono ?_; rintro e w' ⟨rfl, rfl⟩)
    | (go_at_call 229; refine HG.out.mono ?_; rintro e w1 ⟨rfl, hs1, hb1⟩; have HS1 := Lib.hid hs1; have HB1 := Lib.hid (HW.out.trans hb1); clear hs1 hb1)
    | (go_at_call 119; refine (sf_write w.heap.size _ [] ⟨#[0]⟩ w1 (Lib.IsBuilderF.of HS1.out) (by decide) HB1.out.size).mono ?_; rintro e w2 ⟨rfl, hs2, hb2⟩; have HB2 := Lib.hid (HB1.out.trans hb2))
    | fail)
  have HS2 := Lib.hid (show SF w.heap.size w.heap.size (List.replicate 1 0) w2 from hs2)
  clear hs2 hb2
  have hmn : ∀ (W : World) (q : Nat), 1 ≤ q → q < c → (Builtin.min_ #[3, 3, 3] 3 #[.int .i64 ((c : Int) - q), .int .i64 (q : Int), .int .i64 (c : Int)]).run Tryz.prog W = .ok (.int .i64 ((min (c - q) q : Nat) : Int)) W := by
    intro W q hq1 hq2
    rw [run_min_int3]
    congr 2
    split <;> split <;> omega
  have HMN := Lib.hid hmn
  clear hmn
  go_loopg [10] (c - 1) (fun k _ wr => ∃ q : Nat, 1 ≤ q ∧ q + k = c ∧ Hid (SF w.heap.size w.heap.size (List.replicate q 0) wr) ∧ Hid (Below w.heap.size w wr))
  case atStart => exact ⟨1, Nat.le_refl _, by omega, HS2.out, HB2.out⟩
  case round =>
    obtain ⟨q, hq1, hqk, HS, HB⟩ := hrel
    have hne : List.replicate q (0 : UInt8) ≠ [] := by
      intro h
      have := congrArg List.length h
      simp at this
      omega
    have hl : (List.replicate q (0 : UInt8)).length = q := List.length_replicate
    have HL := Lib.hid (sf_len _ _ _ wr HS.out)
    rw [hl] at HL
    have HST := Lib.hid (show Calls Tryz.prog 122 #[.pointer (some ⟨w.heap.size, 0, none⟩)] wr fun e w' => e = .returned (.string (noughts q)) ∧ (SF w.heap.size w.heap.size (List.replicate q 0) w' ∧ Below w.heap.size wr w') from sf_string _ _ _ wr HS.out hne)
    by_cases hlt : q < c
    · have hmn := HMN.out wr q hq1 hlt
      have hm1 : min (c - q) q ≤ q := by omega
      have hm0 : 1 ≤ min (c - q) q := by omega
      have hm2 : q + min (c - q) q ≤ c := by omega
      generalize min (c - q) q = m at *
      have hex := noughts_cut q m hm1
      have hnz := noughts_size q
      have HEX := Lib.hid hex
      have hnz2 : q ≤ (noughts q).size := by omega
      have hnz3 : (noughts q).size ≤ q := by omega
      generalize noughts q = nq at *
      clear hl hex hnz hne
      go_wp2_with (first
        | (go_at_call 121; refine HL.out.mono ?_; rintro e w' ⟨rfl, rfl⟩)
        | (go_at_call 122; refine HST.out.mono ?_; rintro e w3 ⟨rfl, hs3, hb3⟩)
        | fail)
      rw [HEX.out]
      have hbl3 := HB.out.trans hb3
      refine (sf_write w.heap.size _ _ (noughts m) w3 hs3 (by rw [List.length_replicate, noughts_size]; omega) hbl3.size).mono ?_
      rintro e w4 ⟨rfl, hs4, hb4⟩
      rw [noughts_list, List.replicate_append_replicate] at hs4
      have hbl4 := hbl3.trans hb4
      clear hs3 hb3 hb4
      go_wp2_with fail
      go_roundg (c - (q + m))
      case measure => omega
      case rel => exact ⟨q + m, by omega, by omega, hs4, hbl4⟩
    · obtain rfl : q = c := by omega
      clear hl hne
      go_wp2_with (first
        | (go_at_call 121; refine HL.out.mono ?_; rintro e w' ⟨rfl, rfl⟩)
        | (go_at_call 122; refine HST.out.mono ?_; rintro e w3 ⟨rfl, hs3, hb3⟩)
        | fail)
      go_ret
      exact ⟨rfl, HB.out.trans hb3⟩
end Go.Proofs.YtkkgiajjdcpicaaGreatDoor

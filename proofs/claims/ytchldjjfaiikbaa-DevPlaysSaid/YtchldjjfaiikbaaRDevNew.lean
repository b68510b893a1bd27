/- Contracts of the reference's device: New. -/
import Derived.Test.YtchldjjfaiikbaaRDevStart
import Derived.Test.YtchldjjfaiikbaaDevNew
namespace Go.Proofs.Ytchldjjfaiikbaa
open Go.RowKit
open Go.PlainAid
set_option maxRecDepth 100000
set_option linter.unusedVariables false
set_option linter.unusedSimpArgs false

def RNewPost (n : Nat) (w : World) (e : Ending) (w' : World) : Prop :=
  ∃ g S, e = .returned (.tuple #[ptr g, .int .i64 0]) ∧ RDev w' g S (DevS.new n) ∧ Below w.heap.size w w' ∧ ∀ b ∈ S, w.heap.size ≤ b
theorem rnew_bad (n : Int) (w : World) (h : n < 1 ∨ 2048 < n) :
    Calls Try.prog 22 #[.int .i64 n] w fun e w' => e = .returned (.tuple #[.pointer none, .int .i64 1]) ∧ w = w' := by
  have hq : decide (n < 1) = true ∨ (decide (n < 1) = false ∧ decide (2048 < n) = true) := by simp; omega
  clear h
  rcases hq with q0 | ⟨q0, q1⟩
  all_goals
    go_enter Try.func22, Try.ntmps22
    go_wp2_with fail
    go_ret2
    exact ⟨rfl, rfl⟩

/-- The device while it is made: k sectors. -/
structure RMade (w wr : World) (g k : Nat) (v : Value) : Prop where
  cells : Bk wr g 50 (rCells v (.slice none 0 0) false 0 0 0)
  own : wr.ownsRow w.heap.size 9 1 v k (List.replicate k (.string DevS.noughts))
  bel : Below w.heap.size w wr
  new : w.heap.size ≤ g
theorem rmade_next {w wr w2 : World} {g k : Nat} {v v' : Value} (h : RMade w wr g k v) {W : World} (hW : Below wr.heap.size wr W) (hg : W.grownBy w2 v.ownBlock) (hown : w2.ownsRow w.heap.size 9 1 v' (k + 1) (List.replicate k (.string DevS.noughts) ++ [.string DevS.noughts])) :
    RMade w (w2.setCell ⟨g, 0, none⟩ v').drew g (k + 1) v' ∧ RMade w (w2.setCell ⟨g, 0, none⟩ v') g (k + 1) v' := by
  have hne : v.ownBlock ≠ some g := own_ne h.own h.cells (by decide)
  have hgW := bk_below h.cells hW
  have hg2 : Bk w2 g 50 _ := (hg.block g hgW.lt (fun e => hne e.symm)).trans hgW
  have hne2 : v'.ownBlock ≠ some g := own_ne hown hg2 (by decide)
  have e : List.replicate k (Value.string DevS.noughts) ++ [.string DevS.noughts] = List.replicate (k + 1) (.string DevS.noughts) := by rw [List.replicate_succ']
  rw [e] at hown
  have hOg : Off [g] w2 (w2.setCell ⟨g, 0, none⟩ v') := (Off.refl [g] w2).setCell (.inl (by simp)) _
  have h1 : RMade w (w2.setCell ⟨g, 0, none⟩ v') g (k + 1) v' := by
    refine ⟨hg2.put 0 v', hOg.own hown (fun b hb => by rw [hb] at hne2; simp; exact fun e => hne2 (by rw [e])), ?_, h.new⟩
    have b1 := h.bel.trans (hW.mono h.bel.size)
    have b2 : Below w.heap.size W w2 := by
      refine ⟨hg.os, hg.tape, hg.output, hg.size, fun i hi => hg.block i (by have := h.bel.size; have := hW.size; omega) (fun e => ?_)⟩
      have := (h.own.lt i e.symm).1
      omega
    exact (b1.trans b2).setCell (by simpa using h.new) _
  exact ⟨⟨h1.cells.drew, h1.own.drew, h1.bel.drew, h1.new⟩, h1⟩

theorem rmade_cell {w wr w2 : World} {g k : Nat} {v : Value} (h : RMade w wr g k v) {W : World} (hW : Below wr.heap.size wr W) (hg : W.grownBy w2 v.ownBlock) : w2.cell? ⟨g, 0, none⟩ = some v ∧ w2.frozen? ⟨g, 0, none⟩ = false := by
  have hne : v.ownBlock ≠ some g := own_ne h.own h.cells (by decide)
  have hgW := bk_below h.cells hW
  have hg2 : Bk w2 g 50 _ := (hg.block g hgW.lt (fun e => hne e.symm)).trans hgW
  exact ⟨hg2.six.1, hg2.frozen 0⟩

set_option maxHeartbeats 4000000 in
theorem rnew_any (n : Nat) (w : World) (h0 : 0 < n) (h1 : n ≤ 2048) :
    Calls Try.prog 22 #[.int .i64 (n : Int)] w (RNewPost n w) := by
  have q0 : decide ((n : Int) < 1) = false := by simp; omega
  have q1 : decide ((2048 : Int) < (n : Int)) = false := by simp; omega
  have H0 := Lib.hid h0
  have hmk := make_zeros
  obtain ⟨inf, hi, hz0, hz1, hz2⟩ := info_parts info_str
  have HI := Lib.hid (And.intro hi (And.intro hz0 (And.intro hz1 hz2)))
  clear h0 hi hz0 hz1 hz2
  go_enter Try.func22, Try.ntmps22
  go_wp2_with fail
  go_loopw [5] (fun c wr => ∃ k : Nat, k ≤ n ∧ c = .int .i64 (k : Int) ∧ ∃ v, RMade w wr w.heap.size k v) (fun c _ => n - (intOf c).toNat)
  case atStart =>
    exact ⟨0, Nat.zero_le _, rfl, .slice none 0 0, Bk.new w _ _, World.ownsRow_nil _ _ _ _, (Below.refl _ _).alloc (Nat.le_refl _) _, Nat.le_refl _⟩
  case round =>
    obtain ⟨k, hk, rfl, v, hm⟩ := hrel
    have HM := Lib.hid hm
    obtain ⟨c0, c1, c2, c3, c4, c5⟩ := hm.cells.six
    have g0 := hm.cells.frozen 0
    by_cases hlt : k < n
    · obtain ⟨A, cap, rfl, hk1, hk2, hk3, hk4, hk5⟩ := own_slice hm.own
      clear hm c1 c2 c3 c4 c5 hk1 hk2 hk3 hk4 hk5
      have hcv : (convert 55 9 (.slice (some ⟨wr.heap.size, 0, none⟩) 128 128)).run Try.prog (wr.alloc (.cells zeros 5)).drew = .ok (.string DevS.noughts) (wr.alloc (.cells zeros 5)).drew := by
        refine conv_cells (W := (wr.alloc (.cells zeros 5)).drew) (g := wr.heap.size) (o := 0) (L := List.replicate 128 0) List.length_replicate.symm (fun j hj => ?_)
        rw [Nat.zero_add, (Bk.new wr 5 zeros).drew.cell j]
        exact zerosN_at 128 j hj
      obtain ⟨s0, hs0⟩ : ∃ s0, s0 = DevS.noughts := ⟨_, rfl⟩
      rw [← hs0] at hcv
      have HS0 := Lib.hid hs0
      clear hs0
      generalize hzz : zeros = zz at *
      have HZZ := Lib.hid hzz
      clear hzz
      have HOWN : Hid (wr.ownsRow w.heap.size 9 1 (.slice A k cap) k (List.replicate k (.string s0))) := show World.ownsRow _ _ _ _ _ _ _ by rw [HS0.out]; exact HM.out.own
      have HBEL := Lib.hid HM.out.bel.size
      have hgl2 : w.heap.size < wr.heap.size := HM.out.cells.lt
      have HBW : Hid (Below wr.heap.size wr ((wr.alloc (.cells zz 5)).alloc (.cells #[.string s0] 9)).drew) := (((Below.refl _ wr).alloc (Nat.le_refl _) _).alloc (by simp) _).drew
      have HOW3 : Hid (((wr.alloc (.cells zz 5)).alloc (.cells #[.string s0] 9)).drew.ownsRow w.heap.size 9 1 (.slice A k cap) k (List.replicate k (.string s0))) := ((HOWN.out.alloc _).alloc _).drew
      have HNEWS : Hid (∀ (j : Nat) (u : Value), [Value.string s0][j]? = some u → ((wr.alloc (.cells zz 5)).alloc (.cells #[.string s0] 9)).drew.cell? ((⟨wr.heap.size + 1, 0, none⟩ : Addr).add j) = some u) := fun j u hu => by
        have h := (Bk.new (wr.alloc (.cells zz 5)) 9 #[.string s0]).drew.cell j
        rw [show (wr.alloc (.cells zz 5)).heap.size = wr.heap.size + 1 from by simp] at h
        rw [add_zero_addr, h]
        simpa using hu
      go_wp2_with fail
      go_region_law ((refine step_append_lies _ (by rfl) _ _ 30 (by rfl) w.heap.size 9 inf (.string ByteArray.empty) 1 16 Try.underlying30 HI.out.1 HI.out.2.1 HI.out.2.2.1 HI.out.2.2.2 (by rfl) (by omega) _ _ _ (by rfl) HOW3.out ⟨wr.heap.size + 1, 0, none⟩ 1 1 [.string s0] (by rfl) (by rfl) HNEWS.out (strs_one [s0]) (by omega) (by unfold maxLen; omega) (by omega) (by have := HBEL.out; simp; omega) (wr.heap.size + 1 + 1) (by simp) ?_; intro b cap2 w2 hown2 hgrow hat hblt; have hcf := rmade_cell HM.out HBW.out hgrow; obtain ⟨hcf1, hcf2⟩ := hcf; have HO2 := Lib.hid hown2; have HG2 := Lib.hid hgrow; clear hown2 hgrow hat hblt))
      all_goals
        go_wp2_with fail
        go_roundw
        case rel =>
          have hn : RMade w (w2.setCell ⟨w.heap.size, 0, none⟩ (.slice (some ⟨b, 0, none⟩) (k + 1) cap2)) w.heap.size (k + 1) (.slice (some ⟨b, 0, none⟩) (k + 1) cap2) := (rmade_next HM.out HBW.out HG2.out (by have := HO2.out; rw [HS0.out] at this; exact this)).2
          first
            | exact ⟨k + 1, by omega, by go_num, _, hn⟩
            | ((repeat apply Exists.intro); exact ⟨⟨k + 1, by omega, by go_num, _, hn⟩, rfl⟩)
        case measure => simp [intOf]; omega
    · obtain rfl : k = n := by omega
      clear hm c0 c1 c2 c3 c4 c5 g0
      go_wp2_with fail
      go_ret2
      obtain ⟨A, cap, rfl, hk1, hk2, hk3, hk4, hk5⟩ := own_slice HM.out.own
      obtain ⟨b, cap', hv, _, hlt'⟩ := HM.out.own.form (by simpa using H0.out)
      injection hv with hv
      subst hv
      have hbk := HM.out.cells
      refine ⟨w.heap.size, [w.heap.size, b], rfl, ⟨b, cap, none, 0, ?_⟩, HM.out.bel, ?_⟩
      · refine ⟨DevS.Ok.new H0.out h1, ?_, ?_, World.ownsRow_nil _ _ _ _, ⟨by simp, by simp, fun x hx => by simp [Value.ownBlock] at hx⟩, ?_⟩
        · have e : (DevS.new k).sec.length = k := by simp [DevS.new]
          rw [e]
          exact hbk
        · have e : (DevS.new k).sec.length = k := by simp [DevS.new]
          have e2 : strs (DevS.new k).sec = List.replicate k (.string DevS.noughts) := by simp [strs, DevS.new]
          rw [e, e2]
          exact own_mono HM.out.own (Nat.zero_le _)
        · intro x hx
          simp at hx
          rcases hx with rfl | rfl
          · exact hbk.lt
          · exact hlt'
      · intro x hx
        simp at hx
        have := (HM.out.own.lt b rfl).1
        omega
end Go.Proofs.Ytchldjjfaiikbaa

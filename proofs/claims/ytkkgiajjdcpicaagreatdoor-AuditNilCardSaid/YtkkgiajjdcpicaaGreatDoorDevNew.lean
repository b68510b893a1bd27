/- Contract of the device: New. -/
import Derived.Test.YtkkgiajjdcpicaaGreatDoorDevNewA
namespace Go.Proofs.YtkkgiajjdcpicaaGreatDoor
open Go.RowKit
open Go.PlainAid
set_option maxRecDepth 100000
set_option linter.unusedVariables false
set_option linter.unusedSimpArgs false

set_option maxHeartbeats 4000000 in
theorem dnew_any (n : Nat) (w : World) (h0 : 0 < n) (h1 : n ≤ 2048) :
    Calls Tryz.prog 37 #[.int .i64 (n : Int)] w (NewPost n w) := by
  have q0 : decide ((n : Int) < 1) = false := by simp; omega
  have q1 : decide ((2048 : Int) < (n : Int)) = false := by simp; omega
  have H0 := Lib.hid h0
  have H1 := Lib.hid h1
  have hmk := make_zeros
  have hcv := conv_zeros w
  have hmm := @run_makeMap Tryz.prog
  clear h0 h1
  obtain ⟨s0, hs0⟩ : ∃ s0, s0 = DevS.noughts := ⟨_, rfl⟩
  rw [← hs0] at hcv
  have HS0 := Lib.hid hs0
  clear hs0
  generalize zeros = z0 at *
  have hbk : Bk ((w.alloc (.cells z0 5)).alloc (.cells #[.string s0] 9)) (w.heap.size + 1) 9 #[.string s0] := by
    have h := Bk.new (w.alloc (.cells z0 5)) 9 #[.string s0]
    rw [show (w.alloc (.cells z0 5)).heap.size = w.heap.size + 1 from by simp] at h
    exact h
  have HBK := Lib.hid hbk
  clear hbk
  go_enter Tryz.func37, Tryz.ntmps37
  go_wp2_with (first
    | (go_at_call 73; (with_reducible refine (repeat_strs s0 (w.heap.size + 1) n _ HBK.out H0.out H1.out).mono ?_); rintro e w2 ⟨rfl, hb2, hbel2⟩; have HB2 := Lib.hid hb2; have HBEL2 := Lib.hid hbel2; clear hb2 hbel2)
    | fail)
  go_ret2
  have hb := HB2.out
  have hbel := HBEL2.out
  have hsz : ((w.alloc (.cells z0 5)).alloc (.cells #[.string s0] 9)).heap.size = w.heap.size + 1 + 1 := by simp
  rw [hsz] at hb hbel
  have hbw : Below w.heap.size w w2 := ((((Below.refl _ w).alloc (Nat.le_refl _) _).alloc (by simp) _).trans (hbel.mono (by omega)))
  have hlt := hb.lt
  have hg := Bk.new (w2.alloc (.map #[] 0)) 138 (devCells (w.heap.size + 1 + 1) n w2.heap.size false 0 0 0)
  have hsz2 : (w2.alloc (.map #[] 0)).heap.size = w2.heap.size + 1 := by simp
  rw [hsz2] at hg
  refine ⟨w2.heap.size + 1, [w2.heap.size + 1, w.heap.size + 1 + 1, w2.heap.size], rfl, new_done H0.out H1.out ?_ ?_ hg, ?_, ?_⟩
  · rw [← HS0.out]; exact (hb.alloc _).alloc _
  · exact (IMap.made w2 Tryz.prog 3).of_heap (Below.heap_alloc _ _ _ (by simp))
  · exact (hbw.alloc (by omega) _).alloc (by simp; omega) _
  · intro b hb
    simp at hb
    omega
end Go.Proofs.YtkkgiajjdcpicaaGreatDoor

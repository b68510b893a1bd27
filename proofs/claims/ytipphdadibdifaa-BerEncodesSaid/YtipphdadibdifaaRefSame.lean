/- Contract of the reference's Same, at one tree that lies in two places. -/
import Derived.Test.YtipphdadibdifaaChecked
import Derived.Test.YtipphdadibdifaaTree
import Derived.Test.YtipphdadibdifaaBerNumbers
import Derived.StillTailTactics
import Derived.Deep.RegionWith
namespace Go.Proofs.Ytipphdadibdifaa
open Go.RowKit

set_option maxRecDepth 100000 in
set_option maxHeartbeats 1000000 in
theorem sameT_any (n : Nat) : ∀ (S T : Nat → Prop) (t : Tl) (cs ds : Array Value) (w : World), t.rank ≤ n → TlAt w S t cs → TlAt w T t ds →
    Calls Try.prog 30 #[.agg cs, .agg ds] w (Holds w) := by
  induction n with
  | zero =>
    intro S T t cs ds w hr
    obtain ⟨c, k, g, b, ks⟩ := t
    unfold Tl.rank at hr
    omega
  | succ n ih =>
    intro S T t cs ds w hr ht hu
    obtain ⟨c, k, g, b, ks⟩ := t
    unfold TlAt at ht hu
    obtain ⟨A, cap, rfl, hks, hc, hg, hb, hk⟩ := ht
    obtain ⟨A2, cap2, rfl, -, -, -, -, hk2⟩ := hu
    unfold Tl.rank at hr
    unfold maxLen at hb hks
    have IH := Lib.hid ih
    have HK := Lib.hid hk
    have HK2 := Lib.hid hk2
    clear ih hk hk2 hc hg
    have hwk : Bk ((w.alloc (.cells #[.int .i64 c, .bool k, .int .i64 g, .string b, .slice A ks.length cap] 44)).alloc (.cells #[.int .i64 c, .bool k, .int .i64 g, .string b, .slice A2 ks.length cap2] 44)) w.heap.size 44 #[.int .i64 c, .bool k, .int .i64 g, .string b, .slice A ks.length cap] := (Bk.new _ _ _).alloc _
    have hwk2 : Bk ((w.alloc (.cells #[.int .i64 c, .bool k, .int .i64 g, .string b, .slice A ks.length cap] 44)).alloc (.cells #[.int .i64 c, .bool k, .int .i64 g, .string b, .slice A2 ks.length cap2] 44)) (w.heap.size + 1) 44 #[.int .i64 c, .bool k, .int .i64 g, .string b, .slice A2 ks.length cap2] := by simpa using Bk.new (w.alloc (.cells #[.int .i64 c, .bool k, .int .i64 g, .string b, .slice A ks.length cap] 44)) 44 #[.int .i64 c, .bool k, .int .i64 g, .string b, .slice A2 ks.length cap2]
    have hbw : Below w.heap.size w ((w.alloc (.cells #[.int .i64 c, .bool k, .int .i64 g, .string b, .slice A ks.length cap] 44)).alloc (.cells #[.int .i64 c, .bool k, .int .i64 g, .string b, .slice A2 ks.length cap2] 44)) := ((Below.refl _ _).alloc (Nat.le_refl _) _).alloc (by simp) _
    obtain ⟨w1, hw1⟩ : ∃ w1, w1 = (w.alloc (.cells #[.int .i64 c, .bool k, .int .i64 g, .string b, .slice A ks.length cap] 44)).alloc (.cells #[.int .i64 c, .bool k, .int .i64 g, .string b, .slice A2 ks.length cap2] 44) := ⟨_, rfl⟩
    rw [← hw1] at hwk hwk2 hbw
    have HW1 := Lib.hid hw1
    have HWK := Lib.hid hwk
    have HWK2 := Lib.hid hwk2
    have HBW := Lib.hid hbw
    clear hw1 hwk hwk2 hbw
    go_enter Try.func30, Try.ntmps30
    go_wp2_with fail
    rw [← HW1.out]
    go_loopw [5] (fun i wr => ∃ (j : Nat), i = .int .i64 j ∧ j ≤ ks.length ∧ Below w1.heap.size w1 wr) (fun i _ => ks.length - (intOf i).toNat)
    case atStart => exact ⟨0, rfl, Nat.zero_le _, Below.refl _ _⟩
    case round =>
      obtain ⟨j, rfl, hj, hbel⟩ := hrel
      have hcell := (bk_below HWK.out hbel).cell 4
      have hcell2 := (bk_below HWK2.out hbel).cell 4
      simp at hcell hcell2
      have HB := Lib.hid hbel
      have HR := Lib.hid (HBW.out.trans (hbel.mono HBW.out.size))
      clear hbel
      by_cases hlt : j < ks.length
      · obtain ⟨b1, o1, c0, c1, c2, c3, c4, rfl, ⟨_, hb1⟩, q0, q1, q2, q3, q4, ht⟩ := (KsAt.below HR.out ks A 0 HK.out).get j hlt
        obtain ⟨b2, o2, d0, d1, d2, d3, d4, rfl, ⟨_, hb2⟩, r0, r1, r2, r3, r4, hu⟩ := (KsAt.below HR.out ks A2 0 HK2.out).get j hlt
        have hrk := Tl.rank_mem (List.getElem_mem hlt)
        have HC := Lib.hid (IH.out S T ks[j] _ _ wr.drew (by omega) (TlAt.below (Below.refl _ _).drew _ _ ht) (TlAt.below (Below.refl _ _).drew _ _ hu))
        rw [Nat.zero_add] at q0 q1 q2 q3 q4 r0 r1 r2 r3 r4
        clear ht hu
        go_wp2_with fail
        go_region_with (go_at_call 30; refine HC.out.mono ?_; rintro e w3 ⟨rfl, hb3⟩)
        all_goals
          go_wp2_with fail
          have hb4 : Below w1.heap.size w1 w3 := HB.out.drew.trans (hb3.mono HB.out.drew.size)
          go_roundw
          case rel => exact ⟨j + 1, by go_num, by omega, hb4⟩
          case measure => simp [intOf]; omega
      · go_wp2_with fail
        go_ret
        exact ⟨rfl, HR.out⟩
end Go.Proofs.Ytipphdadibdifaa

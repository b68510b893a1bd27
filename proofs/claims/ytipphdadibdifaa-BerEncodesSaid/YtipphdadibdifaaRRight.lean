/- Contract of the reference's Right. -/
import Derived.Test.YtipphdadibdifaaRight
namespace Go.Proofs.Ytipphdadibdifaa
open Go.RowKit

set_option maxRecDepth 100000 in
set_option maxHeartbeats 2000000 in
theorem rright_any (n : Nat) : ∀ (S : Nat → Prop) (t : Tl) (cs : Array Value) (d : Nat) (w : World), t.rank ≤ n → TlAt w S t cs → d ≤ 17 →
    Calls Try.prog 28 #[.agg cs, .int .i64 d] w (TellsQ (t.right d) w) := by
  induction n with
  | zero =>
    intro S t cs d w hr
    obtain ⟨c, k, g, b, ks⟩ := t
    unfold Tl.rank at hr
    omega
  | succ n ih =>
    intro S t cs d w hr ht hd
    obtain ⟨c, k, g, b, ks⟩ := t
    unfold TlAt at ht
    obtain ⟨A, cap, rfl, hks, hc, hg, hb, hk⟩ := ht
    unfold Tl.rank at hr
    unfold maxLen at hb hks
    have hpre := Tl.right.eq_1 d c k g b ks
    by_cases hbad : 16 < d ∨ c < 0 ∨ 3 < c ∨ g < 0 ∨ 30 < g
    · rw [if_pos hbad] at hpre
      rw [hpre]
      exact rright_no _ _ _ _ _ _ _ _ _ hd hbad
    rw [if_neg hbad] at hpre
    have IH := Lib.hid ih
    have HK := Lib.hid hk
    clear ih hk hc hg
    have h1 : d ≤ 16 := by omega
    have t1 : decide ((16 : Int) < d) = false := by simp; omega
    have t2 : decide (c < 0) = false := by simp; omega
    have t3 : decide (3 < c) = false := by simp; omega
    have t4 : decide (g < 0) = false := by simp; omega
    have t5 : decide (30 < g) = false := by simp; omega
    clear hbad
    cases k with
    | false =>
      rw [if_neg (by simp)] at hpre
      rw [hpre]
      clear hpre
      by_cases hz : ks.length = 0
      · obtain rfl : ks = [] := List.eq_nil_of_length_eq_zero hz
        clear hz
        go_enter Try.func28, Try.ntmps28
        go_wp2_with fail
        go_loopw [5] (fun i wr => i = .int .i64 0 ∧ wr = w.alloc (.cells #[.int .i64 c, .bool false, .int .i64 g, .string b, .slice A 0 cap] 44)) (fun _ _ => 0)
        case atStart => exact ⟨rfl, rfl⟩
        case round =>
          obtain ⟨rfl, rfl⟩ := hrel
          go_wp2_with fail
          go_ret
          exact ⟨rfl, (Below.refl _ _).alloc (Nat.le_refl _) _⟩
      · have hz1 : 0 < ks.length := by omega
        have hz2 : decide ((0 : Int) < ks.length) = true := by simp; omega
        have e : ks.isEmpty = false := by
          cases ks with
          | nil => exact absurd rfl hz
          | cons _ _ => rfl
        rw [e]
        clear hz e
        go_enter Try.func28, Try.ntmps28
        go_wp2_with fail
        go_ret
        exact tellsQ_of rfl ((Below.refl _ _).alloc (Nat.le_refl _) _)
    | true =>
      rw [if_pos rfl] at hpre
      cases hbe : b.toList.isEmpty with
      | false =>
        rw [hbe, Bool.and_false] at hpre
        rw [hpre]
        clear hpre
        have e2 : (!b.toList.isEmpty) = true := by rw [hbe]; rfl
        have e3 : ¬ b.toList = [] := by intro e; rw [e] at hbe; simp at hbe
        go_enter Try.func28, Try.ntmps28
        go_wp2_with fail
        go_ret
        exact tellsQ_of rfl ((Below.refl _ _).alloc (Nat.le_refl _) _)
      | true =>
      rw [hbe, Bool.and_true] at hpre
      have HP := Lib.hid hpre
      have e2 : (!b.toList.isEmpty) = false := by rw [hbe]; rfl
      have e3 : b.toList = [] := by simpa using hbe
      clear hpre
      have hwk : Bk (w.alloc (.cells #[.int .i64 c, .bool true, .int .i64 g, .string b, .slice A ks.length cap] 44)) w.heap.size 44 #[.int .i64 c, .bool true, .int .i64 g, .string b, .slice A ks.length cap] := Bk.new _ _ _
      have hbw : Below w.heap.size w (w.alloc (.cells #[.int .i64 c, .bool true, .int .i64 g, .string b, .slice A ks.length cap] 44)) := (Below.refl _ _).alloc (Nat.le_refl _) _
      obtain ⟨w1, hw1⟩ : ∃ w1, w1 = w.alloc (.cells #[.int .i64 c, .bool true, .int .i64 g, .string b, .slice A ks.length cap] 44) := ⟨_, rfl⟩
      rw [← hw1] at hwk hbw
      have HW1 := Lib.hid hw1
      have HWK := Lib.hid hwk
      have HBW := Lib.hid hbw
      clear hw1 hwk hbw
      go_enter Try.func28, Try.ntmps28
      go_wp2_with fail
      rw [← HW1.out]
      go_loopw [5] (fun i wr => ∃ (j : Nat), i = .int .i64 j ∧ j ≤ ks.length ∧ Hid (Tl.rights ks (d + 1) = Tl.rights (ks.drop j) (d + 1)) ∧ Below w1.heap.size w1 wr) (fun i _ => ks.length - (intOf i).toNat)
      case atStart => exact ⟨0, rfl, Nat.zero_le _, rfl, Below.refl _ _⟩
      case round =>
        obtain ⟨j, rfl, hj, HE, hbel⟩ := hrel
        have hcell := (bk_below HWK.out hbel).cell 4
        simp at hcell
        have HB := Lib.hid hbel
        have HR := Lib.hid (HBW.out.trans (hbel.mono HBW.out.size))
        clear hbel
        by_cases hlt : j < ks.length
        · obtain ⟨b1, o1, c0, c1, c2, c3, c4, rfl, ⟨_, hb1⟩, q0, q1, q2, q3, q4, ht⟩ := (KsAt.below HR.out ks A 0 HK.out).get j hlt
          have hrk := Tl.rank_mem (List.getElem_mem hlt)
          have HC := IH.out S ks[j] _ (d + 1) wr (by omega) ht (by omega)
          have hst := Tl.rights_step ks j (d + 1) hlt
          rw [Nat.zero_add] at q0 q1 q2 q3 q4
          rw [Int.natCast_add] at HC
          clear ht
          cases hq : ks[j].right (d + 1) with
          | true =>
            rw [hq] at HC hst
            rw [Bool.true_and] at hst
            have HC2 := Lib.hid HC
            have HST := Lib.hid hst
            clear HC hst hq
            go_wp2_with (go_at_call 28; refine HC2.out.mono ?_; rintro e w3 ⟨rfl, hb3⟩)
            have hb4 := HB.out.trans (hb3.mono HB.out.size)
            go_roundw
            case rel => exact ⟨j + 1, by go_num, by omega, HE.out.trans HST.out, hb4⟩
            case measure => simp [intOf]; omega
          | false =>
            rw [hq] at HC hst
            rw [Bool.false_and] at hst
            have HC2 := Lib.hid HC
            have HST := Lib.hid hst
            clear HC hst hq
            go_wp2_with (go_at_call 28; refine HC2.out.mono ?_; rintro e w3 ⟨rfl, hb3⟩)
            have hb4 := HR.out.trans (hb3.mono HR.out.size)
            go_ret
            exact tellsQ_of (by rw [HP.out, HE.out, HST.out]) hb4
        · have hen := Lib.hid (Tl.rights_end ks j (d + 1) (by omega))
          go_wp2_with fail
          go_ret
          exact tellsQ_of (by rw [HP.out, HE.out, hen.out]) HR.out
end Go.Proofs.Ytipphdadibdifaa

/- Contract of the reference's Weigh. -/
import Derived.Test.YtipphdadibdifaaChecked
import Derived.Test.YtipphdadibdifaaTree
import Derived.WalkKit
import Derived.WalkSpells
import Derived.WalkLawsBesides
import Derived.Deep.LoopGhost
import Derived.Lib.Hide
import Derived.Outline
namespace Go.Proofs.Ytipphdadibdifaa
open Go.RowKit

mutual
/-- bytes and values, as far as 30000 goes. -/
def Tl.weigh : Tl → Nat → Nat → Nat
  | .mk _ _ _ b ks, m, d => if 60 < d then 30001 else Tl.weighs ks (m + 2 + min b.size 30001) d
def Tl.weighs : List Tl → Nat → Nat → Nat
  | [], m, _ => m
  | k :: ks, m, d => if m ≤ 30000 then Tl.weighs ks (Tl.weigh k m (d + 1)) d else m
end

mutual
theorem Tl.weigh_le : ∀ (t : Tl) (m d : Nat), m ≤ 30000 → t.weigh m d ≤ 60003
  | .mk c k g b ks, m, d, h => by
    unfold Tl.weigh
    split
    · omega
    · exact Tl.weighs_le ks _ d (by omega)
theorem Tl.weighs_le : ∀ (ks : List Tl) (m d : Nat), m ≤ 60003 → Tl.weighs ks m d ≤ 60003
  | [], m, d, h => by unfold Tl.weighs; exact h
  | k :: ks, m, d, h => by
    unfold Tl.weighs
    split
    · rename_i h1
      exact Tl.weighs_le ks _ d (Tl.weigh_le k m (d + 1) h1)
    · exact h
end

theorem Tl.weighs_drop (ks : List Tl) (i m d : Nat) (h : i < ks.length) (hm : m ≤ 30000) : Tl.weighs (ks.drop i) m d = Tl.weighs (ks.drop (i + 1)) (ks[i].weigh m (d + 1)) d := by
  rw [List.drop_eq_getElem_cons h]
  rw [Tl.weighs, if_pos hm]
theorem Tl.weighs_full (ks : List Tl) (i m d : Nat) (hm : 30000 < m) : Tl.weighs (ks.drop i) m d = m := by
  cases ks.drop i with
  | nil => rw [Tl.weighs]
  | cons k r => rw [Tl.weighs, if_neg (by omega)]
theorem Tl.weighs_end (ks : List Tl) (i m d : Nat) (h : ks.length ≤ i) : Tl.weighs (ks.drop i) m d = m := by
  rw [List.drop_eq_nil_of_le h, Tl.weighs]

/-- A call that tells an int and makes memory alone. -/
def TellsI (q : Int) (w : World) (e : Ending) (w' : World) : Prop := e = .returned (.int .i64 q) ∧ Below w.heap.size w w'

theorem tellsI_of {q q' : Int} {w w' : World} (h : q = q') (hb : Below w.heap.size w w') : TellsI q w (.returned (.int .i64 q')) w' := by
  subst h
  exact ⟨rfl, hb⟩

set_option maxRecDepth 100000 in
set_option maxHeartbeats 1000000 in
theorem weigh_any (n : Nat) : ∀ (S : Nat → Prop) (t : Tl) (cs : Array Value) (m d : Nat) (w : World), t.rank ≤ n → TlAt w S t cs → m ≤ 30000 → d ≤ 61 →
    Calls Try.prog 19 #[.agg cs, .int .i64 m, .int .i64 d] w (TellsI (t.weigh m d) w) := by
  induction n with
  | zero =>
    intro S t cs m d w hr
    obtain ⟨c, k, g, b, ks⟩ := t
    unfold Tl.rank at hr
    omega
  | succ n ih =>
    intro S t cs m d w hr ht hm hd
    obtain ⟨c, k, g, b, ks⟩ := t
    unfold TlAt at ht
    obtain ⟨A, cap, rfl, hks, hc, hg, hb, hk⟩ := ht
    unfold Tl.rank at hr
    unfold maxLen at hb hks
    have hpre := Tl.weigh.eq_1 m d c k g b ks
    have IH := Lib.hid ih
    have HK := Lib.hid hk
    clear ih hk hc hg
    by_cases h60 : 60 < d
    · rw [if_pos h60] at hpre
      have HP := Lib.hid hpre
      clear hpre
      go_enter Try.func19, Try.ntmps19
      go_wp2_with fail
      go_ret
      exact tellsI_of (by rw [HP.out]; rfl) ((Below.refl _ _).alloc (Nat.le_refl _) _)
    · rw [if_neg h60] at hpre
      have t60 : decide ((60 : Int) < d) = false := by simp; omega
      have hwk : Bk (w.alloc (.cells #[.int .i64 c, .bool k, .int .i64 g, .string b, .slice A ks.length cap] 44)) w.heap.size 44 #[.int .i64 c, .bool k, .int .i64 g, .string b, .slice A ks.length cap] := Bk.new _ _ _
      have hbw : Below w.heap.size w (w.alloc (.cells #[.int .i64 c, .bool k, .int .i64 g, .string b, .slice A ks.length cap] 44)) := (Below.refl _ _).alloc (Nat.le_refl _) _
      obtain ⟨w1, hw1⟩ : ∃ w1, w1 = w.alloc (.cells #[.int .i64 c, .bool k, .int .i64 g, .string b, .slice A ks.length cap] 44) := ⟨_, rfl⟩
      rw [← hw1] at hwk hbw
      have HW1 := Lib.hid hw1
      have HWK := Lib.hid hwk
      have HBW := Lib.hid hbw
      clear hw1 hwk hbw
      obtain ⟨x, hx, hsp⟩ : ∃ x : Nat, m + 2 + min b.size 30001 = x ∧ ((b.size ≤ 30001 ∧ x = m + 2 + b.size) ∨ (30001 < b.size ∧ x = m + 2 + 30001)) := ⟨_, rfl, by omega⟩
      rw [hx] at hpre
      have hx2 : x ≤ 60003 := by omega
      have HP := Lib.hid hpre
      have hd60 : d ≤ 60 := by omega
      clear hpre hx h60
      rcases hsp with ⟨hb1, hxe⟩ | ⟨hb1, hxe⟩
      all_goals
        have HX := Lib.hid hxe
        clear hxe
        go_enter Try.func19, Try.ntmps19
        go_wp2_with fail
        rw [← HW1.out]
        go_loopw [1, 7] (fun q i wr => ∃ (j y : Nat), i = .int .i64 j ∧ q = .int .i64 y ∧ j ≤ ks.length ∧ y ≤ 60003 ∧ Hid (Tl.weighs ks x d = Tl.weighs (ks.drop j) y d) ∧ Below w1.heap.size w1 wr) (fun _ i _ => ks.length - (intOf i).toNat)
        case atStart => exact ⟨0, x, rfl, by rw [HX.out]; go_num, Nat.zero_le _, hx2, rfl, Below.refl _ _⟩
        case round =>
          obtain ⟨j, y, rfl, rfl, hj, hy, HE, hbel⟩ := hrel
          have hbk : Bk wr w.heap.size 44 #[.int .i64 c, .bool k, .int .i64 g, .string b, .slice A ks.length cap] := (hbel.block _ HWK.out.lt).trans HWK.out
          have hcell := hbk.cell 4
          simp at hcell
          have hwr : Below w.heap.size w wr := HBW.out.trans (hbel.mono HBW.out.size)
          have HB := Lib.hid hbel
          have HR := Lib.hid hwr
          clear hbk hbel hwr
          by_cases hlt : j < ks.length
          · by_cases hy3 : y ≤ 30000
            · obtain ⟨b1, o1, c0, c1, c2, c3, c4, rfl, ⟨_, hb1⟩, q0, q1, q2, q3, q4, ht⟩ := (KsAt.below HR.out ks A 0 HK.out).get j hlt
              have hrk := Tl.rank_mem (List.getElem_mem hlt)
              have HC := Lib.hid (IH.out S ks[j] _ y (d + 1) wr (by omega) ht hy3 (by omega))
              have hnx := Tl.weighs_drop ks j y d hlt hy3
              have hyl := Tl.weigh_le ks[j] y (d + 1) hy3
              rw [Nat.zero_add] at q0 q1 q2 q3 q4
              generalize ks[j].weigh y (d + 1) = y2 at HC hnx hyl
              have HN := Lib.hid hnx
              rw [Int.natCast_add] at HC
              clear hnx ht
              go_wp2_with (go_at_call 19; refine HC.out.mono ?_; rintro e w3 ⟨rfl, hb3⟩)
              have hb4 : Below w1.heap.size w1 w3 := HB.out.trans (hb3.mono HB.out.size)
              go_roundw
              case rel => exact ⟨j + 1, y2, by go_num, rfl, by omega, hyl, HE.out.trans HN.out, hb4⟩
              case measure => simp [intOf]; omega
            · go_wp2_with fail
              go_ret
              exact tellsI_of (by rw [HP.out, HE.out, Tl.weighs_full ks j y d (by omega)]) HR.out
          · go_wp2_with fail
            go_ret
            exact tellsI_of (by rw [HP.out, HE.out, Tl.weighs_end ks j y d (by omega)]) HR.out
end Go.Proofs.Ytipphdadibdifaa

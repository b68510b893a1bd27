/- Walk of the law PageTells. -/
import Derived.Test.YtnlkhnmbfkpghaaDoorPlainTells2
import Derived.Test.YtnlkhnmbfkpghaaDoorPageMetas
namespace Go.Proofs.YtnlkhnmbfkpghaaDoor
open Go.RowKit
open Go.PlainAid
set_option maxRecDepth 100000
set_option linter.unusedVariables false
set_option linter.unusedSimpArgs false

set_option maxHeartbeats 4000000 in
theorem pageTells_long (k n t : Int) (b : ByteArray) (mt mr mf mp ml : Int) (x : Int) (y : Nat) (w : World) (hr : RowAt w) (hb : 2000 < b.size ∨ (b.size ≤ 2000 ∧ y = 0)) :
    Calls Tryd.prog 7 #[.agg #[.int .i64 k, .int .i64 n, .int .i64 t, .string b], .agg #[.int .i64 mt, .int .i64 mr, .int .i64 mf, .int .i64 mp, .int .i64 ml], .int .i64 x, .int .u32 (y : Int)] w (Holds w) := by
  have hb0 : Below w.heap.size w ((w.alloc (.cells #[.int .i64 k, .int .i64 n, .int .i64 t, .string b] 23)).alloc (.cells #[.int .i64 mt, .int .i64 mr, .int .i64 mf, .int .i64 mp, .int .i64 ml] 33)) := ((Below.refl _ _).alloc (Nat.le_refl _) _).alloc (by simp) _
  have hbk := (Bk.new w 23 #[.int .i64 k, .int .i64 n, .int .i64 t, .string b]).alloc (.cells #[.int .i64 mt, .int .i64 mr, .int .i64 mf, .int .i64 mp, .int .i64 ml] 33)
  have HA := Lib.hid (awake_any _ (hr.below hb0))
  have HBK := Lib.hid hbk
  have HB0 := Lib.hid hb0
  have hq : decide (2000 < (b.size : Int)) = true ∨ (decide (2000 < (b.size : Int)) = false ∧ y = 0) := by
    rcases hb with h | ⟨h, h2⟩
    · exact .inl (by simp; omega)
    · exact .inr ⟨by simp; omega, h2⟩
  clear hr hb0 hbk hb
  rcases hq with q1 | ⟨q1, rfl⟩
  all_goals
    go_enter Tryd.func7, Tryd.ntmps7
    go_wp2_with fail
    refine HA.out.mono ?_
    rintro e w1 ⟨rfl, hb1⟩
    obtain ⟨c0, c1, c2, c3⟩ := (bk_below HBK.out hb1).four
    go_wp2_with fail
    go_ret
    exact ⟨rfl, HB0.out.trans (hb1.mono HB0.out.size)⟩

/-- What the law finds of a page, of a meta. -/
def TellsP (ps : ByteArray) (x : Int) (y : Nat) (pe : Int) : Prop :=
  pe = 4 ∨ (pe = 0 ∧ ∃ (s1 : ByteArray) (u0 u1 u2 : Int) (ub : ByteArray), Hid (∀ W, Calls Tryd.prog 25 #[.string ps, .int .i64 x, .int .u32 (y : Int)] W (TellsS s1 W)) ∧
    Hid (∀ W, RowAt W → Calls Tryd.prog 15 #[.string s1] W (fun e w' => e = .returned (.tuple #[.agg #[.int .i64 u0, .int .i64 u1, .int .i64 u2, .string ub], .int .i64 4]) ∧ Below W.heap.size W w'))) ∨
  (pe = 0 ∧ ∃ (s1 : ByteArray) (u0 u1 u2 : Int) (ub : ByteArray), Hid (∀ W, Calls Tryd.prog 25 #[.string ps, .int .i64 x, .int .u32 (y : Int)] W (TellsS s1 W)) ∧
    Hid (∀ W, RowAt W → Calls Tryd.prog 15 #[.string s1] W (fun e w' => e = .returned (.tuple #[.agg #[.int .i64 u0, .int .i64 u1, .int .i64 u2, .string ub], .int .i64 0]) ∧ Below W.heap.size W w')) ∧
    Hid (∀ W, Calls Tryd.prog 26 #[.string ps, .int .i64 x, .int .u32 (y : Int), .int .i64 18] W (TellsB true W)))
def TellsM (ps : ByteArray) (x : Int) (y : Nat) (pe : Int) : Prop :=
  pe = 4 ∨ (pe = 0 ∧ ∃ (s1 : ByteArray) (v0 v1 v2 v3 v4 : Int), Hid (∀ W, Calls Tryd.prog 25 #[.string ps, .int .i64 x, .int .u32 (y : Int)] W (TellsS s1 W)) ∧
    Hid (∀ W, RowAt W → Calls Tryd.prog 17 #[.string s1] W (fun e w' => e = .returned (.tuple #[.agg #[.int .i64 v0, .int .i64 v1, .int .i64 v2, .int .i64 v3, .int .i64 v4], .int .i64 4]) ∧ Below W.heap.size W w'))) ∨
  (pe = 0 ∧ ∃ (s1 : ByteArray) (v0 v1 v2 v3 v4 : Int), Hid (∀ W, Calls Tryd.prog 25 #[.string ps, .int .i64 x, .int .u32 (y : Int)] W (TellsS s1 W)) ∧
    Hid (∀ W, RowAt W → Calls Tryd.prog 17 #[.string s1] W (fun e w' => e = .returned (.tuple #[.agg #[.int .i64 v0, .int .i64 v1, .int .i64 v2, .int .i64 v3, .int .i64 v4], .int .i64 0]) ∧ Below W.heap.size W w')) ∧
    Hid (∀ W, Calls Tryd.prog 26 #[.string ps, .int .i64 x, .int .u32 (y : Int), .int .i64 32] W (TellsB true W)))

theorem tellsP_of (k n t : Int) (b : ByteArray) (x : Int) (y : Nat) (h0 : y ≠ 0) (hy : y < 4294967296) : TellsP (packS k n t b) x y (packE k n t b) := by
  cases hq : rightB k n t b with
  | false => exact .inl (packE_wrong hq)
  | true =>
    have hp : IsPage (packS k n t b) k n t b := ⟨hq, rfl⟩
    have hz := hp.says.1
    have ht := fun W => turned_any (packS k n t b) x y W (by omega) (by omega) hy
    have hu := fun W hW => unpack_any ⟨(turnK (packS k n t b).data.toList (atOf x (packS k n t b).size) y 4).toArray⟩ W hW
    have hm := fun W => mixed_any (packS k n t b) x y 18 W (by omega) (by omega) hy (by omega)
    unfold UnpackPost at hu
    cases hun : unpB ⟨(turnK (packS k n t b).data.toList (atOf x (packS k n t b).size) y 4).toArray⟩ with
    | false =>
      obtain ⟨e1, e2, e3, e4, e5⟩ := unp_no hun
      rw [e5] at hu
      exact .inr (.inl ⟨packE_right hq, _, _, _, _, _, ht, hu⟩)
    | true =>
      have e5 : unpE ⟨(turnK (packS k n t b).data.toList (atOf x (packS k n t b).size) y 4).toArray⟩ = 0 := by unfold unpE; rw [hun]; rfl
      rw [e5] at hu
      have hmx : mixedB (atOf x (packS k n t b).size) y 18 = true := by
        cases hmm : mixedB (atOf x (packS k n t b).size) y 18 with
        | true => rfl
        | false =>
          have := page_tells hp (p := atOf x (packS k n t b).size) (by have := atOf_lt x (packS k n t b).size (by omega); omega) h0 hy hmm
          rw [this] at hun
          cases hun
      rw [hmx] at hm
      exact .inr (.inr ⟨packE_right hq, _, _, _, _, _, ht, hu, hm⟩)
theorem tellsM_of (t r f p l : Int) (x : Int) (y : Nat) (h0 : y ≠ 0) (hy : y < 4294967296) : TellsM (metaS t r f p l) x y (metaE t r f p l) := by
  cases hq : rightM t r f p l with
  | false => exact .inl (metaE_wrong hq)
  | true =>
    have hp : IsMeta (metaS t r f p l) t r f p l := ⟨hq, rfl⟩
    have hz := hp.says.1
    have ht := fun W => turned_any (metaS t r f p l) x y W (by omega) (by omega) hy
    have hu := fun W hW => unpackM_any ⟨(turnK (metaS t r f p l).data.toList (atOf x (metaS t r f p l).size) y 4).toArray⟩ W hW
    have hm := fun W => mixed_any (metaS t r f p l) x y 32 W (by omega) (by omega) hy (by omega)
    unfold UnpackMPost at hu
    cases hun : unmB ⟨(turnK (metaS t r f p l).data.toList (atOf x (metaS t r f p l).size) y 4).toArray⟩ with
    | false =>
      obtain ⟨e1, e2, e3, e4, e5, e6⟩ := unm_no hun
      rw [e6] at hu
      exact .inr (.inl ⟨metaE_right hq, _, _, _, _, _, _, ht, hu⟩)
    | true =>
      have e5 : unmE ⟨(turnK (metaS t r f p l).data.toList (atOf x (metaS t r f p l).size) y 4).toArray⟩ = 0 := by unfold unmE; rw [hun]; rfl
      rw [e5] at hu
      have hmx : mixedB (atOf x (metaS t r f p l).size) y 32 = true := by
        cases hmm : mixedB (atOf x (metaS t r f p l).size) y 32 with
        | true => rfl
        | false =>
          have := meta_tells hp (p := atOf x (metaS t r f p l).size) (by have := atOf_lt x (metaS t r f p l).size (by omega); omega) h0 hy hmm
          rw [this] at hun
          cases hun
      rw [hmx] at hm
      exact .inr (.inr ⟨metaE_right hq, _, _, _, _, _, _, ht, hu, hm⟩)

set_option maxHeartbeats 16000000 in
theorem pageTells_core (k n t : Int) (b : ByteArray) (mt mr mf mp ml : Int) (x : Int) (y : Nat) (w : World) (hr : RowAt w) (hb : b.size ≤ 2000) (h0 : y ≠ 0) (hy : y < 4294967296) (ps ms : ByteArray) (pe me : Int)
    (HP : Hid (∀ W, RowAt W → Calls Tryd.prog 11 #[.agg #[.int .i64 k, .int .i64 n, .int .i64 t, .string b]] W fun e w' => e = .returned (.tuple #[.string ps, .int .i64 pe]) ∧ Below W.heap.size W w'))
    (HM : Hid (∀ W, RowAt W → Calls Tryd.prog 19 #[.agg #[.int .i64 mt, .int .i64 mr, .int .i64 mf, .int .i64 mp, .int .i64 ml]] W fun e w' => e = .returned (.tuple #[.string ms, .int .i64 me]) ∧ Below W.heap.size W w'))
    (hp : TellsP ps x y pe) (hm : TellsM ms x y me) :
    Calls Tryd.prog 7 #[.agg #[.int .i64 k, .int .i64 n, .int .i64 t, .string b], .agg #[.int .i64 mt, .int .i64 mr, .int .i64 mf, .int .i64 mp, .int .i64 ml], .int .i64 x, .int .u32 (y : Int)] w (Holds w) := by
  have hb0 : Below w.heap.size w ((w.alloc (.cells #[.int .i64 k, .int .i64 n, .int .i64 t, .string b] 23)).alloc (.cells #[.int .i64 mt, .int .i64 mr, .int .i64 mf, .int .i64 mp, .int .i64 ml] 33)) := ((Below.refl _ _).alloc (Nat.le_refl _) _).alloc (by simp) _
  have hbk := (Bk.new w 23 #[.int .i64 k, .int .i64 n, .int .i64 t, .string b]).alloc (.cells #[.int .i64 mt, .int .i64 mr, .int .i64 mf, .int .i64 mp, .int .i64 ml] 33)
  have hbm := Bk.new (w.alloc (.cells #[.int .i64 k, .int .i64 n, .int .i64 t, .string b] 23)) 33 #[.int .i64 mt, .int .i64 mr, .int .i64 mf, .int .i64 mp, .int .i64 ml]
  rw [show (w.alloc (.cells #[.int .i64 k, .int .i64 n, .int .i64 t, .string b] 23)).heap.size = w.heap.size + 1 by simp] at hbm
  have HA := Lib.hid (awake_any _ (hr.below hb0))
  have HRW := Lib.hid (hr.below hb0)
  have HBK := Lib.hid hbk
  have HBM := Lib.hid hbm
  have HB0 := Lib.hid hb0
  have q1 : decide (2000 < (b.size : Int)) = false := by simp; omega
  have q2 : ((y : Int) == 0) = false := by simp; omega
  clear hr hb0 hbk hbm h0
  unfold TellsP at hp
  unfold TellsM at hm
  rcases hp with rfl | ⟨rfl, s1, u0, u1, u2, ub, HT1, HU1⟩ | ⟨rfl, s1, u0, u1, u2, ub, HT1, HU1, HX1⟩
  all_goals rcases hm with rfl | ⟨rfl, m1, v0, v1, v2, v3, v4, HT2, HU2⟩ | ⟨rfl, m1, v0, v1, v2, v3, v4, HT2, HU2, HX2⟩
  all_goals
    go_enter Tryd.func7, Tryd.ntmps7
    go_wp2_with fail
    refine HA.out.mono ?_
    rintro e w1 ⟨rfl, hb1⟩
    have X1 := Lib.hid (HB0.out.trans (hb1.mono HB0.out.size))
    have K1 := Lib.hid (bk_below HBK.out hb1)
    have M1 := Lib.hid (bk_below HBM.out hb1)
    have R1 := Lib.hid (HRW.out.below hb1)
    clear hb1
    obtain ⟨c0, c1, c2, c3⟩ := K1.out.four
    go_wp2_with fail
    refine (HP.out _ R1.out).mono ?_
    rintro e w2 ⟨rfl, hb2⟩
    have X2 := Lib.hid (X1.out.trans (hb2.mono X1.out.size))
    have M2 := Lib.hid (bk_below M1.out hb2)
    have R2 := Lib.hid (R1.out.below hb2)
    clear hb2 c0 c1 c2 c3
    obtain ⟨d0, d1, d2, d3, d4⟩ := M2.out.five
    go_wp2_with fail
    first
      | (refine (HT1.out _).mono ?_
         rintro e w3 ⟨rfl, hb3⟩
         have X3 := Lib.hid (X2.out.trans (hb3.mono X2.out.size))
         have M3 := Lib.hid (bk_below M2.out hb3)
         have R3 := Lib.hid (R2.out.below hb3)
         clear hb3 d0 d1 d2 d3 d4
         go_wp2_with fail
         refine (HU1.out _ R3.out).mono ?_
         rintro e w4 ⟨rfl, hb4⟩
         have X4 := Lib.hid (X3.out.trans (hb4.mono X3.out.size))
         have M4 := Lib.hid (bk_below M3.out hb4)
         have R4 := Lib.hid (R3.out.below hb4)
         clear hb4
         have hal : Below w4.heap.size w4 (w4.alloc (.cells #[.int .i64 u0, .int .i64 u1, .int .i64 u2, .string ub] 23)) := (Below.refl _ _).alloc (Nat.le_refl _) _
         have X5 := Lib.hid (X4.out.trans (hal.mono X4.out.size))
         have R5 := Lib.hid (R4.out.below hal)
         have M5 := Lib.hid (bk_below M4.out hal)
         clear hal
         obtain ⟨d0, d1, d2, d3, d4⟩ := M4.out.five
         have hlt := M4.out.lt
         go_wp2_with (first | (go_at_call 26; refine (HX1.out _).mono ?_; rintro e w' ⟨rfl, rfl⟩) | fail))
      | (have X5 := X2; have R5 := R2; have M5 := M2)
      | fail
    clear d0 d1 d2 d3 d4
    refine (HM.out _ R5.out).mono ?_
    rintro e w6 ⟨rfl, hb6⟩
    have X6 := Lib.hid (X5.out.trans (hb6.mono X5.out.size))
    have R6 := Lib.hid (R5.out.below hb6)
    clear hb6
    go_wp2_with fail
    first
      | (refine (HT2.out _).mono ?_
         rintro e w7 ⟨rfl, hb7⟩
         have X7 := Lib.hid (X6.out.trans (hb7.mono X6.out.size))
         have R7 := Lib.hid (R6.out.below hb7)
         clear hb7
         go_wp2_with fail
         refine (HU2.out _ R7.out).mono ?_
         rintro e w8 ⟨rfl, hb8⟩
         have X8 := Lib.hid (X7.out.trans (hb8.mono X7.out.size))
         clear hb8
         go_wp2_with (first | (go_at_call 26; refine (HX2.out _).mono ?_; rintro e w' ⟨rfl, rfl⟩) | fail)
         go_ret
         exact ⟨rfl, X8.out.alloc X8.out.size _⟩)
      | (go_ret; exact ⟨rfl, X6.out⟩)
      | fail

theorem pageTells_any (k n t : Int) (b : ByteArray) (mt mr mf mp ml : Int) (x z : Int) (w : World) (_ : b.size ≤ maxLen) (_ : (Lit.int .i64 x).wf = true) (hz : (Lit.int .u32 z).wf = true) (hr : RowAt w) :
    Calls Tryd.prog 7 #[.agg #[.int .i64 k, .int .i64 n, .int .i64 t, .string b], .agg #[.int .i64 mt, .int .i64 mr, .int .i64 mf, .int .i64 mp, .int .i64 ml], .int .i64 x, .int .u32 z] w (Holds w) := by
  have hz2 : 0 ≤ z ∧ z < 4294967296 := by
    simp [Lit.wf, IntKind.min, IntKind.max, IntKind.bits, IntKind.signed] at hz
    omega
  obtain ⟨y, rfl⟩ := Int.eq_ofNat_of_zero_le hz2.1
  by_cases h : 2000 < b.size ∨ (b.size ≤ 2000 ∧ y = 0)
  · exact pageTells_long k n t b mt mr mf mp ml x y w hr h
  · exact pageTells_core k n t b mt mr mf mp ml x y w hr (by omega) (by omega) (by omega) _ _ _ _ (Lib.hid fun W hW => pack_any k n t b W hW) (Lib.hid fun W hW => packM_any mt mr mf mp ml W hW) (tellsP_of k n t b x y (by omega) (by omega)) (tellsM_of mt mr mf mp ml x y (by omega) (by omega))
end Go.Proofs.YtnlkhnmbfkpghaaDoor

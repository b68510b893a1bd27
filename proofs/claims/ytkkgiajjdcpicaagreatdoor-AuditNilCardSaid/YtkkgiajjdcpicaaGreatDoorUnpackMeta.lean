/- Contracts of page.UnpackMeta and of the reference's. -/
import Derived.Test.YtkkgiajjdcpicaaGreatDoorPackMeta
namespace Go.Proofs.YtkkgiajjdcpicaaGreatDoor
open Go.RowKit
open Go.PlainAid
set_option maxRecDepth 100000
set_option linter.unusedVariables false

def UnpackMPost (s : ByteArray) (w : World) (e : Ending) (w' : World) : Prop :=
  e = .returned (.tuple #[metaV (unmT s) (unmR s) (unmF s) (unmP s) (unmL s), .int .i64 (unmE s)]) ∧ Below w.heap.size w w'
theorem unpackMPost_no {s : ByteArray} {w w' : World} (h : unmB s = false) (hb : Below w.heap.size w w') : UnpackMPost s w (.returned (.tuple #[.agg #[.int .i64 0, .int .i64 0, .int .i64 0, .int .i64 0, .int .i64 0], .int .i64 4])) w' := by
  obtain ⟨h1, h2, h3, h4, h5, h6⟩ := unm_no h
  unfold UnpackMPost
  rw [h1, h2, h3, h4, h5, h6]
  exact ⟨rfl, hb⟩
theorem unpackMPost_of {s : ByteArray} {t r f p l : Int} {w w' : World} (h : IsMeta s t r f p l) (hb : Below w.heap.size w w') : UnpackMPost s w (.returned (.tuple #[.agg #[.int .i64 t, .int .i64 r, .int .i64 f, .int .i64 p, .int .i64 l], .int .i64 0])) w' := by
  obtain ⟨h1, h2, h3, h4, h5, h6⟩ := unm_of h
  unfold UnpackMPost
  rw [h1, h2, h3, h4, h5, h6]
  exact ⟨rfl, hb⟩
theorem unmB_size {s : ByteArray} (h : s.size ≠ 128) : unmB s = false := by
  cases hu : unmB s with
  | false => rfl
  | true => exact absurd (unmB_yes hu).says.1 h
theorem unmB_pre {s : ByteArray} (h : hasPre s ⟨#[82, 79, 76, 76, 66, 79, 79, 75]⟩ = false) : unmB s = false := by
  cases hu : unmB s with
  | false => rfl
  | true =>
    obtain ⟨_, ⟨r, hr⟩, _⟩ := (unmB_yes hu).says
    have : hasPre s ⟨#[82, 79, 76, 76, 66, 79, 79, 75]⟩ = true := by
      unfold hasPre
      rw [ByteArray.toList_eq, ByteArray.toList_eq, extract_list, hr]
      rfl
    rw [this] at h
    cases h
theorem unmB_long {s : ByteArray} (h : 1099511627776 < numAt s 8 8) : unmB s = false := by
  cases hu : unmB s with
  | false => rfl
  | true =>
    have h1 := rightM_yes (unmB_yes hu).1
    omega
theorem unmB_again {s : ByteArray} {tz : Int} (ht : tz = wrap64 (numAt s 8 8)) :
    (metaE tz (numAt s 16 4) (numAt s 20 4) (numAt s 24 4) (numAt s 28 4) = 4 ∧ Hid (unmB s = false)) ∨
    (metaE tz (numAt s 16 4) (numAt s 20 4) (numAt s 24 4) (numAt s 28 4) = 0 ∧ ((metaS tz (numAt s 16 4) (numAt s 20 4) (numAt s 24 4) (numAt s 28 4)).toList == s.toList) = false ∧ Hid (unmB s = false)) ∨
    (metaE tz (numAt s 16 4) (numAt s 20 4) (numAt s 24 4) (numAt s 28 4) = 0 ∧ s = metaS tz (numAt s 16 4) (numAt s 20 4) (numAt s 24 4) (numAt s 28 4) ∧ Hid (IsMeta s tz (numAt s 16 4) (numAt s 20 4) (numAt s 24 4) (numAt s 28 4))) := by
  have key : unmB s = true → IsMeta s tz (numAt s 16 4) (numAt s 20 4) (numAt s 24 4) (numAt s 28 4) := by
    intro hu
    have hp := unmB_yes hu
    have h1 := (rightM_yes hp.1)
    have e1 : tz = numAt s 8 8 := by rw [ht]; exact IntWalk.wrap64_in _ ⟨by omega, by omega⟩
    rw [e1]
    exact hp
  cases hr : rightM tz (numAt s 16 4) (numAt s 20 4) (numAt s 24 4) (numAt s 28 4) with
  | false =>
    refine .inl ⟨metaE_wrong hr, ?_⟩
    show unmB s = false
    cases hu : unmB s with
    | false => rfl
    | true => have := (key hu).1; rw [this] at hr; cases hr
  | true =>
    by_cases he : metaS tz (numAt s 16 4) (numAt s 20 4) (numAt s 24 4) (numAt s 28 4) = s
    · exact .inr (.inr ⟨metaE_right hr, he.symm, hr, he⟩)
    · refine .inr (.inl ⟨metaE_right hr, toList_ne he, ?_⟩)
      show unmB s = false
      cases hu : unmB s with
      | false => rfl
      | true => exact absurd (key hu).2 he


set_option maxHeartbeats 4000000 in
theorem unpackM_a (s : ByteArray) (w : World) (h : s.size ≠ 128) : Calls Tryz.prog 127 #[.string s] w (UnpackMPost s w) := by
  have q : ((s.size : Int) != 128) = true := by simp; omega
  have HU := Lib.hid (unmB_size h)
  clear h
  go_enter Tryz.func127, Tryz.ntmps127
  go_wp2_with fail
  exact bodyPost_ret (v := .tuple #[.agg #[.int .i64 0, .int .i64 0, .int .i64 0, .int .i64 0, .int .i64 0], .int .i64 4]) (by simp [results, Tryz.results127, go_sem]) rfl (unpackMPost_no HU.out (by first | exact (Below.refl _ _).alloc (Nat.le_refl _) _ | exact ((Below.refl _ _).alloc (Nat.le_refl _) _).drew))


set_option maxHeartbeats 4000000 in
theorem unpackM_b (s : ByteArray) (w : World) (h : s.size = 128) (hp : hasPre s ⟨#[82, 79, 76, 76, 66, 79, 79, 75]⟩ = false) : Calls Tryz.prog 127 #[.string s] w (UnpackMPost s w) := by
  have q : ((s.size : Int) != 128) = false := by simp; omega
  have HU := Lib.hid (unmB_pre hp)
  have HP := Lib.hid fun W => hasPrefix_any s ⟨#[82, 79, 76, 76, 66, 79, 79, 75]⟩ W (by omega) (by rw [h]; decide)
  rw [hp] at HP
  clear h hp
  go_enter Tryz.func127, Tryz.ntmps127
  go_wp2_with (first | (go_at_call 185; refine (HP.out _).mono ?_; rintro e w' ⟨rfl, rfl⟩) | fail)
  exact bodyPost_ret (v := .tuple #[.agg #[.int .i64 0, .int .i64 0, .int .i64 0, .int .i64 0, .int .i64 0], .int .i64 4]) (by simp [results, Tryz.results127, go_sem]) rfl (unpackMPost_no HU.out (by first | exact (Below.refl _ _).alloc (Nat.le_refl _) _ | exact ((Below.refl _ _).alloc (Nat.le_refl _) _).drew))


set_option maxHeartbeats 4000000 in
theorem unpackM_c (s : ByteArray) (w : World) (hr : RowAt w) (h : s.size = 128) (hp : hasPre s ⟨#[82, 79, 76, 76, 66, 79, 79, 75]⟩ = true) : Calls Tryz.prog 127 #[.string s] w (UnpackMPost s w) := by
  have q : ((s.size : Int) != 128) = false := by simp; omega
  have HP := Lib.hid fun W => hasPrefix_any s ⟨#[82, 79, 76, 76, 66, 79, 79, 75]⟩ W (by omega) (by rw [h]; decide)
  rw [hp] at HP
  have HA1 := fun W => at_any s 8 8 W (by omega) (by decide) (by decide) (by omega)
  have HA2 := fun W => at_any s 16 4 W (by omega) (by decide) (by decide) (by omega)
  have HA3 := fun W => at_any s 20 4 W (by omega) (by decide) (by decide) (by omega)
  have HA4 := fun W => at_any s 24 4 W (by omega) (by decide) (by decide) (by omega)
  have HA5 := fun W => at_any s 28 4 W (by omega) (by decide) (by decide) (by omega)
  have l2 := numAt_lt s 16 4
  have l3 := numAt_lt s 20 4
  have l4 := numAt_lt s 24 4
  have l5 := numAt_lt s 28 4
  rw [IntWalk.wrap64_in _ ⟨by omega, by omega⟩] at HA2 HA3 HA4 HA5
  have hbk := Bk.new w 56 #[.int .i64 0, .int .i64 0, .int .i64 0, .int .i64 0, .int .i64 0]
  have hb0 : Below w.heap.size w (w.alloc (.cells #[.int .i64 0, .int .i64 0, .int .i64 0, .int .i64 0, .int .i64 0] 56)) := (Below.refl _ _).alloc (Nat.le_refl _) _
  have hrow0 := hr.below hb0
  obtain ⟨tz, htz⟩ : ∃ tz : Int, tz = wrap64 (numAt s 8 8) := ⟨_, rfl⟩
  rw [← htz] at HA1
  have HU := unmB_again htz
  have HPK := fun (W : World) (hW : RowAt W) => packM_any tz (numAt s 16 4) (numAt s 20 4) (numAt s 24 4) (numAt s 28 4) W hW
  have hpk : ∃ (ps : ByteArray) (pe : Int), metaS tz (numAt s 16 4) (numAt s 20 4) (numAt s 24 4) (numAt s 28 4) = ps ∧ metaE tz (numAt s 16 4) (numAt s 20 4) (numAt s 24 4) (numAt s 28 4) = pe := ⟨_, _, rfl, rfl⟩
  obtain ⟨ps, pe, hps, hpe⟩ := hpk
  unfold PackMPost at HPK
  rw [hps, hpe] at HPK HU
  clear hps hpe htz
  generalize numAt s 16 4 = r at *
  generalize numAt s 20 4 = f at *
  generalize numAt s 24 4 = p at *
  generalize numAt s 28 4 = l at *
  have HB1 := Lib.hid (show ∀ W, Calls Tryz.prog 186 #[.string s, .int .i64 8, .int .i64 8] W (TellsI tz W) from HA1)
  have HB2 := Lib.hid (show ∀ W, Calls Tryz.prog 186 #[.string s, .int .i64 16, .int .i64 4] W (TellsI (r : Int) W) from HA2)
  have HB3 := Lib.hid (show ∀ W, Calls Tryz.prog 186 #[.string s, .int .i64 20, .int .i64 4] W (TellsI (f : Int) W) from HA3)
  have HB4 := Lib.hid (show ∀ W, Calls Tryz.prog 186 #[.string s, .int .i64 24, .int .i64 4] W (TellsI (p : Int) W) from HA4)
  have HB5 := Lib.hid (show ∀ W, Calls Tryz.prog 186 #[.string s, .int .i64 28, .int .i64 4] W (TellsI (l : Int) W) from HA5)
  have HK := Lib.hid HPK
  have HBK := Lib.hid hbk
  have HB0 := Lib.hid hb0
  have HRW := Lib.hid hrow0
  have qz : decide (s.size < 32) = false := by simp; omega
  have qz2 : decide ((s.size : Int) < 32) = false := by simp; omega
  clear HA1 HA2 HA3 HA4 HA5 HPK hbk hb0 hrow0 hp hr l2 l3 l4 l5
  rcases HU with ⟨rfl, HUN⟩ | ⟨rfl, qps, HUN⟩ | ⟨rfl, rfl, HPG⟩
  all_goals
    go_enter Tryz.func127, Tryz.ntmps127
    go_wp2_with (first | (go_at_call 185; refine (HP.out _).mono ?_; rintro e w' ⟨rfl, rfl⟩) | fail)
    refine (HB1.out _).mono ?_
    rintro e w1 ⟨rfl, hb1⟩
    have X1 := Lib.hid (HB0.out.trans (hb1.mono HB0.out.size))
    have K1 := Lib.hid (bk_below HBK.out hb1)
    have R1 := Lib.hid (HRW.out.below hb1)
    clear hb1
    go_wp2_with fail
    refine (HB2.out _).mono ?_
    rintro e w2 ⟨rfl, hb2⟩
    have X2 := Lib.hid (X1.out.trans (hb2.mono X1.out.size))
    have K2 := Lib.hid (bk_below K1.out hb2)
    have R2 := Lib.hid (R1.out.below hb2)
    clear hb2
    go_wp2_with fail
    refine (HB3.out _).mono ?_
    rintro e w3 ⟨rfl, hb3⟩
    have X3 := Lib.hid (X2.out.trans (hb3.mono X2.out.size))
    have K3 := Lib.hid (bk_below K2.out hb3)
    have R3 := Lib.hid (R2.out.below hb3)
    clear hb3
    go_wp2_with fail
    refine (HB4.out _).mono ?_
    rintro e w4 ⟨rfl, hb4⟩
    have X4 := Lib.hid (X3.out.trans (hb4.mono X3.out.size))
    have K4 := Lib.hid (bk_below K3.out hb4)
    have R4 := Lib.hid (R3.out.below hb4)
    clear hb4
    go_wp2_with fail
    refine (HB5.out _).mono ?_
    rintro e w5 ⟨rfl, hb5⟩
    have X5 := Lib.hid (X4.out.trans (hb5.mono X4.out.size))
    have K5 := Lib.hid (bk_below K4.out hb5)
    have R5 := Lib.hid (R4.out.below hb5)
    clear hb5
    go_wp2_with fail
    refine (HK.out _ (R5.out.below ((Below.refl _ _).alloc (Nat.le_refl _) _))).mono ?_
    rintro e w6 ⟨rfl, hb6⟩
    have hn5 := Bk.new w5 56 #[.int .i64 tz, .int .i64 (r : Int), .int .i64 (f : Int), .int .i64 (p : Int), .int .i64 (l : Int)]
    have X6 := Lib.hid ((X5.out.alloc X5.out.size (.cells #[.int .i64 tz, .int .i64 (r : Int), .int .i64 (f : Int), .int .i64 (p : Int), .int .i64 (l : Int)] 56)).trans (hb6.mono (by have := X5.out.size; simp; omega)))
    have K6 := Lib.hid (bk_below (K5.out.alloc _) hb6)
    have N6 := Lib.hid (bk_below hn5 hb6)
    clear hb6 hn5
    obtain ⟨c0, c1, c2, c3, c4⟩ := K6.out.five
    have g0 := K6.out.frozen 0
    have g1 := K6.out.frozen 1
    have g2 := K6.out.frozen 2
    have g3 := K6.out.frozen 3
    have g4 := K6.out.frozen 4
    obtain ⟨d0, d1, d2, d3, d4⟩ := N6.out.five
    go_wp2_with fail
    first
      | exact bodyPost_ret (v := .tuple #[.agg #[.int .i64 0, .int .i64 0, .int .i64 0, .int .i64 0, .int .i64 0], .int .i64 4]) (by simp [results, Tryz.results127, go_sem, *]) rfl (unpackMPost_no HUN.out (by repeat (first | exact X6.out | refine Below.setCell ?_ (by simp) _)))
      | exact bodyPost_ret (v := .tuple #[.agg #[.int .i64 tz, .int .i64 (r : Int), .int .i64 (f : Int), .int .i64 (p : Int), .int .i64 (l : Int)], .int .i64 0]) (by simp [results, Tryz.results127, go_sem, *]) rfl (unpackMPost_of HPG.out (by repeat (first | exact X6.out | refine Below.setCell ?_ (by simp) _)))
      | (trace_state; fail)


theorem unpackM_any (s : ByteArray) (w : World) (hr : RowAt w) : Calls Tryz.prog 127 #[.string s] w (UnpackMPost s w) := by
  by_cases h : s.size = 128
  · cases hp : hasPre s ⟨#[82, 79, 76, 76, 66, 79, 79, 75]⟩ with
    | false => exact unpackM_b s w h hp
    | true => exact unpackM_c s w hr h hp
  · exact unpackM_a s w h
end Go.Proofs.YtkkgiajjdcpicaaGreatDoor

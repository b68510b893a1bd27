/- PagerFormats: the walk. -/
import Derived.Test.YtchldjjfaiikbaaDoorPagerAwake
namespace Go.Proofs.YtchldjjfaiikbaaDoor
open Go.RowKit
open Go.PlainAid
set_option maxRecDepth 100000
set_option linter.unusedVariables false
set_option linter.unusedSimpArgs false

theorem same_meta (t r f p l : Int) (w : World) : (binOp .eql 32 (.agg #[.int .i64 t, .int .i64 r, .int .i64 f, .int .i64 p, .int .i64 l]) (.agg #[.int .i64 t, .int .i64 r, .int .i64 f, .int .i64 p, .int .i64 l])).run Tryd.prog w = .ok (.bool true) w := by
  rw [run_eql_struct]
  simp [go_sem, Result.andThen]

theorem format_wrong {g : Nat} {S : List Nat} {D : DevS} {w : World} (hd : Dev w g S D) (limit : Int) (h : ¬ (4 ≤ limit ∧ limit ≤ 512 ∧ 4 * limit ≤ (D.sec.length : Int))) :
    Calls Tryd.prog 9 #[ptr g, .int .i64 limit] w (DevPost g S D (.int .i64 1) w) := by
  have h1 := format_bad hd limit h
  have e : formatD D limit = (D, 1) := by unfold formatD; rw [if_neg h]
  rw [e] at h1
  exact h1

set_option maxHeartbeats 4000000 in
theorem formats_none (n most : Int) (w : World) (hr : RowAt w) (h : n < 1 ∨ 2048 < n) : Calls Tryd.prog 3 #[.int .i64 n, .int .i64 most] w (Holds w) := by
  have HR := Lib.hid hr
  have HH := Lib.hid h
  clear hr h
  go_enter Tryd.func3, Tryd.ntmps3
  go_wp2_with fail
  (go_at_call 7)
  refine (pawake_any _ HR.out).mono ?_
  rintro e w1 ⟨rfl, hb1⟩
  have HB1 := Lib.hid hb1
  clear hb1
  go_wp2_with (first
    | (go_at_call 8; refine (dnew_bad n _ HH.out).mono ?_; rintro e w2 ⟨rfl, rfl⟩)
    | (go_at_call 9; refine (format_nil most _).mono ?_; rintro e w2 ⟨rfl, rfl⟩)
    | fail)
  go_ret
  exact ⟨rfl, HB1.out⟩

set_option maxHeartbeats 4000000 in
theorem formats_not (n : Nat) (most : Int) (w : World) (hr : RowAt w) (h0 : 0 < n) (h1 : n ≤ 2048) (hm : ¬ (4 ≤ most ∧ most ≤ 512 ∧ 4 * most ≤ (n : Int))) : Calls Tryd.prog 3 #[.int .i64 (n : Int), .int .i64 most] w (Holds w) := by
  have HR := Lib.hid hr
  have H0 := Lib.hid h0
  have H1 := Lib.hid h1
  have HM : Hid (¬ (4 ≤ most ∧ most ≤ 512 ∧ 4 * most ≤ ((DevS.new n).sec.length : Int))) := by rw [show (DevS.new n).sec.length = n from by simp [DevS.new]]; exact hm
  have HO := Lib.hid (new_open h0)
  have HD0 : Hid ((DevS.new n).steps ≤ 1000000000) := show (0 : Int) ≤ _ by decide
  obtain ⟨n4, hn4⟩ : ∃ n4, n4 = (n : Int) / 4 := ⟨_, rfl⟩
  have k0 : (0 : Int) ≤ (n : Int) := by omega
  have k1 : (n : Int) / 4 = n4 := hn4.symm
  have k2 : (n : Int).tdiv 4 = n4 := by rw [Int.tdiv_eq_ediv_of_nonneg (by omega)]; exact k1
  have k4 : IntKind.i64.wrap n4 = n4 := IntWalk.i64_in _ (by omega)
  have hc : (decide (4 ≤ most) = false) ∨ (decide (4 ≤ most) = true ∧ decide (most ≤ 512) = false) ∨ (decide (4 ≤ most) = true ∧ decide (most ≤ 512) = true ∧ decide (most ≤ n4) = false) := by
    simp
    omega
  obtain ⟨r, hr0, hrc⟩ : ∃ r : Int, openR (DevS.new n) = r ∧ ((r = 1 ∧ decide ((n : Int) < 2) = true) ∨ r = 4) := by
    refine ⟨_, rfl, ?_⟩
    rw [new_open h0]
    by_cases h2 : n < 2
    · rw [if_pos h2]; exact .inl ⟨rfl, by simp; omega⟩
    · rw [if_neg h2]; exact .inr rfl
  have HR0 := Lib.hid hr0
  clear hr h0 h1 hm hn4 hr0
  rcases hc with c1 | ⟨c1, c2⟩ | ⟨c1, c2, c3⟩ <;> rcases hrc with ⟨rfl, d1⟩ | rfl
  all_goals
    go_enter Tryd.func3, Tryd.ntmps3
    go_wp2_with fail
    (go_at_call 7)
    refine (pawake_any _ HR.out).mono ?_
    rintro e w1 ⟨rfl, hb1⟩
    have HB1 := Lib.hid hb1
    clear hb1
    go_wp2_with fail
    (go_at_call 8)
    refine (dnew_any n _ H0.out H1.out).mono ?_
    rintro e w2 ⟨g, S2, rfl, hd2, hbel2, hS2⟩
    have HD2 := Lib.hid hd2
    have HB2 : Hid (Below w.heap.size w w2 ∧ ∀ b ∈ S2, w.heap.size ≤ b) := ⟨HB1.out.trans (hbel2.mono HB1.out.size), fun b hb => Nat.le_trans HB1.out.size (hS2 b hb)⟩
    clear hd2 hbel2 hS2
    go_wp2_with fail
    (go_at_call 9)
    refine (format_wrong HD2.out most HM.out).mono ?_
    rintro e w3 ⟨rfl, hp3⟩
    obtain ⟨S3, hd3, hbel3, hS3⟩ := post_new HB2.out.1 HB2.out.2 hp3
    have HD3 := Lib.hid hd3
    have HB3 := Lib.hid hbel3
    clear hd3 hbel3 hS3 hp3
    go_wp2_with fail
    (go_at_call 10)
    refine (open_not HD3.out (HR.out.below HB3.out) HD0.out _ HR0.out (by decide)).mono ?_
    rintro e w4 ⟨rfl, hb4⟩
    have HB4 := Lib.hid (HB3.out.trans (hb4.mono HB3.out.size))
    clear hb4
    go_wp2_with fail
    go_ret
    exact ⟨rfl, HB4.out⟩

set_option maxHeartbeats 4000000 in
theorem formats_may (n : Nat) (most : Int) (w : World) (hr : RowAt w) (h0 : 0 < n) (h1 : n ≤ 2048) (hm : 4 ≤ most ∧ most ≤ 512 ∧ 4 * most ≤ (n : Int)) : Calls Tryd.prog 3 #[.int .i64 (n : Int), .int .i64 most] w (Holds w) := by
  have HR := Lib.hid hr
  have H0 := Lib.hid h0
  have H1 := Lib.hid h1
  have HM : Hid (4 ≤ most ∧ most ≤ 512 ∧ 4 * most ≤ ((DevS.new n).sec.length : Int)) := by rw [show (DevS.new n).sec.length = n from by simp [DevS.new]]; exact hm
  have HF := Lib.hid (format_new ⟨hm.1, hm.2.1⟩ hm.2.2)
  have HO := Lib.hid (fmt_open ⟨hm.1, hm.2.1⟩ hm.2.2)
  have HD0 : Hid ((DevS.new n).steps ≤ 999999990 ∧ (fmtDev n most).steps ≤ 1000000000) := ⟨show (0 : Int) ≤ _ by decide, show (3 : Int) ≤ _ by decide⟩
  obtain ⟨n4, hn4⟩ : ∃ n4, n4 = (n : Int) / 4 := ⟨_, rfl⟩
  have k0 : (0 : Int) ≤ (n : Int) := by omega
  have k1 : (n : Int) / 4 = n4 := hn4.symm
  have k2 : (n : Int).tdiv 4 = n4 := by rw [Int.tdiv_eq_ediv_of_nonneg (by omega)]; exact k1
  have k4 : IntKind.i64.wrap n4 = n4 := IntWalk.i64_in _ (by omega)
  have c1 : decide (4 ≤ most) = true := by simp; omega
  have c2 : decide (most ≤ 512) = true := by simp; omega
  have c3 : decide (most ≤ n4) = true := by simp; omega
  have em := fun W => same_meta 1 0 0 1 most W
  clear hr h0 h1 hm hn4
  go_enter Tryd.func3, Tryd.ntmps3
  go_wp2_with fail
  (go_at_call 7)
  refine (pawake_any _ HR.out).mono ?_
  rintro e w1 ⟨rfl, hb1⟩
  have HB1 := Lib.hid hb1
  clear hb1
  go_wp2_with fail
  (go_at_call 8)
  refine (dnew_any n _ H0.out H1.out).mono ?_
  rintro e w2 ⟨g, S2, rfl, hd2, hbel2, hS2⟩
  have HD2 := Lib.hid hd2
  have HB2 : Hid (Below w.heap.size w w2 ∧ ∀ b ∈ S2, w.heap.size ≤ b) := ⟨HB1.out.trans (hbel2.mono HB1.out.size), fun b hb => Nat.le_trans HB1.out.size (hS2 b hb)⟩
  clear hd2 hbel2 hS2
  go_wp2_with fail
  (go_at_call 9)
  refine (format_to HD2.out most (HR.out.below HB2.out.1) (row_not HR.out HB2.out.2) HD0.out.1 HM.out 0 HF.out).mono ?_
  rintro e w3 ⟨rfl, hp3⟩
  obtain ⟨S3, hd3, hbel3, hS3⟩ := post_new HB2.out.1 HB2.out.2 hp3
  have HD3 := Lib.hid hd3
  have HB3 := Lib.hid hbel3
  clear hd3 hbel3 hS3 hp3
  go_wp2_with fail
  (go_at_call 10)
  refine (open_to HD3.out (HR.out.below HB3.out) HD0.out.2 HO.out.1 HO.out.2).mono ?_
  rintro e w4 ⟨q, hq, rfl, hpg, hb4⟩
  have HB4 := Lib.hid (HB3.out.trans (hb4.mono HB3.out.size))
  have HPG := Lib.hid hpg
  clear hb4 hpg
  go_wp2_with fail
  (go_at_call 11)
  refine (show Calls Tryd.prog 11 #[ptr q] w4 (SaysM ⟨1, 0, 0, 1, most⟩ w4) from pmeta_any HPG.out).mono ?_
  rintro e w5 ⟨rfl, hb5⟩
  have HB5 := Lib.hid (HB4.out.trans (hb5.mono HB4.out.size))
  clear hb5
  go_wp2_with fail
  go_ret
  exact ⟨rfl, HB5.out⟩

theorem pagerFormats_walk (n most : Int) (w : World) (_ : (Lit.int .i64 n).wf = true) (_ : (Lit.int .i64 most).wf = true) (hr : RowAt w) : Calls Tryd.prog 3 #[.int .i64 n, .int .i64 most] w (Holds w) := by
  by_cases h : n < 1 ∨ 2048 < n
  · exact formats_none n most w hr h
  · obtain ⟨k, rfl⟩ : ∃ k : Nat, n = (k : Int) := ⟨n.toNat, by omega⟩
    by_cases hm : 4 ≤ most ∧ most ≤ 512 ∧ 4 * most ≤ (k : Int)
    · exact formats_may k most w hr (by omega) (by omega) hm
    · exact formats_not k most w hr (by omega) (by omega) hm
end Go.Proofs.YtchldjjfaiikbaaDoor

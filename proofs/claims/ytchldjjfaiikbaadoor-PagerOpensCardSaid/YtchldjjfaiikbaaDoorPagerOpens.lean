/- PagerOpens: the walk. -/
import Derived.Test.YtchldjjfaiikbaaDoorPagerFormats
namespace Go.Proofs.YtchldjjfaiikbaaDoor
open Go.RowKit
open Go.PlainAid
set_option maxRecDepth 100000
set_option linter.unusedVariables false
set_option linter.unusedSimpArgs false

/-- A device that is on and has no fuse stays so. -/
theorem write_on {d : DevS} {i : Int} {s : ByteArray} (ho : d.off = false) (hf : d.fuse = 0) : (d.write i s).1.off = false ∧ (d.write i s).1.fuse = 0 ∧ (d.write i s).1.sec.length = d.sec.length := by
  by_cases h : d.isIn i = true ∧ s.size = 128
  · rw [write_fresh ho hf h.1 h.2]
    exact ⟨ho, hf, rfl⟩
  · have : (d.isIn i && s.size == 128) = false := by
      cases h1 : d.isIn i with
      | false => rfl
      | true =>
        have : s.size ≠ 128 := fun e => h ⟨h1, e⟩
        simp [this]
    unfold DevS.write
    rw [this]
    exact ⟨ho, hf, rfl⟩
theorem read_on {d : DevS} {i : Nat} (ho : d.off = false) (hi : i < d.sec.length) : d.read (i : Int) = (d.latest i, 0) := by
  unfold DevS.read
  rw [DevS.isIn_iff.2 ⟨by omega, by omega⟩, ho, if_pos rfl, if_neg (by simp), Int.toNat_natCast]
/-- The device with two writes. -/
theorem two_writes (a b : ByteArray) : ∃ D1 r1 D2 r2 s t, (DevS.new 24).write 0 a = (D1, r1) ∧ D1.write 1 b = (D2, r2) ∧ D2.read 0 = (s, 0) ∧ D2.read 1 = (t, 0) ∧ D2.sec.length = 24 ∧ D1.steps ≤ 1000000000 ∧ D2.steps ≤ 1000000000 := by
  obtain ⟨D1, r1, h1⟩ : ∃ D1 r1, (DevS.new 24).write 0 a = (D1, r1) := ⟨_, _, rfl⟩
  obtain ⟨D2, r2, h2⟩ : ∃ D2 r2, D1.write 1 b = (D2, r2) := ⟨_, _, rfl⟩
  have w1 := write_on (d := DevS.new 24) (i := 0) (s := a) rfl rfl
  have s1 := write_steps (DevS.new 24) 0 a
  rw [h1] at w1 s1
  have w2 := write_on (d := D1) (i := 1) (s := b) w1.1 w1.2.1
  have s2 := write_steps D1 1 b
  rw [h2] at w2 s2
  have l : D2.sec.length = 24 := by rw [w2.2.2, w1.2.2]; simp [DevS.new]
  have st : (DevS.new 24).steps = 0 := rfl
  rw [st] at s1
  simp only at s1 s2
  exact ⟨D1, r1, D2, r2, D2.latest 0, D2.latest 1, h1, h2, read_on (i := 0) w2.1 (by omega), read_on (i := 1) w2.1 (by omega), l, by omega, by omega⟩

/-- The kinds of two sectors. -/
theorem opens_cases {D : DevS} {s t : ByteArray} (hs : D.read 0 = (s, 0)) (ht : D.read 1 = (t, 0)) (hl : D.sec.length = 24) : ∃ mt mr mf mp ml q e : Int, unmT (nwS s t) = mt ∧ unmR (nwS s t) = mr ∧ unmF (nwS s t) = mf ∧ unmP (nwS s t) = mp ∧ unmL (nwS s t) = ml ∧ nwN s t = q ∧ unmE (nwS s t) = e ∧
    ((e = 4 ∧ Hid (openR D = 4)) ∨ (e = 0 ∧ decide (6 < ml) = true ∧ Hid (openR D = 4)) ∨ (e = 0 ∧ decide (6 < ml) = false ∧ Hid (openR D = 0 ∧ ∃ o b, openP D = ⟨⟨mt, mr, mf, mp, ml⟩, o, b, none, []⟩))) := by
  refine ⟨_, _, _, _, _, _, _, rfl, rfl, rfl, rfl, rfl, rfl, rfl, ?_⟩
  have hR : openR D = if unmB (nwS s t) = true ∧ unmL (nwS s t) ≤ (D.sec.length : Int) / 4 then 0 else 4 := by
    unfold openR
    rw [hs, ht, if_neg (by simp), if_neg (by simp)]
  have h24 : (D.sec.length : Int) / 4 = 6 := by rw [hl]; rfl
  rw [h24] at hR
  cases hu : unmB (nwS s t) with
  | false =>
    refine .inl ⟨by unfold unmE; rw [hu]; rfl, show _ = _ by rw [hR, hu, if_neg (by simp)]⟩
  | true =>
    have he : unmE (nwS s t) = 0 := by unfold unmE; rw [hu]; rfl
    by_cases h6 : unmL (nwS s t) ≤ 6
    · refine .inr (.inr ⟨he, by simp; omega, ⟨by rw [hR, if_pos ⟨hu, h6⟩], unmV (restS s t), unmB (restS s t), ?_⟩⟩)
      unfold openP
      rw [hs, ht]
      rfl
    · exact .inr (.inl ⟨he, by simp; omega, show _ = _ by rw [hR, if_neg (by intro h; exact h6 h.2)]⟩)

set_option maxHeartbeats 4000000 in
theorem pagerOpens_walk (a b : ByteArray) (w : World) (ha : a.size ≤ maxLen) (hb : b.size ≤ maxLen) (hr : RowAt w) : Calls Tryd.prog 4 #[.string a, .string b] w (Holds w) := by
  have HR := Lib.hid hr
  have HA := Lib.hid ha
  have HBB := Lib.hid hb
  have HN : Hid (∀ W, Calls Tryd.prog 8 #[.int .i64 24] W (NewPost 24 W)) := fun W => dnew_any 24 W (by decide) (by decide)
  obtain ⟨D1, r1, D2, r2, s, t, h1, h2, h3, h4, h5, b1, b2⟩ := two_writes a b
  obtain ⟨mt, mr, mf, mp, ml, q, er, e1, e2, e3, e4, e5, e6, e7, hc⟩ := opens_cases h3 h4 h5
  have HNW := Lib.hid (newest_to e1 e2 e3 e4 e5 e6 e7)
  have HW1 := Lib.hid h1
  have HW2 := Lib.hid h2
  have HR0 := Lib.hid h3
  have HR1 := Lib.hid h4
  have HST : Hid ((DevS.new 24).steps ≤ 1000000000 ∧ D1.steps ≤ 1000000000 ∧ D2.steps ≤ 1000000000) := ⟨by decide, b1, b2⟩
  have em := fun W => same_meta mt mr mf mp ml W
  clear hr ha hb h1 h2 h3 h4 h5 b1 b2 e1 e2 e3 e4 e5 e6 e7
  rcases hc with ⟨rfl, HO⟩ | ⟨rfl, c1, HO⟩ | ⟨rfl, c1, HO⟩
  all_goals
    go_enter Tryd.func4, Tryd.ntmps4
    go_wp2_with fail
    (go_at_call 7)
    refine (pawake_any _ HR.out).mono ?_
    rintro e w1 ⟨rfl, hb1⟩
    have HB1 := Lib.hid hb1
    clear hb1
    go_wp2_with fail
    (go_at_call 8)
    refine (HN.out _).mono ?_
    rintro e w2 ⟨g, S2, rfl, hd2, hbel2, hS2⟩
    have HD2 := Lib.hid hd2
    have HB2 : Hid (Below w.heap.size w w2 ∧ ∀ b ∈ S2, w.heap.size ≤ b) := ⟨HB1.out.trans (hbel2.mono HB1.out.size), fun b hb => Nat.le_trans HB1.out.size (hS2 b hb)⟩
    clear hd2 hbel2 hS2
    go_wp2_with fail
    (go_at_call 12)
    refine (dwrite_from HD2.out 0 a D1 r1 HST.out.1 HA.out HW1.out).mono ?_
    rintro e w3 ⟨rfl, hp3⟩
    obtain ⟨S3, hd3, hbel3, hS3⟩ := post_new HB2.out.1 HB2.out.2 hp3
    have HD3 := Lib.hid hd3
    have HB3 : Hid (Below w.heap.size w w3 ∧ ∀ b ∈ S3, w.heap.size ≤ b) := ⟨hbel3, hS3⟩
    clear hd3 hbel3 hS3 hp3
    go_wp2_with fail
    (go_at_call 12)
    refine (dwrite_from HD3.out 1 b D2 r2 HST.out.2.1 HBB.out HW2.out).mono ?_
    rintro e w4 ⟨rfl, hp4⟩
    obtain ⟨S4, hd4, hbel4, hS4⟩ := post_new HB3.out.1 HB3.out.2 hp4
    have HD4 := Lib.hid hd4
    have HB4 := Lib.hid hbel4
    clear hd4 hbel4 hS4 hp4
    go_wp2_with fail
    (go_at_call 13)
    refine (dread_from HD4.out 0 s 0 HST.out.2.2 HR0.out).mono ?_
    rintro e w5 ⟨rfl, rfl⟩
    go_wp2_with fail
    (go_at_call 13)
    refine (dread_from HD4.out 1 t 0 HST.out.2.2 HR1.out).mono ?_
    rintro e w5 ⟨rfl, rfl⟩
    go_wp2_with fail
    (go_at_call 14)
    refine (HNW.out _ (HR.out.below HB4.out)).mono ?_
    rintro e w5 ⟨rfl, hb5⟩
    have HB5 := Lib.hid (below_new (HB4.out.trans (hb5.mono HB4.out.size)) (.cells #[.int .i64 mt, .int .i64 mr, .int .i64 mf, .int .i64 mp, .int .i64 ml] 32))
    have HD5 := Lib.hid ((HD4.out.below hb5).off ((Off.refl [] w5).alloc (.cells #[.int .i64 mt, .int .i64 mr, .int .i64 mf, .int .i64 mp, .int .i64 ml] 32)) (by simp))
    have HM5 : Hid (Bk (w5.alloc (.cells #[.int .i64 mt, .int .i64 mr, .int .i64 mf, .int .i64 mp, .int .i64 ml] 32)) w5.heap.size 32 #[.int .i64 mt, .int .i64 mr, .int .i64 mf, .int .i64 mp, .int .i64 ml]) := Bk.new _ _ _
    clear hb5
    go_wp2_with fail
    (go_at_call 10)
  · refine (open_not HD5.out (HR.out.below HB5.out) HST.out.2.2 4 HO.out (by decide)).mono ?_
    rintro e w6 ⟨rfl, hb6⟩
    have HB6 := Lib.hid (HB5.out.trans (hb6.mono HB5.out.size))
    clear hb6
    go_wp2_with fail
    go_ret
    exact ⟨rfl, HB6.out⟩
  · refine (open_not HD5.out (HR.out.below HB5.out) HST.out.2.2 4 HO.out (by decide)).mono ?_
    rintro e w6 ⟨rfl, hb6⟩
    have HB6 := Lib.hid (HB5.out.trans (hb6.mono HB5.out.size))
    obtain ⟨d0, d1, d2, d3, d4⟩ := (bk_below HM5.out hb6).five
    clear hb6
    go_wp2_with fail
    go_ret
    exact ⟨rfl, HB6.out⟩
  · obtain ⟨o, bo, hop⟩ := HO.out.2
    have HOP := Lib.hid hop
    clear hop
    refine (open_to HD5.out (HR.out.below HB5.out) HST.out.2.2 HO.out.1 HOP.out).mono ?_
    rintro e w6 ⟨q, hq, rfl, hpg, hb6⟩
    have HB6 := Lib.hid (HB5.out.trans (hb6.mono HB5.out.size))
    have HPG := Lib.hid hpg
    have HM6 := Lib.hid (bk_below HM5.out hb6)
    obtain ⟨d0, d1, d2, d3, d4⟩ := HM6.out.five
    clear hb6 hpg
    have HKS : Hid (∀ W, Bk W w5.heap.size 32 #[.int .i64 mt, .int .i64 mr, .int .i64 mf, .int .i64 mp, .int .i64 ml] → W.cell? ⟨w5.heap.size, 0, none⟩ = some (.int .i64 mt) ∧ W.cell? ⟨w5.heap.size, 1, none⟩ = some (.int .i64 mr) ∧ W.cell? ⟨w5.heap.size, 2, none⟩ = some (.int .i64 mf) ∧ W.cell? ⟨w5.heap.size, 3, none⟩ = some (.int .i64 mp) ∧ W.cell? ⟨w5.heap.size, 4, none⟩ = some (.int .i64 ml)) := fun W h => h.five
    have HPQ : Hid (∀ W, Pg W q [q] g ⟨⟨mt, mr, mf, mp, ml⟩, o, bo, none, []⟩ → Calls Tryd.prog 11 #[ptr q] W (SaysM ⟨mt, mr, mf, mp, ml⟩ W)) := fun W h => pmeta_any h
    go_wp2_with fail
    go_region_held3 (fun W => W.cell? ⟨w5.heap.size, 0, none⟩ = some (.int .i64 mt) ∧ W.cell? ⟨w5.heap.size, 1, none⟩ = some (.int .i64 mr) ∧ W.cell? ⟨w5.heap.size, 2, none⟩ = some (.int .i64 mf) ∧ W.cell? ⟨w5.heap.size, 3, none⟩ = some (.int .i64 mp) ∧ W.cell? ⟨w5.heap.size, 4, none⟩ = some (.int .i64 ml))
      (first | exact HKS.out _ HM6.out.drew | exact HKS.out _ (by assumption))
      ((go_at_call 11; refine (HPQ.out _ (HPG.out.off (Off.refl [] w6).drew (by simp))).mono ?_; rintro e w7 ⟨rfl, hb7⟩; have hbk7 := bk_below HM6.out.drew hb7))
    all_goals
      go_wp2_with fail
      go_ret
      exact ⟨rfl, HB6.out.drew.trans (hb7.mono HB6.out.size)⟩
end Go.Proofs.YtchldjjfaiikbaaDoor

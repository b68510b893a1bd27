/- The walk of BerEncodes. -/
import Derived.Test.YtipphdadibdifaaRefEncode
import Derived.Test.YtipphdadibdifaaBerShort
namespace Go.Proofs.Ytipphdadibdifaa
open Go.RowKit
open Go.PlainAid

theorem ne_self (n : Int) : (n != n) = false := by simp
theorem encS_nil (t : Tl) (h : encE t ≠ 0) : encS t = ⟨#[]⟩ := by unfold encS; rw [if_neg h]
theorem encE_bool (t : Tl) : (encE t = 0 ∧ t.right 1 = true) ∨ encE t ≠ 0 := by
  by_cases h : encE t = 0
  · exact Or.inl ⟨h, (encS_list t h).2.2.1⟩
  · exact Or.inr h

set_option maxRecDepth 100000 in
set_option maxHeartbeats 2000000 in
theorem berEncodes_walk {S : Nat → Prop} (t : Tl) (cs : Array Value) (tail : ByteArray) (w : World) (ht : TlAt w S t cs) (htl : tail.size ≤ maxLen) :
    Calls Try.prog 7 #[.agg cs, .string tail] w (Holds w) := by
  unfold maxLen at htl
  obtain ⟨x0, x1, x2, x3, xA, xn, xc, rfl⟩ := tlAt_form ht
  have H1 := Lib.hid awake25
  have hb0 : Below w.heap.size w (w.alloc (.cells #[.int .i64 x0, .bool x1, .int .i64 x2, .string x3, .slice xA xn xc] 44)) := (Below.refl _ _).alloc (Nat.le_refl _) _
  have hbk := Bk.new w 44 #[.int .i64 x0, .bool x1, .int .i64 x2, .string x3, .slice xA xn xc]
  generalize hW0 : w.alloc (.cells #[.int .i64 x0, .bool x1, .int .i64 x2, .string x3, .slice xA xn xc] 44) = W0 at *
  have HW0 := Lib.hid hW0
  clear hW0
  have hw := Tl.weigh_le t 0 1 (by omega)
  have HW := Lib.hid fun (W : World) (hb : Below w.heap.size w W) => weigh_any _ _ t _ 0 1 W (Nat.le_refl _) (TlAt.below hb _ _ ht) (by omega) (by omega)
  by_cases hwl : 30000 < t.weigh 0 1
  · generalize t.weigh 0 1 = wg at *
    have q1 : decide ((30000 : Int) < wg) = true := by simp; omega
    clear ht
    go_enter Try.func7, Try.ntmps7
    go_wp2_with fail
    rw [HW0.out]
    go_wp2_with (first
      | (go_at_call 18; refine (H1.out _).mono ?_; rintro e w1 ⟨rfl, hb1⟩; have hbl1 := hb0.trans (hb1.mono hb0.size); have hbk1 := bk_below hbk hb1; obtain ⟨z0, z1, z2, z3, z4⟩ := hbk1.five; clear hb1)
      | (go_at_call 19; refine (HW.out _ hbl1).mono ?_; rintro e w2 ⟨rfl, hb2⟩)
      | fail)
    go_ret
    exact ⟨rfl, hbl1.trans (hb2.mono hbl1.size)⟩
  have hlg := (Tl.light_of t 0 1 (by omega)).1
  have HC := Lib.hid fun (W : World) (hb : Below w.heap.size w W) => encodeTop_any S t _ W (TlAt.below hb _ _ ht)
  have HC2 := Lib.hid fun (W : World) (hb : Below w.heap.size w W) => rencodeTop_any S t _ W (TlAt.below hb _ _ ht) hlg
  have HQ1 := Lib.hid fun (W : World) (hb : Below w.heap.size w W) => rightTop_any S t _ W (TlAt.below hb _ _ ht)
  have HQ2 := Lib.hid fun (W : World) (hb : Below w.heap.size w W) => rright_any _ S t _ 1 W (Nat.le_refl _) (TlAt.below hb _ _ ht) (by omega)
  have HT := Lib.hid ht
  clear ht hlg
  by_cases htl2 : 9000 < tail.size
  · have q2 : decide ((9000 : Int) < tail.size) = true := by simp; omega
    generalize t.weigh 0 1 = wg at *
    have q1 : decide ((30000 : Int) < wg) = false := by simp; omega
    go_enter Try.func7, Try.ntmps7
    go_wp2_with fail
    rw [HW0.out]
    go_wp2_with (first
      | (go_at_call 18; refine (H1.out _).mono ?_; rintro e w1 ⟨rfl, hb1⟩; have hbl1 := hb0.trans (hb1.mono hb0.size); have hbk1 := bk_below hbk hb1; obtain ⟨z0, z1, z2, z3, z4⟩ := hbk1.five; clear hb1)
      | (go_at_call 19; refine (HW.out _ hbl1).mono ?_; rintro e w2 ⟨rfl, hb2⟩)
      | fail)
    go_ret
    exact ⟨rfl, hbl1.trans (hb2.mono hbl1.size)⟩
  have q2 : decide ((9000 : Int) < tail.size) = false := by simp; omega
  generalize t.weigh 0 1 = wg at *
  have q1 : decide ((30000 : Int) < wg) = false := by simp; omega
  have HC3 := Lib.hid (show ∀ (W : World), Below w.heap.size w W → Calls Try.prog 25 #[.agg #[.int .i64 x0, .bool x1, .int .i64 x2, .string x3, .slice xA xn xc]] W (fun e w' => Below W.heap.size W w' ∧ e = .returned (.tuple #[.string (encS t), .int .i64 (encE t)])) from HC.out)
  have HC4 := Lib.hid (show ∀ (W : World), Below w.heap.size w W → Calls Try.prog 26 #[.agg #[.int .i64 x0, .bool x1, .int .i64 x2, .string x3, .slice xA xn xc]] W (fun e w' => Below W.heap.size W w' ∧ e = .returned (.tuple #[.string (encS t), .int .i64 (encE t)])) from HC2.out)
  clear HC HC2
  generalize hss : encS t = s at HC3 HC4
  generalize hkk : ((encE t : Nat) : Int) = k at HC3 HC4
  have HSS := Lib.hid hss
  have HKK := Lib.hid hkk
  clear hss hkk
  generalize hrr : t.right 1 = rt at HQ1 HQ2
  have HRR := Lib.hid hrr
  clear hrr
  go_enter Try.func7, Try.ntmps7
  go_wp2_with fail
  rw [HW0.out]
  go_upto_region 7 with (first
    | (go_at_call 18; refine (H1.out _).mono ?_; rintro e w1 ⟨rfl, hb1⟩; have hbl1 := hb0.trans (hb1.mono hb0.size); have hbk1 := bk_below hbk hb1; obtain ⟨z0, z1, z2, z3, z4⟩ := hbk1.five; clear hb1)
    | (go_at_call 19; refine (HW.out _ hbl1).mono ?_; rintro e w2 ⟨rfl, hb2⟩; have hbl2 := hbl1.trans (hb2.mono hbl1.size); have hbk2 := bk_below hbk1 hb2; obtain ⟨y0, y1, y2, y3, y4⟩ := hbk2.five; clear hb2)
    | (go_at_call 25; refine (HC3.out _ hbl2).mono ?_; rintro e w3 ⟨hb3, rfl⟩; have hbl3 := hbl2.trans (hb3.mono hbl2.size); have hbk3 := bk_below hbk2 hb3; obtain ⟨s0, s1, s2, s3, s4⟩ := hbk3.five; clear hb3)
    | (go_at_call 26; refine (HC4.out _ hbl3).mono ?_; rintro e w4 ⟨hb4, rfl⟩; have hbl4 := hbl3.trans (hb4.mono hbl3.size); have hbk4 := bk_below hbk3 hb4; obtain ⟨r0, r1, r2, r3, r4⟩ := hbk4.five; clear hb4)
    | fail)
  clear z0 z1 z2 z3 z4 y0 y1 y2 y3 y4 s0 s1 s2 s3 s4
  have HBL := Lib.hid hbl4
  have HBK := Lib.hid hbk4
  have hbr := Below.refl w4.heap.size w4
  have HP1 := Lib.hid fun (W : World) (hb : Below w4.heap.size w4 W) => (HQ1.out W (hbl4.trans (hb.mono hbl4.size))).mono fun e w' (h : TellsQ _ _ e w') => (show e = _ ∧ Below w4.heap.size w4 w' from ⟨h.1, hb.trans (h.2.mono hb.size)⟩)
  have HP2 := Lib.hid fun (W : World) (hb : Below w4.heap.size w4 W) => (HQ2.out W (hbl4.trans (hb.mono hbl4.size))).mono fun e w' (h : TellsQ _ _ e w') => (show e = _ ∧ Below w4.heap.size w4 w' from ⟨h.1, hb.trans (h.2.mono hb.size)⟩)
  have HKS := Lib.hid fun (W : World) (hb : Below w4.heap.size w4 W) => (show W.cell? ⟨w.heap.size, 0, none⟩ = some (.int .i64 x0) ∧ W.cell? ⟨w.heap.size, 1, none⟩ = some (.bool x1) ∧ W.cell? ⟨w.heap.size, 2, none⟩ = some (.int .i64 x2) ∧ W.cell? ⟨w.heap.size, 3, none⟩ = some (.string x3) ∧ W.cell? ⟨w.heap.size, 4, none⟩ = some (.slice xA xn xc) ∧ Below w4.heap.size w4 W from
    have h5 := (bk_below hbk4 hb).five
    ⟨h5.1, h5.2.1, h5.2.2.1, h5.2.2.2.1, h5.2.2.2.2, hb⟩)
  clear hbl1 hbl2 hbl3 hbl4 hbk hbk1 hbk2 hbk3 hbk4 hb0 HQ1 HQ2
  have HBR := Lib.hid hbr.drew
  clear hbr
  go_cut [46] (fun v wx => v = .bool false ∧ Below w4.heap.size w4 wx)
  case first =>
    go_region_held3 (fun W => W.cell? ⟨w.heap.size, 0, none⟩ = some (.int .i64 x0) ∧ W.cell? ⟨w.heap.size, 1, none⟩ = some (.bool x1) ∧ W.cell? ⟨w.heap.size, 2, none⟩ = some (.int .i64 x2) ∧ W.cell? ⟨w.heap.size, 3, none⟩ = some (.string x3) ∧ W.cell? ⟨w.heap.size, 4, none⟩ = some (.slice xA xn xc) ∧ Below w4.heap.size w4 W) (first | exact HKS.out _ HBR.out | exact HKS.out _ (by assumption))
      (first
        | (go_at_call 27; refine (HP1.out _ (by assumption)).mono ?_; rintro e w6 ⟨rfl, hb6⟩)
        | (go_at_call 28; refine (HP2.out _ (by assumption)).mono ?_; rintro e w7 ⟨rfl, hb7⟩))
    all_goals
      go_wp2_with fail
      go_meet
      exact ⟨by cases rt <;> rfl, by assumption⟩
  case rest =>
    obtain ⟨rfl, hbc⟩ := hcut
    rcases encE_bool t with ⟨he, hr⟩ | he
    · have hk : k = 0 := by rw [← HKK.out, he]; rfl
      subst hk
      obtain ⟨hl, hsz, hr1, h8⟩ := encS_list t he
      rw [HSS.out] at hl hsz
      have HD := fun W : World => decode_any (s ++ tail) W (by rw [ByteArray.size_append]; omega)
      rw [append_list, hl, PB.dec_enc t hr1 h8, ← hsz] at HD
      have HD2 := Lib.hid HD
      have hs8 : s.size ≤ 8192 := by omega
      have hbl5 := HBL.out.trans (hbc.mono HBL.out.size)
      have ht5 := TlAt.below hbl5 _ _ HT.out
      have hbk5 := bk_below HBK.out hbc
      have HT5 := Lib.hid ht5
      clear HD hl hsz hr1 h8 he hr ht5 r0 r1 r2 r3 r4
      go_wp2_with (first
        | (go_at_call 29; refine (HD2.out _).mono ?_; rintro e w6 ⟨hb6, ds, rfl, hu⟩; have hbl6 := hbl5.trans (hb6.mono hbl5.size); have hbk6 := (bk_below hbk5 hb6); obtain ⟨v0, v1, v2, v3, vA, vn, vc, rfl⟩ := tlAt_form hu; dsimp only at hu ⊢; obtain ⟨r0, r1, r2, r3, r4⟩ := (hbk6.alloc (.cells #[.int .i64 v0, .bool v1, .int .i64 v2, .string v3, .slice vA vn vc] 44)).five)
        | fail)
      have hba := (Below.refl w6.heap.size w6).alloc (Nat.le_refl _) (.cells #[.int .i64 v0, .bool v1, .int .i64 v2, .string v3, .slice vA vn vc] 44)
      have hbl7 := hbl6.trans (hba.mono hbl6.size)
      refine (sameT_any _ _ _ t _ _ _ (Nat.le_refl _) (TlAt.below hba _ _ hu) (TlAt.below (hb6.trans (hba.mono hb6.size)) _ _ HT5.out)).mono ?_
      rintro e w8 ⟨rfl, hb8⟩
      go_wp2_with fail
      go_ret
      exact ⟨rfl, hbl7.trans (hb8.mono hbl7.size)⟩
    · have hk : k ≠ 0 := by rw [← HKK.out]; omega
      have hk2 : (k != 0) = true := by simpa using hk
      have hs : s = ⟨#[]⟩ := by rw [← HSS.out]; exact encS_nil t he
      subst hs
      clear hk
      go_wp2_with fail
      go_ret
      exact ⟨rfl, HBL.out.trans (hbc.mono HBL.out.size)⟩
end Go.Proofs.Ytipphdadibdifaa

/- MsgWide: its walk. -/
import Derived.Test.YtbiglfpikfjbpaaDoorMsgEncP
import Derived.Test.YtbiglfpikfjbpaaDoorMsgWide1
namespace Go.Proofs.YtbiglfpikfjbpaaDoor
open Go.RowKit
set_option maxRecDepth 100000
set_option linter.unusedVariables false
set_option linter.unusedSimpArgs false
/-- The wide bytes of a message are the message's. -/
theorem wide_dec (q : Bool) (M : Ms) (hr : M.right = true) (h : encE M.tree = 0) (h2 : (encS M.tree).size ≤ 2000) (u : ByteArray) (hu : u.data.toList = PB.wenc q M.tree) : u.size ≤ 6000 ∧ decP u = some M := by
  obtain ⟨h1, hl, h3, h4⟩ := enc_ok h
  have hw := PB.wenc_len q M.tree
  have hus : u.size = (PB.wenc q M.tree).length := by rw [← hu]; rfl
  have hle : u.size ≤ 6000 := by omega
  refine ⟨hle, ?_⟩
  have hd := PB.wdec_enc q M.tree h1 (by omega) []
  rw [List.append_nil] at hd
  unfold decP
  rw [hu, hd, if_neg]
  · exact M.back hr
  · simp only [hus, ne_eq, not_true_eq_false, tree_list, or_self]
    simp
set_option maxHeartbeats 8000000 in
theorem msgWide_any (hsame : SameOk) (M : Ms) (m : MC) (S : Nat → Prop) (more : Bool) (w : World) (h : MsAt w S M m) (ha : AnsAt w) : Calls Tryd.prog 3 #[.agg m.cells, .bool more] w (Holds w) := by
  have HS := Lib.hid size_msg
  obtain ⟨cs, hcs⟩ : ∃ cs, cs = m.cells := ⟨_, rfl⟩
  have HSZ : Hid (cs.size = 31) := by rw [hcs]; rfl
  rw [← hcs]
  have hB := (Below.refl w.heap.size w).alloc (Nat.le_refl _) (.cells cs 30)
  have hk := Bk.new w 30 cs
  obtain ⟨wc, hwc⟩ : ∃ W, W = w.alloc (.cells cs 30) := ⟨_, rfl⟩
  rw [← hwc] at hB hk
  have HB := Lib.hid hB
  have HK := Lib.hid hk
  have HWC := Lib.hid hwc
  have H1 := Lib.hid (awake26 wc (ha.below hB))
  have HM := Lib.hid fun (W : World) (hb : Below w.heap.size w W) => (h.keep (T := S) hb.size (fun x _ hlt => hb.block x hlt) (fun _ h _ => h))
  have HCS := Lib.hid hcs
  have HW := Lib.hid fun (W : World) (hb : Below w.heap.size w W) => (show Calls Tryd.prog 7 #[.agg cs] W (WgPost M W) by
    rw [hcs]; exact weighM_any M m S W (HM.out W hb))
  have HE := Lib.hid fun (W : World) (hb : Below w.heap.size w W) (hs : M.small) => (show Calls Tryd.prog 8 #[.agg cs] W (MEncPost M W) by
    rw [hcs]; exact mencode_any M m S W (HM.out W hb) (ha.below hb) hs)
  have HA := Lib.hid ha
  have HSAME := Lib.hid hsame
  clear hcs hB hk hwc h ha hsame
  go_enter Tryd.func3, Tryd.ntmps3
  go_wp2_with (first
    | (go_at_call 6; rw [← HWC.out]; refine H1.out.mono ?_; rintro e w1 ⟨rfl, hb1⟩; have HB1 := Lib.hid (HB.out.trans (hb1.mono HB.out.size)); have HK1 := Lib.hid (bk_below HK.out hb1); clear hb1)
    | (refine wpList_load_row rfl 30 (.tmp 2) rfl w.heap.size rfl 30 cs (0, 0) _ HK1.out Tryd.underlying30 rfl (by rw [HSZ.out]; exact HS.out) ?_)
    | fail)
  (go_at_call 7)
  refine (HW.out _ HB1.out).mono ?_
  rintro e w2 ⟨hb2, k, rfl, hkk⟩
  have HB2 := Lib.hid (HB1.out.trans (hb2.mono HB1.out.size))
  have HK2 := Lib.hid (bk_below HK1.out hb2)
  clear hb2
  by_cases hk4 : 2000 < k
  · have z1 : decide (2000 < k) = true := decide_eq_true hk4
    go_wp2_with fail
    go_ret
    exact ⟨rfl, HB2.out⟩
  have z1 : decide (2000 < k) = false := decide_eq_false hk4
  have HCE := Lib.hid (HE.out _ HB2.out (hkk (by omega)))
  clear hk4 hkk
  go_wp2_with (first
    | (refine wpList_load_row rfl 30 (.tmp 2) rfl w.heap.size rfl 30 cs (0, 0) _ HK2.out Tryd.underlying30 rfl (by rw [HSZ.out]; exact HS.out) ?_)
    | fail)
  (go_at_call 8)
  refine HCE.out.mono ?_
  rintro e w3 ⟨hb3, ⟨hr, rfl⟩ | ⟨hr, rfl⟩⟩
  rotate_left
  · have HB3 := Lib.hid (HB2.out.trans (hb3.mono HB2.out.size))
    clear hb3
    go_wp2_with fail
    go_ret
    exact ⟨rfl, HB3.out⟩
  have HB3 := Lib.hid (HB2.out.trans (hb3.mono HB2.out.size))
  have HK3 := Lib.hid (bk_below HK2.out hb3)
  have HR := Lib.hid hr
  clear hb3 hr
  rcases Nat.eq_zero_or_pos (encE M.tree) with he | he
  rotate_left
  · have z3 : ((encE M.tree : Int) != 0) = true := by simp; omega
    obtain ⟨q, hq⟩ : ∃ q : Nat, q = encE M.tree := ⟨_, rfl⟩
    rw [← hq] at z3 he ⊢
    clear hq
    go_wp2_with fail
    go_ret
    exact ⟨rfl, HB3.out⟩
  rw [he]
  obtain ⟨hright, hs8, hsl, hss⟩ := enc_ok he
  rw [← hss] at hs8
  have HWD := fun q hs2 u hu => wide_dec q M HR.out he hs2 u hu
  have hdec := PB.dec_enc M.tree hright (by omega) []
  rw [List.append_nil, ← hss] at hdec
  obtain ⟨s, hs⟩ : ∃ s, s = encS M.tree := ⟨_, rfl⟩
  rw [← hs] at hs8 hsl hdec HWD ⊢
  rw [← hsl] at hdec
  have HW2 := Lib.hid HWD
  clear HWD
  by_cases h20 : 2000 < s.size
  · have z2 : decide ((2000 : Int) < (s.size : Int)) = true := decide_eq_true (by omega)
    clear hdec hsl hs hss
    go_wp2_with fail
    go_ret
    exact ⟨rfl, HB3.out⟩
  have z2 : decide ((2000 : Int) < (s.size : Int)) = false := decide_eq_false (by omega)
  have HRD := Lib.hid fun (W : World) => (show Calls Tryd.prog 9 #[.string s] W (DecPost (M.tree, s.size, 0) W) by
    have := rdecode_any s W (by omega)
    rw [hdec] at this
    exact this)
  have HWI := Lib.hid fun (q : Bool) (ct : Array Value) (S' : Nat → Prop) (W : World) (hat : TlAt W S' M.tree ct) => wide_any q M.tree ct S' 1 W hat hright (by rw [← hss, ← hs]; omega)
  have HW3 := Lib.hid fun q u hu => HW2.out q (by omega) u hu
  have HEL := Lib.hid hsl
  clear hdec hsl hs hss hright HW2
  cases more with
  | false =>
    go_wp2_with (first
      | (go_at_call 9; refine (HRD.out _).mono ?_; rintro e w4 ⟨hb4, ct, rfl, ht4⟩; obtain ⟨x0, x1, x2, x3, xA, xn, xc, rfl⟩ := tlAt_form ht4; have HB4 := Lib.hid ((HB3.out.trans (hb4.mono HB3.out.size)).alloc (HB3.out.trans (hb4.mono HB3.out.size)).size (.cells #[.int .i64 x0, .bool x1, .int .i64 x2, .string x3, .slice xA xn xc] 38)); have HK4 := Lib.hid ((bk_below HK3.out hb4).alloc (.cells #[.int .i64 x0, .bool x1, .int .i64 x2, .string x3, .slice xA xn xc] 38)); have HT4 := Lib.hid (TlAt.up (B := 0) ht4 ((Below.refl w4.heap.size w4).alloc (Nat.le_refl _) (.cells #[.int .i64 x0, .bool x1, .int .i64 x2, .string x3, .slice xA xn xc] 38)) (Nat.zero_le _)); clear hb4 ht4)
      | (go_at_call 10; refine (HWI.out false _ _ _ HT4.out).mono ?_; rintro e w5 ⟨hb5, u, rfl, hu⟩; have HB5 := Lib.hid (HB4.out.trans (hb5.mono HB4.out.size)); have HK5 := Lib.hid (bk_below HK4.out hb5); have hus := (HW3.out false u hu).1; have HDU := Lib.hid (decode_same HSAME.out u w5 (by omega) (HA.out.below HB5.out) (HW3.out false u hu).2); have z5 : decide ((8192 : Int) < (u.size : Int)) = false := decide_eq_false (by omega); clear hb5 hu)
      | (go_at_call 11; refine HDU.out.mono ?_; rintro e w6 ⟨hb6, ms, rfl, hsz, hone, hsm⟩; have HSZ6 := Lib.hid hsz; have HON6 := Lib.hid hone; have HSM := Lib.hid hsm; have HB6 := Lib.hid (HB5.out.trans (hb6.mono HB5.out.size)); have HK6 := Lib.hid (bk_below HK5.out hb6); clear hsz hone hsm hb6)
      | (refine wpList_store_wide rfl 30 (.tmp 12) (.tmp 46) rfl w6.heap.size rfl ms rfl 30 MC.zero.cells (Bk.new w6 _ _) HSZ6.out.symm (by rw [HSZ6.out]; exact HS.out) HON6.out (fun w7 hbk7 hof7 => ?_); have HBK7 := Lib.hid hbk7; have HOF7 := Lib.hid hof7; have HB7 := Lib.hid ((HB6.out.alloc HB6.out.size mzero).trans (hof7.below (B := w.heap.size) (by simp; have := HB6.out.size; omega) (by simp; exact HB6.out.size))); have HK7 := Lib.hid (hof7.bk (HK6.out.alloc mzero) (by simp; have := HK6.out.lt; omega)); clear hbk7 hof7)
      | (refine wpList_load_row_g rfl 30 (.tmp 12) rfl w6.heap.size rfl 30 ms (0, 0) _ HBK7.out Tryd.underlying30 rfl (by rw [HSZ6.out]; exact HS.out) ?_)
      | (refine wpList_load_row_g rfl 30 (.tmp 2) rfl w.heap.size rfl 30 cs (0, 0) _ HK7.out Tryd.underlying30 rfl (by rw [HSZ.out]; exact HS.out) ?_)
      | (go_at_call 12; rw [HCS.out]; refine (HSM.out _ m S HOF7.out (HM.out _ HB7.out)).mono ?_; rintro e w8 ⟨rfl, hb8⟩; have HB8 := Lib.hid (HB7.out.trans (hb8.mono HB7.out.size)); clear hb8)
      | fail)
    go_ret
    exact ⟨rfl, HB8.out⟩
  | true =>
    go_wp2_with (first
      | (go_at_call 9; refine (HRD.out _).mono ?_; rintro e w4 ⟨hb4, ct, rfl, ht4⟩; obtain ⟨x0, x1, x2, x3, xA, xn, xc, rfl⟩ := tlAt_form ht4; have HB4 := Lib.hid ((HB3.out.trans (hb4.mono HB3.out.size)).alloc (HB3.out.trans (hb4.mono HB3.out.size)).size (.cells #[.int .i64 x0, .bool x1, .int .i64 x2, .string x3, .slice xA xn xc] 38)); have HK4 := Lib.hid ((bk_below HK3.out hb4).alloc (.cells #[.int .i64 x0, .bool x1, .int .i64 x2, .string x3, .slice xA xn xc] 38)); have HT4 := Lib.hid (TlAt.up (B := 0) ht4 ((Below.refl w4.heap.size w4).alloc (Nat.le_refl _) (.cells #[.int .i64 x0, .bool x1, .int .i64 x2, .string x3, .slice xA xn xc] 38)) (Nat.zero_le _)); clear hb4 ht4)
      | (go_at_call 10; refine (HWI.out true _ _ _ HT4.out).mono ?_; rintro e w5 ⟨hb5, u, rfl, hu⟩; have HB5 := Lib.hid (HB4.out.trans (hb5.mono HB4.out.size)); have HK5 := Lib.hid (bk_below HK4.out hb5); have hus := (HW3.out true u hu).1; have HDU := Lib.hid (decode_same HSAME.out u w5 (by omega) (HA.out.below HB5.out) (HW3.out true u hu).2); have z5 : decide ((8192 : Int) < (u.size : Int)) = false := decide_eq_false (by omega); clear hb5 hu)
      | (go_at_call 11; refine HDU.out.mono ?_; rintro e w6 ⟨hb6, ms, rfl, hsz, hone, hsm⟩; have HSZ6 := Lib.hid hsz; have HON6 := Lib.hid hone; have HSM := Lib.hid hsm; have HB6 := Lib.hid (HB5.out.trans (hb6.mono HB5.out.size)); have HK6 := Lib.hid (bk_below HK5.out hb6); clear hsz hone hsm hb6)
      | (refine wpList_store_wide rfl 30 (.tmp 12) (.tmp 46) rfl w6.heap.size rfl ms rfl 30 MC.zero.cells (Bk.new w6 _ _) HSZ6.out.symm (by rw [HSZ6.out]; exact HS.out) HON6.out (fun w7 hbk7 hof7 => ?_); have HBK7 := Lib.hid hbk7; have HOF7 := Lib.hid hof7; have HB7 := Lib.hid ((HB6.out.alloc HB6.out.size mzero).trans (hof7.below (B := w.heap.size) (by simp; have := HB6.out.size; omega) (by simp; exact HB6.out.size))); have HK7 := Lib.hid (hof7.bk (HK6.out.alloc mzero) (by simp; have := HK6.out.lt; omega)); clear hbk7 hof7)
      | (refine wpList_load_row_g rfl 30 (.tmp 12) rfl w6.heap.size rfl 30 ms (0, 0) _ HBK7.out Tryd.underlying30 rfl (by rw [HSZ6.out]; exact HS.out) ?_)
      | (refine wpList_load_row_g rfl 30 (.tmp 2) rfl w.heap.size rfl 30 cs (0, 0) _ HK7.out Tryd.underlying30 rfl (by rw [HSZ.out]; exact HS.out) ?_)
      | (go_at_call 12; rw [HCS.out]; refine (HSM.out _ m S HOF7.out (HM.out _ HB7.out)).mono ?_; rintro e w8 ⟨rfl, hb8⟩; have HB8 := Lib.hid (HB7.out.trans (hb8.mono HB7.out.size)); clear hb8)
      | fail)
    go_ret
    exact ⟨rfl, HB8.out⟩
end Go.Proofs.YtbiglfpikfjbpaaDoor

/- MsgBehind: its walk. -/
import Derived.Test.YtbiglfpikfjbpaaDoorMsgWE
import Derived.Test.YtbiglfpikfjbpaaDoorMsgAwake
namespace Go.Proofs.YtbiglfpikfjbpaaDoor
open Go.RowKit
set_option maxRecDepth 100000
set_option linter.unusedVariables false
set_option linter.unusedSimpArgs false
/-- Encode, whatever the message. -/
def MEncPost (M : Ms) (w : World) (e : Ending) (w' : World) : Prop :=
  Below w.heap.size w w' ∧ ((M.right = true ∧ e = .returned (.tuple #[.string (encS M.tree), .int .i64 (encE M.tree)])) ∨ (M.right = false ∧ e = .returned (.tuple #[.string ⟨#[]⟩, .int .i64 4])))
set_option maxHeartbeats 4000000 in
theorem encode_no (M : Ms) (m : MC) (S : Nat → Prop) (w : World) (h : MsAt w S M m) (ha : AnsAt w) (hr : M.right = false) :
    Calls Tryd.prog 8 #[.agg m.cells] w (fun e w' => Below w.heap.size w w' ∧ e = .returned (.tuple #[.string ⟨#[]⟩, .int .i64 4])) := by
  have HS := Lib.hid size_msg
  obtain ⟨cs, hcs⟩ : ∃ cs, cs = m.cells := ⟨_, rfl⟩
  have HSZ : Hid (cs.size = 31) := by rw [hcs]; rfl
  rw [← hcs]
  have hB := (Below.refl w.heap.size w).alloc (Nat.le_refl _) (.cells cs 30)
  have HB := Lib.hid hB
  have HBK := Lib.hid (Bk.new w 30 cs)
  have HRT := Lib.hid (show Calls Tryd.prog 16 #[.agg cs] (w.alloc (.cells cs 30)) (TellsQ false _) by
    have := msgRight_any M m S _ (h.keep hB.size (fun x _ hlt => hB.block x hlt) (fun _ h _ => h)) (ha.below hB); rwa [hr, ← hcs] at this)
  clear hcs hB h ha hr
  go_enter Tryd.func8, Tryd.ntmps8
  go_wp2_with (first
    | (refine wpList_load_row rfl 30 (.tmp 1) rfl w.heap.size rfl 30 cs (0, 0) _ HBK.out Tryd.underlying30 rfl (by rw [HSZ.out]; exact HS.out) ?_)
    | (go_at_call 16; refine HRT.out.mono ?_; rintro e w1 ⟨rfl, hb1⟩; have HB1 := Lib.hid (HB.out.trans (hb1.mono HB.out.size)); clear hb1)
    | fail)
  go_ret2
  exact ⟨HB1.out, rfl⟩
theorem mencode_any (M : Ms) (m : MC) (S : Nat → Prop) (w : World) (h : MsAt w S M m) (ha : AnsAt w) (hs : M.small) : Calls Tryd.prog 8 #[.agg m.cells] w (MEncPost M w) := by
  cases hr : M.right with
  | true => exact (encode_right M m S w h ha hr hs).mono fun e w' ⟨h1, h2⟩ => ⟨h1, .inl ⟨hr, h2⟩⟩
  | false => exact (encode_no M m S w h ha hr).mono fun e w' ⟨h1, h2⟩ => ⟨h1, .inr ⟨hr, h2⟩⟩
/-- Decode, its cells not named. -/
def DecE (er : Int) (w : World) (e : Ending) (w' : World) : Prop := Below w.heap.size w w' ∧ ∃ ms : Array Value, e = .returned (.tuple #[.agg ms, .int .i64 er]) ∧ ms.size = 31 ∧ ms.all (·.oneCell') = true
theorem decode_none (s : ByteArray) (w : World) (hs : s.size ≤ 1000000) (ha : AnsAt w) (h : decP s = none) : Calls Tryd.prog 11 #[.string s] w (DecE 4 w) := by
  refine (mdecode_any s w hs ha).mono ?_
  rintro e w' ⟨hb, hh⟩
  rcases hh with ⟨-, rfl⟩ | ⟨M, m, hM, -, -⟩
  · exact ⟨hb, _, rfl, msg_size MC.zero, msg_one MC.zero⟩
  · rw [h] at hM; cases hM
theorem decode_some (s : ByteArray) (w : World) (hs : s.size ≤ 1000000) (ha : AnsAt w) {M : Ms} (h : decP s = some M) : Calls Tryd.prog 11 #[.string s] w (DecE 0 w) := by
  refine (mdecode_any s w hs ha).mono ?_
  rintro e w' ⟨hb, hh⟩
  rcases hh with ⟨hn, -⟩ | ⟨M', m, hM, rfl, -⟩
  · rw [h] at hn; cases hn
  · exact ⟨hb, m.cells, rfl, msg_size m, msg_one m⟩
/-- The bytes of a message that has some. -/
theorem enc_ok {t : Tl} (h : encE t = 0) : t.right 1 = true ∧ (PB.enc t).length ≤ 8192 ∧ (encS t).data.toList = PB.enc t ∧ (encS t).size = (PB.enc t).length := by
  have h' := h
  unfold encE at h
  cases hr : t.right 1 with
  | false => rw [if_pos hr] at h; cases h
  | true =>
    rw [if_neg (by simp [hr])] at h
    by_cases hl : 8192 < (PB.enc t).length
    · rw [if_pos hl] at h; cases h
    · refine ⟨rfl, by omega, ?_, ?_⟩
      · unfold encS; rw [if_pos h']
      · unfold encS; rw [if_pos h']; rfl
theorem tree_list (M : Ms) : M.tree.isB 0 16 true = true := by unfold Ms.tree tlist Tl.isB; rfl
theorem behind_none (M : Ms) (hr : M.right = true) (h : encE M.tree = 0) (tail : ByteArray) (ht : tail.toList.isEmpty = false) : decP (encS M.tree ++ tail) = none := by
  obtain ⟨h1, h2, h3, h4⟩ := enc_ok h
  have e : (encS M.tree ++ tail).data.toList = PB.enc M.tree ++ tail.data.toList := by simp [h3]
  have hd := PB.dec_enc M.tree h1 h2 tail.data.toList
  unfold decP
  rw [e, hd]
  have hts : tail.size ≠ 0 := by
    intro hz
    have : tail.toList = [] := by rw [ByteArray.toList_eq]; exact List.eq_nil_of_length_eq_zero hz
    rw [this] at ht
    cases ht
  rw [if_pos]
  right
  left
  simp only
  rw [ByteArray.size_append, h4]
  omega
theorem behind_some (M : Ms) (hr : M.right = true) (h : encE M.tree = 0) : decP (encS M.tree) = some M := by
  obtain ⟨h1, h2, h3, h4⟩ := enc_ok h
  have hd := PB.dec_enc M.tree h1 h2 []
  rw [List.append_nil] at hd
  unfold decP
  rw [h3, hd, if_neg]
  · exact M.back hr
  · simp only [h4, ne_eq, not_true_eq_false, tree_list, or_self]
    simp
theorem behind_cut (M : Ms) (h : encE M.tree = 0) (k : Nat) (hk : k < (encS M.tree).size) : decP ((encS M.tree).extract 0 k) = none := by
  obtain ⟨h1, h2, h3, h4⟩ := enc_ok h
  have e : ((encS M.tree).extract 0 k).data.toList = (PB.enc M.tree).take k := by simp [h3]
  have hd := PB.dec_cut M.tree h1 h2 k (by omega)
  unfold decP
  rw [e, hd, if_pos]
  left
  simp
theorem enc_two_bytes {t : Tl} (h : encE t = 0) : 2 ≤ (encS t).size := by
  obtain ⟨h1, h2, h3, h4⟩ := enc_ok h
  rw [h4]
  exact PB.enc_pos t
set_option maxHeartbeats 8000000 in
theorem msgBehind_any (M : Ms) (m : MC) (S : Nat → Prop) (tail : ByteArray) (cut : Int) (w : World) (h : MsAt w S M m) (ha : AnsAt w) (ht : tail.size ≤ maxLen) : Calls Tryd.prog 4 #[.agg m.cells, .string tail, .int .i64 cut] w (Holds w) := by
  have HS := Lib.hid size_msg
  obtain ⟨cs, hcs⟩ : ∃ cs, cs = m.cells := ⟨_, rfl⟩
  have HSZ : Hid (cs.size = 31) := by rw [hcs]; rfl
  rw [← hcs]
  have hB := (Below.refl w.heap.size w).alloc (Nat.le_refl _) (.cells cs 30)
  have hk := Bk.new w 30 cs
  obtain ⟨wc, hwc⟩ : ∃ W, W = w.alloc (.cells cs 30) := ⟨_, rfl⟩
  rw [← hwc] at hB hk
  have HB := Lib.hid hB
  have HK := Lib.hid hk
  have HWC := Lib.hid hwc
  have H1 := Lib.hid (awake26 wc (ha.below hB))
  have HW := Lib.hid fun (W : World) (hb : Below w.heap.size w W) => (show Calls Tryd.prog 7 #[.agg cs] W (WgPost M W) by
    rw [hcs]; exact weighM_any M m S W (h.keep hb.size (fun x _ hlt => hb.block x hlt) (fun _ h _ => h)))
  have HE := Lib.hid fun (W : World) (hb : Below w.heap.size w W) (hs : M.small) => (show Calls Tryd.prog 8 #[.agg cs] W (MEncPost M W) by
    rw [hcs]; exact mencode_any M m S W (h.keep hb.size (fun x _ hlt => hb.block x hlt) (fun _ h _ => h)) (ha.below hb) hs)
  have HA := Lib.hid ha
  clear hcs hB hk hwc h ha
  go_enter Tryd.func4, Tryd.ntmps4
  go_wp2_with (first
    | (go_at_call 6; rw [← HWC.out]; refine H1.out.mono ?_; rintro e w1 ⟨rfl, hb1⟩; have HB1 := Lib.hid (HB.out.trans (hb1.mono HB.out.size)); have HK1 := Lib.hid (bk_below HK.out hb1); clear hb1)
    | (refine wpList_load_row rfl 30 (.tmp 3) rfl w.heap.size rfl 30 cs (0, 0) _ HK1.out Tryd.underlying30 rfl (by rw [HSZ.out]; exact HS.out) ?_)
    | fail)
  (go_at_call 7)
  refine (HW.out _ HB1.out).mono ?_
  rintro e w2 ⟨hb2, k, rfl, hkk⟩
  have HB2 := Lib.hid (HB1.out.trans (hb2.mono HB1.out.size))
  have HK2 := Lib.hid (bk_below HK1.out hb2)
  clear hb2
  by_cases hk4 : 40000 < k
  · have z1 : decide (40000 < k) = true := decide_eq_true hk4
    go_wp2_with fail
    go_ret
    exact ⟨rfl, HB2.out⟩
  have z1 : decide (40000 < k) = false := decide_eq_false hk4
  have hsm := hkk (by omega)
  by_cases ht9 : 9000 < tail.size
  · have z2 : decide ((9000 : Int) < (tail.size : Int)) = true := decide_eq_true (by omega)
    go_wp2_with fail
    go_ret
    exact ⟨rfl, HB2.out⟩
  have z2 : decide ((9000 : Int) < (tail.size : Int)) = false := decide_eq_false (by omega)
  have HCE := Lib.hid (HE.out _ HB2.out hsm)
  have HT9 := Lib.hid (show tail.size ≤ 9000 by omega)
  clear hk4 ht9 hkk hsm
  go_wp2_with (first
    | (refine wpList_load_row rfl 30 (.tmp 3) rfl w.heap.size rfl 30 cs (0, 0) _ HK2.out Tryd.underlying30 rfl (by rw [HSZ.out]; exact HS.out) ?_)
    | fail)
  (go_at_call 8)
  refine HCE.out.mono ?_
  rintro e w3 ⟨hb3, ⟨hr, rfl⟩ | ⟨hr, rfl⟩⟩
  rotate_left
  · have HB3 := Lib.hid (HB2.out.trans (hb3.mono HB2.out.size))
    clear hb3
    go_wp2_with fail
    go_ret
    exact ⟨rfl, HB3.out⟩
  have HB3 := Lib.hid (HB2.out.trans (hb3.mono HB2.out.size))
  have HR := Lib.hid hr
  clear hb3 hr
  rcases Nat.eq_zero_or_pos (encE M.tree) with he | he
  rotate_left
  · have z3 : ((encE M.tree : Int) != 0) = true := by simp; omega
    obtain ⟨q, hq⟩ : ∃ q : Nat, q = encE M.tree := ⟨_, rfl⟩
    rw [← hq] at z3 he ⊢
    clear hq
    go_wp2_with fail
    go_ret
    exact ⟨rfl, HB3.out⟩
  rw [he]
  have hs2 := enc_two_bytes he
  have hs8 := (enc_ok he).2.1
  rw [← (enc_ok he).2.2.2] at hs8
  have HN := fun ht => behind_none M HR.out he tail ht
  have HM := behind_some M HR.out he
  have HCUT := fun k hk => behind_cut M he k hk
  obtain ⟨s, hs⟩ : ∃ s, s = encS M.tree := ⟨_, rfl⟩
  rw [← hs] at hs2 hs8 HN HM HCUT ⊢
  have HNN := Lib.hid HN
  have HMM := Lib.hid HM
  have HCC := Lib.hid HCUT
  clear he HN HM HCUT hs
  have zs : ¬ 9223372036854775807 < s.size + tail.size := by have := HT9.out; omega
  have HD2 := Lib.hid fun (k : Nat) (hk : k < s.size) (W : World) (hb : Below w.heap.size w W) => decode_none (s.extract 0 k) W (by rw [ByteArray.size_extract]; omega) (HA.out.below hb) (HCC.out k hk)
  have hsz : (s ++ tail).size ≤ 1000000 := by rw [ByteArray.size_append]; have := HT9.out; omega
  have hxx : 0 ≤ wrap64 ((IntKind.u64.wrap cut).tmod (s.size : Int)) ∧ wrap64 ((IntKind.u64.wrap cut).tmod (s.size : Int)) < (s.size : Int) := by
    have h1 : 0 ≤ IntKind.u64.wrap cut := by rw [IntKind.wrap_u64]; omega
    rw [Int.tmod_eq_emod_of_nonneg h1]
    have h2 := Int.emod_nonneg (IntKind.u64.wrap cut) (show (s.size : Int) ≠ 0 by omega)
    have h3 := Int.emod_lt_of_pos (IntKind.u64.wrap cut) (show (0 : Int) < (s.size : Int) by omega)
    rw [IntWalk.wrap64_in _ (by omega)]
    exact ⟨h2, h3⟩
  obtain ⟨hx0, hx1⟩ := hxx
  have hx2 : wrap64 ((IntKind.u64.wrap cut).tmod (s.size : Int)) ≤ (s.size : Int) := by omega
  have hxn : (wrap64 ((IntKind.u64.wrap cut).tmod (s.size : Int))).toNat < s.size := by omega
  have HXN := Lib.hid hxn
  clear hx1 hxn
  cases hte : tail.toList.isEmpty with
  | true =>
    have hst : s ++ tail = s := by
      have : tail = ⟨#[]⟩ := full_nil (by unfold fullB; rw [hte]; rfl)
      rw [this]
      apply ByteArray.ext
      simp
    have HD1 := Lib.hid fun (W : World) (hb : Below w.heap.size w W) => decode_some (s ++ tail) W hsz (HA.out.below hb) (by rw [hst]; exact HMM.out)
    clear hst hsz
    go_wp2_with (first
      | (go_at_call 11; (with_reducible refine (HD1.out _ HB3.out).mono ?_); rintro e w4 ⟨hb4, ms, rfl, hsz4, hone4⟩; have HSZ4 := Lib.hid hsz4; have HON4 := Lib.hid hone4; have HB4 := Lib.hid (HB3.out.trans (hb4.mono HB3.out.size)); clear hb4 hsz4 hone4)
      | (refine wpList_store_wide rfl 30 (.tmp 9) (.tmp 35) rfl w4.heap.size rfl ms rfl 30 MC.zero.cells (Bk.new w4 _ _) HSZ4.out.symm (by rw [HSZ4.out]; exact HS.out) HON4.out (fun w5 hbk5 hof5 => ?_); have HB5 := Lib.hid ((HB4.out.alloc HB4.out.size mzero).trans (hof5.below (B := w.heap.size) (by simp; have := HB4.out.size; omega) (by simp; exact HB4.out.size))); clear hbk5 hof5)
      | (go_at_call 11; refine (HD2.out _ HXN.out _ HB5.out).mono ?_; rintro e w6 ⟨hb6, ms6, rfl, hsz6, hone6⟩; have HSZ6 := Lib.hid hsz6; have HON6 := Lib.hid hone6; have HB6 := Lib.hid (HB5.out.trans (hb6.mono HB5.out.size)); clear hb6 hsz6 hone6)
      | (refine wpList_store_wide rfl 30 (.tmp 11) (.tmp 48) rfl w6.heap.size rfl ms6 rfl 30 MC.zero.cells (Bk.new w6 _ _) HSZ6.out.symm (by rw [HSZ6.out]; exact HS.out) HON6.out (fun w7 hbk7 hof7 => ?_); have HB7 := Lib.hid ((HB6.out.alloc HB6.out.size mzero).trans (hof7.below (B := w.heap.size) (by simp; have := HB6.out.size; omega) (by simp; exact HB6.out.size))); clear hbk7 hof7)
      | fail)
    go_ret
    exact ⟨rfl, HB7.out⟩
  | false =>
    have HD1 := Lib.hid fun (W : World) (hb : Below w.heap.size w W) => decode_none (s ++ tail) W hsz (HA.out.below hb) (HNN.out hte)
    clear hsz
    go_wp2_with (first
      | (go_at_call 11; (with_reducible refine (HD1.out _ HB3.out).mono ?_); rintro e w4 ⟨hb4, ms, rfl, hsz4, hone4⟩; have HSZ4 := Lib.hid hsz4; have HON4 := Lib.hid hone4; have HB4 := Lib.hid (HB3.out.trans (hb4.mono HB3.out.size)); clear hb4 hsz4 hone4)
      | (refine wpList_store_wide rfl 30 (.tmp 9) (.tmp 35) rfl w4.heap.size rfl ms rfl 30 MC.zero.cells (Bk.new w4 _ _) HSZ4.out.symm (by rw [HSZ4.out]; exact HS.out) HON4.out (fun w5 hbk5 hof5 => ?_); have HB5 := Lib.hid ((HB4.out.alloc HB4.out.size mzero).trans (hof5.below (B := w.heap.size) (by simp; have := HB4.out.size; omega) (by simp; exact HB4.out.size))); clear hbk5 hof5)
      | (go_at_call 11; refine (HD2.out _ HXN.out _ HB5.out).mono ?_; rintro e w6 ⟨hb6, ms6, rfl, hsz6, hone6⟩; have HSZ6 := Lib.hid hsz6; have HON6 := Lib.hid hone6; have HB6 := Lib.hid (HB5.out.trans (hb6.mono HB5.out.size)); clear hb6 hsz6 hone6)
      | (refine wpList_store_wide rfl 30 (.tmp 11) (.tmp 48) rfl w6.heap.size rfl ms6 rfl 30 MC.zero.cells (Bk.new w6 _ _) HSZ6.out.symm (by rw [HSZ6.out]; exact HS.out) HON6.out (fun w7 hbk7 hof7 => ?_); have HB7 := Lib.hid ((HB6.out.alloc HB6.out.size mzero).trans (hof7.below (B := w.heap.size) (by simp; have := HB6.out.size; omega) (by simp; exact HB6.out.size))); clear hbk7 hof7)
      | fail)
    go_ret
    exact ⟨rfl, HB7.out⟩
theorem msgBehind_row (M : Ms) (m : MC) (S : Nat → Prop) (tail : ByteArray) (cut : Int) (w : World) (h : MsAt w S M m) (ht : tail.size ≤ maxLen) (hc : (Lit.int .i64 cut).wf = true) (ha : AnsAt w) : Calls Tryd.prog 4 #[.agg m.cells, .string tail, .int .i64 cut] w (Holds w) :=
  msgBehind_any M m S tail cut w h ha ht
end Go.Proofs.YtbiglfpikfjbpaaDoor

/- Contract of ber.encode: any value that may be. -/
import Derived.Test.YtipphdadibdifaaEncode2
namespace Go.Proofs.Ytipphdadibdifaa
open Go.RowKit
open Go.PlainAid

theorem Tl.rights_mem {k : Tl} {d : Nat} : ∀ {ks : List Tl}, Tl.rights ks d = true → k ∈ ks → k.right d = true
  | [], _, h => by cases h
  | x :: ks, hr, h => by
    unfold Tl.rights at hr
    simp only [Bool.and_eq_true] at hr
    rcases List.mem_cons.1 h with rfl | h
    · exact hr.1
    · exact Tl.rights_mem hr.2 h

theorem sb_block {B b : Nat} {l : List UInt8} {w : World} (h : SB B b l w) : B ≤ b ∧ b < w.heap.size := by
  rcases h with h | h
  · exact ⟨h.1, h.lt⟩
  · exact ⟨h.1, h.lt⟩

set_option maxRecDepth 100000 in
set_option maxHeartbeats 4000000 in
theorem encode_any (n : Nat) : ∀ (S : Nat → Prop) (t : Tl) (cs : Array Value) (d : Nat) (w : World), t.rank ≤ n → TlAt w S t cs → t.right d = true →
    Calls Try.prog 36 #[.agg cs] w (EncPost (PB.enc t) w) := by
  induction n with
  | zero =>
    intro S t cs d w hr
    obtain ⟨c, k, g, b, ks⟩ := t
    unfold Tl.rank at hr
    omega
  | succ n ih =>
    intro S t cs d w hr ht hrt
    obtain ⟨c, k, g, b, ks⟩ := t
    unfold TlAt at ht
    obtain ⟨A, cap, rfl, hks, hc, hg, hb, hk⟩ := ht
    unfold Tl.rank at hr
    unfold Tl.right at hrt
    by_cases hbad : 16 < d ∨ c < 0 ∨ 3 < c ∨ g < 0 ∨ 30 < g
    · rw [if_pos hbad] at hrt
      cases hrt
    rw [if_neg hbad] at hrt
    have h2 : 0 ≤ c := by omega
    have h3 : c ≤ 3 := by omega
    have h4 : 0 ≤ g := by omega
    have h5 : g ≤ 30 := by omega
    clear hbad
    cases k with
    | false =>
      have he : PB.enc (.mk c false g b ks) = UInt8.ofNat (c * 64 + g).toNat :: (PB.lenB b.size ++ b.data.toList) := by unfold PB.enc; rw [if_neg (by decide)]
      rw [he]
      exact encode_prim _ _ _ _ _ _ _ h2 h3 h4 h5 hb
    | true =>
    have he : PB.enc (.mk c true g b ks) = UInt8.ofNat (c * 64 + g + 32).toNat :: (PB.lenB (PB.encs ks).length ++ PB.encs ks) := by unfold PB.enc; rw [if_pos rfl]
    rw [he]
    rw [if_pos rfl] at hrt
    simp only [Bool.and_eq_true] at hrt
    have hrs := Lib.hid hrt.1
    unfold maxLen at hb hks
    have hor := i64_or_64 c g h2 (by omega) h4 (by omega)
    have ho2 := u8_or_32 (c * 64 + g) (by omega) (by omega) (by omega)
    have IH := Lib.hid ih
    have HK := Lib.hid hk
    clear ih hk hc hg hrt he
    have hcv := conv_one (UInt8.ofNat (c * 64 + g + 32).toNat)
    have hv : ((UInt8.ofNat (c * 64 + g + 32).toNat).toNat : Int) = c * 64 + g + 32 := by rw [UInt8.toNat_ofNat']; omega
    rw [hv] at hcv
    have hfe : (⟨[UInt8.ofNat (c * 64 + g + 32).toNat].toArray⟩ ++ ⟨(PB.lenB (PB.encs ks).length).toArray⟩ ++ ⟨(PB.encs ks).toArray⟩ : ByteArray) = ⟨(UInt8.ofNat (c * 64 + g + 32).toNat :: (PB.lenB (PB.encs ks).length ++ PB.encs ks)).toArray⟩ := by
      have := str_app3 [UInt8.ofNat (c * 64 + g + 32).toNat] (PB.lenB (PB.encs ks).length) (PB.encs ks)
      rw [List.singleton_append] at this
      exact this
    have hln := PB.lenB_len (PB.encs ks).length
    have hle : (UInt8.ofNat (c * 64 + g + 32).toNat :: (PB.lenB (PB.encs ks).length ++ PB.encs ks)).length = 1 + (PB.lenB (PB.encs ks).length).length + (PB.encs ks).length := by simp; omega
    have hsz1 : (⟨[UInt8.ofNat (c * 64 + g + 32).toNat].toArray⟩ : ByteArray).size ≤ 1 := by simp [ByteArray.size]
    have hsz2 : (⟨(PB.lenB (PB.encs ks).length).toArray⟩ : ByteArray).size ≤ 4 := lenB_size _
    generalize hfl : UInt8.ofNat (c * 64 + g + 32).toNat :: (PB.lenB (PB.encs ks).length ++ PB.encs ks) = fl at *
    generalize (⟨[UInt8.ofNat (c * 64 + g + 32).toNat].toArray⟩ : ByteArray) = hd at *
    generalize hls : (⟨(PB.lenB (PB.encs ks).length).toArray⟩ : ByteArray) = ls at *
    have HLS := Lib.hid hls
    have HFE := Lib.hid hfe
    have hle2 : (PB.encs ks).length < fl.length := by omega
    have hle3 : fl.length ≤ (PB.encs ks).length + 5 := by omega
    clear hv hfe hle hfl hln hls
    go_enter Try.func36, Try.ntmps36
    go_wp2_with fail
    have hbk0 := (Bk.new w 44 #[.int .i64 c, .bool true, .int .i64 g, .string b, .slice A ks.length cap]).alloc (.cells #[.pointer none, .slice none 0 0] 80)
    have hsb0 := sb_new (w.alloc (.cells #[.int .i64 c, .bool true, .int .i64 g, .string b, .slice A ks.length cap] 44))
    have hbl0 := ((Below.refl w.heap.size w).alloc (Nat.le_refl _) (.cells #[.int .i64 c, .bool true, .int .i64 g, .string b, .slice A ks.length cap] 44)).alloc (by simp) (.cells #[.pointer none, .slice none 0 0] 80)
    have hsz : (w.alloc (.cells #[.int .i64 c, .bool true, .int .i64 g, .string b, .slice A ks.length cap] 44)).heap.size = w.heap.size + 1 := by simp
    rw [hsz] at hsb0
    generalize ((w.alloc (.cells #[.int .i64 c, .bool true, .int .i64 g, .string b, .slice A ks.length cap] 44)).alloc (.cells #[.pointer none, .slice none 0 0] 80)) = w1 at *
    clear hsz
    go_loopw [28] (fun i wr => ∃ (j : Nat), i = .int .i64 j ∧ j ≤ ks.length ∧ Hid ((PB.encs (ks.take j)).length ≤ 8192) ∧ Hid (SB (w.heap.size + 1) (w.heap.size + 1) (PB.encs (ks.take j)) wr) ∧ Hid (Below w.heap.size w wr)) (fun i _ => ks.length - (intOf i).toNat)
    case atStart => exact ⟨0, rfl, Nat.zero_le _, by show _ ≤ _; simp [PB.encs], by show SB _ _ _ _; simpa [PB.encs] using hsb0, hbl0⟩
    case round =>
      clear hsb0 hbl0 hbk0
      obtain ⟨j, rfl, hj, HE, HS, HR⟩ := hrel
      by_cases hlt : j < ks.length
      · obtain ⟨b1, o1, c0, c1, c2, c3, c4, rfl, ⟨_, hb1⟩, q0, q1, q2, q3, q4, ht⟩ := (KsAt.below HR.out ks A 0 HK.out).get j hlt
        have hrk := Tl.rank_mem (List.getElem_mem hlt)
        obtain ⟨x0, x1, x2, x3, xA, xn, xc, hcs⟩ := tlAt_form ht
        simp only [Array.mk.injEq, List.cons.injEq, and_true] at hcs
        obtain ⟨rfl, rfl, rfl, rfl, rfl⟩ := hcs
        have HC := IH.out S ks[j] _ (d + 1) (wr.alloc (.cells #[.int .i64 x0, .bool x1, .int .i64 x2, .string x3, .slice xA xn xc] 44)) (by omega) (TlAt.below ((Below.refl _ _).alloc (Nat.le_refl _) _) _ _ ht) (Tl.rights_mem hrs.out (List.getElem_mem hlt))
        have hst : PB.encs (ks.take (j + 1)) = PB.encs (ks.take j) ++ PB.enc ks[j] := by
          rw [List.take_succ_eq_append_getElem hlt, PB.encs_app]
          simp [PB.encs]
        have hto : (PB.encs (ks.take (j + 1))).length ≤ (PB.encs ks).length := by
          conv => rhs; rw [← List.take_append_drop (j + 1) ks, PB.encs_app]
          rw [List.length_append]
          omega
        rw [Nat.zero_add] at q0 q1 q2 q3 q4
        have hbl1 := HR.out.alloc HR.out.size (.cells #[.int .i64 x0, .bool x1, .int .i64 x2, .string x3, .slice xA xn xc] 44)
        have hsb1 := HS.out.below ((Below.refl _ _).alloc (Nat.le_refl _) (.cells #[.int .i64 x0, .bool x1, .int .i64 x2, .string x3, .slice xA xn xc] 44))
        have he8 := HE.out
        have HST := Lib.hid hst
        have hsum : (PB.encs (ks.take (j + 1))).length = (PB.encs (ks.take j)).length + (PB.enc ks[j]).length := by rw [hst, List.length_append]
        clear hst
        by_cases hkl : (PB.enc ks[j]).length ≤ 8192
        · have HC1 := Lib.hid (HC.mono fun e w' (h : EncPost _ _ e w') => (show Below _ _ w' ∧ e = _ from ⟨h.1, h.2.elim (fun x => x.2) (fun x => absurd hkl (by omega))⟩))
          clear HC
          have hszk := size_list (PB.enc ks[j])
          by_cases hsm : (PB.encs (ks.take (j + 1))).length ≤ 8192
          · have hq : decide (((PB.encs (ks.take j)).length : Int) + (PB.enc ks[j]).length ≤ 8192) = true := by simp; omega
            generalize (PB.enc ks[j]) = el at *
            generalize hol : PB.encs (ks.take j) = ol at *
            clear hol
            go_wp2_with (first
              | (go_at_call 36; refine HC1.out.mono ?_; rintro e w3 ⟨hb3, rfl⟩; have HS3 := Lib.hid (hsb1.below hb3))
              | (go_at_call 44; refine (sb_len _ _ _ _ HS3.out).mono ?_; rintro e w' ⟨rfl, rfl⟩)
              | fail)
            refine (sb_write (w.heap.size + 1) _ ol _ w3 HS3.out (by rw [hszk]; omega) (by have := (sb_block HS3.out).2; omega)).mono ?_
            rintro e w4 ⟨rfl, hs4, hb4⟩
            have hbl3 := hbl1.trans (hb3.mono hbl1.size)
            have hbl4 := hbl3.trans (hb4.mono (by omega))
            clear hbl1 hsb1 hbl3 hb3 hb4 HS3
            go_wp2_with fail
            go_roundw
            case rel => exact ⟨j + 1, by go_num, by omega, hsm, by show SB _ _ _ _; rw [HST.out]; exact hs4, hbl4⟩
            case measure => simp [intOf]; omega
          · have hq : decide (((PB.encs (ks.take j)).length : Int) + (PB.enc ks[j]).length ≤ 8192) = false := by simp; omega
            have hq2 : decide (8192 < ((PB.encs (ks.take j)).length : Int) + (PB.enc ks[j]).length) = true := by simp; omega
            generalize (PB.enc ks[j]) = el at *
            generalize hol : PB.encs (ks.take j) = ol at *
            clear hol
            go_wp2_with (first
              | (go_at_call 36; refine HC1.out.mono ?_; rintro e w3 ⟨hb3, rfl⟩; have HS3 := Lib.hid (hsb1.below hb3))
              | (go_at_call 44; refine (sb_len _ _ _ _ HS3.out).mono ?_; rintro e w' ⟨rfl, rfl⟩)
              | fail)
            go_ret2
            exact ⟨hbl1.trans (hb3.mono hbl1.size), Or.inr ⟨by omega, _, rfl⟩⟩
        · have HC1 := Lib.hid (HC.mono fun e w' (h : EncPost _ _ e w') => (show Below _ _ w' ∧ ∃ s, e = _ from ⟨h.1, h.2.elim (fun x => absurd x.1 hkl) (fun x => x.2)⟩))
          clear HC
          go_wp2_with (first
            | (go_at_call 36; refine HC1.out.mono ?_; rintro e w3 ⟨hb3, s0, rfl⟩)
            | fail)
          go_ret2
          exact ⟨hbl1.trans (hb3.mono hbl1.size), Or.inr ⟨by omega, _, rfl⟩⟩
      · obtain rfl : j = ks.length := by omega
        have hs1 := HS.out
        have he8 := HE.out
        rw [List.take_length] at hs1 he8
        have HL := Lib.hid fun W : World => length_le (PB.encs ks).length W he8
        rw [HLS.out] at HL
        have HST := Lib.hid (sb_string _ _ _ wr hs1 (by have := (sb_block hs1).2; omega))
        have hszk := size_list (PB.encs ks)
        have q1 : decide ((8192 : Int) < (PB.encs ks).length) = false := by simp; omega
        clear hs1 HS HE
        generalize hel : PB.encs ks = el at *
        clear hel
        go_upto_region 17 with (go_at_call 46; refine HST.out.mono ?_; rintro e w3 ⟨rfl, hb3⟩)
        have HBW := Lib.hid (HR.out.trans (hb3.mono (by omega)))
        clear hb3
        go_cut [11] (fun v wx => v = .string ⟨fl.toArray⟩ ∧ Below w3.heap.size w3 wx)
        case first =>
          go_region_with (go_at_call 47; refine (HL.out _).mono ?_; rintro e w4 ⟨rfl, hb4⟩; obtain ⟨hcc, hff⟩ := bcell hb4)
          all_goals
            go_wp2_with fail
            go_meet
            refine ⟨by rw [← HFE.out], ?_⟩
            clear hcc hff
            first
              | exact (((Below.refl _ _).alloc (Nat.le_refl _) _).drew).trans (hb4.mono (by simp))
              | exact ((Below.refl _ _).drew.trans hb4).alloc hb4.size _
        case rest =>
          obtain ⟨rfl, hbc⟩ := hcut
          by_cases hf : fl.length ≤ 8192
          · have hq : decide ((fl.length : Int) ≤ 8192) = true := by simp; omega
            go_wp2_with fail
            go_ret2
            exact ⟨HBW.out.trans (hbc.mono HBW.out.size), Or.inl ⟨hf, rfl⟩⟩
          · have hq : decide ((fl.length : Int) ≤ 8192) = false := by simp; omega
            go_wp2_with fail
            go_ret2
            exact ⟨HBW.out.trans (hbc.mono HBW.out.size), Or.inr ⟨by omega, _, rfl⟩⟩
end Go.Proofs.Ytipphdadibdifaa

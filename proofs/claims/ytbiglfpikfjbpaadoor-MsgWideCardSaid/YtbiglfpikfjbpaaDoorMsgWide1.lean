/- wide: a value's bytes with long lengths: its walk. -/
import Derived.Test.YtbiglfpikfjbpaaDoorPlainWide
import Derived.Test.YtbiglfpikfjbpaaDoorMsgWE
namespace Go.Proofs.YtbiglfpikfjbpaaDoor
open Go.RowKit
open Go.PlainAid
set_option maxRecDepth 100000
set_option linter.unusedVariables false
set_option linter.unusedSimpArgs false
def WidePost (l : List UInt8) (w : World) (e : Ending) (w' : World) : Prop := Below w.heap.size w w' ∧ ∃ s : ByteArray, e = .returned (.string s) ∧ s.data.toList = l
def kOf (q : Bool) : Int := if q then 4 else 2
/-- The bytes laid so far. -/
def wideAt (q : Bool) (h : UInt8) (n : Nat) (j : Nat) : List UInt8 := h :: (PB.wideB q n).take (1 + j)
theorem wencs_app (q : Bool) (a b : List Tl) : PB.wencs q (a ++ b) = PB.wencs q a ++ PB.wencs q b := by
  induction a with
  | nil => simp [PB.wencs]
  | cons x a ih => simp [PB.wencs, ih]
theorem wencs_take (q : Bool) (ks : List Tl) (j : Nat) : (PB.wencs q (ks.take j)).length ≤ (PB.wencs q ks).length := by
  have h := wencs_app q (ks.take j) (ks.drop j)
  rw [List.take_append_drop] at h
  rw [h, List.length_append]
  omega
theorem wencs_mem (q : Bool) {ks : List Tl} {k : Tl} (h : k ∈ ks) : (PB.wenc q k).length ≤ (PB.wencs q ks).length := by
  induction ks with
  | nil => cases h
  | cons x ks ih =>
    unfold PB.wencs
    rw [List.length_append]
    rcases List.mem_cons.1 h with rfl | h
    · omega
    · have := ih h; omega
set_option maxHeartbeats 8000000 in
theorem wide_one (q : Bool) (t : Tl) (cs : Array Value) (S : Nat → Prop) (d : Nat) (w : World) (h : TlAt w S t cs) (hr : t.right d = true) (hl : (PB.enc t).length ≤ 8192)
    (ih : ∀ (c k g b ks), t = .mk c k g b ks → ∀ y ∈ ks, ∀ (cs : Array Value) (w : World), TlAt w S y cs → Calls Tryd.prog 10 #[.agg cs, .int .i64 (kOf q)] w (WidePost (PB.wenc q y) w)) :
    Calls Tryd.prog 10 #[.agg cs, .int .i64 (kOf q)] w (WidePost (PB.wenc q t) w) := by
  obtain ⟨i0, hi, iz0, iz1, iz2⟩ := info_parts info_u8
  obtain ⟨c, k, g, b, ks⟩ := t
  have IH := Lib.hid (ih c k g b ks rfl)
  clear ih
  unfold TlAt at h
  obtain ⟨A, cap, rfl, ⟨hk1, hk2⟩, -, -, hbs, hks⟩ := h
  have hr' := hr
  unfold Tl.right at hr'
  by_cases hbad : 16 < d ∨ c < 0 ∨ 3 < c ∨ g < 0 ∨ 30 < g
  · rw [if_pos hbad] at hr'; cases hr'
  rw [if_neg hbad] at hr'
  have hcr : 0 ≤ c ∧ c ≤ 3 ∧ 0 ≤ g ∧ g ≤ 30 := by omega
  obtain ⟨hc0, hc3, hg0, hg30⟩ := hcr
  have hwl := PB.wencs_len q ks
  have hel : (PB.encs ks).length ≤ 8192 ∧ b.size ≤ 8192 := by
    unfold PB.enc at hl
    cases k with
    | true =>
      rw [if_pos rfl] at hr' hl
      simp only [Bool.and_eq_true] at hr'
      have hb0 : b.size = 0 := by have h1 : b.toList = [] := by simpa using hr'.2
                                  rw [ByteArray.toList_eq] at h1
                                  have : b.size = b.data.toList.length := rfl
                                  rw [this, h1]; rfl
      simp only [List.length_cons, List.length_append] at hl
      omega
    | false =>
      rw [if_neg (by decide)] at hr' hl
      obtain rfl : ks = [] := by simpa using hr'
      simp only [List.length_cons, List.length_append] at hl
      have : b.size = b.data.toList.length := rfl
      exact ⟨by simp [PB.encs], by omega⟩
  obtain ⟨hel1, hel2⟩ := hel
  obtain ⟨w1, hw1⟩ : ∃ W, W = w.alloc (.cells #[.int .i64 c, .bool k, .int .i64 g, .string b, .slice A ks.length cap] 38) := ⟨_, rfl⟩
  have hb1 : Below w.heap.size w w1 := by rw [hw1]; exact (Below.refl w.heap.size w).alloc (Nat.le_refl _) _
  have hx1 : Bk w1 w.heap.size 38 #[.int .i64 c, .bool k, .int .i64 g, .string b, .slice A ks.length cap] := by rw [hw1]; exact Bk.new w _ _
  have HB := Lib.hid hb1
  have HX := Lib.hid hx1
  have HW1 := Lib.hid hw1
  have HKS := Lib.hid hks
  have hcm : cap ≤ 9223372036854775807 := by unfold maxLen at hk2; omega
  have p3 : (w.alloc (.cells #[.int .i64 c, .bool k, .int .i64 g, .string b, .slice A ks.length cap] 38)).cell? ⟨w.heap.size, 3, none⟩ = some (.string b) := by rw [← hw1]; exact hx1.cell 3
  clear hw1 hb1 hx1 hks hk2 hbad
  have HR := Lib.hid hr'
  have HL := Lib.hid hwl
  clear hr hr' hl hwl
  go_enter Tryd.func10, Tryd.ntmps10
  go_upto_block 0 with (fail)
  rw [← HW1.out]
  go_cut [5, 6] from 12 to 27 (fun v _ wx => ∃ s : ByteArray, v = .string s ∧ s.data.toList = b.data.toList ++ PB.wencs q ks ∧ Below w.heap.size w wx ∧ Bk wx w.heap.size 38 #[.int .i64 c, .bool k, .int .i64 g, .string b, .slice A ks.length cap])
  case first =>
    go_wp2_with fail
    go_loopw [5, 6] (fun u i wr => ∃ (j : Nat) (s : ByteArray), i = .int .i64 j ∧ u = .string s ∧ j ≤ ks.length ∧ Hid (s.data.toList = b.data.toList ++ PB.wencs q (ks.take j)) ∧ Below w.heap.size w wr ∧ Bk wr w.heap.size 38 #[.int .i64 c, .bool k, .int .i64 g, .string b, .slice A ks.length cap]) (fun _ i _ => ks.length - (intOf i).toNat)
    case atStart => exact ⟨0, b, rfl, rfl, Nat.zero_le _, by unfold Hid; simp [PB.wencs], HB.out, HX.out⟩
    case round =>
      obtain ⟨j, s, rfl, rfl, hj, HS, hbw, hbk⟩ := hrel
      have HBW := Lib.hid hbw
      have HBK := Lib.hid hbk
      have p4 : wr.cell? ⟨w.heap.size, 4, none⟩ = some (.slice A ks.length cap) := hbk.cell 4
      have hlt1 := hbk.lt
      by_cases hlt : j < ks.length
      · have z1 : decide ((j : Int) < (ks.length : Int)) = true := decide_eq_true (by omega)
        obtain ⟨bb, oo, c0, c1, c2, c3, c4, rfl, hS, q0, q1, q2, q3, q4, ht⟩ := (KsAt.below hbw ks A 0 HKS.out).get j hlt
        rw [Nat.zero_add] at q0 q1 q2 q3 q4
        have HC := Lib.hid (IH.out ks[j] (List.getElem_mem hlt) _ wr ht)
        have hbl := hS.2
        have hsz : s.size ≤ 40000 := by
          have e1 : s.size = s.data.toList.length := rfl
          have e2 : (PB.wencs q (ks.take j)).length ≤ (PB.wencs q ks).length := wencs_take q ks j
          have := HL.out
          rw [e1, HS.out, List.length_append]
          have e3 : b.data.toList.length = b.size := rfl
          omega
        have hxz : (PB.wenc q ks[j]).length ≤ 40000 := by
          have e2 := wencs_mem q (List.getElem_mem hlt)
          have := HL.out
          omega
        obtain ⟨y, hy⟩ : ∃ y, y = PB.wenc q ks[j] := ⟨_, rfl⟩
        rw [← hy] at HC hxz
        have HY := Lib.hid hy
        have hxx : ∀ x : ByteArray, x.data.toList = y → ¬ 9223372036854775807 < s.size + x.size := fun x hx => by
          have e1 : x.size = x.data.toList.length := rfl
          rw [e1, hx]; omega
        have HXX := Lib.hid hxx
        have HGJ := Lib.hid (show ks.take (j + 1) = ks.take j ++ [ks[j]] from take_more (List.getElem?_eq_getElem hlt))
        clear hS ht hbw hbk hxx hy hxz
        go_wp2_with (first
          | (go_at_call 10; refine HC.out.mono ?_; rintro e w2 ⟨hb2, x, rfl, hx⟩; have hnx := HXX.out x hx; have HB2 := Lib.hid (HBW.out.trans (hb2.mono HBW.out.size)); have HK2 := Lib.hid (bk_below HBK.out hb2); have HXL := Lib.hid hx; clear hb2 hx)
          | fail)
        go_roundw
        case rel =>
          have hfin : (s ++ x).data.toList = b.data.toList ++ PB.wencs q (ks.take (j + 1)) := by
            rw [append_list, HS.out, HXL.out, HGJ.out, HY.out, wencs_app, List.append_assoc]
            simp [PB.wencs]
          first | exact ⟨j + 1, s ++ x, by go_num, rfl, by omega, hfin, HB2.out, HK2.out⟩ | ((repeat apply Exists.intro); exact ⟨⟨j + 1, s ++ x, by go_num, rfl, by omega, hfin, HB2.out, HK2.out⟩, rfl⟩)
        case measure => simp [intOf]; omega
      · have z1 : decide ((j : Int) < (ks.length : Int)) = false := decide_eq_false (by omega)
        have hfin : s.data.toList = b.data.toList ++ PB.wencs q ks := by rw [HS.out, List.take_of_length_le (by omega)]
        clear hbw hbk
        go_wp2_with fail
        go_meet
        exact ⟨s, rfl, hfin, HBW.out, HBK.out⟩
  case rest =>
    obtain ⟨s, rfl, hs, hbx, hkx⟩ := hcut
    have e0 := hkx.cell 0
    have e1 := hkx.cell 1
    have e2 := hkx.cell 2
    have elt := hkx.lt
    have hsz : s.size ≤ 40000 := by
      have e1 : s.size = s.data.toList.length := rfl
      have := HL.out
      rw [e1, hs, List.length_append]
      have e3 : b.data.toList.length = b.size := rfl
      omega
    have HBX := Lib.hid hbx
    have HS := Lib.hid hs
    have hww := hbx.size
    clear hkx hbx hs
    cases k with
    | false =>
      cases q with
      | false =>
        rw [show kOf false = 2 from rfl]
        go_wp2_with fail
        obtain ⟨x, hx⟩ : ∃ x : UInt8, x = UInt8.ofNat (c * 64 + g).toNat := ⟨_, rfl⟩
        have hxv : (64 * c + g : Int) = (x.toNat : Int) := by rw [hx, PB.u8_ofNat (by omega)]; omega
        obtain ⟨n, hn⟩ : ∃ n : Nat, n = s.size := ⟨_, rfl⟩
        have hlit := World.ownsRow_lit (base := w.heap.size) (e := 5) (size := 1) wc #[.int .u8 (64 * c + g), .int .u8 130] 2 hww (by unfold maxLen; omega) rfl
        have h0 : (#[.int .u8 (64 * c + g), .int .u8 130] : Array Value).toList = u8s (wideAt false x n 0) := by
          rw [hxv]; rfl
        rw [h0] at hlit
        have HLIT := Lib.hid hlit
        have HB8 := Lib.hid (HBX.out.alloc hww (.cells #[.int .u8 (64 * c + g), .int .u8 130] 5))
        have HXX := Lib.hid hx
        have HNN := Lib.hid hn
        have HXV := Lib.hid hxv
        clear hlit h0 hx hxv hn
        go_loopw [8, 9] (fun v i wr => ∃ (j : Nat), j ≤ 2 ∧ i = .int .i64 (1 - (j : Int)) ∧ wr.ownsRow w.heap.size 5 1 v (2 + j) (u8s (wideAt false x n j)) ∧ Below w.heap.size w wr) (fun _ i _ => (intOf i + 1).toNat)
        case atStart => exact ⟨0, by omega, by go_num, HLIT.out, HB8.out⟩
        case round =>
          clear HLIT HB8 e0 e1 e2 elt
          obtain ⟨j, hj, rfl, hown, hbw⟩ := hrel
          have HBW := Lib.hid hbw
          have hwr := hbw.size
          clear hbw
          rcases (show j = 0 ∨ j = 1 ∨ j = 2 by omega) with rfl | rfl | rfl
          · obtain ⟨A9, c9, rfl, -, -⟩ := own_form hown
            have hown2 : wr.ownsRow w.heap.size 5 1 (.slice A9 2 c9) 2 (u8s (wideAt false x n 0)) := hown
            clear hown
            go_wp2_with (first
              | (at_builtin; refine wpList_append_own_at _ rfl (.tmp 50) (.tmp 57) 69 rfl w.heap.size 5 i0 _ 1 1 Tryd.underlying69 hi iz0 iz1 iz2 rfl (by decide) (.slice A9 2 c9) 2 _ rfl (hown2.alloc _) ⟨wr.heap.size, 0, none⟩ 1 1 [.int .u8 ((s.size : Int) / 256)] rfl rfl (World.news_of_block (cs := #[.int .u8 ((s.size : Int) / 256)]) (heap_alloc_new wr _)) (by simp [Value.oneCell']) (by unfold maxLen; omega) (by omega) (by simp; omega) ?_; intro v' w3 hown3 hgrow3 hnil3 hat3)
              | fail)
            have hb3 := (HBW.out.alloc hwr _).grown hgrow3 (by simp; omega) (fun y hy => (World.ownsRow.lt hown2 y hy).1)
            have hown4 : w3.ownsRow w.heap.size 5 1 v' (2 + 1) (u8s (wideAt false x n 1)) := by
              rw [show wideAt false x n 1 = wideAt false x n 0 ++ [UInt8.ofNat (n / 256 % 256)] from rfl, u8s_app]
              have e : u8s [UInt8.ofNat (n / 256 % 256)] = [.int .u8 ((s.size : Int) / 256)] := by
                have := PB.u8_ofNat (n := n / 256 % 256) (by omega)
                simp only [u8s, List.map_cons, List.map_nil, this]
                rw [HNN.out]
                first | rfl | (congr 2; omega)
              rw [e]
              exact hown3
            go_roundw
            case rel => first | exact ⟨1, by omega, by go_num, hown4, hb3⟩ | ((repeat apply Exists.intro); refine ⟨?_, rfl⟩; exact ⟨1, by omega, by go_num, hown4, hb3⟩)
            case measure => simp [intOf]
          · obtain ⟨A9, c9, rfl, -, -⟩ := own_form hown
            have hown2 : wr.ownsRow w.heap.size 5 1 (.slice A9 3 c9) 3 (u8s (wideAt false x n 1)) := hown
            clear hown
            go_wp2_with (first
              | (at_builtin; refine wpList_append_own_at _ rfl (.tmp 50) (.tmp 57) 69 rfl w.heap.size 5 i0 _ 1 1 Tryd.underlying69 hi iz0 iz1 iz2 rfl (by decide) (.slice A9 3 c9) 3 _ rfl (hown2.alloc _) ⟨wr.heap.size, 0, none⟩ 1 1 [.int .u8 ((s.size : Int) % 256)] rfl rfl (World.news_of_block (cs := #[.int .u8 ((s.size : Int) % 256)]) (heap_alloc_new wr _)) (by simp [Value.oneCell']) (by unfold maxLen; omega) (by omega) (by simp; omega) ?_; intro v' w3 hown3 hgrow3 hnil3 hat3)
              | fail)
            have hb3 := (HBW.out.alloc hwr _).grown hgrow3 (by simp; omega) (fun y hy => (World.ownsRow.lt hown2 y hy).1)
            have hown4 : w3.ownsRow w.heap.size 5 1 v' (2 + 2) (u8s (wideAt false x n 2)) := by
              rw [show wideAt false x n 2 = wideAt false x n 1 ++ [UInt8.ofNat (n % 256)] from rfl, u8s_app]
              have e : u8s [UInt8.ofNat (n % 256)] = [.int .u8 ((s.size : Int) % 256)] := by
                have := PB.u8_ofNat (n := n % 256) (by omega)
                simp only [u8s, List.map_cons, List.map_nil, this]
                rw [HNN.out]
                first | rfl | (congr 2; omega)
              rw [e]
              exact hown3
            go_roundw
            case rel => first | exact ⟨2, by omega, by go_num, hown4, hb3⟩ | ((repeat apply Exists.intro); refine ⟨?_, rfl⟩; exact ⟨2, by omega, by go_num, hown4, hb3⟩)
            case measure => simp [intOf]
          · have hown2 : wr.ownsRow w.heap.size 5 1 _ 4 (u8s (wideAt false x n 2)) := hown
            obtain ⟨gq, c9, rfl, -, -⟩ := hown2.form (by omega)
            have hconv := conv_own (L := wideAt false x n 2) hown2
            have hzz : ¬ 9223372036854775807 < (⟨(wideAt false x n 2).toArray⟩ : ByteArray).size + s.size := by
              have : (⟨(wideAt false x n 2).toArray⟩ : ByteArray).size = 4 := rfl
              rw [this]; omega
            have HFIN := Lib.hid (show ((⟨(wideAt false x n 2).toArray⟩ : ByteArray) ++ s).data.toList = PB.wenc false (.mk c false g b ks) by
              rw [append_list, HS.out]
              have e1 : (⟨(wideAt false x n 2).toArray⟩ : ByteArray).data.toList = x :: PB.wideB false n := rfl
              have e2 : n = s.data.toList.length := HNN.out
              have hr := HR.out
              rw [if_neg (by decide)] at hr
              obtain rfl : ks = [] := by simpa using hr
              rw [HS.out] at e2
              unfold PB.wenc
              have e3 : PB.wencs false [] = [] := by unfold PB.wencs; rfl
              rw [e3, List.append_nil] at e2 ⊢
              have e4 : n = b.size := e2
              rw [if_neg (by decide), e1, e4, HXX.out, List.cons_append])
            clear hown hown2
            go_wp2_with fail
            go_ret
            exact ⟨HBW.out, _, rfl, HFIN.out⟩
      | true =>
        rw [show kOf true = 4 from rfl]
        go_wp2_with fail
        obtain ⟨x, hx⟩ : ∃ x : UInt8, x = UInt8.ofNat (c * 64 + g).toNat := ⟨_, rfl⟩
        have hxv : (64 * c + g : Int) = (x.toNat : Int) := by rw [hx, PB.u8_ofNat (by omega)]; omega
        obtain ⟨n, hn⟩ : ∃ n : Nat, n = s.size := ⟨_, rfl⟩
        have hlit := World.ownsRow_lit (base := w.heap.size) (e := 5) (size := 1) wc #[.int .u8 (64 * c + g), .int .u8 132] 2 hww (by unfold maxLen; omega) rfl
        have h0 : (#[.int .u8 (64 * c + g), .int .u8 132] : Array Value).toList = u8s (wideAt true x n 0) := by
          rw [hxv]; rfl
        rw [h0] at hlit
        have HLIT := Lib.hid hlit
        have HB8 := Lib.hid (HBX.out.alloc hww (.cells #[.int .u8 (64 * c + g), .int .u8 132] 5))
        have HXX := Lib.hid hx
        have HNN := Lib.hid hn
        have HXV := Lib.hid hxv
        clear hlit h0 hx hxv hn
        go_loopw [8, 9] (fun v i wr => ∃ (j : Nat), j ≤ 4 ∧ i = .int .i64 (3 - (j : Int)) ∧ wr.ownsRow w.heap.size 5 1 v (2 + j) (u8s (wideAt true x n j)) ∧ Below w.heap.size w wr) (fun _ i _ => (intOf i + 1).toNat)
        case atStart => exact ⟨0, by omega, by go_num, HLIT.out, HB8.out⟩
        case round =>
          clear HLIT HB8 e0 e1 e2 elt
          obtain ⟨j, hj, rfl, hown, hbw⟩ := hrel
          have HBW := Lib.hid hbw
          have hwr := hbw.size
          clear hbw
          rcases (show j = 0 ∨ j = 1 ∨ j = 2 ∨ j = 3 ∨ j = 4 by omega) with rfl | rfl | rfl | rfl | rfl
          · obtain ⟨A9, c9, rfl, -, -⟩ := own_form hown
            have hown2 : wr.ownsRow w.heap.size 5 1 (.slice A9 2 c9) 2 (u8s (wideAt true x n 0)) := hown
            clear hown
            go_wp2_with (first
              | (at_builtin; refine wpList_append_own_at _ rfl (.tmp 50) (.tmp 57) 69 rfl w.heap.size 5 i0 _ 1 1 Tryd.underlying69 hi iz0 iz1 iz2 rfl (by decide) (.slice A9 2 c9) 2 _ rfl (hown2.alloc _) ⟨wr.heap.size, 0, none⟩ 1 1 [.int .u8 ((s.size : Int) / 16777216)] rfl rfl (World.news_of_block (cs := #[.int .u8 ((s.size : Int) / 16777216)]) (heap_alloc_new wr _)) (by simp [Value.oneCell']) (by unfold maxLen; omega) (by omega) (by simp; omega) ?_; intro v' w3 hown3 hgrow3 hnil3 hat3)
              | fail)
            have hb3 := (HBW.out.alloc hwr _).grown hgrow3 (by simp; omega) (fun y hy => (World.ownsRow.lt hown2 y hy).1)
            have hown4 : w3.ownsRow w.heap.size 5 1 v' (2 + 1) (u8s (wideAt true x n 1)) := by
              rw [show wideAt true x n 1 = wideAt true x n 0 ++ [UInt8.ofNat (n / 16777216 % 256)] from rfl, u8s_app]
              have e : u8s [UInt8.ofNat (n / 16777216 % 256)] = [.int .u8 ((s.size : Int) / 16777216)] := by
                have := PB.u8_ofNat (n := n / 16777216 % 256) (by omega)
                simp only [u8s, List.map_cons, List.map_nil, this]
                rw [HNN.out]
                first | rfl | (congr 2; omega)
              rw [e]
              exact hown3
            go_roundw
            case rel => first | exact ⟨1, by omega, by go_num, hown4, hb3⟩ | ((repeat apply Exists.intro); refine ⟨?_, rfl⟩; exact ⟨1, by omega, by go_num, hown4, hb3⟩)
            case measure => simp [intOf]
          · obtain ⟨A9, c9, rfl, -, -⟩ := own_form hown
            have hown2 : wr.ownsRow w.heap.size 5 1 (.slice A9 3 c9) 3 (u8s (wideAt true x n 1)) := hown
            clear hown
            go_wp2_with (first
              | (at_builtin; refine wpList_append_own_at _ rfl (.tmp 50) (.tmp 57) 69 rfl w.heap.size 5 i0 _ 1 1 Tryd.underlying69 hi iz0 iz1 iz2 rfl (by decide) (.slice A9 3 c9) 3 _ rfl (hown2.alloc _) ⟨wr.heap.size, 0, none⟩ 1 1 [.int .u8 ((s.size : Int) / 65536)] rfl rfl (World.news_of_block (cs := #[.int .u8 ((s.size : Int) / 65536)]) (heap_alloc_new wr _)) (by simp [Value.oneCell']) (by unfold maxLen; omega) (by omega) (by simp; omega) ?_; intro v' w3 hown3 hgrow3 hnil3 hat3)
              | fail)
            have hb3 := (HBW.out.alloc hwr _).grown hgrow3 (by simp; omega) (fun y hy => (World.ownsRow.lt hown2 y hy).1)
            have hown4 : w3.ownsRow w.heap.size 5 1 v' (2 + 2) (u8s (wideAt true x n 2)) := by
              rw [show wideAt true x n 2 = wideAt true x n 1 ++ [UInt8.ofNat (n / 65536 % 256)] from rfl, u8s_app]
              have e : u8s [UInt8.ofNat (n / 65536 % 256)] = [.int .u8 ((s.size : Int) / 65536)] := by
                have := PB.u8_ofNat (n := n / 65536 % 256) (by omega)
                simp only [u8s, List.map_cons, List.map_nil, this]
                rw [HNN.out]
                first | rfl | (congr 2; omega)
              rw [e]
              exact hown3
            go_roundw
            case rel => first | exact ⟨2, by omega, by go_num, hown4, hb3⟩ | ((repeat apply Exists.intro); refine ⟨?_, rfl⟩; exact ⟨2, by omega, by go_num, hown4, hb3⟩)
            case measure => simp [intOf]
          · obtain ⟨A9, c9, rfl, -, -⟩ := own_form hown
            have hown2 : wr.ownsRow w.heap.size 5 1 (.slice A9 4 c9) 4 (u8s (wideAt true x n 2)) := hown
            clear hown
            go_wp2_with (first
              | (at_builtin; refine wpList_append_own_at _ rfl (.tmp 50) (.tmp 57) 69 rfl w.heap.size 5 i0 _ 1 1 Tryd.underlying69 hi iz0 iz1 iz2 rfl (by decide) (.slice A9 4 c9) 4 _ rfl (hown2.alloc _) ⟨wr.heap.size, 0, none⟩ 1 1 [.int .u8 ((s.size : Int) / 256)] rfl rfl (World.news_of_block (cs := #[.int .u8 ((s.size : Int) / 256)]) (heap_alloc_new wr _)) (by simp [Value.oneCell']) (by unfold maxLen; omega) (by omega) (by simp; omega) ?_; intro v' w3 hown3 hgrow3 hnil3 hat3)
              | fail)
            have hb3 := (HBW.out.alloc hwr _).grown hgrow3 (by simp; omega) (fun y hy => (World.ownsRow.lt hown2 y hy).1)
            have hown4 : w3.ownsRow w.heap.size 5 1 v' (2 + 3) (u8s (wideAt true x n 3)) := by
              rw [show wideAt true x n 3 = wideAt true x n 2 ++ [UInt8.ofNat (n / 256 % 256)] from rfl, u8s_app]
              have e : u8s [UInt8.ofNat (n / 256 % 256)] = [.int .u8 ((s.size : Int) / 256)] := by
                have := PB.u8_ofNat (n := n / 256 % 256) (by omega)
                simp only [u8s, List.map_cons, List.map_nil, this]
                rw [HNN.out]
                first | rfl | (congr 2; omega)
              rw [e]
              exact hown3
            go_roundw
            case rel => first | exact ⟨3, by omega, by go_num, hown4, hb3⟩ | ((repeat apply Exists.intro); refine ⟨?_, rfl⟩; exact ⟨3, by omega, by go_num, hown4, hb3⟩)
            case measure => simp [intOf]
          · obtain ⟨A9, c9, rfl, -, -⟩ := own_form hown
            have hown2 : wr.ownsRow w.heap.size 5 1 (.slice A9 5 c9) 5 (u8s (wideAt true x n 3)) := hown
            clear hown
            go_wp2_with (first
              | (at_builtin; refine wpList_append_own_at _ rfl (.tmp 50) (.tmp 57) 69 rfl w.heap.size 5 i0 _ 1 1 Tryd.underlying69 hi iz0 iz1 iz2 rfl (by decide) (.slice A9 5 c9) 5 _ rfl (hown2.alloc _) ⟨wr.heap.size, 0, none⟩ 1 1 [.int .u8 ((s.size : Int) % 256)] rfl rfl (World.news_of_block (cs := #[.int .u8 ((s.size : Int) % 256)]) (heap_alloc_new wr _)) (by simp [Value.oneCell']) (by unfold maxLen; omega) (by omega) (by simp; omega) ?_; intro v' w3 hown3 hgrow3 hnil3 hat3)
              | fail)
            have hb3 := (HBW.out.alloc hwr _).grown hgrow3 (by simp; omega) (fun y hy => (World.ownsRow.lt hown2 y hy).1)
            have hown4 : w3.ownsRow w.heap.size 5 1 v' (2 + 4) (u8s (wideAt true x n 4)) := by
              rw [show wideAt true x n 4 = wideAt true x n 3 ++ [UInt8.ofNat (n % 256)] from rfl, u8s_app]
              have e : u8s [UInt8.ofNat (n % 256)] = [.int .u8 ((s.size : Int) % 256)] := by
                have := PB.u8_ofNat (n := n % 256) (by omega)
                simp only [u8s, List.map_cons, List.map_nil, this]
                rw [HNN.out]
                first | rfl | (congr 2; omega)
              rw [e]
              exact hown3
            go_roundw
            case rel => first | exact ⟨4, by omega, by go_num, hown4, hb3⟩ | ((repeat apply Exists.intro); refine ⟨?_, rfl⟩; exact ⟨4, by omega, by go_num, hown4, hb3⟩)
            case measure => simp [intOf]
          · have hown2 : wr.ownsRow w.heap.size 5 1 _ 6 (u8s (wideAt true x n 4)) := hown
            obtain ⟨gq, c9, rfl, -, -⟩ := hown2.form (by omega)
            have hconv := conv_own (L := wideAt true x n 4) hown2
            have hzz : ¬ 9223372036854775807 < (⟨(wideAt true x n 4).toArray⟩ : ByteArray).size + s.size := by
              have : (⟨(wideAt true x n 4).toArray⟩ : ByteArray).size = 6 := rfl
              rw [this]; omega
            have HFIN := Lib.hid (show ((⟨(wideAt true x n 4).toArray⟩ : ByteArray) ++ s).data.toList = PB.wenc true (.mk c false g b ks) by
              rw [append_list, HS.out]
              have e1 : (⟨(wideAt true x n 4).toArray⟩ : ByteArray).data.toList = x :: PB.wideB true n := rfl
              have e2 : n = s.data.toList.length := HNN.out
              have hr := HR.out
              rw [if_neg (by decide)] at hr
              obtain rfl : ks = [] := by simpa using hr
              rw [HS.out] at e2
              unfold PB.wenc
              have e3 : PB.wencs true [] = [] := by unfold PB.wencs; rfl
              rw [e3, List.append_nil] at e2 ⊢
              have e4 : n = b.size := e2
              rw [if_neg (by decide), e1, e4, HXX.out, List.cons_append])
            clear hown hown2
            go_wp2_with fail
            go_ret
            exact ⟨HBW.out, _, rfl, HFIN.out⟩
    | true =>
      cases q with
      | false =>
        rw [show kOf false = 2 from rfl]
        go_wp2_with fail
        obtain ⟨x, hx⟩ : ∃ x : UInt8, x = UInt8.ofNat (c * 64 + g + 32).toNat := ⟨_, rfl⟩
        have hxv : (64 * c + g + 32 : Int) = (x.toNat : Int) := by rw [hx, PB.u8_ofNat (by omega)]; omega
        obtain ⟨n, hn⟩ : ∃ n : Nat, n = s.size := ⟨_, rfl⟩
        have hlit := World.ownsRow_lit (base := w.heap.size) (e := 5) (size := 1) wc #[.int .u8 (64 * c + g + 32), .int .u8 130] 2 hww (by unfold maxLen; omega) rfl
        have h0 : (#[.int .u8 (64 * c + g + 32), .int .u8 130] : Array Value).toList = u8s (wideAt false x n 0) := by
          rw [hxv]; rfl
        rw [h0] at hlit
        have HLIT := Lib.hid hlit
        have HB8 := Lib.hid (HBX.out.alloc hww (.cells #[.int .u8 (64 * c + g + 32), .int .u8 130] 5))
        have HXX := Lib.hid hx
        have HNN := Lib.hid hn
        have HXV := Lib.hid hxv
        clear hlit h0 hx hxv hn
        go_loopw [8, 9] (fun v i wr => ∃ (j : Nat), j ≤ 2 ∧ i = .int .i64 (1 - (j : Int)) ∧ wr.ownsRow w.heap.size 5 1 v (2 + j) (u8s (wideAt false x n j)) ∧ Below w.heap.size w wr) (fun _ i _ => (intOf i + 1).toNat)
        case atStart => exact ⟨0, by omega, by go_num, HLIT.out, HB8.out⟩
        case round =>
          clear HLIT HB8 e0 e1 e2 elt
          obtain ⟨j, hj, rfl, hown, hbw⟩ := hrel
          have HBW := Lib.hid hbw
          have hwr := hbw.size
          clear hbw
          rcases (show j = 0 ∨ j = 1 ∨ j = 2 by omega) with rfl | rfl | rfl
          · obtain ⟨A9, c9, rfl, -, -⟩ := own_form hown
            have hown2 : wr.ownsRow w.heap.size 5 1 (.slice A9 2 c9) 2 (u8s (wideAt false x n 0)) := hown
            clear hown
            go_wp2_with (first
              | (at_builtin; refine wpList_append_own_at _ rfl (.tmp 50) (.tmp 57) 69 rfl w.heap.size 5 i0 _ 1 1 Tryd.underlying69 hi iz0 iz1 iz2 rfl (by decide) (.slice A9 2 c9) 2 _ rfl (hown2.alloc _) ⟨wr.heap.size, 0, none⟩ 1 1 [.int .u8 ((s.size : Int) / 256)] rfl rfl (World.news_of_block (cs := #[.int .u8 ((s.size : Int) / 256)]) (heap_alloc_new wr _)) (by simp [Value.oneCell']) (by unfold maxLen; omega) (by omega) (by simp; omega) ?_; intro v' w3 hown3 hgrow3 hnil3 hat3)
              | fail)
            have hb3 := (HBW.out.alloc hwr _).grown hgrow3 (by simp; omega) (fun y hy => (World.ownsRow.lt hown2 y hy).1)
            have hown4 : w3.ownsRow w.heap.size 5 1 v' (2 + 1) (u8s (wideAt false x n 1)) := by
              rw [show wideAt false x n 1 = wideAt false x n 0 ++ [UInt8.ofNat (n / 256 % 256)] from rfl, u8s_app]
              have e : u8s [UInt8.ofNat (n / 256 % 256)] = [.int .u8 ((s.size : Int) / 256)] := by
                have := PB.u8_ofNat (n := n / 256 % 256) (by omega)
                simp only [u8s, List.map_cons, List.map_nil, this]
                rw [HNN.out]
                first | rfl | (congr 2; omega)
              rw [e]
              exact hown3
            go_roundw
            case rel => first | exact ⟨1, by omega, by go_num, hown4, hb3⟩ | ((repeat apply Exists.intro); refine ⟨?_, rfl⟩; exact ⟨1, by omega, by go_num, hown4, hb3⟩)
            case measure => simp [intOf]
          · obtain ⟨A9, c9, rfl, -, -⟩ := own_form hown
            have hown2 : wr.ownsRow w.heap.size 5 1 (.slice A9 3 c9) 3 (u8s (wideAt false x n 1)) := hown
            clear hown
            go_wp2_with (first
              | (at_builtin; refine wpList_append_own_at _ rfl (.tmp 50) (.tmp 57) 69 rfl w.heap.size 5 i0 _ 1 1 Tryd.underlying69 hi iz0 iz1 iz2 rfl (by decide) (.slice A9 3 c9) 3 _ rfl (hown2.alloc _) ⟨wr.heap.size, 0, none⟩ 1 1 [.int .u8 ((s.size : Int) % 256)] rfl rfl (World.news_of_block (cs := #[.int .u8 ((s.size : Int) % 256)]) (heap_alloc_new wr _)) (by simp [Value.oneCell']) (by unfold maxLen; omega) (by omega) (by simp; omega) ?_; intro v' w3 hown3 hgrow3 hnil3 hat3)
              | fail)
            have hb3 := (HBW.out.alloc hwr _).grown hgrow3 (by simp; omega) (fun y hy => (World.ownsRow.lt hown2 y hy).1)
            have hown4 : w3.ownsRow w.heap.size 5 1 v' (2 + 2) (u8s (wideAt false x n 2)) := by
              rw [show wideAt false x n 2 = wideAt false x n 1 ++ [UInt8.ofNat (n % 256)] from rfl, u8s_app]
              have e : u8s [UInt8.ofNat (n % 256)] = [.int .u8 ((s.size : Int) % 256)] := by
                have := PB.u8_ofNat (n := n % 256) (by omega)
                simp only [u8s, List.map_cons, List.map_nil, this]
                rw [HNN.out]
                first | rfl | (congr 2; omega)
              rw [e]
              exact hown3
            go_roundw
            case rel => first | exact ⟨2, by omega, by go_num, hown4, hb3⟩ | ((repeat apply Exists.intro); refine ⟨?_, rfl⟩; exact ⟨2, by omega, by go_num, hown4, hb3⟩)
            case measure => simp [intOf]
          · have hown2 : wr.ownsRow w.heap.size 5 1 _ 4 (u8s (wideAt false x n 2)) := hown
            obtain ⟨gq, c9, rfl, -, -⟩ := hown2.form (by omega)
            have hconv := conv_own (L := wideAt false x n 2) hown2
            have hzz : ¬ 9223372036854775807 < (⟨(wideAt false x n 2).toArray⟩ : ByteArray).size + s.size := by
              have : (⟨(wideAt false x n 2).toArray⟩ : ByteArray).size = 4 := rfl
              rw [this]; omega
            have HFIN := Lib.hid (show ((⟨(wideAt false x n 2).toArray⟩ : ByteArray) ++ s).data.toList = PB.wenc false (.mk c true g b ks) by
              rw [append_list, HS.out]
              have e1 : (⟨(wideAt false x n 2).toArray⟩ : ByteArray).data.toList = x :: PB.wideB false n := rfl
              have e2 : n = s.data.toList.length := HNN.out
              have hr := HR.out
              simp only [if_true, Bool.and_eq_true] at hr
              have h1 : b.toList = [] := by simpa using hr.2
              rw [ByteArray.toList_eq] at h1
              rw [HS.out, h1, List.nil_append] at e2
              unfold PB.wenc
              rw [if_pos rfl, e1, h1, List.nil_append, e2, HXX.out, List.cons_append])
            clear hown hown2
            go_wp2_with fail
            go_ret
            exact ⟨HBW.out, _, rfl, HFIN.out⟩
      | true =>
        rw [show kOf true = 4 from rfl]
        go_wp2_with fail
        obtain ⟨x, hx⟩ : ∃ x : UInt8, x = UInt8.ofNat (c * 64 + g + 32).toNat := ⟨_, rfl⟩
        have hxv : (64 * c + g + 32 : Int) = (x.toNat : Int) := by rw [hx, PB.u8_ofNat (by omega)]; omega
        obtain ⟨n, hn⟩ : ∃ n : Nat, n = s.size := ⟨_, rfl⟩
        have hlit := World.ownsRow_lit (base := w.heap.size) (e := 5) (size := 1) wc #[.int .u8 (64 * c + g + 32), .int .u8 132] 2 hww (by unfold maxLen; omega) rfl
        have h0 : (#[.int .u8 (64 * c + g + 32), .int .u8 132] : Array Value).toList = u8s (wideAt true x n 0) := by
          rw [hxv]; rfl
        rw [h0] at hlit
        have HLIT := Lib.hid hlit
        have HB8 := Lib.hid (HBX.out.alloc hww (.cells #[.int .u8 (64 * c + g + 32), .int .u8 132] 5))
        have HXX := Lib.hid hx
        have HNN := Lib.hid hn
        have HXV := Lib.hid hxv
        clear hlit h0 hx hxv hn
        go_loopw [8, 9] (fun v i wr => ∃ (j : Nat), j ≤ 4 ∧ i = .int .i64 (3 - (j : Int)) ∧ wr.ownsRow w.heap.size 5 1 v (2 + j) (u8s (wideAt true x n j)) ∧ Below w.heap.size w wr) (fun _ i _ => (intOf i + 1).toNat)
        case atStart => exact ⟨0, by omega, by go_num, HLIT.out, HB8.out⟩
        case round =>
          clear HLIT HB8 e0 e1 e2 elt
          obtain ⟨j, hj, rfl, hown, hbw⟩ := hrel
          have HBW := Lib.hid hbw
          have hwr := hbw.size
          clear hbw
          rcases (show j = 0 ∨ j = 1 ∨ j = 2 ∨ j = 3 ∨ j = 4 by omega) with rfl | rfl | rfl | rfl | rfl
          · obtain ⟨A9, c9, rfl, -, -⟩ := own_form hown
            have hown2 : wr.ownsRow w.heap.size 5 1 (.slice A9 2 c9) 2 (u8s (wideAt true x n 0)) := hown
            clear hown
            go_wp2_with (first
              | (at_builtin; refine wpList_append_own_at _ rfl (.tmp 50) (.tmp 57) 69 rfl w.heap.size 5 i0 _ 1 1 Tryd.underlying69 hi iz0 iz1 iz2 rfl (by decide) (.slice A9 2 c9) 2 _ rfl (hown2.alloc _) ⟨wr.heap.size, 0, none⟩ 1 1 [.int .u8 ((s.size : Int) / 16777216)] rfl rfl (World.news_of_block (cs := #[.int .u8 ((s.size : Int) / 16777216)]) (heap_alloc_new wr _)) (by simp [Value.oneCell']) (by unfold maxLen; omega) (by omega) (by simp; omega) ?_; intro v' w3 hown3 hgrow3 hnil3 hat3)
              | fail)
            have hb3 := (HBW.out.alloc hwr _).grown hgrow3 (by simp; omega) (fun y hy => (World.ownsRow.lt hown2 y hy).1)
            have hown4 : w3.ownsRow w.heap.size 5 1 v' (2 + 1) (u8s (wideAt true x n 1)) := by
              rw [show wideAt true x n 1 = wideAt true x n 0 ++ [UInt8.ofNat (n / 16777216 % 256)] from rfl, u8s_app]
              have e : u8s [UInt8.ofNat (n / 16777216 % 256)] = [.int .u8 ((s.size : Int) / 16777216)] := by
                have := PB.u8_ofNat (n := n / 16777216 % 256) (by omega)
                simp only [u8s, List.map_cons, List.map_nil, this]
                rw [HNN.out]
                first | rfl | (congr 2; omega)
              rw [e]
              exact hown3
            go_roundw
            case rel => first | exact ⟨1, by omega, by go_num, hown4, hb3⟩ | ((repeat apply Exists.intro); refine ⟨?_, rfl⟩; exact ⟨1, by omega, by go_num, hown4, hb3⟩)
            case measure => simp [intOf]
          · obtain ⟨A9, c9, rfl, -, -⟩ := own_form hown
            have hown2 : wr.ownsRow w.heap.size 5 1 (.slice A9 3 c9) 3 (u8s (wideAt true x n 1)) := hown
            clear hown
            go_wp2_with (first
              | (at_builtin; refine wpList_append_own_at _ rfl (.tmp 50) (.tmp 57) 69 rfl w.heap.size 5 i0 _ 1 1 Tryd.underlying69 hi iz0 iz1 iz2 rfl (by decide) (.slice A9 3 c9) 3 _ rfl (hown2.alloc _) ⟨wr.heap.size, 0, none⟩ 1 1 [.int .u8 ((s.size : Int) / 65536)] rfl rfl (World.news_of_block (cs := #[.int .u8 ((s.size : Int) / 65536)]) (heap_alloc_new wr _)) (by simp [Value.oneCell']) (by unfold maxLen; omega) (by omega) (by simp; omega) ?_; intro v' w3 hown3 hgrow3 hnil3 hat3)
              | fail)
            have hb3 := (HBW.out.alloc hwr _).grown hgrow3 (by simp; omega) (fun y hy => (World.ownsRow.lt hown2 y hy).1)
            have hown4 : w3.ownsRow w.heap.size 5 1 v' (2 + 2) (u8s (wideAt true x n 2)) := by
              rw [show wideAt true x n 2 = wideAt true x n 1 ++ [UInt8.ofNat (n / 65536 % 256)] from rfl, u8s_app]
              have e : u8s [UInt8.ofNat (n / 65536 % 256)] = [.int .u8 ((s.size : Int) / 65536)] := by
                have := PB.u8_ofNat (n := n / 65536 % 256) (by omega)
                simp only [u8s, List.map_cons, List.map_nil, this]
                rw [HNN.out]
                first | rfl | (congr 2; omega)
              rw [e]
              exact hown3
            go_roundw
            case rel => first | exact ⟨2, by omega, by go_num, hown4, hb3⟩ | ((repeat apply Exists.intro); refine ⟨?_, rfl⟩; exact ⟨2, by omega, by go_num, hown4, hb3⟩)
            case measure => simp [intOf]
          · obtain ⟨A9, c9, rfl, -, -⟩ := own_form hown
            have hown2 : wr.ownsRow w.heap.size 5 1 (.slice A9 4 c9) 4 (u8s (wideAt true x n 2)) := hown
            clear hown
            go_wp2_with (first
              | (at_builtin; refine wpList_append_own_at _ rfl (.tmp 50) (.tmp 57) 69 rfl w.heap.size 5 i0 _ 1 1 Tryd.underlying69 hi iz0 iz1 iz2 rfl (by decide) (.slice A9 4 c9) 4 _ rfl (hown2.alloc _) ⟨wr.heap.size, 0, none⟩ 1 1 [.int .u8 ((s.size : Int) / 256)] rfl rfl (World.news_of_block (cs := #[.int .u8 ((s.size : Int) / 256)]) (heap_alloc_new wr _)) (by simp [Value.oneCell']) (by unfold maxLen; omega) (by omega) (by simp; omega) ?_; intro v' w3 hown3 hgrow3 hnil3 hat3)
              | fail)
            have hb3 := (HBW.out.alloc hwr _).grown hgrow3 (by simp; omega) (fun y hy => (World.ownsRow.lt hown2 y hy).1)
            have hown4 : w3.ownsRow w.heap.size 5 1 v' (2 + 3) (u8s (wideAt true x n 3)) := by
              rw [show wideAt true x n 3 = wideAt true x n 2 ++ [UInt8.ofNat (n / 256 % 256)] from rfl, u8s_app]
              have e : u8s [UInt8.ofNat (n / 256 % 256)] = [.int .u8 ((s.size : Int) / 256)] := by
                have := PB.u8_ofNat (n := n / 256 % 256) (by omega)
                simp only [u8s, List.map_cons, List.map_nil, this]
                rw [HNN.out]
                first | rfl | (congr 2; omega)
              rw [e]
              exact hown3
            go_roundw
            case rel => first | exact ⟨3, by omega, by go_num, hown4, hb3⟩ | ((repeat apply Exists.intro); refine ⟨?_, rfl⟩; exact ⟨3, by omega, by go_num, hown4, hb3⟩)
            case measure => simp [intOf]
          · obtain ⟨A9, c9, rfl, -, -⟩ := own_form hown
            have hown2 : wr.ownsRow w.heap.size 5 1 (.slice A9 5 c9) 5 (u8s (wideAt true x n 3)) := hown
            clear hown
            go_wp2_with (first
              | (at_builtin; refine wpList_append_own_at _ rfl (.tmp 50) (.tmp 57) 69 rfl w.heap.size 5 i0 _ 1 1 Tryd.underlying69 hi iz0 iz1 iz2 rfl (by decide) (.slice A9 5 c9) 5 _ rfl (hown2.alloc _) ⟨wr.heap.size, 0, none⟩ 1 1 [.int .u8 ((s.size : Int) % 256)] rfl rfl (World.news_of_block (cs := #[.int .u8 ((s.size : Int) % 256)]) (heap_alloc_new wr _)) (by simp [Value.oneCell']) (by unfold maxLen; omega) (by omega) (by simp; omega) ?_; intro v' w3 hown3 hgrow3 hnil3 hat3)
              | fail)
            have hb3 := (HBW.out.alloc hwr _).grown hgrow3 (by simp; omega) (fun y hy => (World.ownsRow.lt hown2 y hy).1)
            have hown4 : w3.ownsRow w.heap.size 5 1 v' (2 + 4) (u8s (wideAt true x n 4)) := by
              rw [show wideAt true x n 4 = wideAt true x n 3 ++ [UInt8.ofNat (n % 256)] from rfl, u8s_app]
              have e : u8s [UInt8.ofNat (n % 256)] = [.int .u8 ((s.size : Int) % 256)] := by
                have := PB.u8_ofNat (n := n % 256) (by omega)
                simp only [u8s, List.map_cons, List.map_nil, this]
                rw [HNN.out]
                first | rfl | (congr 2; omega)
              rw [e]
              exact hown3
            go_roundw
            case rel => first | exact ⟨4, by omega, by go_num, hown4, hb3⟩ | ((repeat apply Exists.intro); refine ⟨?_, rfl⟩; exact ⟨4, by omega, by go_num, hown4, hb3⟩)
            case measure => simp [intOf]
          · have hown2 : wr.ownsRow w.heap.size 5 1 _ 6 (u8s (wideAt true x n 4)) := hown
            obtain ⟨gq, c9, rfl, -, -⟩ := hown2.form (by omega)
            have hconv := conv_own (L := wideAt true x n 4) hown2
            have hzz : ¬ 9223372036854775807 < (⟨(wideAt true x n 4).toArray⟩ : ByteArray).size + s.size := by
              have : (⟨(wideAt true x n 4).toArray⟩ : ByteArray).size = 6 := rfl
              rw [this]; omega
            have HFIN := Lib.hid (show ((⟨(wideAt true x n 4).toArray⟩ : ByteArray) ++ s).data.toList = PB.wenc true (.mk c true g b ks) by
              rw [append_list, HS.out]
              have e1 : (⟨(wideAt true x n 4).toArray⟩ : ByteArray).data.toList = x :: PB.wideB true n := rfl
              have e2 : n = s.data.toList.length := HNN.out
              have hr := HR.out
              simp only [if_true, Bool.and_eq_true] at hr
              have h1 : b.toList = [] := by simpa using hr.2
              rw [ByteArray.toList_eq] at h1
              rw [HS.out, h1, List.nil_append] at e2
              unfold PB.wenc
              rw [if_pos rfl, e1, h1, List.nil_append, e2, HXX.out, List.cons_append])
            clear hown hown2
            go_wp2_with fail
            go_ret
            exact ⟨HBW.out, _, rfl, HFIN.out⟩
mutual
theorem wide_any (q : Bool) : ∀ (t : Tl) (cs : Array Value) (S : Nat → Prop) (d : Nat) (w : World), TlAt w S t cs → t.right d = true → (PB.enc t).length ≤ 8192 → Calls Tryd.prog 10 #[.agg cs, .int .i64 (kOf q)] w (WidePost (PB.wenc q t) w)
  | .mk c k g b ks, cs, S, d, w, h, hr, hl => wide_one q _ cs S d w h hr hl fun c2 k2 g2 b2 ks2 e y hy cs w hat => by
    have h7 : ks = ks2 := by injection e
    subst h7
    unfold Tl.right at hr
    by_cases hbad : 16 < d ∨ c < 0 ∨ 3 < c ∨ g < 0 ∨ 30 < g
    · rw [if_pos hbad] at hr; cases hr
    rw [if_neg hbad] at hr
    cases k with
    | false =>
      rw [if_neg (by decide)] at hr
      obtain rfl : ks = [] := by simpa using hr
      cases hy
    | true =>
      rw [if_pos rfl] at hr
      simp only [Bool.and_eq_true] at hr
      have hle : (PB.encs ks).length ≤ 8192 := by
        unfold PB.enc at hl
        rw [if_pos rfl] at hl
        simp only [List.length_cons, List.length_append] at hl
        omega
      exact wides_any q ks (d + 1) hr.1 hle y hy cs S w hat
theorem wides_any (q : Bool) : ∀ (ks : List Tl) (d : Nat), Tl.rights ks d = true → (PB.encs ks).length ≤ 8192 → ∀ y ∈ ks, ∀ (cs : Array Value) (S : Nat → Prop) (w : World), TlAt w S y cs → Calls Tryd.prog 10 #[.agg cs, .int .i64 (kOf q)] w (WidePost (PB.wenc q y) w)
  | [], _, _, _, y, hy, _, _, _, _ => by cases hy
  | k :: ks, d, hr, hl, y, hy, cs, S, w, h => by
    unfold Tl.rights at hr
    simp only [Bool.and_eq_true] at hr
    unfold PB.encs at hl
    rw [List.length_append] at hl
    have h1 := wide_any q k
    have h2 := wides_any q ks d hr.2 (by omega)
    rcases List.mem_cons.1 hy with rfl | hy
    · exact h1 cs S d w h hr.1 (by omega)
    · exact h2 y hy cs S w h
end
end Go.Proofs.YtbiglfpikfjbpaaDoor

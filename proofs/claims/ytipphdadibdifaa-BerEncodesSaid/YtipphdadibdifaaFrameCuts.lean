/- rollbooklaw27.FrameCuts returns true for every string and every list of places: however a stream is cut into pieces, the same values are told. No condition. -/
import Derived.Test.YtipphdadibdifaaFrameFeeds
import Derived.Test.YtipphdadibdifaaPlainCuts
import Derived.Test.YtipphdadibdifaaAppend
import Derived.Deep.DeepCutAuto
namespace Go.Proofs.Ytipphdadibdifaa
open Go.RowKit
open Go.PlainAid

/-- The error of a stream that is broken, or not. -/
def errOf (x : Bool) : Int := if x then 4 else 0

/-- What Cut tells of a whole stream. -/
def CutPost (w : World) (L : List UInt8) (e : Ending) (w' : World) : Prop :=
  ∃ (A : Option Addr) (c : Nat) (st : List ByteArray) (r : ByteArray) (x : Bool), e = .returned (.tuple #[.slice A st.length c, .int .i64 r.size, .int .i64 (errOf x)]) ∧
    Sl w' A (st.map Value.string) ∧ (∀ a, A = some a → w.heap.size ≤ a.block ∧ a.block < w'.heap.size) ∧ PB.byByte [] L = (st.map (·.data.toList), r.data.toList, x) ∧ Below w.heap.size w w'

set_option maxRecDepth 100000 in
theorem cut_any (s : ByteArray) (w : World) (hs : s.size ≤ 1000000) : Calls Try.prog 17 #[.string s] w (CutPost w s.data.toList) := by
  go_enter Try.func17, Try.ntmps17
  go_wp2_with fail
  refine (new_any _).mono ?_
  rintro e w1 ⟨rfl, rfl⟩
  have hb1 := Bk.new w 63 #[.string ByteArray.empty, .bool false]
  have hbel1 := (Below.refl w.heap.size w).alloc (Nat.le_refl _) (.cells #[.string ByteArray.empty, .bool false] 63)
  have hsz1 := hbel1.size
  generalize w.alloc (.cells #[.string ByteArray.empty, .bool false] 63) = w1 at *
  go_wp2_with fail
  refine (feed_any _ _ _ _ (by simpa using hs) hb1).mono ?_
  rintro e w2 ⟨v, st, r, rfl, hown, hst, hr, hbk, hoff⟩
  rw [← PB.byByte_cut s.data.toList ByteArray.empty.data.toList (Or.inl rfl)] at hst hr hbk ⊢
  obtain ⟨A, c, hv, -, -, -, hsl, hA⟩ := own_slice hown
  obtain ⟨x, hx⟩ : ∃ x, x = (PB.byByte ByteArray.empty.data.toList s.data.toList).2.2 := ⟨_, rfl⟩
  have hfin : PB.byByte [] s.data.toList = (st.map (·.data.toList), r.data.toList, x) := by rw [hst, hr, hx]; rfl
  rw [← hx] at hbk ⊢
  rw [hv]
  have hbel2 : Below w.heap.size w w2 := hbel1.trans (hoff.below hsz1 (by simp))
  have hlt : ∀ a, A = some a → w.heap.size ≤ a.block ∧ a.block < w2.heap.size := fun a ha => by
    obtain ⟨h1, h2⟩ := hA a ha
    exact ⟨Nat.le_trans hsz1 h1, (hown.lt _ h2).2⟩
  clear hv hown hst hr hx hoff hA hb1 hbel1
  have HR := Lib.hid (rest_any _ _ _ _ hbk)
  have HF := Lib.hid hfin
  clear hbk hfin
  cases x with
  | true =>
    rw [show (if (true : Bool) = true then (4 : Int) else 0) = 4 from rfl]
    go_wp2_with (go_at_call 15; refine HR.out.mono ?_; rintro e w' ⟨rfl, rfl⟩)
    go_ret3
    exact ⟨A, c, st, r, true, rfl, hsl, hlt, HF.out, hbel2⟩
  | false =>
    rw [show (if (false : Bool) = true then (4 : Int) else 0) = 0 from rfl]
    go_wp2_with (go_at_call 15; refine HR.out.mono ?_; rintro e w' ⟨rfl, rfl⟩)
    go_ret3
    exact ⟨A, c, st, r, false, rfl, hsl, hlt, HF.out, hbel2⟩

/-- Where the law's loop stands: 'got' was told of a beginning of s, 'left' is to come. -/
def CutsAt (w2 : World) (f : Nat) (s : ByteArray) (got : List ByteArray) (left rest : ByteArray) (x : Bool) (g : Value) (wr : World) : Prop :=
  (∃ p, s.data.toList = p ++ left.data.toList ∧ PB.byByte [] p = (got.map (·.data.toList), rest.data.toList, x)) ∧ PB.Pend rest.data.toList ∧ got.length ≤ s.size ∧ left.size ≤ s.size ∧
    Bk wr f 63 #[.string rest, .bool x] ∧ wr.ownsRow w2.heap.size 9 1 g got.length (got.map Value.string) ∧ Below w2.heap.size w2 wr

theorem cutsAt_start (s : ByteArray) (w2 : World) : CutsAt w2 w2.heap.size s [] s ByteArray.empty false (.slice (some ⟨w2.heap.size + 1, 0, none⟩) 0 0)
    ((w2.alloc (.cells #[.string ByteArray.empty, .bool false] 63)).alloc (.cells #[] 9)) := by
  refine ⟨⟨[], by simp, by simp [PB.byByte]⟩, Or.inl rfl, by simp, Nat.le_refl _, (Bk.new w2 _ _).alloc _, ?_, ((Below.refl _ _).alloc (Nat.le_refl _) _).alloc (by simp) _⟩
  have h := World.ownsRow_made (w2.alloc (.cells #[.string ByteArray.empty, .bool false] 63)) (base := w2.heap.size) (e := 9) (size := 1) #[] 0 (by simp) (Nat.zero_le _) rfl
  simpa using h

theorem mod_fits (z : Int) (n : Nat) (hn : n ≤ 20000) : ∃ q : Nat, q ≤ n ∧ wrap64 ((IntKind.u64.wrap z).tmod ((n : Int) + 1)) = q := by
  have h0 : 0 ≤ IntKind.u64.wrap z := by rw [IntKind.wrap_u64]; omega
  rw [Int.tmod_eq_emod_of_nonneg h0]
  have h1 := Int.emod_nonneg (IntKind.u64.wrap z) (show ((n : Int) + 1) ≠ 0 by omega)
  have h2 := Int.emod_lt_of_pos (IntKind.u64.wrap z) (show 0 < ((n : Int) + 1) by omega)
  generalize (IntKind.u64.wrap z) % ((n : Int) + 1) = y at *
  refine ⟨y.toNat, by omega, ?_⟩
  rw [IntWalk.wrap64_in y ⟨by omega, by omega⟩]
  omega

theorem left_split (left : ByteArray) (q : Nat) (hq : q ≤ left.size) : left.data.toList = (left.extract 0 q).data.toList ++ (left.extract q left.size).data.toList ∧ (left.extract 0 q).size = q ∧ (left.extract q left.size).size = left.size - q := by
  have e2 : (left.extract q left.size).data.toList = left.data.toList.drop q := by
    rw [extract_list, List.take_of_length_le (by rw [List.length_drop, len_size]; omega)]
  have e1 : (left.extract 0 q).data.toList = left.data.toList.take q := by rw [extract_list]; simp
  refine ⟨by rw [e1, e2, List.take_append_drop], ?_, ?_⟩
  · rw [← len_size, e1, List.length_take, len_size]; omega
  · rw [← len_size, e2, List.length_drop, len_size]

theorem cuts_feed {w2 wr w4 : World} {f : Nat} {s : ByteArray} {got : List ByteArray} {left rest piece : ByteArray} {g : Value} {e : Ending} (h : CutsAt w2 f s got left rest false g wr) (hf : w2.heap.size ≤ f) (hp : FeedPost wr f (rest.data.toList ++ piece.data.toList) e w4) :
    ∃ (A3 : Option Addr) (c3 : Nat) (st : List ByteArray) (rest' : ByteArray) (x' : Bool), e = .returned (.tuple #[.slice A3 st.length c3, .int .i64 (errOf x')]) ∧ Sl w4 A3 (st.map Value.string) ∧ st.length ≤ piece.size ∧ w4.ownsRow w2.heap.size 9 1 g got.length (got.map Value.string) ∧
      Bk w4 f 63 #[.string rest', .bool x'] ∧ Below w2.heap.size w2 w4 ∧ PB.byByte rest.data.toList piece.data.toList = (st.map (·.data.toList), rest'.data.toList, x') := by
  obtain ⟨_, hpd, _, _, h1, h2, h3⟩ := h
  obtain ⟨v, st, r, rfl, hown, hst, hr, hbk, hoff⟩ := hp
  rw [← PB.byByte_cut piece.data.toList rest.data.toList hpd] at hst hr hbk ⊢
  obtain ⟨A, c, hv, -, -, -, hsl, hA⟩ := own_slice hown
  subst hv
  have hfew := byByte_few piece.data.toList rest.data.toList
  refine ⟨A, c, st, r, (PB.byByte rest.data.toList piece.data.toList).2.2, rfl, hsl, ?_, hoff.own h2 (fun k hk hin => ?_), hbk, h3.trans (hoff.below h3.size (by simpa using hf)), ?_⟩
  · rw [← hst, List.length_map, len_size] at hfew
    exact hfew
  · have : k = f := by simpa using hin
    subst this
    exact own_ne h2 h1 (by decide) hk
  · rw [hst, hr]

theorem cuts_next {w2 wr w4 w5 : World} {f q : Nat} {s : ByteArray} {got st : List ByteArray} {left rest rest' : ByteArray} {x' : Bool} {g g' : Value} (h : CutsAt w2 f s got left rest false g wr) (hq : q ≤ left.size)
    (hg : w4.ownsRow w2.heap.size 9 1 g got.length (got.map Value.string)) (hbk : Bk w4 f 63 #[.string rest', .bool x']) (hbel : Below w2.heap.size w2 w4)
    (hby : PB.byByte rest.data.toList (left.extract 0 q).data.toList = (st.map (·.data.toList), rest'.data.toList, x'))
    (hown : w5.ownsRow w2.heap.size 9 1 g' (got.length + st.length) (got.map Value.string ++ st.map Value.string)) (hgr : w4.grownBy w5 g.ownBlock) :
    CutsAt w2 f s (got ++ st) (left.extract q left.size) rest' x' g' w5 := by
  obtain ⟨⟨p, hp1, hp2⟩, hpd, _, hls, _⟩ := h
  obtain ⟨hs1, hs2, hs3⟩ := left_split left q hq
  have hmore := PB.byByte_more p [] (left.extract 0 q).data.toList (by rw [hp2])
  rw [hp2] at hmore
  dsimp only at hmore
  rw [hby] at hmore
  have hfew := byByte_few (p ++ (left.extract 0 q).data.toList) []
  rw [hmore] at hfew
  have hlen : s.size = p.length + left.size := by rw [← len_size, hp1, List.length_append, len_size]
  have hpn := PB.byByte_pend (left.extract 0 q).data.toList rest.data.toList hpd
  rw [hby] at hpn
  have hoff : Off g.ownBlock.toList w4 w5 := (Off.refl _ _).grown hgr (fun k hk => Or.inl (by simp [hk]))
  refine ⟨⟨p ++ (left.extract 0 q).data.toList, by rw [hp1, hs1, List.append_assoc], by rw [hmore, List.map_append]⟩, hpn, ?_, by omega, hoff.bk hbk (fun hin => own_ne hg hbk (by decide) (by simpa using hin)), by rw [List.length_append, List.map_append]; exact hown,
    hbel.trans (hoff.below hbel.size (fun k hk => (hg.lt k (by simpa using hk)).1))⟩
  simp only [List.length_append, List.length_map, len_size, hs2] at hfew ⊢
  omega

theorem cuts_over {w2 wr : World} {f q : Nat} {s : ByteArray} {got : List ByteArray} {left rest : ByteArray} {g : Value} (h : CutsAt w2 f s got left rest true g wr) (hq : q ≤ left.size) :
    CutsAt w2 f s got (left.extract q left.size) rest true g wr := by
  obtain ⟨⟨p, hp1, hp2⟩, hpd, h3, hls, hr⟩ := h
  obtain ⟨hs1, hs2, hs3⟩ := left_split left q hq
  have hstop := PB.byByte_stop p [] (left.extract 0 q).data.toList (by rw [hp2])
  exact ⟨⟨p ++ (left.extract 0 q).data.toList, by rw [hp1, hs1, List.append_assoc], by rw [hstop, hp2]⟩, hpd, h3, by omega, hr⟩

theorem cuts_end {w2 wr : World} {f : Nat} {s : ByteArray} {got want : List ByteArray} {left rest r2 : ByteArray} {x x2 : Bool} {g : Value} (h : CutsAt w2 f s got left rest x g wr) (h0 : left.size = 0)
    (hw : PB.byByte [] s.data.toList = (want.map (·.data.toList), r2.data.toList, x2)) : got = want ∧ rest = r2 ∧ x = x2 := by
  obtain ⟨⟨p, hp1, hp2⟩, _⟩ := h
  have hl : left.data.toList = [] := List.eq_nil_of_length_eq_zero (by rw [len_size]; exact h0)
  rw [hl, List.append_nil] at hp1
  rw [hp1, hp2] at hw
  simp only [Prod.mk.injEq] at hw
  refine ⟨lists_inj _ _ hw.1, ?_, hw.2.2⟩
  rw [str_of_list hw.2.1]

set_option maxRecDepth 100000 in
set_option maxHeartbeats 1000000 in
theorem frameCuts_walk (s : ByteArray) (A : Option Addr) (cap : Nat) (zs : List Int) (w : World) (hs : s.size ≤ maxLen) (hlen : zs.length ≤ maxLen) (hz : ∀ n ∈ zs, (Lit.int .i64 n).wf = true) (hA : Sl w A (zs.map (Value.int .i64))) :
    Calls Try.prog 5 #[.string s, .slice A zs.length cap] w (Holds w) := by
  unfold maxLen at hlen hs
  have h1 := Lib.hid (awake27 w)
  obtain ⟨i0, hi, hz0, hz1, hz2⟩ := info_parts info_string
  have HA := Lib.hid hA
  have HZ := Lib.hid hz
  clear hA hz
  by_cases h20 : s.size ≤ 20000
  · have t0 : decide ((20000 : Int) < s.size) = false := by simp; omega
    have HC := Lib.hid fun W : World => cut_any s W (by omega)
    go_enter Try.func5, Try.ntmps5
    go_wp2_with (first
      | (go_at_call 10; refine h1.out.mono ?_; rintro e w1 ⟨rfl, hb1⟩)
      | (go_at_call 17; refine (HC.out _).mono ?_; rintro e w2 ⟨A2, c2, want, rw2, x2, rfl, hsl2, hA2, hby2, hb2⟩)
      | (go_at_call 11; refine (new_any _).mono ?_; rintro e w3 ⟨rfl, rfl⟩))
    have hat0 := cutsAt_start s w2
    have hb12 : Below w.heap.size w w2 := hb1.trans (hb2.mono hb1.size)
    have HA2 := Lib.hid hA2
    have HS2 := Lib.hid hsl2
    have HY2 := Lib.hid hby2
    have hws := hb12.size
    clear hA2 hsl2 hby2 hb1 hb2
    go_loopw [9, 10, 11, 12] (fun g lf er i wr => ∃ (k : Nat) (got : List ByteArray) (left rest : ByteArray) (x : Bool), i = .int .i64 k ∧ lf = .string left ∧ er = .int .i64 (errOf x) ∧ k ≤ min zs.length 30 + 1 ∧ (min zs.length 30 < k → left.size = 0) ∧ CutsAt w2 w2.heap.size s got left rest x g wr) (fun _ _ _ i _ => 31 - (intOf i).toNat)
    case atStart => exact ⟨0, [], s, ByteArray.empty, false, rfl, rfl, rfl, by omega, by omega, hat0⟩
    case round =>
      clear hat0
      obtain ⟨k, got, left, rest, x, rfl, rfl, rfl, hk, hlast, hat⟩ := hrel
      have hlf := hat.2.2.2.1
      have HL := Lib.hid hlast
      have HT := Lib.hid hat
      clear hlast hat
      by_cases hin : k ≤ zs.length ∧ k ≤ 30
      · obtain ⟨hin1, hin2⟩ := hin
        have t1 : decide ((k : Int) ≤ zs.length) = true := by simp; omega
        have t2 : decide ((k : Int) ≤ 30) = true := by simp; omega
        by_cases hmid : k < zs.length ∧ k < 30
        · obtain ⟨hmid1, hmid2⟩ := hmid
          have t3 : decide ((k : Int) < zs.length) = true := by simp; omega
          have t4 : decide ((k : Int) < 30) = true := by simp; omega
          obtain ⟨b, o, rfl, hb, hc⟩ := HA.out k (.int .i64 zs[k]) (by rw [List.getElem?_map, List.getElem?_eq_getElem hmid1]; rfl)
          generalize zs[k] = z at hc
          have hcr : wr.cell? ⟨b, o + k, none⟩ = some (.int .i64 z) := ((hb12.trans (HT.out.2.2.2.2.2.2.mono hws)).cell (p := ⟨b, o + k, none⟩) hb).trans hc
          go_upto_region 16 with fail
          obtain ⟨q, hq, he⟩ := mod_fits z left.size (by omega)
          rw [he]
          clear he
          cases x with
          | true =>
            rw [show errOf true = 4 from rfl]
            go_wp2_with fail
            refine (feed_over _ _ _ _ HT.out.2.2.2.2.1).mono ?_
            rintro e w4 ⟨rfl, rfl⟩
            have hnx := cuts_over HT.out hq
            have hz2 := (left_split left q hq).2.2
            have HN := Lib.hid hnx
            have HZ2 := Lib.hid hz2
            clear hnx hz2
            go_wp2_with fail
            go_roundw
            case rel => exact ⟨k + 1, _, _, _, true, by go_num, rfl, rfl, by omega, (fun hx => by have := HZ2.out; omega), HN.out⟩
            case measure => simp [intOf]; omega
          | false =>
            rw [show errOf false = 0 from rfl]
            have hps : rest.size + (left.extract 0 q).size ≤ 1000000 := by
              have h3 := pend_size HT.out.2.1
              have h4 := (left_split left q hq).2.1
              omega
            have hq1 := (left_split left q hq).2.1
            have HQ1 := Lib.hid hq1
            have hgl := HT.out.2.2.1
            clear hq1
            go_wp2_with fail
            refine (feed_any _ _ _ _ hps HT.out.2.2.2.2.1).mono ?_
            intro e w4 hfp
            obtain ⟨A3, c3, st, rest', x', rfl, hsl, hfew, hown4, hbk4, hbel4, hby4⟩ := cuts_feed HT.out (Nat.le_refl _) hfp
            have hfew2 : st.length ≤ 20000 := by have := HQ1.out; omega
            have hsz4 := hbel4.size
            have HY4 := Lib.hid hby4
            have HK4 := Lib.hid hbk4
            clear hby4 hbk4 hfp hps hfew
            go_wp2_with (at_builtin; refine wpList_append_sl _ rfl (.tmp 74) (.tmp 75) 22 rfl w2.heap.size 9 i0 (.string ByteArray.empty) 16 Try.underlying22 hi hz0 hz1 hz2 rfl u9 _ _ rfl hown4 A3 st.length c3 (st.map Value.string) (by simp) rfl hsl (strings_one st) (by unfold maxLen; omega) (by omega) hsz4 ?_; intro g5 w5 hown5 hgrow5 hat5)
            have hnx := cuts_next HT.out hq hown4 HK4.out hbel4 HY4.out hown5 hgrow5
            have HZ2 := Lib.hid (left_split left q hq).2.2
            have HN := Lib.hid hnx
            clear hnx hown5 hgrow5 hat5 hown4 hbel4 hsl
            go_wp2_with fail
            go_roundw
            case rel => exact ⟨k + 1, _, _, _, x', by go_num, rfl, rfl, by omega, (fun hx => by have := HZ2.out; omega), HN.out⟩
            case measure => simp [intOf]; omega
        · have HM := Lib.hid hmid
          have hkM : k = min zs.length 30 := by omega
          have hor : zs.length ≤ k ∨ (k < zs.length ∧ 30 ≤ k) := by omega
          have HKM := Lib.hid hkM
          clear hmid hkM
          rcases hor with t3 | ⟨t3, t4⟩
          · go_upto_region 16 with fail
            obtain ⟨q, hqe⟩ : ∃ q : Nat, q = left.size := ⟨_, rfl⟩
            rw [← hqe]
            have hq : q ≤ left.size := by omega
            have HQE := Lib.hid hqe
            clear hqe
            cases x with
            | true =>
              rw [show errOf true = 4 from rfl]
              go_wp2_with fail
              refine (feed_over _ _ _ _ HT.out.2.2.2.2.1).mono ?_
              rintro e w4 ⟨rfl, rfl⟩
              have hnx := cuts_over HT.out hq
              have hz2 := (left_split left q hq).2.2
              have HN := Lib.hid hnx
              have HZ2 := Lib.hid hz2
              clear hnx hz2
              go_wp2_with fail
              go_roundw
              case rel => exact ⟨k + 1, _, _, _, true, by go_num, rfl, rfl, (by have := HKM.out; omega), (fun hx => by have := HZ2.out; have := HQE.out; omega), HN.out⟩
              case measure => simp [intOf]; omega
            | false =>
              rw [show errOf false = 0 from rfl]
              have hps : rest.size + (left.extract 0 q).size ≤ 1000000 := by
                have h3 := pend_size HT.out.2.1
                have h4 := (left_split left q hq).2.1
                omega
              have hq1 := (left_split left q hq).2.1
              have HQ1 := Lib.hid hq1
              have hgl := HT.out.2.2.1
              clear hq1
              go_wp2_with fail
              refine (feed_any _ _ _ _ hps HT.out.2.2.2.2.1).mono ?_
              intro e w4 hfp
              obtain ⟨A3, c3, st, rest', x', rfl, hsl, hfew, hown4, hbk4, hbel4, hby4⟩ := cuts_feed HT.out (Nat.le_refl _) hfp
              have hfew2 : st.length ≤ 20000 := by have := HQ1.out; omega
              have hsz4 := hbel4.size
              have HY4 := Lib.hid hby4
              have HK4 := Lib.hid hbk4
              clear hby4 hbk4 hfp hps hfew
              go_wp2_with (at_builtin; refine wpList_append_sl _ rfl (.tmp 74) (.tmp 75) 22 rfl w2.heap.size 9 i0 (.string ByteArray.empty) 16 Try.underlying22 hi hz0 hz1 hz2 rfl u9 _ _ rfl hown4 A3 st.length c3 (st.map Value.string) (by simp) rfl hsl (strings_one st) (by unfold maxLen; omega) (by omega) hsz4 ?_; intro g5 w5 hown5 hgrow5 hat5)
              have hnx := cuts_next HT.out hq hown4 HK4.out hbel4 HY4.out hown5 hgrow5
              have HZ2 := Lib.hid (left_split left q hq).2.2
              have HN := Lib.hid hnx
              clear hnx hown5 hgrow5 hat5 hown4 hbel4 hsl
              go_wp2_with fail
              go_roundw
              case rel => exact ⟨k + 1, _, _, _, x', by go_num, rfl, rfl, (by have := HKM.out; omega), (fun hx => by have := HZ2.out; have := HQE.out; omega), HN.out⟩
              case measure => simp [intOf]; omega
          · go_upto_region 16 with fail
            obtain ⟨q, hqe⟩ : ∃ q : Nat, q = left.size := ⟨_, rfl⟩
            rw [← hqe]
            have hq : q ≤ left.size := by omega
            have HQE := Lib.hid hqe
            clear hqe
            cases x with
            | true =>
              rw [show errOf true = 4 from rfl]
              go_wp2_with fail
              refine (feed_over _ _ _ _ HT.out.2.2.2.2.1).mono ?_
              rintro e w4 ⟨rfl, rfl⟩
              have hnx := cuts_over HT.out hq
              have hz2 := (left_split left q hq).2.2
              have HN := Lib.hid hnx
              have HZ2 := Lib.hid hz2
              clear hnx hz2
              go_wp2_with fail
              go_roundw
              case rel => exact ⟨k + 1, _, _, _, true, by go_num, rfl, rfl, (by have := HKM.out; omega), (fun hx => by have := HZ2.out; have := HQE.out; omega), HN.out⟩
              case measure => simp [intOf]; omega
            | false =>
              rw [show errOf false = 0 from rfl]
              have hps : rest.size + (left.extract 0 q).size ≤ 1000000 := by
                have h3 := pend_size HT.out.2.1
                have h4 := (left_split left q hq).2.1
                omega
              have hq1 := (left_split left q hq).2.1
              have HQ1 := Lib.hid hq1
              have hgl := HT.out.2.2.1
              clear hq1
              go_wp2_with fail
              refine (feed_any _ _ _ _ hps HT.out.2.2.2.2.1).mono ?_
              intro e w4 hfp
              obtain ⟨A3, c3, st, rest', x', rfl, hsl, hfew, hown4, hbk4, hbel4, hby4⟩ := cuts_feed HT.out (Nat.le_refl _) hfp
              have hfew2 : st.length ≤ 20000 := by have := HQ1.out; omega
              have hsz4 := hbel4.size
              have HY4 := Lib.hid hby4
              have HK4 := Lib.hid hbk4
              clear hby4 hbk4 hfp hps hfew
              go_wp2_with (at_builtin; refine wpList_append_sl _ rfl (.tmp 74) (.tmp 75) 22 rfl w2.heap.size 9 i0 (.string ByteArray.empty) 16 Try.underlying22 hi hz0 hz1 hz2 rfl u9 _ _ rfl hown4 A3 st.length c3 (st.map Value.string) (by simp) rfl hsl (strings_one st) (by unfold maxLen; omega) (by omega) hsz4 ?_; intro g5 w5 hown5 hgrow5 hat5)
              have hnx := cuts_next HT.out hq hown4 HK4.out hbel4 HY4.out hown5 hgrow5
              have HZ2 := Lib.hid (left_split left q hq).2.2
              have HN := Lib.hid hnx
              clear hnx hown5 hgrow5 hat5 hown4 hbel4 hsl
              go_wp2_with fail
              go_roundw
              case rel => exact ⟨k + 1, _, _, _, x', by go_num, rfl, rfl, (by have := HKM.out; omega), (fun hx => by have := HZ2.out; have := HQE.out; omega), HN.out⟩
              case measure => simp [intOf]; omega
      · obtain ⟨rfl, rfl, rfl⟩ := cuts_end HT.out (HL.out (by omega)) HY2.out
        have hle : left = ByteArray.empty := by
          have := HL.out (by omega)
          simpa [ByteArray.size_eq_zero_iff] using this
        subst hle
        obtain ⟨A4, c4, hv4, -, -, -, hsl4, -⟩ := own_slice HT.out.2.2.2.2.2.1
        have hgl := HT.out.2.2.1
        have HSm := Lib.hid (same_any wr A4 A2 c4 c2 got got (by omega) (by omega) hsl4 (HS2.out.below HT.out.2.2.2.2.2.2))
        have HRs := Lib.hid fun m : Nat => rest_any (wr.drewN m) _ _ _ (HT.out.2.2.2.2.1.drewN m)
        have HBr := Lib.hid fun m : Nat => broken_any (wr.drewN m) _ _ _ (HT.out.2.2.2.2.1.drewN m)
        have hbw : Below w.heap.size w wr := hb12.trans (HT.out.2.2.2.2.2.2.mono hws)
        rw [hv4]
        clear hv4 hsl4
        rw [decide_eq_true rfl] at HSm
        have hor : zs.length < k ∨ (k ≤ zs.length ∧ 30 < k) := by omega
        clear hin
        have he : (errOf x != 0) = x := by cases x <;> rfl
        cases x with
        | true =>
          rw [show errOf true = 4 from rfl]
          rcases hor with t3 | ⟨t3, t4⟩
          all_goals
            go_wp2_with (first
              | (go_at_call 14; refine HSm.out.mono ?_; rintro e w' ⟨rfl, nq, rfl⟩)
              | (go_at_call 15; refine (HRs.out _).mono ?_; rintro e w' ⟨rfl, rfl⟩)
              | (go_at_call 16; refine (HBr.out _).mono ?_; rintro e w' ⟨rfl, rfl⟩))
            go_ret
            exact ⟨rfl, below_drewN hbw _⟩
        | false =>
          rw [show errOf false = 0 from rfl]
          rcases hor with t3 | ⟨t3, t4⟩
          all_goals
            go_wp2_with (first
              | (go_at_call 14; refine HSm.out.mono ?_; rintro e w' ⟨rfl, nq, rfl⟩)
              | (go_at_call 15; refine (HRs.out _).mono ?_; rintro e w' ⟨rfl, rfl⟩)
              | (go_at_call 16; refine (HBr.out _).mono ?_; rintro e w' ⟨rfl, rfl⟩))
            go_ret
            exact ⟨rfl, below_drewN hbw _⟩
  · have t0 : decide ((20000 : Int) < s.size) = true := by simp; omega
    go_enter Try.func5, Try.ntmps5
    go_wp2_with (go_at_call 10; refine h1.out.mono ?_; rintro e w1 ⟨rfl, hb1⟩)
    go_ret
    exact ⟨rfl, hb1⟩

end Go.Proofs.Ytipphdadibdifaa

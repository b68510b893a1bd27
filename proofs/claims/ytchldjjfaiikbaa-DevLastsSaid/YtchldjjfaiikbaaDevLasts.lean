/- DevLasts: the walk. -/
import Derived.Test.YtchldjjfaiikbaaLastsInv
namespace Go.Proofs.Ytchldjjfaiikbaa
open Go.RowKit
open Go.PlainAid
set_option maxRecDepth 100000
set_option linter.unusedVariables false
set_option linter.unusedSimpArgs false

theorem sector_0 (w : World) : Calls Try.prog 9 #[.int .u8 0] w (TellsS (sectorB 0) w) := sector_any 0 w
/-- Where loop 1 stands. -/
def LAt (w : World) (g : Nat) (i : Int) (n k : Nat) (v : Value) (wr : World) : Prop :=
  ∃ (D : DevS) (S : List Nat) (may : List ByteArray) (b o cap : Nat), k ≤ n ∧ k ≤ 60 ∧ v = .slice (some ⟨b, o, none⟩) may.length cap ∧ LSt w wr g D S may b o cap ∧ LInv i k D may

theorem toList_ne {a b : ByteArray} (h : a ≠ b) : (a.toList == b.toList) = false := by
  rw [ByteArray.toList_eq, ByteArray.toList_eq, beq_eq_false_iff_ne]
  exact fun e => h (str_eq e)
set_option maxHeartbeats 8000000 in
theorem devLasts_walk (A : Option Addr) (xs : List ActV) (cap : Nat) (i : Int) (A2 : Option Addr) (cap2 : Nat) (zs : List Int) (w : World) (hlen : xs.length ≤ maxLen) (hac : DActsAt w A xs) (hiw : (Lit.int .i64 i).wf = true)
    (hl2 : zs.length ≤ maxLen) (hz2 : ∀ n ∈ zs, (Lit.int .i64 n).wf = true) (hs2 : Sl w A2 (zs.map (Value.int .i64))) :
    Calls Try.prog 3 #[.slice A xs.length cap, .int .i64 i, .slice A2 zs.length cap2] w (Holds w) := by
  have HN : Hid (∀ W, Calls Try.prog 8 #[.int .i64 4] W (NewPost 4 W)) := fun W => dnew_any 4 W (by decide) (by decide)
  have HAC := Lib.hid hac
  have HL2 := Lib.hid hl2
  have HZ2 := Lib.hid hz2
  have HS2 := Lib.hid hs2
  have HLN := Lib.hid hlen
  clear hac hl2 hz2 hs2 hlen
  go_enter Try.func3, Try.ntmps3
  go_wp2_with fail
  (go_at_call 7)
  refine (awake_any _).mono ?_
  rintro e w1 ⟨rfl, hb1⟩
  have HB1 := Lib.hid hb1
  clear hb1
  go_wp2_with fail
  (go_at_call 8)
  refine (HN.out _).mono ?_
  rintro e w2 ⟨g, S2, rfl, hd2, hbel2, hS2⟩
  have HD2 := Lib.hid hd2
  have H2 : Hid (Below w.heap.size w w2 ∧ ∀ b ∈ S2, w.heap.size ≤ b) := ⟨HB1.out.trans (hbel2.mono HB1.out.size), fun b hb => Nat.le_trans HB1.out.size (hS2 b hb)⟩
  clear hd2 hbel2 hS2
  go_wp2_with fail
  (go_at_call 9)
  refine (sector_0 _).mono ?_
  rintro e w3 ⟨rfl, hb3⟩
  have H3 : Hid (LAt w g i xs.length 0 (.slice (some ⟨w3.heap.size, 0, none⟩) 1 1) (w3.alloc (.cells #[.string (sectorB 0)] 9))) := by
    have hbel := H2.out.1.trans (hb3.mono H2.out.1.size)
    have hd3 := HD2.out.below hb3
    refine ⟨DevS.new 4, S2, [sectorB 0], _, 0, 1, Nat.zero_le _, by omega, rfl, ⟨hd3.below ((Below.refl _ w3).alloc (Nat.le_refl _) _), offRow_one (Bk.new w3 _ _), fun hx => by have := hd3.old _ hx; omega, hbel.size, hbel.trans (Below.mono ((Below.refl _ w3).alloc (Nat.le_refl _) _) hbel.size), H2.out.2⟩, linv_start i⟩
  clear hb3
  go_wp2_with fail
  go_loopw [9, 10] (fun v c wr => ∃ k : Nat, c = .int .i64 (k : Int) ∧ LAt w g i xs.length k v wr) (fun _ c _ => 60 - (intOf c).toNat)
  case atStart => exact ⟨0, rfl, H3.out⟩
  case round =>
    clear H3 HD2 H2 HB1
    obtain ⟨k, rfl, D, S, may, b, o, mcap, hk, hk60, rfl, hst, hinv⟩ := hrel
    have HST := Lib.hid hst
    have HIN := Lib.hid hinv
    clear hst hinv
    have hcs : (k < xs.length ∧ k < 60) ∨ (¬ k < xs.length) ∨ (k < xs.length ∧ ¬ k < 60) := by omega
    rcases hcs with ⟨h1, h2⟩ | hx | ⟨hx, hy⟩
    · obtain ⟨x, hx⟩ : ∃ x, xs[k]? = some x := ⟨_, List.getElem?_eq_getElem h1⟩
      have HX := Lib.hid hx
      clear hx
      have HOK0 : Hid (x.Ok w) := by obtain ⟨_, _, _, _, h, _⟩ := HAC.out.six HX.out; exact h
      obtain ⟨kb, ko, rfl, hlt, hok, c0, c1, c2, c3, c4, c5⟩ := (HAC.out.below HST.out.bel).six HX.out
      have HOK := Lib.hid hok
      clear hok
      have i1 : (0 : Int) ≤ (k : Int) := by omega
      have HDO : Hid (∀ W, Dev W g S D → x.Ok W → Calls Try.prog 11 #[ptr g, .agg #[.int .i64 x.kind, .int .i64 x.i, .int .i64 x.n, .int .u8 (x.c.toNat : Int), .string x.text, .slice x.A x.picks.length x.cap]] W (DevPost g S (x.on D).1 (.int .i64 (x.on D).2) W)) :=
        fun W hd ho => does_any hd x ho (by have := HIN.out.steps; omega) (fun hn a ha hs => by have := HOK0.out.old hn a ha; have := HST.out.newS _ hs; omega)
      have HTX : Hid (∀ W, Calls Try.prog 12 #[.agg #[.int .i64 x.kind, .int .i64 x.i, .int .i64 x.n, .int .u8 (x.c.toNat : Int), .string x.text, .slice x.A x.picks.length x.cap]] W (TellsS x.textOf W)) := fun W => text_any x W
      have HON : Hid (∀ W, Dev W g S D → Calls Try.prog 10 #[ptr g] W (fun e w' => e = .returned (.bool (!D.off)) ∧ W = w')) := fun W h => don_any h
      go_wp2_with fail
      (go_at_call 10)
      refine (HON.out _ HST.out.dev).mono ?_
      rintro e wX ⟨rfl, rfl⟩
      go_wp2_with fail
      (go_at_call 11)
      refine (HDO.out _ HST.out.dev HOK.out).mono ?_
      rintro e w5 ⟨rfl, hp5⟩
      obtain ⟨S5, hst5⟩ := HST.out.post hp5
      have HST5 := Lib.hid hst5
      clear hst5 hp5 c0 c1 c2 c3 c4 c5
      obtain ⟨kb', ko', he', hlt', hok', c0, c1, c2, c3, c4, c5⟩ := (HAC.out.below HST5.out.bel).six HX.out
      injection he' with he'
      injection he' with he1 he2
      subst he1 he2
      have HOK5 := Lib.hid hok'
      clear hok' hlt
      have hcs : (x.kind = 1 ∧ x.i = i ∧ (x.on D).2 = 0) ∨ (x.kind = 1 ∧ x.i = i ∧ (x.on D).2 ≠ 0) ∨ (x.kind = 1 ∧ x.i ≠ i) ∨ (x.kind = 2 ∧ (x.on D).2 = 0) ∨ (x.kind = 2 ∧ (x.on D).2 ≠ 0) ∨ (x.kind = 5 ∧ (x.on D).2 = 0) ∨ (x.kind = 5 ∧ (x.on D).2 ≠ 0) ∨ (x.kind ≠ 1 ∧ x.kind ≠ 2 ∧ x.kind ≠ 5) := by
        by_cases h1 : x.kind = 1 <;> by_cases h2 : x.kind = 2 <;> by_cases h3 : x.kind = 5 <;> by_cases h4 : x.i = i <;> by_cases h5 : (x.on D).2 = 0 <;> simp_all
      rcases hcs with ⟨a1, a2, a3⟩ | ⟨a1, a2, a3⟩ | ⟨a1, a2⟩ | ⟨a1, a2⟩ | ⟨a1, a2⟩ | ⟨a1, a2⟩ | ⟨a1, a2⟩ | ⟨a1, a2, a3⟩
      · have q1 : (x.kind == 1) = true := by simp [a1]
        have q2 : (x.kind == 2) = false := by simp [a1]
        have q5 : (x.kind == 5) = false := by simp [a1]
        have qi : (x.i == i) = true := by simp [a2]
        have qr : ((x.on D).2 == 0) = true := by simp [a3]
        have HNX := Lib.hid (HIN.out.wrote a1 a2 a3)
        obtain ⟨inf, hi, hz0, hz1, hz2⟩ := info_parts info_str
        have HI := Lib.hid (And.intro hi (And.intro hz0 (And.intro hz1 hz2)))
        have hml : may.length ≤ 61 := by have := HIN.out.few; omega
        clear a1 a2 a3 hi hz0 hz1 hz2
        go_wp2_with fail
        (go_at_call 12)
        refine (HTX.out _).mono ?_
        rintro e w6 ⟨rfl, hb6⟩
        have HST6 := Lib.hid ((HST5.out.below hb6).below ((Below.refl _ w6).alloc (Nat.le_refl _) (.cells #[.string x.textOf] 9)))
        clear hb6
        go_wp2_with (first
          | (at_builtin
             refine wpList_append_one _ rfl (.tmp 61) (.tmp 67) 30 rfl 9 inf (.string ByteArray.empty) 16 Try.underlying30 HI.out.1 HI.out.2.1 HI.out.2.2.1 HI.out.2.2.2 rfl b o may.length mcap (may.map Value.string) rfl (by simp) HST6.out.row w6.heap.size 1 (.string x.textOf) rfl (by simp) rfl (by unfold maxLen; omega) (by omega) ?_
             intro b' o' cap' w7 hrow hoff hbb
             have HST7 := Lib.hid (HST6.out.appended (may' := may ++ [x.textOf]) (by rw [List.map_append]; exact hrow) hoff hbb)
             clear hrow hoff hbb c0 c1 c2 c3 c4 c5
             obtain ⟨kb', ko', he', hlt'', hok', c0, c1, c2, c3, c4, c5⟩ := (HAC.out.below HST7.out.bel).six HX.out
             injection he' with he'
             injection he' with he1 he2
             subst he1 he2
             clear hok' hlt'')
          | fail)
        go_roundw
        case rel => exact ⟨k + 1, by go_num, (x.on D).1, S5, may ++ [x.textOf], b', o', cap', by omega, by omega, by rw [List.length_append]; rfl, HST7.out, HNX.out⟩
        case measure => simp [intOf]; omega
      · have q1 : (x.kind == 1) = true := by simp [a1]
        have q2 : (x.kind == 2) = false := by simp [a1]
        have q5 : (x.kind == 5) = false := by simp [a1]
        have qi : (x.i == i) = true := by simp [a2]
        have qr : ((x.on D).2 == 0) = false := by simp [a3]
        have HNX := Lib.hid (HIN.out.unwrote a1 (fun hh => a3 hh.2))
        clear a1 a2 a3
        go_wp2_with fail
        go_roundw
        case rel => exact ⟨k + 1, by go_num, (x.on D).1, S5, may, b, o, mcap, by omega, by omega, rfl, HST5.out, HNX.out⟩
        case measure => simp [intOf]; omega
      · have q1 : (x.kind == 1) = true := by simp [a1]
        have q2 : (x.kind == 2) = false := by simp [a1]
        have q5 : (x.kind == 5) = false := by simp [a1]
        have qi : (x.i == i) = false := by simp [a2]
        have HNX := Lib.hid (HIN.out.unwrote a1 (fun hh => a2 hh.1))
        clear a1 a2
        go_wp2_with fail
        go_roundw
        case rel => exact ⟨k + 1, by go_num, (x.on D).1, S5, may, b, o, mcap, by omega, by omega, rfl, HST5.out, HNX.out⟩
        case measure => simp [intOf]; omega
      · have q1 : (x.kind == 1) = false := by simp [a1]
        have q2 : (x.kind == 2) = true := by simp [a1]
        have q5 : (x.kind == 5) = false := by simp [a1]
        have qr : ((x.on D).2 == 0) = true := by simp [a2]
        have hp : 1 ≤ may.length := List.length_pos_iff.2 HIN.out.ne
        have hml : may.length ≤ mcap := by simpa using HST5.out.row.len.1
        have hmm : mcap ≤ maxLen := HST5.out.row.len.2
        have HNX := Lib.hid (HIN.out.synced a1 a2)
        have hfw := HIN.out.few
        obtain ⟨m, hm⟩ : ∃ m, may.length = m + 1 := ⟨may.length - 1, by omega⟩
        have HDR := Lib.hid (HST5.out.dropped (may.length - 1) (by omega))
        have HLD : Hid ((may.drop (may.length - 1)).length = 1) := show _ = _ by rw [List.length_drop]; omega
        rw [hm] at HDR HNX HLD
        have hmb : m ≤ 61 := by omega
        have hne : ¬ (mcap = m) := by omega
        have hml2 : m + 1 ≤ mcap := by omega
        unfold maxLen at hmm
        rw [hm]
        have HM := Lib.hid hm
        clear a1 a2 hm hfw hml hp
        go_wp2_with fail
        go_roundw
        case rel => exact ⟨k + 1, by go_num, (x.on D).1, S5, may.drop m, b, o + m, mcap - m, by omega, by omega, (by have h1 : (may.drop m).length = 1 := HLD.out; rw [h1]), HDR.out, HNX.out⟩
        case measure => simp [intOf]; omega
      · have q1 : (x.kind == 1) = false := by simp [a1]
        have q2 : (x.kind == 2) = true := by simp [a1]
        have q5 : (x.kind == 5) = false := by simp [a1]
        have qr : ((x.on D).2 == 0) = false := by simp [a2]
        have HNX := Lib.hid (HIN.out.unsynced a1 a2)
        clear a1 a2
        go_wp2_with fail
        go_roundw
        case rel => exact ⟨k + 1, by go_num, (x.on D).1, S5, may, b, o, mcap, by omega, by omega, rfl, HST5.out, HNX.out⟩
        case measure => simp [intOf]; omega
      · have q1 : (x.kind == 1) = false := by simp [a1]
        have q2 : (x.kind == 2) = false := by simp [a1]
        have q5 : (x.kind == 5) = true := by simp [a1]
        have qr : ((x.on D).2 == 0) = true := by simp [a2]
        have qo : D.off = true := start_off a1 a2
        have HNX := Lib.hid (HIN.out.started a1 a2)
        clear a1 a2
        rw [qo]
        go_wp2_with fail
        (go_at_call 13)
        refine (dlasts_any HST5.out.dev i).mono ?_
        rintro e wX ⟨rfl, rfl⟩
        go_wp2_with fail
        go_roundw
        case rel => exact ⟨k + 1, by go_num, (x.on D).1, S5, [(x.on D).1.lasts i], _, 0, 1, by omega, by omega, rfl, HST5.out.one _, HNX.out⟩
        case measure => simp [intOf]; omega
      · have q1 : (x.kind == 1) = false := by simp [a1]
        have q2 : (x.kind == 2) = false := by simp [a1]
        have q5 : (x.kind == 5) = true := by simp [a1]
        have qr : ((x.on D).2 == 0) = false := by simp [a2]
        have HNX := Lib.hid (HIN.out.unstarted a1 a2)
        clear a1 a2
        go_wp2_with fail
        go_roundw
        case rel => exact ⟨k + 1, by go_num, (x.on D).1, S5, may, b, o, mcap, by omega, by omega, rfl, HST5.out, HNX.out⟩
        case measure => simp [intOf]; omega
      · have q1 : (x.kind == 1) = false := by simp [a1]
        have q2 : (x.kind == 2) = false := by simp [a2]
        have q5 : (x.kind == 5) = false := by simp [a3]
        have HNX := Lib.hid (HIN.out.other a1 a2 a3)
        clear a1 a2 a3
        go_wp2_with fail
        go_roundw
        case rel => exact ⟨k + 1, by go_num, (x.on D).1, S5, may, b, o, mcap, by omega, by omega, rfl, HST5.out, HNX.out⟩
        case measure => simp [intOf]; omega
    all_goals
      have HEXIT : Hid (¬ (k < xs.length ∧ k < 60)) := show ¬ _ by omega
      by_cases hi3 : 0 ≤ i ∧ i ≤ 3
      · obtain ⟨i0, i3⟩ := hi3
        have t1 : decide (i < 0) = false := by simp; omega
        have t2 : decide (3 < i) = false := by simp; omega
        obtain ⟨E, hE1, hE2, hE3, hE4, hE5⟩ := may_end zs i0 (by rw [HIN.out.len]; omega) (HIN.out.law i0 i3)
        have HE1 := Lib.hid hE1
        have HE4 := Lib.hid hE4
        have HE5 := Lib.hid hE5
        have HLE : Hid (may.length ≤ 61) := show _ ≤ _ by have := HIN.out.few; omega
        have HCS : Hid (D.cut.1.steps ≤ 1000000000) := show _ ≤ _ by
          have := HIN.out.steps
          have e : D.cut.1.steps = D.steps := by unfold DevS.cut; split <;> rfl
          omega
        clear hE1 hE2 hE3 hE4 hE5
        go_wp2_with fail
        (go_at_call 14)
        refine (dcut_any HST.out.dev).mono ?_
        rintro e w5 ⟨rfl, hp5⟩
        obtain ⟨S5, hst5⟩ := HST.out.post hp5
        have HST5 := Lib.hid hst5
        clear hst5 hp5
        go_wp2_with fail
        (go_at_call 15)
        refine (dstart_any HST5.out.dev A2 zs cap2 (HS2.out.below HST5.out.bel) HL2.out (fun p hp => by have := HZ2.out p hp; simp [Lit.wf, IntKind.min, IntKind.max, IntKind.bits, IntKind.signed] at this; omega) (fun hn a ha hs => by
          obtain ⟨z, zr, hz⟩ := List.exists_cons_of_ne_nil hn
          obtain ⟨bb, oo, hA, hlt, _⟩ := HS2.out 0 (.int .i64 z) (by rw [hz]; rfl)
          rw [hA] at ha
          injection ha with ha
          subst ha
          have h9 : w.heap.size ≤ bb := HST5.out.newS _ hs
          omega) HCS.out).mono ?_
        rw [HE1.out]
        rintro e w6 ⟨rfl, hp6⟩
        obtain ⟨S6, hst6⟩ := HST5.out.post hp6
        have HST6 := Lib.hid hst6
        have HWT : Hid (∀ W, Dev W g S6 E → Calls Try.prog 16 #[ptr g, .int .i64 i] W (fun e w' => e = .returned (.int .i64 0) ∧ W = w')) := fun W hW => (dwaits_any hW i).mono fun e w' ⟨h1, h2⟩ => ⟨by rw [h1, HE4.out], h2⟩
        clear hst6 hp6
        go_wp2_with fail
        (go_at_call 16)
        refine (HWT.out _ HST6.out.dev).mono ?_
        rintro e wX ⟨rfl, rfl⟩
        obtain ⟨L, hL⟩ : ∃ L, L = may.length := ⟨_, rfl⟩
        rw [← hL]
        have HLL := Lib.hid hL
        have hLb : L ≤ 61 := by rw [hL]; exact HLE.out
        clear hL
        go_wp2_with fail
        go_loopw [13] (fun c wr2 => ∃ j : Nat, c = .int .i64 (j : Int) ∧ j ≤ L ∧ E.lasts i ∉ may.take j ∧ ∃ n, wr2 = w6.drewN n) (fun c _ => L - (intOf c).toNat)
        case atStart => exact ⟨0, rfl, Nat.zero_le _, by simp, 0, rfl⟩
        case round =>
          obtain ⟨j, rfl, hj, hno, n, hwr⟩ := hrel
          have HDV : Hid (Dev wr g S6 E) := show Dev _ _ _ _ by rw [hwr]; exact HST6.out.dev.drewN n
          have HCL : Hid (∀ p, wr.cell? p = w6.cell? p) := fun p => by rw [hwr]; rfl
          have HWR := Lib.hid hwr
          clear hwr
          have HNO := Lib.hid hno
          clear hno
          by_cases hjl : j < L
          · obtain ⟨y, hy⟩ : ∃ y, may[j]? = some y := ⟨_, List.getElem?_eq_getElem (by rw [← HLL.out]; exact hjl)⟩
            have hcy : wr.cell? ⟨b, o + j, none⟩ = some (.string y) := by rw [HCL.out]; exact HST6.out.row.cell j (.string y) (by rw [List.getElem?_map, hy]; rfl)
            have HY := Lib.hid hy
            clear hy
            have HLQ : Hid (∀ m, Calls Try.prog 13 #[ptr g, .int .i64 i] (wr.drewN m) (fun e w' => e = .returned (.string (E.lasts i)) ∧ w' = wr.drewN m)) := fun m => (dlasts_any (HDV.out.drewN m) i).mono fun e w' h => ⟨h.1, h.2.symm⟩
            have HTK : Hid (may.take (j + 1) = may.take j ++ [y]) := show _ = _ by
              obtain ⟨hk', rfl⟩ := List.getElem?_eq_some_iff.1 HY.out
              rw [List.take_succ_eq_append_getElem hk']
            by_cases hxy : E.lasts i = y
            · have h5 : ((E.lasts i).toList == y.toList) = true := by simp [hxy]
              clear hxy
              go_wp2_with fail
              go_quiet ((go_at_call 13; exact Calls.quiet_of_same (HLQ.out _)))
              go_wp2_with fail
              go_ret
              exact ⟨rfl, HST6.out.bel.trans (Below.mono (show Below w6.heap.size w6 _ by rw [HWR.out]; exact ((((Off.refl [] w6).drewN _).drewN _).below (Nat.le_refl _) (by simp))) HST6.out.bel.size)⟩
            · have h5 : ((E.lasts i).toList == y.toList) = false := toList_ne hxy
              have HNN : Hid (E.lasts i ∉ may.take (j + 1)) := show _ ∉ _ by
                rw [HTK.out]
                intro hm
                rcases List.mem_append.1 hm with hm | hm
                · exact HNO.out hm
                · exact hxy (by simpa using hm)
              clear hxy
              go_wp2_with fail
              go_quiet ((go_at_call 13; exact Calls.quiet_of_same (HLQ.out _)))
              go_wp2_with fail
              go_roundw
              case rel => exact ⟨j + 1, by go_num, by omega, HNN.out, _, by rw [HWR.out]; exact World.drewN_drewN _ _ _⟩
              case measure => simp [intOf]; omega
          · exfalso
            have hjL : j = may.length := by rw [← HLL.out]; omega
            have := HE5.out
            have h2 := HNO.out
            rw [hjL, List.take_length] at h2
            exact h2 this
      · have HL0 : Hid (∀ W, Dev W g S D → Calls Try.prog 13 #[ptr g, .int .i64 i] W (fun e w' => e = .returned (.string ByteArray.empty) ∧ W = w')) := fun W hW => (dlasts_any hW i).mono fun e w' ⟨h1, h2⟩ => ⟨by
          have : D.lasts i = ByteArray.empty := by
            unfold DevS.lasts
            have : D.isIn i = false := by unfold DevS.isIn; simp; have := HIN.out.len; omega
            rw [this]
            rfl
          rw [h1, this], h2⟩
        have hcs2 : decide (i < 0) = true ∨ (decide (i < 0) = false ∧ decide (3 < i) = true) := by simp; omega
        clear hi3
        rcases hcs2 with t1 | ⟨t1, t2⟩
        all_goals
          go_wp2_with fail
          (go_at_call 13)
          refine (HL0.out _ HST.out.dev).mono ?_
          rintro e wX ⟨rfl, rfl⟩
          go_wp2_with fail
          go_ret
          exact ⟨rfl, HST.out.bel⟩
end Go.Proofs.Ytchldjjfaiikbaa

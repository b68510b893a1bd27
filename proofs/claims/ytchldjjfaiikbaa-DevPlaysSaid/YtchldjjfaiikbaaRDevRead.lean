/- Contracts of the reference's device: Read, Waits. -/
import Derived.Test.YtchldjjfaiikbaaRDevAt
import Derived.Test.YtchldjjfaiikbaaPlainRefDev
namespace Go.Proofs.Ytchldjjfaiikbaa
open Go.RowKit
open Go.PlainAid
set_option maxRecDepth 100000
set_option linter.unusedVariables false
set_option linter.unusedSimpArgs false

theorem rret_int {a b : Int} (h : a = b) : Ending.returned (.int .i64 a) = Ending.returned (.int .i64 b) := by rw [h]
/-- The cells of the k-th write that waits. -/
theorem RDevAt.wait {w : World} {g : Nat} {S : List Nat} {D : DevS} {l cl : Nat} {A : Option Addr} {cr : Nat} (h : RDevAt w g S D l cl A cr) {k : Nat} {x : Nat × ByteArray} (hx : D.row[k]? = some x) :
    ∃ b, A = some ⟨b, 0, none⟩ ∧ b ∈ S ∧ b < w.heap.size ∧ b ≠ g ∧ b ≠ l ∧ w.cell? ⟨b, k * 2, none⟩ = some (.int .i64 (x.1 : Int)) ∧ w.cell? ⟨b, k * 2 + 1, none⟩ = some (.string x.2) := by
  obtain ⟨A', c', hA, _, _, hc⟩ := own_slice2 h.row
  injection hA with hA1 _ _
  subst hA1
  obtain ⟨h1, h2⟩ := waitCells_at D.row k x hx
  obtain ⟨b, hb, hlt, c1⟩ := hc _ _ h1
  obtain ⟨b', hb', _, c2⟩ := hc _ _ h2
  subst hb
  injection hb' with hb'
  injection hb' with hb'
  subst hb'
  refine ⟨b, rfl, h.inS.2.2 b rfl, hlt, ?_, ?_, c1, c2⟩
  · have := own_ne h.row h.cells (by decide)
    rintro rfl
    exact this rfl
  · rintro rfl
    rcases h.row.2 with ⟨e, _⟩ | ⟨g1, cap1, cur1, e1, _, hh1, _⟩
    · cases e
    · rcases h.sec.2 with ⟨e, _⟩ | ⟨g2, cap2, cur2, e2, _, hh2, _⟩
      · cases e
      · injection e1 with e1; injection e1 with e1; injection e1 with e1
        injection e2 with e2; injection e2 with e2; injection e2 with e2
        subst e1; subst e2
        exact Bk.ne (t := 66) (t' := 9) hh1 hh2 (by decide) rfl
theorem RDevAt.sector {w : World} {g : Nat} {S : List Nat} {D : DevS} {l cl : Nat} {A : Option Addr} {cr : Nat} (h : RDevAt w g S D l cl A cr) {k : Nat} (hk : k < D.sec.length) : w.cell? ⟨l, k, none⟩ = some (.string (D.sec.getD k ByteArray.empty)) := by
  have := h.sec.cells (g := l) rfl k (.string (D.sec.getD k ByteArray.empty)) (by
    unfold strs
    rw [List.getElem?_map, List.getElem?_eq_getElem hk, List.getD_eq_getElem?_getD, List.getElem?_eq_getElem hk]
    rfl)
  rwa [add_zero_addr] at this

set_option maxHeartbeats 4000000 in
theorem rread_any {g : Nat} {S : List Nat} {D : DevS} {w : World} (hd : RDev w g S D) (i : Int) (hb : D.steps ≤ 1000000000) :
    Calls Try.prog 26 #[ptr g, .int .i64 i] w (ReadPost (D.read i).1 (D.read i).2 w) := by
  obtain ⟨l, cl, A, cr, h⟩ := hd
  have HD := Lib.hid h
  obtain ⟨c0, c1, c2, c3, c4, c5⟩ := h.cells.six
  have hm := h.ok.most
  clear h c3 c4 c5
  have hcs : (decide (i < 0) = true ∧ D.isIn i = false) ∨ (decide (i < 0) = false ∧ 0 ≤ i ∧ decide (((D.sec.length : Nat) : Int) ≤ i) = true ∧ D.isIn i = false) ∨ (0 ≤ i ∧ i < (D.sec.length : Int) ∧ D.isIn i = true) := by
    unfold DevS.isIn
    by_cases h1 : i < 0
    · exact .inl ⟨by simpa using h1, by simp; omega⟩
    · by_cases h2 : ((D.sec.length : Nat) : Int) ≤ i
      · exact .inr (.inl ⟨by simpa using h1, by omega, by simpa using h2, by simp; omega⟩)
      · exact .inr (.inr ⟨by omega, by omega, by simp; omega⟩)
  rcases hcs with ⟨q1, hin⟩ | ⟨q1, q0, q2, hin⟩ | ⟨i0, i1, hin⟩
  · have HL : Hid (D.read i = (ByteArray.empty, 1)) := show _ = _ by unfold DevS.read; rw [hin]; rfl
    clear hin
    go_enter Try.func26, Try.ntmps26
    go_wp2_with fail
    go_ret2
    exact readPost_of (by rw [HL.out]; rfl) (by rw [HL.out])
  · have HL : Hid (D.read i = (ByteArray.empty, 1)) := show _ = _ by unfold DevS.read; rw [hin]; rfl
    clear hin
    go_enter Try.func26, Try.ntmps26
    go_wp2_with fail
    go_ret2
    exact readPost_of (by rw [HL.out]; rfl) (by rw [HL.out])
  · obtain ⟨j, rfl⟩ : ∃ j : Nat, i = (j : Int) := ⟨i.toNat, by omega⟩
    have hj : j < D.sec.length := by omega
    have q1 : decide ((j : Int) < 0) = false := by simp
    have q2 : decide (((D.sec.length : Nat) : Int) ≤ (j : Int)) = false := by simp; omega
    have q3 : decide (D.sec.length ≤ j) = false := by simp; omega
    cases hoff : D.off with
    | true =>
      have HL : Hid (D.read (j : Int) = (ByteArray.empty, 6)) := show _ = _ by unfold DevS.read; rw [hin, hoff]; rfl
      rw [hoff] at c2
      clear hin hoff
      go_enter Try.func26, Try.ntmps26
      go_wp2_with fail
      go_ret2
      exact readPost_of (by rw [HL.out]; rfl) (by rw [HL.out])
    | false =>
      have HL : Hid (D.read (j : Int) = (D.latest j, 0)) := show _ = _ by unfold DevS.read; rw [hin, hoff]; rfl
      rw [hoff] at c2
      clear hin hoff
      have hsc := HD.out.sector hj
      obtain ⟨s0, hs0⟩ : ∃ s0, s0 = D.sec.getD j ByteArray.empty := ⟨_, rfl⟩
      rw [← hs0] at hsc
      have HS0 := Lib.hid hs0
      obtain ⟨n, hn⟩ : ∃ n, n = D.row.length := ⟨_, rfl⟩
      rw [← hn] at c1
      have HN := Lib.hid hn
      have hnb : n ≤ 1000000000 := by have h1 := HD.out.ok.rowW; have h2 := HD.out.ok.writesS; omega
      clear hs0 hn
      go_enter Try.func26, Try.ntmps26
      go_wp2_with fail
      go_loop [6, 7] (fun s c => ∃ k : Nat, k ≤ n ∧ c = .int .i64 (k : Int) ∧ s = .string (lastOf (D.row.take k) j s0)) (fun _ c => n - (intOf c).toNat)
      case atStart => exact ⟨0, Nat.zero_le _, rfl, rfl⟩
      case round =>
        obtain ⟨k, hk, rfl, rfl⟩ := hrel
        by_cases hlt : k < n
        · obtain ⟨x, hx⟩ : ∃ x, D.row[k]? = some x := ⟨_, List.getElem?_eq_getElem (by rw [← HN.out]; exact hlt)⟩
          obtain ⟨b, hA, hbS, hblt, hbg, hbl, d0, d1⟩ := HD.out.wait hx
          subst hA
          have HX := Lib.hid hx
          clear hx hbg hbl
          by_cases hxi : x.1 = j
          · have r1 : ((x.1 : Int) == (j : Int)) = true := by simp; omega
            have r2 : (x.1 == j) = true := by simp; omega
            have HE : Hid (lastOf (D.row.take (k + 1)) j s0 = x.2) := lastOf_yes HX.out hxi s0
            clear hxi
            go_wp2_with fail
            go_round
            case rel => exact ⟨k + 1, by omega, by go_num, by rw [HE.out]⟩
            case measure => simp [intOf]; omega
          · have r1 : ((x.1 : Int) == (j : Int)) = false := by simp; omega
            have r2 : (x.1 == j) = false := by simp; omega
            have HE : Hid (lastOf (D.row.take (k + 1)) j s0 = lastOf (D.row.take k) j s0) := lastOf_no HX.out hxi s0
            clear hxi
            go_wp2_with fail
            go_round
            case rel => exact ⟨k + 1, by omega, by go_num, by rw [HE.out]⟩
            case measure => simp [intOf]; omega
        · go_wp2_with fail
          go_ret2
          obtain rfl : k = n := by omega
          exact readPost_of (by rw [HL.out, HN.out, HS0.out, lastOf_all]) (by rw [HL.out])

set_option maxHeartbeats 4000000 in
theorem rwaits_any {g : Nat} {S : List Nat} {D : DevS} {w : World} (hd : RDev w g S D) (i : Int) (hb : D.steps ≤ 1000000000) :
    Calls Try.prog 27 #[ptr g, .int .i64 i] w fun e w' => e = .returned (.int .i64 (D.waitsN i)) ∧ w = w' := by
  obtain ⟨l, cl, A, cr, h⟩ := hd
  have HD := Lib.hid h
  obtain ⟨c0, c1, c2, c3, c4, c5⟩ := h.cells.six
  have hm := h.ok.most
  clear h c3 c4 c5 c0 c2
  -- a number of its own for a sector that is not there
  obtain ⟨n, hn⟩ : ∃ n, n = D.row.length := ⟨_, rfl⟩
  rw [← hn] at c1
  have HN := Lib.hid hn
  have hnb : n ≤ 1000000000 := by have h1 := HD.out.ok.rowW; have h2 := HD.out.ok.writesS; omega
  obtain ⟨T, hT0, hTs, hTe⟩ : ∃ T : Nat → Nat, T 0 = 0 ∧ (∀ k x, D.row[k]? = some x → T (k + 1) = if (x.1 : Int) = i then T k + 1 else T k) ∧ ((T n : Nat) : Int) = D.waitsN i := by
    by_cases hi : 0 ≤ i
    · obtain ⟨j, rfl⟩ : ∃ j : Nat, i = (j : Int) := ⟨i.toNat, by omega⟩
      refine ⟨fun k => countOf (D.row.take k) j, rfl, fun k x hx => ?_, ?_⟩
      · by_cases hxj : x.1 = j
        · rw [if_pos (by omega)]; exact countOf_yes hx hxj
        · rw [if_neg (by omega)]; exact countOf_no hx hxj
      · show ((countOf (D.row.take n) j : Nat) : Int) = _
        rw [hn, List.take_length]
        unfold DevS.waitsN countOf
        cases hin : D.isIn (j : Int) with
        | true => rw [if_pos rfl, Int.toNat_natCast]; rfl
        | false =>
          have : D.sec.length ≤ j := by
            rcases Nat.lt_or_ge j D.sec.length with h1 | h1
            · have := DevS.isIn_iff.2 ⟨hi, (by omega : (j : Int) < D.sec.length)⟩
              rw [hin] at this
              cases this
            · exact h1
          have h0 := DevS.waits_nil_of_ge HD.out.ok this
          unfold DevS.waits at h0
          rw [h0]
          rfl
    · refine ⟨fun _ => 0, rfl, fun k x hx => by rw [if_neg (by omega)], ?_⟩
      have hin : D.isIn i = false := by unfold DevS.isIn; simp; omega
      unfold DevS.waitsN
      rw [hin]
      rfl
  have HT0 := Lib.hid hT0
  have HTS := Lib.hid hTs
  have HTE := Lib.hid hTe
  clear hT0 hTs hTe hn
  go_enter Try.func27, Try.ntmps27
  go_wp2_with fail
  go_loop [5, 6] (fun s c => ∃ k : Nat, k ≤ n ∧ c = .int .i64 (k : Int) ∧ T k ≤ k ∧ s = .int .i64 ((T k : Nat) : Int)) (fun _ c => n - (intOf c).toNat)
  case atStart => exact ⟨0, Nat.zero_le _, rfl, by rw [HT0.out]; omega, by rw [HT0.out]; rfl⟩
  case round =>
    obtain ⟨k, hk, rfl, htk, rfl⟩ := hrel
    by_cases hlt : k < n
    · obtain ⟨x, hx⟩ : ∃ x, D.row[k]? = some x := ⟨_, List.getElem?_eq_getElem (by rw [← HN.out]; exact hlt)⟩
      obtain ⟨b, hA, hbS, hblt, hbg, hbl, d0, d1⟩ := HD.out.wait hx
      subst hA
      have HX := Lib.hid hx
      clear hx hbg hbl
      by_cases hxi : (x.1 : Int) = i
      · have r1 : ((x.1 : Int) == i) = true := by simp [hxi]
        have HE : Hid (T (k + 1) = T k + 1) := show _ = _ by rw [HTS.out k x HX.out, if_pos hxi]
        clear hxi
        go_wp2_with fail
        go_round
        case rel => exact ⟨k + 1, by omega, by go_num, by rw [HE.out]; omega, by rw [HE.out]; go_num⟩
        case measure => simp [intOf]; omega
      · have r1 : ((x.1 : Int) == i) = false := by simp [hxi]
        have HE : Hid (T (k + 1) = T k) := show _ = _ by rw [HTS.out k x HX.out, if_neg hxi]
        clear hxi
        go_wp2_with fail
        go_round
        case rel => exact ⟨k + 1, by omega, by go_num, by rw [HE.out]; omega, by rw [HE.out]⟩
        case measure => simp [intOf]; omega
    · go_wp2_with fail
      go_ret
      obtain rfl : k = n := by omega
      exact ⟨rret_int HTE.out, rfl⟩
end Go.Proofs.Ytchldjjfaiikbaa

/- Merged by program: CursorTurns. -/
import Derived.Test.YtllafbcnikoohaaC18
/- CursorTurns' walk. -/
namespace Go.Proofs.Ytllafbcnikoohaa
open Go.RowKit
set_option maxRecDepth 100000
set_option linter.unusedVariables false
set_option linter.unusedSimpArgs false
theorem spot_facts (L : List En) (key : ByteArray) : (∀ j (h : j < L.length), j < Tr.spotE L key → Nd.lt L[j].cell.key key = true) ∧ ∀ h : Tr.spotE L key < L.length, Nd.lt L[Tr.spotE L key].cell.key key = false := by
  refine ⟨fun j h hj => ?_, fun h => ?_⟩
  · have h1 := List.not_of_lt_findIdx (p := fun c : Ce => !Nd.lt c.key key) (xs := L.map (·.cell)) (show j < (L.map (·.cell)).findIdx _ from hj)
    simpa using h1
  · have h1 := List.findIdx_getElem (p := fun c : Ce => !Nd.lt c.key key) (xs := L.map (·.cell)) (w := by rw [List.length_map]; exact h)
    simpa [Tr.spotE, Nd.spot] using h1
theorem seek_none {L : List En} {key : ByteArray} (h : ¬ Tr.spotE L key < L.length) : seekO L key = none := if_neg h
theorem seek_some {L : List En} {key : ByteArray} (h : Tr.spotE L key < L.length) : seekO L key = some (Tr.spotE L key) := if_pos h
set_option maxHeartbeats 16000000 in
theorem cursorTurns_walk (A : Option Addr) (n cap : Nat) (K V : Nat → ByteArray) (key : ByteArray) (w : World) (hn : n ≤ maxLen) (ha : PairsAt w A n K V) (hks : key.size ≤ maxLen) :
    Calls Try.prog 3 #[.slice A n cap, .string key] w (Holds w) := by
  have HA := Lib.hid (awake10 w)
  have HP := Lib.hid ha
  clear ha
  go_enter Try.func3, Try.ntmps3
  go_wp2_with fail
  refine HA.out.mono ?_
  rintro e w1 ⟨rfl, hb⟩
  have HB1 := Lib.hid hb
  have HG := Lib.hid (grown_any A n cap K V w1 (fun i hi => by
    obtain ⟨b, o, e, hl, q0, q1⟩ := HP.out i hi
    exact ⟨b, o, e, Nat.lt_of_lt_of_le hl hb.size, (World.cell?_of_block (a := ⟨b, o + i * 2, none⟩) (hb.block b hl)).trans q0, (World.cell?_of_block (a := ⟨b, o + i * 2 + 1, none⟩) (hb.block b hl)).trans q1⟩) hn)
  clear hb
  go_wp2_with fail
  refine HG.out.mono ?_
  rintro e w2 ⟨h, S, σ, root, P, L, g, c, rfl, hgr, hL, hb2, hfd⟩
  have HB2 := Lib.hid (HB1.out.trans (hb2.mono HB1.out.size))
  by_cases hk : 1000 < key.size
  · have z1 : decide ((1000 : Int) < (key.size : Int)) = true := decide_eq_true (by omega)
    have z2 : decide (1000 < key.size) = true := decide_eq_true hk
    clear hgr hL hb2 hfd
    go_wp2_with fail
    go_ret
    exact ⟨rfl, HB2.out⟩
  have z1 : decide ((1000 : Int) < (key.size : Int)) = false := decide_eq_false (by omega)
  have z2 : decide (1000 < key.size) = false := decide_eq_false hk
  have HWH := Lib.hid (hgr.root.whole hgr.nodup)
  have HKEYS := Lib.hid hgr.keys
  have HN := Lib.hid (CS.new (B := w.heap.size) ((heap_serves h).less hgr.heap (Nat.zero_le _)) root L [] (by simp) HB2.out.size)
  clear hgr hL hb2 hfd
  go_wp2_with fail
  refine HN.out.mono ?_
  rintro e w3 ⟨cp, rfl, hn⟩
  obtain ⟨U3, hc, hg, -, -⟩ := hn.out
  have HG3 := Lib.hid (HB2.out.trans hg.1)
  have HX := Lib.hid (hc.seek HWH.out key)
  clear hn hc hg
  by_cases hs : Tr.spotE L key < L.length
  case neg =>
    rw [seek_none hs] at HX
    go_wp2_with fail
    refine HX.out.mono ?_
    rintro e w4 ⟨rfl, hn⟩
    obtain ⟨U4, hc, hg⟩ := hn.out
    have HG4 := Lib.hid (HG3.out.trans hg.1)
    have hc' : CS h S σ cp root [] L w.heap.size w4 U4 none := hc
    have HK := Lib.hid hc'.key
    rw [show (cellAt L none).key = ⟨#[]⟩ from rfl] at HK
    have HO := Lib.hid hc'.old
    clear hn hc hg hc'
    go_wp2_with fail
    refine HK.out.mono ?_
    rintro e w5 ⟨rfl, hb⟩
    have HB5 := Lib.hid (HG4.out.trans (hb.out.mono HO.out))
    clear hb
    go_wp2_with fail
    go_ret
    exact ⟨rfl, HB5.out⟩
  obtain ⟨f1, f2⟩ := spot_facts L key
  have F1 := Lib.hid f1
  have F2 := Lib.hid f2
  rw [seek_some hs] at HX
  have HSS := Lib.hid (seek_some hs)
  obtain ⟨s, hse⟩ : ∃ s, s = Tr.spotE L key := ⟨_, rfl⟩
  rw [← hse] at HX F1 F2 HSS hs
  have HF2 := Lib.hid (F2.out hs)
  have HCK := Lib.hid (cellAt_key L s hs)
  obtain ⟨was, hwas⟩ : ∃ was, was = (L[s]'hs).cell.key := ⟨_, rfl⟩
  rw [← hwas] at HF2 HCK
  have hwk : was.size ≤ 120 := by rw [hwas]; exact (HKEYS.out _ (List.getElem_mem hs)).2
  have hrl : decide (rless was key < 0) = false := by
    unfold rless
    rw [HF2.out]
    simp only [Bool.false_eq_true, if_false]
    split <;> rfl
  have HRL := Lib.hid fun (W : World) => rless_any was key W (by omega)
  obtain ⟨rl, hrle⟩ : ∃ rl, rl = rless was key := ⟨_, rfl⟩
  rw [← hrle] at HRL hrl
  clear f1 f2 hse hwas hrle F2
  go_wp2_with fail
  refine HX.out.mono ?_
  rintro e w4 ⟨rfl, hn⟩
  obtain ⟨U4, hc, hg⟩ := hn.out
  have hc' : CS h S σ cp root [] L w.heap.size w4 U4 (some s) := hc
  have HG4 := Lib.hid (HG3.out.trans hg.1)
  have HK := Lib.hid hc'.key
  rw [HCK.out] at HK
  have HC4 := Lib.hid hc'
  clear hn hc hg hc'
  go_wp2_with fail
  refine HK.out.mono ?_
  rintro e w5 ⟨rfl, hb⟩
  have HC5 := Lib.hid (HC4.out.below hb.out)
  have HG5 := Lib.hid (HG4.out.trans (hb.out.mono HC4.out.old))
  clear hb
  go_wp2_with fail
  refine (HRL.out _).mono ?_
  rintro e w6 ⟨rfl, hb⟩
  have HC6 := Lib.hid (HC5.out.below hb)
  have HG6 := Lib.hid (HG5.out.trans (hb.mono HC5.out.old))
  have HX6 := Lib.hid HC6.out.next
  clear hb
  by_cases hnx : s + 1 < L.length
  · rw [show nextO L (some s) = some (s + 1) from if_pos hnx] at HX6
    go_wp2_with fail
    refine HX6.out.mono ?_
    rintro e w7 ⟨rfl, hn⟩
    obtain ⟨U7, hc, hg⟩ := hn.out
    have hc' : CS h S σ cp root [] L w.heap.size w7 U7 (some (s + 1)) := hc
    have HG7 := Lib.hid (HG6.out.trans hg.1)
    have HX7 := Lib.hid hc'.prev
    rw [show prevO (some (s + 1)) = some s from rfl] at HX7
    clear hn hc hg hc'
    go_wp2_with fail
    refine HX7.out.mono ?_
    rintro e w8 ⟨rfl, hn⟩
    obtain ⟨U8, hc, hg⟩ := hn.out
    have hc' : CS h S σ cp root [] L w.heap.size w8 U8 (some s) := hc
    have HG8 := Lib.hid (HG7.out.trans hg.1)
    have HX8 := Lib.hid hc'.key
    rw [HCK.out] at HX8
    have HC8 := Lib.hid hc'
    clear hn hc hg hc'
    go_wp2_with fail
    refine HX8.out.mono ?_
    rintro e w9 ⟨rfl, hb⟩
    have HC9 := Lib.hid (HC8.out.below hb.out)
    have HG9 := Lib.hid (HG8.out.trans (hb.out.mono HC8.out.old))
    clear hb
    have HY := Lib.hid (HC9.out.seek HWH.out key)
    rw [HSS.out] at HY
    go_wp2_with fail
    refine HY.out.mono ?_
    rintro e w10 ⟨rfl, hn⟩
    obtain ⟨U10, hc, hg⟩ := hn.out
    have hc' : CS h S σ cp root [] L w.heap.size w10 U10 (some s) := hc
    have HG10 := Lib.hid (HG9.out.trans hg.1)
    have HY2 := Lib.hid hc'.prev
    clear hn hc hg hc'
    by_cases hs0 : s = 0
    · rw [show prevO (some s) = none from if_pos hs0] at HY2
      go_wp2_with fail
      refine HY2.out.mono ?_
      rintro e w11 ⟨rfl, hn⟩
      obtain ⟨U11, hc, hg⟩ := hn.out
      have HG11 := Lib.hid (HG10.out.trans hg.1)
      clear hn hc hg
      go_wp2_with fail
      go_ret
      exact ⟨rfl, HG11.out⟩
    · rw [show prevO (some s) = some (s - 1) from if_neg hs0] at HY2
      have hs1 : s - 1 < L.length := by omega
      have hlt : Nd.lt (L[s - 1]'hs1).cell.key key = true := F1.out (s - 1) hs1 (by omega)
      have HCK1 := Lib.hid (cellAt_key L (s - 1) hs1)
      have hk1 : (L[s - 1]'hs1).cell.key.size ≤ 120 := (HKEYS.out _ (List.getElem_mem hs1)).2
      obtain ⟨k1, hk1e⟩ : ∃ k1, k1 = (L[s - 1]'hs1).cell.key := ⟨_, rfl⟩
      rw [← hk1e] at hlt HCK1 hk1
      have HRL1 := Lib.hid fun (W : World) => rless_any k1 key W (by omega)
      rw [show rless k1 key = -1 from by unfold rless; rw [if_pos hlt]] at HRL1
      clear hk1e hlt
      go_wp2_with fail
      refine HY2.out.mono ?_
      rintro e w11 ⟨rfl, hn⟩
      obtain ⟨U11, hc, hg⟩ := hn.out
      have hc' : CS h S σ cp root [] L w.heap.size w11 U11 (some (s - 1)) := hc
      have HG11 := Lib.hid (HG10.out.trans hg.1)
      have HY3 := Lib.hid hc'.key
      rw [HCK1.out] at HY3
      have HC11 := Lib.hid hc'
      clear hn hc hg hc'
      go_wp2_with fail
      refine HY3.out.mono ?_
      rintro e w12 ⟨rfl, hb⟩
      have HC12 := Lib.hid (HC11.out.below hb.out)
      have HG12 := Lib.hid (HG11.out.trans (hb.out.mono HC11.out.old))
      clear hb
      go_wp2_with fail
      refine (HRL1.out _).mono ?_
      rintro e w13 ⟨rfl, hb⟩
      have HC13 := Lib.hid (HC12.out.below hb)
      have HG13 := Lib.hid (HG12.out.trans (hb.mono HC12.out.old))
      have HY4 := Lib.hid HC13.out.next
      rw [show nextO L (some (s - 1)) = some s from by show (if s - 1 + 1 < L.length then some (s - 1 + 1) else none) = some s; rw [show s - 1 + 1 = s by omega, if_pos hs]] at HY4
      clear hb
      go_wp2_with fail
      refine HY4.out.mono ?_
      rintro e w14 ⟨rfl, hn⟩
      obtain ⟨U14, hc, hg⟩ := hn.out
      have hc' : CS h S σ cp root [] L w.heap.size w14 U14 (some s) := hc
      have HG14 := Lib.hid (HG13.out.trans hg.1)
      have HY5 := Lib.hid hc'.key
      rw [HCK.out] at HY5
      have HO14 := Lib.hid hc'.old
      clear hn hc hg hc'
      go_wp2_with fail
      refine HY5.out.mono ?_
      rintro e w15 ⟨rfl, hb⟩
      have HG15 := Lib.hid (HG14.out.trans (hb.out.mono HO14.out))
      clear hb
      go_wp2_with fail
      go_ret
      exact ⟨rfl, HG15.out⟩
  · rw [show nextO L (some s) = none from if_neg hnx] at HX6
    go_wp2_with fail
    refine HX6.out.mono ?_
    rintro e w7 ⟨rfl, hn⟩
    obtain ⟨U7, hc, hg⟩ := hn.out
    have HG7 := Lib.hid (HG6.out.trans hg.1)
    have HC7 := Lib.hid hc
    clear hn hc hg
    have HY := Lib.hid (HC7.out.seek HWH.out key)
    rw [HSS.out] at HY
    go_wp2_with fail
    refine HY.out.mono ?_
    rintro e w10 ⟨rfl, hn⟩
    obtain ⟨U10, hc, hg⟩ := hn.out
    have hc' : CS h S σ cp root [] L w.heap.size w10 U10 (some s) := hc
    have HG10 := Lib.hid (HG7.out.trans hg.1)
    have HY2 := Lib.hid hc'.prev
    clear hn hc hg hc'
    by_cases hs0 : s = 0
    · rw [show prevO (some s) = none from if_pos hs0] at HY2
      go_wp2_with fail
      refine HY2.out.mono ?_
      rintro e w11 ⟨rfl, hn⟩
      obtain ⟨U11, hc, hg⟩ := hn.out
      have HG11 := Lib.hid (HG10.out.trans hg.1)
      clear hn hc hg
      go_wp2_with fail
      go_ret
      exact ⟨rfl, HG11.out⟩
    · rw [show prevO (some s) = some (s - 1) from if_neg hs0] at HY2
      have hs1 : s - 1 < L.length := by omega
      have hlt : Nd.lt (L[s - 1]'hs1).cell.key key = true := F1.out (s - 1) hs1 (by omega)
      have HCK1 := Lib.hid (cellAt_key L (s - 1) hs1)
      have hk1 : (L[s - 1]'hs1).cell.key.size ≤ 120 := (HKEYS.out _ (List.getElem_mem hs1)).2
      obtain ⟨k1, hk1e⟩ : ∃ k1, k1 = (L[s - 1]'hs1).cell.key := ⟨_, rfl⟩
      rw [← hk1e] at hlt HCK1 hk1
      have HRL1 := Lib.hid fun (W : World) => rless_any k1 key W (by omega)
      rw [show rless k1 key = -1 from by unfold rless; rw [if_pos hlt]] at HRL1
      clear hk1e hlt
      go_wp2_with fail
      refine HY2.out.mono ?_
      rintro e w11 ⟨rfl, hn⟩
      obtain ⟨U11, hc, hg⟩ := hn.out
      have hc' : CS h S σ cp root [] L w.heap.size w11 U11 (some (s - 1)) := hc
      have HG11 := Lib.hid (HG10.out.trans hg.1)
      have HY3 := Lib.hid hc'.key
      rw [HCK1.out] at HY3
      have HC11 := Lib.hid hc'
      clear hn hc hg hc'
      go_wp2_with fail
      refine HY3.out.mono ?_
      rintro e w12 ⟨rfl, hb⟩
      have HC12 := Lib.hid (HC11.out.below hb.out)
      have HG12 := Lib.hid (HG11.out.trans (hb.out.mono HC11.out.old))
      clear hb
      go_wp2_with fail
      refine (HRL1.out _).mono ?_
      rintro e w13 ⟨rfl, hb⟩
      have HC13 := Lib.hid (HC12.out.below hb)
      have HG13 := Lib.hid (HG12.out.trans (hb.mono HC12.out.old))
      have HY4 := Lib.hid HC13.out.next
      rw [show nextO L (some (s - 1)) = some s from by show (if s - 1 + 1 < L.length then some (s - 1 + 1) else none) = some s; rw [show s - 1 + 1 = s by omega, if_pos hs]] at HY4
      clear hb
      go_wp2_with fail
      refine HY4.out.mono ?_
      rintro e w14 ⟨rfl, hn⟩
      obtain ⟨U14, hc, hg⟩ := hn.out
      have hc' : CS h S σ cp root [] L w.heap.size w14 U14 (some s) := hc
      have HG14 := Lib.hid (HG13.out.trans hg.1)
      have HY5 := Lib.hid hc'.key
      rw [HCK.out] at HY5
      have HO14 := Lib.hid hc'.old
      clear hn hc hg hc'
      go_wp2_with fail
      refine HY5.out.mono ?_
      rintro e w15 ⟨rfl, hb⟩
      have HG15 := Lib.hid (HG14.out.trans (hb.out.mono HO14.out))
      clear hb
      go_wp2_with fail
      go_ret
      exact ⟨rfl, HG15.out⟩
end Go.Proofs.Ytllafbcnikoohaa

/- Merged by program: CursorRuns. -/
import Derived.Test.YtllafbcnikoohaaC21
/- CursorRuns' walk. -/
namespace Go.Proofs.Ytllafbcnikoohaa
open Go.RowKit
set_option maxRecDepth 100000
set_option linter.unusedVariables false
set_option linter.unusedSimpArgs false
section
variable {h : Nat} {S : List Nat} {σ : Book} {c root : Nat} {R : List Nat} {L : List En} {B : Nat} {w w' : World} {U : List Nat} {o o' : Option Nat}
theorem CS.value {i : Nat} (hc : CS h S σ c root R L B w U (some i)) (hi : i < L.length) (hok : ∀ e ∈ L, Tr.EnOk σ e) : Calls Try.prog 19 #[.pointer (some ⟨c, 0, none⟩)] w (fun e w' => e = .returned (.tuple #[.string ⟨(L[i].val).toArray⟩, .int .i64 0]) ∧ Hid (Below w.heap.size w w')) :=
  (cvalue_some (heap_serves h) hc.is hi hok).mono fun e w' ⟨h1, h2⟩ => ⟨by rw [h1]; show Ending.returned (.tuple #[.string ⟨(((L[i]?).map (·.val)).getD []).toArray⟩, _]) = _; rw [List.getElem?_eq_getElem hi]; rfl, Lib.hid h2⟩
theorem CS.value0 (hc : CS h S σ c root R L B w U none) : Calls Try.prog 19 #[.pointer (some ⟨c, 0, none⟩)] w (fun e w' => e = .returned (.tuple #[.string ⟨#[]⟩, .int .i64 7]) ∧ Hid (Below w.heap.size w w')) :=
  (cvalue_none hc.is).mono fun e w' ⟨h1, h2⟩ => ⟨h1, Lib.hid h2⟩
end
theorem Tr.Root.ents {σ : Book} {root : Nat} {P : List Nat} {L : List En} (h : Tr.Root σ root P L) : ∀ e ∈ L, Tr.EnOk σ e := by
  rcases h with ⟨-, -, rfl⟩ | ⟨d, h⟩
  · simp
  · exact h.ents
set_option maxHeartbeats 16000000 in
theorem cursorRuns_walk (A : Option Addr) (n cap : Nat) (K V : Nat → ByteArray) (w : World) (hn : n ≤ maxLen) (ha : PairsAt w A n K V) :
    Calls Try.prog 7 #[.slice A n cap] w (Holds w) := by
  have HA := Lib.hid (awake10 w)
  have HP := Lib.hid ha
  clear ha
  go_enter Try.func7, Try.ntmps7
  go_wp2_with fail
  refine HA.out.mono ?_
  rintro e w1 ⟨rfl, hb⟩
  have HB1 := Lib.hid hb
  have HG := Lib.hid (grown_any A n cap K V w1 (fun i hi => by
    obtain ⟨b, o, e, hl, q0, q1⟩ := HP.out i hi
    exact ⟨b, o, e, Nat.lt_of_lt_of_le hl hb.size, (World.cell?_of_block (a := ⟨b, o + i * 2, none⟩) (hb.block b hl)).trans q0, (World.cell?_of_block (a := ⟨b, o + i * 2 + 1, none⟩) (hb.block b hl)).trans q1⟩) hn)
  clear hb
  go_wp2_with fail
  refine HG.out.mono ?_
  rintro e w2 ⟨h, S, σ, root, P, L, g, c, rfl, hgr, hL, hb2, hfd⟩
  have HB2 := Lib.hid (HB1.out.trans (hb2.mono HB1.out.size))
  have HWH := Lib.hid (hgr.root.whole hgr.nodup)
  have HOK := Lib.hid hgr.root.ents
  have hgl := (World.ownsRow.lt hgr.row g rfl).2
  have HROW := Lib.hid hgr.row
  have HN := Lib.hid (CS.new (B := w.heap.size) ((heap_serves h).less hgr.heap (Nat.zero_le _)) root L [g] (fun b hb => by rw [List.mem_singleton] at hb; subst hb; exact ⟨hgl, hgr.apart⟩) HB2.out.size)
  clear hgr hb2 hfd
  go_wp2_with fail
  refine HN.out.mono ?_
  rintro e w3 ⟨cp, rfl, hn⟩
  obtain ⟨U3, hc, hg, -, -⟩ := hn.out
  have HG3 := Lib.hid (HB2.out.trans hg.1)
  have HROW3 := Lib.hid (HROW.out.goes (by simp) hg)
  have HX := Lib.hid (hc.first HWH.out)
  obtain ⟨b0, hb0⟩ : ∃ b0, b0 = decide (L ≠ []) := ⟨_, rfl⟩
  obtain ⟨o0, ho0⟩ : ∃ o0, o0 = (if L = [] then none else some 0) := ⟨_, rfl⟩
  rw [← hb0, ← ho0] at HX
  have HB0 := Lib.hid hb0
  have HO0 := Lib.hid (show o0 = if 0 < L.length then some 0 else none from by
    rw [ho0]
    cases L <;> simp)
  have hbo : b0 = o0.isSome := by rw [hb0, ho0]; cases L <;> simp
  have HBO := Lib.hid hbo
  clear hn hc hg hb0 ho0 hbo
  go_wp2_with fail
  refine HX.out.mono ?_
  rintro e w4 ⟨rfl, hn⟩
  have HN4 := Lib.hid (show (∃ U, CS h S σ cp root [g] L w.heap.size w4 U o0) ∧ Below w.heap.size w w4 ∧ POwn w4 w1.heap.size (.slice (some ⟨g, 0, none⟩) L.length c) L from by
    obtain ⟨U, hc, hg⟩ := hn.out
    exact ⟨⟨U, hc⟩, HG3.out.trans hg.1, HROW3.out.goes (by simp) hg⟩)
  clear hn
  go_wp2_with fail
  go_loopw [8, 9, 10] (fun ok er i wr => Below w.heap.size w wr ∧ er = .int .i64 0 ∧ ∃ (j : Nat) (b : Bool) (o : Option Nat) (U : List Nat), i = .int .i64 j ∧ ok = .bool b ∧ b = o.isSome ∧ o = (if j < L.length then some j else none) ∧ j ≤ L.length ∧ CS h S σ cp root [g] L w.heap.size wr U o ∧ POwn wr w1.heap.size (.slice (some ⟨g, 0, none⟩) L.length c) L) (fun _ _ i _ => L.length - (intOf i).toNat)
  case atStart =>
    obtain ⟨⟨U, hc⟩, hb, hr⟩ := HN4.out
    exact ⟨hb, rfl, 0, b0, o0, U, rfl, rfl, HBO.out, HO0.out, Nat.zero_le _, hc, hr⟩
  case round =>
    obtain ⟨hbw, rfl, j, b, o, U, rfl, rfl, hb, ho, hj, hc, hr⟩ := hrel
    have HBW := Lib.hid hbw
    have HC := Lib.hid hc
    have HR := Lib.hid hr
    by_cases hlt : j < L.length
    case pos =>
      rw [if_pos hlt] at ho
      subst ho
      obtain rfl : b = true := hb
      have z1 : decide ((j : Int) < (L.length : Int)) = true := decide_eq_true (by omega)
      have HV := Lib.hid (hc.value hlt HOK.out)
      have HCK := Lib.hid (cellAt_key L j hlt)
      obtain ⟨x, hx⟩ : ∃ x, x = (L[j]'hlt) := ⟨_, rfl⟩
      rw [← hx] at HV HCK
      have HX9 := Lib.hid hx
      clear hbw hc hr hx
      go_wp2_with fail
      refine HV.out.mono ?_
      rintro e w5 ⟨rfl, hb5⟩
      have hc5 := HC.out.below hb5.out
      have HB5 := Lib.hid (HBW.out.trans (hb5.out.mono HC.out.old))
      have hr5 := HR.out.below hb5.out
      have HKYD := Lib.hid (hc5.below (Below.refl _ w5).drew).key
      rw [HCK.out] at HKYD
      have HC5 := Lib.hid hc5
      have HR5 := Lib.hid hr5
      clear hb5 hc5 hr5
      obtain ⟨g', hg', lg, -, q0, q1⟩ := HR5.out.at j hlt
      injection hg' with hg'
      injection hg' with hg'
      subst hg'
      rw [← HX9.out] at q0 q1
      obtain ⟨k, hk⟩ : ∃ k, k = x.cell.key := ⟨_, rfl⟩
      obtain ⟨v, hv⟩ : ∃ v : ByteArray, v = ⟨x.val.toArray⟩ := ⟨_, rfl⟩
      rw [← hk] at q0 HKYD
      rw [← hv] at q1 ⊢
      have e1 : (k.toList == k.toList) = true := by simp
      have e2 : (v.toList == v.toList) = true := by simp
      have e3 : (k.toList != k.toList) = false := by simp
      have e4 : (v.toList != v.toList) = false := by simp
      have y1 : (0 : Int) ≤ (j : Int) := by omega
      have y2 : (j : Int) < (L.length : Int) := by omega
      have HKS := Lib.hid (show ∀ W, Below w5.heap.size w5 W → W.cell? ⟨g, j * 2, none⟩ = some (.string k) ∧ W.cell? ⟨g, j * 2 + 1, none⟩ = some (.string v) from fun W hb => ⟨(World.cell?_of_block (a := ⟨g, j * 2, none⟩) (hb.block g lg)).trans q0, (World.cell?_of_block (a := ⟨g, j * 2 + 1, none⟩) (hb.block g lg)).trans q1⟩)
      clear hk hv
      go_wp2_with fail
      go_region_held3 (fun W => W.cell? ⟨g, j * 2, none⟩ = some (.string k) ∧ W.cell? ⟨g, j * 2 + 1, none⟩ = some (.string v)) (first | exact HKS.out _ (Below.refl _ _).drew | exact HKS.out _ hk6.out) (first | (go_at_call 12; refine HKYD.out.mono ?_; rintro e w6 ⟨rfl, hb6⟩; have hk6 := Lib.hid ((Below.refl _ w5).drew.trans hb6.out); clear hb6))
      all_goals
        have hc6 := HC5.out.below hk6.out
        have HB6 := Lib.hid (HB5.out.trans (hk6.out.mono HC5.out.old))
        have HR6 := Lib.hid (HR5.out.below hk6.out)
        have HNX := Lib.hid hc6.next
        have hno : nextO L (some j) = if j + 1 < L.length then some (j + 1) else none := rfl
        have HNO := Lib.hid hno
        obtain ⟨o2, ho2⟩ : ∃ o2, o2 = nextO L (some j) := ⟨_, rfl⟩
        obtain ⟨b2, hb2⟩ : ∃ b2, b2 = o2.isSome := ⟨_, rfl⟩
        rw [← ho2, ← hb2] at HNX
        have HO2 := Lib.hid ho2
        have HB2' := Lib.hid hb2
        clear hc6 hno ho2 hb2
        go_wp2_with fail
        refine HNX.out.mono ?_
        rintro e w7 ⟨rfl, hn⟩
        have HN7 := Lib.hid (show (∃ U, CS h S σ cp root [g] L w.heap.size w7 U o2) ∧ Below w.heap.size w w7 ∧ POwn w7 w1.heap.size (.slice (some ⟨g, 0, none⟩) L.length c) L from by
          obtain ⟨U, hc, hg⟩ := hn.out
          exact ⟨⟨U, hc⟩, HB6.out.trans hg.1, HR6.out.goes (by simp) hg⟩)
        clear hn
        go_wp2_with fail
        go_roundw
        case rel =>
          obtain ⟨⟨U7, hc7⟩, hb7, hr7⟩ := HN7.out
          first
            | exact ⟨hb7, trivial, j + 1, b2, o2, U7, by go_num, rfl, HB2'.out, HO2.out.trans HNO.out, by omega, hc7, hr7⟩
            | exact ⟨hb7, rfl, j + 1, b2, o2, U7, by go_num, rfl, HB2'.out, HO2.out.trans HNO.out, by omega, hc7, hr7⟩
        case measure => simp [intOf]; omega
    case neg =>
      rw [if_neg hlt] at ho
      subst ho
      obtain rfl : b = false := hb
      obtain rfl : j = L.length := by omega
      have z1 : decide ((L.length : Int) < (L.length : Int)) = false := decide_eq_false (by omega)
      have HX := Lib.hid (hc.last HWH.out)
      obtain ⟨b0, hb0⟩ : ∃ b0, b0 = decide (L ≠ []) := ⟨_, rfl⟩
      obtain ⟨o0, ho0⟩ : ∃ o0, o0 = (if L = [] then none else some (L.length - 1)) := ⟨_, rfl⟩
      rw [← hb0, ← ho0] at HX
      have HBO2 := Lib.hid (show b0 = o0.isSome from by rw [hb0, ho0]; cases L <;> simp)
      have HO2 := Lib.hid (show o0 = if 0 < L.length then some (L.length - 1) else none from by
        rw [ho0]
        cases L <;> simp)
      clear hbw hc hr hb0 ho0
      go_wp2_with fail
      refine HX.out.mono ?_
      rintro e w5 ⟨rfl, hn⟩
      have HN5 := Lib.hid (show (∃ U, CS h S σ cp root [g] L w.heap.size w5 U o0) ∧ Below w.heap.size w w5 ∧ POwn w5 w1.heap.size (.slice (some ⟨g, 0, none⟩) L.length c) L from by
        obtain ⟨U, hc, hg⟩ := hn.out
        exact ⟨⟨U, hc⟩, HBW.out.trans hg.1, HR.out.goes (by simp) hg⟩)
      clear hn
      go_wp2_with fail
      go_loopw [8, 9, 13] (fun ok er i wr => Below w.heap.size w wr ∧ er = .int .i64 0 ∧ ∃ (j : Nat) (nn : Int) (b : Bool) (o : Option Nat) (U : List Nat), i = .int .i64 nn ∧ nn = (j : Int) - 1 ∧ ok = .bool b ∧ b = o.isSome ∧ o = (if 0 < j then some (j - 1) else none) ∧ j ≤ L.length ∧ CS h S σ cp root [g] L w.heap.size wr U o ∧ POwn wr w1.heap.size (.slice (some ⟨g, 0, none⟩) L.length c) L) (fun _ _ i _ => (intOf i + 1).toNat)
      case atStart =>
        obtain ⟨⟨U, hc⟩, hb, hr⟩ := HN5.out
        exact ⟨hb, rfl, L.length, _, b0, o0, U, rfl, rfl, rfl, HBO2.out, HO2.out, Nat.le_refl _, hc, hr⟩
      case round =>
        obtain ⟨hbw, rfl, j, nn, b, o, U, rfl, hnn, rfl, hb, ho, hj, hc, hr⟩ := hrel
        have HBW := Lib.hid hbw
        have HC := Lib.hid hc
        have HR := Lib.hid hr
        cases j with
        | zero =>
          obtain rfl : nn = -1 := by omega
          rw [if_neg (by omega)] at ho
          subst ho
          obtain rfl : b = false := hb
          clear hbw hc hr hnn hj
          go_wp2_with fail
          go_ret
          exact ⟨rfl, HBW.out⟩
        | succ m =>
          obtain rfl : nn = (m : Int) := by omega
          rw [if_pos (by omega), Nat.add_sub_cancel] at ho
          subst ho
          obtain rfl : b = true := hb
          have hm : m < L.length := by omega
          have HCK := Lib.hid (cellAt_key L m hm)
          obtain ⟨k, hk⟩ : ∃ k, k = (L[m]'hm).cell.key := ⟨_, rfl⟩
          obtain ⟨g', hg', lg, -, q0, -⟩ := hr.at m hm
          injection hg' with hg'
          injection hg' with hg'
          subst hg'
          rw [← hk] at q0 HCK
          have e1 : (k.toList == k.toList) = true := by simp
          have e3 : (k.toList != k.toList) = false := by simp
          have y1 : (0 : Int) ≤ (m : Int) := by omega
          have y2 : (m : Int) < (L.length : Int) := by omega
          have y3 : decide ((0 : Int) ≤ (m : Int)) = true := decide_eq_true y1
          have HKS := Lib.hid (show ∀ W, Below wr.heap.size wr W → W.cell? ⟨g, m * 2, none⟩ = some (.string k) from fun W hb => (World.cell?_of_block (a := ⟨g, m * 2, none⟩) (hb.block g lg)).trans q0)
          have HKYD := Lib.hid (hc.below (Below.refl _ wr).drew).key
          rw [HCK.out] at HKYD
          clear hbw hc hr hnn hk
          go_wp2_with fail
          go_region_held3 (fun W => W.cell? ⟨g, m * 2, none⟩ = some (.string k)) (first | exact HKS.out _ (Below.refl _ _).drew | exact HKS.out _ hk6.out) (first | (go_at_call 12; refine HKYD.out.mono ?_; rintro e w6 ⟨rfl, hb6⟩; have hk6 := Lib.hid ((Below.refl _ wr).drew.trans hb6.out); clear hb6))
          all_goals
            have hc6 := HC.out.below hk6.out
            have HB6 := Lib.hid (HBW.out.trans (hk6.out.mono HC.out.old))
            have HR6 := Lib.hid (HR.out.below hk6.out)
            have HNX := Lib.hid hc6.prev
            have hno : prevO (some m) = if 0 < m then some (m - 1) else none := by
              show (if m = 0 then none else some (m - 1)) = _
              by_cases h0 : m = 0
              · rw [if_pos h0, if_neg (by omega)]
              · rw [if_neg h0, if_pos (by omega)]
            have HNO := Lib.hid hno
            obtain ⟨o2, ho2⟩ : ∃ o2, o2 = prevO (some m) := ⟨_, rfl⟩
            obtain ⟨b2, hb2⟩ : ∃ b2, b2 = o2.isSome := ⟨_, rfl⟩
            rw [← ho2, ← hb2] at HNX
            have HO3 := Lib.hid ho2
            have HB3 := Lib.hid hb2
            clear hc6 hno ho2 hb2
            go_wp2_with fail
            refine HNX.out.mono ?_
            rintro e w7 ⟨rfl, hn⟩
            have HN7 := Lib.hid (show (∃ U, CS h S σ cp root [g] L w.heap.size w7 U o2) ∧ Below w.heap.size w w7 ∧ POwn w7 w1.heap.size (.slice (some ⟨g, 0, none⟩) L.length c) L from by
              obtain ⟨U, hc, hg⟩ := hn.out
              exact ⟨⟨U, hc⟩, HB6.out.trans hg.1, HR6.out.goes (by simp) hg⟩)
            clear hn
            go_wp2_with fail
            go_roundw
            case rel =>
              obtain ⟨⟨U7, hc7⟩, hb7, hr7⟩ := HN7.out
              first
                | exact ⟨hb7, trivial, m, _, b2, o2, U7, rfl, by go_num, rfl, HB3.out, HO3.out.trans HNO.out, by omega, hc7, hr7⟩
                | exact ⟨hb7, rfl, m, _, b2, o2, U7, rfl, by go_num, rfl, HB3.out, HO3.out.trans HNO.out, by omega, hc7, hr7⟩
            case measure => simp [intOf]
end Go.Proofs.Ytllafbcnikoohaa

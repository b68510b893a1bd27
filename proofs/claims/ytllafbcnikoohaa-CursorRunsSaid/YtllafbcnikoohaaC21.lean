/- Merged by program: Count CursorCounts. -/
import Derived.Test.YtllafbcnikoohaaC20
/- Keys between two others: cursor.Count, the reference's Count. -/
namespace Go.Proofs.Ytllafbcnikoohaa
open Go.RowKit
set_option maxRecDepth 100000
set_option linter.unusedVariables false
set_option linter.unusedSimpArgs false
/-- Is a key from low on, below high? -/
def inR (low high : ByteArray) (e : En) : Bool := !Nd.lt e.cell.key low && (high.toList.isEmpty || Nd.lt e.cell.key high)
theorem Tr.Root.rising {σ : Book} {root : Nat} {P : List Nat} {L : List En} (h : Tr.Root σ root P L) : Tr.Rising L := by
  rcases h with ⟨-, -, rfl⟩ | ⟨d, cs, P', rfl, g1, g2, g3, hp, -⟩
  · exact List.Pairwise.nil
  · exact hp.rising
theorem count_eq {L : List En} (hr : Tr.Rising L) (low high : ByteArray) (i : Nat) (hs : Tr.spotE L low ≤ i) (hi : i ≤ L.length) (h1 : ∀ j (h : j < L.length), Tr.spotE L low ≤ j → j < i → (high.toList.isEmpty || Nd.lt L[j].cell.key high) = true)
    (h2 : ∀ h : i < L.length, (high.toList.isEmpty || Nd.lt L[i].cell.key high) = false) : L.countP (inR low high) = i - Tr.spotE L low := by
  obtain ⟨f1, f2⟩ := spot_facts L low
  have hrr := List.pairwise_iff_getElem.1 hr
  have e : L = L.take (Tr.spotE L low) ++ ((L.drop (Tr.spotE L low)).take (i - Tr.spotE L low) ++ L.drop i) := by
    have : (L.drop (Tr.spotE L low)).drop (i - Tr.spotE L low) = L.drop i := by rw [List.drop_drop]; congr 1; omega
    rw [← this, List.take_append_drop, List.take_append_drop]
  have c1 : (L.take (Tr.spotE L low)).countP (inR low high) = 0 := by
    rw [List.countP_eq_zero]
    intro x hx
    obtain ⟨j, hj, rfl⟩ := List.mem_iff_getElem.1 hx
    rw [List.length_take] at hj
    rw [List.getElem_take]
    have := f1 j (by omega) (by omega)
    simp [inR, this]
  have c3 : (L.drop i).countP (inR low high) = 0 := by
    rw [List.countP_eq_zero]
    intro x hx
    obtain ⟨j, hj, rfl⟩ := List.mem_iff_getElem.1 hx
    rw [List.length_drop] at hj
    rw [List.getElem_drop]
    have h3 := h2 (by omega)
    simp only [Bool.or_eq_false_iff] at h3
    have h4 : Nd.lt L[i + j].cell.key high = false := by
      by_cases hj0 : j = 0
      · subst hj0; exact h3.2
      · have h5 := hrr i (i + j) (by omega) (by omega) (by omega)
        cases hc : Nd.lt L[i + j].cell.key high with
        | false => rfl
        | true => rw [Nd.lt_trans h5 hc] at h3; cases h3.2
    simp [inR, h3.1, h4]
  have c2 : ((L.drop (Tr.spotE L low)).take (i - Tr.spotE L low)).countP (inR low high) = i - Tr.spotE L low := by
    have hl : ((L.drop (Tr.spotE L low)).take (i - Tr.spotE L low)).length = i - Tr.spotE L low := by rw [List.length_take, List.length_drop]; omega
    conv => rhs; rw [← hl]
    rw [List.countP_eq_length]
    intro x hx
    obtain ⟨j, hj, rfl⟩ := List.mem_iff_getElem.1 hx
    rw [hl] at hj
    rw [List.getElem_take, List.getElem_drop]
    have h3 := h1 (Tr.spotE L low + j) (by omega) (by omega) (by omega)
    have h4 : Nd.lt L[Tr.spotE L low + j].cell.key low = false := by
      by_cases hj0 : j = 0
      · subst hj0; exact f2 (by omega)
      · have h5 := hrr (Tr.spotE L low) (Tr.spotE L low + j) (by omega) (by omega) (by omega)
        have h6 := f2 (by omega)
        cases hc : Nd.lt L[Tr.spotE L low + j].cell.key low with
        | false => rfl
        | true => rw [Nd.lt_trans h5 hc] at h6; cases h6
    simp only [inR, h4, h3, Bool.not_false, Bool.and_self]
  conv => lhs; rw [e]
  rw [List.countP_append, List.countP_append, c1, c2, c3]
  omega
theorem empty_facts (s : ByteArray) (q : Bool) (h : s.toList.isEmpty = q) : (s.toList == []) = q ∧ (s.toList == (⟨#[]⟩ : ByteArray).toList) = q := by
  have e : (⟨#[]⟩ : ByteArray).toList = [] := by rw [ByteArray.toList_eq]
  rw [e]
  cases hs : s.toList with
  | nil => rw [hs] at h; subst h; exact ⟨rfl, rfl⟩
  | cons a t => rw [hs] at h; subst h; exact ⟨rfl, rfl⟩
set_option maxHeartbeats 16000000 in
theorem ccount_any {h : Nat} {w : World} {S : List Nat} {σ : Book} {root : Nat} {P : List Nat} {L : List En} (hat : (heapStore h).At w S σ 0) (hwh : Whole σ root L) (hr : Tr.Rising L) (hL : L.length ≤ 100) (low high : ByteArray) :
    Calls Try.prog 16 #[.iface 24 (.pointer (some ⟨h, 0, none⟩)), .int .i64 root, .string low, .string high] w (fun e w' => e = .returned (.tuple #[.int .i64 (L.countP (inR low high)), .int .i64 0]) ∧ Below w.heap.size w w') := by
  have HN := Lib.hid (CS.new (B := w.heap.size) hat root L [] (by simp) (Nat.le_refl _))
  have HWH := Lib.hid hwh
  have HR := Lib.hid hr
  obtain ⟨s, hs⟩ : ∃ s, s = Tr.spotE L low := ⟨_, rfl⟩
  have hsl := Tr.spotE_le L low
  rw [← hs] at hsl
  have HS := Lib.hid hs
  have hso : seekO L low = if s + 0 < L.length then some (s + 0) else none := by unfold seekO; rw [← hs]; rfl
  have HSO := Lib.hid hso
  have HCE := Lib.hid fun (q : Nat) => count_eq hr low high q
  clear hat hwh hr hs hso
  obtain ⟨em, hem⟩ : ∃ em, high.toList.isEmpty = em := ⟨_, rfl⟩
  obtain ⟨x1, x2⟩ := empty_facts high em hem
  go_enter Try.func16, Try.ntmps16
  go_wp2_with fail
  refine HN.out.mono ?_
  rintro e w1 ⟨cp, rfl, hn⟩
  obtain ⟨U1, hc, hg, -, -⟩ := hn.out
  have HG1 := Lib.hid hg.1
  have HX := Lib.hid (hc.seek HWH.out low)
  rw [HSO.out] at HX
  obtain ⟨o0, ho0⟩ : ∃ o0, o0 = (if s + 0 < L.length then some (s + 0) else none) := ⟨_, rfl⟩
  rw [← ho0] at HX
  obtain ⟨b0, hb0⟩ : ∃ b0, b0 = o0.isSome := ⟨_, rfl⟩
  rw [← hb0] at HX
  have HO0 := Lib.hid ho0
  have HB0 := Lib.hid hb0
  clear hn hc hg ho0 hb0
  go_wp2_with fail
  refine HX.out.mono ?_
  rintro e w2 ⟨rfl, hn⟩
  have HN2 := Lib.hid (show ∃ U, CS h S σ cp root [] L w.heap.size w2 U o0 from by obtain ⟨U, hc, _⟩ := hn.out; exact ⟨U, hc⟩)
  have HG2 := Lib.hid (show Below w.heap.size w w2 from by obtain ⟨_, _, hg⟩ := hn.out; exact HG1.out.trans hg.1)
  clear hn
  go_wp2_with fail
  go_loopw [11, 12, 13] (fun nn ok er wr => Below w.heap.size w wr ∧ er = .int .i64 0 ∧ ∃ (m : Nat) (b : Bool) (o : Option Nat) (U : List Nat), nn = .int .i64 m ∧ ok = .bool b ∧ b = o.isSome ∧ o = (if s + m < L.length then some (s + m) else none) ∧ s + m ≤ L.length ∧ CS h S σ cp root [] L w.heap.size wr U o ∧ ∀ j (hj : j < L.length), s ≤ j → j < s + m → (em || Nd.lt L[j].cell.key high) = true) (fun nn _ _ _ => 200 - (intOf nn).toNat)
  case atStart => exact ⟨HG2.out, rfl, 0, b0, o0, HN2.out.choose, rfl, rfl, HB0.out, HO0.out, by omega, HN2.out.choose_spec, fun j hj h1 h2 => by omega⟩
  case round =>
    obtain ⟨hbw, rfl, m, b, o, U, rfl, rfl, hb, ho, hm, hc, hall⟩ := hrel
    have HBW := Lib.hid hbw
    have HC := Lib.hid hc
    have HALL := Lib.hid hall
    clear hbw hc hall
    by_cases hlt : s + m < L.length
    case neg =>
      rw [if_neg hlt] at ho
      subst ho
      obtain rfl : b = false := hb
      have hcnt : L.countP (inR low high) = m := by
        have h9 := HCE.out (s + m) (by rw [← HS.out]; omega) hm (fun j hj h1 h2 => by rw [hem]; exact HALL.out j hj (by rw [HS.out]; exact h1) h2) (fun hh => absurd hh hlt)
        rw [← HS.out] at h9
        omega
      have HCN := Lib.hid hcnt
      clear hcnt
      go_wp2_with fail
      go_ret2
      exact ⟨by rw [HCN.out]; rfl, HBW.out⟩
    rw [if_pos hlt] at ho
    subst ho
    obtain rfl : b = true := hb
    have HCK := Lib.hid (cellAt_key L (s + m) hlt)
    obtain ⟨k, hk⟩ : ∃ k, k = (L[s + m]'hlt).cell.key := ⟨_, rfl⟩
    rw [← hk] at HCK
    have HK := Lib.hid hk
    have hno : nextO L (some (s + m)) = if s + (m + 1) < L.length then some (s + (m + 1)) else none := rfl
    have HNO := Lib.hid hno
    have HKY := Lib.hid HC.out.key
    rw [HCK.out] at HKY
    obtain ⟨o2, ho2⟩ : ∃ o2, o2 = nextO L (some (s + m)) := ⟨_, rfl⟩
    obtain ⟨b2, hb2⟩ : ∃ b2, b2 = o2.isSome := ⟨_, rfl⟩
    have HO2 := Lib.hid ho2
    have HB2 := Lib.hid hb2
    clear hk hno ho2 hb2
    cases em with
    | true =>
      have HNX := Lib.hid HC.out.next
      rw [← HO2.out, ← HB2.out] at HNX
      go_wp2_with fail
      refine HNX.out.mono ?_
      rintro e w4 ⟨rfl, hn⟩
      have HN4 := Lib.hid (show (∃ U, CS h S σ cp root [] L w.heap.size w4 U o2) ∧ Below w.heap.size w w4 from by obtain ⟨U, hc, hg⟩ := hn.out; exact ⟨⟨U, hc⟩, HBW.out.trans hg.1⟩)
      clear hn
      go_wp2_with fail
      go_roundw
      case rel =>
        obtain ⟨⟨U4, hc4⟩, hb4⟩ := HN4.out
        first
          | exact ⟨hb4, trivial, m + 1, b2, o2, U4, by go_num, rfl, HB2.out, HO2.out.trans HNO.out, by omega, hc4, fun j hj h1 h2 => rfl⟩
          | exact ⟨hb4, rfl, m + 1, b2, o2, U4, by go_num, rfl, HB2.out, HO2.out.trans HNO.out, by omega, hc4, fun j hj h1 h2 => rfl⟩
      case measure => simp [intOf]; omega
    | false =>
      cases hkl : Nd.lt k high with
      | true =>
        have y1 : Op.bytesLess k.toList high.toList = true := hkl
        have HKL := Lib.hid hkl
        clear hkl
        go_wp2_with fail
        refine HKY.out.mono ?_
        rintro e w3 ⟨rfl, hb⟩
        have HC3 := Lib.hid (HC.out.below hb.out)
        have HB3 := Lib.hid (HBW.out.trans (hb.out.mono HC.out.old))
        have HNX := Lib.hid HC3.out.next
        rw [← HO2.out, ← HB2.out] at HNX
        clear hb
        go_wp2_with fail
        refine HNX.out.mono ?_
        rintro e w4 ⟨rfl, hn⟩
        have HN4 := Lib.hid (show (∃ U, CS h S σ cp root [] L w.heap.size w4 U o2) ∧ Below w.heap.size w w4 from by obtain ⟨U, hc, hg⟩ := hn.out; exact ⟨⟨U, hc⟩, HB3.out.trans hg.1⟩)
        clear hn
        go_wp2_with fail
        go_roundw
        case rel =>
          obtain ⟨⟨U4, hc4⟩, hb4⟩ := HN4.out
          have hall2 : ∀ j (hj : j < L.length), s ≤ j → j < s + (m + 1) → (false || Nd.lt L[j].cell.key high) = true := fun j hj h1 h2 => by
            by_cases e : j = s + m
            · subst e; rw [← HK.out]; exact HKL.out
            · exact HALL.out j hj h1 (by omega)
          first
            | exact ⟨hb4, trivial, m + 1, b2, o2, U4, by go_num, rfl, HB2.out, HO2.out.trans HNO.out, by omega, hc4, hall2⟩
            | exact ⟨hb4, rfl, m + 1, b2, o2, U4, by go_num, rfl, HB2.out, HO2.out.trans HNO.out, by omega, hc4, hall2⟩
        case measure => simp [intOf]; omega
      | false =>
        have y1 : Op.bytesLess k.toList high.toList = false := hkl
        have hcnt : L.countP (inR low high) = m := by
          have h9 := HCE.out (s + m) (by rw [← HS.out]; omega) hm (fun j hj h1 h2 => by rw [hem]; exact HALL.out j hj (by rw [HS.out]; exact h1) h2) (fun hh => by rw [hem, ← HK.out, hkl]; rfl)
          rw [← HS.out] at h9
          omega
        have HCN := Lib.hid hcnt
        clear hcnt hkl
        go_wp2_with fail
        refine HKY.out.mono ?_
        rintro e w3 ⟨rfl, hb⟩
        have HB3 := Lib.hid (HBW.out.trans (hb.out.mono HC.out.old))
        clear hb
        go_wp2_with fail
        go_ret2
        exact ⟨by rw [HCN.out]; rfl, HB3.out⟩
end Go.Proofs.Ytllafbcnikoohaa
/- The reference's Count; CursorCounts' walk. -/
namespace Go.Proofs.Ytllafbcnikoohaa
open Go.RowKit
set_option maxRecDepth 100000
set_option linter.unusedVariables false
set_option linter.unusedSimpArgs false
theorem rless_ge (a b : ByteArray) : decide ((0 : Int) ≤ rless a b) = !Nd.lt a b := by
  unfold rless
  cases Nd.lt a b
  · simp only [Bool.false_eq_true, if_false]
    split <;> rfl
  · rfl
theorem rless_lt (a b : ByteArray) : decide (rless a b < 0) = Nd.lt a b := by
  unfold rless
  cases Nd.lt a b
  · simp only [Bool.false_eq_true, if_false]
    split <;> rfl
  · rfl
set_option maxHeartbeats 16000000 in
theorem rcount_all {w : World} {B g n c : Nat} {L : List En} (h : POwn w B (.slice (some ⟨g, 0, none⟩) n c) L) (hl : L.length ≤ 10000) (hk : ∀ e ∈ L, e.cell.key.size ≤ 1000) (low high : ByteArray) :
    Calls Try.prog 17 #[.slice (some ⟨g, 0, none⟩) n c, .string low, .string high] w (fun e w' => e = .returned (.int .i64 (L.countP (inR low high))) ∧ Below w.heap.size w w') := by
  have hn : n = L.length := by
    obtain ⟨_, _, hv, -, -⟩ := own_form h
    injection hv
  subst hn
  have HP := Lib.hid h
  have HK := Lib.hid hk
  obtain ⟨em, hem⟩ : ∃ em, high.toList.isEmpty = em := ⟨_, rfl⟩
  obtain ⟨x1, x2⟩ := empty_facts high em hem
  clear h hk
  go_enter Try.func17, Try.ntmps17
  go_wp2_with fail
  go_loopw [7, 8] (fun nn i wr => Below w.heap.size w wr ∧ ∃ (m j : Nat), nn = .int .i64 m ∧ i = .int .i64 j ∧ j ≤ L.length ∧ m ≤ j ∧ Hid (m = (L.take j).countP (inR low high))) (fun _ i _ => L.length - (intOf i).toNat)
  case atStart => exact ⟨Below.refl _ _, 0, 0, rfl, rfl, Nat.zero_le _, Nat.le_refl _, Lib.hid rfl⟩
  case round =>
    obtain ⟨hb, m, j, rfl, rfl, hj, hmj, HM⟩ := hrel
    have HB := Lib.hid hb
    by_cases hlt : j < L.length
    case neg =>
      have z1 : decide ((j : Int) < (L.length : Int)) = false := decide_eq_false (by omega)
      obtain rfl : j = L.length := by omega
      have hm : L.countP (inR low high) = m := by rw [HM.out, List.take_length]
      have HMM := Lib.hid hm
      clear hb hm
      go_wp2_with fail
      go_ret
      exact ⟨by rw [HMM.out]; rfl, HB.out⟩
    have z1 : decide ((j : Int) < (L.length : Int)) = true := decide_eq_true (by omega)
    obtain ⟨g', hg', lg, -, q0, -⟩ := (HP.out.below hb).at j hlt
    injection hg' with hg'
    injection hg' with hg'
    subst hg'
    have hks := HK.out _ (List.getElem_mem hlt)
    have hstep : (L.take (j + 1)).countP (inR low high) = (L.take j).countP (inR low high) + (if inR low high (L[j]'hlt) = true then 1 else 0) := by
      rw [List.take_succ_eq_append_getElem hlt, List.countP_append, List.countP_singleton]
    have HST := Lib.hid hstep
    obtain ⟨k, hke⟩ : ∃ k, k = (L[j]'hlt).cell.key := ⟨_, rfl⟩
    have hin : inR low high (L[j]'hlt) = (!Nd.lt k low && (high.toList.isEmpty || Nd.lt k high)) := by unfold inR; rw [← hke]
    have HIN := Lib.hid hin
    rw [← hke] at q0 hks
    have HLO := Lib.hid fun (W : World) => rless_any k low W (by omega)
    have HHI := Lib.hid fun (W : World) => rless_any k high W (by omega)
    have zlo := rless_ge k low
    have zhi := rless_lt k high
    obtain ⟨r1, hr1⟩ : ∃ r1, r1 = rless k low := ⟨_, rfl⟩
    obtain ⟨r2, hr2⟩ : ∃ r2, r2 = rless k high := ⟨_, rfl⟩
    rw [← hr1] at HLO zlo
    rw [← hr2] at HHI zhi
    obtain ⟨a, hae⟩ : ∃ a, a = Nd.lt k low := ⟨_, rfl⟩
    obtain ⟨b, hbe⟩ : ∃ b, b = Nd.lt k high := ⟨_, rfl⟩
    rw [← hae] at zlo HIN
    rw [← hbe] at zhi HIN
    have y1 : (0 : Int) ≤ (j : Int) := by omega
    have y2 : (j : Int) < (L.length : Int) := by omega
    clear hb hstep hke hin hr1 hr2 hae hbe
    cases a
    all_goals cases em
    all_goals cases b
    all_goals
      simp only [Bool.not_true, Bool.not_false] at zlo
      rw [hem] at HIN
      go_wp2_with fail
      refine (HLO.out _).mono ?_
      rintro e w2 ⟨rfl, hb2⟩
      have HB2 := Lib.hid (HB.out.trans (hb2.mono HB.out.size))
      have lg2 : g < w2.heap.size := Nat.lt_of_lt_of_le lg hb2.size
      have q02 : w2.cell? ⟨g, j * 2, none⟩ = some (.string k) := (World.cell?_of_block (a := ⟨g, j * 2, none⟩) (hb2.block g lg)).trans q0
      clear hb2
      go_wp2_with fail
      first
        | (refine (HHI.out _).mono ?_; rintro e w3 ⟨rfl, hb3⟩; have HB3 := Lib.hid (HB2.out.trans (hb3.mono HB2.out.size)); clear hb3; go_wp2_with fail)
        | skip
      go_roundw
      case rel =>
        have hst := HST.out
        rw [HIN.out, ← HM.out] at hst
        first
          | exact ⟨HB3.out, m + 1, j + 1, by go_num, by go_num, by omega, by omega, Lib.hid (by rw [hst]; rfl)⟩
          | exact ⟨HB3.out, m, j + 1, rfl, by go_num, by omega, by omega, Lib.hid (by rw [hst]; rfl)⟩
          | exact ⟨HB2.out, m + 1, j + 1, by go_num, by go_num, by omega, by omega, Lib.hid (by rw [hst]; rfl)⟩
          | exact ⟨HB2.out, m, j + 1, rfl, by go_num, by omega, by omega, Lib.hid (by rw [hst]; rfl)⟩
          | fail
      case measure => simp [intOf]; omega
set_option maxHeartbeats 16000000 in
theorem cursorCounts_walk (A : Option Addr) (n cap : Nat) (K V : Nat → ByteArray) (low high : ByteArray) (w : World) (hn : n ≤ maxLen) (ha : PairsAt w A n K V) (hks : low.size ≤ maxLen) (hks2 : high.size ≤ maxLen) :
    Calls Try.prog 4 #[.slice A n cap, .string low, .string high] w (Holds w) := by
  have HA := Lib.hid (awake10 w)
  have HP := Lib.hid ha
  clear ha
  go_enter Try.func4, Try.ntmps4
  go_wp2_with fail
  refine HA.out.mono ?_
  rintro e w1 ⟨rfl, hb⟩
  have HB1 := Lib.hid hb
  have HG := Lib.hid (grown_any A n cap K V w1 (fun i hi => by
    obtain ⟨b, o, e, hl, q0, q1⟩ := HP.out i hi
    exact ⟨b, o, e, Nat.lt_of_lt_of_le hl hb.size, (World.cell?_of_block (a := ⟨b, o + i * 2, none⟩) (hb.block b hl)).trans q0, (World.cell?_of_block (a := ⟨b, o + i * 2 + 1, none⟩) (hb.block b hl)).trans q1⟩) hn)
  clear hb
  go_wp2_with fail
  refine HG.out.mono ?_
  rintro e w2 ⟨h, S, σ, root, P, L, g, c, rfl, hgr, hL, hb2, hfd⟩
  have HB2 := Lib.hid (HB1.out.trans (hb2.mono HB1.out.size))
  by_cases hk : 1000 < low.size
  · have z1 : decide ((1000 : Int) < (low.size : Int)) = true := decide_eq_true (by omega)
    have z2 : decide (1000 < low.size) = true := decide_eq_true hk
    clear hgr hL hb2 hfd
    go_wp2_with fail
    go_ret
    exact ⟨rfl, HB2.out⟩
  have z1 : decide ((1000 : Int) < (low.size : Int)) = false := decide_eq_false (by omega)
  have z2 : decide (1000 < low.size) = false := decide_eq_false hk
  by_cases hk2 : 1000 < high.size
  · have z3 : decide ((1000 : Int) < (high.size : Int)) = true := decide_eq_true (by omega)
    have z4 : decide (1000 < high.size) = true := decide_eq_true hk2
    clear hgr hL hb2 hfd
    go_wp2_with fail
    go_ret
    exact ⟨rfl, HB2.out⟩
  have z3 : decide ((1000 : Int) < (high.size : Int)) = false := decide_eq_false (by omega)
  have z4 : decide (1000 < high.size) = false := decide_eq_false hk2
  have HC := Lib.hid (ccount_any (P := []) ((heap_serves h).less hgr.heap (Nat.zero_le _)) (hgr.root.whole hgr.nodup) hgr.root.rising hL low high)
  have HR := Lib.hid fun (W : World) (hb : Below w2.heap.size w2 W) => rcount_all (hgr.row.below hb) (by omega) (fun e he => by have := (hgr.keys e he).2; omega) low high
  obtain ⟨m, hm⟩ : ∃ m, m = L.countP (inR low high) := ⟨_, rfl⟩
  rw [← hm] at HC HR
  clear hgr hL hb2 hfd hm
  go_wp2_with fail
  refine HC.out.mono ?_
  rintro e w3 ⟨rfl, hb3⟩
  have HB3 := Lib.hid (HB2.out.trans (hb3.mono HB2.out.size))
  have HRW := Lib.hid (HR.out _ hb3)
  clear hb3
  go_wp2_with fail
  refine HRW.out.mono ?_
  rintro e w4 ⟨rfl, hb4⟩
  have HB4 := Lib.hid (HB3.out.trans (hb4.mono HB3.out.size))
  clear hb4
  go_wp2_with fail
  go_ret
  exact ⟨rfl, HB4.out⟩
end Go.Proofs.Ytllafbcnikoohaa

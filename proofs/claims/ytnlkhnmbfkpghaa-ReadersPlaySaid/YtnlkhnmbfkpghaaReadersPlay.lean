/- Walk of the law ReadersPlay. -/
import Derived.Test.YtnlkhnmbfkpghaaRefReaders
import Derived.Deep.CutBlock
namespace Go.Proofs.Ytnlkhnmbfkpghaa
open Go.RowKit
open Go.PlainAid
set_option maxRecDepth 100000
set_option linter.unusedVariables false
set_option linter.unusedSimpArgs false

theorem no_none (v : Int) (h : (none : Option Int) = some v) : 0 ≤ v := by cases h
theorem ok_empty : St.empty.Ok := ⟨no_none, no_none, no_none, no_none⟩
theorem ok_enter (s : St) (h : s.Ok) (n : Int) : (s.enter n).1.Ok := by
  cases hr : inRange n with
  | false =>
    have e : s.enter n = (s, 0, 1) := by unfold St.enter; rw [hr]; rfl
    rw [e]
    exact h
  | true =>
    have h2 : 0 ≤ n := by unfold inRange at hr; simp at hr; exact hr.1
    have hv : ∀ v, some n = some v → 0 ≤ v := fun v hv => by injection hv with hv; omega
    obtain ⟨a, b, c, d⟩ := s
    obtain ⟨k0, k1, k2, k3⟩ := h
    unfold St.enter
    rw [hr]
    simp only [if_true]
    split
    · exact ⟨hv, k1, k2, k3⟩
    · exact ⟨k0, hv, k2, k3⟩
    · exact ⟨k0, k1, hv, k3⟩
    · exact ⟨k0, k1, k2, hv⟩
    · exact ⟨k0, k1, k2, k3⟩
theorem ok_leave (s : St) (h : s.Ok) (n : Int) : (s.leave n).1.Ok := by
  obtain ⟨k0, k1, k2, k3⟩ := h
  have hn : ∀ v : Int, (none : Option Int) = some v → 0 ≤ v := fun v hv => by cases hv
  unfold St.leave
  split
  · exact ⟨k0, k1, k2, k3⟩
  · split
    · exact ⟨k0, k1, k2, k3⟩
    · unfold St.clear
      split
      · exact ⟨hn, k1, k2, k3⟩
      · split
        · exact ⟨k0, hn, k2, k3⟩
        · split
          · exact ⟨k0, k1, hn, k3⟩
          · split
            · exact ⟨k0, k1, k2, hn⟩
            · exact ⟨k0, k1, k2, k3⟩

/-- Both tables stand at one state. -/
def Both (w : World) (g : Nat) (s : St) (r : Value) (wr : World) : Prop :=
  ∃ h b, r = .pointer (some ⟨h, 0, none⟩) ∧ s.Ok ∧ Bk wr g 47 s.cells ∧ RefAt wr h b s.refs ∧ Below w.heap.size w wr ∧ w.heap.size ≤ h ∧ w.heap.size ≤ b
def PlayAt (w : World) (g n k : Nat) (r : Value) (wr : World) : Prop := k ≤ n ∧ k ≤ 60 ∧ ∃ s, Both w g s r wr
def SomeBoth (w : World) (g : Nat) (r : Value) (wr : World) : Prop := ∃ s, Both w g s r wr

theorem live_pos (s : St) (hok : s.Ok) : ∀ v ∈ s.live, 0 ≤ v := by
  obtain ⟨a, b, c, d⟩ := s
  obtain ⟨k0, k1, k2, k3⟩ := hok
  intro v hv
  simp only [St.live, List.mem_append, Option.mem_toList] at hv
  rcases hv with ((h | h) | h) | h
  · exact k0 v h
  · exact k1 v h
  · exact k2 v h
  · exact k3 v h
theorem count_snoc (L : List Int) (p : Nat) (hp : p < L.length) (x : Int) : (L.take (p + 1)).count x = (L.take p).count x + if L[p] = x then 1 else 0 := by
  rw [List.take_succ_eq_append_getElem hp, List.count_append]
  congr 1
  rw [List.count_singleton]
  by_cases h : L[p] = x <;> simp [h]
theorem pair_at {L : List Int} (h : L.Pairwise (fun x y => x ≤ y)) (q : Nat) (hq : q + 1 < L.length) : L[q] ≤ L[q + 1] := List.pairwise_iff_getElem.1 h q (q + 1) (by omega) hq (by omega)
theorem sl_at {w : World} {A : Option Addr} {L : List Int} (h : Sl w A (L.map (Value.int .i64))) (h0 : 0 < L.length) : ∃ b o, A = some ⟨b, o, none⟩ ∧ b < w.heap.size ∧ ∀ j (hj : j < L.length), w.cell? ⟨b, o + j, none⟩ = some (.int .i64 L[j]) := by
  obtain ⟨b, o, rfl, hlt, _⟩ := h 0 (.int .i64 L[0]) (by simp)
  refine ⟨b, o, rfl, hlt, fun j hj => ?_⟩
  obtain ⟨b', o', e, _, hc⟩ := h j (.int .i64 L[j]) (by simp [hj])
  cases e
  exact hc

set_option maxHeartbeats 8000000 in
theorem readersPlay_walk (A : Option Addr) (n cap : Nat) (K N : Nat → Int) (w : World) (hn : n ≤ maxLen) (hA : ActsAt w A n K N) :
    Calls Try.prog 4 #[.slice A n cap] w (Holds w) := by
  unfold maxLen at hn
  have HA := Lib.hid (rawake_any w)
  have HAC := Lib.hid hA
  clear hA
  go_enter Try.func4, Try.ntmps4
  go_wp2_with fail
  refine HA.out.mono ?_
  rintro e w1 ⟨rfl, hb1⟩
  have X1 := Lib.hid hb1
  have hg1 := hb1.size
  clear hb1
  have H0 := Lib.hid (rdnew_any w1)
  go_wp2_with fail
  refine H0.out.mono ?_
  rintro e w2 ⟨rfl, hk2, hb2⟩
  have X2 := Lib.hid (X1.out.trans (hb2.mono X1.out.size))
  have K2 := Lib.hid hk2
  generalize w1.heap.size = g at *
  clear hk2 hb2 H0 X1 HA
  have H1 := Lib.hid (rrnew_any w2)
  go_wp2_with fail
  refine H1.out.mono ?_
  rintro e w3 ⟨h, b, rfl, hr3, hh3, hb3, hbl3⟩
  have HS := Lib.hid (show PlayAt w g n 0 (.pointer (some ⟨h, 0, none⟩)) w3 from ⟨by omega, by omega, St.empty, h, b, rfl, ok_empty, bk_below K2.out hbl3, hr3, X2.out.trans (hbl3.mono X2.out.size), by have := X2.out.size; omega, by have := X2.out.size; omega⟩)
  clear hr3 hh3 hb3 hbl3 H1 X2 K2
  go_wp2_with fail
  go_loopw [4, 5] (fun r i wr => ∃ k : Nat, i = .int .i64 k ∧ PlayAt w g n k r wr) (fun _ i _ => 60 - (intOf i).toNat)
  case atStart => exact ⟨0, rfl, HS.out⟩
  case round =>
    clear HS
    obtain ⟨k, rfl, hk, hk60, s, h, b, rfl, hok, hbk, hrf, hbl, hhh, hbb⟩ := hrel
    have hcs : (k < n ∧ k < 60) ∨ (¬ k < n) ∨ (k < n ∧ ¬ k < 60) := by omega
    have HOK := Lib.hid hok
    have HBK := Lib.hid hbk
    have HRF := Lib.hid hrf
    have HBL := Lib.hid hbl
    clear hok hbk hrf hbl
    rcases hcs with ⟨h1, h2⟩ | hx | ⟨hx, hy⟩
    · obtain ⟨ab, ao, rfl, hlt, c0, c1⟩ := (HAC.out.below HBL.out) k h1
      generalize K k = kk at *
      generalize N k = nn at *
      have i1 : (0 : Int) ≤ (k : Int) := by omega
      have hsz := HBL.out.size
      have HGH := Lib.hid (Bk.ne HBK.out HRF.out.1 (by decide))
      have HGB := Lib.hid (Bk.ne HBK.out HRF.out.2 (by decide))
      go_upto_block 2 with (fail)
      go_cut [4] (fun r wx => SomeBoth w g r wx)
      case first =>
        have hq : ((kk == 1) = true) ∨ ((kk == 1) = false ∧ (kk == 2) = true) ∨ ((kk == 1) = false ∧ (kk == 2) = false ∧ (kk == 3) = true) ∨ ((kk == 1) = false ∧ (kk == 2) = false ∧ (kk == 3) = false) := by
          cases (kk == 1) <;> cases (kk == 2) <;> cases (kk == 3) <;> simp
        rcases hq with q1 | ⟨q1, q2⟩ | ⟨q1, q2, q3⟩ | ⟨q1, q2, q3⟩
        · have HE := fun W hW => enter_any g nn s W hW
          have HF := fun W hW => renter_any h b nn s HOK.out W hW
          have HOK2 := Lib.hid (ok_enter s HOK.out nn)
          generalize (s.enter nn).2.1 = ri at *
          generalize (s.enter nn).2.2 = re at *
          generalize (s.enter nn).1 = s' at *
          have HE1 := Lib.hid HE
          have HF1 := Lib.hid HF
          clear HE HF
          go_wp2_with fail
          refine (HE1.out _ HBK.out).mono ?_
          rintro e w5 ⟨rfl, hk5, ho5⟩
          have K5 := Lib.hid hk5
          have X5 := Lib.hid (below_off HBL.out ho5 (by simp; omega))
          have R5 := Lib.hid (HRF.out.off ho5 (by simp; exact fun e => HGH.out e.symm) (by simp; exact fun e => HGB.out e.symm))
          clear hk5 ho5
          go_wp2_with fail
          refine (HF1.out _ R5.out).mono ?_
          rintro e w6 ⟨rfl, hr6, ho6⟩
          have X6 := Lib.hid (below_off X5.out ho6 (by simp; omega))
          have K6 := Lib.hid (ho6.bk K5.out (by simp; exact HGB.out))
          have R6 := Lib.hid hr6
          clear hr6 ho6
          go_wp2_with fail
          go_meet
          exact ⟨s', h, b, rfl, HOK2.out, K6.out, R6.out, X6.out, hhh, hbb⟩
        · have HE := fun W hW => leave_any g nn s W hW
          have HF := fun W hW => rleave_any h b nn s HOK.out W hW
          have HOK2 := Lib.hid (ok_leave s HOK.out nn)
          generalize (s.leave nn).2 = re at *
          generalize (s.leave nn).1 = s' at *
          have HE1 := Lib.hid HE
          have HF1 := Lib.hid HF
          clear HE HF
          go_wp2_with fail
          refine (HE1.out _ HBK.out).mono ?_
          rintro e w5 ⟨rfl, hk5, ho5⟩
          have K5 := Lib.hid hk5
          have X5 := Lib.hid (below_off HBL.out ho5 (by simp; omega))
          have R5 := Lib.hid (HRF.out.off ho5 (by simp; exact fun e => HGH.out e.symm) (by simp; exact fun e => HGB.out e.symm))
          clear hk5 ho5
          go_wp2_with fail
          refine (HF1.out _ R5.out).mono ?_
          rintro e w6 ⟨rfl, hr6, ho6⟩
          have X6 := Lib.hid (below_off X5.out ho6 (by simp; omega))
          have K6 := Lib.hid (ho6.bk K5.out (by simp; exact HGB.out))
          have R6 := Lib.hid hr6
          clear hr6 ho6
          go_wp2_with fail
          go_meet
          exact ⟨s', h, b, rfl, HOK2.out, K6.out, R6.out, X6.out, hhh, hbb⟩
        · have HE := fun W hW => clear_any g s W hW
          have HF := fun W hW => rcount_live h b s HOK.out W hW
          generalize s.live.length = ln at *
          have HE1 := Lib.hid HE
          have HF1 := Lib.hid HF
          clear HE HF
          go_wp2_with fail
          refine (HE1.out _ HBK.out).mono ?_
          rintro e w5 ⟨rfl, hk5, ho5⟩
          have K5 := Lib.hid hk5
          have X5 := Lib.hid (below_off HBL.out ho5 (by simp; omega))
          have R5 := Lib.hid (HRF.out.off ho5 (by simp; exact fun e => HGH.out e.symm) (by simp; exact fun e => HGB.out e.symm))
          clear hk5 ho5
          go_wp2_with fail
          refine (HF1.out _ R5.out).mono ?_
          rintro e w' ⟨rfl, rfl⟩
          have HN := Lib.hid (rrnew_any w5)
          go_wp2_with fail
          refine HN.out.mono ?_
          rintro e w6 ⟨h', b', rfl, hr6, hh6, hb6, hbl6⟩
          have X6 := Lib.hid (X5.out.trans (hbl6.mono X5.out.size))
          have K6 := Lib.hid (bk_below K5.out hbl6)
          have R6 := Lib.hid hr6
          have hx5 := X5.out.size
          clear hr6 hbl6
          go_wp2_with fail
          go_meet
          exact ⟨St.empty, h', b', rfl, ok_empty, K6.out, R6.out, X6.out, by omega, by omega⟩
        · go_wp2_with fail
          go_meet
          exact ⟨s, h, b, rfl, HOK.out, HBK.out, HRF.out, HBL.out, hhh, hbb⟩
      case rest =>
        clear HOK HBK HRF HBL HGH HGB hhh hbb hsz c0 c1
        obtain ⟨s, h, b, rfl, hok, hbk, hrf, hbl, hhh, hbb⟩ := hcut
        have HO := fun W hW => oldest_any g nn s W hW
        have HRO := fun W hW => roldest_any h b nn s hok W hW
        have HR := fun W hW => reads_any g nn s W hW
        have HRR := fun W hW => rreads_any h b nn s hok W hW
        have HL := fun W hW => live_any g s W hW
        have HC := fun W hW => rcount_live h b s hok W hW
        have HTT := fun (W : World) (x : Int) (hx : 0 ≤ x) hW => rtimes_live h b x hx s hok W hW
        have hsl : (srt s.live).length = s.live.length := srt_len _
        have hle : s.live.length ≤ 4 := s.liveK_le 4
        have hpos : ∀ v ∈ srt s.live, 0 ≤ v := fun v hv => live_pos s hok v ((srt_perm _).mem_iff.1 hv)
        have hpair := srt_pair s.live
        have hcnt : ∀ x, s.live.count x = (srt s.live).count x := fun x => ((srt_perm s.live).count_eq x).symm
        rw [← hsl] at HC hle
        simp only [hcnt] at HTT
        generalize s.oldest nn = old at *
        generalize (s.reads nn).1 = r1 at *
        generalize (s.reads nn).2 = r2 at *
        generalize srt s.live = L at *
        have G1 := Lib.hid HO
        have G2 := Lib.hid HRO
        have G3 := Lib.hid HR
        have G4 := Lib.hid HRR
        have G5 := Lib.hid HL
        have G6 := Lib.hid HC
        have G7 := Lib.hid HTT
        have HPOS := Lib.hid hpos
        have HPAIR := Lib.hid hpair
        have HBK := Lib.hid hbk
        have HRF := Lib.hid hrf
        have HBL := Lib.hid hbl
        have HOK := Lib.hid hok
        clear HO HRO HR HRR HL HC HTT hpos hpair hbk hrf hbl hok hsl hcnt
        go_wp2_with fail
        refine (G1.out _ HBK.out).mono ?_
        rintro e w5 ⟨rfl, hb5⟩
        have X5 := Lib.hid (HBL.out.trans (hb5.mono HBL.out.size))
        have K5 := Lib.hid (bk_below HBK.out hb5)
        have R5 := Lib.hid (HRF.out.below hb5)
        clear hb5
        go_wp2_with fail
        refine (G2.out _ R5.out).mono ?_
        rintro e w' ⟨rfl, rfl⟩
        go_wp2_with fail
        refine (G3.out _ K5.out).mono ?_
        rintro e w6 ⟨rfl, ho6⟩
        have hb6 : Below w5.heap.size w5 w6 := ho6.below (Nat.le_refl _) (by simp)
        have X6 := Lib.hid (X5.out.trans (hb6.mono X5.out.size))
        have K6 := Lib.hid (bk_below K5.out hb6)
        have R6 := Lib.hid (R5.out.below hb6)
        clear ho6 hb6
        go_wp2_with fail
        refine (G4.out _ R6.out).mono ?_
        rintro e w7 ⟨rfl, ho7⟩
        have hb7 : Below w6.heap.size w6 w7 := ho7.below (Nat.le_refl _) (by simp)
        have X7 := Lib.hid (X6.out.trans (hb7.mono X6.out.size))
        have K7 := Lib.hid (bk_below K6.out hb7)
        have R7 := Lib.hid (R6.out.below hb7)
        clear ho7 hb7
        go_wp2_with fail
        refine (G5.out _ K7.out).mono ?_
        rintro e w8 ⟨v, rfl, hown, hb8⟩
        obtain ⟨LA, lc, rfl, hc1, hc2, hnn, hsl8, hax⟩ := own_slice hown
        clear hnn hax
        have X8 := Lib.hid (X7.out.trans (hb8.mono X7.out.size))
        have K8 := Lib.hid (bk_below K7.out hb8)
        have R8 := Lib.hid (R7.out.below hb8)
        have S8 := Lib.hid hsl8
        clear hown hb8 hsl8
        clear hc1 hc2
        go_wp2_with fail
        refine (G6.out _ R8.out).mono ?_
        rintro e w' ⟨rfl, rfl⟩
        clear G1 G2 G3 G4 G5 G6
        go_wp2_with fail
        go_loopw [16] (fun i wr => ∃ q : Nat, i = .int .i64 q ∧ q ≤ L.length ∧ Hid (Below w8.heap.size w8 wr)) (fun i _ => L.length - (intOf i).toNat)
        case atStart => exact ⟨0, rfl, by omega, Below.refl _ _⟩
        case round =>
          rename_i wr0
          obtain ⟨q, rfl, hq, HQB⟩ := hrel
          by_cases hql : q < L.length
          · obtain ⟨lb, lo, hLA, hlb, hcell0⟩ := sl_at S8.out (by omega)
            subst hLA
            have HCELL := Lib.hid hcell0
            have hx0 : 0 ≤ L[q] := HPOS.out _ (List.getElem_mem hql)
            obtain ⟨x, hx⟩ : ∃ x, L[q] = x := ⟨_, rfl⟩
            rw [hx] at hx0
            have HX := Lib.hid hx
            have HLB := Lib.hid hlb
            clear hcell0 hx hlb
            go_wp2_with fail
            go_loopw [17, 18] (fun m j wr => ∃ (p c : Nat), j = .int .i64 p ∧ m = .int .i64 c ∧ p ≤ L.length ∧ c ≤ p ∧ Hid (c = (L.take p).count x) ∧ Hid (Below w8.heap.size w8 wr)) (fun _ j _ => L.length - (intOf j).toNat)
            case atStart => exact ⟨0, 0, rfl, rfl, by omega, by omega, show _ = _ by simp, HQB.out⟩
            case round =>
              rename_i wr1
              obtain ⟨p, c, rfl, rfl, hp, hcp, HC, HPB⟩ := hrel
              have hcq : wr.cell? ⟨lb, lo + q, none⟩ = some (.int .i64 x) := by
                rw [HPB.out.cell (p := ⟨lb, lo + q, none⟩) HLB.out, HCELL.out q hql, HX.out]
              by_cases hpl : p < L.length
              · have hcc : wr.cell? ⟨lb, lo + p, none⟩ = some (.int .i64 L[p]) := by
                  rw [HPB.out.cell (p := ⟨lb, lo + p, none⟩) HLB.out, HCELL.out p hpl]
                have HSN := Lib.hid (count_snoc L p hpl x)
                have i1 : (0 : Int) ≤ (p : Int) := by omega
                have i2 : (p : Int) < (L.length : Int) := by omega
                have j1 : (0 : Int) ≤ (q : Int) := by omega
                have j2 : (q : Int) < (L.length : Int) := by omega
                generalize L[p] = y at *
                by_cases he : y = x
                · have hqq : (y == x) = true := by simpa using he
                  have HS2 := Lib.hid (show (L.take (p + 1)).count x = c + 1 by rw [HSN.out, if_pos he, ← HC.out])
                  clear he HSN HC
                  go_wp2_with fail
                  go_region
                  all_goals
                    go_wp2_with fail
                    go_roundw
                    case rel => exact ⟨p + 1, c + 1, by go_num, by go_num, by omega, by omega, HS2.out.symm, HPB.out.drew⟩
                    case measure => simp [intOf]; omega
                · have hqq : (y == x) = false := by simpa using he
                  have HS2 := Lib.hid (show (L.take (p + 1)).count x = c by rw [HSN.out, if_neg he, ← HC.out]; rfl)
                  clear he HSN HC
                  go_wp2_with fail
                  go_region
                  all_goals
                    go_wp2_with fail
                    go_roundw
                    case rel => exact ⟨p + 1, c, by go_num, rfl, by omega, by omega, HS2.out.symm, HPB.out.drew⟩
                    case measure => simp [intOf]; omega
              · have hce : c = L.count x := by
                  have := HC.out
                  rw [List.take_of_length_le (by omega)] at this
                  exact this
                subst hce
                have HT0 := fun W hW => G7.out W x hx0 hW
                generalize L.count x = ct at *
                have HT := Lib.hid fun (W : World) (n : Nat) (hW : RefAt W h b s.refs) => (show Calls Try.prog 20 #[.pointer (some ⟨h, 0, none⟩), .int .i64 x] (W.drewN n) (fun e w' => e = .returned (.int .i64 (ct : Int)) ∧ w' = W.drewN n) from (HT0 (W.drewN n) ⟨hW.1.drewN n, hW.2.drewN n⟩).mono fun e w' h => ⟨h.1, h.2.symm⟩)
                clear HT0
                have HRW := Lib.hid (R8.out.below HPB.out)
                have j1 : (0 : Int) ≤ (q : Int) := by omega
                have j2 : (q : Int) < (L.length : Int) := by omega
                clear HC
                cases q with
                | zero =>
                  rw [show ((0 : Nat) : Int) = 0 from rfl]
                  simp only [Nat.add_zero] at hcq
                  go_wp2_with fail
                  go_quiet ((go_at_call 20; exact Calls.quiet_of_same (HT.out _ _ HRW.out)))
                  go_wp2_with fail
                  go_roundw
                  case rel => exact ⟨1, by rfl, by omega, (show Below w8.heap.size w8 _ from ⟨HPB.out.os, HPB.out.tape, HPB.out.output, HPB.out.size, HPB.out.block⟩)⟩
                  case measure => simp [intOf]; omega
                | succ q' =>
                  have hcq2 : wr.cell? ⟨lb, lo + q', none⟩ = some (.int .i64 L[q']) := by
                    rw [HPB.out.cell (p := ⟨lb, lo + q', none⟩) HLB.out, HCELL.out q' (by omega)]
                  have hyx : L[q'] ≤ x := by have := pair_at HPAIR.out q' hql; rw [HX.out] at this; exact this
                  generalize L[q'] = y at *
                  have qy : decide (x < y) = false := by simp; omega
                  have e1 : ((q' + 1 : Nat) : Int) = (q' : Int) + 1 := by omega
                  rw [e1]
                  rw [e1] at j1 j2
                  have k1 : (0 : Int) ≤ (q' : Int) := by omega
                  have k2 : (q' : Int) < (L.length : Int) := by omega
                  have k3 : (0 : Int) < (q' : Int) + 1 := by omega
                  have k4 : decide ((0 : Int) < (q' : Int) + 1) = true := by simp <;> omega
                  have w1 : IntKind.i64.wrap ((q' : Int) + 1 - 1) = (q' : Int) := by rw [IntKind.wrap_i64]; omega
                  have w2 : IntKind.i64.wrap (q' : Int) = (q' : Int) := by rw [IntKind.wrap_i64]; omega
                  have t1 : ((q' : Int) + 1).toNat = q' + 1 := by omega
                  clear e1
                  go_wp2_with fail
                  go_quiet ((go_at_call 20; exact Calls.quiet_of_same (HT.out _ _ HRW.out)))
                  clear w1 w2 t1
                  go_wp2_with fail
                  go_roundw
                  case rel => exact ⟨q' + 2, by go_num, by omega, (show Below w8.heap.size w8 _ from ⟨HPB.out.os, HPB.out.tape, HPB.out.output, HPB.out.size, HPB.out.block⟩)⟩
                  case measure => simp [intOf]; omega
          · go_wp2_with fail
            go_roundw
            case rel => exact ⟨k + 1, by go_num, by omega, by omega, s, h, b, rfl, HOK.out, bk_below K8.out HQB.out, R8.out.below HQB.out, X8.out.trans (HQB.out.mono X8.out.size), hhh, hbb⟩
            case measure => simp [intOf]; omega
    all_goals
      go_wp2_with fail
      go_ret
      exact ⟨rfl, HBL.out⟩
end Go.Proofs.Ytnlkhnmbfkpghaa

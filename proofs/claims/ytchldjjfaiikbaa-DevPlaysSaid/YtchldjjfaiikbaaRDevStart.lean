/- Contracts of the reference's device: Start. -/
import Derived.Test.YtchldjjfaiikbaaRDevSync
namespace Go.Proofs.Ytchldjjfaiikbaa
open Go.RowKit
open Go.PlainAid
set_option maxRecDepth 100000
set_option linter.unusedVariables false
set_option linter.unusedSimpArgs false

theorem taken_size {D : DevS} (h : D.Ok) {i c : Nat} (hi : i < D.sec.length) (hc : c ≤ (D.waits i).length) : (takenOf D i c).size = 128 := by
  unfold takenOf
  split
  · rw [List.getD_eq_getElem?_getD, List.getElem?_eq_getElem hi]; exact h.secs _ (List.getElem_mem hi)
  · have hl : c - 1 < (D.waits i).length := by omega
    rw [List.getD_eq_getElem?_getD, List.getElem?_eq_getElem hl]
    exact (h.rows _ (waitsOf_mem (List.getElem_mem hl))).2
theorem passRow_ok {D : DevS} (h : D.Ok) (picks : List Int) (i : Nat) (s : ByteArray) (hs : i < D.sec.length → s.size = 128) : ({ D with sec := passRow D picks i s } : DevS).Ok := by
  refine ⟨by rw [passRow_len]; exact h.some, by rw [passRow_len]; exact h.most, ?_, by rw [passRow_len]; exact h.rows, h.fuse0, h.fuse1, h.rowW, h.writesS⟩
  intro x hx
  simp only [passRow, List.mem_map, List.mem_range] at hx
  obtain ⟨j, hj, rfl⟩ := hx
  split
  · exact DevS.kept_size h picks hj
  · split
    · rename_i h2; subst h2; exact hs hj
    · rw [List.getD_eq_getElem?_getD, List.getElem?_eq_getElem hj]; exact h.secs _ (List.getElem_mem hj)
/-- The device while a pass is under way. -/
theorem RDevAt.mid {w1 wr : World} {g : Nat} {S : List Nat} {D : DevS} {l cl : Nat} {A : Option Addr} {cr : Nat} (h : RDevAt w1 g S D l cl A cr) {picks : List Int} {i : Nat} {s : ByteArray} (hs : i < D.sec.length → s.size = 128) (hp : RPass w1 wr g l cl D (passRow D picks i s)) :
    RDevAt wr g S { D with sec := passRow D picks i s } l cl A cr := by
  have hl : (passRow D picks i s).length = D.sec.length := passRow_len D picks i s
  have hgl : g ≠ l := fun e => own_ne h.sec h.cells (by decide) (by rw [e]; rfl)
  refine ⟨passRow_ok h.ok picks i s hs, ?_, ?_, ?_, h.inS, fun b hb => Nat.lt_of_lt_of_le (h.old b hb) hp.off.size⟩
  · show Bk wr g _ (rCells (.slice _ (passRow D picks i s).length cl) _ _ _ _ _)
    rw [hl]
    exact hp.off.bk h.cells (by simpa using hgl)
  · show World.ownsRow _ _ _ _ (.slice _ (passRow D picks i s).length cl) (passRow D picks i s).length (strs (passRow D picks i s))
    rw [hl]
    exact hp.sec
  · refine hp.off.own h.row (fun b hb => ?_)
    simp
    rintro rfl
    rcases h.row.2 with ⟨e, _⟩ | ⟨g1, cap1, cur1, e1, _, hh1, _⟩
    · injection e with e1 e2 e3
      subst e1
      simp [Value.ownBlock] at hb
    · rcases h.sec.2 with ⟨e, _⟩ | ⟨g2, cap2, cur2, e2, _, hh2, _⟩
      · cases e
      · rw [e1, ownBlock_lit] at hb
        injection hb with hb
        injection e2 with e2; injection e2 with e2; injection e2 with e2
        subst e2
        subst hb
        exact Bk.ne (t := 66) (t' := 9) hh1 hh2 (by decide) rfl

/-- How many of K are taken behind k writes. -/
def tk (D : DevS) (i K k : Nat) : Nat := min K (countOf (D.row.take k) i)
theorem tk_zero (D : DevS) (i K : Nat) : tk D i K 0 = 0 := by unfold tk countOf; simp [waitsOf]
theorem tk_le (D : DevS) (i K k : Nat) : tk D i K k ≤ K := Nat.min_le_left _ _
theorem tk_yes {D : DevS} {k : Nat} {x : Nat × ByteArray} (h : D.row[k]? = some x) {i : Nat} (hx : x.1 = i) {K : Nat} (hK : tk D i K k < K) : tk D i K (k + 1) = tk D i K k + 1 ∧ takenOf D i (tk D i K (k + 1)) = x.2 := by
  have h1 := countOf_yes h hx
  have h2 : tk D i K k = countOf (D.row.take k) i := by unfold tk at hK ⊢; omega
  have h3 : tk D i K (k + 1) = tk D i K k + 1 := by unfold tk at hK ⊢; omega
  refine ⟨h3, ?_⟩
  unfold takenOf
  rw [if_neg (by omega), h3, h2, Nat.add_sub_cancel]
  exact waits_next h hx
theorem tk_no {D : DevS} {k : Nat} {x : Nat × ByteArray} (h : D.row[k]? = some x) {i : Nat} (hx : x.1 ≠ i) (K : Nat) : tk D i K (k + 1) = tk D i K k := by
  unfold tk
  rw [countOf_no h hx]
theorem tk_end {D : DevS} {i K k : Nat} (hK : K ≤ (D.waits i).length) (h : ¬ (k < D.row.length ∧ tk D i K k < K)) : tk D i K k = K := by
  by_cases hk : k < D.row.length
  · have := tk_le D i K k
    omega
  · unfold tk
    rw [List.take_of_length_le (by omega)]
    have : countOf D.row i = (D.waits i).length := rfl
    omega

theorem rstart_on {g : Nat} {S : List Nat} {D : DevS} {w : World} (hd : RDev w g S D) (picks : List Int) (v : Value) (hoff : D.off = false) :
    Calls Try.prog 37 #[ptr g, v] w (RDevPost g S (D.start picks).1 (.int .i64 (D.start picks).2) w) := by
  have hd0 := Lib.hid hd
  obtain ⟨l, cl, A, cr, h⟩ := hd
  obtain ⟨c0, c1, c2, c3, c4, c5⟩ := h.cells.six
  have HL : Hid (D.start picks = (D, 10)) := show _ = _ by unfold DevS.start; rw [hoff]; rfl
  rw [hoff] at c2
  clear h hoff c0 c1 c3 c4 c5
  go_enter Try.func37, Try.ntmps37
  go_wp2_with fail
  go_ret
  exact rdevPost_of (by rw [HL.out]) (by rw [HL.out]; rfl) ⟨S, hd0.out, Off.refl _ _, Fresh.refl _ _⟩

set_option maxHeartbeats 8000000 in
theorem rstart_any {g : Nat} {S : List Nat} {D : DevS} {w : World} (hd : RDev w g S D) (A : Option Addr) (picks : List Int) (cap : Nat) (hp : Sl w A (picks.map (Value.int .i64))) (hpl : picks.length ≤ maxLen) (hpw : ∀ p ∈ picks, p ≤ 9223372036854775807) (hA : picks ≠ [] → ∀ a, A = some a → a.block ∉ S)
    (hb : D.steps ≤ 1000000000) :
    Calls Try.prog 37 #[ptr g, .slice A picks.length cap] w (RDevPost g S (D.start picks).1 (.int .i64 (D.start picks).2) w) := by
  cases hoff : D.off with
  | false => exact rstart_on hd picks _ hoff
  | true =>
    obtain ⟨l, cl, AR, cr, h⟩ := hd
    have HD := Lib.hid h
    have HP := Lib.hid hp
    have HPL := Lib.hid hpl
    have HPW := Lib.hid hpw
    have HA := Lib.hid hA
    have HL : Hid (D.start picks = ({ D with sec := (List.range D.sec.length).map (D.kept picks), row := [], off := false }, 0)) := show _ = _ by unfold DevS.start; rw [hoff]; rfl
    obtain ⟨c0, c1, c2, c3, c4, c5⟩ := h.cells.six
    rw [hoff] at c2
    have hmost : D.sec.length ≤ 2048 := h.ok.most
    have hRb : D.row.length ≤ 1000000000 := by have h1 := h.ok.rowW; have h2 := h.ok.writesS; omega
    obtain ⟨N, hN⟩ : ∃ N, N = D.sec.length := ⟨_, rfl⟩
    obtain ⟨R, hR⟩ : ∃ R, R = D.row.length := ⟨_, rfl⟩
    obtain ⟨np, hnp⟩ : ∃ np, np = picks.length := ⟨_, rfl⟩
    have HN := Lib.hid hN
    have HR := Lib.hid hR
    have HNP := Lib.hid hnp
    have hnpb : np ≤ 9223372036854775807 := by rw [hnp]; unfold maxLen at hpl; omega
    rw [← hN] at hmost
    rw [← hR] at hRb
    rw [← hnp]
    have HGL : Hid (g ≠ l) := show g ≠ l from fun e => own_ne HD.out.sec HD.out.cells (by decide) (by rw [e]; rfl)
    have HGW0 : Hid (∀ wr, Off [l] w wr → Bk wr g 50 (rCells (.slice (some ⟨l, 0, none⟩) N cl) (.slice AR R cr) true D.fuse D.steps D.writes)) := fun wr ho => by
      have := ho.bk HD.out.cells (by have := HGL.out; simpa using this)
      rw [← HN.out, ← HR.out, hoff] at this
      exact this
    clear h hp hpl hA hpw hoff c0 c1 c3 c4 c5 hN hR hnp
    go_enter Try.func37, Try.ntmps37
    go_wp2_with fail
    go_loopw [5, 6] (fun t c wr => ∃ i : Nat, i ≤ N ∧ c = .int .i64 (i : Int) ∧ t = .int .i64 ((D.turn i : Nat) : Int) ∧ RPass w wr g l cl D (passRow D picks i (D.sec.getD i ByteArray.empty))) (fun _ c _ => N - (intOf c).toNat)
    case atStart => exact ⟨0, Nat.zero_le _, rfl, rfl, by rw [passRow_zero]; exact HD.out.sec, Off.refl _ _⟩
    case round =>
      obtain ⟨i, hi, rfl, rfl, hp⟩ := hrel
      have HP0 := Lib.hid hp
      have hgw := HGW0.out wr hp.off
      obtain ⟨c0, c1, c2, c3, c4, c5⟩ := hgw.six
      have HGW := Lib.hid hgw
      clear hp c2 c3 c4 c5
      have htl : D.turn i ≤ i := turn_le D i
      by_cases hlt : i < N
      · have hil : i < D.sec.length := by rw [← HN.out]; exact hlt
        have HIL := Lib.hid hil
        have HSZ : Hid (i < D.sec.length → (D.sec.getD i ByteArray.empty).size = 128) := fun _ => by rw [List.getD_eq_getElem?_getD, List.getElem?_eq_getElem HIL.out]; exact HD.out.ok.secs _ (List.getElem_mem HIL.out)
        have HMID := Lib.hid (HD.out.mid HSZ.out HP0.out)
        have HWT : Hid (Calls Try.prog 27 #[ptr g, .int .i64 (i : Int)] wr (fun e w' => e = .returned (.int .i64 (((D.waits i).length : Nat) : Int)) ∧ wr = w')) := (rwaits_any (D := { D with sec := passRow D picks i (D.sec.getD i ByteArray.empty) }) ⟨l, cl, AR, cr, HMID.out⟩ (i : Int) hb).mono fun e w' ⟨h1, h2⟩ => ⟨by
          have : ({ D with sec := passRow D picks i (D.sec.getD i ByteArray.empty) } : DevS).waitsN (i : Int) = (((D.waits i).length : Nat) : Int) := by
            unfold DevS.waitsN
            have : ({ D with sec := passRow D picks i (D.sec.getD i ByteArray.empty) } : DevS).isIn (i : Int) = true := DevS.isIn_iff.2 ⟨by omega, by show (i : Int) < ((passRow D picks i _).length : Int); rw [passRow_len]; have := HIL.out; omega⟩
            rw [this, if_pos rfl, Int.toNat_natCast]
            rfl
          rw [h1, this], h2⟩
        have hmb : (D.waits i).length ≤ 1000000000 := by
          have := waitsOf_length_le D.row i
          unfold DevS.waits
          rw [← HR.out] at this
          omega
        have HTS : Hid (D.turn (i + 1) = D.turn i + if D.busy i then 1 else 0) := turn_step D i
        clear hil hgw
        by_cases hw0 : D.waits i = []
        · have hm0 : (D.waits i).length = 0 := by rw [hw0]; rfl
          have HBZ : Hid (D.busy i = false) := show _ = _ by unfold DevS.busy; rw [hw0]; rfl
          have HKI : Hid (D.kept picks i = D.sec.getD i ByteArray.empty) := kept_idle HBZ.out
          rw [hm0] at HWT
          clear hw0 hm0 hmb
          go_wp2_with fail
          (go_at_call 27)
          refine HWT.out.mono ?_
          rintro e wX ⟨rfl, rfl⟩
          go_wp2_with fail
          go_roundw
          case rel =>
            have h1 : RPass w wr g l cl D (passRow D picks (i + 1) (D.sec.getD (i + 1) ByteArray.empty)) := by
              have := HP0.out
              rw [← HKI.out, passRow_next] at this
              exact this
            have h2 : D.turn (i + 1) = D.turn i := by rw [HTS.out, HBZ.out]; simp
            first
              | exact ⟨i + 1, by omega, by go_num, by rw [h2], h1⟩
              | ((repeat apply Exists.intro); exact ⟨⟨i + 1, by omega, by go_num, by rw [h2], h1⟩, rfl⟩)
          case measure => simp [intOf]; omega
        · have hbz : D.busy i = true := by
            unfold DevS.busy
            cases hw : D.waits i with
            | nil => exact absurd hw hw0
            | cons a b => rfl
          have hm1 : 0 < (D.waits i).length := List.length_pos_iff.2 hw0
          have hT1 : D.turn (i + 1) = D.turn i + 1 := by rw [HTS.out, hbz]; simp
          have HT1 := Lib.hid hT1
          obtain ⟨m, hm⟩ : ∃ m, m = (D.waits i).length := ⟨_, rfl⟩
          rw [← hm] at HWT hmb hm1
          have HM := Lib.hid hm
          obtain ⟨t, ht⟩ : ∃ t, t = D.turn i := ⟨_, rfl⟩
          rw [← ht] at htl ⊢
          have HT := Lib.hid ht
          obtain ⟨K, hK⟩ : ∃ K, K = DevS.pick picks (D.turn i) % (m + 1) := ⟨_, rfl⟩
          have hKm : K ≤ m := by have := Nat.mod_lt (DevS.pick picks (D.turn i)) (show 0 < m + 1 by omega); omega
          have HK := Lib.hid hK
          have HKE : Hid (takenOf D i K = D.kept picks i) := show _ = _ by rw [HK.out, HM.out]; exact taken_kept D picks i
          clear hw0 hbz hT1 HTS hm ht hK
          have hways : (np = 0 ∧ K = 0) ∨ (∃ (q : Nat) (b3 o3 : Nat) (p : Int), q < np ∧ q = t % np ∧ A = some ⟨b3, o3, none⟩ ∧ wr.cell? ⟨b3, o3 + q, none⟩ = some (.int .i64 p) ∧ p ≤ 9223372036854775807 ∧ K = p.toNat % (m + 1)) := by
            by_cases hnil : picks = []
            · refine .inl ⟨by rw [HNP.out, hnil]; rfl, ?_⟩
              rw [HK.out]
              unfold DevS.pick
              rw [if_pos hnil, Nat.zero_mod]
            · have hn0 : 0 < np := by rw [HNP.out]; exact List.length_pos_iff.2 hnil
              have hqlt : t % np < np := Nat.mod_lt _ hn0
              have hql : t % np < picks.length := by rw [← HNP.out]; exact hqlt
              obtain ⟨b3, o3, hA3, hb3, hc3⟩ := (HP.out.off HP0.out.off (fun a ha => by
                have h1 := HA.out hnil a ha
                simp
                exact fun e => h1 (by rw [e]; exact HD.out.inS.2.1))) (t % np) (.int .i64 picks[t % np]) (by rw [List.getElem?_map, List.getElem?_eq_getElem hql]; rfl)
              refine .inr ⟨t % np, b3, o3, picks[t % np], hqlt, rfl, hA3, hc3, HPW.out _ (List.getElem_mem hql), ?_⟩
              rw [HK.out]
              unfold DevS.pick
              rw [if_neg hnil, ← HT.out, ← HNP.out, List.getD_eq_getElem?_getD, List.getElem?_eq_getElem hql]
              rfl
          have e9 : IntKind.i64.wrap ((t : Int) + 1) = (t : Int) + 1 := IntWalk.i64_in _ (by omega)
          have m0 : ((m : Int) == 0) = false := by simp; omega
          have m1 : (m == 0) = false := by simp; omega
          have HKM := Lib.hid hKm
          have HLOOP : Hid (∀ kp : Value, kp = .int .i64 ((K : Nat) : Int) → ∃ k : Nat, k ≤ R ∧ Value.int .i64 0 = .int .i64 (k : Int) ∧ kp = .int .i64 ((K - tk D i K k : Nat) : Int) ∧ RPass w wr g l cl D (passRow D picks i (takenOf D i (tk D i K k)))) := fun kp h => ⟨0, Nat.zero_le _, rfl, by rw [tk_zero]; exact h, by rw [tk_zero]; exact HP0.out⟩
          rcases hways with ⟨hn0, hK0⟩ | ⟨q, b3, o3, p, hqlt, hq, hA3, hc3, hpb, hKp⟩
          · subst hn0
            go_wp2_with fail
            (go_at_call 27)
            refine HWT.out.mono ?_
            rintro e wX ⟨rfl, rfl⟩
            have H8 : Hid (Value.int .i64 0 = .int .i64 ((K : Nat) : Int)) := show _ = _ by rw [hK0]; rfl
            clear hK0
            go_wp2_with fail
            go_loopw [8, 9] (fun kp c wr2 => ∃ k : Nat, k ≤ R ∧ c = .int .i64 (k : Int) ∧ kp = .int .i64 ((K - tk D i K k : Nat) : Int) ∧ RPass w wr2 g l cl D (passRow D picks i (takenOf D i (tk D i K k)))) (fun _ c _ => R - (intOf c).toNat)
            case atStart =>
              first
                | exact HLOOP.out _ H8.out
                | exact HLOOP.out _ rfl
                | ((repeat apply Exists.intro); exact ⟨HLOOP.out _ H8.out, rfl⟩)
            case round =>
              clear c0 c1 HGW HMID HWT HLOOP H8 HP0
              obtain ⟨k, hk, rfl, rfl, hp⟩ := hrel
              have HP1 := Lib.hid hp
              have hgw := HGW0.out wr hp.off
              obtain ⟨c0, c1, c2, c3, c4, c5⟩ := hgw.six
              have HGW := Lib.hid hgw
              clear hp c2 c3 c4 c5
              obtain ⟨d, hd⟩ : ∃ d, d = K - tk D i K k := ⟨_, rfl⟩
              rw [← hd]
              have hdb : d ≤ m := by omega
              have HD1 := Lib.hid hd
              clear hd
              by_cases hgo : k < R ∧ 0 < d
              · obtain ⟨hkR, hd0⟩ := hgo
                have htkl : tk D i K k < K := by have := HD1.out; omega
                obtain ⟨d1, rfl⟩ : ∃ d1, d = d1 + 1 := ⟨d - 1, by omega⟩
                obtain ⟨x, hx⟩ : ∃ x, D.row[k]? = some x := ⟨_, List.getElem?_eq_getElem (by rw [← HR.out]; exact hkR)⟩
                obtain ⟨b, hAR, hbS, hblt, hbg, hbl, d0, dd1⟩ := HD.out.wait hx
                have HAR := Lib.hid hAR
                rw [hAR] at c1
                have HX := Lib.hid hx
                have d0' : wr.cell? ⟨b, k * 2, none⟩ = some (.int .i64 (x.1 : Int)) := (HP1.out.off.cell (p := ⟨b, k * 2, none⟩) hblt (by simpa using hbl)).trans d0
                have d1' : wr.cell? ⟨b, k * 2 + 1, none⟩ = some (.string x.2) := (HP1.out.off.cell (p := ⟨b, k * 2 + 1, none⟩) hblt (by simpa using hbl)).trans dd1
                have hbw : b < wr.heap.size := Nat.lt_of_lt_of_le hblt HP1.out.off.size
                have HBL := Lib.hid hbl
                have HTKL := Lib.hid htkl
                have k0 : (0 : Int) ≤ (k : Int) := by omega
                have k1 : (k : Int) < (R : Int) := by omega
                have w1 : IntKind.i64.wrap ((d1 : Int) + 1 - 1) = (d1 : Int) := by rw [Int.add_sub_cancel]; exact IntWalk.i64_in _ (by omega)
                have w2 : decide ((0 : Int) < (d1 : Int) + 1) = true := decide_eq_true (by omega)
                clear hx d0 dd1 hbg hbl hbS hblt hgw hd0 htkl hAR
                by_cases hxi : x.1 = i
                · have r1 : ((x.1 : Int) == (i : Int)) = true := by simp; omega
                  have r2 : (x.1 == i) = true := by simp; omega
                  obtain ⟨hy1, hy2⟩ := tk_yes HX.out hxi HTKL.out
                  have HY2 : Hid (takenOf D i (tk D i K (k + 1)) = x.2) := hy2
                  have HY1 : Hid (K - tk D i K (k + 1) = d1) := show _ = _ by have := HD1.out; omega
                  have hil2 : i < D.sec.length := HIL.out
                  have hcl : wr.cell? ⟨l, i, none⟩ = some (.string ((passRow D picks i (takenOf D i (tk D i K k))).getD i ByteArray.empty)) := by
                    rw [HP1.out.sec.cellAt i (by omega)]
                    unfold strs
                    rw [List.getElem?_map, List.getElem?_eq_getElem (by rw [passRow_len]; exact hil2), List.getD_eq_getElem?_getD, List.getElem?_eq_getElem (by rw [passRow_len]; exact hil2)]
                    rfl
                  have hfl := HP1.out.sec.frozenAt i
                  have i0 : (0 : Int) ≤ (i : Int) := by omega
                  have i1 : (i : Int) < (N : Int) := by omega
                  have HNEW : Hid (RPass w (wr.setCell ⟨l, i, none⟩ (.string x.2)).drew g l cl D (passRow D picks i (takenOf D i (tk D i K (k + 1))))) := show RPass _ _ _ _ _ _ _ by
                    have := HP1.out.put i x.2
                    rw [passRow_set] at this
                    rw [HY2.out]
                    exact this
                  have HKS : Hid (∀ W, Off [l] wr W → W.cell? ⟨g, 0, none⟩ = some (.slice (some ⟨l, 0, none⟩) N cl) ∧ W.cell? ⟨g, 1, none⟩ = some (.slice (some ⟨b, 0, none⟩) R cr) ∧ W.cell? ⟨b, k * 2 + 1, none⟩ = some (.string x.2)) := fun W hW => ⟨(hW.cell (p := ⟨g, 0, none⟩) HGW.out.lt (by have := HGL.out; simpa using this)).trans c0, (hW.cell (p := ⟨g, 1, none⟩) HGW.out.lt (by have := HGL.out; simpa using this)).trans c1, (hW.cell (p := ⟨b, k * 2 + 1, none⟩) hbw (by have := HBL.out; simpa using this)).trans d1'⟩
                  clear hy1 hy2 hil2 hxi
                  generalize x.2 = xs at *
                  generalize x.1 = xi at *
                  go_wp2_with fail
                  go_region_held3 (fun W => W.cell? ⟨g, 0, none⟩ = some (.slice (some ⟨l, 0, none⟩) N cl) ∧ W.cell? ⟨g, 1, none⟩ = some (.slice (some ⟨b, 0, none⟩) R cr) ∧ W.cell? ⟨b, k * 2 + 1, none⟩ = some (.string xs))
                    (first | exact HKS.out _ (Off.refl [l] wr).drew | exact HKS.out _ ((Off.refl [l] wr).setCell (.inl (by simp)) _).drew)
                    (fail)
                  go_wp2_with fail
                  go_roundw
                  case rel =>
                    first
                      | exact ⟨k + 1, by omega, by go_num, by rw [HY1.out], HNEW.out⟩
                      | ((repeat apply Exists.intro); exact ⟨⟨k + 1, by omega, by go_num, by rw [HY1.out], HNEW.out⟩, rfl⟩)
                  case measure => simp [intOf]; omega
                · have r1 : ((x.1 : Int) == (i : Int)) = false := by simp; omega
                  have r2 : (x.1 == i) = false := by simp; omega
                  have HSM : Hid (tk D i K (k + 1) = tk D i K k) := tk_no HX.out hxi K
                  clear hxi
                  go_wp2_with fail
                  go_roundw
                  case rel =>
                    have hq : RPass w wr g l cl D (passRow D picks i (takenOf D i (tk D i K (k + 1)))) := by rw [HSM.out]; exact HP1.out
                    have hz : ((d1 : Int) + 1) = ((K - tk D i K (k + 1) : Nat) : Int) := by rw [HSM.out, ← HD1.out]; rfl
                    first
                      | exact ⟨k + 1, by omega, by go_num, by rw [← hz]; rfl, hq⟩
                      | ((repeat apply Exists.intro); exact ⟨⟨k + 1, by omega, by go_num, by rw [← hz]; rfl, hq⟩, rfl⟩)
                  case measure => simp [intOf]; omega
              · have htke : tk D i K k = K := tk_end (by rw [← HM.out]; exact hKm) (by rw [← HR.out]; have := HD1.out; have := tk_le D i K k; omega)
                have HQ : Hid (RPass w wr g l cl D (passRow D picks (i + 1) (D.sec.getD (i + 1) ByteArray.empty))) := show RPass _ _ _ _ _ _ _ by
                  have := HP1.out
                  rw [htke, HKE.out, passRow_next] at this
                  exact this
                have HT2 : Hid (D.turn (i + 1) = t + 1) := show _ = _ by rw [HT1.out, HT.out]
                have hex : (decide ((k : Int) < (R : Int)) = false ∧ decide (k < R) = false) ∨ (k < R ∧ decide ((0 : Int) < (d : Int)) = false ∧ decide (0 < d) = false) := by
                  by_cases h1 : k < R
                  · right; refine ⟨h1, ?_, ?_⟩ <;> simp <;> omega
                  · left; constructor <;> simp <;> omega
                clear htke hgw hgo
                rcases hex with ⟨z1, z2⟩ | ⟨z0, z1, z2⟩
                all_goals
                  go_wp2_with fail
                  go_roundw
                  case rel =>
                    first
                      | exact ⟨i + 1, by omega, by go_num, by rw [HT2.out]; go_num, HQ.out⟩
                      | ((repeat apply Exists.intro); exact ⟨⟨i + 1, by omega, by go_num, by rw [HT2.out]; go_num, HQ.out⟩, rfl⟩)
                  case measure => simp [intOf]; omega
          · have e1 : ((t : Int) % (np : Int)) = (q : Int) := by rw [hq]; omega
            have e2 : (t : Int).tmod (np : Int) = (q : Int) := by rw [Int.tmod_eq_emod_of_nonneg (by omega)]; exact e1
            have e3 : (0 : Int) ≤ (q : Int) := by omega
            have e4 : (q : Int) < (np : Int) := by omega
            have e5 : decide ((0 : Int) < (np : Int)) = true := by simp; omega
            have e5' : decide (0 < np) = true := by simp; omega
            have t0 : (0 : Int) ≤ (t : Int) := by omega
            have HA3 := Lib.hid hA3
            subst hA3
            clear hq
            by_cases hp0 : 0 < p
            · have f1 : decide ((0 : Int) < p) = true := by simpa using hp0
              obtain ⟨P, hP⟩ : ∃ P : Nat, p = (P : Int) := ⟨p.toNat, by omega⟩
              subst hP
              rw [Int.toNat_natCast] at hKp
              have e7 : ((P : Int) % ((m : Int) + 1)) = (K : Int) := by rw [hKp, Int.natCast_emod]; rfl
              have e8 : (P : Int).tmod ((m : Int) + 1) = (K : Int) := by rw [Int.tmod_eq_emod_of_nonneg (by omega)]; exact e7
              have e10 : IntKind.i64.wrap ((m : Int) + 1) = (m : Int) + 1 := IntWalk.i64_in _ (by omega)
              have f2 : decide (0 < P) = true := by simp; omega
              have HKP := Lib.hid hKp
              have H8 : Hid (Value.int .i64 ((K : Nat) : Int) = .int .i64 ((K : Nat) : Int)) := rfl
              clear hKp hp0
              go_wp2_with fail
              (go_at_call 27)
              refine HWT.out.mono ?_
              rintro e wX ⟨rfl, rfl⟩
              go_wp2_with fail
              go_loopw [8, 9] (fun kp c wr2 => ∃ k : Nat, k ≤ R ∧ c = .int .i64 (k : Int) ∧ kp = .int .i64 ((K - tk D i K k : Nat) : Int) ∧ RPass w wr2 g l cl D (passRow D picks i (takenOf D i (tk D i K k)))) (fun _ c _ => R - (intOf c).toNat)
              case atStart =>
                first
                  | exact HLOOP.out _ H8.out
                  | exact HLOOP.out _ rfl
                  | ((repeat apply Exists.intro); exact ⟨HLOOP.out _ H8.out, rfl⟩)
              case round =>
                clear c0 c1 HGW HMID HWT HLOOP H8 HP0
                obtain ⟨k, hk, rfl, rfl, hp⟩ := hrel
                have HP1 := Lib.hid hp
                have hgw := HGW0.out wr hp.off
                obtain ⟨c0, c1, c2, c3, c4, c5⟩ := hgw.six
                have HGW := Lib.hid hgw
                clear hp c2 c3 c4 c5
                obtain ⟨d, hd⟩ : ∃ d, d = K - tk D i K k := ⟨_, rfl⟩
                rw [← hd]
                have hdb : d ≤ m := by omega
                have HD1 := Lib.hid hd
                clear hd
                by_cases hgo : k < R ∧ 0 < d
                · obtain ⟨hkR, hd0⟩ := hgo
                  have htkl : tk D i K k < K := by have := HD1.out; omega
                  obtain ⟨d1, rfl⟩ : ∃ d1, d = d1 + 1 := ⟨d - 1, by omega⟩
                  obtain ⟨x, hx⟩ : ∃ x, D.row[k]? = some x := ⟨_, List.getElem?_eq_getElem (by rw [← HR.out]; exact hkR)⟩
                  obtain ⟨b, hAR, hbS, hblt, hbg, hbl, d0, dd1⟩ := HD.out.wait hx
                  have HAR := Lib.hid hAR
                  rw [hAR] at c1
                  have HX := Lib.hid hx
                  have d0' : wr.cell? ⟨b, k * 2, none⟩ = some (.int .i64 (x.1 : Int)) := (HP1.out.off.cell (p := ⟨b, k * 2, none⟩) hblt (by simpa using hbl)).trans d0
                  have d1' : wr.cell? ⟨b, k * 2 + 1, none⟩ = some (.string x.2) := (HP1.out.off.cell (p := ⟨b, k * 2 + 1, none⟩) hblt (by simpa using hbl)).trans dd1
                  have hbw : b < wr.heap.size := Nat.lt_of_lt_of_le hblt HP1.out.off.size
                  have HBL := Lib.hid hbl
                  have HTKL := Lib.hid htkl
                  have k0 : (0 : Int) ≤ (k : Int) := by omega
                  have k1 : (k : Int) < (R : Int) := by omega
                  have w1 : IntKind.i64.wrap ((d1 : Int) + 1 - 1) = (d1 : Int) := by rw [Int.add_sub_cancel]; exact IntWalk.i64_in _ (by omega)
                  have w2 : decide ((0 : Int) < (d1 : Int) + 1) = true := decide_eq_true (by omega)
                  clear hx d0 dd1 hbg hbl hbS hblt hgw hd0 htkl hAR
                  by_cases hxi : x.1 = i
                  · have r1 : ((x.1 : Int) == (i : Int)) = true := by simp; omega
                    have r2 : (x.1 == i) = true := by simp; omega
                    obtain ⟨hy1, hy2⟩ := tk_yes HX.out hxi HTKL.out
                    have HY2 : Hid (takenOf D i (tk D i K (k + 1)) = x.2) := hy2
                    have HY1 : Hid (K - tk D i K (k + 1) = d1) := show _ = _ by have := HD1.out; omega
                    have hil2 : i < D.sec.length := HIL.out
                    have hcl : wr.cell? ⟨l, i, none⟩ = some (.string ((passRow D picks i (takenOf D i (tk D i K k))).getD i ByteArray.empty)) := by
                      rw [HP1.out.sec.cellAt i (by omega)]
                      unfold strs
                      rw [List.getElem?_map, List.getElem?_eq_getElem (by rw [passRow_len]; exact hil2), List.getD_eq_getElem?_getD, List.getElem?_eq_getElem (by rw [passRow_len]; exact hil2)]
                      rfl
                    have hfl := HP1.out.sec.frozenAt i
                    have i0 : (0 : Int) ≤ (i : Int) := by omega
                    have i1 : (i : Int) < (N : Int) := by omega
                    have HNEW : Hid (RPass w (wr.setCell ⟨l, i, none⟩ (.string x.2)).drew g l cl D (passRow D picks i (takenOf D i (tk D i K (k + 1))))) := show RPass _ _ _ _ _ _ _ by
                      have := HP1.out.put i x.2
                      rw [passRow_set] at this
                      rw [HY2.out]
                      exact this
                    have HKS : Hid (∀ W, Off [l] wr W → W.cell? ⟨g, 0, none⟩ = some (.slice (some ⟨l, 0, none⟩) N cl) ∧ W.cell? ⟨g, 1, none⟩ = some (.slice (some ⟨b, 0, none⟩) R cr) ∧ W.cell? ⟨b, k * 2 + 1, none⟩ = some (.string x.2)) := fun W hW => ⟨(hW.cell (p := ⟨g, 0, none⟩) HGW.out.lt (by have := HGL.out; simpa using this)).trans c0, (hW.cell (p := ⟨g, 1, none⟩) HGW.out.lt (by have := HGL.out; simpa using this)).trans c1, (hW.cell (p := ⟨b, k * 2 + 1, none⟩) hbw (by have := HBL.out; simpa using this)).trans d1'⟩
                    clear hy1 hy2 hil2 hxi
                    generalize x.2 = xs at *
                    generalize x.1 = xi at *
                    go_wp2_with fail
                    go_region_held3 (fun W => W.cell? ⟨g, 0, none⟩ = some (.slice (some ⟨l, 0, none⟩) N cl) ∧ W.cell? ⟨g, 1, none⟩ = some (.slice (some ⟨b, 0, none⟩) R cr) ∧ W.cell? ⟨b, k * 2 + 1, none⟩ = some (.string xs))
                      (first | exact HKS.out _ (Off.refl [l] wr).drew | exact HKS.out _ ((Off.refl [l] wr).setCell (.inl (by simp)) _).drew)
                      (fail)
                    go_wp2_with fail
                    go_roundw
                    case rel =>
                      first
                        | exact ⟨k + 1, by omega, by go_num, by rw [HY1.out], HNEW.out⟩
                        | ((repeat apply Exists.intro); exact ⟨⟨k + 1, by omega, by go_num, by rw [HY1.out], HNEW.out⟩, rfl⟩)
                    case measure => simp [intOf]; omega
                  · have r1 : ((x.1 : Int) == (i : Int)) = false := by simp; omega
                    have r2 : (x.1 == i) = false := by simp; omega
                    have HSM : Hid (tk D i K (k + 1) = tk D i K k) := tk_no HX.out hxi K
                    clear hxi
                    go_wp2_with fail
                    go_roundw
                    case rel =>
                      have hq : RPass w wr g l cl D (passRow D picks i (takenOf D i (tk D i K (k + 1)))) := by rw [HSM.out]; exact HP1.out
                      have hz : ((d1 : Int) + 1) = ((K - tk D i K (k + 1) : Nat) : Int) := by rw [HSM.out, ← HD1.out]; rfl
                      first
                        | exact ⟨k + 1, by omega, by go_num, by rw [← hz]; rfl, hq⟩
                        | ((repeat apply Exists.intro); exact ⟨⟨k + 1, by omega, by go_num, by rw [← hz]; rfl, hq⟩, rfl⟩)
                    case measure => simp [intOf]; omega
                · have htke : tk D i K k = K := tk_end (by rw [← HM.out]; exact hKm) (by rw [← HR.out]; have := HD1.out; have := tk_le D i K k; omega)
                  have HQ : Hid (RPass w wr g l cl D (passRow D picks (i + 1) (D.sec.getD (i + 1) ByteArray.empty))) := show RPass _ _ _ _ _ _ _ by
                    have := HP1.out
                    rw [htke, HKE.out, passRow_next] at this
                    exact this
                  have HT2 : Hid (D.turn (i + 1) = t + 1) := show _ = _ by rw [HT1.out, HT.out]
                  have hex : (decide ((k : Int) < (R : Int)) = false ∧ decide (k < R) = false) ∨ (k < R ∧ decide ((0 : Int) < (d : Int)) = false ∧ decide (0 < d) = false) := by
                    by_cases h1 : k < R
                    · right; refine ⟨h1, ?_, ?_⟩ <;> simp <;> omega
                    · left; constructor <;> simp <;> omega
                  clear htke hgw hgo
                  rcases hex with ⟨z1, z2⟩ | ⟨z0, z1, z2⟩
                  all_goals
                    go_wp2_with fail
                    go_roundw
                    case rel =>
                      first
                        | exact ⟨i + 1, by omega, by go_num, by rw [HT2.out]; go_num, HQ.out⟩
                        | ((repeat apply Exists.intro); exact ⟨⟨i + 1, by omega, by go_num, by rw [HT2.out]; go_num, HQ.out⟩, rfl⟩)
                    case measure => simp [intOf]; omega
            · have f1 : decide ((0 : Int) < p) = false := by simpa using hp0
              have H8 : Hid (Value.int .i64 0 = .int .i64 ((K : Nat) : Int)) := show _ = _ by
                have : p.toNat = 0 := by omega
                rw [hKp, this, Nat.zero_mod]; rfl
              clear hKp hp0
              go_wp2_with fail
              (go_at_call 27)
              refine HWT.out.mono ?_
              rintro e wX ⟨rfl, rfl⟩
              go_wp2_with fail
              go_loopw [8, 9] (fun kp c wr2 => ∃ k : Nat, k ≤ R ∧ c = .int .i64 (k : Int) ∧ kp = .int .i64 ((K - tk D i K k : Nat) : Int) ∧ RPass w wr2 g l cl D (passRow D picks i (takenOf D i (tk D i K k)))) (fun _ c _ => R - (intOf c).toNat)
              case atStart =>
                first
                  | exact HLOOP.out _ H8.out
                  | exact HLOOP.out _ rfl
                  | ((repeat apply Exists.intro); exact ⟨HLOOP.out _ H8.out, rfl⟩)
              case round =>
                clear c0 c1 HGW HMID HWT HLOOP H8 HP0
                obtain ⟨k, hk, rfl, rfl, hp⟩ := hrel
                have HP1 := Lib.hid hp
                have hgw := HGW0.out wr hp.off
                obtain ⟨c0, c1, c2, c3, c4, c5⟩ := hgw.six
                have HGW := Lib.hid hgw
                clear hp c2 c3 c4 c5
                obtain ⟨d, hd⟩ : ∃ d, d = K - tk D i K k := ⟨_, rfl⟩
                rw [← hd]
                have hdb : d ≤ m := by omega
                have HD1 := Lib.hid hd
                clear hd
                by_cases hgo : k < R ∧ 0 < d
                · obtain ⟨hkR, hd0⟩ := hgo
                  have htkl : tk D i K k < K := by have := HD1.out; omega
                  obtain ⟨d1, rfl⟩ : ∃ d1, d = d1 + 1 := ⟨d - 1, by omega⟩
                  obtain ⟨x, hx⟩ : ∃ x, D.row[k]? = some x := ⟨_, List.getElem?_eq_getElem (by rw [← HR.out]; exact hkR)⟩
                  obtain ⟨b, hAR, hbS, hblt, hbg, hbl, d0, dd1⟩ := HD.out.wait hx
                  have HAR := Lib.hid hAR
                  rw [hAR] at c1
                  have HX := Lib.hid hx
                  have d0' : wr.cell? ⟨b, k * 2, none⟩ = some (.int .i64 (x.1 : Int)) := (HP1.out.off.cell (p := ⟨b, k * 2, none⟩) hblt (by simpa using hbl)).trans d0
                  have d1' : wr.cell? ⟨b, k * 2 + 1, none⟩ = some (.string x.2) := (HP1.out.off.cell (p := ⟨b, k * 2 + 1, none⟩) hblt (by simpa using hbl)).trans dd1
                  have hbw : b < wr.heap.size := Nat.lt_of_lt_of_le hblt HP1.out.off.size
                  have HBL := Lib.hid hbl
                  have HTKL := Lib.hid htkl
                  have k0 : (0 : Int) ≤ (k : Int) := by omega
                  have k1 : (k : Int) < (R : Int) := by omega
                  have w1 : IntKind.i64.wrap ((d1 : Int) + 1 - 1) = (d1 : Int) := by rw [Int.add_sub_cancel]; exact IntWalk.i64_in _ (by omega)
                  have w2 : decide ((0 : Int) < (d1 : Int) + 1) = true := decide_eq_true (by omega)
                  clear hx d0 dd1 hbg hbl hbS hblt hgw hd0 htkl hAR
                  by_cases hxi : x.1 = i
                  · have r1 : ((x.1 : Int) == (i : Int)) = true := by simp; omega
                    have r2 : (x.1 == i) = true := by simp; omega
                    obtain ⟨hy1, hy2⟩ := tk_yes HX.out hxi HTKL.out
                    have HY2 : Hid (takenOf D i (tk D i K (k + 1)) = x.2) := hy2
                    have HY1 : Hid (K - tk D i K (k + 1) = d1) := show _ = _ by have := HD1.out; omega
                    have hil2 : i < D.sec.length := HIL.out
                    have hcl : wr.cell? ⟨l, i, none⟩ = some (.string ((passRow D picks i (takenOf D i (tk D i K k))).getD i ByteArray.empty)) := by
                      rw [HP1.out.sec.cellAt i (by omega)]
                      unfold strs
                      rw [List.getElem?_map, List.getElem?_eq_getElem (by rw [passRow_len]; exact hil2), List.getD_eq_getElem?_getD, List.getElem?_eq_getElem (by rw [passRow_len]; exact hil2)]
                      rfl
                    have hfl := HP1.out.sec.frozenAt i
                    have i0 : (0 : Int) ≤ (i : Int) := by omega
                    have i1 : (i : Int) < (N : Int) := by omega
                    have HNEW : Hid (RPass w (wr.setCell ⟨l, i, none⟩ (.string x.2)).drew g l cl D (passRow D picks i (takenOf D i (tk D i K (k + 1))))) := show RPass _ _ _ _ _ _ _ by
                      have := HP1.out.put i x.2
                      rw [passRow_set] at this
                      rw [HY2.out]
                      exact this
                    have HKS : Hid (∀ W, Off [l] wr W → W.cell? ⟨g, 0, none⟩ = some (.slice (some ⟨l, 0, none⟩) N cl) ∧ W.cell? ⟨g, 1, none⟩ = some (.slice (some ⟨b, 0, none⟩) R cr) ∧ W.cell? ⟨b, k * 2 + 1, none⟩ = some (.string x.2)) := fun W hW => ⟨(hW.cell (p := ⟨g, 0, none⟩) HGW.out.lt (by have := HGL.out; simpa using this)).trans c0, (hW.cell (p := ⟨g, 1, none⟩) HGW.out.lt (by have := HGL.out; simpa using this)).trans c1, (hW.cell (p := ⟨b, k * 2 + 1, none⟩) hbw (by have := HBL.out; simpa using this)).trans d1'⟩
                    clear hy1 hy2 hil2 hxi
                    generalize x.2 = xs at *
                    generalize x.1 = xi at *
                    go_wp2_with fail
                    go_region_held3 (fun W => W.cell? ⟨g, 0, none⟩ = some (.slice (some ⟨l, 0, none⟩) N cl) ∧ W.cell? ⟨g, 1, none⟩ = some (.slice (some ⟨b, 0, none⟩) R cr) ∧ W.cell? ⟨b, k * 2 + 1, none⟩ = some (.string xs))
                      (first | exact HKS.out _ (Off.refl [l] wr).drew | exact HKS.out _ ((Off.refl [l] wr).setCell (.inl (by simp)) _).drew)
                      (fail)
                    go_wp2_with fail
                    go_roundw
                    case rel =>
                      first
                        | exact ⟨k + 1, by omega, by go_num, by rw [HY1.out], HNEW.out⟩
                        | ((repeat apply Exists.intro); exact ⟨⟨k + 1, by omega, by go_num, by rw [HY1.out], HNEW.out⟩, rfl⟩)
                    case measure => simp [intOf]; omega
                  · have r1 : ((x.1 : Int) == (i : Int)) = false := by simp; omega
                    have r2 : (x.1 == i) = false := by simp; omega
                    have HSM : Hid (tk D i K (k + 1) = tk D i K k) := tk_no HX.out hxi K
                    clear hxi
                    go_wp2_with fail
                    go_roundw
                    case rel =>
                      have hq : RPass w wr g l cl D (passRow D picks i (takenOf D i (tk D i K (k + 1)))) := by rw [HSM.out]; exact HP1.out
                      have hz : ((d1 : Int) + 1) = ((K - tk D i K (k + 1) : Nat) : Int) := by rw [HSM.out, ← HD1.out]; rfl
                      first
                        | exact ⟨k + 1, by omega, by go_num, by rw [← hz]; rfl, hq⟩
                        | ((repeat apply Exists.intro); exact ⟨⟨k + 1, by omega, by go_num, by rw [← hz]; rfl, hq⟩, rfl⟩)
                    case measure => simp [intOf]; omega
                · have htke : tk D i K k = K := tk_end (by rw [← HM.out]; exact hKm) (by rw [← HR.out]; have := HD1.out; have := tk_le D i K k; omega)
                  have HQ : Hid (RPass w wr g l cl D (passRow D picks (i + 1) (D.sec.getD (i + 1) ByteArray.empty))) := show RPass _ _ _ _ _ _ _ by
                    have := HP1.out
                    rw [htke, HKE.out, passRow_next] at this
                    exact this
                  have HT2 : Hid (D.turn (i + 1) = t + 1) := show _ = _ by rw [HT1.out, HT.out]
                  have hex : (decide ((k : Int) < (R : Int)) = false ∧ decide (k < R) = false) ∨ (k < R ∧ decide ((0 : Int) < (d : Int)) = false ∧ decide (0 < d) = false) := by
                    by_cases h1 : k < R
                    · right; refine ⟨h1, ?_, ?_⟩ <;> simp <;> omega
                    · left; constructor <;> simp <;> omega
                  clear htke hgw hgo
                  rcases hex with ⟨z1, z2⟩ | ⟨z0, z1, z2⟩
                  all_goals
                    go_wp2_with fail
                    go_roundw
                    case rel =>
                      first
                        | exact ⟨i + 1, by omega, by go_num, by rw [HT2.out]; go_num, HQ.out⟩
                        | ((repeat apply Exists.intro); exact ⟨⟨i + 1, by omega, by go_num, by rw [HT2.out]; go_num, HQ.out⟩, rfl⟩)
                    case measure => simp [intOf]; omega
      · obtain rfl : i = N := by omega
        have t1 : decide ((i : Int) < (i : Int)) = false := by simp
        have g1 := HGW.out.frozen 1
        have g2 := HGW.out.frozen 2
        have d2 := HGW.out.six.2.2.1
        clear hgw
        go_wp2_with fail
        go_ret
        exact rdevPost_of (by rw [HL.out]) (by rw [HL.out]; rfl) (by
          have hp := HP0.out
          have hpr : passRow D picks i (D.sec.getD i ByteArray.empty) = (List.range D.sec.length).map (D.kept picks) := by rw [HN.out]; exact passRow_end D picks _
          rw [hpr] at hp
          have hst : (D.start picks).1 = { D with sec := (List.range D.sec.length).map (D.kept picks), row := [], off := false } := by rw [HL.out]
          have hok2 := HD.out.ok.start picks
          rw [hst] at hok2
          have hbk := (HGW.out.put 1 (.slice none 0 0)).put 2 (.bool false)
          rw [HN.out] at hbk
          exact HD.out.passed (D' := { D with sec := (List.range D.sec.length).map (D.kept picks), row := [], off := false }) (w2 := (wr.setCell ⟨g, 1, none⟩ (.slice none 0 0)).setCell ⟨g, 2, none⟩ (.bool false)) hp (by simp) hok2 rfl rfl hbk (((Off.refl [g] wr).setCell (.inl (by simp)) _).setCell (.inl (by simp)) _))
end Go.Proofs.Ytchldjjfaiikbaa

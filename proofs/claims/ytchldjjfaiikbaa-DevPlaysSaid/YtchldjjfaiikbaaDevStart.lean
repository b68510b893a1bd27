/- Contract of the device: Start. -/
import Derived.Test.YtchldjjfaiikbaaDevKeys
import Derived.Test.YtchldjjfaiikbaaPlainStart
namespace Go.Proofs.Ytchldjjfaiikbaa
open Go.RowKit
open Go.PlainAid
set_option maxRecDepth 100000
set_option linter.unusedVariables false
set_option linter.unusedSimpArgs false

/-- The keys as ints. -/
def busyI (D : DevS) : List Int := (busyL D).map fun i : Nat => (i : Int)
theorem busyI_rising (D : DevS) : (busyI D).Pairwise (· < ·) := by
  unfold busyI
  rw [List.pairwise_map]
  exact (busyL_rising D).imp (by intro a b h; omega)
theorem busyI_mem {D : DevS} (h : D.Ok) (B C : Nat → Nat) (x : Int) : x ∈ busyI D ↔ (waitV D.row B C x).isSome = true := by
  unfold busyI
  rw [List.mem_map]
  constructor
  · rintro ⟨i, hi, rfl⟩
    rw [waitV_isSome]
    exact (busyL_mem.1 hi).2
  · intro hx
    cases hv : waitV D.row B C x with
    | none => rw [hv] at hx; cases hx
    | some v =>
      obtain ⟨k, n, rfl, hn, _⟩ := waitV_some hv
      refine ⟨k, busyL_mem.2 ⟨?_, ?_⟩, rfl⟩
      · rcases Nat.lt_or_ge k D.sec.length with h1 | h1
        · exact h1
        · have h2 := DevS.waits_nil_of_ge h h1
          unfold DevS.waits at h2
          rw [h2] at hn
          simp at hn
      · rw [waitV_isSome] at hx
        exact hx

theorem dstart_nil (w : World) (v : Value) : Calls Try.prog 15 #[.pointer none, v] w fun e w' => e = .returned (.int .i64 2) ∧ w = w' := by
  go_enter Try.func15, Try.ntmps15
  go_wp2_with fail
  go_ret
  exact ⟨rfl, rfl⟩

theorem dstart_on {g : Nat} {S : List Nat} {D : DevS} {w : World} (hd : Dev w g S D) (picks : List Int) (v : Value) (hoff : D.off = false) :
    Calls Try.prog 15 #[ptr g, v] w (DevPost g S (D.start picks).1 (.int .i64 (D.start picks).2) w) := by
  have hd0 := Lib.hid hd
  obtain ⟨l, m, nn, B, C, h⟩ := hd
  obtain ⟨c0, c1, c2, c3, c4, c5⟩ := h.cells.six
  have HL : Hid (D.start picks = (D, 10)) := show _ = _ by unfold DevS.start; rw [hoff]; rfl
  rw [hoff] at c2
  clear h hoff c0 c1 c3 c4 c5
  go_enter Try.func15, Try.ntmps15
  go_wp2_with fail
  go_ret
  exact devPost_of (by rw [HL.out]) (by rw [HL.out]; rfl) ⟨S, hd0.out, Off.refl _ _, Fresh.refl _ _⟩

theorem made_set2 (w : World) (p : Addr) (u : Value) (p2 : Addr) (u2 : Value) : IMap Try.prog 3 (((w.setCell p u).setCell p2 u2).alloc (.map #[] 0)) w.heap.size 0 (fun _ => none) := by
  have h := IMap.made ((w.setCell p u).setCell p2 u2) Try.prog 3
  have e : ((w.setCell p u).setCell p2 u2).heap.size = w.heap.size := by simp [World.setCell]
  rw [e] at h
  exact h
/-- What stands at a key while the sectors' row is written. -/
theorem start_look {w2 wr : World} {g : Nat} {S : List Nat} {D : DevS} {l m nn : Nat} {B C : Nat → Nat} (h : DevAt w2 g S D l m nn B C) (ho : Off [l] w2 wr) (i : Nat) (hil : i ≤ 100000) (hw : D.waits i ≠ []) :
    (Instr.lookup 57 (.map (some m)) (.int .i64 (i : Int)) false).run Try.prog wr = .ok (.slice (some ⟨B i, 0, none⟩) (D.waits i).length (C i)) wr ∧
    (∀ (r : Nat) (hr : r < (D.waits i).length), wr.cell? ⟨B i, r, none⟩ = some (.string (D.waits i)[r])) ∧ B i ≠ l ∧ B i < wr.heap.size := by
  have hlm : m ∉ [l] := by simpa using fun e => (h.map.ne_bk h.sec) e.symm
  have h1 := (h.map.off ho hlm).look (t := 57) Try.underlying3 Try.underlying57 (zero_strs wr) (i := (i : Int)) (wf64 (by omega) (by omega))
  refine ⟨?_, ?_, h.apartL i hw, Nat.lt_of_lt_of_le (h.old _ (h.inS.2.2.2 i hw)) ho.size⟩
  · rw [h1]
    unfold waitV
    rw [Int.toNat_natCast, if_pos ⟨by omega, hw⟩]
    rfl
  · intro r hr
    have h2 := ho.own (h.own i hw) (fun b hb => by
      have : b = B i := by simpa [Value.ownBlock] using hb.symm
      subst this
      simpa using h.apartL i hw)
    obtain ⟨b, o, hbo, _, hc⟩ := Sl.of_own h2 r (.string (D.waits i)[r]) (by simp [strs, hr])
    injection hbo with hbo
    injection hbo with hb1 ho1
    subst hb1
    subst ho1
    rw [Nat.zero_add] at hc
    exact hc

set_option maxHeartbeats 4000000 in
theorem dstart_any {g : Nat} {S : List Nat} {D : DevS} {w : World} (hd : Dev w g S D) (A : Option Addr) (picks : List Int) (cap : Nat) (hp : Sl w A (picks.map (Value.int .i64))) (hpl : picks.length ≤ maxLen) (hpw : ∀ p ∈ picks, p ≤ 9223372036854775807) (hA : picks ≠ [] → ∀ a, A = some a → a.block ∉ S)
    (hb : D.steps ≤ 1000000000) :
    Calls Try.prog 15 #[ptr g, .slice A picks.length cap] w (DevPost g S (D.start picks).1 (.int .i64 (D.start picks).2) w) := by
  cases hoff : D.off with
  | false => exact dstart_on hd picks _ hoff
  | true =>
    obtain ⟨l, m, nn, B, C, h⟩ := hd
    have HD := Lib.hid h
    have HP := Lib.hid hp
    have HPL := Lib.hid hpl
    have HPW := Lib.hid hpw
    clear hpw
    have HA := Lib.hid hA
    have HL : Hid (D.start picks = ({ D with sec := (List.range D.sec.length).map (D.kept picks), row := [], off := false }, 0)) := show _ = _ by unfold DevS.start; rw [hoff]; rfl
    obtain ⟨c0, c1, c2, c3, c4, c5⟩ := h.cells.six
    rw [hoff] at c2
    have hmm := @run_makeMap Try.prog
    have HNN : Hid (nn ≤ 1000000000) := show _ ≤ _ by have := h.nn; have := h.ok.writesS; omega
    clear h hp hpl hA hoff c0 c3 c4 c5
    go_enter Try.func15, Try.ntmps15
    go_wp2_with (first
      | (go_at_call 31; refine (dkeys m _).mono ?_; rintro e w1 ⟨rfl, rfl⟩)
      | (go_at_call 30; refine (dsorted HD.out.map HNN.out (busyI D) (busyI_rising D) (busyI_mem HD.out.ok B C)).mono ?_; rintro e w2 ⟨v, rfl, hown, hbel⟩; have HOWN := Lib.hid hown; have HBEL := Lib.hid hbel; clear hown hbel; obtain ⟨A2, cap2, hv2, hv3, hv4, hv5, hsl2, hal2⟩ := own_slice HOWN.out; subst hv2; clear hv3 hv4 hv5; have HSL2 := Lib.hid hsl2; have HAL2 := Lib.hid hal2; clear hsl2 hal2)
      | fail)
    have hbel0 := HBEL.out
    have hsz0 : (w.alloc (.cells #[.map (some m)] 57)).heap.size = w.heap.size + 1 := by simp
    have hO2 : Off [] w w2 := Off.of_below ((((Below.refl _ w).alloc (Nat.le_refl _) _).trans (hbel0.mono (by omega)))) []
    have H2 := Lib.hid (HD.out.off hO2 (by simp))
    have HO2 := Lib.hid hO2
    have HKL : Hid ((busyI D).length = (busyL D).length) := show _ = _ by simp [busyI]
    have HPK : Hid (Sl w2 A (picks.map (Value.int .i64))) := HP.out.off HO2.out (by simp)
    have HLM : Hid (l ≠ m ∧ g ≠ m ∧ g ≠ l) := ⟨HD.out.map.ne_bk HD.out.sec, HD.out.map.ne_bk HD.out.cells, Bk.ne HD.out.cells HD.out.sec (by decide)⟩
    have HA2 : Hid (∀ a, A2 = some a → a.block ≠ l) := fun a ha => by
      have h1 := (HAL2.out a ha).1
      have h2 := HD.out.sec.lt
      omega
    have HAl : Hid (picks ≠ [] → ∀ a, A = some a → a.block ≠ l) := fun hne a ha e => HA.out hne a ha (by rw [e]; exact HD.out.inS.2.1)
    have HKB : Hid ((busyI D).length ≤ 1000000) := show _ ≤ _ by
      have h1 : (busyL D).length ≤ (List.range D.sec.length).length := List.length_filter_le _ _
      rw [HKL.out]
      have := HD.out.ok.most
      simp at h1
      omega
    clear hbel0 hsz0 hO2 c1 c2
    obtain ⟨K, hK⟩ : ∃ K, K = (busyI D).length := ⟨_, rfl⟩
    rw [← hK]
    have HK := Lib.hid hK
    clear hK
    have hKb : K ≤ 1000000 := by rw [HK.out]; exact HKB.out
    obtain ⟨np, hnp⟩ : ∃ np, np = picks.length := ⟨_, rfl⟩
    rw [← hnp]
    have HNP := Lib.hid hnp
    clear hnp
    have hnpb : np ≤ 9223372036854775807 := by rw [HNP.out]; have := HPL.out; unfold maxLen at this; omega
    go_loopw [26] (fun c wr => ∃ j : Nat, j ≤ K ∧ c = .int .i64 (j : Int) ∧ Bk wr l 9 (strs (startRow D picks j)).toArray ∧ Off [l] w2 wr) (fun c _ => K - (intOf c).toNat)
    case atStart => exact ⟨0, Nat.zero_le _, rfl, by rw [startRow_zero]; exact H2.out.sec, Off.refl _ _⟩
    case round =>
      obtain ⟨j, hj, rfl, hbl, hoff⟩ := hrel
      have HBL := Lib.hid hbl
      have HOF := Lib.hid hoff
      have hgw : Bk wr g 59 _ := hoff.bk H2.out.cells (by have := HLM.out.2.2; simpa using this)
      have hcg := hgw.six
      have HGW := Lib.hid hgw
      by_cases hlt : j < K
      · have hjl : j < (busyL D).length := by have := HK.out; have := HKL.out; omega
        obtain ⟨i, hi⟩ : ∃ i, (busyL D)[j]? = some i := ⟨_, List.getElem?_eq_getElem hjl⟩
        obtain ⟨hi1, hi2, hi3⟩ := busyL_at hi
        have HI := Lib.hid hi
        have HI3 := Lib.hid hi3
        have hil : i ≤ 100000 := by have := HD.out.ok.most; omega
        have hwi : D.waits i ≠ [] := by
          intro e
          unfold DevS.busy at hi2
          rw [e] at hi2
          simp at hi2
        obtain ⟨b2, o2, hA2, hb2, hc2⟩ := (HSL2.out.off hoff (fun a ha => by have := HA2.out a ha; simpa using this)) j (.int .i64 (i : Int)) (by
          unfold busyI
          rw [List.getElem?_map, List.getElem?_map, hi]
          rfl)
        subst hA2
        obtain ⟨hlook, hcells, hBl, hBlt⟩ := start_look H2.out hoff i hil hwi
        have hLb : (D.waits i).length ≤ 1000000000 := by
          have t1 := waitsOf_length_le D.row i
          have t2 := HD.out.ok.rowW
          have t3 := HD.out.ok.writesS
          unfold DevS.waits
          omega
        have HCELLS := Lib.hid hcells
        have hkept : D.kept picks i = if DevS.pick picks j % ((D.waits i).length + 1) = 0 then D.sec.getD i ByteArray.empty else (D.waits i).getD (DevS.pick picks j % ((D.waits i).length + 1) - 1) ByteArray.empty := by
          unfold DevS.kept
          rw [hi3]
        have HKEPT := Lib.hid hkept
        have hL0 : 0 < (D.waits i).length := List.length_pos_iff.2 hwi
        have hcm := hcg.2.1
        have hcl := hcg.1
        have HWI := Lib.hid hwi
        obtain ⟨L, hL⟩ : ∃ L, L = (D.waits i).length := ⟨_, rfl⟩
        rw [← hL] at hlook hLb hL0
        have HL2 := Lib.hid hL
        clear hL hkept hcells hbl hoff hgw hcg hi hi2 hi3 hwi
        have t1 : decide ((j : Int) < (K : Int)) = true := by simp; omega
        have t2 : (0 : Int) ≤ (j : Int) := by omega
        have t3 : (j : Int) < (K : Int) := by omega
        have t4 : IntKind.i64.wrap ((L : Int) + 1) = (L : Int) + 1 := IntWalk.i64_in _ (by omega)
        by_cases hnil : picks = []
        · have hnp0 : np = 0 := by rw [HNP.out, hnil]; rfl
          subst hnp0
          have HP0 : Hid (DevS.pick picks j = 0) := show _ = _ by unfold DevS.pick; rw [if_pos hnil]
          have HSAME : Hid (startRow D picks (j + 1) = startRow D picks j) := startRow_same HI.out (by rw [HKEPT.out, HP0.out, Nat.zero_mod, if_pos rfl])
          clear hnil
          go_wp2_with fail
          go_roundw
          case rel =>
            have hb' : Bk wr l 9 (strs (startRow D picks (j + 1))).toArray := by rw [HSAME.out]; exact HBL.out
            first
              | exact ⟨j + 1, by omega, by go_num, hb', HOF.out⟩
              | ((repeat apply Exists.intro); exact ⟨⟨j + 1, by omega, by go_num, hb', HOF.out⟩, rfl⟩)
          case measure => simp [intOf]; omega
        · have hn0 : 0 < np := by rw [HNP.out]; exact List.length_pos_iff.2 hnil
          obtain ⟨q, hq⟩ : ∃ q, q = j % np := ⟨_, rfl⟩
          have hqlt : q < np := by rw [hq]; exact Nat.mod_lt _ hn0
          have hql : q < picks.length := by rw [← HNP.out]; exact hqlt
          obtain ⟨b3, o3, hA3, hb3, hc3⟩ := (HPK.out.off HOF.out (fun a ha => by have := HAl.out hnil a ha; simpa using this)) q (.int .i64 picks[q]) (by rw [List.getElem?_map, List.getElem?_eq_getElem hql]; rfl)
          have HA3 := Lib.hid hA3
          have hPick : DevS.pick picks j = (picks[q]).toNat := by
            unfold DevS.pick
            rw [if_neg hnil, ← HNP.out, ← hq, List.getD_eq_getElem?_getD, List.getElem?_eq_getElem hql]
            rfl
          have e1 : ((j : Int) % (np : Int)) = (q : Int) := by rw [hq]; omega
          have e2 : (j : Int).tmod (np : Int) = (q : Int) := by rw [Int.tmod_eq_emod_of_nonneg (by omega)]; exact e1
          have e3 : (0 : Int) ≤ (q : Int) := by omega
          have e4 : (q : Int) < (np : Int) := by omega
          have e5 : decide ((0 : Int) < (np : Int)) = true := by simp; omega
          have e5' : decide (0 < np) = true := by simp; omega
          have hpb : picks[q] ≤ 9223372036854775807 := HPW.out _ (List.getElem_mem hql)
          generalize picks[q] = p at *
          have HPick := Lib.hid hPick
          obtain ⟨P, hP⟩ : ∃ P, P = p.toNat := ⟨_, rfl⟩
          have e6 : max (0 : Int) p = (P : Int) := by rw [hP]; omega
          have HPP := Lib.hid hP
          have hPb : P ≤ 9223372036854775807 := by rw [hP]; omega
          obtain ⟨r, hr⟩ : ∃ r, r = P % (L + 1) := ⟨_, rfl⟩
          have hrlt : r < L + 1 := by rw [hr]; exact Nat.mod_lt _ (by omega)
          have e7 : ((P : Int) % ((L : Int) + 1)) = (r : Int) := by rw [hr, Int.natCast_emod]; rfl
          have e8 : (P : Int).tmod ((L : Int) + 1) = (r : Int) := by rw [Int.tmod_eq_emod_of_nonneg (by omega)]; exact e7
          have HR := Lib.hid hr
          have HQ := Lib.hid hq
          have HNIL := Lib.hid hnil
          clear hr hq hnil hP hPick hql
          subst hA3
          have HKR : Hid (D.kept picks i = if r = 0 then D.sec.getD i ByteArray.empty else (D.waits i).getD (r - 1) ByteArray.empty) := show _ = _ by
            rw [HKEPT.out, HPick.out, ← HPP.out, ← HL2.out, ← HR.out]
          by_cases hr0 : r = 0
          · have HSAME : Hid (startRow D picks (j + 1) = startRow D picks j) := startRow_same HI.out (by rw [HKR.out, if_pos hr0])
            have f1 : decide ((0 : Int) < (r : Int)) = false := by simp; omega
            have f2 : decide (0 < r) = false := by simp; omega
            have HR0 := Lib.hid hr0
            clear hr0
            go_wp2_with fail
            go_roundw
            case rel =>
              have hb' : Bk wr l 9 (strs (startRow D picks (j + 1))).toArray := by rw [HSAME.out]; exact HBL.out
              first
                | exact ⟨j + 1, by omega, by go_num, hb', HOF.out⟩
                | ((repeat apply Exists.intro); exact ⟨⟨j + 1, by omega, by go_num, hb', HOF.out⟩, rfl⟩)
            case measure => simp [intOf]; omega
          · obtain ⟨r1, hr1⟩ : ∃ r1, r1 = r - 1 := ⟨_, rfl⟩
            have hr1L : r1 < L := by omega
            have f1 : decide ((0 : Int) < (r : Int)) = true := by simp; omega
            have f2 : decide (0 < r) = true := by simp; omega
            have f3 : ((r : Int) - 1) = (r1 : Int) := by omega
            have f4 : IntKind.i64.wrap ((r : Int) - 1) = (r1 : Int) := by rw [f3]; exact IntWalk.i64_in _ (by omega)
            have f5 : IntKind.i64.wrap (r1 : Int) = (r1 : Int) := IntWalk.i64_in _ (by omega)
            have f6 : (0 : Int) ≤ (r1 : Int) := by omega
            have f7 : (r1 : Int) < (L : Int) := by omega
            have hrl : r1 < (D.waits i).length := by rw [← HL2.out]; exact hr1L
            have hcv : wr.cell? ⟨B i, r1, none⟩ = some (.string (D.kept picks i)) := by
              rw [HCELLS.out r1 hrl, HKR.out, if_neg hr0, List.getD_eq_getElem?_getD, ← hr1, List.getElem?_eq_getElem hrl]
              rfl
            have hfl := HBL.out.frozen i
            have hkl : i < (startRow D picks j).length := by rw [startRow_len]; exact hi1
            have hcli : wr.cell? ⟨l, i, none⟩ = some (.string (startRow D picks j)[i]) := by rw [HBL.out.cell i]; simp [strs, hkl]
            have f8 : (0 : Int) ≤ (i : Int) := by omega
            have f9 : (i : Int) < (D.sec.length : Int) := by omega
            have HKS : Hid (∀ W, Off [l] wr W → W.cell? ⟨g, 0, none⟩ = some (.slice (some ⟨l, 0, none⟩) D.sec.length D.sec.length) ∧ W.cell? ⟨B i, r1, none⟩ = some (.string (D.kept picks i))) := fun W hW => ⟨(hW.cell (p := ⟨g, 0, none⟩) HGW.out.lt (by have := HLM.out.2.2; simpa using this)).trans hcl, (hW.cell (p := ⟨B i, r1, none⟩) hBlt (by simpa using hBl)).trans hcv⟩
            have HR1 := Lib.hid hr1
            have HR0 := Lib.hid hr0
            have HSTEP : Hid (startRow D picks (j + 1) = (startRow D picks j).set i (D.kept picks i)) := startRow_step HI.out
            generalize D.kept picks i = kv at *
            clear hr1 hr0
            go_wp2_with fail
            go_region_held3 (fun W => W.cell? ⟨g, 0, none⟩ = some (.slice (some ⟨l, 0, none⟩) D.sec.length D.sec.length) ∧ W.cell? ⟨B i, r1, none⟩ = some (.string kv))
              (first | exact HKS.out _ (Off.refl [l] wr).drew | exact HKS.out _ ((Off.refl [l] wr).setCell (.inl (by simp)) _).drew)
              (fail)
            go_wp2_with fail
            go_roundw
            case rel =>
              have hb' : Bk (wr.setCell ⟨l, i, none⟩ (.string kv)).drew l 9 (strs (startRow D picks (j + 1))).toArray := by
                rw [HSTEP.out]
                have h := (HBL.out.put i (.string kv)).drew
                have e : (strs ((startRow D picks j).set i kv)).toArray = (strs (startRow D picks j)).toArray.setIfInBounds i (.string kv) := by simp [strs, List.map_set]
                rw [e]
                exact h
              have ho' : Off [l] w2 (wr.setCell ⟨l, i, none⟩ (.string kv)).drew := (HOF.out.setCell (.inl (by simp)) _).drew
              first
                | exact ⟨j + 1, by omega, by go_num, hb', ho'⟩
                | ((repeat apply Exists.intro); exact ⟨⟨j + 1, by omega, by go_num, hb', ho'⟩, rfl⟩)
            case measure => simp [intOf]; omega
      · obtain rfl : j = K := by omega
        have t1 : decide ((j : Int) < (j : Int)) = false := by simp
        have hcell := hcg.2.1
        have hcell2 := hcg.2.2.1
        have hfr := hgw.frozen 1
        have hfr2 := hgw.frozen 2
        have hg1 := hgw.put 1 (.map (some wr.heap.size))
        have hgA := hg1.alloc (.map #[] 0)
        have hcellA := (hgw.alloc (.map #[] 0)).six.2.1
        have hfrA := (hgw.alloc (.map #[] 0)).frozen 1
        have hfrB := hgA.frozen 2
        have hcB := hgA.six.2.2.1
        have hgw' := hgw.lt
        clear hg1 hgA hgw hcg hbl hoff
        go_wp2_with fail
        go_ret
        exact devPost_of (by rw [HL.out]) (by rw [HL.out]; rfl) (by
          have hrow : startRow D picks j = (List.range D.sec.length).map (D.kept picks) := by
            have : j = (busyL D).length := by rw [HK.out, HKL.out]
            rw [this, startRow_end]
          have hst : (D.start picks).1 = { D with sec := (List.range D.sec.length).map (D.kept picks), row := [], off := false } := by rw [HL.out]
          obtain ⟨S', h1, h2, h3⟩ := fresh_map (X := []) (D' := { D with sec := (List.range D.sec.length).map (D.kept picks), row := [], off := false }) (m' := wr.heap.size) (W := ((wr.setCell ⟨g, 1, none⟩ (.map (some wr.heap.size))).setCell ⟨g, 2, none⟩ (.bool false)).alloc (.map #[] 0)) H2.out HOF.out (by simp) (by rw [← hrow]; exact HBL.out) (by rw [← hst]; exact H2.out.ok.start picks) rfl (by simp)
            (((HGW.out.put 1 _).put 2 _).alloc _) (made_set2 wr _ _ _ _) ((((Off.refl [g] wr).setCell (.inl (by simp)) _).setCell (.inl (by simp)) _).alloc _) HOF.out.size
          exact ⟨S', h1, (HO2.out.mono (by simp)).trans h2, fun x hx => (h3 x hx).imp_right (Nat.le_trans HO2.out.size)⟩)
end Go.Proofs.Ytchldjjfaiikbaa

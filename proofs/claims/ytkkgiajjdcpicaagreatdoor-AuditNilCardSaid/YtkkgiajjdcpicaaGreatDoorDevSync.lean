/- Contract of the device: Sync. -/
import Derived.Test.YtkkgiajjdcpicaaGreatDoorDevWrite
namespace Go.Proofs.YtkkgiajjdcpicaaGreatDoor
open Go.RowKit
open Go.PlainAid
set_option maxRecDepth 100000
set_option linter.unusedVariables false
set_option linter.unusedSimpArgs false

/-- A device whose map is new: what waited is gone, the sectors are sec. -/
theorem fresh_map {w1 wr W : World} {g : Nat} {S X : List Nat} {D D' : DevS} {l m nn m' : Nat} {B C : Nat → Nat} (h : DevAt w1 g S D l m nn B C) (ho : Off (l :: X) w1 wr) (hX : ∀ x ∈ X, w1.heap.size ≤ x)
    (hl : Bk wr l 9 (strs D'.sec).toArray) (hk : D'.Ok) (hrow : D'.row = []) (hsec : D'.sec.length = D.sec.length) (hg : Bk W g 138 (devCells l D.sec.length m' D'.off D'.fuse D'.steps D'.writes))
    (hm : IMap Tryz.prog 3 W m' 0 (fun _ => none)) (hW : Off [g] wr W) (hm' : w1.heap.size ≤ m') : ∃ S', Dev W g S' D' ∧ Off S w1 W ∧ Fresh w1 S S' := by
  obtain ⟨i1, i2, i3, i4⟩ := h.inS
  have hgl : g ≠ l := Bk.ne h.cells h.sec (by decide)
  have ho1 : Off (g :: l :: X) w1 W := (ho.mono (fun x hx => .inl (List.mem_cons_of_mem _ hx))).then hW (fun x hx => .inl (by simp at hx; simp [hx]))
  have hw : ∀ i, D'.waits i = [] := fun i => by unfold DevS.waits; rw [hrow]; rfl
  refine ⟨m' :: S, ⟨l, m', 0, B, C, ⟨hk, by rw [hsec]; exact hg, hW.bk hl (by simpa using fun e => hgl e.symm), ?_, by have := hk.writes0; omega, fun i hi => absurd (hw i) hi, fun i _ hi => absurd (hw i) hi, fun i hi => absurd (hw i) hi, ⟨List.mem_cons_of_mem _ i1, List.mem_cons_of_mem _ i2, List.mem_cons_self, fun i hi => absurd (hw i) hi⟩, ?_⟩⟩, ?_, ?_⟩
  · rw [hrow]
    have : waitV [] B C = fun _ => none := by funext i; unfold waitV; simp [waitsOf]
    rw [this]
    exact hm
  · intro b hb
    rcases List.mem_cons.1 hb with rfl | hb
    · exact hm.lt
    · exact Nat.lt_of_lt_of_le (h.old b hb) ho1.size
  · refine ho1.mono (fun x hx => ?_)
    rcases List.mem_cons.1 hx with rfl | hx
    · exact .inl i1
    · rcases List.mem_cons.1 hx with rfl | hx
      · exact .inl i2
      · exact .inr (hX x hx)
  · intro b hb
    rcases List.mem_cons.1 hb with rfl | hb
    · exact .inr hm'
    · exact .inl hb

theorem made_set (w : World) (p : Addr) (u : Value) : IMap Tryz.prog 3 ((w.setCell p u).alloc (.map #[] 0)) w.heap.size 0 (fun _ => none) := by
  have h := IMap.made (w.setCell p u) Tryz.prog 3
  have e : (w.setCell p u).heap.size = w.heap.size := by simp [World.setCell]
  rw [e] at h
  exact h
/-- The sectors' row where some entries are still to come. -/
def syncRow (D : DevS) (left : Int → Bool) : List ByteArray := (List.range D.sec.length).map fun (i : Nat) => if left (i : Int) = true then D.sec.getD i ByteArray.empty else D.latest i
theorem syncRow_len (D : DevS) (left : Int → Bool) : (syncRow D left).length = D.sec.length := by simp [syncRow]
theorem latest_nil {D : DevS} {i : Nat} (h : D.waits i = []) : D.latest i = D.sec.getD i ByteArray.empty := by unfold DevS.latest; rw [h]; rfl
theorem waitV_isSome (row : List (Nat × ByteArray)) (B C : Nat → Nat) (i : Nat) : (waitV row B C (i : Int)).isSome = !(waitsOf row i).isEmpty := by
  unfold waitV
  rw [Int.toNat_natCast]
  cases hw : waitsOf row i with
  | nil => rw [if_neg (fun e => e.2 rfl)]; rfl
  | cons a b => rw [if_pos ⟨by omega, by simp⟩]; rfl
theorem syncRow_start (D : DevS) (B C : Nat → Nat) : syncRow D (fun i => (waitV D.row B C i).isSome) = D.sec := by
  refine List.ext_getElem (by simp [syncRow]) (fun i h1 h2 => ?_)
  simp only [syncRow, List.getElem_map, List.getElem_range]
  have e : D.sec.getD i ByteArray.empty = D.sec[i] := by rw [List.getD_eq_getElem?_getD, List.getElem?_eq_getElem h2]; rfl
  rw [waitV_isSome]
  by_cases hn : waitsOf D.row i = []
  · rw [hn, latest_nil (by exact hn), e]; simp
  · have : (!(waitsOf D.row i).isEmpty) = true := by cases hw : waitsOf D.row i with
      | nil => exact absurd hw hn
      | cons a b => rfl
    rw [this, if_pos rfl, e]
theorem syncRow_step (D : DevS) (left : Int → Bool) (k : Nat) (hk : k < D.sec.length) :
    (strs (syncRow D (fun j => left j && !decide (j = (k : Int))))).toArray = (strs (syncRow D left)).toArray.setIfInBounds k (.string (D.latest k)) := by
  have e : syncRow D (fun j => left j && !decide (j = (k : Int))) = (syncRow D left).set k (D.latest k) := by
    refine List.ext_getElem (by simp [syncRow]) (fun i h1 h2 => ?_)
    rw [List.getElem_set]
    simp only [syncRow, List.getElem_map, List.getElem_range]
    by_cases hik : k = i
    · subst hik
      simp
    · have : ¬ ((i : Int) = (k : Int)) := by omega
      rw [if_neg hik]
      simp [this]
  rw [e]
  simp [strs, List.map_set]
theorem syncRow_end (D : DevS) (left : Int → Bool) (h : ∀ i, left i = false) : syncRow D left = D.synced.sec := by
  unfold syncRow DevS.synced
  simp [h]
theorem waitV_some {row : List (Nat × ByteArray)} {B C : Nat → Nat} {i : Int} {v : Value} (h : waitV row B C i = some v) :
    ∃ k n, i = ((k : Nat) : Int) ∧ (waitsOf row k).length = n + 1 ∧ v = .slice (some ⟨B k, 0, none⟩) (n + 1) (C k) := by
  unfold waitV at h
  by_cases hc : 0 ≤ i ∧ waitsOf row i.toNat ≠ []
  · rw [if_pos hc] at h
    injection h with h
    have h1 := List.length_pos_iff.2 hc.2
    refine ⟨i.toNat, (waitsOf row i.toNat).length - 1, by omega, by omega, ?_⟩
    rw [← h]
    have : (waitsOf row i.toNat).length - 1 + 1 = (waitsOf row i.toNat).length := by omega
    rw [this]
  · rw [if_neg hc] at h
    cases h

set_option maxHeartbeats 4000000 in
theorem dsync_any {g : Nat} {S : List Nat} {D : DevS} {w : World} (hd : Dev w g S D) (hb : D.steps ≤ 1000000000) :
    Calls Tryz.prog 100 #[ptr g] w (DevPost g S D.sync.1 (.int .i64 D.sync.2) w) := by
  obtain ⟨l, m, nn, B, C, h⟩ := hd
  have HD := Lib.hid h
  cases hok : D.stepOk with
  | false =>
    have HL : Hid (D.sync = (D.stepped, 6)) := show _ = _ by unfold DevS.sync; rw [hok]; rfl
    clear h
    go_enter Tryz.func100, Tryz.ntmps100
    go_wp2_with (go_at_call 158; refine (dstep_any HD.out.cells HD.out.ok hb).mono ?_; rintro e w2 ⟨rfl, hb2, ho2⟩; rw [hok]; have HB2 := Lib.hid hb2; have HO2 := Lib.hid ho2; clear hb2 ho2)
    go_ret
    exact devPost_of (by rw [HL.out]) (by rw [HL.out]; rfl) ⟨S, ⟨l, m, nn, B, C, HD.out.stepped HB2.out HO2.out⟩, HO2.out.mono (fun x hx => .inl (by simp at hx; rw [hx]; exact HD.out.inS.1)), Fresh.refl _ _⟩
  | true =>
    have HL : Hid (D.sync = (D.stepped.synced, 0)) := show _ = _ by unfold DevS.sync; rw [hok]; rfl
    have hmm := @run_makeMap Tryz.prog
    clear h
    go_enter Tryz.func100, Tryz.ntmps100
    go_wp2_with (first
      | (go_at_call 158; refine (dstep_any HD.out.cells HD.out.ok hb).mono ?_; rintro e w1 ⟨rfl, hb1, ho1⟩; rw [hok]; have H1 := Lib.hid (HD.out.stepped hb1 ho1); have HO1 := Lib.hid ho1; clear hb1 ho1; obtain ⟨c0, c1, c2, c3, c4, c5⟩ := H1.out.cells.six; clear c2 c3 c4 c5)
      | (at_range; refine wpList_range_imap rfl _ 136 rfl 28 Tryz.underlying3 Tryz.underlying136 rfl H1.out.map ?_; intro w2 cnt hrg hgr hsz; have HRG := Lib.hid hrg; have HGR := Lib.hid hgr; have HSZ := Lib.hid hsz; clear hrg hgr hsz)
      | fail)
    go_frame
    have HLM : Hid (l ≠ m ∧ g ≠ m ∧ g ≠ l) := ⟨H1.out.map.ne_bk H1.out.sec, H1.out.map.ne_bk H1.out.cells, Bk.ne H1.out.cells H1.out.sec (by decide)⟩
    have hwr : D.stepped.writes ≤ 1000000000 := by rw [D.stepped_writes]; have := HD.out.ok.writesS; omega
    generalize D.stepped = E at *
    clear c0 c1
    go_loopw [3] (fun _ wr => ∃ left cnt, IRange Tryz.prog 3 wr m w1.heap.size nn (waitV E.row B C) left cnt ∧ Bk wr l 9 (strs (syncRow E left)).toArray ∧ Off [l, w1.heap.size] w1 wr) (fun _ wr => wr.rangeLeft m w1.heap.size)
    case atStart =>
      have hO : Off [] w1 w2 := (Off.refl [] w1).grown HGR.out (fun x hx => by cases hx)
      exact ⟨_, _, HRG.out, by rw [syncRow_start]; exact hO.bk H1.out.sec (by simp), hO.mono (by simp)⟩
    case round =>
      obtain ⟨left, cnt2, hrg2, hbl2, hoff2⟩ := hrel
      have HRG2 := Lib.hid hrg2
      have HBL2 := Lib.hid hbl2
      have HOFF2 := Lib.hid hoff2
      clear hrg2 hbl2 hoff2
      go_wp2_with (first
        | (at_next; refine wpList_next_imap rfl _ rfl Tryz.underlying3 rfl HRG2.out ?_ ?_)
        | fail)
      · intro hend
        have HEND := Lib.hid hend
        clear hend
        have hg0 : Bk wr g 138 _ := HOFF2.out.bk H1.out.cells (by have := H1.out.cells.lt; have := HLM.out; simp; omega)
        have HG0 := Lib.hid hg0
        have hcell := hg0.six.2.1
        have hfr := hg0.frozen 1
        have hcellA := (hg0.alloc (.map #[] 0)).six.2.1
        have hfrA := (hg0.alloc (.map #[] 0)).frozen 1
        have hgw := hg0.lt
        clear hg0
        go_wp2_with fail
        go_ret
        exact devPost_of (by rw [HL.out]) (by rw [HL.out]; rfl) (by
          have hrow := syncRow_end E left HEND.out
          obtain ⟨S', h1, h2, h3⟩ := fresh_map (D' := E.synced) (m' := wr.heap.size) (W := (wr.setCell ⟨g, 1, none⟩ (.map (some wr.heap.size))).alloc (.map #[] 0)) H1.out (X := [w1.heap.size]) HOFF2.out (by simp) (by rw [← hrow]; exact HBL2.out) H1.out.ok.synced rfl (by simp [DevS.synced])
            ((HG0.out.put 1 _).alloc _) (made_set wr _ _) (((Off.refl [g] wr).setCell (.inl (by simp)) _).alloc _) HOFF2.out.size
          exact ⟨S', h1, (HO1.out.mono (fun x hx => .inl (by simp at hx; rw [hx]; exact H1.out.inS.1))).trans h2, fun x hx => (h3 x hx).imp_right (Nat.le_trans HO1.out.size)⟩)
      · intro i v w3 cnt3 hV hleft hrg3 hcnt hgr3 hsz3 hen
        obtain ⟨k, n, rfl, hn, rfl⟩ := waitV_some hV
        have hoff3 : Off [l, w1.heap.size] w1 w3 := HOFF2.out.grown hgr3 (fun x hx => by injection hx with hx; exact .inl (by simp [hx]))
        have hwk : E.waits k ≠ [] := by unfold DevS.waits; intro e; rw [e] at hn; simp at hn
        have hk : k < E.sec.length := by
          rcases Nat.lt_or_ge k E.sec.length with h | h
          · exact h
          · exact absurd (DevS.waits_nil_of_ge H1.out.ok h) hwk
        obtain ⟨t1, t2, t3⟩ := HLM.out
        have hgn : g ∉ [l, w1.heap.size] := by have := H1.out.cells.lt; simp; omega
        have hBn : B k ∉ [l, w1.heap.size] := by have := H1.out.apartL k hwk; have := H1.out.old _ (H1.out.inS.2.2.2 k hwk); simp; omega
        have hown3 := hoff3.own (H1.out.own k hwk) (fun b hb => by
          have : b = B k := by simpa [Value.ownBlock] using hb.symm
          subst this
          exact hBn)
        have hlat : E.latest k = (E.waits k)[n]'(by unfold DevS.waits; omega) := by
          unfold DevS.latest
          have hn' : (E.waits k).length = n + 1 := hn
          rw [List.getLastD_eq_getLast?, List.getLast?_eq_getElem?, List.getElem?_eq_getElem (by omega)]
          simp [hn']
        obtain ⟨b, o, hbo, hblt, hc2⟩ := Sl.of_own hown3 n (.string (E.latest k)) (by rw [hlat]; simp [strs])
        injection hbo with hbo
        injection hbo with hb1 ho1
        subst hb1
        subst ho1
        rw [Nat.zero_add] at hc2
        have hbl3 : Bk w3 l 9 (strs (syncRow E left)).toArray := (hgr3.block l HBL2.out.lt (fun e => by have := H1.out.sec.lt; injection e with e; omega)).trans HBL2.out
        have hfl := hbl3.frozen k
        have hcg : w3.cell? ⟨g, 0, none⟩ = some (.slice (some ⟨l, 0, none⟩) E.sec.length E.sec.length) := (hoff3.bk H1.out.cells hgn).six.1
        have hkl : k < (syncRow E left).length := by rw [syncRow_len]; exact hk
        have hcl : w3.cell? ⟨l, k, none⟩ = some (.string (syncRow E left)[k]) := by rw [hbl3.cell k]; simp [strs, hkl]
        have hn9 : n < 1000000000 := by
          have t1 := waitsOf_length_le E.row k
          have t2 := H1.out.ok.rowW
          omega
        have hBl : B k ≠ l := H1.out.apartL k hwk
        have i0 : (0 : Int) ≤ (k : Int) := by omega
        have i1 : (k : Int) < (E.sec.length : Int) := by omega
        have HKS : Hid (∀ W, Off [l] w3 W → W.cell? ⟨g, 0, none⟩ = some (.slice (some ⟨l, 0, none⟩) E.sec.length E.sec.length) ∧ W.cell? ⟨B k, n, none⟩ = some (.string (E.latest k))) := fun W hW => ⟨(hW.cell (p := ⟨g, 0, none⟩) (Nat.lt_of_lt_of_le H1.out.cells.lt hoff3.size) (by simpa using t3)).trans hcg, (hW.cell (p := ⟨B k, n, none⟩) hblt (by simpa using hBl)).trans hc2⟩
        have HRG3 := Lib.hid hrg3
        have HBL3 := Lib.hid hbl3
        have HOFF3 := Lib.hid hoff3
        have HCNT := Lib.hid hcnt
        clear hBl hrg3 hbl3 hoff3 hcnt hV hleft hgr3 hn hwk hgn hBn hown3 hlat hsz3
        obtain ⟨N, hN⟩ : ∃ N, N = n + 1 := ⟨_, rfl⟩
        rw [← hN] at hen ⊢
        have hs2 : ((N : Int) - 1) = (n : Int) := by omega
        have hs1 : IntKind.i64.wrap ((N : Int) - 1) = (n : Int) := by rw [hs2]; exact IntWalk.i64_in _ (by omega)
        have hs3 : (0 : Int) ≤ (n : Int) := by omega
        have hs4 : (n : Int) < (N : Int) := by omega
        have hs5 : n < N := by omega
        have hs6 : IntKind.i64.wrap (n : Int) = (n : Int) := IntWalk.i64_in _ (by omega)
        have HN := Lib.hid hN
        clear hN
        go_wp2_with fail
        go_region_held3 (fun W => W.cell? ⟨g, 0, none⟩ = some (.slice (some ⟨l, 0, none⟩) E.sec.length E.sec.length) ∧ W.cell? ⟨B k, n, none⟩ = some (.string (E.latest k)))
          (first | exact HKS.out _ (Off.refl [l] w3).drew | exact HKS.out _ ((Off.refl [l] w3).setCell (.inl (by simp)) _).drew)
          (fail)
        all_goals
          go_roundw
          case rel =>
            have hm' := Below.heap_setCell w3 ⟨l, k, none⟩ (.string (E.latest k)) m (fun e => HLM.out.1 e.symm)
            have hr' := Below.heap_setCell w3 ⟨l, k, none⟩ (.string (E.latest k)) w1.heap.size (by have := H1.out.sec.lt; show w1.heap.size ≠ l; omega)
            (repeat apply Exists.intro)
            refine ⟨⟨_, cnt3, HRG3.out.of_heap hm' hr', ?_, ?_⟩, rfl⟩
            · rw [syncRow_step E left k hk]; exact HBL3.out.put k _
            · exact (HOFF3.out.setCell (.inl (by simp)) _).drew
          case measure =>
            have hm' := Below.heap_setCell w3 ⟨l, k, none⟩ (.string (E.latest k)) m (fun e => HLM.out.1 e.symm)
            have hr' := Below.heap_setCell w3 ⟨l, k, none⟩ (.string (E.latest k)) w1.heap.size (by have := H1.out.sec.lt; show w1.heap.size ≠ l; omega)
            have h4 : IRange Tryz.prog 3 (w3.setCell ⟨l, k, none⟩ (.string (E.latest k))).drew m w1.heap.size nn (waitV E.row B C) _ cnt3 := HRG3.out.of_heap hm' hr'
            rw [h4.left_eq, HRG2.out.left_eq]
            exact HCNT.out
end Go.Proofs.YtkkgiajjdcpicaaGreatDoor

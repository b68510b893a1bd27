/- Contracts of the reference's device: Write, Sync. -/
import Derived.Test.YtchldjjfaiikbaaRDevRead
import Derived.BigRegion
namespace Go.Proofs.Ytchldjjfaiikbaa
open Go.RowKit
open Go.PlainAid
set_option maxRecDepth 100000
set_option linter.unusedVariables false
set_option linter.unusedSimpArgs false

theorem info_wait : (Try.prog.info? 66).map (fun i => (i.zero, i.size, i.bytes)) = some (some (.agg #[.int .i64 0, .string ByteArray.empty]), 2, 24) := by kernel_rfl

/-- A write that was appended. -/
theorem RDevAt.appended {w w1 w2 : World} {g : Nat} {S : List Nat} {D : DevS} {l cl : Nat} {A : Option Addr} {cr : Nat} (h : RDevAt w1 g S D l cl A cr) {k : Nat} (hk : k < D.sec.length) {s : ByteArray} (hs : s.size = 128) (hws : D.writes < D.steps)
    {v : Value} (hown : w2.ownsRow 0 66 2 v (D.row.length + 1) (waitCells D.row ++ [.int .i64 (k : Int), .string s])) (hO : Off [] w w1) {W : World} (hW : Off [] w1 W) (hg : W.grownBy w2 (Value.slice A D.row.length cr).ownBlock)
    (hv : ∀ b, v.ownBlock = some b → (Value.slice A D.row.length cr).ownBlock = some b ∨ W.heap.size ≤ b) :
    ∃ S', RDev ((w2.setCell ⟨g, 1, none⟩ v).setCell ⟨g, 5, none⟩ (.int .i64 (D.writes + 1))) g S' { D with row := D.row ++ [(k, s)], writes := D.writes + 1 } ∧ Off S w1 ((w2.setCell ⟨g, 1, none⟩ v).setCell ⟨g, 5, none⟩ (.int .i64 (D.writes + 1))) ∧ Fresh w1 S S' := by
  obtain ⟨i1, i2, i3⟩ := h.inS
  obtain ⟨A', c', rfl, hc1, hc2, _⟩ := own_slice2 hown
  have hgW : Bk W g 50 _ := hW.bk h.cells (by simp)
  have hgr : (Value.slice A D.row.length cr).ownBlock ≠ some g := own_ne h.row h.cells (by decide)
  have hg2 : Bk w2 g 50 _ := (hg.block g hgW.lt (fun e => hgr e.symm)).trans hgW
  have hng : (Value.slice A' (D.row.length + 1) c').ownBlock ≠ some g := own_ne hown hg2 (by decide)
  have hO2 : Off S w1 w2 := (hW.mono (by simp)).grown hg (fun x hx => .inl (i3 x hx))
  have hO3 : Off S w1 ((w2.setCell ⟨g, 1, none⟩ (.slice A' (D.row.length + 1) c')).setCell ⟨g, 5, none⟩ (.int .i64 (D.writes + 1))) := (hO2.setCell (.inl i1) _).setCell (.inl i1) _
  have hsl : (Value.slice (some ⟨l, 0, none⟩) D.sec.length cl).ownBlock ≠ some g := own_ne h.sec h.cells (by decide)
  have hOg : Off [g] w2 ((w2.setCell ⟨g, 1, none⟩ (.slice A' (D.row.length + 1) c')).setCell ⟨g, 5, none⟩ (.int .i64 (D.writes + 1))) := ((Off.refl [g] w2).setCell (.inl (by simp)) _).setCell (.inl (by simp)) _
  have hrl : ∀ b, (Value.slice A D.row.length cr).ownBlock = some b → b ≠ l := by
    intro b hb e
    subst e
    cases hrow : D.row with
    | nil =>
      rcases h.row.2 with ⟨e, _⟩ | ⟨g1, cap1, cur1, e1, _, hh1, _⟩
      · rw [e] at hb; simp [Value.ownBlock] at hb
      · rw [e1, ownBlock_lit] at hb
        injection hb with hb
        subst hb
        rcases h.sec.2 with ⟨e, _⟩ | ⟨g2, cap2, cur2, e2, _, hh2, _⟩
        · cases e
        · injection e2 with e2; injection e2 with e2; injection e2 with e2
          subst e2
          exact Bk.ne (t := 66) (t' := 9) hh1 hh2 (by decide) rfl
    | cons x r =>
      obtain ⟨b', hA, _, _, _, hbl, _, _⟩ := h.wait (k := 0) (x := x) (by rw [hrow]; rfl)
      subst hA
      rw [ownBlock_lit] at hb
      injection hb with hb
      exact hbl hb
  have hsec2 : w2.ownsRow 0 9 1 (.slice (some ⟨l, 0, none⟩) D.sec.length cl) D.sec.length (strs D.sec) := by
    have h1 := hW.own h.sec (by simp)
    refine h1.kept hg (.inr ?_)
    rw [ownBlock_lit]
    exact fun e => hrl l e.symm rfl
  let X : List Nat := match (Value.slice A' (D.row.length + 1) c').ownBlock with | some b => [b] | none => []
  have hX : ∀ b, (Value.slice A' (D.row.length + 1) c').ownBlock = some b → b ∈ X := by
    intro b hb
    show b ∈ (match (Value.slice A' (D.row.length + 1) c').ownBlock with | some b => [b] | none => [])
    rw [hb]
    simp
  have hX2 : ∀ b ∈ X, (Value.slice A' (D.row.length + 1) c').ownBlock = some b := by
    intro b hb
    have hb : b ∈ (match (Value.slice A' (D.row.length + 1) c').ownBlock with | some b => [b] | none => []) := hb
    revert hb
    cases (Value.slice A' (D.row.length + 1) c').ownBlock with
    | none => simp
    | some y => intro hb; simp at hb; rw [hb]
  refine ⟨X ++ S, ⟨l, cl, A', c', ?_⟩, hO3, ?_⟩
  · refine ⟨?_, ?_, hOg.own hsec2 (fun b hb => by rw [hb] at hsl; simp; exact fun e => hsl (by rw [e])), ?_, ⟨List.mem_append.2 (.inr i1), List.mem_append.2 (.inr i2), fun b hb => List.mem_append.2 (.inl (hX b ?_))⟩, ?_⟩
    · refine ⟨h.ok.some, h.ok.most, h.ok.secs, ?_, h.ok.fuse0, h.ok.fuse1, ?_, ?_⟩
      · intro x hx
        rcases List.mem_append.1 hx with hx | hx
        · exact h.ok.rows x hx
        · obtain rfl : x = (k, s) := by simpa using hx
          exact ⟨hk, hs⟩
      · have := h.ok.rowW; simp only [List.length_append, List.length_singleton]; omega
      · show D.writes + 1 ≤ D.steps; omega
    · have := (hg2.put 1 (.slice A' (D.row.length + 1) c')).put 5 (.int .i64 (D.writes + 1))
      simp only [List.length_append, List.length_singleton]
      exact this
    · have h1 := hOg.own hown (fun b hb => by rw [hb] at hng; simp; exact fun e => hng (by rw [e]))
      show World.ownsRow _ 0 _ 2 (.slice A' (D.row ++ [(k, s)]).length c') (D.row ++ [(k, s)]).length (waitCells (D.row ++ [(k, s)]))
      rw [waitCells_app, List.length_append, List.length_singleton]
      exact h1
    · have e : (D.row ++ [(k, s)]).length = D.row.length + 1 := by simp
      rw [show ({ D with row := D.row ++ [(k, s)], writes := D.writes + 1 } : DevS).row.length = D.row.length + 1 from e] at hb
      exact hb
    · intro b hb
      rcases List.mem_append.1 hb with hb | hb
      · have := (hown.lt b (hX2 b hb)).2
        simpa [World.setCell] using this
      · exact Nat.lt_of_lt_of_le (h.old b hb) hO3.size
  · intro b hb
    rcases List.mem_append.1 hb with hb | hb
    · rcases hv b (hX2 b hb) with h1 | h1
      · exact .inl (i3 b h1)
      · exact .inr (Nat.le_trans hW.size h1)
    · exact .inl hb

set_option maxHeartbeats 4000000 in
theorem rwrite_any {g : Nat} {S : List Nat} {D : DevS} {w : World} (hd : RDev w g S D) (i : Int) (s : ByteArray) (hb : D.steps ≤ 1000000000) (hsz : s.size ≤ maxLen) :
    Calls Try.prog 33 #[ptr g, .int .i64 i, .string s] w (RDevPost g S (D.write i s).1 (.int .i64 (D.write i s).2) w) := by
  have hd0 := Lib.hid hd
  obtain ⟨l, cl, A, cr, h⟩ := hd
  have HD := Lib.hid h
  obtain ⟨c0, c1, c2, c3, c4, c5⟩ := h.cells.six
  have hm := h.ok.most
  unfold maxLen at hsz
  clear h c2 c3 c4 c5
  have hcs : (decide (i < 0) = true ∧ D.isIn i = false) ∨ (decide (i < 0) = false ∧ 0 ≤ i ∧ decide (((D.sec.length : Nat) : Int) ≤ i) = true ∧ D.isIn i = false) ∨ (0 ≤ i ∧ i < (D.sec.length : Int) ∧ D.isIn i = true) := by
    unfold DevS.isIn
    by_cases h1 : i < 0
    · exact .inl ⟨by simpa using h1, by simp; omega⟩
    · by_cases h2 : ((D.sec.length : Nat) : Int) ≤ i
      · exact .inr (.inl ⟨by simpa using h1, by omega, by simpa using h2, by simp; omega⟩)
      · exact .inr (.inr ⟨by omega, by omega, by simp; omega⟩)
  rcases hcs with ⟨q1, hin⟩ | ⟨q1, q0, q2, hin⟩ | ⟨i0, i1, hin⟩
  · have HL : Hid (D.write i s = (D, 1)) := show _ = _ by unfold DevS.write; rw [hin]; rfl
    clear hin
    go_enter Try.func33, Try.ntmps33
    go_wp2_with fail
    go_ret
    exact rdevPost_of (by rw [HL.out]) (by rw [HL.out]; rfl) ⟨S, hd0.out, Off.refl _ _, Fresh.refl _ _⟩
  · have HL : Hid (D.write i s = (D, 1)) := show _ = _ by unfold DevS.write; rw [hin]; rfl
    clear hin
    go_enter Try.func33, Try.ntmps33
    go_wp2_with fail
    go_ret
    exact rdevPost_of (by rw [HL.out]) (by rw [HL.out]; rfl) ⟨S, hd0.out, Off.refl _ _, Fresh.refl _ _⟩
  · obtain ⟨j, rfl⟩ : ∃ j : Nat, i = (j : Int) := ⟨i.toNat, by omega⟩
    have hj : j < D.sec.length := by omega
    have q1 : decide ((j : Int) < 0) = false := by simp
    have q2 : decide (((D.sec.length : Nat) : Int) ≤ (j : Int)) = false := by simp; omega
    have q3 : decide (D.sec.length ≤ j) = false := by simp; omega
    by_cases h128 : s.size ≠ 128
    · have HL : Hid (D.write (j : Int) s = (D, 1)) := show _ = _ by unfold DevS.write; rw [hin]; simp [h128]
      have q4 : ((s.size : Int) == 128) = false := by simp; omega
      have q5 : ((s.size : Int) != 128) = true := by simp; omega
      clear h128 hin
      go_enter Try.func33, Try.ntmps33
      go_wp2_with fail
      go_ret
      exact rdevPost_of (by rw [HL.out]) (by rw [HL.out]; rfl) ⟨S, hd0.out, Off.refl _ _, Fresh.refl _ _⟩
    · have h128 : s.size = 128 := by omega
      have q4 : ((s.size : Int) == 128) = true := by simp; omega
      have q5 : ((s.size : Int) != 128) = false := by simp; omega
      have H128 := Lib.hid h128
      clear h128
      cases hok : D.stepOk with
      | false =>
        have HL : Hid (D.write (j : Int) s = (D.stepped, 6)) := show _ = _ by unfold DevS.write; rw [hin, H128.out, hok]; rfl
        clear hin
        go_enter Try.func33, Try.ntmps33
        go_wp2_with fail
        (go_at_call 42)
        refine (rstep_any HD.out hb).mono ?_
        rw [hok]
        rintro e w2 ⟨rfl, hb2, ho2⟩
        have HB2 := Lib.hid hb2
        have HO2 := Lib.hid ho2
        clear hb2 ho2
        go_wp2_with fail
        go_ret
        exact rdevPost_of (by rw [HL.out]) (by rw [HL.out]; rfl) ⟨S, ⟨l, cl, A, cr, HB2.out⟩, HO2.out.mono (fun b hb => .inl (by simp at hb; rw [hb]; exact HD.out.inS.1)), Fresh.refl _ _⟩
      | true =>
        have hoff : D.off = false := by unfold DevS.stepOk at hok; simp at hok; exact hok.1
        have HL : Hid (D.write (j : Int) s = ({ D.stepped with row := D.row ++ [(j, s)], writes := D.writes + 1 }, 0)) := show _ = _ by unfold DevS.write; rw [hin, H128.out, hok]; rfl
        have HSS : Hid (D.stepped.writes < D.stepped.steps ∧ D.stepped.writes = D.writes ∧ D.stepped.row = D.row ∧ D.stepped.sec = D.sec) := by
          refine ⟨?_, D.stepped_writes, D.stepped_row, D.stepped_sec⟩
          rw [D.stepped_writes]
          have := HD.out.ok.writesS
          unfold DevS.stepped
          rw [hoff]
          show D.writes < D.steps + 1
          omega
        have hrl : D.row.length ≤ 1000000000 := by have h1 := HD.out.ok.rowW; have h2 := HD.out.ok.writesS; omega
        have hw1 : D.writes ≤ 1000000000 := by have h2 := HD.out.ok.writesS; omega
        have hw0 : 0 ≤ D.writes := HD.out.ok.writes0
        obtain ⟨inf, hi, hz0, hz1, hz2⟩ := info_parts info_wait
        have HI := Lib.hid (And.intro hi (And.intro hz0 (And.intro hz1 hz2)))
        clear hin hi hz0 hz1 hz2 hoff
        go_enter Try.func33, Try.ntmps33
        go_wp2_with fail
        (go_at_call 42)
        refine (rstep_any HD.out hb).mono ?_
        rw [hok]
        rintro e w2 ⟨rfl, hb2, ho2⟩
        have HB2 := Lib.hid hb2
        have HO2 := Lib.hid ho2
        clear c0 c1
        obtain ⟨c0, c1, c2, c3, c4, c5⟩ := hb2.cells.six
        rw [HSS.out.2.1] at c5
        rw [HSS.out.2.2.1] at c1
        have g1 := hb2.cells.frozen 1
        have HROW : Hid (w2.ownsRow 0 66 2 (.slice A D.row.length cr) D.row.length (waitCells D.row)) := show World.ownsRow _ _ _ _ _ _ _ by have := HB2.out.row; rw [HSS.out.2.2.1] at this; exact this
        have HNE : Hid ((Value.slice A D.row.length cr).ownBlock ≠ some g) := own_ne HROW.out HB2.out.cells (by decide)
        clear hb2 ho2 c0 c2 c3 c4
        have HC1 : Hid (∀ (q : Nat) (u : Value), [Value.int .i64 (j : Int), .string s][q]? = some u → (w2.alloc (.cells #[.int .i64 (j : Int), .string s] 66)).cell? ((⟨w2.heap.size, 0, none⟩ : Addr).add q) = some u) := fun q u hu => by
          rw [add_zero_addr, (Bk.new w2 66 #[.int .i64 (j : Int), .string s]).cell q]; simpa using hu
        have HC2 : Hid (∀ u ∈ [Value.int .i64 (j : Int), .string s], u.oneCell' = true) := fun u hu => by simp at hu; rcases hu with rfl | rfl <;> rfl
        go_wp2_with (first
          | (at_builtin; go_must (refine wpList_append_own_at _ rfl (.tmp 30) (.tmp 34) 48 rfl 0 66 inf (.agg #[.int .i64 0, .string ByteArray.empty]) 2 24 Try.underlying48 HI.out.1 HI.out.2.1 HI.out.2.2.1 HI.out.2.2.2 rfl (by decide) (.slice A D.row.length cr) D.row.length (waitCells D.row) rfl (HROW.out.alloc _) ⟨w2.heap.size, 0, none⟩ 1 1 [.int .i64 (j : Int), .string s] rfl rfl HC1.out HC2.out (by unfold maxLen; omega) (by omega) (Nat.zero_le _) ?_); go_must (intro v' w3 hown hgr hiff hblk; have hbk3 := (hgr.block g (by have := HB2.out.cells.lt; simp; omega) (fun e => HNE.out e.symm)).trans (HB2.out.cells.alloc (.cells #[.int .i64 (j : Int), .string s] 66)));
             go_must (obtain ⟨A', c', rfl, hr1, hr2, hr3⟩ := own_slice2 hown); go_must (have HO3 := Lib.hid hown; have HG3 := Lib.hid hgr; have HK3 := Lib.hid hblk; have HB3 : Hid (Bk w3 g 50 (rCells (.slice (some ⟨l, 0, none⟩) D.sec.length cl) (.slice A D.row.length cr) D.stepped.off D.stepped.fuse D.stepped.steps D.writes)) := (show Bk _ _ _ _ by rw [HSS.out.2.1, HSS.out.2.2.2, HSS.out.2.2.1] at hbk3; exact hbk3)); go_must (clear hown hgr hblk hbk3 hiff hr1 hr2 hr3 c1 c5 g1; have g1 := HB3.out.frozen 1; have g5 := HB3.out.frozen 5; have c1 := HB3.out.six.2.1; have c5 := HB3.out.six.2.2.2.2.2))
          | fail)
        go_ret
        exact rdevPost_of (by rw [HL.out]) (by rw [HL.out]; rfl) (by
          have hst : RDevAt w2 g S D.stepped l cl A cr := HB2.out
          have e1 := HSS.out.2.1
          have e2 := HSS.out.2.2.1
          have e3 := HSS.out.2.2.2
          obtain ⟨S', k1, k2, k3⟩ := hst.appended (w := w2) (w2 := w3) (v := .slice A' (D.row.length + 1) c') (k := j) (by rw [e3]; exact hj) H128.out HSS.out.1 (by rw [e2]; exact HO3.out) (Off.refl _ _) ((Off.refl [] w2).alloc (.cells #[.int .i64 (j : Int), .string s] 66)) (by rw [e2]; exact HG3.out) (by
            intro b hb'
            rw [e2]
            rcases HK3.out with h1 | h1
            · exact .inl (by rw [← h1]; exact hb')
            · right
              rw [h1] at hb'
              injection hb' with hb'
              omega)
          rw [e1, e2] at k1
          rw [e1] at k2
          exact ⟨S', k1, (HO2.out.mono (fun b hb => .inl (by simp at hb; rw [hb]; exact HD.out.inS.1))).trans k2, fun b hb => (k3 b hb).imp_right (Nat.le_trans HO2.out.size)⟩)
end Go.Proofs.Ytchldjjfaiikbaa

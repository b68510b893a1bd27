/- May a message be? Contract of msg.Right. -/
import Derived.Test.YtbiglfpikfjbpaaDoorMsgRanged
import Derived.Test.YtbiglfpikfjbpaaDoorMsgEmpty
namespace Go.Proofs.YtbiglfpikfjbpaaDoor
open Go.RowKit
set_option maxRecDepth 100000
set_option linter.unusedVariables false
set_option linter.unusedSimpArgs false

def Rw.bare (r : Rw) : Rw := ⟨Option.none, r.n, 0⟩
/-- A message's cells with the lengths of its rows alone. -/
def MC.erase (m : MC) : MC :=
  { m with filter := { m.filter with any := m.filter.any.bare, kids := m.filter.kids.bare }, attrs := m.attrs.bare, list := m.list.bare, mods := m.mods.bare, dest := m.dest.bare, controls := m.controls.bare }
theorem MC.erase_bare (m : MC) : m.erase.bare = m.bare.erase := by
  unfold MC.bare
  by_cases h0 : m.op = 0
  · rw [if_pos (show m.erase.op = 0 from h0), if_pos h0]
    by_cases hs : m.sasl = true
    · rw [if_pos (show m.erase.sasl = true from hs), if_pos hs]; rfl
    · rw [if_neg (show ¬ (m.erase.sasl = true) from hs), if_neg hs]; rfl
  rw [if_neg (show ¬ (m.erase.op = 0) from h0), if_neg h0]
  by_cases h1 : m.op = 3
  · rw [if_pos (show m.erase.op = 3 from h1), if_pos h1]; rfl
  rw [if_neg (show ¬ (m.erase.op = 3) from h1), if_neg h1]
  by_cases h2 : m.op = 4 ∨ m.op = 8
  · rw [if_pos (show m.erase.op = 4 ∨ m.erase.op = 8 from h2), if_pos h2]; rfl
  rw [if_neg (show ¬ (m.erase.op = 4 ∨ m.erase.op = 8) from h2), if_neg h2]
  by_cases h3 : m.op = 6
  · rw [if_pos (show m.erase.op = 6 from h3), if_pos h3]; rfl
  rw [if_neg (show ¬ (m.erase.op = 6) from h3), if_neg h3]
  by_cases h4 : m.op = 10
  · rw [if_pos (show m.erase.op = 10 from h4), if_pos h4]; rfl
  rw [if_neg (show ¬ (m.erase.op = 10) from h4), if_neg h4]
  by_cases h5 : m.op = 12
  · rw [if_pos (show m.erase.op = 12 from h5), if_pos h5]; rfl
  rw [if_neg (show ¬ (m.erase.op = 12) from h5), if_neg h5]
  by_cases h6 : m.op = 14
  · rw [if_pos (show m.erase.op = 14 from h6), if_pos h6]; rfl
  rw [if_neg (show ¬ (m.erase.op = 14) from h6), if_neg h6]
  by_cases h7 : m.op = 16
  · rw [if_pos (show m.erase.op = 16 from h7), if_pos h7]; rfl
  rw [if_neg (show ¬ (m.erase.op = 16) from h7), if_neg h7]
  by_cases h8 : m.op = 23
  · rw [if_pos (show m.erase.op = 23 from h8), if_pos h8]; rfl
  rw [if_neg (show ¬ (m.erase.op = 23) from h8), if_neg h8]
  by_cases h9 : m.op = 2
  · rw [if_pos (show m.erase.op = 2 from h9), if_pos h9]; rfl
  rw [if_neg (show ¬ (m.erase.op = 2) from h9), if_neg h9]
  by_cases h10 : m.op = 24
  · rw [if_pos (show m.erase.op = 24 from h10), if_pos h10]; rfl
  rw [if_neg (show ¬ (m.erase.op = 24) from h10), if_neg h10]
  rfl
theorem MC.empty_erase (m : MC) : m.erase.empty = m.empty := rfl
theorem MC.erase_empty (m : MC) : m.erase.bare.empty = m.bare.empty := by rw [MC.erase_bare, MC.empty_erase]
def rw (n : Nat) : Rw := ⟨Option.none, n, 0⟩
def Fl.lens : Fl → FC
  | .mk k a v f any l kids => ⟨k, a, v, f, rw any.length, l, rw kids.length⟩
def Ms.lens (M : Ms) : MC := M.mc M.filter.lens (rw M.attrs.length) (rw M.list.length) (rw M.mods.length) (rw M.dest.length) (rw M.controls.length)
theorem MsAt.lens {w : World} {S : Nat → Prop} {M : Ms} {m : MC} (h : MsAt w S M m) : m.erase = M.lens := by
  obtain ⟨f, at', li, mo, de, co, rfl, hfit, hfl, hat, hli, hmo, hde, hco⟩ := h
  have hf : ({ f with any := f.any.bare, kids := f.kids.bare } : FC) = M.filter.lens := by
    obtain ⟨F, hF⟩ : ∃ F, F = M.filter := ⟨_, rfl⟩
    rw [← hF] at hfl ⊢
    obtain ⟨k, a, v, g, any, l, kids⟩ := F
    unfold FlAt at hfl
    obtain ⟨q, r, hc, -, hq, hr, -⟩ := hfl
    simp only [List.cons.injEq, Value.int.injEq, Value.string.injEq, Value.slice.injEq, and_true, true_and] at hc
    obtain ⟨h1, h2, h3, h4, ⟨h5, h6, h7⟩, h8, h9, h10, h11⟩ := hc
    simp only [Fl.lens, rw, Rw.bare, h1, h2, h3, h4, h6, h8, h10, hq.1, hr.1]
  unfold MC.erase Ms.lens Ms.mc
  rw [← hf]
  simp only [Rw.bare, rw, hat.1, hli.1, hmo.1, hde.1, hco.1]
theorem MsAt.empty {w : World} {S : Nat → Prop} {M : Ms} {m : MC} (h : MsAt w S M m) : m.bare.empty = M.lens.bare.empty := by rw [← h.lens, MC.erase_empty]
/-- A value of many cells is loaded, under a guard that says yes. -/
theorem wpList_load_row_g {P : Program} {ops : Array Oper} {rest : List Oper} {o : Oper} {a : Act} {w : World} {Q : Exit → Act → World → Prop} (hw : Region.wanted o (yielded ops a.tmps) = true) (ty : TypeId) (x : Operand) (ho : o.op = .load ty x)
    (g : Nat) (hx : a.eval x = .pointer (some ⟨g, 0, none⟩)) (t : TypeId) (cs : Array Value) (fr : Nat × Nat) (d : TypeDesc) (hg : w.heap[g]? = some (.cells cs t fr))
    (hu : P.underlying ty = some d) (hd : (match d with | .struct _ | .array _ _ => true | _ => false) = true) (hi : (P.info? ty).map (·.size) = some cs.size)
    (h : wpList P ops Q rest (a.put o.dst (.agg cs)) w) : wpList P ops Q (o :: rest) a w :=
  wpList_step fun K hK => by
    rw [if_pos hw]
    exact wp_load_row ty x ho g hx t cs fr d hg hu hd hi (hK _ _ h)
def Ms.ctlsOk (M : Ms) : Bool := M.controls.all fun c => c.2.2.1 || !fullB c.2.2.2
/-- May it be? -/
def Ms.right (M : Ms) : Bool := M.ctlsOk && (inB M.id 0 2147483647 && (M.ranged && M.lens.bare.empty))
set_option maxHeartbeats 4000000 in
theorem msgRight_any (M : Ms) (m : MC) (S : Nat → Prop) (w : World) (h : MsAt w S M m) (ha : AnsAt w) : Calls Tryd.prog 16 #[.agg m.cells] w (TellsQ M.right w) := by
  have HS := Lib.hid size_msg
  obtain ⟨p, hp⟩ : ∃ p, p = M.right := ⟨_, rfl⟩
  rw [← hp]
  have HP := Lib.hid hp
  have HM := Lib.hid h
  have HEM := Lib.hid h.empty
  obtain ⟨f, at', li, mo, de, ⟨oA, on, oc⟩, hm, hfit, hfl, hat, hli, hmo, hde, ⟨hm1, hm2, hm3, hm4⟩⟩ := h
  simp only at hm1 hm2 hm3 hm4
  subst hm1
  obtain ⟨cs, hcs⟩ : ∃ cs, cs = m.cells := ⟨_, rfl⟩
  have c0 : cs[0]? = some (.int .i64 M.id) := by rw [hcs, hm]; rfl
  have c30 : cs[30]? = some (.slice oA M.controls.length oc) := by rw [hcs, hm]; rfl
  rw [← hcs]
  have HCS := Lib.hid hcs
  have hB := (Below.refl w.heap.size w).alloc (Nat.le_refl _) (.cells cs 30)
  have HB := Lib.hid hB
  have HM4 := Lib.hid hm4
  have HA := Lib.hid ha
  have hmm : oc ≤ 9223372036854775807 := by unfold maxLen at hm3; omega
  have hbk := Bk.new w 30 cs
  have HBK := Lib.hid hbk
  have hlw := hbk.lt
  have hlw' : w.heap.size < (w.alloc (.cells cs 30)).heap.size := hlw
  have HCO := Lib.hid (show M.ctlsOk = (M.controls.drop 0).all (fun c => c.2.2.1 || !fullB c.2.2.2) from rfl)
  obtain ⟨os, hos⟩ : ∃ os, os = M.controls := ⟨_, rfl⟩
  rw [← hos] at c30 HM4 HCO hm2
  clear hp hcs hm hfit hfl hat hli hmo hm3 hm4 hde hB hbk hlw hlw' hos ha
  go_enter Tryd.func16, Tryd.ntmps16
  go_wp2_with fail
  go_loopw [8] (fun i wr => ∃ j : Nat, i = .int .i64 j ∧ j ≤ os.length ∧ Hid (M.ctlsOk = (os.drop j).all fun c => c.2.2.1 || !fullB c.2.2.2) ∧ Below w.heap.size w wr ∧ Bk wr w.heap.size 30 cs) (fun i _ => os.length - (intOf i).toNat)
  case atStart => exact ⟨0, rfl, Nat.zero_le _, HCO.out, HB.out, HBK.out⟩
  case round =>
    obtain ⟨j, rfl, hj, HT, hbw, hbk⟩ := hrel
    have HBW := Lib.hid hbw
    have HBK2 := Lib.hid hbk
    by_cases hlt : j < os.length
    · obtain ⟨b, o, c, rfl, hS, hc1, hcl, hfk⟩ := HM4.out j os[j] (List.getElem?_eq_getElem hlt)
      obtain ⟨rfl, -, -⟩ := hfk
      have hbl : b < w.heap.size := hS.2
      have hcw : ∀ o', wr.cell? ⟨b, o', none⟩ = w.cell? ⟨b, o', none⟩ := fun o' => hbw.cell (p := ⟨b, o', none⟩) hbl
      have HAD := Lib.hid (all_drop (fun c : Co => c.2.2.1 || !fullB c.2.2.2) os j hlt)
      obtain ⟨c0', c1', c2', c3', hc⟩ : ∃ a b c d, os[j] = (a, b, c, d) := ⟨_, _, _, _, rfl⟩
      rw [hc] at hcl
      simp only [hc] at HAD
      have q0 : wr.cell? ⟨b, o + j * 4, none⟩ = some (.string c0') := (hcw _).trans (hcl 0 _ rfl)
      have q1 : wr.cell? ⟨b, o + j * 4 + 1, none⟩ = some (.bool c1') := (hcw _).trans (hcl 1 _ rfl)
      have q2 : wr.cell? ⟨b, o + j * 4 + 2, none⟩ = some (.bool c2') := (hcw _).trans (hcl 2 _ rfl)
      have q3 : wr.cell? ⟨b, o + j * 4 + 3, none⟩ = some (.string c3') := (hcw _).trans (hcl 3 _ rfl)
      have z4 : decide (j < os.length) = true := decide_eq_true hlt
      have hbr : b < wr.heap.size := Nat.lt_of_lt_of_le hbl hbw.size
      have HBA := Lib.hid (hbw.trans (((Below.refl wr.heap.size wr).alloc (Nat.le_refl _) (.cells #[.string c0', .bool c1', .bool c2', .string c3'] 56)).mono hbw.size))
      have HBKA := Lib.hid (hbk.alloc (.cells #[.string c0', .bool c1', .bool c2', .string c3'] 56))
      clear hc hS hc1 hcl hcw hbw hbk
      cases c2' with
      | true =>
        go_wp2_with fail
        go_roundw
        case rel => exact ⟨j + 1, by go_num, by omega, show _ = _ by rw [HT.out, HAD.out]; rfl, HBA.out, HBKA.out⟩
        case measure => simp [intOf]; omega
      | false =>
        cases hv : fullB c3' with
        | false =>
          have v1 := (full_no hv).1
          have v2 := (full_no hv).2
          have v3 : (!c3'.toList.isEmpty) = false := hv
          have HV := Lib.hid hv
          clear hv
          go_wp2_with fail
          go_roundw
          case rel => exact ⟨j + 1, by go_num, by omega, show _ = _ by rw [HT.out, HAD.out, HV.out]; rfl, HBA.out, HBKA.out⟩
          case measure => simp [intOf]; omega
        | true =>
          have v1 := full_yes hv
          have v3 : (!c3'.toList.isEmpty) = true := hv
          have HV := Lib.hid (show M.ctlsOk = false by rw [HT.out, HAD.out, hv]; rfl)
          clear hv
          go_wp2_with fail
          go_ret
          exact tellsQ_of (by rw [HP.out, Ms.right, HV.out]; rfl) HBA.out
    · obtain rfl : j = os.length := by omega
      have z4 : decide (os.length < os.length) = false := by simp
      have HOK := Lib.hid (show M.ctlsOk = true by rw [HT.out, List.drop_length]; rfl)
      have e0 : wr.cell? ⟨w.heap.size, 0, none⟩ = some (.int .i64 M.id) := (hbk.cell 0).trans c0
      have HMW := Lib.hid (show MsAt wr S M m from HM.out.keep hbw.size (fun x _ hlt => hbw.block x hlt) (fun _ h _ => h))
      have HAW := Lib.hid (HA.out.below hbw)
      have HWI := Lib.hid (within_any M.id 0 2147483647 wr)
      clear hbw hbk
      go_wp2_with fail
      (go_at_call 36)
      refine HWI.out.mono ?_
      cases hin : inB M.id 0 2147483647 with
      | false =>
        rintro e w1 ⟨rfl, rfl⟩
        have HI := Lib.hid hin
        clear hin
        go_wp2_with fail
        go_ret
        exact tellsQ_of (by rw [HP.out, Ms.right, HOK.out, HI.out]; rfl) HBW.out
      | true =>
        rintro e w1 ⟨rfl, rfl⟩
        have HI := Lib.hid hin
        clear hin
        have HRG := Lib.hid (show Calls Tryd.prog 37 #[.agg cs] wr (TellsQ M.ranged wr) by rw [HCS.out]; exact ranged_any M m S wr HMW.out HAW.out)
        go_wp2_with (first
          | (refine wpList_load_row_g (by rfl) 30 (.tmp 1) rfl w.heap.size rfl 30 cs (0, 0) _ HBK2.out Tryd.underlying30 rfl (by rw [HCS.out]; exact HS.out) ?_)
          | fail)
        (go_at_call 37)
        refine HRG.out.mono ?_
        obtain ⟨q, hq⟩ : ∃ q, q = M.ranged := ⟨_, rfl⟩
        rw [← hq]
        have HQ := Lib.hid hq
        clear hq
        rintro e w2 ⟨rfl, hb2⟩
        have hbk2 := bk_below HBK2.out hb2
        have HBK3 := Lib.hid hbk2
        have HB2 := Lib.hid (HBW.out.trans (hb2.mono HBW.out.size))
        clear hb2 hbk2 HRG
        cases q with
        | false =>
          go_wp2_with fail
          go_ret
          exact tellsQ_of (by rw [HP.out, Ms.right, HOK.out, HI.out, ← HQ.out]; rfl) HB2.out
        | true =>
          have HBR := Lib.hid (show Calls Tryd.prog 39 #[.agg cs] w2 (TellsM m.bare w2) by rw [HCS.out]; exact bare_any m w2)
          go_wp2_with (first
            | (refine wpList_load_row_g (by rfl) 30 (.tmp 1) rfl w.heap.size rfl 30 cs (0, 0) _ HBK3.out Tryd.underlying30 rfl (by rw [HCS.out]; exact HS.out) ?_)
            | fail)
          (go_at_call 39)
          refine HBR.out.mono ?_
          obtain ⟨zs, hzs⟩ : ∃ zs, zs = m.bare.cells := ⟨_, rfl⟩
          unfold TellsM
          rw [← hzs]
          have HZS := Lib.hid hzs
          clear hzs
          rintro e w3 ⟨rfl, hb3⟩
          have HB3 := Lib.hid (HB2.out.trans (hb3.mono HB2.out.size))
          have HE := Lib.hid (show Calls Tryd.prog 38 #[.agg zs] w3 (TellsQ M.lens.bare.empty w3) by rw [HZS.out, ← HEM.out]; exact empty_any m.bare w3)
          clear hb3 HBR
          go_wp2_with fail
          (go_at_call 38)
          refine HE.out.mono ?_
          obtain ⟨q, hq⟩ : ∃ q, q = M.lens.bare.empty := ⟨_, rfl⟩
          rw [← hq]
          have HQ2 := Lib.hid hq
          clear hq
          rintro e w4 ⟨rfl, hb4⟩
          have HB4 := Lib.hid (HB3.out.trans (hb4.mono HB3.out.size))
          clear hb4 HE
          go_wp2_with fail
          go_ret
          exact tellsQ_of (by rw [HP.out, Ms.right, HOK.out, HI.out, ← HQ.out, ← HQ2.out]; simp) HB4.out
end Go.Proofs.YtbiglfpikfjbpaaDoor

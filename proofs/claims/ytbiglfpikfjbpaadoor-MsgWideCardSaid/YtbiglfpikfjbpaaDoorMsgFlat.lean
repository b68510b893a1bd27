/- The reference's Same at messages without rows. -/
import Derived.Test.YtbiglfpikfjbpaaDoorMsgEmpty
import Derived.Test.YtbiglfpikfjbpaaDoorMsgBare
import Derived.Test.YtbiglfpikfjbpaaDoorMsgData
import Derived.LoopN
namespace Go.Proofs.YtbiglfpikfjbpaaDoor
open Go.RowKit
set_option maxRecDepth 100000
set_option linter.unusedVariables false
set_option linter.unusedSimpArgs false

theorem same01_nil (A B : Option Addr) (c d : Nat) (w : World) : Calls Tryd.prog 34 #[.slice A 0 c, .slice B 0 d] w (TellsT true w) := by
  go_enter Tryd.func34, Tryd.ntmps34
  go_wp2_with fail
  refine wp_loop_rounds 2 ?_
  repeat any_goals (rw [rounds_succ]; go_wp2_with fail)
  go_ret
  exact ⟨rfl, rfl⟩
theorem same19_zero (A1 A2 B1 B2 : Option Addr) (c1 c2 d1 d2 : Nat) (w : World) : Calls Tryd.prog 33 #[.agg #[.int .i64 0, .string ⟨#[]⟩, .string ⟨#[]⟩, .string ⟨#[]⟩, .slice A1 0 c1, .string ⟨#[]⟩, .slice A2 0 c2], .agg #[.int .i64 0, .string ⟨#[]⟩, .string ⟨#[]⟩, .string ⟨#[]⟩, .slice B1 0 d1, .string ⟨#[]⟩, .slice B2 0 d2]] w (TellsQ true w) := by
  go_enter Tryd.func33, Tryd.ntmps33
  go_wp2_with fail
  refine wp_loop_rounds 2 ?_
  repeat any_goals (rw [rounds_succ]; go_wp2_with fail)
  refine wp_loop_rounds 2 ?_
  repeat any_goals (rw [rounds_succ]; go_wp2_with fail)
  go_ret
  exact tellsQ_of rfl (((Below.refl _ w).alloc (Nat.le_refl _) _).alloc (by simp) _)
theorem flAt_zero_cells {w : World} {S : Nat → Prop} {f : FC} (h : FlAt w S Fl.zero f.cells) : ∃ (A1 A2 : Option Addr) (c1 c2 : Nat), f = ⟨0, ⟨#[]⟩, ⟨#[]⟩, ⟨#[]⟩, ⟨A1, 0, c1⟩, ⟨#[]⟩, ⟨A2, 0, c2⟩⟩ := by
  obtain ⟨k, a, v, g, ⟨qA, qn, qc⟩, l, ⟨rA, rn, rc⟩⟩ := f
  unfold Fl.zero FlAt at h
  obtain ⟨q, r, hc, -, hq, hr, -⟩ := h
  simp only [FC.cells, List.cons.injEq, Value.int.injEq, Value.string.injEq, Value.slice.injEq, and_true, true_and] at hc
  obtain ⟨rfl, rfl, rfl, rfl, ⟨rfl, rfl, rfl⟩, rfl, rfl, rfl, rfl⟩ := hc
  have e1 : q.n = 0 := hq.1
  have e2 : r.n = 0 := hr.1
  exact ⟨q.A, r.A, q.c, r.c, by rw [e1, e2]⟩
theorem bk_second (w : World) (cs ds : Array Value) : Bk ((w.alloc (.cells cs 30)).alloc (.cells ds 30)) (w.heap.size + 1) 30 ds := by
  have h := Bk.new (w.alloc (.cells cs 30)) 30 ds
  have e : (w.alloc (.cells cs 30)).heap.size = w.heap.size + 1 := by simp
  rwa [e] at h
set_option maxHeartbeats 4000000 in
theorem same_flat (id op : Int) (m1 m2 : MC) (S1 S2 : Nat → Prop) (w : World) (h1 : MsAt w S1 (Ms.base id op) m1) (h2 : MsAt w S2 (Ms.base id op) m2) :
    Calls Tryd.prog 12 #[.agg m1.cells, .agg m2.cells] w (TellsQ true w) := by
  obtain ⟨f, ⟨aA, an, ac⟩, ⟨lA, ln, lc⟩, ⟨mA, mn, mc⟩, ⟨dA, dn, dc⟩, ⟨oA, on, oc⟩, rfl, -, hfl, hat, hli, hmo, hde, hco⟩ := h1
  obtain ⟨f', ⟨aA', an', ac'⟩, ⟨lA', ln', lc'⟩, ⟨mA', mn', mc'⟩, ⟨dA', dn', dc'⟩, ⟨oA', on', oc'⟩, rfl, -, hfl', hat', hli', hmo', hde', hco'⟩ := h2
  obtain ⟨A1, A2, k1, k2, rfl⟩ := flAt_zero_cells hfl
  obtain ⟨A1', A2', k1', k2', rfl⟩ := flAt_zero_cells hfl'
  obtain rfl : an = 0 := hat.1
  obtain rfl : ln = 0 := hli.1
  obtain rfl : mn = 0 := hmo.1
  obtain rfl : dn = 0 := hde.1
  obtain rfl : on = 0 := hco.1
  obtain rfl : an' = 0 := hat'.1
  obtain rfl : ln' = 0 := hli'.1
  obtain rfl : mn' = 0 := hmo'.1
  obtain rfl : dn' = 0 := hde'.1
  obtain rfl : on' = 0 := hco'.1
  clear hfl hat hli hmo hde hco hfl' hat' hli' hmo' hde' hco'
  have HB := Lib.hid (((Below.refl w.heap.size w).alloc (Nat.le_refl _) (.cells ((Ms.base id op).mc ⟨0, ⟨#[]⟩, ⟨#[]⟩, ⟨#[]⟩, ⟨A1, 0, k1⟩, ⟨#[]⟩, ⟨A2, 0, k2⟩⟩ ⟨aA, 0, ac⟩ ⟨lA, 0, lc⟩ ⟨mA, 0, mc⟩ ⟨dA, 0, dc⟩ ⟨oA, 0, oc⟩).cells 30)).alloc (by simp) (.cells ((Ms.base id op).mc ⟨0, ⟨#[]⟩, ⟨#[]⟩, ⟨#[]⟩, ⟨A1', 0, k1'⟩, ⟨#[]⟩, ⟨A2', 0, k2'⟩⟩ ⟨aA', 0, ac'⟩ ⟨lA', 0, lc'⟩ ⟨mA', 0, mc'⟩ ⟨dA', 0, dc'⟩ ⟨oA', 0, oc'⟩).cells 30))
  obtain ⟨cs, hcs⟩ : ∃ cs, cs = ((Ms.base id op).mc ⟨0, ⟨#[]⟩, ⟨#[]⟩, ⟨#[]⟩, ⟨A1, 0, k1⟩, ⟨#[]⟩, ⟨A2, 0, k2⟩⟩ ⟨aA, 0, ac⟩ ⟨lA, 0, lc⟩ ⟨mA, 0, mc⟩ ⟨dA, 0, dc⟩ ⟨oA, 0, oc⟩).cells := ⟨_, rfl⟩
  obtain ⟨ds, hds⟩ : ∃ ds, ds = ((Ms.base id op).mc ⟨0, ⟨#[]⟩, ⟨#[]⟩, ⟨#[]⟩, ⟨A1', 0, k1'⟩, ⟨#[]⟩, ⟨A2', 0, k2'⟩⟩ ⟨aA', 0, ac'⟩ ⟨lA', 0, lc'⟩ ⟨mA', 0, mc'⟩ ⟨dA', 0, dc'⟩ ⟨oA', 0, oc'⟩).cells := ⟨_, rfl⟩
  rw [← hcs, ← hds] at HB
  rw [← hcs, ← hds]
  have c0 : cs[0]? = some (.int .i64 id) := by rw [hcs]; rfl
  have c1 : cs[1]? = some (.int .i64 op) := by rw [hcs]; rfl
  have c2 : cs[2]? = some (.int .i64 0) := by rw [hcs]; rfl
  have c3 : cs[3]? = some (.string ⟨#[]⟩) := by rw [hcs]; rfl
  have c4 : cs[4]? = some (.bool false) := by rw [hcs]; rfl
  have c5 : cs[5]? = some (.string ⟨#[]⟩) := by rw [hcs]; rfl
  have c6 : cs[6]? = some (.string ⟨#[]⟩) := by rw [hcs]; rfl
  have c7 : cs[7]? = some (.bool false) := by rw [hcs]; rfl
  have c8 : cs[8]? = some (.string ⟨#[]⟩) := by rw [hcs]; rfl
  have c9 : cs[9]? = some (.int .i64 0) := by rw [hcs]; rfl
  have c10 : cs[10]? = some (.string ⟨#[]⟩) := by rw [hcs]; rfl
  have c11 : cs[11]? = some (.int .i64 0) := by rw [hcs]; rfl
  have c12 : cs[12]? = some (.int .i64 0) := by rw [hcs]; rfl
  have c13 : cs[13]? = some (.int .i64 0) := by rw [hcs]; rfl
  have c14 : cs[14]? = some (.int .i64 0) := by rw [hcs]; rfl
  have c15 : cs[15]? = some (.bool false) := by rw [hcs]; rfl
  have c16 : cs[16]? = some (.int .i64 0) := by rw [hcs]; rfl
  have c17 : cs[17]? = some (.string ⟨#[]⟩) := by rw [hcs]; rfl
  have c18 : cs[18]? = some (.string ⟨#[]⟩) := by rw [hcs]; rfl
  have c19 : cs[19]? = some (.string ⟨#[]⟩) := by rw [hcs]; rfl
  have c20 : cs[20]? = some (.slice A1 0 k1) := by rw [hcs]; rfl
  have c21 : cs[21]? = some (.string ⟨#[]⟩) := by rw [hcs]; rfl
  have c22 : cs[22]? = some (.slice A2 0 k2) := by rw [hcs]; rfl
  have c23 : cs[23]? = some (.slice aA 0 ac) := by rw [hcs]; rfl
  have c24 : cs[24]? = some (.slice lA 0 lc) := by rw [hcs]; rfl
  have c25 : cs[25]? = some (.slice mA 0 mc) := by rw [hcs]; rfl
  have c26 : cs[26]? = some (.string ⟨#[]⟩) := by rw [hcs]; rfl
  have c27 : cs[27]? = some (.bool false) := by rw [hcs]; rfl
  have c28 : cs[28]? = some (.slice dA 0 dc) := by rw [hcs]; rfl
  have c29 : cs[29]? = some (.int .i64 0) := by rw [hcs]; rfl
  have c30 : cs[30]? = some (.slice oA 0 oc) := by rw [hcs]; rfl
  have d0 : ds[0]? = some (.int .i64 id) := by rw [hds]; rfl
  have d1 : ds[1]? = some (.int .i64 op) := by rw [hds]; rfl
  have d2 : ds[2]? = some (.int .i64 0) := by rw [hds]; rfl
  have d3 : ds[3]? = some (.string ⟨#[]⟩) := by rw [hds]; rfl
  have d4 : ds[4]? = some (.bool false) := by rw [hds]; rfl
  have d5 : ds[5]? = some (.string ⟨#[]⟩) := by rw [hds]; rfl
  have d6 : ds[6]? = some (.string ⟨#[]⟩) := by rw [hds]; rfl
  have d7 : ds[7]? = some (.bool false) := by rw [hds]; rfl
  have d8 : ds[8]? = some (.string ⟨#[]⟩) := by rw [hds]; rfl
  have d9 : ds[9]? = some (.int .i64 0) := by rw [hds]; rfl
  have d10 : ds[10]? = some (.string ⟨#[]⟩) := by rw [hds]; rfl
  have d11 : ds[11]? = some (.int .i64 0) := by rw [hds]; rfl
  have d12 : ds[12]? = some (.int .i64 0) := by rw [hds]; rfl
  have d13 : ds[13]? = some (.int .i64 0) := by rw [hds]; rfl
  have d14 : ds[14]? = some (.int .i64 0) := by rw [hds]; rfl
  have d15 : ds[15]? = some (.bool false) := by rw [hds]; rfl
  have d16 : ds[16]? = some (.int .i64 0) := by rw [hds]; rfl
  have d17 : ds[17]? = some (.string ⟨#[]⟩) := by rw [hds]; rfl
  have d18 : ds[18]? = some (.string ⟨#[]⟩) := by rw [hds]; rfl
  have d19 : ds[19]? = some (.string ⟨#[]⟩) := by rw [hds]; rfl
  have d20 : ds[20]? = some (.slice A1' 0 k1') := by rw [hds]; rfl
  have d21 : ds[21]? = some (.string ⟨#[]⟩) := by rw [hds]; rfl
  have d22 : ds[22]? = some (.slice A2' 0 k2') := by rw [hds]; rfl
  have d23 : ds[23]? = some (.slice aA' 0 ac') := by rw [hds]; rfl
  have d24 : ds[24]? = some (.slice lA' 0 lc') := by rw [hds]; rfl
  have d25 : ds[25]? = some (.slice mA' 0 mc') := by rw [hds]; rfl
  have d26 : ds[26]? = some (.string ⟨#[]⟩) := by rw [hds]; rfl
  have d27 : ds[27]? = some (.bool false) := by rw [hds]; rfl
  have d28 : ds[28]? = some (.slice dA' 0 dc') := by rw [hds]; rfl
  have d29 : ds[29]? = some (.int .i64 0) := by rw [hds]; rfl
  have d30 : ds[30]? = some (.slice oA' 0 oc') := by rw [hds]; rfl
  clear hcs hds
  have t1 : (id != id) = false := by simp
  have t2 : (op != op) = false := by simp
  go_enter Tryd.func12, Tryd.ntmps12
  go_wp2_with (first
    | (go_at_call 33; refine (same19_zero A1 A2 A1' A2' k1 k2 k1' k2' _).mono ?_; rintro e w1 ⟨rfl, hb1⟩; have HB1 := Lib.hid hb1; have e1 := fun i => (bk_below ((Bk.new w 30 cs).alloc (.cells ds 30)) hb1).cell i; have e2 := fun i => (bk_below (bk_second w cs ds) hb1).cell i; clear hb1)
    | (go_at_call 34; refine (same01_nil _ _ _ _ _).mono ?_; rintro e w1 ⟨rfl, rfl⟩)
    | fail)
  refine wp_loop_rounds 2 ?_
  repeat any_goals (rw [rounds_succ]; go_wp2_with fail)
  refine wp_loop_rounds 2 ?_
  repeat any_goals (rw [rounds_succ]; go_wp2_with fail)
  refine wp_loop_rounds 2 ?_
  repeat any_goals (rw [rounds_succ]; go_wp2_with fail)
  go_ret
  exact tellsQ_of rfl (HB.out.trans (HB1.out.mono HB.out.size))
end Go.Proofs.YtbiglfpikfjbpaaDoor

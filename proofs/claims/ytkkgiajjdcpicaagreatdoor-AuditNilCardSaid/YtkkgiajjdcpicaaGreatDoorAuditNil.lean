/- The law AuditNil: of a file that is not there nothing is told, nor where too many read. -/
import Derived.Test.YtkkgiajjdcpicaaGreatDoorKvE
namespace Go.Proofs.YtkkgiajjdcpicaaGreatDoor
open Go.RowKit
set_option maxRecDepth 100000
set_option linter.unusedVariables false
set_option linter.unusedSimpArgs false
theorem same_rep (n : Int) (W : World) : (binOp .eql 24 (.agg #[.int .i64 n, .int .i64 0, .int .i64 0, .int .i64 0, .int .i64 0, .int .i64 0, .int .i64 0, .int .i64 0]) (.agg #[.int .i64 n, .int .i64 0, .int .i64 0, .int .i64 0, .int .i64 0, .int .i64 0, .int .i64 0, .int .i64 0])).run Tryz.prog W = .ok (.bool true) W := by
  rw [run_eql_struct]
  simp [go_sem, Result.andThen]
set_option maxHeartbeats 8000000 in
theorem aawake_any (w : World) (hr : RowAt w) : Calls Tryz.prog 6 #[] w (TellsQ true w) := by
  have HB := Lib.hid (lbegin20 w hr)
  have he := fun W => same_rep 1 W
  clear hr
  go_enter Tryz.func6, Tryz.ntmps6
  go_wp2_with fail
  refine HB.out.mono ?_
  rintro e w1 ⟨b, q, r, f, g, S, rfl, hdb, hdv, hnew, hap, hb1⟩
  have HC := Lib.hid (check_ok hdb rfl (s' := ⟨some 1, none, none, none⟩) (i := 0) rfl)
  have HB1 := Lib.hid hb1
  have hrn := hnew r (by simp)
  have HRN := Lib.hid hrn
  clear hdb hdv hnew hap hb1 hrn
  go_wp2_with fail
  refine HC.out.mono ?_
  rintro e w2 ⟨rfl, ho⟩
  have HO := Lib.hid ho
  unfold repCells
  clear ho
  go_wp2_with fail
  go_ret
  exact ⟨rfl, (((Off.of_below HB1.out []).then HO.out (fun x hx => by rw [List.mem_singleton] at hx; subst hx; exact .inr HRN.out)).alloc _).below (Nat.le_refl _) (by simp)⟩
set_option maxHeartbeats 16000000 in
theorem auditNil_walk (n : Int) (w : World) (hn : (Lit.int .i64 n).wf = true) (hr : RowAt w) : Calls Tryz.prog 3 #[.int .i64 n] w (Holds w) := by
  have HA := Lib.hid (aawake_any w hr)
  have HR := Lib.hid hr
  have he := fun W => same_rep 0 W
  have HCN := Lib.hid fun (W : World) => check_nil W
  have HNN := Lib.hid fun (W : World) => anames_nil W
  have HLN := Lib.hid fun (W : World) => list_nil n W
  have HSN := Lib.hid fun (W : World) => sum_nil W
  clear hr hn
  go_enter Tryz.func3, Tryz.ntmps3
  go_wp2_with fail
  refine HA.out.mono ?_
  rintro e w1 ⟨rfl, hb1⟩
  have HB1 := Lib.hid hb1
  clear hb1
  go_wp2_with fail
  refine (HCN.out _).mono ?_
  rintro e w2 ⟨rfl, hb2⟩
  have HB2 := Lib.hid (HB1.out.trans (hb2.mono HB1.out.size))
  clear hb2
  unfold repCells
  go_wp2_with (first
    | (go_at_call 8; refine (HNN.out _).mono ?_; rintro e w3 ⟨rfl, rfl⟩)
    | fail)
  have HBK := Lib.hid (Bk.new w2 24 #[.int .i64 0, .int .i64 0, .int .i64 0, .int .i64 0, .int .i64 0, .int .i64 0, .int .i64 0, .int .i64 0])
  have HB3 := Lib.hid (HB2.out.alloc HB2.out.size (.cells #[.int .i64 0, .int .i64 0, .int .i64 0, .int .i64 0, .int .i64 0, .int .i64 0, .int .i64 0, .int .i64 0] 24))
  generalize w2.alloc (.cells #[.int .i64 0, .int .i64 0, .int .i64 0, .int .i64 0, .int .i64 0, .int .i64 0, .int .i64 0, .int .i64 0] 24) = w3 at HBK HB3 ⊢
  generalize w2.heap.size = R at HBK ⊢
  refine (HLN.out _).mono ?_
  rintro e w4 ⟨rfl, hb4⟩
  have HBK4 := Lib.hid (bk_below HBK.out hb4)
  have HB4 := Lib.hid (HB3.out.trans (hb4.mono HB3.out.size))
  clear hb4
  go_wp2_with fail
  refine (HSN.out _).mono ?_
  rintro e w5 ⟨rfl, hb5⟩
  have HBK5 := Lib.hid (bk_below HBK4.out hb5)
  have HB5 := Lib.hid (HB4.out.trans (hb5.mono HB4.out.size))
  clear hb5
  go_wp2_with fail
  refine (lbegin20 _ (HR.out.below HB5.out)).mono ?_
  rintro e w6 ⟨b, q, r, f, g, S, rfl, hdb, hdv, hnew, hap, hb6⟩
  have HBK6 := Lib.hid (bk_below HBK5.out hb6)
  have HB6 := Lib.hid (HB5.out.trans (hb6.mono HB5.out.size))
  have HD6 := Lib.hid hdb
  have HRN : Hid (w.heap.size ≤ r ∧ r ≠ R) := ⟨Nat.le_trans HB5.out.size (hnew r (by simp)), fun he => by have h1 := hnew r (by simp); have h2 := HBK5.out.lt; omega⟩
  clear hdb hdv hnew hap hb6
  go_wp2_with fail
  refine wp_loop_rounds 6 ?_
  rw [rounds_succ]
  go_wp2_with fail
  refine (snap_ok HD6.out (s' := ⟨some 1, none, none, none⟩) (i := 0) rfl).mono ?_
  rintro e w7 ⟨sp1, rfl, ho7, hd7, -, -⟩
  have HO7 := Lib.hid ho7
  have HD7 := Lib.hid hd7
  clear ho7 hd7
  go_wp2_with fail
  rw [rounds_succ]
  go_wp2_with fail
  refine (snap_ok HD7.out (s' := ⟨some 1, some 1, none, none⟩) (i := 1) rfl).mono ?_
  rintro e w8 ⟨sp2, rfl, ho8, hd8, -, -⟩
  have HO8 := Lib.hid (HO7.out.trans ho8)
  have HD8 := Lib.hid hd8
  clear ho8 hd8
  go_wp2_with fail
  rw [rounds_succ]
  go_wp2_with fail
  refine (snap_ok HD8.out (s' := ⟨some 1, some 1, some 1, none⟩) (i := 2) rfl).mono ?_
  rintro e w9 ⟨sp3, rfl, ho9, hd9, -, -⟩
  have HO9 := Lib.hid (HO8.out.trans ho9)
  have HD9 := Lib.hid hd9
  clear ho9 hd9
  go_wp2_with fail
  rw [rounds_succ]
  go_wp2_with fail
  refine (snap_ok HD9.out (s' := ⟨some 1, some 1, some 1, some 1⟩) (i := 3) rfl).mono ?_
  rintro e w10 ⟨sp4, rfl, ho10, hd10, -, -⟩
  have HO10 := Lib.hid (HO9.out.trans ho10)
  have HD10 := Lib.hid hd10
  clear ho10 hd10
  go_wp2_with fail
  rw [rounds_succ]
  go_wp2_with fail
  refine (check_full HD10.out rfl).mono ?_
  rintro e w11 ⟨rfl, ho11⟩
  have HO11 := Lib.hid (HO10.out.trans ho11)
  have hbk := (HO11.out.bk HBK6.out (by simpa using HRN.out.2.symm))
  have HBK11 := Lib.hid hbk
  obtain ⟨y0, y1, y2, y3, y4, y5, y6, y7⟩ := hbk.eight
  have lR := hbk.lt
  clear ho11 hbk
  unfold repCells
  go_wp2_with fail
  go_ret
  exact ⟨rfl, (((Off.of_below HB6.out []).then HO11.out (fun x hx => by rw [List.mem_singleton] at hx; subst hx; exact .inr HRN.out.1)).alloc _).below (Nat.le_refl _) (by simp)⟩
end Go.Proofs.YtkkgiajjdcpicaaGreatDoor

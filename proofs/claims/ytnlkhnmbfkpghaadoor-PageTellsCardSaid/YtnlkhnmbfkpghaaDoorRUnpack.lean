/- Contract of the reference's Unpack. -/
import Derived.Test.YtnlkhnmbfkpghaaDoorUnpack
namespace Go.Proofs.YtnlkhnmbfkpghaaDoor
open Go.RowKit
open Go.PlainAid
set_option maxRecDepth 100000
set_option linter.unusedVariables false

theorem unpB_long {s : ByteArray} (h : 488 < numAt s 4 2 ∨ 1099511627776 < numAt s 10 8) : unpB s = false := by
  cases hu : unpB s with
  | false => rfl
  | true =>
    have h1 := rightB_yes (unpB_yes hu).1
    have h2 := (unpB_yes hu).says
    have h3 := h2.2.2.2.1
    omega

set_option maxHeartbeats 4000000 in
theorem runpack_a (s : ByteArray) (w : World) (h : s.size ≠ 512) : Calls Tryd.prog 16 #[.string s] w (UnpackPost s w) := by
  have q : ((s.size : Int) != 512) = true := by simp; omega
  have HU := Lib.hid (unpB_size h)
  clear h
  go_enter Tryd.func16, Tryd.ntmps16
  go_wp2_with fail
  exact bodyPost_ret (v := .tuple #[.agg #[.int .i64 0, .int .i64 0, .int .i64 0, .string ⟨#[]⟩], .int .i64 4]) (by simp [results, Tryd.results16, go_sem]) rfl (unpackPost_no HU.out (by first | exact (Below.refl _ _).alloc (Nat.le_refl _) _ | exact ((Below.refl _ _).alloc (Nat.le_refl _) _).drew))

set_option maxHeartbeats 4000000 in
theorem runpack_c (s : ByteArray) (w : World) (h : s.size = 512) : Calls Tryd.prog 16 #[.string s] w (UnpackPost s w) := by
  have q : ((s.size : Int) != 512) = false := by simp; omega
  have HA1 := fun W => rtake_ok s 2 1 W (by omega) (by decide) (by decide) (by omega)
  have HA2 := fun W => rtake_ok s 6 4 W (by omega) (by decide) (by decide) (by omega)
  have HA3 := fun W => rtake_ok s 10 8 W (by omega) (by decide) (by decide) (by omega)
  have HA4 := fun W => rtake_ok s 4 2 W (by omega) (by decide) (by decide) (by omega)
  have l1 := numAt_lt s 2 1
  have l2 := numAt_lt s 6 4
  have l4 := numAt_lt s 4 2
  have hbk := Bk.new w 23 #[.int .i64 0, .int .i64 0, .int .i64 0, .string ⟨#[]⟩]
  have hb0 : Below w.heap.size w (w.alloc (.cells #[.int .i64 0, .int .i64 0, .int .i64 0, .string ⟨#[]⟩] 23)) := (Below.refl _ _).alloc (Nat.le_refl _) _
  have HPK := fun (W : World) => rpack_any (numAt s 2 1) (numAt s 6 4) (numAt s 10 8) (s.extract 24 (24 + numAt s 4 2)) W
  unfold PackPost at HPK
  have hcs : ((decide (488 < (numAt s 4 2 : Int)) = true) ∧ Hid (unpB s = false)) ∨ (decide (488 < (numAt s 4 2 : Int)) = false ∧ decide (1099511627776 < (numAt s 10 8 : Int)) = true ∧ Hid (unpB s = false)) ∨
      (numAt s 4 2 ≤ 488 ∧ numAt s 10 8 ≤ 1099511627776 ∧ decide (488 < (numAt s 4 2 : Int)) = false ∧ decide (1099511627776 < (numAt s 10 8 : Int)) = false) := by
    by_cases h1 : 488 < numAt s 4 2
    · exact .inl ⟨by simp; omega, show _ = _ from unpB_long (.inl h1)⟩
    · by_cases h2 : 1099511627776 < numAt s 10 8
      · exact .inr (.inl ⟨by simp; omega, by simp; omega, show _ = _ from unpB_long (.inr h2)⟩)
      · exact .inr (.inr ⟨by omega, by omega, by simp; omega, by simp; omega⟩)
  have HUU : numAt s 4 2 ≤ 488 → numAt s 10 8 ≤ 1099511627776 → _ := fun h1 h2 => unpB_again (tz := (numAt s 10 8 : Int)) (b := s.extract 24 (24 + numAt s 4 2)) (IntWalk.wrap64_in _ ⟨by omega, by omega⟩).symm (.inl ⟨h1, rfl⟩)
  have hpk : ∃ (ps : ByteArray) (pe : Int), packS (numAt s 2 1) (numAt s 6 4) (numAt s 10 8) (s.extract 24 (24 + numAt s 4 2)) = ps ∧ packE (numAt s 2 1) (numAt s 6 4) (numAt s 10 8) (s.extract 24 (24 + numAt s 4 2)) = pe := ⟨_, _, rfl, rfl⟩
  obtain ⟨ps, pe, hps, hpe⟩ := hpk
  rw [hps, hpe] at HPK HUU
  clear hps hpe
  generalize numAt s 2 1 = k at *
  generalize numAt s 6 4 = n at *
  generalize numAt s 4 2 = l at *
  generalize numAt s 10 8 = t at *
  have HB1 := Lib.hid (show ∀ W, Calls Tryd.prog 43 #[.string s, .int .i64 2, .int .i64 1] W (TellsUE k W) from HA1)
  have HB2 := Lib.hid (show ∀ W, Calls Tryd.prog 43 #[.string s, .int .i64 6, .int .i64 4] W (TellsUE n W) from HA2)
  have HB3 := Lib.hid (show ∀ W, Calls Tryd.prog 43 #[.string s, .int .i64 10, .int .i64 8] W (TellsUE t W) from HA3)
  have HB4 := Lib.hid (show ∀ W, Calls Tryd.prog 43 #[.string s, .int .i64 4, .int .i64 2] W (TellsUE l W) from HA4)
  have HK := Lib.hid HPK
  have HBK := Lib.hid hbk
  have HB0 := Lib.hid hb0
  have hl1 : k < 256 := l1
  have hl2 : n < 4294967296 := by omega
  have hl4 : l < 65536 := by omega
  clear HA1 HA2 HA3 HA4 HPK hbk hb0 l1 l2 l4
  have hc4 : (decide (488 < (l : Int)) = true ∧ Hid (unpB s = false)) ∨ (decide (488 < (l : Int)) = false ∧ decide (1099511627776 < (t : Int)) = true ∧ Hid (unpB s = false)) ∨
      (l ≤ 488 ∧ (t : Int) ≤ 1099511627776 ∧ decide (488 < (l : Int)) = false ∧ decide (1099511627776 < (t : Int)) = false ∧ ((pe = 4 ∧ Hid (unpB s = false)) ∨ (pe = 0 ∧ (ps.toList == s.toList) = false ∧ Hid (unpB s = false)) ∨ (pe = 0 ∧ s = ps ∧ Hid (IsPage s (k : Int) (n : Int) (t : Int) (s.extract 24 (24 + l)))))) := by
    rcases hcs with h1 | h1 | ⟨h1, h2, h3, h4⟩
    · exact .inl h1
    · exact .inr (.inl h1)
    · refine .inr (.inr ⟨h1, by omega, h3, h4, ?_⟩)
      rcases HUU h1 h2 with ⟨h1, h2, h3⟩ | ⟨h1, h2, h3⟩ | ⟨h1, h2⟩
      · exact .inr (.inr ⟨h1, h2.symm, h3⟩)
      · exact .inr (.inl ⟨h1, toList_ne h2, h3⟩)
      · exact .inl ⟨h1, h2⟩
  clear HUU hcs
  rcases hc4 with ⟨ql, HUN⟩ | ⟨ql, qt, HUN⟩ | ⟨hl, ht, ql, qt, ⟨rfl, HUN⟩ | ⟨rfl, qps, HUN⟩ | ⟨rfl, rfl, HPG⟩⟩
  all_goals
    go_enter Tryd.func16, Tryd.ntmps16
    go_wp2_with fail
    refine (HB1.out _).mono ?_
    rintro e w1 ⟨rfl, hb1⟩
    have X1 := Lib.hid (HB0.out.trans (hb1.mono HB0.out.size))
    have K1 := Lib.hid (bk_below HBK.out hb1)
    clear hb1
    go_wp2_with fail
    refine (HB4.out _).mono ?_
    rintro e w2 ⟨rfl, hb2⟩
    have X2 := Lib.hid (X1.out.trans (hb2.mono X1.out.size))
    have K2 := Lib.hid (bk_below K1.out hb2)
    clear hb2
    go_wp2_with fail
    refine (HB2.out _).mono ?_
    rintro e w3 ⟨rfl, hb3⟩
    have X3 := Lib.hid (X2.out.trans (hb3.mono X2.out.size))
    have K3 := Lib.hid (bk_below K2.out hb3)
    clear hb3
    go_wp2_with fail
    refine (HB3.out _).mono ?_
    rintro e w4 ⟨rfl, hb4⟩
    have X4 := Lib.hid (X3.out.trans (hb4.mono X3.out.size))
    have K4 := Lib.hid (bk_below K3.out hb4)
    clear hb4
    obtain ⟨c0, c1, c2, c3⟩ := K4.out.four
    have g0 := K4.out.frozen 0
    have g1 := K4.out.frozen 1
    have g2 := K4.out.frozen 2
    have g3 := K4.out.frozen 3
    go_wp2_with fail
    first
      | exact bodyPost_ret (v := .tuple #[.agg #[.int .i64 0, .int .i64 0, .int .i64 0, .string ⟨#[]⟩], .int .i64 4]) (by simp [results, Tryd.results16, go_sem, *]) rfl (unpackPost_no HUN.out (by repeat (first | exact X4.out | refine Below.setCell ?_ (by simp) _)))
      | skip
  all_goals
    refine (HK.out _).mono ?_
    rintro e w6 ⟨rfl, hb6⟩
    have hn4 := Bk.new w4 23 #[.int .i64 (k : Int), .int .i64 (n : Int), .int .i64 (t : Int), .string (s.extract 24 (24 + l))]
    have X6 := Lib.hid ((X4.out.alloc X4.out.size (.cells #[.int .i64 (k : Int), .int .i64 (n : Int), .int .i64 (t : Int), .string (s.extract 24 (24 + l))] 23)).trans (hb6.mono (by have := X4.out.size; simp; omega)))
    have K6 := Lib.hid (bk_below (K4.out.alloc _) hb6)
    have N6 := Lib.hid (bk_below hn4 hb6)
    clear hb6 hn4 c0 c1 c2 c3 g0 g1 g2 g3
    obtain ⟨c0, c1, c2, c3⟩ := K6.out.four
    have g0 := K6.out.frozen 0
    have g1 := K6.out.frozen 1
    have g2 := K6.out.frozen 2
    have g3 := K6.out.frozen 3
    obtain ⟨d0, d1, d2, d3⟩ := N6.out.four
    go_wp2_with fail
    first
      | exact bodyPost_ret (v := .tuple #[.agg #[.int .i64 0, .int .i64 0, .int .i64 0, .string ⟨#[]⟩], .int .i64 4]) (by simp [results, Tryd.results16, go_sem, *]) rfl (unpackPost_no HUN.out (by repeat (first | exact X6.out | refine Below.setCell ?_ (by simp) _)))
      | exact bodyPost_ret (v := .tuple #[.agg #[.int .i64 (k : Int), .int .i64 (n : Int), .int .i64 (t : Int), .string _], .int .i64 0]) (by simp [results, Tryd.results16, go_sem, *]) rfl (unpackPost_of HPG.out (by repeat (first | exact X6.out | refine Below.setCell ?_ (by simp) _)))
      | (trace_state; fail)

theorem runpack_any (s : ByteArray) (w : World) : Calls Tryd.prog 16 #[.string s] w (UnpackPost s w) := by
  by_cases h : s.size = 512
  · exact runpack_c s w h
  · exact runpack_a s w h
end Go.Proofs.YtnlkhnmbfkpghaaDoor

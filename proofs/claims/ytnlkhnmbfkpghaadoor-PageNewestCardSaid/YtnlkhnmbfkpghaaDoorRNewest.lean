/- Contract of the reference's Newest. -/
import Derived.Test.YtnlkhnmbfkpghaaDoorNewest
namespace Go.Proofs.YtnlkhnmbfkpghaaDoor
open Go.RowKit
open Go.PlainAid
set_option maxRecDepth 100000
set_option linter.unusedVariables false
set_option linter.unusedSimpArgs false

set_option maxHeartbeats 4000000 in
theorem rnewest_any (a b : ByteArray) (w : World) : Calls Tryd.prog 24 #[.string a, .string b] w (NewestPost a b w) := by
  have HU1 := fun (W : World) => runpackM_any a W
  have HU2 := fun (W : World) => runpackM_any b W
  unfold UnpackMPost at HU1 HU2
  have hcs := nw_cases a b
  generalize unmT a = t1 at *
  generalize unmR a = r1 at *
  generalize unmF a = f1 at *
  generalize unmP a = p1 at *
  generalize unmL a = l1 at *
  generalize unmE a = e1 at *
  generalize unmT b = t2 at *
  generalize unmR b = r2 at *
  generalize unmF b = f2 at *
  generalize unmP b = p2 at *
  generalize unmL b = l2 at *
  generalize unmE b = e2 at *
  have hbk := Bk.new w 33 #[.int .i64 0, .int .i64 0, .int .i64 0, .int .i64 0, .int .i64 0]
  have hb0 : Below w.heap.size w (w.alloc (.cells #[.int .i64 0, .int .i64 0, .int .i64 0, .int .i64 0, .int .i64 0] 33)) := (Below.refl _ _).alloc (Nat.le_refl _) _
  have HBK := Lib.hid hbk
  have HB0 := Lib.hid hb0
  have HV1 := Lib.hid HU1
  have HV2 := Lib.hid HU2
  clear HU1 HU2 hbk hb0
  rcases hcs with ⟨rfl, rfl, HN⟩ | ⟨rfl, rfl, HN⟩ | ⟨rfl, rfl, HN⟩ | ⟨rfl, rfl, ht, HN⟩ | ⟨rfl, rfl, ht, HN⟩
  all_goals
    go_enter Tryd.func24, Tryd.ntmps24
    go_wp2_with fail
    refine (HV1.out _).mono ?_
    rintro e w1 ⟨rfl, hb1⟩
    have X1 := Lib.hid (HB0.out.trans (hb1.mono HB0.out.size))
    have K1 := Lib.hid (bk_below HBK.out hb1)
    clear hb1
    go_wp2_with fail
    refine (HV2.out _).mono ?_
    rintro e w2 ⟨rfl, hb2⟩
    have hn1 := Bk.new w1 33 #[.int .i64 t1, .int .i64 r1, .int .i64 f1, .int .i64 p1, .int .i64 l1]
    have X2 := Lib.hid ((X1.out.alloc X1.out.size (.cells #[.int .i64 t1, .int .i64 r1, .int .i64 f1, .int .i64 p1, .int .i64 l1] 33)).trans (hb2.mono (by have := X1.out.size; simp; omega)))
    have K2 := Lib.hid (bk_below (K1.out.alloc _) hb2)
    have N2 := Lib.hid (bk_below hn1 hb2)
    clear hb2 hn1
    have X3 := Lib.hid (X2.out.alloc X2.out.size (.cells #[.int .i64 t2, .int .i64 r2, .int .i64 f2, .int .i64 p2, .int .i64 l2] 33))
    obtain ⟨c0, c1, c2, c3, c4⟩ := K2.out.five
    have g0 := K2.out.frozen 0
    have g1 := K2.out.frozen 1
    have g2 := K2.out.frozen 2
    have g3 := K2.out.frozen 3
    have g4 := K2.out.frozen 4
    obtain ⟨d0, d1, d2, d3, d4⟩ := N2.out.five
    have hk := K2.out.lt
    have hn := N2.out.lt
    go_wp2_with fail
  · exact bodyPost_ret (v := .tuple #[metaV 0 0 0 0 0, .int .i64 0, .int .i64 4]) (by simp [results, Tryd.results24, go_sem, c0, c1, c2, c3, c4, g0, g1, g2, g3, g4, hk, hn, d0, d1, d2, d3, d4]) rfl (HN.out _ _ (by refine Below.alloc ?_ (by have := X2.out.size; simp; omega) _; repeat (first | exact X2.out | refine Below.setCell ?_ (by simp) _)))
  · exact bodyPost_ret (v := .tuple #[metaV t2 r2 f2 p2 l2, .int .i64 1, .int .i64 0]) (by simp [results, Tryd.results24, go_sem, c0, c1, c2, c3, c4, g0, g1, g2, g3, g4, hk, hn, d0, d1, d2, d3, d4]) rfl (HN.out _ _ (by refine Below.alloc ?_ (by have := X2.out.size; simp; omega) _; repeat (first | exact X2.out | refine Below.setCell ?_ (by simp) _)))
  · exact bodyPost_ret (v := .tuple #[metaV t1 r1 f1 p1 l1, .int .i64 0, .int .i64 0]) (by simp [results, Tryd.results24, go_sem, c0, c1, c2, c3, c4, g0, g1, g2, g3, g4, hk, hn, d0, d1, d2, d3, d4]) rfl (HN.out _ _ (by refine Below.alloc ?_ (by have := X2.out.size; simp; omega) _; repeat (first | exact X2.out | refine Below.setCell ?_ (by simp) _)))
  · exact bodyPost_ret (v := .tuple #[metaV t2 r2 f2 p2 l2, .int .i64 1, .int .i64 0]) (by simp [results, Tryd.results24, go_sem, c0, c1, c2, c3, c4, g0, g1, g2, g3, g4, hk, hn, d0, d1, d2, d3, d4]) rfl (HN.out _ _ (by refine Below.alloc ?_ (by have := X2.out.size; simp; omega) _; repeat (first | exact X2.out | refine Below.setCell ?_ (by simp) _)))
  · exact bodyPost_ret (v := .tuple #[metaV t1 r1 f1 p1 l1, .int .i64 0, .int .i64 0]) (by simp [results, Tryd.results24, go_sem, c0, c1, c2, c3, c4, g0, g1, g2, g3, g4, hk, hn, d0, d1, d2, d3, d4]) rfl (HN.out _ _ (by refine Below.alloc ?_ (by have := X2.out.size; simp; omega) _; repeat (first | exact X2.out | refine Below.setCell ?_ (by simp) _)))
end Go.Proofs.YtnlkhnmbfkpghaaDoor

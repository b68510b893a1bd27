/- Walk of the law PageMetas. -/
import Derived.Test.YtnlkhnmbfkpghaaDoorUnpackMeta
import Derived.Test.YtnlkhnmbfkpghaaDoorPagePacks
namespace Go.Proofs.YtnlkhnmbfkpghaaDoor
open Go.RowKit
open Go.PlainAid
set_option maxRecDepth 100000
set_option linter.unusedVariables false

theorem meta_same (t r f p l : Int) (w : World) : (binOp .eql 33 (metaV t r f p l) (metaV t r f p l)).run Tryd.prog w = .ok (.bool true) w := by
  rw [run_eql_struct]
  simp [go_sem, Result.andThen]
theorem meta_nsame (t r f p l : Int) (w : World) : (binOp .neq 33 (metaV t r f p l) (metaV t r f p l)).run Tryd.prog w = .ok (.bool false) w := by
  rw [run_neq_struct]
  simp [go_sem, Result.andThen]

set_option maxHeartbeats 4000000 in
theorem pageMetas_long (t r f p l : Int) (o : ByteArray) (w : World) (hr : RowAt w) (hb : 2000 < o.size) :
    Calls Tryd.prog 5 #[metaV t r f p l, .string o] w (Holds w) := by
  have hb0 : Below w.heap.size w (w.alloc (.cells #[.int .i64 t, .int .i64 r, .int .i64 f, .int .i64 p, .int .i64 l] 33)) := (Below.refl _ _).alloc (Nat.le_refl _) _
  have HA := Lib.hid (awake_any _ (hr.below hb0))
  have q : decide (2000 < (o.size : Int)) = true := by simp; omega
  have HB0 := Lib.hid hb0
  clear hr hb0
  go_enter Tryd.func5, Tryd.ntmps5
  go_wp2_with fail
  refine HA.out.mono ?_
  rintro e w1 ⟨rfl, hb1⟩
  go_wp2_with fail
  go_ret
  exact ⟨rfl, HB0.out.trans (hb1.mono HB0.out.size)⟩

set_option maxHeartbeats 8000000 in
theorem pageMetas_short (t r f p l : Int) (o : ByteArray) (w : World) (hr : RowAt w) (hb : o.size ≤ 2000) :
    Calls Tryd.prog 5 #[metaV t r f p l, .string o] w (Holds w) := by
  have hb0 : Below w.heap.size w (w.alloc (.cells #[.int .i64 t, .int .i64 r, .int .i64 f, .int .i64 p, .int .i64 l] 33)) := (Below.refl _ _).alloc (Nat.le_refl _) _
  have hbk := Bk.new w 33 #[.int .i64 t, .int .i64 r, .int .i64 f, .int .i64 p, .int .i64 l]
  have HRW := Lib.hid (hr.below hb0)
  have HA := Lib.hid (awake_any _ (hr.below hb0))
  have q : decide (2000 < (o.size : Int)) = false := by simp; omega
  have HBK := Lib.hid hbk
  have HB0 := Lib.hid hb0
  have HU1 := fun W hW => unpackM_any o W hW
  have HU2 := fun W => runpackM_any o W
  have HP := fun W hW => packM_any t r f p l W hW
  have HQ := fun W => rpackM_any t r f p l W
  have HR1 := fun W => prightM_any t r f p l W
  have HR2 := fun W => rrightM_any t r f p l W
  unfold PackMPost at HP HQ
  unfold UnpackMPost at HU1 HU2
  have hcs : (rightM t r f p l = false ∧ metaS t r f p l = ⟨#[]⟩ ∧ metaE t r f p l = 4) ∨ (rightM t r f p l = true ∧ metaE t r f p l = 0 ∧ (metaS t r f p l).size = 128 ∧ Hid (∀ W, RowAt W → Calls Tryd.prog 17 #[.string (metaS t r f p l)] W (fun e w' => e = .returned (.tuple #[metaV t r f p l, .int .i64 0]) ∧ Below W.heap.size W w'))) := by
    cases hq : rightM t r f p l with
    | false => exact .inl ⟨rfl, metaS_wrong hq, metaE_wrong hq⟩
    | true =>
      have hM : IsMeta (metaS t r f p l) t r f p l := ⟨hq, rfl⟩
      refine .inr ⟨rfl, metaE_right hq, hM.says.1, fun W hW => ?_⟩
      have h1 := unpackM_any (metaS t r f p l) W hW
      obtain ⟨e1, e2, e3, e4, e5, e6⟩ := unm_of hM
      unfold UnpackMPost at h1
      rw [e1, e2, e3, e4, e5, e6] at h1
      exact h1
  generalize rightM t r f p l = rb at *
  generalize metaS t r f p l = ps at *
  generalize metaE t r f p l = pe at *
  generalize unmT o = t1 at *
  generalize unmR o = r1 at *
  generalize unmF o = f1 at *
  generalize unmP o = p1 at *
  generalize unmL o = l1 at *
  generalize unmE o = e1 at *
  have q2 : (ps.toList == ps.toList) = true := by simp
  have HN1 := Lib.hid fun W => meta_nsame t1 r1 f1 p1 l1 W
  have HS1 := Lib.hid fun W => meta_same t r f p l W
  have HU1 := Lib.hid HU1
  have HU2 := Lib.hid HU2
  have HP := Lib.hid HP
  have HQ := Lib.hid HQ
  have HR1 := Lib.hid HR1
  have HR2 := Lib.hid HR2
  rename_i HU10 HU20 HP0 HQ0 HR10 HR20
  clear HU10 HU20 HP0 HQ0 HR10 HR20 hr hb0 hbk
  have hcs2 : ∃ qz : Bool, (rb = false ∧ ps = ⟨#[]⟩ ∧ pe = 4) ∨ (rb = true ∧ pe = 0 ∧ ((ps.size : Int) == 128) = true ∧ Hid (∀ W, RowAt W → Calls Tryd.prog 17 #[.string ps] W (fun e w' => e = .returned (.tuple #[metaV t r f p l, .int .i64 0]) ∧ Below W.heap.size W w'))) := by
    refine ⟨true, ?_⟩
    rcases hcs with h | ⟨h1, h2, h3, h4⟩
    · exact .inl h
    · exact .inr ⟨h1, h2, by rw [h3]; rfl, h4⟩
  clear hcs
  obtain ⟨_, ⟨rfl, rfl, rfl⟩ | ⟨rfl, rfl, qz, HU⟩⟩ := hcs2
  all_goals
    go_enter Tryd.func5, Tryd.ntmps5
    go_wp2_with fail
    refine HA.out.mono ?_
    rintro e w1 ⟨rfl, hb1⟩
    have X1 := Lib.hid (HB0.out.trans (hb1.mono HB0.out.size))
    have K1 := Lib.hid (bk_below HBK.out hb1)
    have R1 := Lib.hid (HRW.out.below hb1)
    clear hb1
    go_wp2_with fail
    refine (HU1.out _ R1.out).mono ?_
    rintro e w2 ⟨rfl, hb2⟩
    have X2 := Lib.hid (X1.out.trans (hb2.mono X1.out.size))
    have K2 := Lib.hid (bk_below K1.out hb2)
    have R2 := Lib.hid (R1.out.below hb2)
    clear hb2
    go_wp2_with fail
    refine (HU2.out _).mono ?_
    rintro e w3 ⟨rfl, hb3⟩
    have hal : Below w2.heap.size w2 (w2.alloc (.cells #[.int .i64 t1, .int .i64 r1, .int .i64 f1, .int .i64 p1, .int .i64 l1] 33)) := (Below.refl _ _).alloc (Nat.le_refl _) _
    have hn := Bk.new w2 33 #[.int .i64 t1, .int .i64 r1, .int .i64 f1, .int .i64 p1, .int .i64 l1]
    have X3 := Lib.hid ((X2.out.trans (hal.mono X2.out.size)).trans (hb3.mono (by have := X2.out.size; simp; omega)))
    have K3 := Lib.hid (bk_below (bk_below K2.out hal) hb3)
    have A3 := Lib.hid (bk_below hn hb3)
    have R3 := Lib.hid ((R2.out.below hal).below hb3)
    clear hb3 hal hn
    have hal : Below w3.heap.size w3 (w3.alloc (.cells #[.int .i64 t1, .int .i64 r1, .int .i64 f1, .int .i64 p1, .int .i64 l1] 33)) := (Below.refl _ _).alloc (Nat.le_refl _) _
    have hn := Bk.new w3 33 #[.int .i64 t1, .int .i64 r1, .int .i64 f1, .int .i64 p1, .int .i64 l1]
    have R4 := Lib.hid (R3.out.below hal)
    have X4 := Lib.hid (X3.out.trans (hal.mono X3.out.size))
    have K4 := Lib.hid (bk_below K3.out hal)
    have A4 := Lib.hid (bk_below A3.out hal)
    have B4 := Lib.hid hn
    clear hal hn
    obtain ⟨c0, c1, c2, c3, c4⟩ := K4.out.five
    have hlt3 := K3.out.lt
    go_wp2_with fail
    refine (HP.out _ R4.out).mono ?_
    rintro e w5 ⟨rfl, hb5⟩
    have X5 := Lib.hid (X4.out.trans (hb5.mono X4.out.size))
    have K5 := Lib.hid (bk_below K4.out hb5)
    have A5 := Lib.hid (bk_below A4.out hb5)
    have B5 := Lib.hid (bk_below B4.out hb5)
    have R5 := Lib.hid (R4.out.below hb5)
    clear hb5 c0 c1 c2 c3 c4
    obtain ⟨c0, c1, c2, c3, c4⟩ := K5.out.five
    go_wp2_with fail
    refine (HQ.out _).mono ?_
    rintro e w6 ⟨rfl, hb6⟩
    have X6 := Lib.hid (X5.out.trans (hb6.mono X5.out.size))
    have K6 := Lib.hid (bk_below K5.out hb6)
    have A6 := Lib.hid (bk_below A5.out hb6)
    have B6 := Lib.hid (bk_below B5.out hb6)
    have R6 := Lib.hid (R5.out.below hb6)
    clear hb6 c0 c1 c2 c3 c4
    have HKS := Lib.hid fun (W : World) (hb : Below w6.heap.size w6 W) => (show (W.cell? ⟨w.heap.size, 0, none⟩ = some (.int .i64 t) ∧ W.cell? ⟨w.heap.size, 1, none⟩ = some (.int .i64 r) ∧ W.cell? ⟨w.heap.size, 2, none⟩ = some (.int .i64 f) ∧ W.cell? ⟨w.heap.size, 3, none⟩ = some (.int .i64 p) ∧ W.cell? ⟨w.heap.size, 4, none⟩ = some (.int .i64 l)) ∧
      (W.cell? ⟨w2.heap.size, 0, none⟩ = some (.int .i64 t1) ∧ W.cell? ⟨w2.heap.size, 1, none⟩ = some (.int .i64 r1) ∧ W.cell? ⟨w2.heap.size, 2, none⟩ = some (.int .i64 f1) ∧ W.cell? ⟨w2.heap.size, 3, none⟩ = some (.int .i64 p1) ∧ W.cell? ⟨w2.heap.size, 4, none⟩ = some (.int .i64 l1)) ∧
      (W.cell? ⟨w3.heap.size, 0, none⟩ = some (.int .i64 t1) ∧ W.cell? ⟨w3.heap.size, 1, none⟩ = some (.int .i64 r1) ∧ W.cell? ⟨w3.heap.size, 2, none⟩ = some (.int .i64 f1) ∧ W.cell? ⟨w3.heap.size, 3, none⟩ = some (.int .i64 p1) ∧ W.cell? ⟨w3.heap.size, 4, none⟩ = some (.int .i64 l1)) ∧ Below w6.heap.size w6 W from
      ⟨(bk_below K6.out hb).five, (bk_below A6.out hb).five, (bk_below B6.out hb).five, hb⟩)
    have HB2 := Lib.hid (Below.refl w6.heap.size w6).drew
    have hns := HN1.out
    go_wp2_with fail
    go_cut [64] (fun v wx => v = .bool false ∧ Below w6.heap.size w6 wx)
    case first =>
      go_region_held3 (fun W => (W.cell? ⟨w.heap.size, 0, none⟩ = some (.int .i64 t) ∧ W.cell? ⟨w.heap.size, 1, none⟩ = some (.int .i64 r) ∧ W.cell? ⟨w.heap.size, 2, none⟩ = some (.int .i64 f) ∧ W.cell? ⟨w.heap.size, 3, none⟩ = some (.int .i64 p) ∧ W.cell? ⟨w.heap.size, 4, none⟩ = some (.int .i64 l)) ∧
      (W.cell? ⟨w2.heap.size, 0, none⟩ = some (.int .i64 t1) ∧ W.cell? ⟨w2.heap.size, 1, none⟩ = some (.int .i64 r1) ∧ W.cell? ⟨w2.heap.size, 2, none⟩ = some (.int .i64 f1) ∧ W.cell? ⟨w2.heap.size, 3, none⟩ = some (.int .i64 p1) ∧ W.cell? ⟨w2.heap.size, 4, none⟩ = some (.int .i64 l1)) ∧
      (W.cell? ⟨w3.heap.size, 0, none⟩ = some (.int .i64 t1) ∧ W.cell? ⟨w3.heap.size, 1, none⟩ = some (.int .i64 r1) ∧ W.cell? ⟨w3.heap.size, 2, none⟩ = some (.int .i64 f1) ∧ W.cell? ⟨w3.heap.size, 3, none⟩ = some (.int .i64 p1) ∧ W.cell? ⟨w3.heap.size, 4, none⟩ = some (.int .i64 l1)) ∧ Below w6.heap.size w6 W) (first | exact HKS.out _ HB2.out | exact HKS.out _ (by assumption))
        (first
          | (go_at_call 21; (with_reducible refine (HR1.out _).mono ?_); rintro e wN ⟨rfl, hbN0⟩; have hbN := HB2.out.trans (hbN0.mono HB2.out.size); clear hbN0)
          | (go_at_call 22; (with_reducible refine (HR2.out _).mono ?_); rintro e wM ⟨rfl, hbM0⟩; have hbM := hbN.trans (hbM0.mono hbN.size); clear hbM0))
      all_goals
        go_wp2_with fail
        go_meet
        exact ⟨rfl, by assumption⟩
    case rest =>
      obtain ⟨rfl, hbc⟩ := hcut
      have X7 := Lib.hid (X6.out.trans (hbc.mono X6.out.size))
      have K7 := Lib.hid (bk_below K6.out hbc)
      have R7 := Lib.hid (R6.out.below hbc)
      clear hbc hns
      go_wp2_with fail
      first
        | (go_ret; exact ⟨by rfl, X7.out⟩)
        | (refine (HU.out _ R7.out).mono ?_
           rintro e w8 ⟨rfl, hb8⟩
           have X8 := Lib.hid (X7.out.trans (hb8.mono X7.out.size))
           have K8 := Lib.hid (bk_below K7.out hb8)
           clear hb8
           obtain ⟨c0, c1, c2, c3, c4⟩ := (K8.out.alloc (.cells #[.int .i64 t, .int .i64 r, .int .i64 f, .int .i64 p, .int .i64 l] 33)).five
           have hlt := K8.out.lt
           have hsm := HS1.out
           go_wp2_with fail
           go_ret
           exact ⟨by rfl, X8.out.alloc X8.out.size _⟩)
        | (trace_state; fail)

theorem pageMetas_any (t r f p l : Int) (o : ByteArray) (w : World) (_ : o.size ≤ maxLen) (hr : RowAt w) : Calls Tryd.prog 5 #[metaV t r f p l, .string o] w (Holds w) := by
  rcases Nat.lt_or_ge 2000 o.size with h | h
  · exact pageMetas_long t r f p l o w hr h
  · exact pageMetas_short t r f p l o w hr h
end Go.Proofs.YtnlkhnmbfkpghaaDoor

/- Walks of the laws PagePacks and PageReads. -/
import Derived.Test.YtnlkhnmbfkpghaaDoorRUnpack
import Derived.Laws.StructEq
namespace Go.Proofs.YtnlkhnmbfkpghaaDoor
open Go.RowKit
open Go.PlainAid
set_option maxRecDepth 100000
set_option linter.unusedVariables false

theorem page_same (k n t : Int) (b : ByteArray) (w : World) : (binOp .eql 23 (.agg #[.int .i64 k, .int .i64 n, .int .i64 t, .string b]) (.agg #[.int .i64 k, .int .i64 n, .int .i64 t, .string b])).run Tryd.prog w = .ok (.bool true) w := by
  have hf : Tryd.prog.fieldsOf 23 = Tryd.prog.fieldsOf 23 := rfl
  rw [run_eql_struct]
  simp [go_sem, Result.andThen]

theorem awake_page : (⟨(pageS 1 3 7 [120]).toArray⟩ : ByteArray).extract 0 10 = ⟨#[82, 66, 1, 0, 0, 1, 0, 0, 0, 3]⟩ := by
  apply str_eq
  rw [extract_list]
  show ((pageS 1 3 7 [120]).drop 0).take 10 = _
  rw [pageS_parts]
  simp [Be.low]

set_option maxHeartbeats 4000000 in
theorem awake_any (w : World) (hr : RowAt w) : Calls Tryd.prog 10 #[] w (TellsQ true w) := by
  have hrb : rightB 1 3 7 ⟨#[120]⟩ = true := by decide
  have hp := fun W hW => pack_any 1 3 7 ⟨#[120]⟩ W hW
  have e1 : packS 1 3 7 ⟨#[120]⟩ = ⟨(pageS 1 3 7 [120]).toArray⟩ := packS_right hrb
  unfold PackPost at hp
  rw [e1, packE_right hrb] at hp
  have hz : (⟨(pageS 1 3 7 [120]).toArray⟩ : ByteArray).size = 512 := by rw [size_list]; exact pageS_len _ _ _ _ (by decide)
  have he := awake_page
  generalize (⟨(pageS 1 3 7 [120]).toArray⟩ : ByteArray) = s at *
  have HP := Lib.hid (hp w hr)
  have q1 : ((s.size : Int) == 512) = true := by rw [hz]; rfl
  have q2 : ((s.extract 0 10).toList == [82, 66, 1, 0, 0, 1, 0, 0, 0, 3]) = true := by rw [he, ByteArray.toList_eq]; decide
  have hz2 : 10 ≤ s.size := by omega
  clear he hp e1 hz hr
  go_enter Tryd.func10, Tryd.ntmps10
  go_wp2_with (first | (go_at_call 11; refine HP.out.mono ?_; rintro e w' ⟨rfl, hb⟩) | fail)
  go_ret
  exact tellsQ_of (by rfl) hb

set_option maxHeartbeats 4000000 in
theorem pagePacks_long (k n t : Int) (b : ByteArray) (w : World) (hr : RowAt w) (hb : 2000 < b.size) :
    Calls Tryd.prog 3 #[.agg #[.int .i64 k, .int .i64 n, .int .i64 t, .string b]] w (Holds w) := by
  have hb0 : Below w.heap.size w (w.alloc (.cells #[.int .i64 k, .int .i64 n, .int .i64 t, .string b] 23)) := (Below.refl _ _).alloc (Nat.le_refl _) _
  have hbk := Bk.new w 23 #[.int .i64 k, .int .i64 n, .int .i64 t, .string b]
  have HA := Lib.hid (awake_any _ (hr.below hb0))
  have q : decide (2000 < (b.size : Int)) = true := by simp; omega
  have HBK := Lib.hid hbk
  have HB0 := Lib.hid hb0
  clear hr hb0 hbk
  go_enter Tryd.func3, Tryd.ntmps3
  go_wp2_with fail
  refine HA.out.mono ?_
  rintro e w1 ⟨rfl, hb1⟩
  obtain ⟨c0, c1, c2, c3⟩ := (bk_below HBK.out hb1).four
  go_wp2_with fail
  go_ret
  exact ⟨rfl, HB0.out.trans (hb1.mono HB0.out.size)⟩

set_option maxHeartbeats 8000000 in
theorem pagePacks_short (k n t : Int) (b : ByteArray) (w : World) (hr : RowAt w) (hb : b.size ≤ 2000) :
    Calls Tryd.prog 3 #[.agg #[.int .i64 k, .int .i64 n, .int .i64 t, .string b]] w (Holds w) := by
  have hb0 : Below w.heap.size w (w.alloc (.cells #[.int .i64 k, .int .i64 n, .int .i64 t, .string b] 23)) := (Below.refl _ _).alloc (Nat.le_refl _) _
  have hbk := Bk.new w 23 #[.int .i64 k, .int .i64 n, .int .i64 t, .string b]
  have HRW := Lib.hid (hr.below hb0)
  have HA := Lib.hid (awake_any _ (hr.below hb0))
  have q : decide (2000 < (b.size : Int)) = false := by simp; omega
  have HBK := Lib.hid hbk
  have HB0 := Lib.hid hb0
  have HP := fun W hW => pack_any k n t b W hW
  have HQ := fun W => rpack_any k n t b W
  have HR1 := fun W => pright_any k n t b W
  have HR2 := fun W => rright_any k n t b W
  have HSame := Lib.hid (fun W => page_same k n t b W)
  unfold PackPost at HP HQ
  have hcs : (rightB k n t b = false ∧ packS k n t b = ⟨#[]⟩ ∧ packE k n t b = 4) ∨ (rightB k n t b = true ∧ packE k n t b = 0 ∧ ∀ W, RowAt W → Calls Tryd.prog 15 #[.string (packS k n t b)] W (fun e w' => e = .returned (.tuple #[.agg #[.int .i64 k, .int .i64 n, .int .i64 t, .string b], .int .i64 0]) ∧ Below W.heap.size W w')) := by
    cases hq : rightB k n t b with
    | false => exact .inl ⟨rfl, packS_wrong hq, packE_wrong hq⟩
    | true =>
      refine .inr ⟨rfl, packE_right hq, fun W hW => ?_⟩
      have h1 := unpack_any (packS k n t b) W hW
      obtain ⟨e1, e2, e3, e4, e5⟩ := unp_of (s := packS k n t b) ⟨hq, rfl⟩
      unfold UnpackPost at h1
      rw [e1, e2, e3, e4, e5] at h1
      exact h1
  generalize rightB k n t b = rb at *
  generalize packS k n t b = ps at *
  generalize packE k n t b = pe at *
  have q2 : (ps.toList == ps.toList) = true := by simp
  have hcs2 : (rb = false ∧ ps = ⟨#[]⟩ ∧ pe = 4) ∨ (rb = true ∧ pe = 0 ∧ Hid (∀ W, RowAt W → Calls Tryd.prog 15 #[.string ps] W (fun e w' => e = .returned (.tuple #[.agg #[.int .i64 k, .int .i64 n, .int .i64 t, .string b], .int .i64 0]) ∧ Below W.heap.size W w'))) := hcs
  clear hcs hr hb0 hbk
  rcases hcs2 with ⟨rfl, rfl, rfl⟩ | ⟨rfl, rfl, HU⟩
  all_goals
    have HP := Lib.hid HP
    have HQ := Lib.hid HQ
    have HR1 := Lib.hid HR1
    have HR2 := Lib.hid HR2
    rename_i HP0 HQ0 HR10 HR20
    clear HP0 HQ0 HR10 HR20
    go_enter Tryd.func3, Tryd.ntmps3
    go_wp2_with fail
    refine HA.out.mono ?_
    rintro e w1 ⟨rfl, hb1⟩
    have X1 := Lib.hid (HB0.out.trans (hb1.mono HB0.out.size))
    have K1 := Lib.hid (bk_below HBK.out hb1)
    have R1 := Lib.hid (HRW.out.below hb1)
    clear hb1
    obtain ⟨c0, c1, c2, c3⟩ := K1.out.four
    go_wp2_with fail
    refine (HP.out _ R1.out).mono ?_
    rintro e w2 ⟨rfl, hb2⟩
    have X2 := Lib.hid (X1.out.trans (hb2.mono X1.out.size))
    have K2 := Lib.hid (bk_below K1.out hb2)
    have R2 := Lib.hid (R1.out.below hb2)
    clear hb2 c0 c1 c2 c3
    obtain ⟨c0, c1, c2, c3⟩ := K2.out.four
    go_wp2_with fail
    refine (HQ.out _).mono ?_
    rintro e w3 ⟨rfl, hb3⟩
    have X3 := Lib.hid (X2.out.trans (hb3.mono X2.out.size))
    have K3 := Lib.hid (bk_below K2.out hb3)
    have R3 := Lib.hid (R2.out.below hb3)
    clear hb3 c0 c1 c2 c3
    have HKS := Lib.hid fun (W : World) (hb : Below w3.heap.size w3 W) => (show W.cell? ⟨w.heap.size, 0, none⟩ = some (.int .i64 k) ∧ W.cell? ⟨w.heap.size, 1, none⟩ = some (.int .i64 n) ∧ W.cell? ⟨w.heap.size, 2, none⟩ = some (.int .i64 t) ∧ W.cell? ⟨w.heap.size, 3, none⟩ = some (.string b) ∧ Below w3.heap.size w3 W from
      have h5 := (bk_below K3.out hb).four
      ⟨h5.1, h5.2.1, h5.2.2.1, h5.2.2.2, hb⟩)
    have HB2 := Lib.hid (Below.refl w3.heap.size w3).drew
    go_wp2_with fail
    go_cut [39] (fun v wx => v = .bool false ∧ Below w3.heap.size w3 wx)
    case first =>
      go_region_held3 (fun W => W.cell? ⟨w.heap.size, 0, none⟩ = some (.int .i64 k) ∧ W.cell? ⟨w.heap.size, 1, none⟩ = some (.int .i64 n) ∧ W.cell? ⟨w.heap.size, 2, none⟩ = some (.int .i64 t) ∧ W.cell? ⟨w.heap.size, 3, none⟩ = some (.string b) ∧ Below w3.heap.size w3 W) (first | exact HKS.out _ HB2.out | exact HKS.out _ (by assumption))
        (first
          | (go_at_call 13; (with_reducible refine (HR1.out _).mono ?_); rintro e wN ⟨rfl, hbN0⟩; have hbN := HB2.out.trans (hbN0.mono HB2.out.size); clear hbN0)
          | (go_at_call 14; (with_reducible refine (HR2.out _).mono ?_); rintro e wM ⟨rfl, hbM0⟩; have hbM := hbN.trans (hbM0.mono hbN.size); clear hbM0))
      all_goals
        go_wp2_with fail
        go_meet
        exact ⟨rfl, by assumption⟩
    case rest =>
      obtain ⟨rfl, hbc⟩ := hcut
      have X4 := Lib.hid (X3.out.trans (hbc.mono X3.out.size))
      have K4 := Lib.hid (bk_below K3.out hbc)
      have R4 := Lib.hid (R3.out.below hbc)
      clear hbc
      go_wp2_with fail
      first
        | (go_ret; exact ⟨by rfl, X4.out⟩)
        | (refine (HU.out _ R4.out).mono ?_
           rintro e w5 ⟨rfl, hb5⟩
           have X5 := Lib.hid (X4.out.trans (hb5.mono X4.out.size))
           have K5 := Lib.hid (bk_below K4.out hb5)
           clear hb5
           obtain ⟨c0, c1, c2, c3⟩ := (K5.out.alloc (.cells #[.int .i64 k, .int .i64 n, .int .i64 t, .string b] 23)).four
           have hlt := K5.out.lt
           have hsm := HSame.out
           go_wp2_with fail
           go_ret
           exact ⟨by rfl, X5.out.alloc X5.out.size _⟩)
        | (trace_state; fail)

set_option maxHeartbeats 4000000 in
theorem pageReads_long (s : ByteArray) (w : World) (hr : RowAt w) (hb : 2000 < s.size) : Calls Tryd.prog 4 #[.string s] w (Holds w) := by
  have HA := Lib.hid (awake_any _ hr)
  have q : decide (2000 < (s.size : Int)) = true := by simp; omega
  clear hr
  go_enter Tryd.func4, Tryd.ntmps4
  go_wp2_with fail
  refine HA.out.mono ?_
  rintro e w1 ⟨rfl, hb1⟩
  go_wp2_with fail
  go_ret
  exact ⟨rfl, hb1⟩

set_option maxHeartbeats 4000000 in
theorem pageReads_short (s : ByteArray) (w : World) (hr : RowAt w) (hb : s.size ≤ 2000) : Calls Tryd.prog 4 #[.string s] w (Holds w) := by
  have HA := Lib.hid (awake_any _ hr)
  have HRW := Lib.hid hr
  have q : decide (2000 < (s.size : Int)) = false := by simp; omega
  have HU := fun W hW => unpack_any s W hW
  have HV := fun W => runpack_any s W
  unfold UnpackPost at HU HV
  generalize unpK s = k at *
  generalize unpN s = n at *
  generalize unpT s = t at *
  generalize unpY s = b at *
  generalize unpE s = pe at *
  have hsm := fun W => page_same k n t b W
  have HU1 := Lib.hid HU
  have HV1 := Lib.hid HV
  clear hr HU HV
  go_enter Tryd.func4, Tryd.ntmps4
  go_wp2_with fail
  refine HA.out.mono ?_
  rintro e w1 ⟨rfl, hb1⟩
  have X1 := Lib.hid hb1
  have R1 := Lib.hid (HRW.out.below hb1)
  clear hb1
  go_wp2_with fail
  refine (HU1.out _ R1.out).mono ?_
  rintro e w2 ⟨rfl, hb2⟩
  have X2 := Lib.hid (X1.out.trans (hb2.mono X1.out.size))
  clear hb2
  go_wp2_with fail
  refine (HV1.out _).mono ?_
  rintro e w3 ⟨rfl, hb3⟩
  have hn := Bk.new w2 23 #[.int .i64 k, .int .i64 n, .int .i64 t, .string b]
  have X3 := Lib.hid ((X2.out.alloc X2.out.size (.cells #[.int .i64 k, .int .i64 n, .int .i64 t, .string b] 23)).trans (hb3.mono (by have := X2.out.size; simp; omega)))
  have K3 := Lib.hid (bk_below hn hb3)
  clear hb3 hn
  obtain ⟨c0, c1, c2, c3⟩ := (K3.out.alloc (.cells #[.int .i64 k, .int .i64 n, .int .i64 t, .string b] 23)).four
  have hlt := K3.out.lt
  go_wp2_with fail
  go_ret
  exact ⟨by rfl, X3.out.alloc X3.out.size _⟩

theorem pagePacks_any (k n t : Int) (b : ByteArray) (w : World) (_ : b.size ≤ maxLen) (hr : RowAt w) :
    Calls Tryd.prog 3 #[.agg #[.int .i64 k, .int .i64 n, .int .i64 t, .string b]] w (Holds w) := by
  rcases Nat.lt_or_ge 2000 b.size with h | h
  · exact pagePacks_long k n t b w hr h
  · exact pagePacks_short k n t b w hr h
theorem pageReads_any (s : ByteArray) (w : World) (_ : s.size ≤ maxLen) (hr : RowAt w) : Calls Tryd.prog 4 #[.string s] w (Holds w) := by
  rcases Nat.lt_or_ge 2000 s.size with h | h
  · exact pageReads_long s w hr h
  · exact pageReads_short s w hr h
end Go.Proofs.YtnlkhnmbfkpghaaDoor

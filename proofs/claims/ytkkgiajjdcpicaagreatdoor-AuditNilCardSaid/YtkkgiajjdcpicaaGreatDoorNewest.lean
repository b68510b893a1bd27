/- Contracts of page.Newest and of the reference's. -/
import Derived.Test.YtkkgiajjdcpicaaGreatDoorUnpackMeta
namespace Go.Proofs.YtkkgiajjdcpicaaGreatDoor
open Go.RowKit
open Go.PlainAid
set_option maxRecDepth 100000
set_option linter.unusedVariables false
set_option linter.unusedSimpArgs false

/-- is the second one the newest meta? -/
def nwI (a b : ByteArray) : Bool := unmB b && (!unmB a || decide (unmT a < unmT b))
def nwS (a b : ByteArray) : ByteArray := if nwI a b then b else a
def nwN (a b : ByteArray) : Int := if nwI a b then 1 else 0
def NewestPost (a b : ByteArray) (w : World) (e : Ending) (w' : World) : Prop :=
  e = .returned (.tuple #[metaV (unmT (nwS a b)) (unmR (nwS a b)) (unmF (nwS a b)) (unmP (nwS a b)) (unmL (nwS a b)), .int .i64 (nwN a b), .int .i64 (unmE (nwS a b))]) ∧ Below w.heap.size w w'

theorem unmE_cases (s : ByteArray) : (unmE s = 0 ∧ unmB s = true) ∨ (unmE s = 4 ∧ unmB s = false) := by
  cases h : unmB s with
  | true => exact .inl ⟨by unfold unmE; rw [h]; rfl, rfl⟩
  | false => exact .inr ⟨by unfold unmE; rw [h]; rfl, rfl⟩

def NwA (a b : ByteArray) (t r f p l : Int) : Prop := ∀ w w', Below w.heap.size w w' → NewestPost a b w (.returned (.tuple #[metaV t r f p l, .int .i64 0, .int .i64 0])) w'
def NwB (a b : ByteArray) (t r f p l : Int) : Prop := ∀ w w', Below w.heap.size w w' → NewestPost a b w (.returned (.tuple #[metaV t r f p l, .int .i64 1, .int .i64 0])) w'
def NwN (a b : ByteArray) : Prop := ∀ w w', Below w.heap.size w w' → NewestPost a b w (.returned (.tuple #[metaV 0 0 0 0 0, .int .i64 0, .int .i64 4])) w'

theorem nwA_of {a b : ByteArray} (h : nwI a b = false) (he : unmE a = 0) : NwA a b (unmT a) (unmR a) (unmF a) (unmP a) (unmL a) := by
  intro w w' hb
  unfold NewestPost nwS nwN
  rw [h]
  simp only [Bool.false_eq_true, if_false]
  rw [he]
  exact ⟨rfl, hb⟩
theorem nwB_of {a b : ByteArray} (h : nwI a b = true) (he : unmE b = 0) : NwB a b (unmT b) (unmR b) (unmF b) (unmP b) (unmL b) := by
  intro w w' hb
  unfold NewestPost nwS nwN
  rw [h]
  simp only [if_true]
  rw [he]
  exact ⟨rfl, hb⟩
theorem nwN_of {a b : ByteArray} (ha : unmB a = false) (hb : unmB b = false) : NwN a b := by
  intro w w' hbl
  have h : nwI a b = false := by unfold nwI; rw [hb]; rfl
  unfold NewestPost nwS nwN
  rw [h]
  simp only [Bool.false_eq_true, if_false]
  obtain ⟨h1, h2, h3, h4, h5, h6⟩ := unm_no ha
  rw [h1, h2, h3, h4, h5, h6]
  exact ⟨rfl, hbl⟩
theorem nw_cases (a b : ByteArray) : (unmE a = 4 ∧ unmE b = 4 ∧ Hid (NwN a b)) ∨ (unmE a = 4 ∧ unmE b = 0 ∧ Hid (NwB a b (unmT b) (unmR b) (unmF b) (unmP b) (unmL b))) ∨ (unmE a = 0 ∧ unmE b = 4 ∧ Hid (NwA a b (unmT a) (unmR a) (unmF a) (unmP a) (unmL a))) ∨
    (unmE a = 0 ∧ unmE b = 0 ∧ unmT a < unmT b ∧ Hid (NwB a b (unmT b) (unmR b) (unmF b) (unmP b) (unmL b))) ∨ (unmE a = 0 ∧ unmE b = 0 ∧ unmT b ≤ unmT a ∧ Hid (NwA a b (unmT a) (unmR a) (unmF a) (unmP a) (unmL a))) := by
  rcases unmE_cases a with ⟨ea, ha⟩ | ⟨ea, ha⟩ <;> rcases unmE_cases b with ⟨eb, hb⟩ | ⟨eb, hb⟩
  · by_cases ht : unmT a < unmT b
    · exact .inr (.inr (.inr (.inl ⟨ea, eb, ht, nwB_of (by unfold nwI; rw [ha, hb]; simp [ht]) eb⟩)))
    · exact .inr (.inr (.inr (.inr ⟨ea, eb, by omega, nwA_of (by unfold nwI; rw [ha, hb]; simp [ht]) ea⟩)))
  · exact .inr (.inr (.inl ⟨ea, eb, nwA_of (by unfold nwI; rw [hb]; rfl) ea⟩))
  · exact .inr (.inl ⟨ea, eb, nwB_of (by unfold nwI; rw [ha, hb]; rfl) eb⟩)
  · exact .inl ⟨ea, eb, nwN_of ha hb⟩


set_option maxHeartbeats 4000000 in
theorem newest_any (a b : ByteArray) (w : World) (hr : RowAt w) : Calls Tryz.prog 126 #[.string a, .string b] w (NewestPost a b w) := by
  have HU1 := fun (W : World) (hW : RowAt W) => unpackM_any a W hW
  have HU2 := fun (W : World) (hW : RowAt W) => unpackM_any b W hW
  unfold UnpackMPost at HU1 HU2
  have hcs := nw_cases a b
  generalize unmT a = t1 at *
  generalize unmR a = r1 at *
  generalize unmF a = f1 at *
  generalize unmP a = p1 at *
  generalize unmL a = l1 at *
  generalize unmE a = e1 at *
  generalize unmT b = t2 at *
  generalize unmR b = r2 at *
  generalize unmF b = f2 at *
  generalize unmP b = p2 at *
  generalize unmL b = l2 at *
  generalize unmE b = e2 at *
  have hbk := Bk.new w 56 #[.int .i64 0, .int .i64 0, .int .i64 0, .int .i64 0, .int .i64 0]
  have hb0 : Below w.heap.size w (w.alloc (.cells #[.int .i64 0, .int .i64 0, .int .i64 0, .int .i64 0, .int .i64 0] 56)) := (Below.refl _ _).alloc (Nat.le_refl _) _
  have HBK := Lib.hid hbk
  have HB0 := Lib.hid hb0
  have HRW := Lib.hid (hr.below hb0)
  have HV1 := Lib.hid HU1
  have HV2 := Lib.hid HU2
  clear HU1 HU2 hbk hb0 hr
  rcases hcs with ⟨rfl, rfl, HN⟩ | ⟨rfl, rfl, HN⟩ | ⟨rfl, rfl, HN⟩ | ⟨rfl, rfl, ht, HN⟩ | ⟨rfl, rfl, ht, HN⟩
  all_goals
    go_enter Tryz.func126, Tryz.ntmps126
    go_wp2_with fail
    refine (HV1.out _ HRW.out).mono ?_
    rintro e w1 ⟨rfl, hb1⟩
    have X1 := Lib.hid (HB0.out.trans (hb1.mono HB0.out.size))
    have K1 := Lib.hid (bk_below HBK.out hb1)
    have R1 := Lib.hid (HRW.out.below hb1)
    clear hb1
    go_wp2_with fail
    refine (HV2.out _ (R1.out.below ((Below.refl _ _).alloc (Nat.le_refl _) _))).mono ?_
    rintro e w2 ⟨rfl, hb2⟩
    have hn1 := Bk.new w1 56 #[.int .i64 t1, .int .i64 r1, .int .i64 f1, .int .i64 p1, .int .i64 l1]
    have X2 := Lib.hid ((X1.out.alloc X1.out.size (.cells #[.int .i64 t1, .int .i64 r1, .int .i64 f1, .int .i64 p1, .int .i64 l1] 56)).trans (hb2.mono (by have := X1.out.size; simp; omega)))
    have K2 := Lib.hid (bk_below (K1.out.alloc _) hb2)
    have N2 := Lib.hid (bk_below hn1 hb2)
    clear hb2 hn1
    have X3 := Lib.hid (X2.out.alloc X2.out.size (.cells #[.int .i64 t2, .int .i64 r2, .int .i64 f2, .int .i64 p2, .int .i64 l2] 56))
    obtain ⟨c0, c1, c2, c3, c4⟩ := K2.out.five
    have g0 := K2.out.frozen 0
    have g1 := K2.out.frozen 1
    have g2 := K2.out.frozen 2
    have g3 := K2.out.frozen 3
    have g4 := K2.out.frozen 4
    obtain ⟨d0, d1, d2, d3, d4⟩ := N2.out.five
    have hk := K2.out.lt
    have hn := N2.out.lt
    go_wp2_with fail
  · exact bodyPost_ret (v := .tuple #[metaV 0 0 0 0 0, .int .i64 0, .int .i64 4]) (by simp [results, Tryz.results126, go_sem, c0, c1, c2, c3, c4, g0, g1, g2, g3, g4, hk, hn, d0, d1, d2, d3, d4]) rfl (HN.out _ _ (by refine Below.alloc ?_ (by have := X2.out.size; simp; omega) _; repeat (first | exact X2.out | refine Below.setCell ?_ (by simp) _)))
  · exact bodyPost_ret (v := .tuple #[metaV t2 r2 f2 p2 l2, .int .i64 1, .int .i64 0]) (by simp [results, Tryz.results126, go_sem, c0, c1, c2, c3, c4, g0, g1, g2, g3, g4, hk, hn, d0, d1, d2, d3, d4]) rfl (HN.out _ _ (by refine Below.alloc ?_ (by have := X2.out.size; simp; omega) _; repeat (first | exact X2.out | refine Below.setCell ?_ (by simp) _)))
  · exact bodyPost_ret (v := .tuple #[metaV t1 r1 f1 p1 l1, .int .i64 0, .int .i64 0]) (by simp [results, Tryz.results126, go_sem, c0, c1, c2, c3, c4, g0, g1, g2, g3, g4, hk, hn, d0, d1, d2, d3, d4]) rfl (HN.out _ _ (by refine Below.alloc ?_ (by have := X2.out.size; simp; omega) _; repeat (first | exact X2.out | refine Below.setCell ?_ (by simp) _)))
  · exact bodyPost_ret (v := .tuple #[metaV t2 r2 f2 p2 l2, .int .i64 1, .int .i64 0]) (by simp [results, Tryz.results126, go_sem, c0, c1, c2, c3, c4, g0, g1, g2, g3, g4, hk, hn, d0, d1, d2, d3, d4]) rfl (HN.out _ _ (by refine Below.alloc ?_ (by have := X2.out.size; simp; omega) _; repeat (first | exact X2.out | refine Below.setCell ?_ (by simp) _)))
  · exact bodyPost_ret (v := .tuple #[metaV t1 r1 f1 p1 l1, .int .i64 0, .int .i64 0]) (by simp [results, Tryz.results126, go_sem, c0, c1, c2, c3, c4, g0, g1, g2, g3, g4, hk, hn, d0, d1, d2, d3, d4]) rfl (HN.out _ _ (by refine Below.alloc ?_ (by have := X2.out.size; simp; omega) _; repeat (first | exact X2.out | refine Below.setCell ?_ (by simp) _)))

end Go.Proofs.YtkkgiajjdcpicaaGreatDoor

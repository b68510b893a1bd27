/- Contracts of strings.HasPrefix and page.Unpack. -/
import Derived.Test.YtkkgiajjdcpicaaGreatDoorPlainPage
import Derived.Test.YtkkgiajjdcpicaaGreatDoorPack
namespace Go.Proofs.YtkkgiajjdcpicaaGreatDoor
open Go.RowKit
open Go.PlainAid
set_option maxRecDepth 100000
set_option linter.unusedVariables false

/-- begins one text with another? -/
def hasPre (s p : ByteArray) : Bool := (s.extract 0 p.size).toList == p.toList
def TellsB (q : Bool) (w : World) (e : Ending) (w' : World) : Prop := e = .returned (.bool q) ∧ w = w'

theorem lhasPrefix (s p : ByteArray) (w : World) (hs : s.size ≤ 1000000) (hp : p.size ≤ s.size) :
    Calls Tryz.prog 232 #[.string s, .string p] w (TellsB (hasPre s p) w) := by
  have q : decide (p.size ≤ s.size) = true := by simpa using hp
  have q2 : decide ((p.size : Int) ≤ (s.size : Int)) = true := by simp; omega
  have HE := Lib.hid (show hasPre s p = ((s.extract 0 p.size).toList == p.toList) from rfl)
  go_enter Tryz.func232, Tryz.ntmps232
  go_wp2_with fail
  go_ret
  exact ⟨by rw [HE.out]; rfl, rfl⟩
theorem hasPrefix_any (s p : ByteArray) (w : World) (hs : s.size ≤ 1000000) (hp : p.size ≤ s.size) :
    Calls Tryz.prog 185 #[.string s, .string p] w (TellsB (hasPre s p) w) := by
  have H := Lib.hid (lhasPrefix s p w hs hp)
  go_enter Tryz.func185, Tryz.ntmps185
  go_wp2_with (go_at_call 232; refine H.out.mono ?_; rintro e w' ⟨rfl, rfl⟩)
  go_ret
  exact ⟨rfl, rfl⟩

def UnpackPost (s : ByteArray) (w : World) (e : Ending) (w' : World) : Prop :=
  e = .returned (.tuple #[.agg #[.int .i64 (unpK s), .int .i64 (unpN s), .int .i64 (unpT s), .string (unpY s)], .int .i64 (unpE s)]) ∧ Below w.heap.size w w'

theorem unpackPost_no {s : ByteArray} {w w' : World} (h : unpB s = false) (hb : Below w.heap.size w w') : UnpackPost s w (.returned (.tuple #[.agg #[.int .i64 0, .int .i64 0, .int .i64 0, .string ⟨#[]⟩], .int .i64 4])) w' := by
  obtain ⟨h1, h2, h3, h4, h5⟩ := unp_no h
  unfold UnpackPost
  rw [h1, h2, h3, h4, h5]
  exact ⟨rfl, hb⟩
theorem unpackPost_of {s : ByteArray} {k n t : Int} {b : ByteArray} {w w' : World} (h : IsPage s k n t b) (hb : Below w.heap.size w w') : UnpackPost s w (.returned (.tuple #[.agg #[.int .i64 k, .int .i64 n, .int .i64 t, .string b], .int .i64 0])) w' := by
  obtain ⟨h1, h2, h3, h4, h5⟩ := unp_of h
  unfold UnpackPost
  rw [h1, h2, h3, h4, h5]
  exact ⟨rfl, hb⟩

theorem unpB_size {s : ByteArray} (h : s.size ≠ 512) : unpB s = false := by
  cases hu : unpB s with
  | false => rfl
  | true => exact absurd (unpB_yes hu).says.1 h
theorem unpB_pre {s : ByteArray} (h : hasPre s ⟨#[82, 66]⟩ = false) : unpB s = false := by
  cases hu : unpB s with
  | false => rfl
  | true =>
    obtain ⟨_, ⟨r, hr⟩, _⟩ := (unpB_yes hu).says
    have : hasPre s ⟨#[82, 66]⟩ = true := by
      unfold hasPre
      rw [ByteArray.toList_eq, ByteArray.toList_eq, extract_list, hr]
      rfl
    rw [this] at h
    cases h
/-- What Unpack packs again, and holds against the bytes. -/
theorem unpB_again {s : ByteArray} {tz : Int} (ht : tz = wrap64 (numAt s 10 8)) {b : ByteArray} (hb : numAt s 4 2 ≤ 488 ∧ b = s.extract 24 (24 + numAt s 4 2) ∨ 488 < numAt s 4 2 ∧ b = ⟨#[]⟩) :
    (packE (numAt s 2 1) (numAt s 6 4) tz b = 0 ∧ packS (numAt s 2 1) (numAt s 6 4) tz b = s ∧ IsPage s (numAt s 2 1) (numAt s 6 4) tz b) ∨
    (packE (numAt s 2 1) (numAt s 6 4) tz b = 0 ∧ packS (numAt s 2 1) (numAt s 6 4) tz b ≠ s ∧ unpB s = false) ∨ (packE (numAt s 2 1) (numAt s 6 4) tz b = 4 ∧ unpB s = false) := by
  have key : unpB s = true → IsPage s (numAt s 2 1) (numAt s 6 4) tz b := by
    intro hu
    have hp := unpB_yes hu
    have h1 := (rightB_yes hp.1)
    have h2 := hp.says
    have e1 : tz = numAt s 10 8 := by rw [ht]; exact IntWalk.wrap64_in _ ⟨by omega, by omega⟩
    rcases hb with ⟨h3, h4⟩ | ⟨h3, h4⟩
    · rw [h4, e1]; exact hp
    · have := h2.2.2.2.1; omega
  cases hr : rightB (numAt s 2 1) (numAt s 6 4) tz b with
  | false =>
    refine .inr (.inr ⟨packE_wrong hr, ?_⟩)
    cases hu : unpB s with
    | false => rfl
    | true => have := (key hu).1; rw [this] at hr; cases hr
  | true =>
    by_cases he : packS (numAt s 2 1) (numAt s 6 4) tz b = s
    · exact .inl ⟨packE_right hr, he, hr, he⟩
    · refine .inr (.inl ⟨packE_right hr, he, ?_⟩)
      cases hu : unpB s with
      | false => rfl
      | true => exact absurd (key hu).2 he

theorem numAt_lt (s : ByteArray) (p k : Nat) : numAt s p k < 256 ^ k := by
  unfold numAt
  refine Nat.lt_of_lt_of_le (Be.num_lt _) (Nat.pow_le_pow_right (by decide) ?_)
  rw [List.length_take]
  omega
theorem toList_ne {a b : ByteArray} (h : a ≠ b) : (a.toList == b.toList) = false := by
  rw [ByteArray.toList_eq, ByteArray.toList_eq, beq_eq_false_iff_ne]
  exact fun e => h (str_eq e)

set_option maxHeartbeats 4000000 in
theorem unpack_a (s : ByteArray) (w : World) (h : s.size ≠ 512) : Calls Tryz.prog 187 #[.string s] w (UnpackPost s w) := by
  have q : ((s.size : Int) != 512) = true := by simp; omega
  have HU := Lib.hid (unpB_size h)
  clear h
  go_enter Tryz.func187, Tryz.ntmps187
  go_wp2_with fail
  exact bodyPost_ret (v := .tuple #[.agg #[.int .i64 0, .int .i64 0, .int .i64 0, .string ⟨#[]⟩], .int .i64 4]) (by simp [results, Tryz.results187, go_sem]) rfl (unpackPost_no HU.out (by first | exact (Below.refl _ _).alloc (Nat.le_refl _) _ | exact ((Below.refl _ _).alloc (Nat.le_refl _) _).drew))

set_option maxHeartbeats 4000000 in
theorem unpack_b (s : ByteArray) (w : World) (h : s.size = 512) (hp : hasPre s ⟨#[82, 66]⟩ = false) : Calls Tryz.prog 187 #[.string s] w (UnpackPost s w) := by
  have q : ((s.size : Int) != 512) = false := by simp; omega
  have HU := Lib.hid (unpB_pre hp)
  have HP := Lib.hid fun W => hasPrefix_any s ⟨#[82, 66]⟩ W (by omega) (by rw [h]; decide)
  rw [hp] at HP
  clear h hp
  go_enter Tryz.func187, Tryz.ntmps187
  go_wp2_with (first | (go_at_call 185; refine (HP.out _).mono ?_; rintro e w' ⟨rfl, rfl⟩) | fail)
  exact bodyPost_ret (v := .tuple #[.agg #[.int .i64 0, .int .i64 0, .int .i64 0, .string ⟨#[]⟩], .int .i64 4]) (by simp [results, Tryz.results187, go_sem]) rfl (unpackPost_no HU.out (by first | exact (Below.refl _ _).alloc (Nat.le_refl _) _ | exact ((Below.refl _ _).alloc (Nat.le_refl _) _).drew))

theorem RowAt.far {w : World} (h : RowAt w) {p : Addr} (hp : 0 ≠ p.block) (u : Value) : RowAt (w.setCell p u) := fun k hk => (World.cell?_of_block (Below.heap_setCell w p u _ hp)).trans (h k hk)
theorem tri_hid {a b c : Prop} (h : a ∨ b ∨ c) : Hid a ∨ Hid b ∨ Hid c := h

set_option maxHeartbeats 4000000 in
theorem unpack_c (s : ByteArray) (w : World) (hr : RowAt w) (h : s.size = 512) (hp : hasPre s ⟨#[82, 66]⟩ = true) : Calls Tryz.prog 187 #[.string s] w (UnpackPost s w) := by
  have q : ((s.size : Int) != 512) = false := by simp; omega
  have HP := Lib.hid fun W => hasPrefix_any s ⟨#[82, 66]⟩ W (by omega) (by rw [h]; decide)
  rw [hp] at HP
  have HA1 := fun W => at_any s 2 1 W (by omega) (by decide) (by decide) (by omega)
  have HA2 := fun W => at_any s 6 4 W (by omega) (by decide) (by decide) (by omega)
  have HA3 := fun W => at_any s 10 8 W (by omega) (by decide) (by decide) (by omega)
  have HA4 := fun W => at_any s 4 2 W (by omega) (by decide) (by decide) (by omega)
  have l1 := numAt_lt s 2 1
  have l2 := numAt_lt s 6 4
  have l4 := numAt_lt s 4 2
  rw [IntWalk.wrap64_in _ ⟨by omega, by omega⟩] at HA1 HA2 HA4
  have hbk := Bk.new w 118 #[.int .i64 0, .int .i64 0, .int .i64 0, .string ⟨#[]⟩]
  have hb0 : Below w.heap.size w (w.alloc (.cells #[.int .i64 0, .int .i64 0, .int .i64 0, .string ⟨#[]⟩] 118)) := (Below.refl _ _).alloc (Nat.le_refl _) _
  have hrow0 := hr.below hb0
  obtain ⟨b, hbd⟩ : ∃ b : ByteArray, numAt s 4 2 ≤ 488 ∧ b = s.extract 24 (24 + numAt s 4 2) ∨ 488 < numAt s 4 2 ∧ b = ⟨#[]⟩ := by
    by_cases hl : numAt s 4 2 ≤ 488
    · exact ⟨_, .inl ⟨hl, rfl⟩⟩
    · exact ⟨_, .inr ⟨by omega, rfl⟩⟩
  obtain ⟨tz, htz⟩ : ∃ tz : Int, tz = wrap64 (numAt s 10 8) := ⟨_, rfl⟩
  rw [← htz] at HA3
  have HU := unpB_again htz hbd
  have HPK := fun (W : World) (hW : RowAt W) => pack_any (numAt s 2 1) (numAt s 6 4) tz b W hW
  have hpk : ∃ (ps : ByteArray) (pe : Int), packS (numAt s 2 1) (numAt s 6 4) tz b = ps ∧ packE (numAt s 2 1) (numAt s 6 4) tz b = pe := ⟨_, _, rfl, rfl⟩
  obtain ⟨ps, pe, hps, hpe⟩ := hpk
  unfold PackPost at HPK
  rw [hps, hpe] at HPK HU
  clear hps hpe htz
  generalize numAt s 2 1 = k at *
  generalize numAt s 6 4 = n at *
  generalize numAt s 4 2 = l at *
  have HB1 := Lib.hid (show ∀ W, Calls Tryz.prog 186 #[.string s, .int .i64 2, .int .i64 1] W (TellsI (k : Int) W) from HA1)
  have HB2 := Lib.hid (show ∀ W, Calls Tryz.prog 186 #[.string s, .int .i64 6, .int .i64 4] W (TellsI (n : Int) W) from HA2)
  have HB3 := Lib.hid (show ∀ W, Calls Tryz.prog 186 #[.string s, .int .i64 10, .int .i64 8] W (TellsI tz W) from HA3)
  have HB4 := Lib.hid (show ∀ W, Calls Tryz.prog 186 #[.string s, .int .i64 4, .int .i64 2] W (TellsI (l : Int) W) from HA4)
  have HK := Lib.hid HPK
  have HUU := Lib.hid HU
  have HBK := Lib.hid hbk
  have HB0 := Lib.hid hb0
  have HRW := Lib.hid hrow0
  clear HA1 HA2 HA3 HA4 HPK hbk hb0 hrow0 hp HU l1 l2 l4 hr
  have hl0 : (0 : Int) ≤ 24 + (l : Int) := by omega
  have hlq : (decide ((l : Int) ≤ 488) = true ∧ l ≤ 488 ∧ b = s.extract 24 (24 + l)) ∨ (decide ((l : Int) ≤ 488) = false ∧ 488 < l ∧ b = ⟨#[]⟩) := by
    rcases hbd with ⟨h1, h2⟩ | ⟨h1, h2⟩
    · exact .inl ⟨by simp; omega, h1, h2⟩
    · exact .inr ⟨by simp; omega, h1, h2⟩
  clear hbd
  have hcs : (pe = 4 ∧ Hid (unpB s = false)) ∨ (pe = 0 ∧ (ps.toList == s.toList) = false ∧ Hid (unpB s = false)) ∨ (pe = 0 ∧ ps = s ∧ Hid (IsPage s (k : Int) (n : Int) tz b)) := by
    rcases HUU.out with ⟨h1, h2, h3⟩ | ⟨h1, h2, h3⟩ | ⟨h1, h2⟩
    · exact .inr (.inr ⟨h1, h2, h3⟩)
    · exact .inr (.inl ⟨h1, toList_ne h2, h3⟩)
    · exact .inl ⟨h1, h2⟩
  clear HUU
  rcases hcs with ⟨rfl, HUN⟩ | ⟨rfl, qps, HUN⟩ | ⟨rfl, rfl, HPG⟩
  all_goals rcases hlq with ⟨ql, hl, rfl⟩ | ⟨ql, hl, rfl⟩
  all_goals
    go_enter Tryz.func187, Tryz.ntmps187
    go_wp2_with (first | (go_at_call 185; refine (HP.out _).mono ?_; rintro e w' ⟨rfl, rfl⟩) | fail)
    refine (HB1.out _).mono ?_
    rintro e w1 ⟨rfl, hb1⟩
    have X1 := Lib.hid (HB0.out.trans (hb1.mono HB0.out.size))
    have K1 := Lib.hid (bk_below HBK.out hb1)
    have R1 := Lib.hid (HRW.out.below hb1)
    clear hb1
    go_wp2_with fail
    refine (HB2.out _).mono ?_
    rintro e w2 ⟨rfl, hb2⟩
    have X2 := Lib.hid (X1.out.trans (hb2.mono X1.out.size))
    have K2 := Lib.hid (bk_below K1.out hb2)
    have R2 := Lib.hid (R1.out.below hb2)
    clear hb2
    go_wp2_with fail
    refine (HB3.out _).mono ?_
    rintro e w3 ⟨rfl, hb3⟩
    have X3 := Lib.hid (X2.out.trans (hb3.mono X2.out.size))
    have K3 := Lib.hid (bk_below K2.out hb3)
    have R3 := Lib.hid (R2.out.below hb3)
    clear hb3
    go_wp2_with fail
    refine (HB4.out _).mono ?_
    rintro e w4 ⟨rfl, hb4⟩
    have hn3 := Bk.new w3 118 #[.int .i64 (k : Int), .int .i64 (n : Int), .int .i64 tz, .string ⟨#[]⟩]
    have X4 := Lib.hid ((X3.out.alloc X3.out.size (.cells #[.int .i64 (k : Int), .int .i64 (n : Int), .int .i64 tz, .string ⟨#[]⟩] 118)).trans (hb4.mono (by have := X3.out.size; simp; omega)))
    have K4 := Lib.hid (bk_below (K3.out.alloc _) hb4)
    have N4 := Lib.hid (bk_below hn3 hb4)
    have R4 := Lib.hid ((R3.out.below ((Below.refl _ _).alloc (Nat.le_refl _) _)).below hb4)
    obtain ⟨d0, d1, d2, d3⟩ := N4.out.four
    have f3 := N4.out.frozen 3
    clear hb4 hn3
    have hw3 := X3.out.size
    have hne : w.heap.size < w3.heap.size := K3.out.lt
    have hrl : 0 < w3.heap.size := R3.out.lt
    go_wp2_with fail
    first
      | (refine (HK.out _ (R4.out.far (by simp; omega) _)).mono ?_
         rintro e w6 ⟨rfl, hb6⟩
         have X6 := Lib.hid ((X4.out.setCell (p := ⟨w3.heap.size, 3, none⟩) (by simp; omega) _).trans (hb6.mono (by have := X4.out.size; simp [World.setCell]; omega)))
         have K6 := Lib.hid (bk_below (K4.out.far (p := ⟨w3.heap.size, 3, none⟩) (by simp; omega) _) hb6)
         have N6 := Lib.hid (bk_below (N4.out.put 3 _) hb6))
      | (refine (HK.out _ R4.out).mono ?_
         rintro e w6 ⟨rfl, hb6⟩
         have X6 := Lib.hid (X4.out.trans (hb6.mono X4.out.size))
         have K6 := Lib.hid (bk_below K4.out hb6)
         have N6 := Lib.hid (bk_below N4.out hb6))
      | fail
    clear hb6 d0 d1 d2 d3 f3
    obtain ⟨c0, c1, c2, c3⟩ := K6.out.four
    have g0 := K6.out.frozen 0
    have g1 := K6.out.frozen 1
    have g2 := K6.out.frozen 2
    have g3 := K6.out.frozen 3
    obtain ⟨d0, d1, d2, d3⟩ := N6.out.four
    go_wp2_with fail
    first
      | exact bodyPost_ret (v := .tuple #[.agg #[.int .i64 0, .int .i64 0, .int .i64 0, .string ⟨#[]⟩], .int .i64 4]) (by simp [results, Tryz.results187, go_sem, *]) rfl (unpackPost_no HUN.out (by repeat (first | exact X6.out | refine Below.setCell ?_ (by simp) _)))
      | exact bodyPost_ret (v := .tuple #[.agg #[.int .i64 (k : Int), .int .i64 (n : Int), .int .i64 tz, .string _], .int .i64 0]) (by simp [results, Tryz.results187, go_sem, *]) rfl (unpackPost_of HPG.out (by repeat (first | exact X6.out | refine Below.setCell ?_ (by simp) _)))
      | (trace_state; fail)

theorem unpack_any (s : ByteArray) (w : World) (hr : RowAt w) : Calls Tryz.prog 187 #[.string s] w (UnpackPost s w) := by
  by_cases h : s.size = 512
  · cases hp : hasPre s ⟨#[82, 66]⟩ with
    | false => exact unpack_b s w h hp
    | true => exact unpack_c s w hr h hp
  · exact unpack_a s w h
end Go.Proofs.YtkkgiajjdcpicaaGreatDoor

import Derived.Test.YtjbcbnemdhbhbaaGreatDoorK8
import Derived.Test.YtjbcbnemdhbhbaaGreatDoorK7
namespace Go.Proofs.YtjbcbnemdhbhbaaGreatDoor
open Go.RowKit
open Go.PlainAid
set_option maxRecDepth 100000
set_option linter.unusedVariables false
set_option linter.unusedSimpArgs false
def nwI (a b : ByteArray) : Bool := unmB b && (!unmB a || decide (unmT a < unmT b))
def nwS (a b : ByteArray) : ByteArray := if nwI a b then b else a
def nwN (a b : ByteArray) : Int := if nwI a b then 1 else 0
def NewestPost (a b : ByteArray) (w : World) (e : Ending) (w' : World) : Prop :=
  e = .returned (.tuple #[metaV (unmT (nwS a b)) (unmR (nwS a b)) (unmF (nwS a b)) (unmP (nwS a b)) (unmL (nwS a b)), .int .i64 (nwN a b), .int .i64 (unmE (nwS a b))]) ∧ Below w.heap.size w w'
theorem unmE_cases (s : ByteArray) : (unmE s = 0 ∧ unmB s = true) ∨ (unmE s = 4 ∧ unmB s = false) := by
  cases h : unmB s with
  | true => exact .inl ⟨by unfold unmE; rw [h]; rfl, rfl⟩
  | false => exact .inr ⟨by unfold unmE; rw [h]; rfl, rfl⟩
def NwA (a b : ByteArray) (t r f p l : Int) : Prop := ∀ w w', Below w.heap.size w w' → NewestPost a b w (.returned (.tuple #[metaV t r f p l, .int .i64 0, .int .i64 0])) w'
def NwB (a b : ByteArray) (t r f p l : Int) : Prop := ∀ w w', Below w.heap.size w w' → NewestPost a b w (.returned (.tuple #[metaV t r f p l, .int .i64 1, .int .i64 0])) w'
def NwN (a b : ByteArray) : Prop := ∀ w w', Below w.heap.size w w' → NewestPost a b w (.returned (.tuple #[metaV 0 0 0 0 0, .int .i64 0, .int .i64 4])) w'
theorem nwA_of {a b : ByteArray} (h : nwI a b = false) (he : unmE a = 0) : NwA a b (unmT a) (unmR a) (unmF a) (unmP a) (unmL a) := by
  intro w w' hb
  unfold NewestPost nwS nwN
  rw [h]
  simp only [Bool.false_eq_true, if_false]
  rw [he]
  exact ⟨rfl, hb⟩
theorem nwB_of {a b : ByteArray} (h : nwI a b = true) (he : unmE b = 0) : NwB a b (unmT b) (unmR b) (unmF b) (unmP b) (unmL b) := by
  intro w w' hb
  unfold NewestPost nwS nwN
  rw [h]
  simp only [if_true]
  rw [he]
  exact ⟨rfl, hb⟩
theorem nwN_of {a b : ByteArray} (ha : unmB a = false) (hb : unmB b = false) : NwN a b := by
  intro w w' hbl
  have h : nwI a b = false := by unfold nwI; rw [hb]; rfl
  unfold NewestPost nwS nwN
  rw [h]
  simp only [Bool.false_eq_true, if_false]
  obtain ⟨h1, h2, h3, h4, h5, h6⟩ := unm_no ha
  rw [h1, h2, h3, h4, h5, h6]
  exact ⟨rfl, hbl⟩
theorem nw_cases (a b : ByteArray) : (unmE a = 4 ∧ unmE b = 4 ∧ Hid (NwN a b)) ∨ (unmE a = 4 ∧ unmE b = 0 ∧ Hid (NwB a b (unmT b) (unmR b) (unmF b) (unmP b) (unmL b))) ∨ (unmE a = 0 ∧ unmE b = 4 ∧ Hid (NwA a b (unmT a) (unmR a) (unmF a) (unmP a) (unmL a))) ∨
    (unmE a = 0 ∧ unmE b = 0 ∧ unmT a < unmT b ∧ Hid (NwB a b (unmT b) (unmR b) (unmF b) (unmP b) (unmL b))) ∨ (unmE a = 0 ∧ unmE b = 0 ∧ unmT b ≤ unmT a ∧ Hid (NwA a b (unmT a) (unmR a) (unmF a) (unmP a) (unmL a))) := by
  rcases unmE_cases a with ⟨ea, ha⟩ | ⟨ea, ha⟩ <;> rcases unmE_cases b with ⟨eb, hb⟩ | ⟨eb, hb⟩
  · by_cases ht : unmT a < unmT b
    · exact .inr (.inr (.inr (.inl ⟨ea, eb, ht, nwB_of (by unfold nwI; rw [ha, hb]; simp [ht]) eb⟩)))
    · exact .inr (.inr (.inr (.inr ⟨ea, eb, by omega, nwA_of (by unfold nwI; rw [ha, hb]; simp [ht]) ea⟩)))
  · exact .inr (.inr (.inl ⟨ea, eb, nwA_of (by unfold nwI; rw [hb]; rfl) ea⟩))
  · exact .inr (.inl ⟨ea, eb, nwB_of (by unfold nwI; rw [ha, hb]; rfl) eb⟩)
  · exact .inl ⟨ea, eb, nwN_of ha hb⟩
set_option maxHeartbeats 4000000 in
theorem newest_any (a b : ByteArray) (w : World) (hr : RowAt w) : Calls Tryz.prog 153 #[.string a, .string b] w (NewestPost a b w) := by
  have HU1 := fun (W : World) (hW : RowAt W) => unpackM_any a W hW
  have HU2 := fun (W : World) (hW : RowAt W) => unpackM_any b W hW
  unfold UnpackMPost at HU1 HU2
  have hcs := nw_cases a b
  generalize unmT a = t1 at *
  generalize unmR a = r1 at *
  generalize unmF a = f1 at *
  generalize unmP a = p1 at *
  generalize unmL a = l1 at *
  generalize unmE a = e1 at *
  generalize unmT b = t2 at *
  generalize unmR b = r2 at *
  generalize unmF b = f2 at *
  generalize unmP b = p2 at *
  generalize unmL b = l2 at *
  generalize unmE b = e2 at *
  have hbk := Bk.new w 40 #[.int .i64 0, .int .i64 0, .int .i64 0, .int .i64 0, .int .i64 0]
  have hb0 : Below w.heap.size w (w.alloc (.cells #[.int .i64 0, .int .i64 0, .int .i64 0, .int .i64 0, .int .i64 0] 40)) := (Below.refl _ _).alloc (Nat.le_refl _) _
  have HBK := Lib.hid hbk
  have HB0 := Lib.hid hb0
  have HRW := Lib.hid (hr.below hb0)
  have HV1 := Lib.hid HU1
  have HV2 := Lib.hid HU2
  clear HU1 HU2 hbk hb0 hr
  rcases hcs with ⟨rfl, rfl, HN⟩ | ⟨rfl, rfl, HN⟩ | ⟨rfl, rfl, HN⟩ | ⟨rfl, rfl, ht, HN⟩ | ⟨rfl, rfl, ht, HN⟩
  all_goals
    go_enter Tryz.func153, Tryz.ntmps153
    go_wp2_with fail
    refine (HV1.out _ HRW.out).mono ?_
    rintro e w1 ⟨rfl, hb1⟩
    have X1 := Lib.hid (HB0.out.trans (hb1.mono HB0.out.size))
    have K1 := Lib.hid (bk_below HBK.out hb1)
    have R1 := Lib.hid (HRW.out.below hb1)
    clear hb1
    go_wp2_with fail
    refine (HV2.out _ (R1.out.below ((Below.refl _ _).alloc (Nat.le_refl _) _))).mono ?_
    rintro e w2 ⟨rfl, hb2⟩
    have hn1 := Bk.new w1 40 #[.int .i64 t1, .int .i64 r1, .int .i64 f1, .int .i64 p1, .int .i64 l1]
    have X2 := Lib.hid ((X1.out.alloc X1.out.size (.cells #[.int .i64 t1, .int .i64 r1, .int .i64 f1, .int .i64 p1, .int .i64 l1] 40)).trans (hb2.mono (by have := X1.out.size; simp; omega)))
    have K2 := Lib.hid (bk_below (K1.out.alloc _) hb2)
    have N2 := Lib.hid (bk_below hn1 hb2)
    clear hb2 hn1
    have X3 := Lib.hid (X2.out.alloc X2.out.size (.cells #[.int .i64 t2, .int .i64 r2, .int .i64 f2, .int .i64 p2, .int .i64 l2] 40))
    obtain ⟨c0, c1, c2, c3, c4⟩ := K2.out.five
    have g0 := K2.out.frozen 0
    have g1 := K2.out.frozen 1
    have g2 := K2.out.frozen 2
    have g3 := K2.out.frozen 3
    have g4 := K2.out.frozen 4
    obtain ⟨d0, d1, d2, d3, d4⟩ := N2.out.five
    have hk := K2.out.lt
    have hn := N2.out.lt
    go_wp2_with fail
  · exact bodyPost_ret (v := .tuple #[metaV 0 0 0 0 0, .int .i64 0, .int .i64 4]) (by simp [results, Tryz.results153, go_sem, c0, c1, c2, c3, c4, g0, g1, g2, g3, g4, hk, hn, d0, d1, d2, d3, d4]) rfl (HN.out _ _ (by refine Below.alloc ?_ (by have := X2.out.size; simp; omega) _; repeat (first | exact X2.out | refine Below.setCell ?_ (by simp) _)))
  · exact bodyPost_ret (v := .tuple #[metaV t2 r2 f2 p2 l2, .int .i64 1, .int .i64 0]) (by simp [results, Tryz.results153, go_sem, c0, c1, c2, c3, c4, g0, g1, g2, g3, g4, hk, hn, d0, d1, d2, d3, d4]) rfl (HN.out _ _ (by refine Below.alloc ?_ (by have := X2.out.size; simp; omega) _; repeat (first | exact X2.out | refine Below.setCell ?_ (by simp) _)))
  · exact bodyPost_ret (v := .tuple #[metaV t1 r1 f1 p1 l1, .int .i64 0, .int .i64 0]) (by simp [results, Tryz.results153, go_sem, c0, c1, c2, c3, c4, g0, g1, g2, g3, g4, hk, hn, d0, d1, d2, d3, d4]) rfl (HN.out _ _ (by refine Below.alloc ?_ (by have := X2.out.size; simp; omega) _; repeat (first | exact X2.out | refine Below.setCell ?_ (by simp) _)))
  · exact bodyPost_ret (v := .tuple #[metaV t2 r2 f2 p2 l2, .int .i64 1, .int .i64 0]) (by simp [results, Tryz.results153, go_sem, c0, c1, c2, c3, c4, g0, g1, g2, g3, g4, hk, hn, d0, d1, d2, d3, d4]) rfl (HN.out _ _ (by refine Below.alloc ?_ (by have := X2.out.size; simp; omega) _; repeat (first | exact X2.out | refine Below.setCell ?_ (by simp) _)))
  · exact bodyPost_ret (v := .tuple #[metaV t1 r1 f1 p1 l1, .int .i64 0, .int .i64 0]) (by simp [results, Tryz.results153, go_sem, c0, c1, c2, c3, c4, g0, g1, g2, g3, g4, hk, hn, d0, d1, d2, d3, d4]) rfl (HN.out _ _ (by refine Below.alloc ?_ (by have := X2.out.size; simp; omega) _; repeat (first | exact X2.out | refine Below.setCell ?_ (by simp) _)))
end Go.Proofs.YtjbcbnemdhbhbaaGreatDoor
namespace Go.Proofs.YtjbcbnemdhbhbaaGreatDoor
open Go.RowKit
open Go.PlainAid
set_option maxRecDepth 100000
set_option linter.unusedVariables false
set_option linter.unusedSimpArgs false
structure MetaV where
  t : Int
  r : Int
  f : Int
  p : Int
  l : Int
def MetaV.cells (m : MetaV) : Array Value := #[.int .i64 m.t, .int .i64 m.r, .int .i64 m.f, .int .i64 m.p, .int .i64 m.l]
def MetaV.ok (m : MetaV) : Bool := rightM m.t m.r m.f m.p m.l
def MetaV.bytes (m : MetaV) : ByteArray := metaS m.t m.r m.f m.p m.l
def MetaV.zero : MetaV := ⟨0, 0, 0, 0, 0⟩
def unmV (s : ByteArray) : MetaV := ⟨unmT s, unmR s, unmF s, unmP s, unmL s⟩
theorem unmV_of {m : MetaV} (h : m.ok = true) : unmB m.bytes = true ∧ unmV m.bytes = m := by
  have hm : IsMeta m.bytes m.t m.r m.f m.p m.l := ⟨h, rfl⟩
  obtain ⟨h1, h2, h3, h4, h5, h6⟩ := unm_of hm
  refine ⟨unmB_of hm, ?_⟩
  unfold unmV
  rw [h1, h2, h3, h4, h5]
theorem MetaV.size {m : MetaV} (h : m.ok = true) : m.bytes.size = 128 := by
  unfold MetaV.bytes
  rw [metaS_right h, size_list, metaL_len]
structure PgS where
  m : MetaV
  o : MetaV
  both : Bool
  sealed : Option MetaV
  log : List Int
abbrev pgCells (g : Nat) (m o : MetaV) (both : Bool) (sl lg : Value) : Array Value :=
  #[.pointer (some ⟨g, 0, none⟩), .int .i64 m.t, .int .i64 m.r, .int .i64 m.f, .int .i64 m.p, .int .i64 m.l, .int .i64 o.t, .int .i64 o.r, .int .i64 o.f, .int .i64 o.p, .int .i64 o.l, .bool both, sl, lg]
def SealAt (w : World) (T : List Nat) (sl : Value) : Option MetaV → Prop
  | none => sl = .pointer none
  | some s => ∃ b, b ∈ T ∧ sl = .pointer (some ⟨b, 0, none⟩) ∧ Bk w b 40 s.cells
structure PgAt (w : World) (q : Nat) (T : List Nat) (g : Nat) (P : PgS) (sl lg : Value) : Prop where
  cells : Bk w q 188 (pgCells g P.m P.o P.both sl lg)
  sld : SealAt w T sl P.sealed
  log : w.ownsRow 0 3 1 lg P.log.length (P.log.map (Value.int .i64))
  inT : q ∈ T ∧ ∀ b, lg.ownBlock = some b → b ∈ T
  old : ∀ b ∈ T, b < w.heap.size
def Pg (w : World) (q : Nat) (T : List Nat) (g : Nat) (P : PgS) : Prop := ∃ sl lg, PgAt w q T g P sl lg
theorem PgAt.off {w w' : World} {q : Nat} {T U : List Nat} {g : Nat} {P : PgS} {sl lg : Value} (h : PgAt w q T g P sl lg) (ho : Off U w w') (hU : ∀ b ∈ T, b ∉ U) : PgAt w' q T g P sl lg := by
  refine ⟨ho.bk h.cells (hU _ h.inT.1), ?_, ho.own h.log (fun b hb => hU _ (h.inT.2 b hb)), h.inT, fun b hb => Nat.lt_of_lt_of_le (h.old b hb) ho.size⟩
  have hs := h.sld
  unfold SealAt at *
  split at hs
  · exact hs
  · obtain ⟨b, h1, h2, h3⟩ := hs
    exact ⟨b, h1, h2, ho.bk h3 (hU _ h1)⟩
theorem Pg.off {w w' : World} {q : Nat} {T U : List Nat} {g : Nat} {P : PgS} (h : Pg w q T g P) (ho : Off U w w') (hU : ∀ b ∈ T, b ∉ U) : Pg w' q T g P := by
  obtain ⟨sl, lg, h⟩ := h
  exact ⟨sl, lg, h.off ho hU⟩
theorem Pg.old {w : World} {q : Nat} {T : List Nat} {g : Nat} {P : PgS} (h : Pg w q T g P) : ∀ b ∈ T, b < w.heap.size := by
  obtain ⟨sl, lg, h⟩ := h
  exact h.old
theorem Pg.below {w w' : World} {q : Nat} {T : List Nat} {g : Nat} {P : PgS} (h : Pg w q T g P) (hb : Below w.heap.size w w') : Pg w' q T g P := h.off (Off.of_below hb []) (fun _ _ => List.not_mem_nil)
theorem RowAt.off {S : List Nat} {w w' : World} (h : RowAt w) (ho : Off S w w') (hS : 0 ∉ S) : RowAt w' := fun k hk => (ho.cell (p := ⟨0, k, none⟩) h.lt hS).trans (h k hk)
theorem RowAt.fresh {S S' : List Nat} {w : World} (h : RowAt w) (hf : Fresh w S S') (hS : 0 ∉ S) : 0 ∉ S' := fun hx => by
  rcases hf _ hx with h1 | h1
  · exact hS h1
  · have := h.lt; omega
def formatD (D : DevS) (limit : Int) : DevS × Int :=
  if 4 ≤ limit ∧ limit ≤ 512 ∧ 4 * limit ≤ (D.sec.length : Int) then
    if (D.write 0 (metaS 0 0 0 1 limit)).2 ≠ 0 then D.write 0 (metaS 0 0 0 1 limit)
    else if ((D.write 0 (metaS 0 0 0 1 limit)).1.write 1 (metaS 1 0 0 1 limit)).2 ≠ 0 then (D.write 0 (metaS 0 0 0 1 limit)).1.write 1 (metaS 1 0 0 1 limit)
    else ((D.write 0 (metaS 0 0 0 1 limit)).1.write 1 (metaS 1 0 0 1 limit)).1.sync
  else (D, 1)
theorem format_nil (limit : Int) (w : World) : Calls Tryz.prog 98 #[.pointer none, .int .i64 limit] w fun e w' => e = .returned (.int .i64 1) ∧ w = w' := by
  have hq : decide (limit < 4) = true ∨ (decide (limit < 4) = false ∧ decide (512 < limit) = true) ∨ (decide (limit < 4) = false ∧ decide (512 < limit) = false ∧ 4 ≤ limit ∧ limit ≤ 512 ∧ decide ((0 : Int) < 4 * limit) = true) := by simp; omega
  rcases hq with q0 | ⟨q0, q1⟩ | ⟨q0, q1, q2, q3, q4⟩
  all_goals
    go_enter Tryz.func98, Tryz.ntmps98
    go_wp2_with (first
      | (go_at_call 151; refine (dsize_nil _).mono ?_; rintro e w2 ⟨rfl, rfl⟩)
      | fail)
    go_ret
    exact ⟨rfl, rfl⟩
theorem stepped_steps (D : DevS) : D.stepped.steps ≤ D.steps + 1 := by
  unfold DevS.stepped
  split
  · omega
  · exact Int.le_refl _
theorem write_steps (D : DevS) (i : Int) (s : ByteArray) : (D.write i s).1.steps ≤ D.steps + 1 := by
  unfold DevS.write
  have := stepped_steps D
  split
  · split
    · exact this
    · exact this
  · show D.steps ≤ _; omega
theorem dwrite_from {g : Nat} {S : List Nat} {D : DevS} {w : World} (hd : Dev w g S D) (i : Int) (s : ByteArray) (D' : DevS) (r : Int) (hb : D.steps ≤ 1000000000) (hsz : s.size ≤ maxLen) (h : D.write i s = (D', r)) :
    Calls Tryz.prog 118 #[ptr g, .int .i64 i, .string s] w (DevPost g S D' (.int .i64 r) w) := by
  have h1 := dwrite_any hd i s hb hsz
  rw [h] at h1
  exact h1
theorem dsync_from {g : Nat} {S : List Nat} {D : DevS} {w : World} (hd : Dev w g S D) (D' : DevS) (r : Int) (hb : D.steps ≤ 1000000000) (h : D.sync = (D', r)) :
    Calls Tryz.prog 116 #[ptr g] w (DevPost g S D' (.int .i64 r) w) := by
  have h1 := dsync_any hd hb
  rw [h] at h1
  exact h1
theorem meta_size (t r f p l : Int) : (metaS t r f p l).size ≤ maxLen := by
  cases h : rightM t r f p l with
  | true => rw [metaS_right h, size_list, metaL_len]; decide
  | false => rw [metaS_wrong h]; decide
def SaysS (s : ByteArray) (w : World) (e : Ending) (w' : World) : Prop := ∃ x : Int, e = .returned (.tuple #[.string s, .int .i64 x]) ∧ Below w.heap.size w w'
theorem packM_s (t r f p l : Int) (s : ByteArray) (hs : s = metaS t r f p l) (w : World) (hrow : RowAt w) : Calls Tryz.prog 117 #[.agg #[.int .i64 t, .int .i64 r, .int .i64 f, .int .i64 p, .int .i64 l]] w (SaysS s w) := by
  refine (packM_any t r f p l w hrow).mono ?_
  rintro e w' ⟨rfl, hb⟩
  exact ⟨_, by rw [hs], hb⟩
theorem dev_then {g : Nat} {S S1 : List Nat} {D' : DevS} {w w1 w2 : World} (h1 : Off S w w1) (f1 : Fresh w S S1) (h : ∃ S', Dev w2 g S' D' ∧ Off S1 w1 w2 ∧ Fresh w1 S1 S') : ∃ S', Dev w2 g S' D' ∧ Off S w w2 ∧ Fresh w S S' := by
  obtain ⟨S', a, b, c⟩ := h
  exact ⟨S', a, h1.fresh b f1, f1.trans c h1.size⟩
set_option maxHeartbeats 4000000 in
theorem format_ok {g : Nat} {S : List Nat} {D : DevS} {w : World} (hd : Dev w g S D) (limit : Int) (hr : RowAt w) (hS : 0 ∉ S) (hb : D.steps ≤ 999999990) (h : 4 ≤ limit ∧ limit ≤ 512 ∧ 4 * limit ≤ (D.sec.length : Int)) :
    Calls Tryz.prog 98 #[ptr g, .int .i64 limit] w (DevPost g S (formatD D limit).1 (.int .i64 (formatD D limit).2) w) := by
  have HD := Lib.hid hd
  have HR := Lib.hid hr
  have HS := Lib.hid hS
  have q0 : decide (limit < 4) = false := by simp; omega
  have q1 : decide ((512 : Int) < limit) = false := by simp; omega
  have q2 : decide ((D.sec.length : Int) < 4 * limit) = false := by simp; omega
  have q3 : 4 ≤ limit := h.1
  have q4 : limit ≤ 512 := h.2.1
  obtain ⟨s0, hs0⟩ : ∃ s0, s0 = metaS 0 0 0 1 limit := ⟨_, rfl⟩
  obtain ⟨s1, hs1⟩ : ∃ s1, s1 = metaS 1 0 0 1 limit := ⟨_, rfl⟩
  have HP0 : Hid (∀ W, RowAt W → Calls Tryz.prog 117 #[.agg #[.int .i64 0, .int .i64 0, .int .i64 0, .int .i64 1, .int .i64 limit]] W (SaysS s0 W)) := fun W hW => packM_s 0 0 0 1 limit s0 hs0 W hW
  have HP1 : Hid (∀ W, RowAt W → Calls Tryz.prog 117 #[.agg #[.int .i64 1, .int .i64 0, .int .i64 0, .int .i64 1, .int .i64 limit]] W (SaysS s1 W)) := fun W hW => packM_s 1 0 0 1 limit s1 hs1 W hW
  have z0 : s0.size ≤ maxLen := by rw [hs0]; exact meta_size _ _ _ _ _
  have z1 : s1.size ≤ maxLen := by rw [hs1]; exact meta_size _ _ _ _ _
  have Z0 := Lib.hid z0
  have Z1 := Lib.hid z1
  obtain ⟨D1, r1, h1⟩ : ∃ D1 r1, D.write 0 s0 = (D1, r1) := ⟨_, _, rfl⟩
  obtain ⟨D2, r2, h2⟩ : ∃ D2 r2, D1.write 1 s1 = (D2, r2) := ⟨_, _, rfl⟩
  have b1 : D1.steps ≤ D.steps + 1 := by have := write_steps D 0 s0; rw [h1] at this; exact this
  have b2 : D2.steps ≤ D1.steps + 1 := by have := write_steps D1 1 s1; rw [h2] at this; exact this
  have HB : Hid (D.steps ≤ 1000000000 ∧ D1.steps ≤ 1000000000 ∧ D2.steps ≤ 1000000000) := ⟨by omega, by omega, by omega⟩
  have HF : Hid (formatD D limit = if r1 ≠ 0 then (D1, r1) else if r2 ≠ 0 then (D2, r2) else D2.sync) := show _ = _ by
    unfold formatD
    rw [if_pos h, ← hs0, ← hs1, h1]
    simp only
    rw [h2]
  have H1 := Lib.hid h1
  have H2 := Lib.hid h2
  have hc : ((r1 != 0) = true ∧ Hid (formatD D limit = (D1, r1))) ∨ ((r1 != 0) = false ∧ (r2 != 0) = true ∧ Hid (formatD D limit = (D2, r2))) ∨ ((r1 != 0) = false ∧ (r2 != 0) = false ∧ Hid (formatD D limit = D2.sync)) := by
    have hf := HF.out
    by_cases e1 : r1 = 0
    · by_cases e2 : r2 = 0
      · refine .inr (.inr ⟨by simp [e1], by simp [e2], show _ = _ by rw [hf, if_neg (by simp [e1]), if_neg (by simp [e2])]⟩)
      · refine .inr (.inl ⟨by simp [e1], by simp [e2], show _ = _ by rw [hf, if_neg (by simp [e1]), if_pos e2]⟩)
    · exact .inl ⟨by simp [e1], show _ = _ by rw [hf, if_pos e1]⟩
  clear hd hr hS hb h hs0 hs1 z0 z1 h1 h2 b1 b2
  rcases hc with ⟨c1, HF2⟩ | ⟨c1, c2, HF2⟩ | ⟨c1, c2, HF2⟩
  all_goals
    go_enter Tryz.func98, Tryz.ntmps98
    go_wp2_with (first
      | (go_at_call 151; refine (dsize_any HD.out).mono ?_; rintro e w2 ⟨rfl, rfl⟩)
      | fail)
    refine wp_loop_rounds 3 ?_
    rw [rounds_succ]
    go_wp2_with fail
    (go_at_call 117)
    refine (HP0.out _ HR.out).mono ?_
    rintro e w1 ⟨x0, rfl, hb1⟩
    have HB1 := Lib.hid hb1
    have HD1 := Lib.hid (HD.out.below hb1)
    have HR1 := Lib.hid (HR.out.below hb1)
    clear hb1
    go_wp2_with fail
    (go_at_call 118)
    refine (dwrite_from HD1.out 0 s0 D1 r1 HB.out.1 Z0.out H1.out).mono ?_
    rintro e w2 ⟨rfl, hp2⟩
    have HQ2 := Lib.hid (dev_then (Off.of_below HB1.out S) (Fresh.refl _ _) hp2)
    have HR2 : Hid (RowAt w2) := by
      obtain ⟨S', p1, p2, p3⟩ := hp2
      exact HR1.out.off p2 HS.out
    clear hp2
    go_wp2_with fail
  · go_ret
    exact devPost_of (by rw [HF2.out]) (by rw [HF2.out]; rfl) HQ2.out
  · obtain ⟨S2, g1, g2, g3⟩ := HQ2.out
    have HD2 := Lib.hid g1
    have HO2 := Lib.hid g2
    have HF3 := Lib.hid g3
    have HRS : Hid (0 ∉ S2) := HR.out.fresh g3 HS.out
    clear g1 g2 g3
    rw [rounds_succ]
    go_wp2_with fail
    (go_at_call 117)
    refine (HP1.out _ HR2.out).mono ?_
    rintro e w3 ⟨x1, rfl, hb3⟩
    have HB3 := Lib.hid hb3
    have HD3 := Lib.hid (HD2.out.below hb3)
    have HR3 := Lib.hid (HR2.out.below hb3)
    clear hb3
    go_wp2_with fail
    (go_at_call 118)
    refine (dwrite_from HD3.out 1 s1 D2 r2 HB.out.2.1 Z1.out H2.out).mono ?_
    rintro e w4 ⟨rfl, hp4⟩
    have HQ4 := Lib.hid (dev_then (Off.of_below HB3.out S2) (Fresh.refl _ _) hp4)
    clear hp4
    go_wp2_with fail
    go_ret
    exact devPost_of (by rw [HF2.out]) (by rw [HF2.out]; rfl) (dev_then HO2.out HF3.out HQ4.out)
  · obtain ⟨S2, g1, g2, g3⟩ := HQ2.out
    have HD2 := Lib.hid g1
    have HO2 := Lib.hid g2
    have HF3 := Lib.hid g3
    have HRS : Hid (0 ∉ S2) := HR.out.fresh g3 HS.out
    clear g1 g2 g3
    rw [rounds_succ]
    go_wp2_with fail
    (go_at_call 117)
    refine (HP1.out _ HR2.out).mono ?_
    rintro e w3 ⟨x1, rfl, hb3⟩
    have HB3 := Lib.hid hb3
    have HD3 := Lib.hid (HD2.out.below hb3)
    have HR3 := Lib.hid (HR2.out.below hb3)
    clear hb3
    go_wp2_with fail
    (go_at_call 118)
    refine (dwrite_from HD3.out 1 s1 D2 r2 HB.out.2.1 Z1.out H2.out).mono ?_
    rintro e w4 ⟨rfl, hp4⟩
    have HQ4 := Lib.hid (dev_then (Off.of_below HB3.out S2) (Fresh.refl _ _) hp4)
    clear hp4
    go_wp2_with fail
    rw [rounds_succ]
    go_wp2_with fail
    obtain ⟨S4, g1, g2, g3⟩ := HQ4.out
    have HD4 := Lib.hid g1
    have HO4 := Lib.hid (HO2.out.fresh g2 HF3.out)
    have HF4 := Lib.hid (HF3.out.trans g3 HO2.out.size)
    clear g1 g2 g3
    (go_at_call 116)
    refine (dsync_any HD4.out HB.out.2.2).mono ?_
    rintro e w5 ⟨rfl, hp5⟩
    have HQ5 := Lib.hid (dev_then HO4.out HF4.out hp5)
    clear hp5
    go_wp2_with fail
    go_ret
    exact devPost_of (by rw [HF2.out]) (by rw [HF2.out]; rfl) HQ5.out
end Go.Proofs.YtjbcbnemdhbhbaaGreatDoor

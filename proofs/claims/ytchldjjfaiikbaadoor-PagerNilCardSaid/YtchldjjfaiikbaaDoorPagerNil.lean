/- PagerNil: the walk. -/
import Derived.Test.YtchldjjfaiikbaaDoorPagerAwake
namespace Go.Proofs.YtchldjjfaiikbaaDoor
open Go.RowKit
open Go.PlainAid
set_option maxRecDepth 100000
set_option linter.unusedVariables false
set_option linter.unusedSimpArgs false

def NilP (w : World) (e : Ending) (w' : World) : Prop := e = .returned (.int .i64 2) ∧ Below w.heap.size w w'
theorem pwrite_nil (k n t : Int) (b : ByteArray) (w : World) : Calls Tryd.prog 17 #[.pointer none, .agg #[.int .i64 k, .int .i64 n, .int .i64 t, .string b]] w (NilP w) := by
  go_enter Tryd.func17, Tryd.ntmps17
  go_wp2_with fail
  go_ret
  exact ⟨rfl, (Below.refl _ w).alloc (Nat.le_refl _) _⟩
theorem psync_nil (w : World) : Calls Tryd.prog 18 #[.pointer none] w (fun e w' => e = .returned (.int .i64 2) ∧ w = w') := by
  go_enter Tryd.func18, Tryd.ntmps18
  go_wp2_with fail
  go_ret
  exact ⟨rfl, rfl⟩
theorem pseal_nil (t r f p l : Int) (w : World) : Calls Tryd.prog 19 #[.pointer none, .agg #[.int .i64 t, .int .i64 r, .int .i64 f, .int .i64 p, .int .i64 l]] w (NilP w) := by
  go_enter Tryd.func19, Tryd.ntmps19
  go_wp2_with fail
  go_ret
  exact ⟨rfl, (Below.refl _ w).alloc (Nat.le_refl _) _⟩
theorem pdone_nil (w : World) : Calls Tryd.prog 20 #[.pointer none] w (fun e w' => e = .returned (.int .i64 2) ∧ w = w') := by
  go_enter Tryd.func20, Tryd.ntmps20
  go_wp2_with fail
  go_ret
  exact ⟨rfl, rfl⟩
theorem plog_nil (w : World) : Calls Tryd.prog 21 #[.pointer none] w (fun e w' => e = .returned (.slice none 0 0) ∧ w = w') := by
  go_enter Tryd.func21, Tryd.ntmps21
  go_wp2_with fail
  go_ret
  exact ⟨rfl, rfl⟩
theorem pread_nil (n : Int) (w : World) : Calls Tryd.prog 15 #[.pointer none, .int .i64 n] w (fun e w' => e = .returned (.tuple #[.agg #[.int .i64 0, .int .i64 0, .int .i64 0, .string ⟨#[]⟩], .int .i64 2]) ∧ Below w.heap.size w w') := by
  go_enter Tryd.func15, Tryd.ntmps15
  go_wp2_with fail
  exact bodyPost_ret (v := .tuple #[.agg #[.int .i64 0, .int .i64 0, .int .i64 0, .string ⟨#[]⟩], .int .i64 2]) (by simp [results, Tryd.results15, go_sem]) rfl ⟨rfl, (Below.refl _ w).alloc (Nat.le_refl _) _⟩

/-- An act on a file: its fourteen cells. -/
structure PActV where
  kind : Int
  pk : Int
  pn : Int
  pt : Int
  pb : ByteArray
  m : MetaV
  next : Bool
  n : Int
  text : ByteArray
  A : Option Addr
  len : Nat
  cap : Nat
def PActV.cells (x : PActV) : Array Value :=
  #[.int .i64 x.kind, .int .i64 x.pk, .int .i64 x.pn, .int .i64 x.pt, .string x.pb, .int .i64 x.m.t, .int .i64 x.m.r, .int .i64 x.m.f, .int .i64 x.m.p, .int .i64 x.m.l, .bool x.next, .int .i64 x.n, .string x.text, .slice x.A x.len x.cap]
abbrev PActV.val (x : PActV) : Value := .agg x.cells

set_option maxHeartbeats 4000000 in
theorem pagerNil_walk (x : PActV) (w : World) (hr : RowAt w) : Calls Tryd.prog 5 #[x.val] w (Holds w) := by
  have HR := Lib.hid hr
  have HBK : Hid (Bk (w.alloc (.cells x.cells 45)) w.heap.size 45 x.cells) := Bk.new _ _ _
  have HB0 : Hid (Below w.heap.size w (w.alloc (.cells x.cells 45))) := (Below.refl _ w).alloc (Nat.le_refl _) _
  obtain ⟨kind, pk, pn, pt, pb, ⟨mt, mr, mf, mp, ml⟩, next, n, text, A, len, cap⟩ := x
  unfold PActV.val PActV.cells at *
  simp only at *
  clear hr
  go_enter Tryd.func5, Tryd.ntmps5
  go_wp2_with fail
  (go_at_call 7)
  refine (pawake_any _ (HR.out.below HB0.out)).mono ?_
  rintro e w1 ⟨rfl, hb1⟩
  have HK1 := Lib.hid (bk_below HBK.out hb1)
  have HB1 := Lib.hid (HB0.out.trans (hb1.mono HB0.out.size))
  clear hb1
  obtain ⟨c0, c1, c2, c3, c4, c5, c6, c7, c8, c9, c10, c11, c12, c13⟩ := HK1.out.fourteen
  go_wp2_with fail
  (go_at_call 15)
  refine (pread_nil n _).mono ?_
  rintro e w2 ⟨rfl, hb2⟩
  have HK2 := Lib.hid (bk_below HK1.out hb2)
  have HB2 := Lib.hid (HB1.out.trans (hb2.mono HB1.out.size))
  clear hb2 c0 c1 c2 c3 c4 c5 c6 c7 c8 c9 c10 c11 c12 c13
  obtain ⟨c0, c1, c2, c3, c4, c5, c6, c7, c8, c9, c10, c11, c12, c13⟩ := HK2.out.fourteen
  go_wp2_with fail
  (go_at_call 16)
  refine (pother_nil _).mono ?_
  rintro e w3 ⟨rfl, hb3⟩
  have HK3 := Lib.hid (bk_below (HK2.out.alloc (.cells #[.int .i64 0, .int .i64 0, .int .i64 0, .string ⟨#[]⟩] 42)) hb3)
  have HP3 := Lib.hid (bk_below (Bk.new w2 42 #[.int .i64 0, .int .i64 0, .int .i64 0, .string ⟨#[]⟩]) hb3)
  have HB3 := Lib.hid ((below_new HB2.out (.cells #[.int .i64 0, .int .i64 0, .int .i64 0, .string ⟨#[]⟩] 42)).trans (hb3.mono (below_new HB2.out _).size))
  have HK4 := Lib.hid (HK3.out.alloc (.cells #[.int .i64 0, .int .i64 0, .int .i64 0, .int .i64 0, .int .i64 0] 32))
  have HM4 : Hid (Bk (w3.alloc (.cells #[.int .i64 0, .int .i64 0, .int .i64 0, .int .i64 0, .int .i64 0] 32)) w3.heap.size 32 #[.int .i64 0, .int .i64 0, .int .i64 0, .int .i64 0, .int .i64 0]) := Bk.new _ _ _
  have HB4 := Lib.hid (below_new HB3.out (.cells #[.int .i64 0, .int .i64 0, .int .i64 0, .int .i64 0, .int .i64 0] 32))
  clear hb3 c0 c1 c2 c3 c4 c5 c6 c7 c8 c9 c10 c11 c12 c13
  obtain ⟨c0, c1, c2, c3, c4, c5, c6, c7, c8, c9, c10, c11, c12, c13⟩ := HK3.out.fourteen
  obtain ⟨d0, d1, d2, d3⟩ := HP3.out.four
  have l1 := HK3.out.lt
  have l2 := HP3.out.lt
  have ep : ∀ W, (binOp .eql 42 (.agg #[.int .i64 0, .int .i64 0, .int .i64 0, .string ⟨#[]⟩]) (.agg #[.int .i64 0, .int .i64 0, .int .i64 0, .string ⟨#[]⟩])).run Tryd.prog W = .ok (.bool true) W := fun W => by kernel_rfl
  have em : ∀ W, (binOp .eql 32 (.agg #[.int .i64 0, .int .i64 0, .int .i64 0, .int .i64 0, .int .i64 0]) (.agg #[.int .i64 0, .int .i64 0, .int .i64 0, .int .i64 0, .int .i64 0])).run Tryd.prog W = .ok (.bool true) W := fun W => by kernel_rfl
  go_wp2_with fail
  (go_at_call 17)
  refine (pwrite_nil pk pn pt pb _).mono ?_
  rintro e w5 ⟨rfl, hb5⟩
  have HK5 := Lib.hid (bk_below HK4.out hb5)
  have HM5 := Lib.hid (bk_below HM4.out hb5)
  have HB5 := Lib.hid (HB4.out.trans (hb5.mono HB4.out.size))
  clear hb5 c0 c1 c2 c3 c4 c5 c6 c7 c8 c9 c10 c11 c12 c13 d0 d1 d2 d3 l1 l2
  obtain ⟨c0, c1, c2, c3, c4, c5, c6, c7, c8, c9, c10, c11, c12, c13⟩ := HK5.out.fourteen
  go_wp2_with (first
    | (go_at_call 18; refine (psync_nil _).mono ?_; rintro e w6 ⟨rfl, rfl⟩)
    | fail)
  (go_at_call 19)
  refine (pseal_nil mt mr mf mp ml _).mono ?_
  rintro e w6 ⟨rfl, hb6⟩
  have HM6 := Lib.hid (bk_below HM5.out hb6)
  have HB6 := Lib.hid (HB5.out.trans (hb6.mono HB5.out.size))
  clear hb6 c0 c1 c2 c3 c4 c5 c6 c7 c8 c9 c10 c11 c12 c13
  go_wp2_with (first
    | (go_at_call 20; refine (pdone_nil _).mono ?_; rintro e w7 ⟨rfl, rfl⟩)
    | fail)
  (go_at_call 11)
  refine (pmeta_nil _).mono ?_
  rintro e w8 ⟨rfl, hb8⟩
  have HM8 := Lib.hid (bk_below HM6.out hb8)
  have HB8 := Lib.hid (HB6.out.trans (hb8.mono HB6.out.size))
  clear hb8
  obtain ⟨d0, d1, d2, d3, d4⟩ := HM8.out.five
  unfold MetaV.zero
  go_wp2_with (first
    | (go_at_call 21; refine (plog_nil _).mono ?_; rintro e w9 ⟨rfl, rfl⟩)
    | fail)
  go_ret
  exact ⟨rfl, HB8.out⟩
end Go.Proofs.YtchldjjfaiikbaaDoor

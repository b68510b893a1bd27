import Derived.Test.YtjbcbnemdhbhbaaGreatDoorG3
import Derived.Deep.AppendLies
namespace Go.Proofs.YtjbcbnemdhbhbaaGreatDoor
open Go.RowKit
set_option maxRecDepth 100000
set_option linter.unusedVariables false
set_option linter.unusedSimpArgs false
def StAt (s : ByteArray) (p : Nat) (l : List UInt8) : Prop := p + l.length ≤ s.size ∧ (s.data.toList.drop p).take l.length = l
theorem StAt.left {s : ByteArray} {p : Nat} {a b : List UInt8} (h : StAt s p (a ++ b)) : StAt s p a := by
 obtain ⟨h1, h2⟩ := h
 rw [List.length_append] at h1 h2
 refine ⟨by omega, ?_⟩
 have := congrArg (List.take a.length) h2
 rw [List.take_take, Nat.min_eq_left (by omega), List.take_left] at this
 exact this
theorem StAt.right {s : ByteArray} {p : Nat} {a b : List UInt8} (h : StAt s p (a ++ b)) : StAt s (p + a.length) b := by
 obtain ⟨h1, h2⟩ := h
 rw [List.length_append] at h1 h2
 refine ⟨by omega, ?_⟩
 have := congrArg (List.drop a.length) h2
 rw [List.drop_take, List.drop_left, List.drop_drop] at this
 rw [show a.length + b.length - a.length = b.length by omega] at this
 exact this
theorem StAt.num {s : ByteArray} {p n k : Nat} (h : StAt s p (Be.low n k)) (hn : n < 256 ^ k) : numAt s p k = n := by
 obtain ⟨h1, h2⟩ := h
 rw [Be.low_len] at h2
 unfold numAt
 rw [h2, Be.num_low_fit n k hn]
theorem StAt.text {s t : ByteArray} {p : Nat} (h : StAt s p t.data.toList) : s.extract p (p + t.size) = t := by
 obtain ⟨h1, h2⟩ := h
 apply list_eq
 rw [extract_list, show p + t.size - p = t.size by omega]
 exact h2
theorem StAt.of_pre {s : ByteArray} {a b c : List UInt8} (h : s.data.toList = a ++ (b ++ c)) : StAt s a.length b := by
 have hl := congrArg List.length h
 rw [len_size, List.length_append, List.length_append] at hl
 refine ⟨by omega, ?_⟩
 rw [h, List.drop_left, List.take_left]
set_option maxHeartbeats 4000000 in
theorem count_ok (s : ByteArray) (n : Nat) (w : World) (hs : s.size ≤ 1000) (hn : numAt s 0 2 = n) (h2 : 2 * n + 2 ≤ s.size) : Calls Tryz.prog 233 #[.string s] w (TellsI n w) := by
 have H := Lib.hid fun (W : World) => (show Calls Tryz.prog 120 #[.string s, .int .i64 0, .int .i64 2] W (TellsUE n W) by rw [← hn]; exact take_ok s 0 2 W (by omega) (by omega) (by omega) (by omega))
 have hw := wrap_i64 n (by omega)
 have k1 : decide ((s.size : Int) / 2 - 1 < (n : Int)) = false := decide_eq_false (by omega)
 clear hn
 go_enter Tryz.func233, Tryz.ntmps233
 go_wp2_with (first
   | (go_at_call 120; go_must (refine (H.out _).mono ?_); rintro e w1 ⟨rfl, hb1⟩)
   | fail)
 go_ret
 exact ⟨rfl, hb1⟩
def TellsC (c : Ce) (w : World) (e : Ending) (w' : World) : Prop := e = .returned (.tuple #[.agg #[.string c.key, .string c.val, .int .i64 c.over, .int .i64 c.size, .int .i64 c.child], .bool true]) ∧ Below w.heap.size w w'
abbrev czero : Obj := .cells #[.string ⟨#[]⟩, .string ⟨#[]⟩, .int .i64 0, .int .i64 0, .int .i64 0] 170
theorem two_after {w w2 : World} (hb : Below ((w.alloc czero).alloc czero).heap.size ((w.alloc czero).alloc czero) w2) :
   Bk w2 w.heap.size 170 #[.string ⟨#[]⟩, .string ⟨#[]⟩, .int .i64 0, .int .i64 0, .int .i64 0] ∧ Bk w2 (w.heap.size + 1) 170 #[.string ⟨#[]⟩, .string ⟨#[]⟩, .int .i64 0, .int .i64 0, .int .i64 0] ∧ Below w.heap.size w w2 := by
 refine ⟨bk_below ((Bk.new w _ _).alloc _) hb, ?_, (((Below.refl _ w).alloc (Nat.le_refl _) _).alloc (by simp) _).trans (hb.mono (by simp; omega))⟩
 have h := Bk.new (w.alloc czero) 170 #[.string ⟨#[]⟩, .string ⟨#[]⟩, .int .i64 0, .int .i64 0, .int .i64 0]
 rw [show (w.alloc czero).heap.size = w.heap.size + 1 by simp] at h
 exact bk_below h hb
set_option maxHeartbeats 8000000 in
theorem uncell_branch (s : ByteArray) (p : Nat) (c : Ce) (w : World) (hs : s.size ≤ 1000) (hr : Nd.rightBranch c = true) (h : StAt s p (Nd.bytes false c)) : Calls Tryz.prog 261 #[.bool false, .string s, .int .i64 p] w (TellsC c w) := by
 obtain ⟨key, val, over, size, child⟩ := c
 unfold Nd.rightBranch at hr
 simp only [Bool.and_eq_true, decide_eq_true_eq, beq_iff_eq] at hr
 obtain ⟨⟨⟨⟨⟨h1, h2⟩, h3⟩, h4⟩, rfl⟩, rfl⟩ := hr
 obtain rfl := str_nil h4
 unfold Nd.bytes at h
 simp only [Bool.false_eq_true, if_false] at h
 have a1 := h.left.left
 have a2 := h.left.right
 have a3 := h.right
 rw [Be.low_len] at a2
 rw [List.length_append, Be.low_len, len_size] at a3
 have n1 := a1.num (by omega)
 have n2 := a3.num (by omega)
 have t1 := a2.text
 have b3 := a3.1
 rw [Be.low_len] at b3
 have HT := Lib.hid fun (W : World) => taketext_ok s p key.size W (by omega) (by omega) n1
 rw [t1] at HT
 have HK := Lib.hid fun (W : World) => (show Calls Tryz.prog 120 #[.string s, .int .i64 ((p : Int) + 2 + key.size), .int .i64 4] W (TellsUE child W) by
   have := take_ok s (p + (2 + key.size)) 4 W (by omega) (by omega) (by omega) (by omega)
   rw [n2] at this
   rw [show ((p : Int) + 2 + key.size) = ((p + (2 + key.size) : Nat) : Int) by omega]
   exact this)
 have hw := wrap_i64 child (by omega)
 clear h a1 a2 a3 n1 n2 t1 b3 h4 h1 h2
 go_enter Tryz.func261, Tryz.ntmps261
 go_wp2_with fail
 (go_at_call 280)
 refine (HT.out _).mono ?_
 rintro e w1 ⟨rfl, hb1⟩
 obtain ⟨g1, g2, hn1⟩ := two_after hb1
 have a0 := g1.cell 0
 have b0 := g2.cell 0
 have c0 := g2.cell 4
 have HN1 := Lib.hid hn1
 have HG1 := Lib.hid g1
 have HG2 := Lib.hid g2
 have l1 := g1.lt
 have l2 := g2.lt
 have f1 := g2.frozen 0
 clear g1 g2 hn1 hb1
 go_wp2_with fail
 (go_at_call 120)
 refine (HK.out _).mono ?_
 rintro e w2 ⟨rfl, hb2⟩
 have k1 := bk_below (HG1.out.far (p := ⟨w.heap.size + 1, 0, none⟩) (by simp) (.string key)) hb2
 have k2 := bk_below (HG2.out.put 0 (.string key)) hb2
 have HN2 := Lib.hid ((HN1.out.setCell (p := ⟨w.heap.size + 1, 0, none⟩) (by simp) (.string key)).trans (hb2.mono (by have := HN1.out.size; simp; omega)))
 have d0 : w2.cell? ⟨w.heap.size + 1, 0, none⟩ = some (.string key) := k2.cell 0
 have d1 : w2.cell? ⟨w.heap.size + 1, 1, none⟩ = some (.string ⟨#[]⟩) := k2.cell 1
 have d2 : w2.cell? ⟨w.heap.size + 1, 2, none⟩ = some (.int .i64 0) := k2.cell 2
 have d3 : w2.cell? ⟨w.heap.size + 1, 3, none⟩ = some (.int .i64 0) := k2.cell 3
 have d4 : w2.cell? ⟨w.heap.size + 1, 4, none⟩ = some (.int .i64 0) := k2.cell 4
 have e0 : w2.cell? ⟨w.heap.size, 0, none⟩ = some (.string ⟨#[]⟩) := k1.cell 0
 have e1 : w2.cell? ⟨w.heap.size, 1, none⟩ = some (.string ⟨#[]⟩) := k1.cell 1
 have e2 : w2.cell? ⟨w.heap.size, 2, none⟩ = some (.int .i64 0) := k1.cell 2
 have e3 : w2.cell? ⟨w.heap.size, 3, none⟩ = some (.int .i64 0) := k1.cell 3
 have e4 : w2.cell? ⟨w.heap.size, 4, none⟩ = some (.int .i64 0) := k1.cell 4
 have m1 := k1.lt
 have m2 := k2.lt
 have f4 := k2.frozen 4
 have j0 := k1.frozen 0
 have j1 := k1.frozen 1
 have j2 := k1.frozen 2
 have j3 := k1.frozen 3
 have j4 := k1.frozen 4
 clear a0 b0 c0 l1 l2 f1 hb2 k1 k2
 go_wp2_with fail
 refine bodyPost_ret (v := .tuple #[.agg #[.string key, .string ⟨#[]⟩, .int .i64 0, .int .i64 0, .int .i64 child], .bool true]) (by simp [results, Tryz.results261, go_sem, m1, m2, e0, e1, e2, e3, e4]) rfl ⟨rfl, ?_⟩
 exact (((((HN2.out.setCell (p := ⟨w.heap.size + 1, 4, none⟩) (by simp) _).setCell (p := ⟨w.heap.size, 0, none⟩) (Nat.le_refl _) _).setCell (p := ⟨w.heap.size, 1, none⟩) (Nat.le_refl _) _).setCell (p := ⟨w.heap.size, 2, none⟩) (Nat.le_refl _) _).setCell (p := ⟨w.heap.size, 3, none⟩) (Nat.le_refl _) _).setCell (p := ⟨w.heap.size, 4, none⟩) (Nat.le_refl _) _
theorem Bk.all5 {w : World} {g : Nat} {t : TypeId} {v0 v1 v2 v3 v4 : Value} (h : Bk w g t #[v0, v1, v2, v3, v4]) : w.cell? ⟨g, 0, none⟩ = some v0 ∧ w.cell? ⟨g, 1, none⟩ = some v1 ∧ w.cell? ⟨g, 2, none⟩ = some v2 ∧ w.cell? ⟨g, 3, none⟩ = some v3 ∧ w.cell? ⟨g, 4, none⟩ = some v4 ∧
   w.frozen? ⟨g, 0, none⟩ = false ∧ w.frozen? ⟨g, 1, none⟩ = false ∧ w.frozen? ⟨g, 2, none⟩ = false ∧ w.frozen? ⟨g, 3, none⟩ = false ∧ w.frozen? ⟨g, 4, none⟩ = false ∧ g < w.heap.size :=
 ⟨h.cell 0, h.cell 1, h.cell 2, h.cell 3, h.cell 4, h.frozen 0, h.frozen 1, h.frozen 2, h.frozen 3, h.frozen 4, h.lt⟩
set_option maxHeartbeats 8000000 in
theorem uncell_leaf (s : ByteArray) (p : Nat) (c : Ce) (w : World) (hs : s.size ≤ 1000) (hr : Nd.rightLeaf c = true) (h : StAt s p (Nd.bytes true c)) : Calls Tryz.prog 261 #[.bool true, .string s, .int .i64 p] w (TellsC c w) := by
 obtain ⟨key, val, over, size, child⟩ := c
 unfold Nd.rightLeaf at hr
 simp only [Bool.and_eq_true, decide_eq_true_eq, beq_iff_eq] at hr
 obtain ⟨⟨⟨h1, h2⟩, rfl⟩, h4⟩ := hr
 unfold Nd.bytes at h
 simp only [if_true] at h
 have a1 := h.left.left
 have a2 := h.left.right
 have a3 := h.right
 rw [Be.low_len] at a2
 rw [List.length_append, Be.low_len, len_size] at a3
 have n1 := a1.num (by omega)
 have t1 := a2.text
 have b2 := a2.1
 rw [len_size] at b2
 have HT := Lib.hid fun (W : World) => taketext_ok s p key.size W (by omega) (by omega) n1
 rw [t1] at HT
 clear h a1 a2 n1 t1
 by_cases ho : over = 0
 · subst ho
   rw [if_pos rfl] at h4
   simp only [Bool.and_eq_true, decide_eq_true_eq, beq_iff_eq] at h4
   obtain ⟨rfl, h5⟩ := h4
   rw [if_neg (by omega)] at a3
   have c1 : StAt s (p + (2 + key.size)) (Be.low 0 1) := (show StAt s (p + (2 + key.size)) (Be.low 0 1 ++ (Be.low val.size 2 ++ val.data.toList)) from a3).left
   have c2 := (show StAt s (p + (2 + key.size)) (Be.low 0 1 ++ (Be.low val.size 2 ++ val.data.toList)) from a3).right
   rw [Be.low_len] at c2
   have c3 := c2.left
   have c4 := c2.right
   rw [Be.low_len] at c4
   have n2 := c1.num (by omega)
   have n3 := c3.num (by omega)
   have t2 := c4.text
   have b4 := c4.1
   rw [len_size] at b4
   have HK := Lib.hid fun (W : World) => (show Calls Tryz.prog 120 #[.string s, .int .i64 ((p : Int) + 2 + key.size), .int .i64 1] W (TellsUE 0 W) by
     have := take_ok s (p + (2 + key.size)) 1 W (by omega) (by omega) (by omega) (by omega)
     rw [n2] at this
     rw [show ((p : Int) + 2 + key.size) = ((p + (2 + key.size) : Nat) : Int) by omega]
     exact this)
   have HT2 := Lib.hid fun (W : World) => (show Calls Tryz.prog 280 #[.string s, .int .i64 ((p : Int) + 2 + key.size + 1)] W (fun e w' => (∃ n : Int, e = .returned (.tuple #[.string val, .int .i64 n, .int .i64 0])) ∧ Below W.heap.size W w') by
     have := taketext_ok s (p + (2 + key.size) + 1) val.size W (by omega) (by omega) n3
     rw [show p + (2 + key.size) + 1 + 2 + val.size = p + (2 + key.size) + 1 + 2 + val.size from rfl, t2] at this
     rw [show ((p : Int) + 2 + key.size + 1) = ((p + (2 + key.size) + 1 : Nat) : Int) by omega]
     exact this.mono fun e w' ⟨h1, h2⟩ => ⟨⟨_, h1⟩, h2⟩)
   have hpi : ¬ 9223372036854775807 < (p : Int) + 2 + key.size + 1 := by omega
   clear a3 c1 c2 c3 c4 n2 n3 t2 h1 h2 h5
   go_enter Tryz.func261, Tryz.ntmps261
   go_wp2_with fail
   (go_at_call 280)
   refine (HT.out _).mono ?_
   rintro e w1 ⟨rfl, hb1⟩
   obtain ⟨g1, g2, hn1⟩ := two_after hb1
   have HN1 := Lib.hid hn1
   have HG1 := Lib.hid g1
   have HG2 := Lib.hid g2
   obtain ⟨x0, x1, x2, x3, x4, y0, y1, y2, y3, y4, x5⟩ := g2.all5
   clear g1 g2 hn1 hb1
   go_wp2_with fail
   (go_at_call 120)
   refine (HK.out _).mono ?_
   rintro e w2 ⟨rfl, hb2⟩
   have k1 := bk_below (HG1.out.far (p := ⟨w.heap.size + 1, 0, none⟩) (by simp) (.string key)) hb2
   have k2 := bk_below (HG2.out.put 0 (.string key)) hb2
   have HN2 := Lib.hid ((HN1.out.setCell (p := ⟨w.heap.size + 1, 0, none⟩) (by simp) (.string key)).trans (hb2.mono (by have := HN1.out.size; simp; omega)))
   have HK1 := Lib.hid k1
   have HK2 := Lib.hid k2
   clear hb2 k1 k2 x0 x1 x2 x3 x4 x5 y0 y1 y2 y3 y4
   go_wp2_with fail
   (go_at_call 280)
   refine (HT2.out _).mono ?_
   rintro e w3 ⟨⟨nz, rfl⟩, hb3⟩
   have k1 := bk_below HK1.out hb3
   have k2 := bk_below HK2.out hb3
   have HN3 := Lib.hid (HN2.out.trans (hb3.mono HN2.out.size))
   obtain ⟨x0, x1, x2, x3, x4, y0, y1, y2, y3, y4, x5⟩ := (show Bk w3 (w.heap.size + 1) 170 #[.string key, .string ⟨#[]⟩, .int .i64 0, .int .i64 0, .int .i64 0] from k2).all5
   obtain ⟨u0, u1, u2, u3, u4, v0, v1, v2, v3, v4, u5⟩ := k1.all5
   clear hb3 k1 k2
   go_wp2_with fail
   refine bodyPost_ret (v := .tuple #[.agg #[.string key, .string val, .int .i64 0, .int .i64 0, .int .i64 0], .bool true]) (by simp [results, Tryz.results261, go_sem, x0, x1, x2, x3, x4, u0, u1, u2, u3, u4, x5, u5]) rfl ⟨rfl, ?_⟩
   exact (((((HN3.out.setCell (p := ⟨w.heap.size + 1, 1, none⟩) (by simp) _).setCell (p := ⟨w.heap.size, 0, none⟩) (Nat.le_refl _) _).setCell (p := ⟨w.heap.size, 1, none⟩) (Nat.le_refl _) _).setCell (p := ⟨w.heap.size, 2, none⟩) (Nat.le_refl _) _).setCell (p := ⟨w.heap.size, 3, none⟩) (Nat.le_refl _) _).setCell (p := ⟨w.heap.size, 4, none⟩) (Nat.le_refl _) _
 · rw [if_neg ho] at h4
   simp only [Bool.and_eq_true, decide_eq_true_eq, beq_iff_eq] at h4
   obtain ⟨⟨⟨h5, h6⟩, h7⟩, h8⟩ := h4
   obtain rfl := str_nil h5
   rw [if_pos (by omega)] at a3
   have c1 : StAt s (p + (2 + key.size)) (Be.low 1 1) := (show StAt s (p + (2 + key.size)) (Be.low 1 1 ++ (Be.low over 4 ++ Be.low size 4)) from a3).left
   have c2 := (show StAt s (p + (2 + key.size)) (Be.low 1 1 ++ (Be.low over 4 ++ Be.low size 4)) from a3).right
   rw [Be.low_len] at c2
   have c3 := c2.left
   have c4 := c2.right
   rw [Be.low_len] at c4
   have n2 := c1.num (by omega)
   have n3 := c3.num (by omega)
   have n4 := c4.num (by omega)
   have b4 := c4.1
   rw [Be.low_len] at b4
   have HK := Lib.hid fun (W : World) => (show Calls Tryz.prog 120 #[.string s, .int .i64 ((p : Int) + 2 + key.size), .int .i64 1] W (TellsUE 1 W) by
     have := take_ok s (p + (2 + key.size)) 1 W (by omega) (by omega) (by omega) (by omega)
     rw [n2] at this
     rw [show ((p : Int) + 2 + key.size) = ((p + (2 + key.size) : Nat) : Int) by omega]
     exact this)
   have HK2 := Lib.hid fun (W : World) => (show Calls Tryz.prog 120 #[.string s, .int .i64 ((p : Int) + 2 + key.size + 1), .int .i64 4] W (TellsUE over W) by
     have := take_ok s (p + (2 + key.size) + 1) 4 W (by omega) (by omega) (by omega) (by omega)
     rw [n3] at this
     rw [show ((p : Int) + 2 + key.size + 1) = ((p + (2 + key.size) + 1 : Nat) : Int) by omega]
     exact this)
   have HK3 := Lib.hid fun (W : World) => (show Calls Tryz.prog 120 #[.string s, .int .i64 ((p : Int) + 2 + key.size + 5), .int .i64 4] W (TellsUE size W) by
     have := take_ok s (p + (2 + key.size) + 1 + 4) 4 W (by omega) (by omega) (by omega) (by omega)
     rw [n4] at this
     rw [show ((p : Int) + 2 + key.size + 5) = ((p + (2 + key.size) + 1 + 4 : Nat) : Int) by omega]
     exact this)
   have hw := wrap_i64 over (by omega)
   have hw2 := wrap_i64 size (by omega)
   clear a3 c1 c2 c3 c4 n2 n3 n4 h1 h2 h5 h6 h7 h8 ho
   go_enter Tryz.func261, Tryz.ntmps261
   go_wp2_with fail
   (go_at_call 280)
   refine (HT.out _).mono ?_
   rintro e w1 ⟨rfl, hb1⟩
   obtain ⟨g1, g2, hn1⟩ := two_after hb1
   have HN1 := Lib.hid hn1
   have HG1 := Lib.hid g1
   have HG2 := Lib.hid g2
   obtain ⟨x0, x1, x2, x3, x4, y0, y1, y2, y3, y4, x5⟩ := g2.all5
   clear g1 g2 hn1 hb1
   go_wp2_with fail
   (go_at_call 120)
   refine (HK.out _).mono ?_
   rintro e w2 ⟨rfl, hb2⟩
   have k1 := bk_below (HG1.out.far (p := ⟨w.heap.size + 1, 0, none⟩) (by simp) (.string key)) hb2
   have k2 := bk_below (HG2.out.put 0 (.string key)) hb2
   have HN2 := Lib.hid ((HN1.out.setCell (p := ⟨w.heap.size + 1, 0, none⟩) (by simp) (.string key)).trans (hb2.mono (by have := HN1.out.size; simp; omega)))
   have HG3 := Lib.hid k1
   have HG4 := Lib.hid k2
   clear hb2 k1 k2 x0 x1 x2 x3 x4 x5 y0 y1 y2 y3 y4
   go_wp2_with fail
   (go_at_call 120)
   refine (HK2.out _).mono ?_
   rintro e w3 ⟨rfl, hb3⟩
   have k1 := bk_below HG3.out hb3
   have k2 := bk_below HG4.out hb3
   have HN3 := Lib.hid (HN2.out.trans (hb3.mono HN2.out.size))
   have HG5 := Lib.hid k1
   have HG6 := Lib.hid k2
   clear hb3 k1 k2
   go_wp2_with fail
   (go_at_call 120)
   refine (HK3.out _).mono ?_
   rintro e w4 ⟨rfl, hb4⟩
   have k1 := bk_below HG5.out hb4
   have k2 := bk_below HG6.out hb4
   have HN4 := Lib.hid (HN3.out.trans (hb4.mono HN3.out.size))
   obtain ⟨x0, x1, x2, x3, x4, y0, y1, y2, y3, y4, x5⟩ := (show Bk w4 (w.heap.size + 1) 170 #[.string key, .string ⟨#[]⟩, .int .i64 0, .int .i64 0, .int .i64 0] from k2).all5
   obtain ⟨u0, u1, u2, u3, u4, v0, v1, v2, v3, v4, u5⟩ := k1.all5
   clear hb4 k1 k2
   go_wp2_with fail
   refine bodyPost_ret (v := .tuple #[.agg #[.string key, .string ⟨#[]⟩, .int .i64 over, .int .i64 size, .int .i64 0], .bool true]) (by simp [results, Tryz.results261, go_sem, x0, x1, x2, x3, x4, u0, u1, u2, u3, u4, x5, u5]) rfl ⟨rfl, ?_⟩
   exact ((((((HN4.out.setCell (p := ⟨w.heap.size + 1, 2, none⟩) (by simp) _).setCell (p := ⟨w.heap.size + 1, 3, none⟩) (by simp) _).setCell (p := ⟨w.heap.size, 0, none⟩) (Nat.le_refl _) _).setCell (p := ⟨w.heap.size, 1, none⟩) (Nat.le_refl _) _).setCell (p := ⟨w.heap.size, 2, none⟩) (Nat.le_refl _) _).setCell (p := ⟨w.heap.size, 3, none⟩) (Nat.le_refl _) _).setCell (p := ⟨w.heap.size, 4, none⟩) (Nat.le_refl _) _
end Go.Proofs.YtjbcbnemdhbhbaaGreatDoor
namespace Go.Proofs.YtjbcbnemdhbhbaaGreatDoor
open Go.RowKit
set_option maxRecDepth 100000
set_option linter.unusedVariables false
set_option linter.unusedSimpArgs false
namespace Nd
def str (leaf : Bool) (l : List Ce) : ByteArray := ⟨(enc leaf l).toArray⟩
theorem str_size (leaf : Bool) (l : List Ce) : (str leaf l).size = sum leaf l := by
 show (enc leaf l).toArray.size = _
 rw [List.size_toArray, enc_len]
theorem str_len (leaf : Bool) (l : List Ce) : 2 + 2 * l.length + (tail leaf l).length = sum leaf l := by
 have := tail_len leaf l
 unfold sum
 omega
theorem str_count (leaf : Bool) (l : List Ce) (h : l.length < 65536) : numAt (str leaf l) 0 2 = l.length := by
 have h1 : StAt (str leaf l) ([] : List UInt8).length (Be.low l.length 2) := StAt.of_pre (c := slots leaf l (2 + 2 * l.length) l.length ++ tail leaf l) (by show enc leaf l = _; unfold enc; simp)
 exact h1.num (by omega)
theorem str_slot (leaf : Bool) (l : List Ce) (i : Nat) (h : i < l.length) (hs : sum leaf l < 65536) : numAt (str leaf l) (2 + 2 * i) 2 = 2 + 2 * l.length + (tail leaf (l.take i)).length := by
 have hsl := slots_len leaf l (2 + 2 * l.length) l.length
 have hg := slots_get leaf l (2 + 2 * l.length) l.length i h
 have hlen := str_len leaf l
 have htk : (tail leaf (l.take i)).length ≤ (tail leaf l).length := by
   have e : tail leaf l = tail leaf (l.take i) ++ tail leaf (l.drop i) := by rw [← tail_app, List.take_append_drop]
   rw [e, List.length_append]; omega
 have h1 : StAt (str leaf l) (2 + 2 * i) (Be.low (2 + 2 * l.length + (tail leaf (l.take i)).length) 2) := by
   refine ⟨by rw [Be.low_len, str_size]; omega, ?_⟩
   rw [Be.low_len]
   show (List.drop (2 + 2 * i) (enc leaf l)).take 2 = _
   unfold enc
   rw [List.append_assoc, ← List.drop_drop, List.drop_left' (by rw [Be.low_len]), List.drop_append_of_le_length (by omega), List.take_append_of_le_length (by rw [List.length_drop]; omega)]
   exact hg
 exact h1.num (by omega)
theorem str_cell (leaf : Bool) (l : List Ce) (i : Nat) (h : i < l.length) : StAt (str leaf l) (2 + 2 * l.length + (tail leaf (l.take i)).length) (bytes leaf l[i]) := by
 have e : enc leaf l = (Be.low l.length 2 ++ slots leaf l (2 + 2 * l.length) l.length ++ tail leaf (l.take i)) ++ (bytes leaf l[i] ++ tail leaf (l.drop (i + 1))) := by
   have : tail leaf l = tail leaf (l.take i) ++ (bytes leaf l[i] ++ tail leaf (l.drop (i + 1))) := by
     conv => lhs; rw [← List.take_append_drop i l, List.drop_eq_getElem_cons h]
     rw [tail_app, tail_cons]
   unfold enc
   rw [this]
   simp only [List.append_assoc]
 have h1 := StAt.of_pre (s := str leaf l) e
 rw [List.length_append, List.length_append, Be.low_len, slots_len] at h1
 exact h1
end Nd
theorem uncell_any (leaf : Bool) (s : ByteArray) (p : Nat) (c : Ce) (w : World) (hs : s.size ≤ 1000) (hr : Nd.rightOne leaf c = true) (h : StAt s p (Nd.bytes leaf c)) : Calls Tryz.prog 261 #[.bool leaf, .string s, .int .i64 p] w (TellsC c w) := by
 cases leaf with
 | true => exact uncell_leaf s p c w hs hr h
 | false => exact uncell_branch s p c w hs hr h
set_option maxHeartbeats 8000000 in
theorem get_ok (leaf : Bool) (l : List Ce) (i : Nat) (w : World) (hr : Nd.right leaf l = true) (hs : Nd.sum leaf l ≤ 488) (hi : i < l.length) : Calls Tryz.prog 236 #[.bool leaf, .string (Nd.str leaf l), .int .i64 i] w (TellsC l[i] w) := by
 have hone : Nd.rightOne leaf l[i] = true := by
   unfold Nd.right at hr
   simp only [Bool.and_eq_true] at hr
   exact List.all_eq_true.1 hr.2.1 _ (List.getElem_mem hi)
 have hsz := Nd.str_size leaf l
 have hsl := Nd.str_slot leaf l i hi (by omega)
 have hcl := Nd.str_cell leaf l i hi
 have hlen := Nd.str_len leaf l
 obtain ⟨s, hs9⟩ : ∃ s, s = Nd.str leaf l := ⟨_, rfl⟩
 obtain ⟨p, hp⟩ : ∃ p, p = 2 + 2 * l.length + (Nd.tail leaf (l.take i)).length := ⟨_, rfl⟩
 obtain ⟨c, hc⟩ : ∃ c, c = l[i] := ⟨_, rfl⟩
 rw [← hs9] at hsz hsl hcl ⊢
 rw [← hp] at hsl hcl
 rw [← hc] at hone hcl ⊢
 have hpb := hcl.1
 have HK := Lib.hid fun (W : World) => (show Calls Tryz.prog 120 #[.string s, .int .i64 (2 + 2 * (i : Int)), .int .i64 2] W (TellsUE p W) by
   have := take_ok s (2 + 2 * i) 2 W (by omega) (by omega) (by omega) (by omega)
   rw [hsl] at this
   simpa using this)
 have HU := Lib.hid fun (W : World) => uncell_any leaf s p c W (by omega) hone hcl
 have hw := wrap_i64 p (by omega)
 have hib : i ≤ 243 := by omega
 clear hs9 hp hc hsl hcl hone hpb hr hs hsz hlen hi
 go_enter Tryz.func236, Tryz.ntmps236
 go_wp2_with fail
 (go_at_call 120)
 refine (HK.out _).mono ?_
 rintro e w1 ⟨rfl, hb1⟩
 obtain ⟨-, -, -, -, -, -, hn1, hk1⟩ := five_after hb1
 have HN1 := Lib.hid hn1
 have HK1 := Lib.hid hk1
 clear hb1 hn1 hk1
 go_wp2_with fail
 (go_at_call 261)
 refine (HU.out _).mono ?_
 rintro e w2 ⟨rfl, hb2⟩
 have k1 := bk_below HK1.out hb2
 have HN2 := Lib.hid (HN1.out.trans (hb2.mono HN1.out.size))
 obtain ⟨u0, u1, u2, u3, u4, v0, v1, v2, v3, v4, u5⟩ := k1.all5
 clear hb2 k1
 go_wp2_with fail
 refine bodyPost_ret (v := .tuple #[.agg #[.string c.key, .string c.val, .int .i64 c.over, .int .i64 c.size, .int .i64 c.child], .bool true]) (by simp [results, Tryz.results236, go_sem, u0, u1, u2, u3, u4, u5]) rfl ⟨rfl, ?_⟩
 exact ((((HN2.out.setCell (p := ⟨w.heap.size, 0, none⟩) (Nat.le_refl _) _).setCell (p := ⟨w.heap.size, 1, none⟩) (Nat.le_refl _) _).setCell (p := ⟨w.heap.size, 2, none⟩) (Nat.le_refl _) _).setCell (p := ⟨w.heap.size, 3, none⟩) (Nat.le_refl _) _).setCell (p := ⟨w.heap.size, 4, none⟩) (Nat.le_refl _) _
end Go.Proofs.YtjbcbnemdhbhbaaGreatDoor
namespace Go.Proofs.YtjbcbnemdhbhbaaGreatDoor
open Go.RowKit
set_option maxRecDepth 100000
set_option linter.unusedVariables false
set_option linter.unusedSimpArgs false
def flatC (l : List Ce) : List Value := (l.map Ce.vals).flatten
theorem flatC_app (a b : List Ce) : flatC (a ++ b) = flatC a ++ flatC b := by simp [flatC]
theorem flatC_one (c : Ce) : flatC [c] = [.string c.key, .string c.val, .int .i64 c.over, .int .i64 c.size, .int .i64 c.child] := by simp [flatC, Ce.vals]
theorem flatC_len (l : List Ce) : (flatC l).length = l.length * 5 := by
 induction l with
 | nil => rfl
 | cons c l ih => rw [show c :: l = [c] ++ l from rfl, flatC_app, List.length_append, ih, flatC_one]; simp; omega
theorem flatC_get (l : List Ce) (i : Nat) (h : i < l.length) (j : Nat) (hj : j < 5) : (flatC l)[i * 5 + j]? = (l[i]).vals[j]? := by
 unfold flatC
 exact flatten_get (l.map Ce.vals) (fun c hc => by obtain ⟨x, -, rfl⟩ := List.mem_map.1 hc; rfl) i _ (by rw [List.getElem?_map, List.getElem?_eq_getElem h]; rfl) j hj
theorem flatC_oneCell (l : List Ce) : ∀ u ∈ flatC l, u.oneCell' = true := by
 intro u hu
 unfold flatC at hu
 rw [List.mem_flatten] at hu
 obtain ⟨c, hc, hu⟩ := hu
 obtain ⟨x, -, rfl⟩ := List.mem_map.1 hc
 simp [Ce.vals] at hu
 rcases hu with rfl | rfl | rfl | rfl | rfl <;> rfl
def COwn (w : World) (B : Nat) (v : Value) (l : List Ce) : Prop := w.ownsRow B 170 5 v l.length (flatC l)
theorem COwn.row {w : World} {B : Nat} {v : Value} {l : List Ce} (h : COwn w B v l) : ∃ r : Rw, v = .slice r.A r.n r.c ∧ CRow w (fun b => B ≤ b) r l := by
 have hg : GRow 170 5 CeAt w B v l := ⟨l.map Ce.vals, by simp, fun c hc => by obtain ⟨x, -, rfl⟩ := List.mem_map.1 hc; rfl, h, fun i d c hd hc => by
   rw [List.getElem?_map, hd] at hc
   have := Option.some.inj hc
   unfold CeAt; exact this.symm⟩
 exact hg.row ceAt_stable
theorem COwn.below {w w' : World} {B : Nat} {v : Value} {l : List Ce} (h : COwn w B v l) (hb : Below w.heap.size w w') : COwn w' B v l := (Off.of_below hb []).own h (by simp)
theorem info_cell : (Tryz.prog.info? 170).map (fun i => (i.zero, i.size, i.bytes)) = some (some (.agg #[.string ByteArray.empty, .string ByteArray.empty, .int .i64 0, .int .i64 0, .int .i64 0]), 5, 56) := by kernel_rfl
def TellsL (l : List Ce) (w : World) (e : Ending) (w' : World) : Prop := Below w.heap.size w w' ∧ ∃ (A : Option Addr) (c : Nat), e = .returned (.tuple #[.slice A l.length c, .int .i64 0]) ∧ COwn w' w.heap.size (.slice A l.length c) l
set_option maxHeartbeats 8000000 in
theorem decode_ok (leaf : Bool) (l : List Ce) (w : World) (hr : Nd.right leaf l = true) (hs : Nd.sum leaf l ≤ 488) : Calls Tryz.prog 232 #[.bool leaf, .string (Nd.str leaf l)] w (TellsL l w) := by
 obtain ⟨i0, hi, iz0, iz1, iz2⟩ := info_parts info_cell
 have hsz := Nd.str_size leaf l
 have hlen := Nd.str_len leaf l
 have hct := Nd.str_count leaf l (by omega)
 have HC := Lib.hid fun (W : World) => count_ok (Nd.str leaf l) l.length W (by omega) hct (by omega)
 have HG := Lib.hid fun (i : Nat) (hi : i < l.length) (W : World) => get_ok leaf l i W hr hs hi
 have HE := Lib.hid fun (r : Rw) (S : Nat → Prop) (W : World) (h : CRow W S r l) => (show Calls Tryz.prog 251 #[.bool leaf, .slice r.A r.n r.c] W (TellsSE (Nd.str leaf l) 0 W) from encode_yes leaf r l S W h hr hs)
 obtain ⟨s, hs9⟩ : ∃ s, s = Nd.str leaf l := ⟨_, rfl⟩
 rw [← hs9] at HC HG HE ⊢
 have hll : l.length ≤ 243 := by omega
 clear hs9 hsz hlen hct hr hs
 go_enter Tryz.func232, Tryz.ntmps232
 go_wp2_with (first
   | (go_at_call 233; go_must (refine (HC.out _).mono ?_); rintro e w1 ⟨rfl, hb1⟩; have HN1 := Lib.hid hb1; clear hb1)
   | fail)
 go_loopw [6, 14] (fun u i wr => ∃ (j : Nat) (A : Option Addr) (c : Nat), i = .int .i64 j ∧ u = .slice A j c ∧ j ≤ l.length ∧ COwn wr w.heap.size (.slice A j c) (l.take j) ∧ Below w.heap.size w wr) (fun _ i _ => l.length - (intOf i).toNat)
 case atStart => exact ⟨0, none, 0, rfl, rfl, Nat.zero_le _, World.ownsRow_nil _ _ _ _, HN1.out⟩
 case round =>
   obtain ⟨j, A, c, rfl, rfl, hj, how, hbw⟩ := hrel
   have HBW := Lib.hid hbw
   have HOW := Lib.hid how
   by_cases hlt : j < l.length
   · have z1 : decide ((j : Int) < (l.length : Int)) = true := decide_eq_true (by omega)
     have HGJ := Lib.hid fun (W : World) => HG.out j hlt W
     have HT := Lib.hid (List.take_succ_eq_append_getElem hlt)
     obtain ⟨x, hx⟩ : ∃ x, x = l[j] := ⟨_, rfl⟩
     rw [← hx] at HGJ HT
     clear how hbw hx
     go_wp2_with fail
     (go_at_call 236)
     refine (HGJ.out _).mono ?_
     rintro e w2 ⟨rfl, hb2⟩
     have HN2 := Lib.hid (HBW.out.trans (hb2.mono HBW.out.size))
     have hown2 := HOW.out.below hb2
     unfold COwn at hown2
     rw [show (l.take j).length = j by rw [List.length_take]; omega] at hown2
     have HO2 := Lib.hid hown2
     have hsz2 := HN2.out.size
     clear hb2 hown2
     have hnw : ((w2.alloc (.cells #[.string x.key, .string x.val, .int .i64 x.over, .int .i64 x.size, .int .i64 x.child] 170)).alloc (.cells #[.string x.key, .string x.val, .int .i64 x.over, .int .i64 x.size, .int .i64 x.child] 170)).heap[w2.heap.size + 1]? = some (.cells #[.string x.key, .string x.val, .int .i64 x.over, .int .i64 x.size, .int .i64 x.child] 170) := by
       have h := heap_alloc_new (w2.alloc (.cells #[.string x.key, .string x.val, .int .i64 x.over, .int .i64 x.size, .int .i64 x.child] 170)) (.cells #[.string x.key, .string x.val, .int .i64 x.over, .int .i64 x.size, .int .i64 x.child] 170)
       rwa [show (w2.alloc (.cells #[.string x.key, .string x.val, .int .i64 x.over, .int .i64 x.size, .int .i64 x.child] 170)).heap.size = w2.heap.size + 1 by simp] at h
     have HNW := Lib.hid hnw
     clear hnw
     go_wp2_with (at_builtin; refine wpList_append_lies _ rfl (.tmp 26) (.tmp 28) 174 rfl w.heap.size 170 i0 _ 5 56 Tryz.underlying174 hi iz0 iz1 iz2 rfl (by omega) (.slice A j c) j (flatC (l.take j)) rfl ((HO2.out.alloc _).alloc _) ⟨w2.heap.size + 1, 0, none⟩ 1 1 [.string x.key, .string x.val, .int .i64 x.over, .int .i64 x.size, .int .i64 x.child] rfl rfl (World.news_of_block (cs := #[.string x.key, .string x.val, .int .i64 x.over, .int .i64 x.size, .int .i64 x.child]) HNW.out) (by simp [Value.oneCell']) (by omega) (by unfold maxLen; omega) (by omega) (by simp; omega) (w2.heap.size + 2) (by simp) ?_; intro gg cap3 w3 hown3 hgrow3 hat3 hlt3)
     have HN3 := Lib.hid (((Off.of_below (((HN2.out.alloc HN2.out.size (.cells #[.string x.key, .string x.val, .int .i64 x.over, .int .i64 x.size, .int .i64 x.child] 170)).alloc (by simp; omega) (.cells #[.string x.key, .string x.val, .int .i64 x.over, .int .i64 x.size, .int .i64 x.child] 170))) []).grown hgrow3 (fun g hg => .inr (HO2.out.lt g hg).1)).below (Nat.le_refl _) (by simp))
     have HO3 := Lib.hid (show COwn w3 w.heap.size (.slice (some ⟨gg, 0, none⟩) (j + 1) cap3) (l.take (j + 1)) by
       unfold COwn
       rw [show (l.take (j + 1)).length = j + 1 by rw [List.length_take]; omega, HT.out, flatC_app, flatC_one]
       exact hown3)
     clear hown3 hgrow3 hat3
     go_roundw
     case rel => first | exact ⟨j + 1, _, _, by go_num, rfl, by omega, HO3.out, HN3.out⟩ | ((repeat apply Exists.intro); exact ⟨⟨j + 1, _, _, by go_num, rfl, by omega, HO3.out, HN3.out⟩, rfl⟩)
     case measure => simp [intOf]; omega
   · have z1 : decide ((j : Int) < (l.length : Int)) = false := decide_eq_false (by omega)
     obtain rfl : j = l.length := by omega
     rw [List.take_length] at HOW
     obtain ⟨r, hrv, hcr⟩ := HOW.out.row
     obtain ⟨rA, rn, rc⟩ := r
     simp only at hrv
     injection hrv with q1 q2 q3
     subst q1 q2 q3
     have HCR := Lib.hid hcr
     have heq : (s.toList == s.toList) = true := by simp
     have hne : (s.toList != s.toList) = false := by simp
     clear how hbw hcr
     go_wp2_with (first
       | (go_at_call 251; go_must (refine (HE.out ⟨A, l.length, c⟩ _ _ HCR.out).mono ?_); rintro e w3 ⟨rfl, hb3⟩; have HN3 := Lib.hid (HBW.out.trans (hb3.mono HBW.out.size)); have HO3 := Lib.hid (HOW.out.below hb3); clear hb3)
       | fail)
     go_ret2
     exact ⟨HN3.out, A, c, rfl, HO3.out⟩
end Go.Proofs.YtjbcbnemdhbhbaaGreatDoor

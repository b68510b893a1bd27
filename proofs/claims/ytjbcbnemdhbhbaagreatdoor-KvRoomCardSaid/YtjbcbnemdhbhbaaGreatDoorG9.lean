import Derived.Test.YtjbcbnemdhbhbaaGreatDoorG3
import Derived.Test.YtjbcbnemdhbhbaaGreatDoorG8
namespace Go.Proofs.YtjbcbnemdhbhbaaGreatDoor
open Go.RowKit
open Go.PlainAid
set_option maxRecDepth 100000
set_option linter.unusedVariables false
set_option linter.unusedSimpArgs false
theorem below_new {w w' : World} (h : Below w.heap.size w w') (o : Obj) : Below w.heap.size w (w'.alloc o) := h.alloc h.size o
theorem bk_new_at (w : World) (t : TypeId) (cs : Array Value) (k : Nat) (h : w.heap.size = k) : Bk (w.alloc (.cells cs t)) k t cs := by subst h; exact Bk.new w t cs
def openR (D : DevS) : Int :=
 if (D.read 0).2 ≠ 0 then (D.read 0).2 else if (D.read 1).2 ≠ 0 then (D.read 1).2
 else if unmB (nwS (D.read 0).1 (D.read 1).1) = true ∧ unmL (nwS (D.read 0).1 (D.read 1).1) ≤ (D.sec.length : Int) / 4 then 0 else 4
def restS (a b : ByteArray) : ByteArray := if nwI a b then a else b
def openP (D : DevS) : PgS := ⟨unmV (nwS (D.read 0).1 (D.read 1).1), unmV (restS (D.read 0).1 (D.read 1).1), unmB (restS (D.read 0).1 (D.read 1).1), none, []⟩
def OpenPost (g : Nat) (D : DevS) (w : World) (e : Ending) (w' : World) : Prop :=
 Below w.heap.size w w' ∧ ((openR D ≠ 0 ∧ e = .returned (.tuple #[.pointer none, .int .i64 (openR D)])) ∨
   (openR D = 0 ∧ ∃ q, w.heap.size ≤ q ∧ e = .returned (.tuple #[.pointer (some ⟨q, 0, none⟩), .int .i64 0]) ∧ Pg w' q [q] g (openP D)))
theorem openPost_no {g : Nat} {D : DevS} {w w' : World} {r : Int} (h : openR D = r) (hr : r ≠ 0) (hb : Below w.heap.size w w') : OpenPost g D w (.returned (.tuple #[.pointer none, .int .i64 r])) w' := by
 subst h
 exact ⟨hb, .inl ⟨hr, rfl⟩⟩
theorem dread_from {g : Nat} {S : List Nat} {D : DevS} {w : World} (hd : Dev w g S D) (i : Int) (s : ByteArray) (r : Int) (hb : D.steps ≤ 1000000000) (h : D.read i = (s, r)) :
   Calls Tryz.prog 152 #[ptr g, .int .i64 i] w (ReadPost s r w) := by
 have h1 := dread_any hd i hb
 rw [h] at h1
 exact h1
theorem open_cases (D : DevS) : (∃ a r, D.read 0 = (a, r) ∧ (r != 0) = true ∧ Hid (openR D = r ∧ r ≠ 0)) ∨
   (∃ a b r, D.read 0 = (a, 0) ∧ D.read 1 = (b, r) ∧ (r != 0) = true ∧ Hid (openR D = r ∧ r ≠ 0)) ∨
   (∃ a b, D.read 0 = (a, 0) ∧ D.read 1 = (b, 0)) := by
 obtain ⟨a, r, ha⟩ : ∃ a r, D.read 0 = (a, r) := ⟨_, _, rfl⟩
 obtain ⟨b, q, hb⟩ : ∃ b q, D.read 1 = (b, q) := ⟨_, _, rfl⟩
 by_cases h0 : r = 0
 · subst h0
   by_cases h1 : q = 0
   · subst h1
     exact .inr (.inr ⟨a, b, ha, hb⟩)
   · refine .inr (.inl ⟨a, b, q, ha, hb, by simpa using h1, ⟨?_, h1⟩⟩)
     unfold openR
     rw [ha, hb, if_neg (by simp), if_pos h1]
 · refine .inl ⟨a, r, ha, by simpa using h0, ⟨?_, h0⟩⟩
   unfold openR
   rw [ha, if_pos h0]
set_option maxHeartbeats 4000000 in
theorem open_down {g : Nat} {S : List Nat} {D : DevS} {w : World} (hd : Dev w g S D) (hb : D.steps ≤ 1000000000) (h : (∃ a r, D.read 0 = (a, r) ∧ (r != 0) = true ∧ Hid (openR D = r ∧ r ≠ 0)) ∨
   (∃ a b r, D.read 0 = (a, 0) ∧ D.read 1 = (b, r) ∧ (r != 0) = true ∧ Hid (openR D = r ∧ r ≠ 0))) :
   Calls Tryz.prog 99 #[ptr g] w (OpenPost g D w) := by
 have HB := Lib.hid hb
 have HD := Lib.hid hd
 rcases h with ⟨a, r, ha, q1, HR⟩ | ⟨a, b, r, ha, hb1, q1, HR⟩
 · have HA := Lib.hid ha
   clear hd hb ha
   go_enter Tryz.func99, Tryz.ntmps99
   go_wp2_with fail
   refine wp_loop_rounds 3 ?_
   rw [rounds_succ]
   go_wp2_with fail
   (go_at_call 152)
   refine (dread_from (HD.out.off ((Off.refl [] w).alloc _) (by simp)) 0 a r HB.out HA.out).mono ?_
   rintro e w2 ⟨rfl, rfl⟩
   go_wp2_with fail
   go_ret2
   exact openPost_no HR.out.1 HR.out.2 ((Below.refl _ w).alloc (Nat.le_refl _) _)
 · have HA := Lib.hid ha
   have HA1 := Lib.hid hb1
   clear hd hb ha hb1
   go_enter Tryz.func99, Tryz.ntmps99
   go_wp2_with fail
   refine wp_loop_rounds 3 ?_
   rw [rounds_succ]
   go_wp2_with fail
   (go_at_call 152)
   refine (dread_from (HD.out.off ((Off.refl [] w).alloc _) (by simp)) 0 a 0 HB.out HA.out).mono ?_
   rintro e w2 ⟨rfl, rfl⟩
   go_wp2_with fail
   rw [rounds_succ]
   go_wp2_with fail
   (go_at_call 152)
   refine (dread_from (HD.out.off ((Off.refl [] w).alloc _) (by simp)) 1 b r HB.out HA1.out).mono ?_
   rintro e w2 ⟨rfl, rfl⟩
   go_wp2_with fail
   go_ret2
   exact openPost_no HR.out.1 HR.out.2 ((Below.refl _ w).alloc (Nat.le_refl _) _)
theorem newest_to {a b : ByteArray} {t r f p l q e : Int} (ht : unmT (nwS a b) = t) (hr : unmR (nwS a b) = r) (hf : unmF (nwS a b) = f) (hp : unmP (nwS a b) = p) (hl : unmL (nwS a b) = l) (hq : nwN a b = q) (he : unmE (nwS a b) = e) (W : World) (hW : RowAt W) :
   Calls Tryz.prog 153 #[.string a, .string b] W (fun en w' => en = .returned (.tuple #[.agg #[.int .i64 t, .int .i64 r, .int .i64 f, .int .i64 p, .int .i64 l], .int .i64 q, .int .i64 e]) ∧ Below W.heap.size W w') := by
 have h := newest_any a b W hW
 unfold NewestPost metaV at h
 rw [ht, hr, hf, hp, hl, hq, he] at h
 exact h
set_option maxHeartbeats 4000000 in
theorem open_form {g : Nat} {S : List Nat} {D : DevS} {w : World} (hd : Dev w g S D) (hr : RowAt w) (hb : D.steps ≤ 1000000000) {a b : ByteArray} (ha : D.read 0 = (a, 0)) (hb1 : D.read 1 = (b, 0)) (hu : unmB (nwS a b) = false) :
   Calls Tryz.prog 99 #[ptr g] w (OpenPost g D w) := by
 have HO : Hid (openR D = 4) := show _ = _ by
   unfold openR
   rw [ha, hb1, if_neg (by simp), if_neg (by simp), if_neg (by rw [hu]; simp)]
 have HB := Lib.hid hb
 have HD := Lib.hid hd
 have HR := Lib.hid hr
 have HA := Lib.hid ha
 have HA1 := Lib.hid hb1
 obtain ⟨q, hq⟩ : ∃ q, nwN a b = q := ⟨_, rfl⟩
 obtain ⟨u1, u2, u3, u4, u5, u6⟩ := unm_no hu
 have HN := Lib.hid (newest_to u1 u2 u3 u4 u5 hq u6)
 clear hu u1 u2 u3 u4 u5 u6 hq
 clear hd hb ha hb1 hr
 go_enter Tryz.func99, Tryz.ntmps99
 go_wp2_with fail
 refine wp_loop_rounds 3 ?_
 rw [rounds_succ]
 go_wp2_with fail
 (go_at_call 152)
 refine (dread_from (HD.out.off ((Off.refl [] w).alloc _) (by simp)) 0 a 0 HB.out HA.out).mono ?_
 rintro e w2 ⟨rfl, rfl⟩
 go_wp2_with fail
 rw [rounds_succ]
 go_wp2_with fail
 (go_at_call 152)
 refine (dread_from (HD.out.off ((Off.refl [] w).alloc _) (by simp)) 1 b 0 HB.out HA1.out).mono ?_
 rintro e w2 ⟨rfl, rfl⟩
 go_wp2_with fail
 rw [rounds_succ]
 go_wp2_with fail
 (go_at_call 153)
 refine (HN.out _ (HR.out.below ((Below.refl _ w).alloc (Nat.le_refl _) _))).mono ?_
 rintro e w3 ⟨rfl, hb3⟩
 have HBK3 := Lib.hid (bk_below (Bk.new w 234 #[.string a, .string b]) hb3)
 have HW3 := Lib.hid (((Below.refl _ w).alloc (Nat.le_refl _) (.cells #[.string a, .string b] 234)).trans (hb3.mono (by simp)))
 clear hb3
 go_wp2_with fail
 go_quiet (fail)
 go_wp2_with fail
 go_ret2
 exact openPost_no HO.out (by decide) (below_drewN (HW3.out.alloc HW3.out.size _) _)
theorem dsize_quiet {g : Nat} {S : List Nat} {D : DevS} {w : World} (hd : Dev w g S D) (n : Nat) : Calls Tryz.prog 151 #[ptr g] (w.drewN n) fun e w'' => e = .returned (.int .i64 (D.sec.length : Int)) ∧ ∃ m, w'' = w.drewN m :=
 (dsize_any (hd.drewN n)).mono fun _ _ ⟨he, hw⟩ => ⟨he, n, hw.symm⟩
set_option maxHeartbeats 4000000 in
theorem open_wide {g : Nat} {S : List Nat} {D : DevS} {w : World} (hd : Dev w g S D) (hr : RowAt w) (hb : D.steps ≤ 1000000000) {a b : ByteArray} (ha : D.read 0 = (a, 0)) (hb1 : D.read 1 = (b, 0)) (hu : unmB (nwS a b) = true) (hl : (D.sec.length : Int) / 4 < unmL (nwS a b)) :
   Calls Tryz.prog 99 #[ptr g] w (OpenPost g D w) := by
 have HO : Hid (openR D = 4) := show _ = _ by
   unfold openR
   rw [ha, hb1, if_neg (by simp), if_neg (by simp), if_neg (by simp only; omega)]
 have HB := Lib.hid hb
 have HD := Lib.hid hd
 have HR := Lib.hid hr
 have HA := Lib.hid ha
 have HA1 := Lib.hid hb1
 obtain ⟨q, hq⟩ : ∃ q, nwN a b = q := ⟨_, rfl⟩
 have u6 : unmE (nwS a b) = 0 := by unfold unmE; rw [hu]; rfl
 have HN := Lib.hid (newest_to (a := a) (b := b) rfl rfl rfl rfl rfl hq u6)
 generalize unmT (nwS a b) = t at *
 generalize unmR (nwS a b) = r at *
 generalize unmF (nwS a b) = f at *
 generalize unmP (nwS a b) = p at *
 generalize unmL (nwS a b) = l at *
 have k0 : (0 : Int) ≤ (D.sec.length : Int) := by omega
 obtain ⟨n4, hn4⟩ : ∃ n4, n4 = (D.sec.length : Int) / 4 := ⟨_, rfl⟩
 rw [← hn4] at hl
 have k1 : (D.sec.length : Int) / 4 = n4 := hn4.symm
 have k2 : (D.sec.length : Int).tdiv 4 = n4 := by rw [Int.tdiv_eq_ediv_of_nonneg (by omega)]; exact k1
 have k3 : decide (n4 < l) = true := by simp; omega
 have k4 : IntKind.i64.wrap n4 = n4 := IntWalk.i64_in _ (by have := hd.ok.most; omega)
 clear hu u6 hq hn4
 clear hd hb ha hb1 hr
 go_enter Tryz.func99, Tryz.ntmps99
 go_wp2_with fail
 refine wp_loop_rounds 3 ?_
 rw [rounds_succ]
 go_wp2_with fail
 (go_at_call 152)
 refine (dread_from (HD.out.off ((Off.refl [] w).alloc _) (by simp)) 0 a 0 HB.out HA.out).mono ?_
 rintro e w2 ⟨rfl, rfl⟩
 go_wp2_with fail
 rw [rounds_succ]
 go_wp2_with fail
 (go_at_call 152)
 refine (dread_from (HD.out.off ((Off.refl [] w).alloc _) (by simp)) 1 b 0 HB.out HA1.out).mono ?_
 rintro e w2 ⟨rfl, rfl⟩
 go_wp2_with fail
 rw [rounds_succ]
 go_wp2_with fail
 (go_at_call 153)
 refine (HN.out _ (HR.out.below ((Below.refl _ w).alloc (Nat.le_refl _) _))).mono ?_
 rintro e w3 ⟨rfl, hb3⟩
 have HBK3 := Lib.hid (bk_below (Bk.new w 234 #[.string a, .string b]) hb3)
 have HW3 := Lib.hid (((Below.refl _ w).alloc (Nat.le_refl _) (.cells #[.string a, .string b] 234)).trans (hb3.mono (by simp)))
 clear hb3
 have HD4 := Lib.hid ((HD.out.off (Off.of_below HW3.out []) (by simp)).off ((Off.refl [] w3).alloc (.cells #[.int .i64 t, .int .i64 r, .int .i64 f, .int .i64 p, .int .i64 l] 40)) (by simp))
 go_wp2_with fail
 go_quiet ((go_at_call 151; exact dsize_quiet HD4.out _))
 go_wp2_with fail
 go_ret2
 exact openPost_no HO.out (by decide) (below_drewN (HW3.out.alloc HW3.out.size _) _)
theorem unpackM_to {s : ByteArray} {t r f p l e : Int} (ht : unmT s = t) (hr : unmR s = r) (hf : unmF s = f) (hp : unmP s = p) (hl : unmL s = l) (he : unmE s = e) (W : World) (hW : RowAt W) :
   Calls Tryz.prog 154 #[.string s] W (fun en w' => en = .returned (.tuple #[.agg #[.int .i64 t, .int .i64 r, .int .i64 f, .int .i64 p, .int .i64 l], .int .i64 e]) ∧ Below W.heap.size W w') := by
 have h := unpackM_any s W hW
 unfold UnpackMPost metaV at h
 rw [ht, hr, hf, hp, hl, he] at h
 exact h
theorem Bk.fourteen {w : World} {g : Nat} {t : TypeId} {c0 c1 c2 c3 c4 c5 c6 c7 c8 c9 c10 c11 c12 c13 : Value} (h : Bk w g t #[c0, c1, c2, c3, c4, c5, c6, c7, c8, c9, c10, c11, c12, c13]) :
   w.cell? ⟨g, 0, none⟩ = some c0 ∧ w.cell? ⟨g, 1, none⟩ = some c1 ∧ w.cell? ⟨g, 2, none⟩ = some c2 ∧ w.cell? ⟨g, 3, none⟩ = some c3 ∧ w.cell? ⟨g, 4, none⟩ = some c4 ∧ w.cell? ⟨g, 5, none⟩ = some c5 ∧ w.cell? ⟨g, 6, none⟩ = some c6 ∧ w.cell? ⟨g, 7, none⟩ = some c7 ∧ w.cell? ⟨g, 8, none⟩ = some c8 ∧ w.cell? ⟨g, 9, none⟩ = some c9 ∧ w.cell? ⟨g, 10, none⟩ = some c10 ∧ w.cell? ⟨g, 11, none⟩ = some c11 ∧ w.cell? ⟨g, 12, none⟩ = some c12 ∧ w.cell? ⟨g, 13, none⟩ = some c13 :=
 ⟨by simpa using h.cell 0, by simpa using h.cell 1, by simpa using h.cell 2, by simpa using h.cell 3, by simpa using h.cell 4, by simpa using h.cell 5, by simpa using h.cell 6, by simpa using h.cell 7, by simpa using h.cell 8, by simpa using h.cell 9, by simpa using h.cell 10, by simpa using h.cell 11, by simpa using h.cell 12, by simpa using h.cell 13⟩
theorem pg_new {w : World} {q g : Nat} {P : PgS} (hb : Bk w q 188 (pgCells g P.m P.o P.both (.pointer none) (.slice none 0 0))) (hs : P.sealed = none) (hl : P.log = []) : Pg w q [q] g P := by
 refine ⟨.pointer none, .slice none 0 0, hb, by rw [hs]; rfl, by rw [hl]; exact ⟨rfl, .inl ⟨rfl, rfl⟩⟩, ⟨by simp, fun b h => by simp [Value.ownBlock] at h⟩, fun b h => ?_⟩
 simp at h
 subst h
 exact hb.lt
set_option maxHeartbeats 4000000 in
theorem open_ok1 {g : Nat} {S : List Nat} {D : DevS} {w : World} (hd : Dev w g S D) (hr : RowAt w) (hb : D.steps ≤ 1000000000) {a b : ByteArray} (ha : D.read 0 = (a, 0)) (hb1 : D.read 1 = (b, 0)) (hu : unmB (nwS a b) = true) (hl : unmL (nwS a b) ≤ (D.sec.length : Int) / 4) (hw : nwI a b = true) :
   Calls Tryz.prog 99 #[ptr g] w (OpenPost g D w) := by
 have HO : Hid (openR D = 0) := show _ = _ by
   unfold openR
   rw [ha, hb1, if_neg (by simp), if_neg (by simp), if_pos ⟨hu, hl⟩]
 have hop : openP D = ⟨unmV (nwS a b), unmV a, unmB a, none, []⟩ := by
   unfold openP restS
   rw [ha, hb1, hw]
   rfl
 have HB := Lib.hid hb
 have HD := Lib.hid hd
 have HR := Lib.hid hr
 have HA := Lib.hid ha
 have HA1 := Lib.hid hb1
 have hq : nwN a b = 1 := by unfold nwN; rw [hw]; rfl
 have u6 : unmE (nwS a b) = 0 := by unfold unmE; rw [hu]; rfl
 have HN := Lib.hid (newest_to (a := a) (b := b) rfl rfl rfl rfl rfl hq u6)
 have HU := Lib.hid (unpackM_to (s := a) rfl rfl rfl rfl rfl rfl)
 have hec : unmE a = 0 ∧ unmB a = true ∨ unmE a = 4 ∧ unmB a = false := unmE_cases a
 unfold unmV at hop
 have hz : unmB a = false → unmT a = 0 ∧ unmR a = 0 ∧ unmF a = 0 ∧ unmP a = 0 ∧ unmL a = 0 := fun h => by obtain ⟨h1, h2, h3, h4, h5, _⟩ := unm_no h; exact ⟨h1, h2, h3, h4, h5⟩
 generalize unmB a = ub at *
 generalize unmT (nwS a b) = t at *
 generalize unmR (nwS a b) = r at *
 generalize unmF (nwS a b) = f at *
 generalize unmP (nwS a b) = p at *
 generalize unmL (nwS a b) = l at *
 generalize unmT a = t2 at *
 generalize unmR a = r2 at *
 generalize unmF a = f2 at *
 generalize unmP a = p2 at *
 generalize unmL a = l2 at *
 generalize unmE a = e2 at *
 have HOP := Lib.hid hop
 have HZ := Lib.hid hz
 clear hz
 have k0 : (0 : Int) ≤ (D.sec.length : Int) := by omega
 obtain ⟨n4, hn4⟩ : ∃ n4, n4 = (D.sec.length : Int) / 4 := ⟨_, rfl⟩
 rw [← hn4] at hl
 have k1 : (D.sec.length : Int) / 4 = n4 := hn4.symm
 have k2 : (D.sec.length : Int).tdiv 4 = n4 := by rw [Int.tdiv_eq_ediv_of_nonneg (by omega)]; exact k1
 have k3 : decide (n4 < l) = false := by simp; omega
 have k4 : IntKind.i64.wrap n4 = n4 := IntWalk.i64_in _ (by have := hd.ok.most; omega)
 have HEC := Lib.hid hec
 clear hu u6 hq hn4 hop hec hw
 clear hd hb ha hb1 hr
 go_enter Tryz.func99, Tryz.ntmps99
 go_wp2_with fail
 refine wp_loop_rounds 3 ?_
 rw [rounds_succ]
 go_wp2_with fail
 (go_at_call 152)
 refine (dread_from (HD.out.off ((Off.refl [] w).alloc _) (by simp)) 0 a 0 HB.out HA.out).mono ?_
 rintro e w2 ⟨rfl, rfl⟩
 go_wp2_with fail
 rw [rounds_succ]
 go_wp2_with fail
 (go_at_call 152)
 refine (dread_from (HD.out.off ((Off.refl [] w).alloc _) (by simp)) 1 b 0 HB.out HA1.out).mono ?_
 rintro e w2 ⟨rfl, rfl⟩
 go_wp2_with fail
 rw [rounds_succ]
 go_wp2_with fail
 (go_at_call 153)
 refine (HN.out _ (HR.out.below ((Below.refl _ w).alloc (Nat.le_refl _) _))).mono ?_
 rintro e w3 ⟨rfl, hb3⟩
 have HBK3 := Lib.hid (bk_below (Bk.new w 234 #[.string a, .string b]) hb3)
 have HW3 := Lib.hid (((Below.refl _ w).alloc (Nat.le_refl _) (.cells #[.string a, .string b] 234)).trans (hb3.mono (by simp)))
 clear hb3
 have HD4 := Lib.hid ((HD.out.off (Off.of_below HW3.out []) (by simp)).off ((Off.refl [] w3).alloc (.cells #[.int .i64 t, .int .i64 r, .int .i64 f, .int .i64 p, .int .i64 l] 40)) (by simp))
 go_wp2_with fail
 go_quiet ((go_at_call 151; exact dsize_quiet HD4.out _))
 have hlt3 : w.heap.size < w3.heap.size := HBK3.out.lt
 have hc30 : w3.cell? ⟨w.heap.size, 0, none⟩ = some (.string a) := by simpa using HBK3.out.cell 0
 have hc31 : w3.cell? ⟨w.heap.size, 1, none⟩ = some (.string b) := by simpa using HBK3.out.cell 1
 go_wp2_with fail
 (go_at_call 154)
 have hbq : Bk (((w3.alloc (.cells #[.int .i64 t, .int .i64 r, .int .i64 f, .int .i64 p, .int .i64 l] 40)).drewN nq).alloc (.cells (pgCells g ⟨t, r, f, p, l⟩ MetaV.zero false (.pointer none) (.slice none 0 0)) 188)) (w3.heap.size + 1) 188 (pgCells g ⟨t, r, f, p, l⟩ MetaV.zero false (.pointer none) (.slice none 0 0)) := bk_new_at _ _ _ _ (by simp)
 have HBQ := Lib.hid hbq
 have HW4 : Hid (Below w.heap.size w (((w3.alloc (.cells #[.int .i64 t, .int .i64 r, .int .i64 f, .int .i64 p, .int .i64 l] 40)).drewN nq).alloc (.cells (pgCells g ⟨t, r, f, p, l⟩ MetaV.zero false (.pointer none) (.slice none 0 0)) 188))) := below_new (below_drewN (below_new HW3.out _) _) _
 clear hbq
 refine (HU.out _ (HR.out.below HW4.out)).mono ?_
 rintro e w5 ⟨rfl, hb5⟩
 have HQ5 := Lib.hid (bk_below HBQ.out hb5)
 have HW5 := Lib.hid (HW4.out.trans (hb5.mono HW4.out.size))
 have hlt5 : w3.heap.size + 1 < w5.heap.size := HQ5.out.lt
 clear hb5
 obtain ⟨c0, c1, c2, c3, c4, c5, c6, c7, c8, c9, c10, c11, c12, c13⟩ := HQ5.out.fourteen
 have g6 := HQ5.out.frozen 6
 have g7 := HQ5.out.frozen 7
 have g8 := HQ5.out.frozen 8
 have g9 := HQ5.out.frozen 9
 have g10 := HQ5.out.frozen 10
 have g11 := HQ5.out.frozen 11
 rcases HEC.out with ⟨rfl, hub⟩ | ⟨rfl, hub⟩
 · have HUB := Lib.hid hub
   clear hub
   go_wp2_with fail
   go_ret2
   have hbk := ((((((HQ5.out.put 6 (.int .i64 t2)).put 7 (.int .i64 r2)).put 8 (.int .i64 f2)).put 9 (.int .i64 p2)).put 10 (.int .i64 l2)).put 11 (.bool true)).alloc (.cells #[.int .i64 t2, .int .i64 r2, .int .i64 f2, .int .i64 p2, .int .i64 l2] 40)
   have hle : w.heap.size ≤ w3.heap.size + 1 := by have := HW3.out.size; omega
   refine ⟨below_new ((((((HW5.out.setCell hle _).setCell hle _).setCell hle _).setCell hle _).setCell hle _).setCell hle _) _, .inr ⟨HO.out, w3.heap.size + 1, hle, rfl, ?_⟩⟩
   rw [HOP.out, HUB.out]
   exact pg_new hbk rfl rfl
 · have HUB := Lib.hid hub
   clear hub
   go_wp2_with fail
   go_ret2
   have hbk := HQ5.out.alloc (.cells #[.int .i64 t2, .int .i64 r2, .int .i64 f2, .int .i64 p2, .int .i64 l2] 40)
   have hle : w.heap.size ≤ w3.heap.size + 1 := by have := HW3.out.size; omega
   refine ⟨below_new HW5.out _, .inr ⟨HO.out, w3.heap.size + 1, hle, rfl, ?_⟩⟩
   rw [HOP.out, HUB.out]
   obtain ⟨z1, z2, z3, z4, z5⟩ := HZ.out HUB.out
   rw [z1, z2, z3, z4, z5] at hbk ⊢
   exact pg_new hbk rfl rfl
set_option maxHeartbeats 4000000 in
theorem open_ok2 {g : Nat} {S : List Nat} {D : DevS} {w : World} (hd : Dev w g S D) (hr : RowAt w) (hb : D.steps ≤ 1000000000) {a b : ByteArray} (ha : D.read 0 = (a, 0)) (hb1 : D.read 1 = (b, 0)) (hu : unmB (nwS a b) = true) (hl : unmL (nwS a b) ≤ (D.sec.length : Int) / 4) (hw : nwI a b = false) :
   Calls Tryz.prog 99 #[ptr g] w (OpenPost g D w) := by
 have HO : Hid (openR D = 0) := show _ = _ by
   unfold openR
   rw [ha, hb1, if_neg (by simp), if_neg (by simp), if_pos ⟨hu, hl⟩]
 have hop : openP D = ⟨unmV (nwS a b), unmV b, unmB b, none, []⟩ := by
   unfold openP restS
   rw [ha, hb1, hw]
   rfl
 have HB := Lib.hid hb
 have HD := Lib.hid hd
 have HR := Lib.hid hr
 have HA := Lib.hid ha
 have HA1 := Lib.hid hb1
 have hq : nwN a b = 0 := by unfold nwN; rw [hw]; rfl
 have u6 : unmE (nwS a b) = 0 := by unfold unmE; rw [hu]; rfl
 have HN := Lib.hid (newest_to (a := a) (b := b) rfl rfl rfl rfl rfl hq u6)
 have HU := Lib.hid (unpackM_to (s := b) rfl rfl rfl rfl rfl rfl)
 have hec : unmE b = 0 ∧ unmB b = true ∨ unmE b = 4 ∧ unmB b = false := unmE_cases b
 unfold unmV at hop
 have hz : unmB b = false → unmT b = 0 ∧ unmR b = 0 ∧ unmF b = 0 ∧ unmP b = 0 ∧ unmL b = 0 := fun h => by obtain ⟨h1, h2, h3, h4, h5, _⟩ := unm_no h; exact ⟨h1, h2, h3, h4, h5⟩
 generalize unmB b = ub at *
 generalize unmT (nwS a b) = t at *
 generalize unmR (nwS a b) = r at *
 generalize unmF (nwS a b) = f at *
 generalize unmP (nwS a b) = p at *
 generalize unmL (nwS a b) = l at *
 generalize unmT b = t2 at *
 generalize unmR b = r2 at *
 generalize unmF b = f2 at *
 generalize unmP b = p2 at *
 generalize unmL b = l2 at *
 generalize unmE b = e2 at *
 have HOP := Lib.hid hop
 have HZ := Lib.hid hz
 clear hz
 have k0 : (0 : Int) ≤ (D.sec.length : Int) := by omega
 obtain ⟨n4, hn4⟩ : ∃ n4, n4 = (D.sec.length : Int) / 4 := ⟨_, rfl⟩
 rw [← hn4] at hl
 have k1 : (D.sec.length : Int) / 4 = n4 := hn4.symm
 have k2 : (D.sec.length : Int).tdiv 4 = n4 := by rw [Int.tdiv_eq_ediv_of_nonneg (by omega)]; exact k1
 have k3 : decide (n4 < l) = false := by simp; omega
 have k4 : IntKind.i64.wrap n4 = n4 := IntWalk.i64_in _ (by have := hd.ok.most; omega)
 have HEC := Lib.hid hec
 clear hu u6 hq hn4 hop hec hw
 clear hd hb ha hb1 hr
 go_enter Tryz.func99, Tryz.ntmps99
 go_wp2_with fail
 refine wp_loop_rounds 3 ?_
 rw [rounds_succ]
 go_wp2_with fail
 (go_at_call 152)
 refine (dread_from (HD.out.off ((Off.refl [] w).alloc _) (by simp)) 0 a 0 HB.out HA.out).mono ?_
 rintro e w2 ⟨rfl, rfl⟩
 go_wp2_with fail
 rw [rounds_succ]
 go_wp2_with fail
 (go_at_call 152)
 refine (dread_from (HD.out.off ((Off.refl [] w).alloc _) (by simp)) 1 b 0 HB.out HA1.out).mono ?_
 rintro e w2 ⟨rfl, rfl⟩
 go_wp2_with fail
 rw [rounds_succ]
 go_wp2_with fail
 (go_at_call 153)
 refine (HN.out _ (HR.out.below ((Below.refl _ w).alloc (Nat.le_refl _) _))).mono ?_
 rintro e w3 ⟨rfl, hb3⟩
 have HBK3 := Lib.hid (bk_below (Bk.new w 234 #[.string a, .string b]) hb3)
 have HW3 := Lib.hid (((Below.refl _ w).alloc (Nat.le_refl _) (.cells #[.string a, .string b] 234)).trans (hb3.mono (by simp)))
 clear hb3
 have HD4 := Lib.hid ((HD.out.off (Off.of_below HW3.out []) (by simp)).off ((Off.refl [] w3).alloc (.cells #[.int .i64 t, .int .i64 r, .int .i64 f, .int .i64 p, .int .i64 l] 40)) (by simp))
 go_wp2_with fail
 go_quiet ((go_at_call 151; exact dsize_quiet HD4.out _))
 have hlt3 : w.heap.size < w3.heap.size := HBK3.out.lt
 have hc30 : w3.cell? ⟨w.heap.size, 0, none⟩ = some (.string a) := by simpa using HBK3.out.cell 0
 have hc31 : w3.cell? ⟨w.heap.size, 1, none⟩ = some (.string b) := by simpa using HBK3.out.cell 1
 go_wp2_with fail
 (go_at_call 154)
 have hbq : Bk (((w3.alloc (.cells #[.int .i64 t, .int .i64 r, .int .i64 f, .int .i64 p, .int .i64 l] 40)).drewN nq).alloc (.cells (pgCells g ⟨t, r, f, p, l⟩ MetaV.zero false (.pointer none) (.slice none 0 0)) 188)) (w3.heap.size + 1) 188 (pgCells g ⟨t, r, f, p, l⟩ MetaV.zero false (.pointer none) (.slice none 0 0)) := bk_new_at _ _ _ _ (by simp)
 have HBQ := Lib.hid hbq
 have HW4 : Hid (Below w.heap.size w (((w3.alloc (.cells #[.int .i64 t, .int .i64 r, .int .i64 f, .int .i64 p, .int .i64 l] 40)).drewN nq).alloc (.cells (pgCells g ⟨t, r, f, p, l⟩ MetaV.zero false (.pointer none) (.slice none 0 0)) 188))) := below_new (below_drewN (below_new HW3.out _) _) _
 clear hbq
 refine (HU.out _ (HR.out.below HW4.out)).mono ?_
 rintro e w5 ⟨rfl, hb5⟩
 have HQ5 := Lib.hid (bk_below HBQ.out hb5)
 have HW5 := Lib.hid (HW4.out.trans (hb5.mono HW4.out.size))
 have hlt5 : w3.heap.size + 1 < w5.heap.size := HQ5.out.lt
 clear hb5
 obtain ⟨c0, c1, c2, c3, c4, c5, c6, c7, c8, c9, c10, c11, c12, c13⟩ := HQ5.out.fourteen
 have g6 := HQ5.out.frozen 6
 have g7 := HQ5.out.frozen 7
 have g8 := HQ5.out.frozen 8
 have g9 := HQ5.out.frozen 9
 have g10 := HQ5.out.frozen 10
 have g11 := HQ5.out.frozen 11
 rcases HEC.out with ⟨rfl, hub⟩ | ⟨rfl, hub⟩
 · have HUB := Lib.hid hub
   clear hub
   go_wp2_with fail
   go_ret2
   have hbk := ((((((HQ5.out.put 6 (.int .i64 t2)).put 7 (.int .i64 r2)).put 8 (.int .i64 f2)).put 9 (.int .i64 p2)).put 10 (.int .i64 l2)).put 11 (.bool true)).alloc (.cells #[.int .i64 t2, .int .i64 r2, .int .i64 f2, .int .i64 p2, .int .i64 l2] 40)
   have hle : w.heap.size ≤ w3.heap.size + 1 := by have := HW3.out.size; omega
   refine ⟨below_new ((((((HW5.out.setCell hle _).setCell hle _).setCell hle _).setCell hle _).setCell hle _).setCell hle _) _, .inr ⟨HO.out, w3.heap.size + 1, hle, rfl, ?_⟩⟩
   rw [HOP.out, HUB.out]
   exact pg_new hbk rfl rfl
 · have HUB := Lib.hid hub
   clear hub
   go_wp2_with fail
   go_ret2
   have hbk := HQ5.out.alloc (.cells #[.int .i64 t2, .int .i64 r2, .int .i64 f2, .int .i64 p2, .int .i64 l2] 40)
   have hle : w.heap.size ≤ w3.heap.size + 1 := by have := HW3.out.size; omega
   refine ⟨below_new HW5.out _, .inr ⟨HO.out, w3.heap.size + 1, hle, rfl, ?_⟩⟩
   rw [HOP.out, HUB.out]
   obtain ⟨z1, z2, z3, z4, z5⟩ := HZ.out HUB.out
   rw [z1, z2, z3, z4, z5] at hbk ⊢
   exact pg_new hbk rfl rfl
theorem open_any {g : Nat} {S : List Nat} {D : DevS} {w : World} (hd : Dev w g S D) (hr : RowAt w) (hb : D.steps ≤ 1000000000) :
   Calls Tryz.prog 99 #[ptr g] w (OpenPost g D w) := by
 rcases open_cases D with h | h | ⟨a, b, ha, hb1⟩
 · exact open_down hd hb (.inl h)
 · exact open_down hd hb (.inr h)
 · cases hu : unmB (nwS a b) with
   | false => exact open_form hd hr hb ha hb1 hu
   | true =>
     by_cases hl : unmL (nwS a b) ≤ (D.sec.length : Int) / 4
     · cases hw : nwI a b with
       | true => exact open_ok1 hd hr hb ha hb1 hu hl hw
       | false => exact open_ok2 hd hr hb ha hb1 hu hl hw
     · exact open_wide hd hr hb ha hb1 hu (by omega)
end Go.Proofs.YtjbcbnemdhbhbaaGreatDoor

import Derived.Test.YtjbcbnemdhbhbaaGreatDoorG49
import Derived.Test.YtjbcbnemdhbhbaaGreatDoorG47
import Derived.Test.YtjbcbnemdhbhbaaGreatDoorG38
namespace Go.Proofs.YtjbcbnemdhbhbaaGreatDoor
open Go.RowKit
set_option maxRecDepth 100000
set_option linter.unusedVariables false
set_option linter.unusedSimpArgs false
set_option maxHeartbeats 16000000 in
theorem kawake_any (w : World) (hr : RowAt w) : Calls Tryz.prog 9 #[] w (TellsQ true w) := by
 have HB := Lib.hid (a0_begin w hr)
 have HR := Lib.hid hr
 clear hr
 go_enter Tryz.func9, Tryz.ntmps9
 go_wp2_with fail
 refine HB.out.mono ?_
 rintro e w1 ⟨u, rfl, h1⟩
 have H1 := Lib.hid h1
 clear h1
 go_wp2_with fail
 (go_at_call 26)
 refine (a0_does (H1.out.below (by first | exact Below.refl _ _ | exact (Below.refl _ w1).alloc (Nat.le_refl _) _)) HR.out).mono ?_
 rintro e w2 ⟨rfl, h2⟩
 have H2 := Lib.hid h2
 clear h2
 go_wp2_with fail
 (go_at_call 26)
 refine (a1_does (H2.out.below (by first | exact Below.refl _ _ | exact (Below.refl _ w2).alloc (Nat.le_refl _) _)) HR.out).mono ?_
 rintro e w3 ⟨rfl, t, b, sp, gg, cap, h3⟩
 have H3 := Lib.hid h3
 clear h3
 go_wp2_with fail
 (go_at_call 26)
 refine (a2_does (H3.out.below (by first | exact Below.refl _ _ | exact (Below.refl _ w3).alloc (Nat.le_refl _) _))).mono ?_
 rintro e w4 ⟨rfl, h4⟩
 have H4 := Lib.hid h4
 clear h4
 go_wp2_with fail
 refine wp_loop_rounds 6 ?_
 rw [rounds_succ]
 obtain ⟨c1, c2, c3, cl⟩ := H4.out.ac
 go_wp2_with fail
 (go_at_call 13)
 refine (a3_step H4.out).mono ?_
 rintro e w5 ⟨rfl, h5⟩
 have H5 := Lib.hid h5
 clear h5 c1 c2 c3 cl
 go_wp2_with fail
 rw [rounds_succ]
 obtain ⟨c1, c2, c3, cl⟩ := H5.out.ac
 go_wp2_with fail
 (go_at_call 13)
 refine (aq1_step H5.out).mono ?_
 rintro e w6 ⟨rfl, h6⟩
 have H6 := Lib.hid h6
 clear h6 c1 c2 c3 cl
 go_wp2_with fail
 rw [rounds_succ]
 obtain ⟨c1, c2, c3, cl⟩ := H6.out.ac
 go_wp2_with fail
 (go_at_call 13)
 refine (aq2_step H6.out).mono ?_
 rintro e w7 ⟨rfl, h7⟩
 have H7 := Lib.hid h7
 clear h7 c1 c2 c3 cl
 go_wp2_with fail
 rw [rounds_succ]
 obtain ⟨c1, c2, c3, cl⟩ := H7.out.ac
 go_wp2_with fail
 (go_at_call 13)
 refine (aq3_step H7.out).mono ?_
 rintro e w8 ⟨rfl, h8⟩
 have H8 := Lib.hid h8
 clear h8 c1 c2 c3 cl
 go_wp2_with fail
 rw [rounds_succ]
 obtain ⟨c1, c2, c3, cl⟩ := H8.out.ac
 go_wp2_with fail
 (go_at_call 13)
 refine (aq4_step H8.out).mono ?_
 rintro e w9 ⟨rfl, h9⟩
 have H9 := Lib.hid h9
 clear h9 c1 c2 c3 cl
 obtain ⟨c1, c2, c3, cl⟩ := H9.out.ac
 go_wp2_with fail
 (go_at_call 15)
 refine (a5_snap H9.out).mono ?_
 rintro e w10 ⟨sp2, rfl, h10⟩
 have H10 := Lib.hid h10
 clear h10 c1 c2 c3 cl
 obtain ⟨⟨c1, c2, c3, cl⟩, d0, dl, d1⟩ := H10.out.ac
 go_wp2_with fail
 (go_at_call 16)
 refine (a6_old H10.out).mono ?_
 rintro e w11 ⟨rfl, h11⟩
 have H11 := Lib.hid h11
 clear h11 c1 c2 c3 cl d0 dl d1
 go_wp2_with fail
 (go_at_call 16)
 refine (a6_new H11.out).mono ?_
 rintro e w12 ⟨rfl, h12⟩
 have H12 := Lib.hid h12
 clear h12
 unfold exVal
 go_wp2_with fail
 go_ret
 exact ⟨rfl, H12.out.all⟩
def rmKey (i : Nat) : ByteArray := ⟨#[107, UInt8.ofNat i]⟩
def rmKeys : List ByteArray := exKey :: (List.range 8).map rmKey
theorem rmKeys_small : ∀ k ∈ rmKeys, 1 ≤ k.size ∧ k.size ≤ 2 := by
 intro k hk
 rcases List.mem_cons.1 hk with rfl | hk
 · exact ⟨by decide, by decide⟩
 · obtain ⟨i, -, rfl⟩ := List.mem_map.1 hk
   exact ⟨show 1 ≤ 2 by omega, show 2 ≤ 2 by omega⟩
structure RmT (v : ByteArray) (Fo : Forest) : Prop where
 ns : ∀ n ∈ Fo.NS, n = exName
 ents : ∀ e ∈ (Fo.tr exName).L, e.cell.key ∈ rmKeys ∧ e.val = v.data.toList ∧ e.pages.length = Tr.pieces v.size
theorem RmT.put {v key : ByteArray} {Fo : Forest} (h : RmT v Fo) {t : Tn} {y : En} (hk : key ∈ rmKeys) (hy : y.cell.key = key) (hv : y.val = v.data.toList) (hp : y.pages.length = Tr.pieces v.size) (hL : t.L = Tr.putE key y (Fo.tr exName).L) : RmT v (Fo.put exName t) ∧ ((Fo.put exName t).tr exName).L ≠ [] := by
 have e1 : (Fo.put exName t).tr exName = t := show (if exName = exName then t else Fo.tr exName) = t from if_pos rfl
 refine ⟨⟨fun n hn => ?_, fun e he => ?_⟩, ?_⟩
 · have hn : n ∈ (Fo.withName exName).NS := hn
   unfold Forest.withName at hn
   split at hn
   · exact h.ns n hn
   · rcases List.mem_cons.1 hn with rfl | hn
     · rfl
     · exact h.ns n hn
 · rw [e1, hL] at he
   rcases Tr.putE_mem key y _ e he with rfl | he
   · exact ⟨by rw [hy]; exact hk, hv, hp⟩
   · exact h.ents e he
 · rw [e1, hL]
   exact Tr.put_ne key y _
theorem RmT.same {v : ByteArray} {Fo G : Forest} (h : RmT v Fo) (h1 : G.tr = Fo.tr) (h2 : G.NS = Fo.NS) : RmT v G := ⟨by rw [h2]; exact h.ns, by rw [h1]; exact h.ents⟩
def rmC (v : ByteArray) : Nat := if v.size ≤ 96 then 8 else 4
def rmAll (v : ByteArray) : Nat := 2 * (rmC v + Tr.pieces v.size) + 8
theorem one_name {l : List ByteArray} (hn : l.Nodup) (h : ∀ n ∈ l, n = exName) : l.length ≤ 1 := by
 match l, hn, h with
 | [], _, _ => simp
 | [_], _, _ => simp
 | a :: b :: t, hn, h =>
   have h1 := h a (by simp)
   have h2 := h b (by simp)
   have h3 := (List.nodup_cons.1 hn).1
   exact absurd (by rw [h1, h2]; simp) h3
theorem RmT.few {v : ByteArray} {Fo : Forest} {σ : Book} (h : RmT v Fo) (ho : Fo.Ok σ) (hv : v.size ≤ 600) : Fo.NS.length ≤ 1 ∧ Tr.RootC σ (rmC v) (Fo.tr exName).root (Fo.tr exName).P (Fo.tr exName).L ∧ Fo.pages.length + 2 + 2 * rmAll v ≤ 63 := by
 have hns := one_name ho.nd h.ns
 have hmain := ho.main_one hns
 have hroot := ho.each exName
 have hlen : (Fo.tr exName).L.length ≤ 9 := by
   have h1 := len_sub _ rmKeys (Tr.rising_keys hroot.rising) (fun k hk => by
     obtain ⟨e, he, rfl⟩ := List.mem_map.1 hk
     exact (h.ents e he).1)
   rw [List.length_map] at h1
   exact h1
 have hvl : ∀ e ∈ (Fo.tr exName).L, e.val.length = v.size := fun e he => by rw [(h.ents e he).2.1]; rfl
 have hsz : ∀ e ∈ (Fo.tr exName).L, Nd.size true e.cell ≤ (if v.size ≤ 96 then 9 + v.size else 15) := fun e he => by
   have h1 := (hroot.ents e he).size (rmKeys_small _ (h.ents e he).1).2 (by rw [(h.ents e he).2.2, hvl e he])
   rw [hvl e he] at h1
   exact h1
 have hpages : Fo.pages.length ≤ 1 + (Fo.tr exName).P.length := by
   unfold Forest.pages
   rw [List.length_append]
   have : (Forest.flat Fo.tr Fo.NS).length ≤ (Fo.tr exName).P.length := by
     match hNS : Fo.NS, hns with
     | [], _ => exact Nat.zero_le _
     | [a], _ =>
       have ha : a = exName := h.ns a (by rw [hNS]; simp)
       subst ha
       unfold Forest.flat
       simp
   omega
 by_cases hs : v.size ≤ 96
 · have hz : Tr.pieces v.size = 0 := by unfold Tr.pieces; rw [if_pos hs]
   have hc : rmC v = 8 := by unfold rmC; rw [if_pos hs]
   obtain ⟨r1, r2⟩ := Tr.Root.few hroot (s := 105) (n := 9) (p := 0) (q := 2) (M := 4) (c := 8) (fun e he => by have := hsz e he; rw [if_pos hs] at this; omega) hlen (fun e he => by rw [(h.ents e he).2.2, hz]; exact Nat.le_refl _) (fun l hl => by omega) (fun m hm => by omega) (by omega) (fun d hd => by
     by_cases h3 : 3 ≤ d
     · have := Nat.pow_le_pow_right (n := 2) (by omega) h3
       omega
     · omega)
   refine ⟨hns, by rw [hc]; exact r1, ?_⟩
   unfold rmAll
   rw [hc, hz]
   omega
 · have hz : Tr.pieces v.size ≤ 2 := by unfold Tr.pieces; rw [if_neg hs]; omega
   have hc : rmC v = 4 := by unfold rmC; rw [if_neg hs]
   obtain ⟨r1, r2⟩ := Tr.Root.few hroot (s := 15) (n := 9) (p := 2) (q := 8) (M := 1) (c := 4) (fun e he => by have := hsz e he; rw [if_neg hs] at this; omega) hlen (fun e he => by rw [(h.ents e he).2.2]; exact hz) (fun l hl => by omega) (fun m hm => by omega) (by omega) (fun d hd => by
     by_cases h3 : 1 ≤ d
     · have := Nat.pow_le_pow_right (n := 2) (by omega) h3
       omega
     · omega)
   refine ⟨hns, by rw [hc]; exact r1, ?_⟩
   unfold rmAll
   rw [hc]
   omega
structure RmU (w0 W : World) (u g b : Nat) (S : List Nat) : Prop where
 cells : Bk W u 33 (lwCells g b (.pointer none) (.slice none 0 0) (.slice none 0 0) (.slice none 0 0) false)
 off : Off [0] w0 W
 new : ∀ x ∈ S, x = 0 ∨ w0.heap.size ≤ x
 old : w0.heap.size ≤ u
 ap : u ∉ S
theorem RmU.go {w0 W W' : World} {u g b : Nat} {S U S' : List Nat} (h : RmU w0 W u g b S) (ho : Off U W W') (hU : ∀ x ∈ U, x ∈ S ∨ (w0.heap.size ≤ x ∧ x ≠ u)) (hf : ∀ x ∈ S', x ∈ S ∨ W.heap.size ≤ x) : RmU w0 W' u g b S' := by
 have hl := h.cells.lt
 have hu : u ∉ U := fun hm => (hU u hm).elim h.ap (fun h1 => h1.2 rfl)
 refine ⟨ho.bk h.cells hu, h.off.then ho (fun x hx => ?_), fun x hx => ?_, h.old, fun hm => ?_⟩
 · rcases hU x hx with h1 | h1
   · exact (h.new x h1).imp (fun e => by simp [e]) id
   · exact .inr h1.1
 · rcases hf x hx with h1 | h1
   · exact h.new x h1
   · exact .inr (Nat.le_trans h.off.size h1)
 · rcases hf u hm with h1 | h1
   · exact h.ap h1
   · omega
theorem RmU.step {w0 W W' : World} {u g b : Nat} {S S' : List Nat} (h : RmU w0 W u g b S) (ho : Off S W W') (hf : ∀ x ∈ S', x ∈ S ∨ W.heap.size ≤ x) : RmU w0 W' u g b S' := h.go ho (fun x hx => .inl hx) hf
theorem RmU.below {w0 W W' : World} {u g b : Nat} {S : List Nat} (h : RmU w0 W u g b S) (hb : Below W.heap.size W W') : RmU w0 W' u g b S := h.go (Off.of_below hb []) (by simp) (fun x hx => .inl hx)
def RmF (v : ByteArray) (w0 : World) (u b n : Nat) (W : World) : Prop := ∃ d Sd D σ Fo pages, d.b = b ∧ d.s = St.empty ∧ FileAt W d Sd D σ Fo (n + 1) pages 64 ∧ RmT v Fo ∧ rmAll v ≤ (d.fr.filter fun y => decide (y.1 < n + 1)).length + (64 - pages) ∧
 RmU w0 W u d.g b (0 :: (d.blocks ++ Sd)) ∧ W.heap[0]? = w0.heap[0]?
theorem RmF.below {v : ByteArray} {w0 : World} {u b n : Nat} {W W' : World} (h : RmF v w0 u b n W) (hb : Below W.heap.size W W') : RmF v w0 u b n W' := by
 obtain ⟨d, Sd, D, σ, Fo, pages, h1, h2, h3, h4, h5, h6, h7⟩ := h
 exact ⟨d, Sd, D, σ, Fo, pages, h1, h2, h3.below hb, h4, h5, h6.below hb, (hb.block _ h3.row.lt).trans h7⟩
theorem RmF.all {v : ByteArray} {w0 : World} {u b n : Nat} {W : World} (h : RmF v w0 u b n W) : Below w0.heap.size w0 W := by
 obtain ⟨d, Sd, D, σ, Fo, pages, h1, h2, h3, h4, h5, h6, h7⟩ := h
 exact ⟨h6.off.os, h6.off.tape, h6.off.output, h6.off.size, fun i hi => by
   by_cases e : i = 0
   · subst e; exact h7
   · exact h6.off.block i hi (by simpa using e)⟩
theorem rm_begin (v : ByteArray) (hv : v.size ≤ 600) (w : World) (hr : RowAt w) : Calls Tryz.prog 10 #[.int .i64 64] w (fun e w' => ∃ u b, e = .returned (.pointer (some ⟨u, 0, none⟩)) ∧ RmF v w u b 0 w') := by
 refine (lbegin_any 64 ⟨by omega, by omega⟩ w hr).mono ?_
 rintro e w' ⟨u, b, q, r, f, g, Sf, Sd, rfl, h1, h2, h3, h4, h5⟩
 have hT : RmT v Forest.zero := ⟨fun n hn => (by cases hn), fun e he => (by cases he)⟩
 have hfew := (hT.few Forest.zero_ok hv).2.2
 have hrl := hr.lt
 refine ⟨u, b, rfl, _, Sd, _, _, Forest.zero, 1, rfl, rfl, h2, hT, ?_, ⟨h1, (Off.of_below h3 []).mono (by simp), fun x hx => ?_, h4 u (by simp), fun hm => ?_⟩, h3.block _ hrl⟩
 · show rmAll v ≤ 0 + (64 - 1)
   omega
 · rcases List.mem_cons.1 hx with rfl | hx
   · exact .inl rfl
   · exact .inr (h4 x (List.mem_cons_of_mem _ hx))
 · rcases List.mem_cons.1 hm with hm | hm
   · have := h4 u (by simp); omega
   · exact h5 hm
theorem rm_meta {v : ByteArray} {w0 : World} {u b n : Nat} {W : World} (h : RmF v w0 u b n W) : ∃ m : MetaV, m.t = ((n + 1 : Nat) : Int) ∧ Calls Tryz.prog 14 #[.pointer (some ⟨b, 0, none⟩)] W (SaysM m W) := by
 obtain ⟨d, Sd, D, σ, Fo, pages, rfl, h2, h3, h4, h5, h6, h7⟩ := h
 exact ⟨d.P.m, by rw [h3.plain.m], dbmeta_g h3.db⟩
theorem RmF.cell {v : ByteArray} {w0 : World} {u b n : Nat} {W : World} (h : RmF v w0 u b n W) : W.cell? ⟨u, 1, none⟩ = some (.pointer (some ⟨b, 0, none⟩)) ∧ u < W.heap.size := by
 obtain ⟨d, Sd, D, σ, Fo, pages, rfl, h2, h3, h4, h5, h6, h7⟩ := h
 exact ⟨h6.cells.cell 1, h6.cells.lt⟩
def RmW (v : ByteArray) (w0 : World) (u t b n j : Nat) (W : World) : Prop := ∃ E S σ k Fo, E.t = t ∧ E.b = b ∧ E.txn = n + 2 ∧ E.limit = 64 ∧ E.s = St.empty ∧ E.base = rmAll v ∧ E.ro = w0.heap[0]? ∧ (w0.heap.size ≤ E.rm ∧ E.rm ≠ u) ∧ (∀ g, E.c3.ownBlock = some g → g ≠ u) ∧
 St0 E False W S σ k Fo j ∧ RmT v Fo ∧ rmAll v ≤ k + j * (rmC v + Tr.pieces v.size) ∧ (j = 0 ∨ (Fo.tr exName).L ≠ []) ∧ RmU w0 W u E.g E.b S
theorem RmW.below {v : ByteArray} {w0 : World} {u t b n j : Nat} {W W' : World} (h : RmW v w0 u t b n j W) (hb : Below W.heap.size W W') : RmW v w0 u t b n j W' := by
 obtain ⟨E, S, σ, k, Fo, h1, h2, h3, h4, h5, h6, h7, h8, h9, h10, h11, h12, h13, h14⟩ := h
 exact ⟨E, S, σ, k, Fo, h1, h2, h3, h4, h5, h6, h7, h8, h9, h10.below hb, h11, h12, h13, h14.below hb⟩
theorem rm_writer {v : ByteArray} (hv : v.size ≤ 600) {w0 : World} {u b n : Nat} (hn : n ≤ 200) {W : World} (h : RmF v w0 u b n W) : Calls Tryz.prog 11 #[.pointer (some ⟨b, 0, none⟩)] W (fun e w' => ∃ t, e = .returned (.tuple #[.pointer (some ⟨t, 0, none⟩), .int .i64 0]) ∧ RmW v w0 u t b n 0 w') := by
 obtain ⟨d, Sd, D, σ, Fo, pages, rfl, h2, h3, h4, h5, h6, h7⟩ := h
 have hp := h3.plain
 have hfew := (h4.few hp.ok hv).2.2
 have hold : (min (((n + 1 : Nat) : Int) - 1) (d.s.oldest ((n + 1 : Nat) : Int))) = (n : Int) := by
   rw [h2]
   have : St.empty.oldest ((n + 1 : Nat) : Int) = ((n + 1 : Nat) : Int) := by simp [St.oldest, St.liveK, St.live, St.empty, srt, oldestOf]
   rw [this]
   omega
 have hlen := hp.perm.length_eq
 unfold Fr.pg nums at hlen
 rw [List.length_append, List.length_append, List.length_map, List.length_map, List.length_range] at hlen
 have hpf := hp.few
 have hp64 : Fr.pieces 64 = 2 := by decide
 rw [hp64] at hpf
 have hone := hp.one
 refine (file_begin (F := False) (base := rmAll v) (k := rmAll v) (keep := []) h3 (by omega) (by rw [hold]; omega) ?_ (.inr (by omega)) (fun y hy h9 => by simp) (fun m hm => by cases hm)).mono ?_
 · rw [hold]
   unfold firstSure
   rw [Fr.take_old _ hp.sorted]
   exact h5
 rintro e w' ⟨t, rm, S, rfl, k1, k2, k3, k4⟩
 have hul := h6.cells.lt
 refine ⟨t, rfl, _, S, σ, rmAll v, Fo, rfl, rfl, rfl, rfl, h2, rfl, h7, ⟨Nat.le_trans h6.off.size k4, by show rm ≠ u; omega⟩, fun g hg e => ?_, k1, h4, by omega, .inl rfl, h6.go k2 (fun x hx => .inl ?_) k3⟩
 · subst e
   have hg' : d.pv.ownBlock = some g := hg
   exact h6.ap (by simp [Di.blocks, hg'])
 · rw [List.mem_singleton] at hx
   subst hx
   simp [Di.blocks]
theorem rm_put {v : ByteArray} (hv : v.size ≤ 600) {w0 : World} {u t b n j : Nat} (hj : j ≤ 1) {W : World} (h : RmW v w0 u t b n j W) {key : ByteArray} (hk : key ∈ rmKeys) : Calls Tryz.prog 12 #[.pointer (some ⟨t, 0, none⟩), .string exName, .string key, .string v] W (fun e w' => e = .returned (.int .i64 0) ∧ RmW v w0 u t b n (j + 1) w') := by
 obtain ⟨E, S, σ, k, Fo, rfl, rfl, h3, h4, h5, h6, h7, h8, h9, h10, h11, h12, h13, h14⟩ := h
 have hfew := h11.few h10.wr.ok hv
 have hks := rmKeys_small key hk
 have hka : rmC v + Tr.pieces v.size ≤ k := by
   have h1 : rmAll v = 2 * (rmC v + Tr.pieces v.size) + 8 := rfl
   have h2 := Nat.mul_le_mul_right (rmC v + Tr.pieces v.size) hj
   omega
 refine (st0_put h10 (by omega) exName key v ⟨by decide, by decide⟩ hks.1 (by omega) (by omega) hfew.2.1 hka).mono ?_
 rintro e w' ⟨rfl, y, tr, σ', S', k', hp⟩
 obtain ⟨q1, q2⟩ := h11.put hk hp.kk hp.vv hp.pp hp.L
 refine ⟨rfl, E, S', σ', k', Fo.put exName tr, rfl, rfl, h3, h4, h5, h6, h7, h8, h9, hp.st, q1, ?_, .inr q2, h14.go hp.off (fun x hx => ?_) hp.fresh⟩
 · have h1 := hp.sure
   rw [Nat.succ_mul]
   omega
 · rcases List.mem_cons.1 hx with rfl | hx
   · exact .inr h8
   · exact .inl hx
def RmQ (v : ByteArray) (w0 : World) (u t b n i : Nat) (W : World) : Prop := ∃ (K : Kn) (S : List Nat) (G : Forest) (σ : Book) (pages : Nat) (l : List (Nat × Nat)) (ch : List Nat), K.t = t ∧ K.b = b ∧ K.txn = n + 2 ∧ K.limit = 64 ∧ K.s = St.empty ∧ K.base = rmAll v ∧ K.ro = w0.heap[0]? ∧
 Ldd K i W S G σ pages l ch ∧ RmT v G ∧ RmU w0 W u K.g K.b S
theorem rm_step0 {v : ByteArray} (hv : v.size ≤ 600) {w0 : World} {u t b n : Nat} {W : World} (h : RmW v w0 u t b n 2 W) : Calls Tryz.prog 13 #[.pointer (some ⟨t, 0, none⟩)] W (fun e w' => e = .returned (.tuple #[.bool false, .int .i64 0]) ∧ RmQ v w0 u t b n 1 w') := by
 obtain ⟨E, S, σ, k, Fo, rfl, rfl, h3, h4, h5, h6, h7, h8, h9, h10, h11, h12, h13, h14⟩ := h
 have hfew := h11.few h10.wr.ok hv
 have hmf := h10.wr.ok.main_few
 have hL : (Fo.tr exName).L ≠ [] := h13.resolve_left (by omega)
 have hp64 : Fr.pieces 64 = 2 := by decide
 have hneed : Fo.NS.length * Tr.need (Fo.main.L.length + Fo.NS.length) ≤ 6 := by
   have h1 := Tr.need_mono (show Fo.main.L.length + Fo.NS.length ≤ 2 by omega)
   have h2 : Tr.need 2 = 6 := by decide
   have h3 := Nat.mul_le_mul hfew.1 h1
   omega
 refine (st0_step h10 (by omega) (fun m r hr => ?_) (by
   rw [h4, hp64]
   have h1 : rmAll v = 2 * (rmC v + Tr.pieces v.size) + 8 := rfl
   omega)).mono ?_
 · obtain ⟨e1, e2⟩ := h10.wr.ok.law m r hr
   rw [h11.ns m e2] at e1
   intro hr0
   exact hL ((Tr.Root.zero (h10.wr.ok.each exName)).1 (by rw [← e1]; exact hr0))
 · rintro e w' ⟨rfl, G, σ', pages, l, ch, S', k1, k2, k3, k4, k5⟩
   exact ⟨rfl, E.kn, S', G, σ', pages, l, ch, rfl, rfl, h3, h4, h5, h6, h7, k1, h11.same k2 k3, h14.step k4 k5⟩
theorem rm_step1 {v : ByteArray} {w0 : World} {u t b n : Nat} {W : World} (h : RmQ v w0 u t b n 1 W) : Calls Tryz.prog 13 #[.pointer (some ⟨t, 0, none⟩)] W (fun e w' => e = .returned (.tuple #[.bool false, .int .i64 0]) ∧ RmQ v w0 u t b n 2 w') := by
 obtain ⟨K, S, G, σ, pages, l, ch, rfl, rfl, h1, h2, h3, h4, h5, h6, h7, h8⟩ := h
 refine (ldd_step1 h6).mono ?_
 rintro e w' ⟨rfl, S', k1, k2, k3⟩
 exact ⟨rfl, K, S', G, σ, pages, l, ch, rfl, rfl, h1, h2, h3, h4, h5, k1, h7, h8.step k2 k3⟩
theorem rm_step2 {v : ByteArray} {w0 : World} {u t b n : Nat} {W : World} (h : RmQ v w0 u t b n 2 W) : Calls Tryz.prog 13 #[.pointer (some ⟨t, 0, none⟩)] W (fun e w' => e = .returned (.tuple #[.bool false, .int .i64 0]) ∧ RmQ v w0 u t b n 3 w') := by
 obtain ⟨K, S, G, σ, pages, l, ch, rfl, rfl, h1, h2, h3, h4, h5, h6, h7, h8⟩ := h
 refine (ldd_step2 h6).mono ?_
 rintro e w' ⟨rfl, S', k1, k2, k3⟩
 exact ⟨rfl, K, S', G, σ, pages, l, ch, rfl, rfl, h1, h2, h3, h4, h5, k1, h7, h8.step k2 k3⟩
theorem rm_step3 {v : ByteArray} {w0 : World} {u t b n : Nat} {W : World} (h : RmQ v w0 u t b n 3 W) : Calls Tryz.prog 13 #[.pointer (some ⟨t, 0, none⟩)] W (fun e w' => e = .returned (.tuple #[.bool false, .int .i64 0]) ∧ RmQ v w0 u t b n 4 w') := by
 obtain ⟨K, S, G, σ, pages, l, ch, rfl, rfl, h1, h2, h3, h4, h5, h6, h7, h8⟩ := h
 refine (ldd_step3 h6).mono ?_
 rintro e w' ⟨rfl, S', k1, k2, k3⟩
 exact ⟨rfl, K, S', G, σ, pages, l, ch, rfl, rfl, h1, h2, h3, h4, h5, k1, h7, h8.step k2 k3⟩
theorem rm_done {v : ByteArray} {w0 : World} (hr : 0 < w0.heap.size) {u t b n : Nat} {W : World} (h : RmQ v w0 u t b n 4 W) : Calls Tryz.prog 13 #[.pointer (some ⟨t, 0, none⟩)] W (fun e w' => e = .returned (.tuple #[.bool true, .int .i64 0]) ∧ RmF v w0 u b (n + 1) w') := by
 obtain ⟨K, S, G, σ, pages, l, ch, rfl, rfl, h1, h2, h3, h4, h5, h6, h7, h8⟩ := h
 refine (ldd_done h6).mono ?_
 rintro e w' ⟨rfl, d', Sd', D', k1, k2, k3, k4, k5, k6, k7, k8, k9, k10, k11, k12⟩
 rw [h1, h2] at k1
 rw [h1, h2, h4] at k10
 refine ⟨rfl, d', Sd', D', σ, G, pages, k2, k6.trans h3, k1, h7, by rw [k7]; exact k10, ?_, k9.trans h5⟩
 have hu := h8.go (S' := d'.blocks ++ Sd') k11 (fun x hx => .inl hx) k12
 rw [k5]
 refine ⟨hu.cells, hu.off, fun x hx => ?_, hu.old, fun hm => ?_⟩
 · rcases List.mem_cons.1 hx with rfl | hx
   · exact .inl rfl
   · exact hu.new x hx
 · rcases List.mem_cons.1 hm with hm | hm
   · have := hu.old; omega
   · exact hu.ap hm
theorem andMask (n : Int) (k : Nat) (hk : k < 1024) : ∃ m : Nat, m ≤ k ∧ bits .and .i64 n (k : Int) = (m : Int) := by
 have h : (BitVec.ofInt 64 n &&& BitVec.ofInt 64 (k : Int)).toNat ≤ k := by
   rw [BitVec.toNat_and]
   refine Nat.le_trans Nat.and_le_right ?_
   rw [BitVec.ofInt_natCast, BitVec.toNat_ofNat]
   exact Nat.mod_le _ _
 refine ⟨_, h, ?_⟩
 show IntKind.i64.wrap ((BitVec.ofInt 64 n &&& BitVec.ofInt 64 (k : Int)).toNat : Int) = _
 exact IntWalk.i64_in _ (by omega)
set_option maxHeartbeats 16000000 in
theorem kvRoom_long (times : Int) (val : ByteArray) (w : World) (hv : 600 < val.size) (hr : RowAt w) : Calls Tryz.prog 3 #[.int .i64 times, .string val] w (Holds w) := by
 have HA := Lib.hid (kawake_any w hr)
 have z1 : decide ((600 : Int) < (val.size : Int)) = true := decide_eq_true (by omega)
 have z2 : decide (600 < val.size) = true := decide_eq_true hv
 clear hr
 go_enter Tryz.func3, Tryz.ntmps3
 go_wp2_with fail
 refine HA.out.mono ?_
 rintro e w1 ⟨rfl, hb1⟩
 have HB1 := Lib.hid hb1
 clear hb1
 go_wp2_with fail
 go_ret
 exact ⟨rfl, HB1.out⟩
set_option maxHeartbeats 16000000 in
theorem kvRoom_short (times : Int) (val : ByteArray) (w : World) (hv : val.size ≤ 600) (hr : RowAt w) : Calls Tryz.prog 3 #[.int .i64 times, .string val] w (Holds w) := by
 have HA := Lib.hid (kawake_any w hr)
 have HR := Lib.hid hr
 have HV := Lib.hid hv
 obtain ⟨N, hN, hbt⟩ := andMask times 127 (by omega)
 have hbt' : bits .and .i64 times 127 = (N : Int) := hbt
 have z1 : decide ((600 : Int) < (val.size : Int)) = false := decide_eq_false (by omega)
 have z2 : decide (600 < val.size) = false := decide_eq_false (by omega)
 clear hr hbt hv
 go_enter Tryz.func3, Tryz.ntmps3
 go_wp2_with fail
 refine HA.out.mono ?_
 rintro e w1 ⟨rfl, hb1⟩
 have HB1 := Lib.hid hb1
 clear hb1
 go_wp2_with fail
 have HRL := Lib.hid (show 0 < w1.heap.size from (HR.out.below HB1.out).lt)
 refine (rm_begin val HV.out w1 (HR.out.below HB1.out)).mono ?_
 rintro e w2 ⟨u, b, rfl, h2⟩
 have H2 := Lib.hid h2
 clear h2
 go_wp2_with fail
 go_loopw [6] (fun i wr => ∃ j : Nat, i = .int .i64 j ∧ j ≤ N ∧ Hid (RmF val w1 u b j wr)) (fun i _ => N - (intOf i).toNat)
 case atStart => exact ⟨0, rfl, Nat.zero_le _, H2⟩
 case round =>
   obtain ⟨j, rfl, hj, hI⟩ := hrel
   by_cases hlt : j < N
   · have z3 : decide ((j : Int) < (N : Int)) = true := decide_eq_true (by omega)
     obtain ⟨m, hm, hbm⟩ := andMask (j : Int) 7 (by omega)
     have hbm' : bits .and .i64 (j : Int) 7 = (m : Int) := hbm
     have hwm : IntKind.u8.wrap (m : Int) = (m : Int) := by rw [IntKind.wrap_u8]; omega
     obtain ⟨c1, cl⟩ := hI.out.cell
     clear hbm
     go_wp2_with fail
     (go_at_call 11)
     refine (rm_writer HV.out (by omega) hI.out).mono ?_
     rintro e w3 ⟨t, rfl, h3⟩
     have H3 := Lib.hid h3
     clear h3 c1 cl
     go_wp2_with fail
     refine (rm_put HV.out (by omega) H3.out (key := exKey) (by simp [rmKeys])).mono ?_
     rintro e w4 ⟨rfl, h4⟩
     have H4 := Lib.hid h4
     clear h4
     have hcv := conv_cells (W := w4.alloc (.cells #[.int .u8 107, .int .u8 m] 5)) (g := w4.heap.size) (o := 0) (n := 2) (cap := 2) (L := [107, UInt8.ofNat m]) rfl (fun i hi => by
       rw [Nat.zero_add, (Bk.new w4 5 #[.int .u8 107, .int .u8 m]).cell i]
       have hi : i < 2 := hi
       have : i = 0 ∨ i = 1 := by omega
       rcases this with rfl | rfl
       · rfl
       · have e : (UInt8.ofNat m).toNat = m := by simp; omega
         show some (Value.int .u8 (m : Int)) = some (Value.int .u8 (((UInt8.ofNat m).toNat : Nat) : Int))
         rw [e])
     go_wp2_with fail
     refine (rm_put HV.out (by omega) (H4.out.below ((Below.refl _ w4).alloc (Nat.le_refl _) _)) (key := rmKey m) (List.mem_cons_of_mem _ (List.mem_map.2 ⟨m, List.mem_range.2 (by omega), rfl⟩))).mono ?_
     rintro e w5 ⟨rfl, h5⟩
     have H5 := Lib.hid h5
     clear h5 hcv
     go_wp2_with fail
     refine wp_loop_rounds 7 ?_
     rw [rounds_succ]
     go_wp2_with fail
     refine (rm_step0 HV.out H5.out).mono ?_
     rintro e w6 ⟨rfl, h6⟩
     have H6 := Lib.hid h6
     clear h6
     go_wp2_with fail
     rw [rounds_succ]
     go_wp2_with fail
     refine (rm_step1 H6.out).mono ?_
     rintro e w7 ⟨rfl, h7⟩
     have H7 := Lib.hid h7
     clear h7
     go_wp2_with fail
     rw [rounds_succ]
     go_wp2_with fail
     refine (rm_step2 H7.out).mono ?_
     rintro e w8 ⟨rfl, h8⟩
     have H8 := Lib.hid h8
     clear h8
     go_wp2_with fail
     rw [rounds_succ]
     go_wp2_with fail
     refine (rm_step3 H8.out).mono ?_
     rintro e w9 ⟨rfl, h9⟩
     have H9 := Lib.hid h9
     clear h9
     go_wp2_with fail
     rw [rounds_succ]
     go_wp2_with fail
     refine (rm_done HRL.out H9.out).mono ?_
     rintro e w10 ⟨rfl, h10⟩
     have H10 := Lib.hid h10
     clear h10
     go_wp2_with fail
     rw [rounds_succ]
     go_wp2_with fail
     go_roundw
     case rel => first | exact ⟨j + 1, by go_num, by omega, H10⟩ | ((repeat apply Exists.intro); exact ⟨⟨j + 1, by go_num, by omega, H10⟩, rfl⟩)
     case measure => simp [intOf]; omega
   · have z3 : decide ((j : Int) < (N : Int)) = false := decide_eq_false (by omega)
     obtain rfl : j = N := by omega
     obtain ⟨c1, cl⟩ := hI.out.cell
     obtain ⟨⟨mt, mr, mf, mp, ml⟩, hmt, hme⟩ := rm_meta hI.out
     have hmt : mt = ((j + 1 : Nat) : Int) := hmt
     subst hmt
     have HME := Lib.hid hme
     have hf0 := mfld0
     have hw : IntKind.i64.wrap (1 + (j : Int)) = ((j + 1 : Nat) : Int) := by rw [IntKind.wrap_i64]; omega
     clear hme
     go_wp2_with fail
     refine HME.out.mono ?_
     rintro e w3 ⟨rfl, hb3⟩
     have HB3 := Lib.hid (HB1.out.trans ((hI.out.all.trans (hb3.mono hI.out.all.size)).mono HB1.out.size))
     clear hb3
     go_wp2_with fail
     go_ret
     exact ⟨by simp, HB3.out⟩
theorem kvRoom_walk (times : Int) (val : ByteArray) (w : World) (_ : (Lit.int .i64 times).wf = true) (_ : val.size ≤ maxLen) (hr : RowAt w) : Calls Tryz.prog 3 #[.int .i64 times, .string val] w (Holds w) := by
 by_cases hv : val.size ≤ 600
 · exact kvRoom_short times val w hv hr
 · exact kvRoom_long times val w (by omega) hr
end Go.Proofs.YtjbcbnemdhbhbaaGreatDoor

import Derived.Test.YtjbcbnemdhbhbaaGreatDoorG36
import Derived.Test.YtjbcbnemdhbhbaaGreatDoorG43
namespace Go.Proofs.YtjbcbnemdhbhbaaGreatDoor
open Go.RowKit
set_option maxRecDepth 100000
set_option linter.unusedVariables false
set_option linter.unusedSimpArgs false
abbrev txNew (b : Nat) (m : MetaV) (f dm rm : Nat) : Array Value :=
 #[.pointer (some ⟨b, 0, none⟩), .int .i64 (m.t + 1), .int .i64 (m.t + 1), .int .i64 m.r, .int .i64 m.f, .int .i64 m.p, .int .i64 m.l, .pointer (some ⟨f, 0, none⟩), .map (some dm), .slice none 0 0, .slice none 0 0, .map (some rm), .int .i64 0, .bool false]
structure Begun (d : Di) (w w' : World) (t f dm rm : Nat) (Sf : List Nat) : Prop where
 cells : Bk w' t 103 (txNew d.b d.P.m f dm rm)
 free : FLO w' f Sf d.fr
 map : IMap Tryz.prog 3 w' dm 0 (fun _ => none)
 roots : SMap Tryz.prog 9 w' rm 0 (fun _ => none)
 db : DbAt w' { d with wv := .pointer (some ⟨t, 0, none⟩) }
 off : Off [d.b] w w'
 new : w.heap.size ≤ t ∧ w.heap.size ≤ dm ∧ w.heap.size ≤ rm ∧ ∀ b ∈ Sf, w.heap.size ≤ b
 nodup : (t :: dm :: Sf).Nodup
 rm : rm ∉ t :: dm :: Sf
abbrev M0 : Obj := .map #[] 0
theorem begun_end {w w3 Wx : World} {d : Di} (h : DbAt w d) (hb3 : Below w.heap.size w w3) (hbx : Below w3.heap.size w3 Wx) {f4 dm rm : Nat} {S4 : List Nat} (hfl : FLO Wx f4 S4 d.fr) (hS4 : ∀ b ∈ S4, w3.heap.size ≤ b) (hdm : IMap Tryz.prog 3 Wx dm 0 (fun _ => none)) (hrm : SMap Tryz.prog 9 Wx rm 0 (fun _ => none)) (hdr : dm ≠ rm) (hdl : w3.heap.size ≤ dm) (hrl : w3.heap.size ≤ rm) (hdS : dm ∉ S4) (hrS : rm ∉ S4) {t : Nat} (hte : Wx.heap.size = t) :
   (∃ Sf, Begun d w ((Wx.alloc (.cells (txNew d.b d.P.m f4 dm rm) 103)).setCell ⟨d.b, 4, none⟩ (.pointer (some ⟨t, 0, none⟩))) t f4 dm rm Sf) ∧
   ((Wx.alloc (.cells (txNew d.b d.P.m f4 dm rm) 103)).setCell ⟨d.b, 4, none⟩ (.pointer (some ⟨t, 0, none⟩))).cell? ⟨d.b, 4, none⟩ = some (.pointer (some ⟨t, 0, none⟩)) ∧ d.b < ((Wx.alloc (.cells (txNew d.b d.P.m f4 dm rm) 103)).setCell ⟨d.b, 4, none⟩ (.pointer (some ⟨t, 0, none⟩))).heap.size := by
 subst hte
 have hbw : Below w.heap.size w Wx := hb3.trans (hbx.mono hb3.size)
 have hs3 := hb3.size
 have hbw2 : Below w.heap.size w (Wx.alloc (.cells (txNew d.b d.P.m f4 dm rm) 103)) := hbw.alloc hbw.size _
 have hold := h.old
 have htop := bk_below h.top hbw2
 have hof : Off [d.b] (Wx.alloc (.cells (txNew d.b d.P.m f4 dm rm) 103)) ((Wx.alloc (.cells (txNew d.b d.P.m f4 dm rm) 103)).setCell ⟨d.b, 4, none⟩ (.pointer (some ⟨Wx.heap.size, 0, none⟩))) := (Off.refl [d.b] _).setCell (p := ⟨d.b, 4, none⟩) (.inl (by simp)) _
 have hofx : Off [d.b] Wx ((Wx.alloc (.cells (txNew d.b d.P.m f4 dm rm) 103)).setCell ⟨d.b, 4, none⟩ (.pointer (some ⟨Wx.heap.size, 0, none⟩))) := ((Off.refl [d.b] Wx).alloc _).trans hof
 have hbl : d.b < w.heap.size := h.top.lt
 obtain ⟨Sf, t1, t2, t3⟩ := hfl.tight
 have hnb : ∀ x, w3.heap.size ≤ x → x ∉ [d.b] := fun x hx hm => by rw [List.mem_singleton] at hm; omega
 have hbx2 := hbx.size
 refine ⟨⟨Sf, hof.bk (Bk.new Wx _ _) (hnb _ hbx2), t3.off hofx (fun b hb => hnb b (hS4 b (t2 b hb))), hdm.off hofx (hnb _ hdl), hrm.off hofx (hnb _ hrl), ?_, (Off.of_below hbw2 [d.b]).trans hof, ⟨Nat.le_trans hs3 hbx2, Nat.le_trans hs3 hdl, Nat.le_trans hs3 hrl, fun b hb => Nat.le_trans hs3 (hS4 b (t2 b hb))⟩, ?_, ?_⟩, (htop.put 4 _).cell 4, ?_⟩
 · have hdb := h.below hbw2
   have hno : ∀ x, x ∈ d.T ++ (d.Sf ++ d.pv.ownBlock.toList) → x ∉ [d.b] := fun x hx hm => by rw [List.mem_singleton] at hm; subst hm; exact h.bo hx
   exact ⟨hdb.top.put 4 _, hdb.pg.off hof (fun b hb => hno b (by simp [hb])), hof.bk hdb.rd (fun hm => by rw [List.mem_singleton] at hm; exact (hdb.rd.ne hdb.top (by decide)) hm), hdb.free.off hof (fun b hb => hno b (by simp [hb])), hof.own hdb.pcs (fun b hb => hno b (by simp [hb])), h.bo, h.ro⟩
 · refine List.nodup_cons.2 ⟨fun hm => ?_, List.nodup_cons.2 ⟨fun hm => hdS (t2 _ hm), t1⟩⟩
   rcases List.mem_cons.1 hm with hm | hm
   · have := hdm.lt; omega
   · have := t3.old _ hm; omega
 · intro hm
   rcases List.mem_cons.1 hm with hm | hm
   · have := hrm.lt; omega
   · rcases List.mem_cons.1 hm with hm | hm
     · exact hdr hm.symm
     · exact hrS (t2 _ hm)
 · have := hbw2.size
   simp at this ⊢
   omega
def wcell (W : World) (a : Addr) : Value := (W.cell? a).getD (.bool false)
theorem wcell_of {W : World} {a : Addr} {v : Value} (h : W.cell? a = some v) : W.cell? a = some (wcell W a) := by unfold wcell; rw [h]; rfl
theorem Below.more {a w : World} (h : Below a.heap.size a w) (o : Obj) : Below a.heap.size a (w.alloc o) := h.alloc h.size o
set_option maxHeartbeats 16000000 in
theorem begin_any {w : World} {d : Di} (h : DbAt w d) (hw : d.wv = .pointer none ∨ ∃ t cs, d.wv = .pointer (some ⟨t, 0, none⟩) ∧ Bk w t 103 cs ∧ cs[13]? = some (.bool true)) (hm : d.P.m.t < 1099511627776) (hm0 : 0 ≤ d.P.m.t) (hl : d.fr.length ≤ 1000) :
   Calls Tryz.prog 11 #[.pointer (some ⟨d.b, 0, none⟩)] w (fun e w' => ∃ t f dm rm Sf, e = .returned (.tuple #[.pointer (some ⟨t, 0, none⟩), .int .i64 0]) ∧ Begun d w w' t f dm rm Sf) := by
 have HM := Lib.hid fun (W : World) (hb : Below w.heap.size w W) => dbmeta_g (h.below hb)
 have HD := Lib.hid h
 have z1 : decide ((1099511627776 : Int) ≤ d.P.m.t) = false := decide_eq_false (by omega)
 have hf0 := mfld0
 have c4 := h.top.cell 4
 have c2 := h.top.cell 2
 have lb := h.top.lt
 have HFR := Lib.hid fun (W : World) (hb : Below w.heap.size w W) => fcopy_any (h.free.below hb) (by omega)
 obtain ⟨b, q, r, f, g, T, Sf, P, s, fr, pv, pcs, wv⟩ := d
 simp only at HM HD z1 c4 c2 lb HFR hw hm hm0 ⊢
 clear h hl
 have hmm := @run_makeMap Tryz.prog
 have HL0 := Lib.hid hm0
 obtain ⟨mt, hmt⟩ : ∃ mt, mt = P.m.t := ⟨_, rfl⟩
 have HMT := Lib.hid hmt
 have y1 : IntKind.i64.wrap (P.m.t + 1) = P.m.t + 1 := by rw [IntKind.wrap_i64]; omega
 clear hm hm0 hmt
 have hw2 : wv = .pointer none ∨ ∃ t0, wv = .pointer (some ⟨t0, 0, none⟩) ∧ w.cell? ⟨t0, 13, none⟩ = some (.bool true) ∧ t0 < w.heap.size := by
   rcases hw with h | ⟨t0, cs, h, ht, ht13⟩
   · exact .inl h
   · exact .inr ⟨t0, h, (ht.cell 13).trans ht13, ht.lt⟩
 clear hw
 rcases hw2 with rfl | ⟨t0, rfl, q13, ltt⟩
 all_goals
   go_enter Tryz.func11, Tryz.ntmps11
   go_wp2_with fail
   refine (HM.out _ (Below.refl _ _)).mono ?_
   rintro e w1 ⟨rfl, hb1⟩
   have HB1 := Lib.hid hb1
   clear hb1
   go_wp2_with fail
   refine (HM.out _ HB1.out).mono ?_
   rintro e w2 ⟨rfl, hb2⟩
   have HB2 := Lib.hid (HB1.out.trans (hb2.mono HB1.out.size))
   clear hb2
   go_wp2_with fail
   have hmb := Bk.new w2 40 #[.int .i64 (P.m.t + 1), .int .i64 P.m.r, .int .i64 P.m.f, .int .i64 P.m.p, .int .i64 P.m.l]
   have hb3 : Below w.heap.size w (w2.alloc (.cells #[.int .i64 (P.m.t + 1), .int .i64 P.m.r, .int .i64 P.m.f, .int .i64 P.m.p, .int .i64 P.m.l] 40)) := HB2.out.alloc HB2.out.size _
   have hln3 : w2.heap.size < (w2.alloc (.cells #[.int .i64 (P.m.t + 1), .int .i64 P.m.r, .int .i64 P.m.f, .int .i64 P.m.p, .int .i64 P.m.l] 40)).heap.size := by simp
   obtain ⟨mb, hmbe⟩ : ∃ mb, mb = w2.heap.size := ⟨_, rfl⟩
   rw [← hmbe] at hmb hln3 ⊢
   generalize w2.alloc (.cells #[.int .i64 (P.m.t + 1), .int .i64 P.m.r, .int .i64 P.m.f, .int .i64 P.m.p, .int .i64 P.m.l] 40) = w3 at hmb hb3 hln3 ⊢
   have HB3 := Lib.hid hb3
   have lb3 := Nat.lt_of_lt_of_le lb hb3.size
   have fb4 : w3.frozen? ⟨b, 4, none⟩ = false := (bk_below HD.out.top hb3).frozen 4
   have HKS := Lib.hid (show ∀ W, Below w3.heap.size w3 W → W.cell? ⟨mb, 0, none⟩ = some (.int .i64 (P.m.t + 1)) ∧ W.cell? ⟨mb, 1, none⟩ = some (.int .i64 P.m.r) ∧ W.cell? ⟨mb, 2, none⟩ = some (.int .i64 P.m.f) ∧ W.cell? ⟨mb, 3, none⟩ = some (.int .i64 P.m.p) ∧ W.cell? ⟨mb, 4, none⟩ = some (.int .i64 P.m.l) ∧ W.cell? ⟨b, 2, none⟩ = some (.pointer (some ⟨f, 0, none⟩)) ∧ W.frozen? ⟨b, 4, none⟩ = false ∧ W.cell? ⟨b, 4, none⟩ = some (wcell W ⟨b, 4, none⟩) from fun W hW => by
     have k1 := bk_below hmb hW
     have k2 := bk_below (bk_below HD.out.top hb3) hW
     exact ⟨k1.cell 0, k1.cell 1, k1.cell 2, k1.cell 3, k1.cell 4, k2.cell 2, k2.frozen 4, wcell_of (k2.cell 4)⟩)
   have hSb : ∀ W : World, ∀ v : Value, Below w3.heap.size w3 W → (fun W => W.cell? ⟨mb, 0, none⟩ = some (.int .i64 (P.m.t + 1)) ∧ W.cell? ⟨mb, 1, none⟩ = some (.int .i64 P.m.r) ∧ W.cell? ⟨mb, 2, none⟩ = some (.int .i64 P.m.f) ∧ W.cell? ⟨mb, 3, none⟩ = some (.int .i64 P.m.p) ∧ W.cell? ⟨mb, 4, none⟩ = some (.int .i64 P.m.l) ∧ W.cell? ⟨b, 2, none⟩ = some (.pointer (some ⟨f, 0, none⟩)) ∧ W.frozen? ⟨b, 4, none⟩ = false ∧ W.cell? ⟨b, 4, none⟩ = some (wcell W ⟨b, 4, none⟩)) (W.setCell ⟨b, 4, none⟩ v) := fun W v hW => by
     have k1 := bk_below hmb hW
     have k2 := bk_below (bk_below HD.out.top hb3) hW
     have hne : b ≠ mb := k2.ne k1 (by decide)
     have k3 := k1.far (p := ⟨b, 4, none⟩) (fun e => hne e.symm) v
     have k4 := k2.put 4 v
     exact ⟨k3.cell 0, k3.cell 1, k3.cell 2, k3.cell 3, k3.cell 4, k4.cell 2, k4.frozen 4, wcell_of (k4.cell 4)⟩
   have HSB := Lib.hid hSb
   have HFC := Lib.hid fun (W : World) (hW : Below w3.heap.size w3 W) => HFR.out W (HB3.out.trans (hW.mono HB3.out.size))
   clear hb3 hmbe hmb c2 c4 fb4 hSb
   go_region_held3 (fun W => W.cell? ⟨mb, 0, none⟩ = some (.int .i64 (P.m.t + 1)) ∧ W.cell? ⟨mb, 1, none⟩ = some (.int .i64 P.m.r) ∧ W.cell? ⟨mb, 2, none⟩ = some (.int .i64 P.m.f) ∧ W.cell? ⟨mb, 3, none⟩ = some (.int .i64 P.m.p) ∧ W.cell? ⟨mb, 4, none⟩ = some (.int .i64 P.m.l) ∧ W.cell? ⟨b, 2, none⟩ = some (.pointer (some ⟨f, 0, none⟩)) ∧ W.frozen? ⟨b, 4, none⟩ = false ∧ W.cell? ⟨b, 4, none⟩ = some (wcell W ⟨b, 4, none⟩))
     ((first | (refine HSB.out _ _ ?_; first | exact Below.more (Below.more (Below.more hk4.out _) _) _ | exact Below.more (Below.more hk4.out _) _ | exact Below.more hk4.out _) | (refine HKS.out _ ?_; first | exact hk4.out | exact (Below.refl _ _).drew | exact Below.more hk4.out _ | exact Below.more (Below.more hk4.out _) _ | exact Below.more (Below.more (Below.more hk4.out _) _) _ | exact Below.more (Below.refl _ _).drew _ | exact Below.more (Below.more (Below.refl _ _).drew _) _)))
     (first
     | (go_at_call 44; refine (HFC.out _ (by first | exact (Below.refl _ _).drew | exact Below.more (Below.refl _ _).drew _ | exact Below.more (Below.more (Below.refl _ _).drew _) _)).mono ?_; rintro e w4 ⟨f4, S4, rfl, hfl4, hb4, hn4⟩; have hk4 := Lib.hid (show Below w3.heap.size w3 w4 from by first | exact (Below.refl _ _).drew.trans (hb4.mono (by simp)) | exact (Below.more (Below.refl _ _).drew _).trans (hb4.mono (by simp)) | exact (Below.more (Below.more (Below.refl _ _).drew _) _).trans (hb4.mono (by simp; omega))))
     | fail)
   all_goals
     rename_i hHeld9
     clear hHeld9
     have hz4 := hb4.size
     simp at hz4
     have hfo := hfl4.old
     simp at hn4
     first
       | (have hfin := begun_end (Wx := (w4.alloc M0).alloc M0) (t := w4.heap.size + 1 + 1) (dm := w4.heap.size) (rm := w4.heap.size + 1) HD.out HB3.out (Below.more (Below.more hk4.out _) _) (hfl4.off (((Off.refl [] w4).alloc _).alloc _) (by simp)) (fun b hb => by have := hn4 b hb; omega) ((IMap.made w4 _ _).off ((Off.refl [] _).alloc _) (by simp)) (by have := SMap.made (w4.alloc M0) Tryz.prog 9; simpa using this) (by omega) (by omega) (by omega) (fun hs => by have := hfo _ hs; omega) (fun hs => by have := hfo _ hs; omega) (by first | rfl | simp); obtain ⟨⟨Sf9, hB⟩, hc4, hlb⟩ := hfin; have HBG := Lib.hid hB; clear hB; dsimp only [txNew, M0] at hc4 hlb; go_wp2_with fail; go_ret2; exact ⟨_, rfl, _, _, _, _, HBG.out⟩)
       | (have hfin := begun_end (Wx := (w4.alloc M0).alloc M0) (t := w4.heap.size + 1 + 1) (dm := w4.heap.size + 1) (rm := w4.heap.size) HD.out HB3.out (Below.more (Below.more hk4.out _) _) (hfl4.off (((Off.refl [] w4).alloc _).alloc _) (by simp)) (fun b hb => by have := hn4 b hb; omega) (by have := IMap.made (w4.alloc M0) Tryz.prog 3; simpa using this) ((SMap.made w4 _ _).off ((Off.refl [] _).alloc _) (by simp)) (by omega) (by omega) (by omega) (fun hs => by have := hfo _ hs; omega) (fun hs => by have := hfo _ hs; omega) (by first | rfl | simp); obtain ⟨⟨Sf9, hB⟩, hc4, hlb⟩ := hfin; have HBG := Lib.hid hB; clear hB; dsimp only [txNew, M0] at hc4 hlb; go_wp2_with fail; go_ret2; exact ⟨_, rfl, _, _, _, _, HBG.out⟩)
       | (have hfin := begun_end (Wx := w4.alloc M0) (t := w4.heap.size + 1) (dm := w3.heap.size) (rm := w4.heap.size) HD.out HB3.out (Below.more hk4.out _) (hfl4.off ((Off.refl [] w4).alloc _) (by simp)) (fun b hb => by have := hn4 b hb; omega) (((show IMap Tryz.prog 3 (w3.drew.alloc M0) w3.heap.size 0 (fun _ => none) from IMap.made w3.drew _ _).off (Off.of_below hb4 []) (by simp)).off ((Off.refl [] _).alloc _) (by simp)) (SMap.made w4 _ _) (by omega) (by omega) (by omega) (fun hs => by have := hn4 _ hs; omega) (fun hs => by have := hfo _ hs; omega) (by first | rfl | simp); obtain ⟨⟨Sf9, hB⟩, hc4, hlb⟩ := hfin; have HBG := Lib.hid hB; clear hB; dsimp only [txNew, M0] at hc4 hlb; go_wp2_with fail; go_ret2; exact ⟨_, rfl, _, _, _, _, HBG.out⟩)
       | (have hfin := begun_end (Wx := w4.alloc M0) (t := w4.heap.size + 1) (dm := w4.heap.size) (rm := w3.heap.size) HD.out HB3.out (Below.more hk4.out _) (hfl4.off ((Off.refl [] w4).alloc _) (by simp)) (fun b hb => by have := hn4 b hb; omega) (IMap.made w4 _ _) (((show SMap Tryz.prog 9 (w3.drew.alloc M0) w3.heap.size 0 (fun _ => none) from SMap.made w3.drew _ _).off (Off.of_below hb4 []) (by simp)).off ((Off.refl [] _).alloc _) (by simp)) (by omega) (by omega) (by omega) (fun hs => by have := hfo _ hs; omega) (fun hs => by have := hn4 _ hs; omega) (by first | rfl | simp); obtain ⟨⟨Sf9, hB⟩, hc4, hlb⟩ := hfin; have HBG := Lib.hid hB; clear hB; dsimp only [txNew, M0] at hc4 hlb; go_wp2_with fail; go_ret2; exact ⟨_, rfl, _, _, _, _, HBG.out⟩)
       | (have hfin := begun_end (Wx := w4) (t := w4.heap.size) (dm := w3.heap.size) (rm := w3.heap.size + 1) HD.out HB3.out hk4.out hfl4 (fun b hb => by have := hn4 b hb; omega) (((show IMap Tryz.prog 3 (w3.drew.alloc M0) w3.heap.size 0 (fun _ => none) from IMap.made w3.drew _ _).off ((Off.refl [] _).alloc _) (by simp)).off (Off.of_below hb4 []) (by simp)) ((show SMap Tryz.prog 9 ((w3.drew.alloc M0).alloc M0) (w3.heap.size + 1) 0 (fun _ => none) from by have := SMap.made (w3.drew.alloc M0) Tryz.prog 9; simpa using this).off (Off.of_below hb4 []) (by simp)) (by omega) (by omega) (by omega) (fun hs => by have := hn4 _ hs; omega) (fun hs => by have := hn4 _ hs; omega) (by first | rfl | simp); obtain ⟨⟨Sf9, hB⟩, hc4, hlb⟩ := hfin; have HBG := Lib.hid hB; clear hB; dsimp only [txNew, M0] at hc4 hlb; go_wp2_with fail; go_ret2; exact ⟨_, rfl, _, _, _, _, HBG.out⟩)
       | (have hfin := begun_end (Wx := w4) (t := w4.heap.size) (dm := w3.heap.size + 1) (rm := w3.heap.size) HD.out HB3.out hk4.out hfl4 (fun b hb => by have := hn4 b hb; omega) ((show IMap Tryz.prog 3 ((w3.drew.alloc M0).alloc M0) (w3.heap.size + 1) 0 (fun _ => none) from by have := IMap.made (w3.drew.alloc M0) Tryz.prog 3; simpa using this).off (Off.of_below hb4 []) (by simp)) (((show SMap Tryz.prog 9 (w3.drew.alloc M0) w3.heap.size 0 (fun _ => none) from SMap.made w3.drew _ _).off ((Off.refl [] _).alloc _) (by simp)).off (Off.of_below hb4 []) (by simp)) (by omega) (by omega) (by omega) (fun hs => by have := hn4 _ hs; omega) (fun hs => by have := hn4 _ hs; omega) (by first | rfl | simp); obtain ⟨⟨Sf9, hB⟩, hc4, hlb⟩ := hfin; have HBG := Lib.hid hB; clear hB; dsimp only [txNew, M0] at hc4 hlb; go_wp2_with fail; go_ret2; exact ⟨_, rfl, _, _, _, _, HBG.out⟩)
       | fail
end Go.Proofs.YtjbcbnemdhbhbaaGreatDoor

import Derived.Test.YtjbcbnemdhbhbaaGreatDoorG25
import Derived.Test.YtjbcbnemdhbhbaaGreatDoorG35
namespace Go.Proofs.YtjbcbnemdhbhbaaGreatDoor
open Go.RowKit
set_option maxRecDepth 100000
set_option linter.unusedVariables false
set_option linter.unusedSimpArgs false
structure Di where
 b : Nat
 q : Nat
 r : Nat
 f : Nat
 g : Nat
 T : List Nat
 Sf : List Nat
 P : PgS
 s : St
 fr : List (Nat × Nat)
 pv : Value
 pcs : List Nat
 wv : Value
def Di.blocks (d : Di) : List Nat := d.b :: d.r :: (d.T ++ (d.Sf ++ d.pv.ownBlock.toList))
structure DbAt (w : World) (d : Di) : Prop where
 top : Bk w d.b 99 #[.pointer (some ⟨d.q, 0, none⟩), .pointer (some ⟨d.r, 0, none⟩), .pointer (some ⟨d.f, 0, none⟩), d.pv, d.wv]
 pg : Pg w d.q d.T d.g d.P
 rd : Bk w d.r 195 d.s.cells
 free : FL w d.f d.Sf d.fr
 pcs : w.ownsRow 0 3 1 d.pv d.pcs.length (ints d.pcs)
 bo : d.b ∉ d.T ++ (d.Sf ++ d.pv.ownBlock.toList)
 ro : d.r ∉ d.T ++ (d.Sf ++ d.pv.ownBlock.toList)
theorem DbAt.off {w w' : World} {d : Di} {U : List Nat} (h : DbAt w d) (ho : Off U w w') (hU : ∀ x ∈ d.blocks, x ∉ U) : DbAt w' d :=
 ⟨ho.bk h.top (hU _ (by simp [Di.blocks])), h.pg.off ho (fun x hx => hU x (by simp [Di.blocks, hx])), ho.bk h.rd (hU _ (by simp [Di.blocks])), h.free.off ho (fun x hx => hU x (by simp [Di.blocks, hx])), ho.own h.pcs (fun x hx => hU x (by simp [Di.blocks, hx])), h.bo, h.ro⟩
theorem DbAt.below {w w' : World} {d : Di} (h : DbAt w d) (hb : Below w.heap.size w w') : DbAt w' d := h.off (Off.of_below hb []) (by simp)
theorem DbAt.old {w : World} {d : Di} (h : DbAt w d) : ∀ x ∈ d.blocks, x < w.heap.size := by
 intro x hx
 simp only [Di.blocks, List.mem_cons, List.mem_append, Option.mem_toList] at hx
 rcases hx with rfl | rfl | hx | hx | hx
 · exact h.top.lt
 · exact h.rd.lt
 · exact h.pg.old x hx
 · exact h.free.old x hx
 · exact (World.ownsRow.lt h.pcs x hx).2
theorem DbAt.readers {w w' : World} {d : Di} (h : DbAt w d) {s' : St} (ho : Off [d.r] w w') (hr : Bk w' d.r 195 s'.cells) : DbAt w' { d with s := s' } := by
 have hbr : d.b ≠ d.r := h.top.ne h.rd (by decide)
 have hne : ∀ x, x ∈ d.T ++ (d.Sf ++ d.pv.ownBlock.toList) → x ∉ [d.r] := fun x hx he => by
   rw [List.mem_singleton] at he
   subst he
   exact h.ro hx
 exact ⟨ho.bk h.top (by simpa using hbr), h.pg.off ho (fun x hx => hne x (by simp [hx])), hr, h.free.off ho (fun x hx => hne x (by simp [hx])), ho.own h.pcs (fun x hx => hne x (by simp [hx])), h.bo, h.ro⟩
set_option maxHeartbeats 8000000 in
theorem dbmeta_g {w : World} {d : Di} (h : DbAt w d) : Calls Tryz.prog 14 #[.pointer (some ⟨d.b, 0, none⟩)] w (SaysM d.P.m w) := by
 obtain ⟨b, q, r, f, g, T, Sf, P, s, fr, pv, pcs, wv⟩ := d
 have c0 : w.cell? ⟨b, 0, none⟩ = some (.pointer (some ⟨q, 0, none⟩)) := h.top.cell 0
 have lb : b < w.heap.size := h.top.lt
 have HP := Lib.hid (pmeta_any (h.pg.below ((Below.refl _ w).alloc (Nat.le_refl _) (.cells #[.int .i64 0, .int .i64 0, .int .i64 0, .int .i64 0, .int .i64 0] 40))))
 clear h
 simp only at HP ⊢
 go_enter Tryz.func14, Tryz.ntmps14
 go_wp2_with fail
 refine HP.out.mono ?_
 rintro e w1 ⟨rfl, hb1⟩
 have hz := bk_below (Bk.new w 40 #[.int .i64 0, .int .i64 0, .int .i64 0, .int .i64 0, .int .i64 0]) hb1
 have HZ := Lib.hid hz
 have HB := Lib.hid (((Below.refl _ w).alloc (Nat.le_refl _) (.cells #[.int .i64 0, .int .i64 0, .int .i64 0, .int .i64 0, .int .i64 0] 40)).trans (hb1.mono (by simp)))
 have lz := hz.lt
 obtain ⟨x0, x1, x2, x3, x4⟩ := hz.five
 have y0 := hz.frozen 0
 have y1 := hz.frozen 1
 have y2 := hz.frozen 2
 have y3 := hz.frozen 3
 have y4 := hz.frozen 4
 clear hz hb1
 go_wp2_with fail
 obtain ⟨s0, s1, s2, s3, s4⟩ := HZ.out.setFive (.int .i64 P.m.t) (.int .i64 P.m.r) (.int .i64 P.m.f) (.int .i64 P.m.p) (.int .i64 P.m.l)
 refine bodyPost_ret (v := .agg #[.int .i64 P.m.t, .int .i64 P.m.r, .int .i64 P.m.f, .int .i64 P.m.p, .int .i64 P.m.l]) (by simp [results, Tryz.results14, go_sem, lz, s0, s1, s2, s3, s4]) rfl ⟨rfl, ?_⟩
 exact ((Off.of_below HB.out []).then ((((((Off.refl [w.heap.size] w1).setCell (.inl (by simp)) _).setCell (.inl (by simp)) _).setCell (.inl (by simp)) _).setCell (.inl (by simp)) _).setCell (.inl (by simp)) _) (fun x hx => by rw [List.mem_singleton] at hx; subst hx; exact .inr (Nat.le_refl _))).below (Nat.le_refl _) (by simp)
def SnapG (w : World) (s b : Nat) (i : Int) (m : MetaV) (pv : Value) (over : Bool) : Prop := Bk w s 115 #[.pointer (some ⟨b, 0, none⟩), .int .i64 i, .int .i64 m.t, .int .i64 m.r, .int .i64 m.f, .int .i64 m.p, .int .i64 m.l, pv, .bool over]
theorem gmay_ok {w : World} {sp b : Nat} {i : Int} {m : MetaV} {pv : Value} (h : SnapG w sp b i m pv false) : Calls Tryz.prog 57 #[.pointer (some ⟨sp, 0, none⟩)] w (fun e w' => e = .returned (.int .i64 0) ∧ w = w') := by
 have c8 := Bk.cell h 8
 have ls := Bk.lt h
 clear h
 go_enter Tryz.func57, Tryz.ntmps57
 go_wp2_with fail
 go_ret
 exact ⟨rfl, rfl⟩
set_option maxHeartbeats 8000000 in
theorem snap_g {w : World} {d : Di} {s' : St} {i : Int} (h : DbAt w d) (hE : d.s.enter d.P.m.t = (s', i, 0)) : Calls Tryz.prog 15 #[.pointer (some ⟨d.b, 0, none⟩)] w (fun e w' => ∃ sp, e = .returned (.tuple #[.pointer (some ⟨sp, 0, none⟩), .int .i64 0]) ∧ Off [d.r] w w' ∧ DbAt w' { d with s := s' } ∧ SnapG w' sp d.b i d.P.m d.pv false ∧ w.heap.size ≤ sp) := by
 have HD := Lib.hid h
 have HM := Lib.hid (dbmeta_g (h.below (Below.refl _ w).drew))
 have HM2 := Lib.hid fun (W : World) (hW : DbAt W { d with s := s' }) => (show Calls Tryz.prog 14 #[.pointer (some ⟨d.b, 0, none⟩)] W (SaysM d.P.m W) from dbmeta_g (d := { d with s := s' }) hW)
 have HEN := Lib.hid fun (W : World) (hW : Below w.heap.size w W) => (show Calls Tryz.prog 56 #[.pointer (some ⟨d.r, 0, none⟩), .int .i64 d.P.m.t] W (EnterPost i 0 d.r s'.cells W) from by have := enter_any d.r d.P.m.t d.s W (bk_below h.rd hW); rw [hE] at this; exact this)
 have hbr : d.b ≠ d.r := h.top.ne h.rd (by decide)
 have HKS := Lib.hid (show ∀ W, Off [d.r] w W → W.cell? ⟨d.b, 1, none⟩ = some (.pointer (some ⟨d.r, 0, none⟩)) from fun W hW => (hW.bk h.top (by simpa using hbr)).cell 1)
 obtain ⟨Ap, cp, hpv, -, -⟩ := own_formK h.pcs
 obtain ⟨n, hn⟩ : ∃ n, n = d.pcs.length := ⟨_, rfl⟩
 rw [← hn] at hpv
 obtain ⟨b, q, r, f, g, T, Sf, P, s, fr, pv, pcs, wv⟩ := d
 have lb : b < w.heap.size := h.top.lt
 have hf0 := mfld0
 simp only at HD HM HM2 HEN HKS hpv ⊢
 subst hpv
 clear hn
 clear h hE hbr
 go_enter Tryz.func15, Tryz.ntmps15
 go_wp2_with fail
 go_region_held3 (fun W => W.cell? ⟨b, 1, none⟩ = some (.pointer (some ⟨r, 0, none⟩))) (first | exact HKS.out _ (Off.refl _ _).drew | exact HKS.out _ hk1.out | exact HKS.out _ hk2.out) (first
   | (go_at_call 14; refine HM.out.mono ?_; rintro e w1 ⟨rfl, hb1⟩; have HB1 := Lib.hid (show Below w.heap.size w w1 from (Below.refl _ w).drew.trans hb1); have hk1 := Lib.hid (Off.of_below HB1.out [r]); clear hb1)
   | (go_at_call 56; refine (HEN.out _ HB1.out).mono ?_; rintro e w2 ⟨rfl, hr2, ho2⟩; have HR2 := Lib.hid hr2; have hk2 := Lib.hid (hk1.out.trans ho2); clear hr2 ho2))
 all_goals
   have hd2 := HD.out.readers hk2.out HR2.out
   have HM3 := Lib.hid (HM2.out _ (hd2.below (Below.refl _ w2).drew))
   have HD2 := Lib.hid hd2
   have lb2 : b < w2.heap.size := hd2.top.lt
   have HKT := Lib.hid (show ∀ W, Below w2.heap.size w2 W → W.cell? ⟨b, 3, none⟩ = some (.slice Ap n cp) from fun W hW => (bk_below HD2.out.top hW).cell 3)
   clear hd2
   go_wp2_with fail
   go_region_held3 (fun W => W.cell? ⟨b, 3, none⟩ = some (.slice Ap n cp)) (first | exact HKT.out _ (Below.refl _ _).drew | exact HKT.out _ hk3.out | exact HKT.out _ (hk3.out.alloc hk3.out.size _)) (first
     | (go_at_call 14; refine HM3.out.mono ?_; rintro e w3 ⟨rfl, hb3⟩; have hk3 := Lib.hid (show Below w2.heap.size w2 w3 from (Below.refl _ w2).drew.trans hb3); clear hb3))
   all_goals
     go_wp2_with fail
     go_ret2
     exact ⟨w3.heap.size, rfl, (hk2.out.trans (Off.of_below hk3.out [r])).alloc _, (HD2.out.below hk3.out).off ((Off.refl [] _).alloc _) (by simp), Bk.new w3 _ _, Nat.le_trans hk2.out.size hk3.out.size⟩
set_option maxHeartbeats 8000000 in
theorem sget_any {w : World} {sp b q : Nat} {cs : Array Value} {i : Int} {m : MetaV} {pv : Value} (hs : SnapG w sp b i m pv false) (hb : Bk w b 99 cs) (h0 : cs[0]? = some (.pointer (some ⟨q, 0, none⟩)))
   {K : Kr} (hK : K.Ok) (hq : K.q = q) (hp : Pg w K.q K.T K.g K.P) (hd : Dev w K.g K.Sd K.D) (hr : RowAt w) {Fo : Forest} (ho : Fo.Ok K.disk) (hR : ∀ n, Fo.R n = none) (hm : m.r = Fo.main.root) (name key : ByteArray) (hn : IsName name) :
   Calls Tryz.prog 16 #[.pointer (some ⟨sp, 0, none⟩), .string name, .string key] w (fun e w' => Below w.heap.size w w' ∧ ∃ v, e = .returned v ∧ GetsV (Fo.tr name).L key v) := by
 subst hq
 have HM := Lib.hid (gmay_ok hs)
 have HSN := Lib.hid (show Bk w sp 115 #[.pointer (some ⟨b, 0, none⟩), .int .i64 i, .int .i64 m.t, .int .i64 m.r, .int .i64 m.f, .int .i64 m.p, .int .i64 m.l, pv, .bool false] from hs)
 have c0 : w.cell? ⟨sp, 0, none⟩ = some (.pointer (some ⟨b, 0, none⟩)) := Bk.cell hs 0
 have c3 : w.cell? ⟨sp, 3, none⟩ = some (.int .i64 m.r) := Bk.cell hs 3
 have ls := Bk.lt hs
 have lb := hb.lt
 have d0 : w.cell? ⟨b, 0, none⟩ = some (.pointer (some ⟨K.q, 0, none⟩)) := (hb.cell 0).trans h0
 have hat : (stillStore K).At w (K.q :: 0 :: (K.T ++ K.Sd)) K.disk 0 := ⟨hp, hd, hr, rfl, rfl, rfl⟩
 have HR := Lib.hid fun (W : World) (hb : Below w.heap.size w W) => (show Calls Tryz.prog 58 #[.iface 117 (.agg #[.pointer (some ⟨K.q, 0, none⟩)]), .int .i64 m.r, .string name] W (fun e w' => Below W.heap.size W w' ∧ e = .returned (.tuple #[.int .i64 (Fo.tr name).root, .int .i64 0])) from by
   rw [hm]
   refine (rootof_any (still_reads hK) ((still_reads hK).below hat hb) Fo.main.root (ho.main.deep (List.nodup_append.1 ho.nodup).1) ho.main.ents ho.names name hn.1 hn.2).mono ?_
   rintro e w' ⟨hb', r, rfl, hr⟩
   rw [RootIs.fun_ ho.main.rising hr (ho.law0 name (hR name))]
   exact ⟨hb', rfl⟩)
 have hdeep : Tr.Deep K.disk (Fo.tr name).root (Fo.tr name).L := (ho.each name).deep (by
   by_cases hc : name ∈ Fo.NS
   · obtain ⟨a, b, -, -, -, hp⟩ := ho.split hc
     exact (List.nodup_append.1 (hp.nodup_iff.1 ho.nodup)).1
   · rw [ho.out name hc]; exact List.nodup_nil)
 have HG := Lib.hid fun (W : World) (hb : Below w.heap.size w W) => (show Calls Tryz.prog 59 #[.iface 117 (.agg #[.pointer (some ⟨K.q, 0, none⟩)]), .int .i64 (Fo.tr name).root, .string key] W (fun e w' => Below W.heap.size W w' ∧ ∃ v, e = .returned v ∧ GetsV (Fo.tr name).L key v) from get_any (still_reads hK) ((still_reads hK).below hat hb) (Fo.tr name).root hdeep (ho.each name).ents key)
 clear hs hb h0 hK hp hd hr ho hR hm hat hdeep
 go_enter Tryz.func16, Tryz.ntmps16
 go_wp2_with fail
 refine HM.out.mono ?_
 rintro e w1 ⟨rfl, rfl⟩
 go_wp2_with fail
 have HKT := Lib.hid (show ∀ W, Below (w.alloc (.cells #[.pointer (some ⟨K.q, 0, none⟩)] 117)).heap.size (w.alloc (.cells #[.pointer (some ⟨K.q, 0, none⟩)] 117)) W → W.cell? ⟨w.heap.size, 0, none⟩ = some (.pointer (some ⟨K.q, 0, none⟩)) ∧ W.cell? ⟨sp, 3, none⟩ = some (.int .i64 m.r) from fun W hW => ⟨(bk_below (Bk.new w _ _) hW).cell 0, (bk_below (Bk.alloc HSN.out _) hW).cell 3⟩)
 go_region_held3 (fun W => W.cell? ⟨w.heap.size, 0, none⟩ = some (.pointer (some ⟨K.q, 0, none⟩)) ∧ W.cell? ⟨sp, 3, none⟩ = some (.int .i64 m.r)) (first | exact HKT.out _ (Below.refl _ _).drew | exact HKT.out _ hk2.out) (first
   | (go_at_call 58; refine (HR.out _ ((Below.refl _ w).alloc (Nat.le_refl _) _).drew).mono ?_; rintro e w2 ⟨hb2, rfl⟩; have hk2 := Lib.hid ((Below.refl (w.alloc (.cells #[.pointer (some ⟨K.q, 0, none⟩)] 117)).heap.size (w.alloc (.cells #[.pointer (some ⟨K.q, 0, none⟩)] 117))).drew.trans (hb2.mono (by simp))))
   | fail)
 all_goals
   have hz := bk_below (Bk.new w 117 #[.pointer (some ⟨K.q, 0, none⟩)]).drew hb2
   have z0 := hz.cell 0
   have lz := hz.lt
   have HB2 := Lib.hid (((Below.refl _ w).alloc (Nat.le_refl _) (.cells #[.pointer (some ⟨K.q, 0, none⟩)] 117)).drew.trans (hb2.mono (by simp)))
   clear hb2 hz
   go_wp2_with fail
   refine (HG.out _ HB2.out).mono ?_
   rintro e w3 ⟨hb3, v, rfl, hv⟩
   have HB3 := Lib.hid (HB2.out.trans (hb3.mono HB2.out.size))
   clear hb3
   rcases hv with ⟨y, hy, hk, rfl⟩ | ⟨hno, rfl⟩
   · have HV := Lib.hid (show GetsV (Fo.tr name).L key (.tuple #[.string ⟨y.val.toArray⟩, .bool true, .int .i64 0]) from .inl ⟨y, hy, hk, rfl⟩)
     obtain ⟨s, hs⟩ : ∃ s, s = (⟨y.val.toArray⟩ : ByteArray) := ⟨_, rfl⟩
     rw [← hs] at HV ⊢
     clear hs hy hk
     go_wp2_with fail
     go_ret3
     exact ⟨HB3.out, _, rfl, HV.out⟩
   · have HV := Lib.hid (show GetsV (Fo.tr name).L key (.tuple #[.string ⟨#[]⟩, .bool false, .int .i64 0]) from .inr ⟨hno, rfl⟩)
     clear hno
     go_wp2_with fail
     go_ret3
     exact ⟨HB3.out, _, rfl, HV.out⟩
end Go.Proofs.YtjbcbnemdhbhbaaGreatDoor

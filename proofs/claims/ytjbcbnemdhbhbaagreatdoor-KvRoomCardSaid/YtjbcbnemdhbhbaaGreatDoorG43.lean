import Derived.Test.YtjbcbnemdhbhbaaGreatDoorG42
import Derived.Test.YtjbcbnemdhbhbaaGreatDoorG36
namespace Go.Proofs.YtjbcbnemdhbhbaaGreatDoor
open Go.RowKit
set_option maxRecDepth 100000
set_option linter.unusedVariables false
set_option linter.unusedSimpArgs false
theorem LdMem.other {E E' : Kv} {w w' : World} {S : List Nat} {pages : Nat} {l : List (Nat × Nat)} {d : Book} {ch : List Nat} {f dm nn : Nat} {Sf : List Nat} {lv : Value} (h : LdMem E w S pages l d ch f dm nn Sf lv) (hc : Bk w' E.t 103 (txCells E' ⟨pages, l, d, ch, []⟩ f dm lv (.slice none 0 0))) (ho : Off [E.t] w w')
   (he : E'.t = E.t ∧ E'.b = E.b ∧ E'.q = E.q ∧ E'.r = E.r ∧ E'.g = E.g ∧ E'.T = E.T ∧ E'.Sd = E.Sd ∧ E'.P = E.P ∧ E'.D = E.D ∧ E'.s = E.s ∧ E'.txn = E.txn ∧ E'.c2 = E.c2 ∧ E'.c3 = E.c3 ∧ E'.c4 = E.c4 ∧ E'.ro = E.ro) :
   LdMem E' w' S pages l d ch f dm nn Sf lv := by
 have hm := h.nodup
 unfold txMut at hm
 have ht := (List.nodup_cons.1 hm).1
 have hst : ∀ b ∈ E.still, b ∉ [E.t] := fun b hb hs => by
   rw [List.mem_singleton] at hs
   subst hs
   exact h.apart E.t (by simp [txMut]) hb
 have hmu : ∀ b, b ∈ dm :: (lv.ownBlock.toList ++ ((Value.slice none 0 0).ownBlock.toList ++ Sf)) → b ∉ [E.t] := fun b hb hs => by
   rw [List.mem_singleton] at hs
   subst hs
   exact ht hb
 obtain ⟨a1, a2, a3, a4, a5, a6, a7, a8, a9, a10, a11, a16, a17, a18, a19⟩ := he
 have hstill : E'.still = E.still := by unfold Kv.still; rw [a2, a3, a4, a6, a7]
 exact ⟨by rw [a1]; exact hc, h.free.off ho (fun b hb => hmu b (by simp [hb])), by rw [a11]; exact h.map.off ho (hmu _ (by simp)), h.nn, ho.own h.loose (fun b hb => hmu b (by simp [hb])),
   by rw [a2, a3, a4, a16, a17, a18]; exact ho.bk h.db (hst _ (by simp [Kv.still])), by rw [a4, a10]; exact ho.bk h.rd (hst _ (by simp [Kv.still])), by rw [a3, a6, a5, a8]; exact h.pg.off ho (fun b hb => hst b (by simp [Kv.still, hb])),
   by rw [a5, a7, a9]; exact h.dev.off ho (fun b hb => hst b (by simp [Kv.still, hb])), by rw [a19]; exact h.row.off ho (hst _ (by simp [Kv.still])), by rw [hstill, a1]; exact h.blocks, by rw [a1]; exact h.nodup, by rw [hstill, a1]; exact h.apart⟩
theorem LdMem.inS {E : Kv} {w : World} {S : List Nat} {pages : Nat} {l : List (Nat × Nat)} {d : Book} {ch : List Nat} {f dm nn : Nat} {Sf : List Nat} {lv : Value} (h : LdMem E w S pages l d ch f dm nn Sf lv) : E.t ∈ S := by rw [h.blocks]; simp [txMut]
set_option maxHeartbeats 16000000 in
theorem tstep0 {E : Kv} (hE : E.Ok) {w : World} {S : List Nat} {σ : Book} {k nr : Nat} {Fo : Forest} (h : Wr E False w S σ k Fo nr) (hnr : nr ≤ 1000000) (hnz : ∀ n r, Fo.R n = some r → r ≠ 0) (hpv : w.ownsRow 0 3 1 E.c3 E.pc.length (ints E.pc)) (hpS : ∀ g, E.c3.ownBlock = some g → g ∉ S)
   (hk : Fo.NS.length * Tr.need (Fo.main.L.length + Fo.NS.length) + Fr.pieces E.limit ≤ k) :
   Calls Tryz.prog 13 #[.pointer (some ⟨E.t, 0, none⟩)] w (fun e w' => e = .returned (.tuple #[.bool false, .int .i64 0]) ∧ ∃ G σ' pages l d ch f dm nn Sf lv S', Laid { E with stage := 1 } False S Fo w w' G σ' pages l d ch f dm nn Sf lv S') := by
 obtain ⟨x0, f0, dm0, lv0, fv0, hc⟩ := h.cells
 have HM := Lib.hid (tmay_ok hc (by rw [show (txCells E x0 f0 dm0 lv0 fv0)[13]? = some (.bool E.over) from rfl, h.open_]))
 have HL := Lib.hid (tlay_any hE h hnr hnz hpv hpS (.inr hk))
 have c12 : w.cell? ⟨E.t, 12, none⟩ = some (.int .i64 0) := by
   have h1 := hc.cell 12
   rw [show (txCells E x0 f0 dm0 lv0 fv0)[12]? = some (.int .i64 E.stage) from rfl, h.first] at h1
   exact h1
 have lt := hc.lt
 have HEN := Lib.hid fun (W : World) => tend_ok E.t W
 have HST := Lib.hid h.first
 clear h hc hpv hpS hk hnz
 go_enter Tryz.func13, Tryz.ntmps13
 go_wp2_with fail
 refine HM.out.mono ?_
 rintro e w1 ⟨rfl, rfl⟩
 go_wp2_with fail
 refine HL.out.mono ?_
 rintro e w2 (⟨rfl, G, σ', pages, l, d, ch, f, dm, nn, Sf, lv, S', hl⟩ | ⟨hF, -⟩)
 · have q12 : w2.cell? ⟨E.t, 12, none⟩ = some (.int .i64 0) := by
     have h1 := hl.mem.cells.cell 12
     rw [show (txCells { E with root := (G.main.root : Nat), fre := (ch.headD 0 : Nat) } ⟨pages, l, d, ch, []⟩ f dm lv (.slice none 0 0))[12]? = some (.int .i64 E.stage) from rfl, HST.out] at h1
     exact h1
   have f12 : w2.frozen? ⟨E.t, 12, none⟩ = false := hl.mem.cells.frozen 12
   have lt2 : E.t < w2.heap.size := hl.mem.cells.lt
   have hbk : Bk (w2.setCell ⟨E.t, 12, none⟩ (.int .i64 1)) E.t 103 (txCells { E with root := (G.main.root : Nat), fre := (ch.headD 0 : Nat), stage := 1 } ⟨pages, l, d, ch, []⟩ f dm lv (.slice none 0 0)) := by
     have := hl.mem.cells.put 12 (.int .i64 1)
     exact this
   have ho : Off [E.t] w2 (w2.setCell ⟨E.t, 12, none⟩ (.int .i64 1)) := (Off.refl [E.t] w2).setCell (p := ⟨E.t, 12, none⟩) (.inl (by simp)) _
   have htS : E.t ∈ S' := hl.mem.inS
   have HE := Lib.hid (show Laid { E with stage := 1 } False S Fo w (w2.setCell ⟨E.t, 12, none⟩ (.int .i64 1)) G σ' pages l d ch f dm nn Sf lv S' from
     ⟨hl.tr, hl.NS, hl.R, hl.ok, LdMem.other (E' := { E with root := (G.main.root : Nat), fre := (ch.headD 0 : Nat), stage := 1 }) hl.mem hbk ho ⟨rfl, rfl, rfl, rfl, rfl, rfl, rfl, rfl, rfl, rfl, rfl, rfl, rfl, rfl, rfl⟩, hl.off.then ho (fun b hb => by rw [List.mem_singleton] at hb; subst hb; exact hl.fresh _ htS), hl.fresh, hl.le, hl.perm, hl.sorted, hl.txns, hl.tree, hl.dirty, hl.chain, hl.range, hl.stamps, hl.keepd, hl.room, hl.few⟩)
   clear hl hbk ho htS
   go_wp2_with fail
   refine (HEN.out _).mono ?_
   rintro e w4 ⟨rfl, rfl⟩
   go_wp2_with fail
   go_ret2
   exact ⟨rfl, G, σ', pages, l, d, ch, f, dm, nn, Sf, lv, S', HE.out⟩
 · exact absurd hF (fun h => h)
set_option maxHeartbeats 16000000 in
theorem tstep1 {E : Kv} {w : World} {S : List Nat} {pages : Nat} {l : List (Nat × Nat)} {d : Book} {ch : List Nat} {f dm nn : Nat} {Sf : List Nat} {lv : Value} (h : LdMem E w S pages l d ch f dm nn Sf lv) (hs : E.Sep) (hov : E.over = false) (hsg : E.stage = 1) (hfit : ∀ n p, d n = some p → rightB p.kind n E.txn p.body = true ∧ (n : Int) < E.P.m.l ∧ 4 * n + 4 ≤ E.D.sec.length) (hst : E.D.steps ≤ 999990000) (hlog : E.P.log.length ≤ 900000)
   {D' : DevS} (hput : putAll E.txn d (keysOf d) E.D = (D', 0)) :
   Calls Tryz.prog 13 #[.pointer (some ⟨E.t, 0, none⟩)] w (fun e w' => e = .returned (.tuple #[.bool false, .int .i64 0]) ∧ ∃ (T' Sd' : List Nat) (P' : PgS) (S' : List Nat) (m : Nat), LdMem { E.dev T' Sd' P' D' with stage := 2 } w' S' pages l d ch f dm nn Sf lv ∧ (E.dev T' Sd' P' D').Sep ∧ Off S w w' ∧ Fresh w S S' ∧
     P' = { E.P with log := E.P.log ++ ((keysOf d).take m).map (fun (n : Nat) => (n : Int)) } ∧ D'.steps ≤ E.D.steps + 2048 ∧ D'.sec.length = E.D.sec.length) := by
 have HM := Lib.hid (tmay_ok h.cells (by rw [show (txCells E ⟨pages, l, d, ch, []⟩ f dm lv (.slice none 0 0))[13]? = some (.bool E.over) from rfl, hov]))
 have HW := Lib.hid (twrite_any h hs hov hfit hst hlog)
 have c12 : w.cell? ⟨E.t, 12, none⟩ = some (.int .i64 1) := by
   have h1 := h.cells.cell 12
   rw [show (txCells E ⟨pages, l, d, ch, []⟩ f dm lv (.slice none 0 0))[12]? = some (.int .i64 E.stage) from rfl, hsg] at h1
   exact h1
 have lt := h.cells.lt
 have HEN := Lib.hid fun (W : World) => tend_ok E.t W
 have HP := Lib.hid hput
 have HSG := Lib.hid hsg
 clear h hs hov hsg hfit hst hlog hput
 go_enter Tryz.func13, Tryz.ntmps13
 go_wp2_with fail
 refine HM.out.mono ?_
 rintro e w1 ⟨rfl, rfl⟩
 go_wp2_with fail
 refine HW.out.mono ?_
 rintro e w2 ⟨r, T', Sd', P', D2, S', m, rfl, hpa, hl, hsep, hof, hfr, hlg, hs2, hln⟩
 rw [HP.out] at hpa
 injection hpa with hp1 hp2
 subst hp1 hp2
 have q12 : w2.cell? ⟨E.t, 12, none⟩ = some (.int .i64 1) := by
   have h1 := hl.cells.cell 12
   rw [show (txCells (E.dev T' Sd' P' D') ⟨pages, l, d, ch, []⟩ f dm lv (.slice none 0 0))[12]? = some (.int .i64 E.stage) from rfl, HSG.out] at h1
   exact h1
 have f12 : w2.frozen? ⟨E.t, 12, none⟩ = false := hl.cells.frozen 12
 have lt2 : E.t < w2.heap.size := hl.cells.lt
 have hbk : Bk (w2.setCell ⟨E.t, 12, none⟩ (.int .i64 2)) E.t 103 (txCells { E.dev T' Sd' P' D' with stage := 2 } ⟨pages, l, d, ch, []⟩ f dm lv (.slice none 0 0)) := by
   have := hl.cells.put 12 (.int .i64 2)
   exact this
 have ho : Off [E.t] w2 (w2.setCell ⟨E.t, 12, none⟩ (.int .i64 2)) := (Off.refl [E.t] w2).setCell (p := ⟨E.t, 12, none⟩) (.inl (by simp)) _
 have htS : E.t ∈ S' := hl.inS
 have HE := Lib.hid (show _ from (⟨LdMem.other (E' := { E.dev T' Sd' P' D' with stage := 2 }) hl hbk ho ⟨rfl, rfl, rfl, rfl, rfl, rfl, rfl, rfl, rfl, rfl, rfl, rfl, rfl, rfl, rfl⟩, hsep, hof.then ho (fun b hb => by rw [List.mem_singleton] at hb; subst hb; exact hfr _ htS), hfr, hlg, hs2, hln⟩ : LdMem { E.dev T' Sd' P' D' with stage := 2 } (w2.setCell ⟨E.t, 12, none⟩ (.int .i64 2)) S' pages l d ch f dm nn Sf lv ∧ (E.dev T' Sd' P' D').Sep ∧ Off S w (w2.setCell ⟨E.t, 12, none⟩ (.int .i64 2)) ∧ Fresh w S S' ∧
     P' = { E.P with log := E.P.log ++ ((keysOf d).take m).map (fun (n : Nat) => (n : Int)) } ∧ D'.steps ≤ E.D.steps + 2048 ∧ D'.sec.length = E.D.sec.length))
 clear hl hsep hof hfr hlg hs2 hln hbk ho htS
 go_wp2_with fail
 refine (HEN.out _).mono ?_
 rintro e w4 ⟨rfl, rfl⟩
 go_wp2_with fail
 go_ret2
 exact ⟨rfl, T', Sd', P', S', m, HE.out⟩
set_option maxHeartbeats 4000000 in
theorem psync_any {w : World} {q g : Nat} {T S : List Nat} {P : PgS} {D D' : DevS} {r : Int} (hp : Pg w q T g P) (hd : Dev w g S D) (hb : D.steps ≤ 1000000000) (hw : D.sync = (D', r)) :
   Calls Tryz.prog 52 #[.pointer (some ⟨q, 0, none⟩)] w (DevPost g S D' (.int .i64 r) w) := by
 obtain ⟨sl, lg, hpa⟩ := hp
 have c0 : w.cell? ⟨q, 0, none⟩ = some (ptr g) := hpa.cells.cell 0
 have lq := hpa.cells.lt
 have HS := Lib.hid (dsync_from hd D' r hb hw)
 clear hpa hd hb hw
 go_enter Tryz.func52, Tryz.ntmps52
 go_wp2_with fail
 refine HS.out.mono ?_
 rintro e w1 ⟨rfl, S1, hd1, ho1, hf1⟩
 have HE := Lib.hid (show DevPost g S D' (.int .i64 r) w (.returned (.int .i64 r)) w1 from ⟨rfl, S1, hd1, ho1, hf1⟩)
 clear hd1 ho1 hf1
 go_wp2_with fail
 go_ret
 exact HE.out
set_option maxHeartbeats 16000000 in
theorem tstep2 {E : Kv} {w : World} {S : List Nat} {pages : Nat} {l : List (Nat × Nat)} {d : Book} {ch : List Nat} {f dm nn : Nat} {Sf : List Nat} {lv : Value} (h : LdMem E w S pages l d ch f dm nn Sf lv) (hs : E.Sep) (hov : E.over = false) (hsg : E.stage = 2) (hst : E.D.steps ≤ 1000000000)
   {D' : DevS} (hsy : E.D.sync = (D', 0)) :
   Calls Tryz.prog 13 #[.pointer (some ⟨E.t, 0, none⟩)] w (fun e w' => e = .returned (.tuple #[.bool false, .int .i64 0]) ∧ ∃ (Sd' : List Nat) (S' : List Nat), LdMem { E.dev E.T Sd' E.P D' with stage := 3 } w' S' pages l d ch f dm nn Sf lv ∧ (E.dev E.T Sd' E.P D').Sep ∧ Off S w w' ∧ Fresh w S S') := by
 have HM := Lib.hid (tmay_ok h.cells (by rw [show (txCells E ⟨pages, l, d, ch, []⟩ f dm lv (.slice none 0 0))[13]? = some (.bool E.over) from rfl, hov]))
 have HW := Lib.hid (psync_any h.pg h.dev hst hsy)
 have c12 : w.cell? ⟨E.t, 12, none⟩ = some (.int .i64 2) := by
   have h1 := h.cells.cell 12
   rw [show (txCells E ⟨pages, l, d, ch, []⟩ f dm lv (.slice none 0 0))[12]? = some (.int .i64 E.stage) from rfl, hsg] at h1
   exact h1
 have c0 : w.cell? ⟨E.t, 0, none⟩ = some (.pointer (some ⟨E.b, 0, none⟩)) := h.cells.cell 0
 have d0 : w.cell? ⟨E.b, 0, none⟩ = some (.pointer (some ⟨E.q, 0, none⟩)) := h.db.cell 0
 have lt := h.cells.lt
 have lb := h.db.lt
 have HEN := Lib.hid fun (W : World) => tend_ok E.t W
 have H := Lib.hid h
 have HS := Lib.hid hs
 have HSG := Lib.hid hsg
 clear h hs hov hsg hst hsy
 go_enter Tryz.func13, Tryz.ntmps13
 go_wp2_with fail
 refine HM.out.mono ?_
 rintro e w1 ⟨rfl, rfl⟩
 go_wp2_with fail
 refine HW.out.mono ?_
 rintro e w2 ⟨rfl, Sd', hd', hod, hfd⟩
 have hoT : Off (E.Sd ++ E.T) w w2 := hod.mono (fun b hb => .inl (by simp [hb]))
 have hapT : ∀ b ∈ E.T, b ∉ Sd' := fun b hb hm => by
   rcases hfd b hm with h9 | h9
   · exact HS.out.ap b hb h9
   · have := H.out.pg.old b hb; omega
 obtain ⟨S', hl, hsep, hof, hfr⟩ := H.out.onDev HS.out hd' (H.out.pg.off hod HS.out.ap) hapT hoT hfd (Fresh.refl _ _)
 have q12 : w2.cell? ⟨E.t, 12, none⟩ = some (.int .i64 2) := by
   have h1 := hl.cells.cell 12
   rw [show (txCells (E.dev E.T Sd' E.P D') ⟨pages, l, d, ch, []⟩ f dm lv (.slice none 0 0))[12]? = some (.int .i64 E.stage) from rfl, HSG.out] at h1
   exact h1
 have f12 : w2.frozen? ⟨E.t, 12, none⟩ = false := hl.cells.frozen 12
 have lt2 : E.t < w2.heap.size := hl.cells.lt
 have hbk : Bk (w2.setCell ⟨E.t, 12, none⟩ (.int .i64 3)) E.t 103 (txCells { E.dev E.T Sd' E.P D' with stage := 3 } ⟨pages, l, d, ch, []⟩ f dm lv (.slice none 0 0)) := by
   have := hl.cells.put 12 (.int .i64 3)
   exact this
 have ho : Off [E.t] w2 (w2.setCell ⟨E.t, 12, none⟩ (.int .i64 3)) := (Off.refl [E.t] w2).setCell (p := ⟨E.t, 12, none⟩) (.inl (by simp)) _
 have htS : E.t ∈ S' := hl.inS
 have HE := Lib.hid (show LdMem { E.dev E.T Sd' E.P D' with stage := 3 } (w2.setCell ⟨E.t, 12, none⟩ (.int .i64 3)) S' pages l d ch f dm nn Sf lv ∧ (E.dev E.T Sd' E.P D').Sep ∧ Off S w (w2.setCell ⟨E.t, 12, none⟩ (.int .i64 3)) ∧ Fresh w S S' from ⟨LdMem.other (E' := { E.dev E.T Sd' E.P D' with stage := 3 }) hl hbk ho ⟨rfl, rfl, rfl, rfl, rfl, rfl, rfl, rfl, rfl, rfl, rfl, rfl, rfl, rfl, rfl⟩, hsep, hof.then ho (fun b hb => by rw [List.mem_singleton] at hb; subst hb; exact hfr _ htS), hfr⟩)
 clear hl hsep hof hfr hbk ho htS hd' hod hfd hoT hapT
 go_wp2_with fail
 refine (HEN.out _).mono ?_
 rintro e w4 ⟨rfl, rfl⟩
 go_wp2_with fail
 go_ret2
 exact ⟨rfl, Sd', S', HE.out⟩
def Kv.meta_ (E : Kv) (pages : Nat) : MetaV := ⟨E.txn, E.root, E.fre, pages, E.limit⟩
set_option maxHeartbeats 16000000 in
theorem tstep3 {E : Kv} {w : World} {S : List Nat} {pages : Nat} {l : List (Nat × Nat)} {d : Book} {ch : List Nat} {f dm nn : Nat} {Sf : List Nat} {lv : Value} (h : LdMem E w S pages l d ch f dm nn Sf lv) (hs : E.Sep) (hov : E.over = false) (hsg : E.stage = 3) (hst : E.D.steps ≤ 1000000000) (hsd : E.P.sealed = none) (hm : (E.meta_ pages).ok = true) (hl : (E.limit : Int) = E.P.m.l) (ht : (E.txn : Int) = E.P.m.t + 1) (ht0 : 0 ≤ E.P.m.t)
   {D' : DevS} (hw : E.D.write ((E.txn : Int) % 2) (E.meta_ pages).bytes = (D', 0)) :
   Calls Tryz.prog 13 #[.pointer (some ⟨E.t, 0, none⟩)] w (fun e w' => e = .returned (.tuple #[.bool false, .int .i64 0]) ∧ ∃ (T' Sd' S' : List Nat), LdMem { E.dev T' Sd' { E.P with sealed := some (E.meta_ pages) } D' with stage := 4 } w' S' pages l d ch f dm nn Sf lv ∧ (E.dev T' Sd' { E.P with sealed := some (E.meta_ pages) } D').Sep ∧ Off S w w' ∧ Fresh w S S') := by
 have HM := Lib.hid (tmay_ok h.cells (by rw [show (txCells E ⟨pages, l, d, ch, []⟩ f dm lv (.slice none 0 0))[13]? = some (.bool E.over) from rfl, hov]))
 have HW := Lib.hid (show Calls Tryz.prog 53 #[.pointer (some ⟨E.q, 0, none⟩), .agg #[.int .i64 E.txn, .int .i64 E.root, .int .i64 E.fre, .int .i64 pages, .int .i64 E.limit]] w.drew (PgPost E.g E.q E.Sd E.T D' { E.P with sealed := some (E.meta_ pages) } 0 w.drew) from by
   have h1 := seal_any (h.dev.off ((Off.refl [] w).drew) (by simp)) (h.pg.off ((Off.refl [] w).drew) (by simp)) hs.ap (h.row.off ((Off.refl [] w).drew) (by simp)).1 hs.s.2.2 hsd (E.meta_ pages) hm hl ht ht0 hst 0 hw
   rw [if_pos rfl] at h1
   exact h1)
 have c12 : w.cell? ⟨E.t, 12, none⟩ = some (.int .i64 3) := by
   have h1 := h.cells.cell 12
   rw [show (txCells E ⟨pages, l, d, ch, []⟩ f dm lv (.slice none 0 0))[12]? = some (.int .i64 E.stage) from rfl, hsg] at h1
   exact h1
 have lt := h.cells.lt
 have lb := h.db.lt
 have HEN := Lib.hid fun (W : World) => tend_ok E.t W
 have H := Lib.hid h
 have HS := Lib.hid hs
 have HSG := Lib.hid hsg
 have htN : E.t ∉ E.Sd ++ E.T := fun hm => h.apart E.t (by simp [txMut]) (by
   rcases List.mem_append.1 hm with hm | hm
   · simp [Kv.still, hm]
   · simp [Kv.still, hm])
 have hbN : E.b ∉ E.Sd ++ E.T := fun hm => by
   rcases List.mem_append.1 hm with hm | hm
   · exact hs.s.1 hm
   · exact hs.t.1 hm
 have HKS := Lib.hid (show ∀ W, Off (E.Sd ++ E.T) w W → W.cell? ⟨E.t, 0, none⟩ = some (.pointer (some ⟨E.b, 0, none⟩)) ∧ W.cell? ⟨E.b, 0, none⟩ = some (.pointer (some ⟨E.q, 0, none⟩)) ∧ W.cell? ⟨E.t, 2, none⟩ = some (.int .i64 E.txn) ∧ W.cell? ⟨E.t, 3, none⟩ = some (.int .i64 E.root) ∧ W.cell? ⟨E.t, 4, none⟩ = some (.int .i64 E.fre) ∧ W.cell? ⟨E.t, 5, none⟩ = some (.int .i64 pages) ∧ W.cell? ⟨E.t, 6, none⟩ = some (.int .i64 E.limit) from fun W hW =>
   ⟨(hW.bk h.cells htN).cell 0, (hW.bk h.db hbN).cell 0, (hW.bk h.cells htN).cell 2, (hW.bk h.cells htN).cell 3, (hW.bk h.cells htN).cell 4, (hW.bk h.cells htN).cell 5, (hW.bk h.cells htN).cell 6⟩)
 clear h hs hov hsg hst hsd hm hl ht ht0 hw htN hbN
 go_enter Tryz.func13, Tryz.ntmps13
 go_wp2_with fail
 refine HM.out.mono ?_
 rintro e w1 ⟨rfl, rfl⟩
 go_wp2_with fail
 go_region_held3 (fun W => W.cell? ⟨E.t, 0, none⟩ = some (.pointer (some ⟨E.b, 0, none⟩)) ∧ W.cell? ⟨E.b, 0, none⟩ = some (.pointer (some ⟨E.q, 0, none⟩)) ∧ W.cell? ⟨E.t, 2, none⟩ = some (.int .i64 E.txn) ∧ W.cell? ⟨E.t, 3, none⟩ = some (.int .i64 E.root) ∧ W.cell? ⟨E.t, 4, none⟩ = some (.int .i64 E.fre) ∧ W.cell? ⟨E.t, 5, none⟩ = some (.int .i64 pages) ∧ W.cell? ⟨E.t, 6, none⟩ = some (.int .i64 E.limit)) (first | exact HKS.out _ (Off.refl _ _).drew | exact HKS.out _ hk5.out)
   (first
   | (go_at_call 53; refine HW.out.mono ?_; intro e w2 hpp; obtain ⟨rfl, -⟩ := id hpp; have HPP := Lib.hid hpp; have hk5 := Lib.hid (show Off (E.Sd ++ E.T) w w2 from by obtain ⟨-, _, _, -, -, -, q4, -, -⟩ := hpp; exact ((Off.refl (E.Sd ++ E.T) w).drew).trans q4); clear hpp)
   | fail)
 all_goals
   obtain ⟨-, Sd', T', hd', hp', hap', -, hfd, hft⟩ := HPP.out
   obtain ⟨S', hl, hsep, hof, hfr⟩ := H.out.onDev HS.out hd' hp' hap' hk5.out (hfd.mono (by simp)) (hft.mono (by simp))
   have q12 : w2.cell? ⟨E.t, 12, none⟩ = some (.int .i64 3) := by
     have h1 := hl.cells.cell 12
     rw [show (txCells (E.dev T' Sd' { E.P with sealed := some (E.meta_ pages) } D') ⟨pages, l, d, ch, []⟩ f dm lv (.slice none 0 0))[12]? = some (.int .i64 E.stage) from rfl, HSG.out] at h1
     exact h1
   have f12 : w2.frozen? ⟨E.t, 12, none⟩ = false := hl.cells.frozen 12
   have lt2 : E.t < w2.heap.size := hl.cells.lt
   have hbk : Bk (w2.setCell ⟨E.t, 12, none⟩ (.int .i64 4)) E.t 103 (txCells { E.dev T' Sd' { E.P with sealed := some (E.meta_ pages) } D' with stage := 4 } ⟨pages, l, d, ch, []⟩ f dm lv (.slice none 0 0)) := by
     have := hl.cells.put 12 (.int .i64 4)
     exact this
   have ho : Off [E.t] w2 (w2.setCell ⟨E.t, 12, none⟩ (.int .i64 4)) := (Off.refl [E.t] w2).setCell (p := ⟨E.t, 12, none⟩) (.inl (by simp)) _
   have htS : E.t ∈ S' := hl.inS
   have HE := Lib.hid (show LdMem { E.dev T' Sd' { E.P with sealed := some (E.meta_ pages) } D' with stage := 4 } (w2.setCell ⟨E.t, 12, none⟩ (.int .i64 4)) S' pages l d ch f dm nn Sf lv ∧ (E.dev T' Sd' { E.P with sealed := some (E.meta_ pages) } D').Sep ∧ Off S w (w2.setCell ⟨E.t, 12, none⟩ (.int .i64 4)) ∧ Fresh w S S' from ⟨LdMem.other (E' := { E.dev T' Sd' { E.P with sealed := some (E.meta_ pages) } D' with stage := 4 }) hl hbk ho ⟨rfl, rfl, rfl, rfl, rfl, rfl, rfl, rfl, rfl, rfl, rfl, rfl, rfl, rfl, rfl⟩, hsep, hof.then ho (fun b hb => by rw [List.mem_singleton] at hb; subst hb; exact hfr _ htS), hfr⟩)
   clear hl hsep hof hfr hbk ho htS hd' hp' hap' hfd hft hk5
   go_wp2_with fail
   refine (HEN.out _).mono ?_
   rintro e w4 ⟨rfl, rfl⟩
   go_wp2_with fail
   go_ret2
   exact ⟨rfl, T', Sd', S', HE.out⟩
structure DoneAt (E : Kv) (S : List Nat) (l : List (Nat × Nat)) (ch : List Nat) (f : Nat) (Sf : List Nat) (lv : Value) (P' : PgS) (D' : DevS) (w w' : World) (T' Sd' : List Nat) (ov : Bool) : Prop where
 db : DbAt w' ⟨E.b, E.q, E.r, f, E.g, T', Sf, P', E.s, l, lv, ch, E.c4⟩
 dev : Dev w' E.g Sd' D'
 row : RowIs E.ro w'
 txn : ∃ cs, Bk w' E.t 103 cs ∧ cs[13]? = some (.bool ov)
 sep : (E.dev T' Sd' P' D').Sep
 off : Off S w w'
 fT : Fresh w E.T T'
 fS : Fresh w E.Sd Sd'
set_option maxHeartbeats 16000000 in
theorem tdone_any {E : Kv} {w : World} {S : List Nat} {pages : Nat} {l : List (Nat × Nat)} {d : Book} {ch : List Nat} {f dm nn : Nat} {Sf : List Nat} {lv : Value} (h : LdMem E w S pages l d ch f dm nn Sf lv) (hs : E.Sep) (hst : E.D.steps ≤ 1000000000) {m : MetaV} (hsd : E.P.sealed = some m) {D' : DevS} (hw : E.D.sync = (D', 0)) :
   Calls Tryz.prog 54 #[.pointer (some ⟨E.t, 0, none⟩)] w (fun e w' => e = .returned (.int .i64 0) ∧ ∃ T' Sd', DoneAt E S l ch f Sf lv ⟨m, E.P.m, true, none, E.P.log⟩ D' w w' T' Sd' E.over) := by
 obtain ⟨A, c, hlv, -, -⟩ := own_formK h.loose
 subst hlv
 have HD := Lib.hid (show Calls Tryz.prog 119 #[.pointer (some ⟨E.q, 0, none⟩)] w (PgPost E.g E.q E.Sd E.T D' ⟨m, E.P.m, true, none, E.P.log⟩ 0 w) from by
   have h1 := done_any h.dev h.pg hs.ap m hsd hst 0 hw
   rw [if_pos rfl] at h1
   exact h1)
 have c0 : w.cell? ⟨E.t, 0, none⟩ = some (.pointer (some ⟨E.b, 0, none⟩)) := h.cells.cell 0
 have d0 : w.cell? ⟨E.b, 0, none⟩ = some (.pointer (some ⟨E.q, 0, none⟩)) := h.db.cell 0
 have lt := h.cells.lt
 have lb := h.db.lt
 have H := Lib.hid h
 have HS := Lib.hid hs
 clear h hs hst hsd hw
 go_enter Tryz.func54, Tryz.ntmps54
 go_wp2_with fail
 refine HD.out.mono ?_
 rintro e w2 ⟨rfl, Sd', T', hd', hp', hap', ho', hfd, hft⟩
 obtain ⟨S', hl, hsep, hof, hfr⟩ := H.out.onDev HS.out hd' hp' hap' ho' hfd hft
 have q0 : w2.cell? ⟨E.t, 0, none⟩ = some (.pointer (some ⟨E.b, 0, none⟩)) := hl.cells.cell 0
 have q7 : w2.cell? ⟨E.t, 7, none⟩ = some (.pointer (some ⟨f, 0, none⟩)) := hl.cells.cell 7
 have q9 : w2.cell? ⟨E.t, 9, none⟩ = some (.slice A ch.length c) := hl.cells.cell 9
 have b2 : w2.cell? ⟨E.b, 2, none⟩ = some E.c2 := hl.db.cell 2
 have b3 : w2.cell? ⟨E.b, 3, none⟩ = some E.c3 := hl.db.cell 3
 have fb2 : w2.frozen? ⟨E.b, 2, none⟩ = false := hl.db.frozen 2
 have fb3 : w2.frozen? ⟨E.b, 3, none⟩ = false := hl.db.frozen 3
 have lt2 : E.t < w2.heap.size := hl.cells.lt
 have lb2 : E.b < w2.heap.size := hl.db.lt
 have hbt : E.b ≠ E.t := hl.db.ne hl.cells (by decide)
 have hdb : Bk ((w2.setCell ⟨E.b, 2, none⟩ (.pointer (some ⟨f, 0, none⟩))).setCell ⟨E.b, 3, none⟩ (.slice A ch.length c)) E.b 99 #[.pointer (some ⟨E.q, 0, none⟩), .pointer (some ⟨E.r, 0, none⟩), .pointer (some ⟨f, 0, none⟩), .slice A ch.length c, E.c4] := (hl.db.put 2 (.pointer (some ⟨f, 0, none⟩))).put 3 (.slice A ch.length c)
 have hob : Off [E.b] w2 ((w2.setCell ⟨E.b, 2, none⟩ (.pointer (some ⟨f, 0, none⟩))).setCell ⟨E.b, 3, none⟩ (.slice A ch.length c)) := ((Off.refl [E.b] w2).setCell (p := ⟨E.b, 2, none⟩) (.inl (by simp)) _).setCell (p := ⟨E.b, 3, none⟩) (.inl (by simp)) _
 have HEND := Lib.hid (show ∀ W', Bk W' E.b 99 #[.pointer (some ⟨E.q, 0, none⟩), .pointer (some ⟨E.r, 0, none⟩), .pointer (some ⟨f, 0, none⟩), .slice A ch.length c, E.c4] → Off [E.b] w2 W' → DoneAt E S l ch f Sf (.slice A ch.length c) ⟨m, E.P.m, true, none, E.P.log⟩ D' w W' T' Sd' E.over from fun W' hbk hob => by
   have hmb : ∀ b ∈ txMut E.t f dm Sf (.slice A ch.length c) (.slice none 0 0), b ≠ E.b := fun b hb e => hl.apart b hb (by rw [e]; simp [Kv.still, Kv.dev])
   have hno : ∀ b, b ∈ txMut E.t f dm Sf (.slice A ch.length c) (.slice none 0 0) → b ∉ [E.b] := fun b hb hm => by rw [List.mem_singleton] at hm; exact hmb b hb hm
   have hrb : E.r ∉ [E.b] := fun hm => by
     rw [List.mem_singleton] at hm
     exact (hl.rd.ne hl.db (by decide)) hm
   have hTb : ∀ b ∈ T', b ∉ [E.b] := fun b hb hm => by
     rw [List.mem_singleton] at hm
     subst hm
     exact hsep.t.1 hb
   have hSb : ∀ b ∈ Sd', b ∉ [E.b] := fun b hb hm => by
     rw [List.mem_singleton] at hm
     subst hm
     exact hsep.s.1 hb
   have hcb : 0 ∉ [E.b] := fun hm => by
     rw [List.mem_singleton] at hm
     have h1 := hl.row.1 0 (by decide)
     have h2 : w2.cell? ⟨E.b, 0, none⟩ = some (.pointer (some ⟨E.q, 0, none⟩)) := hl.db.cell 0
     have e9 : (⟨0, 0, none⟩ : Addr) = ⟨E.b, 0, none⟩ := congrArg (fun b => (⟨b, 0, none⟩ : Addr)) hm
     rw [e9, h2] at h1
     cases h1
   have hbS : E.b ∈ S := by rw [H.out.blocks]; simp [Kv.still]
   have hin : ∀ x, x ∈ T' ++ (Sf ++ (Value.slice A ch.length c).ownBlock.toList) → x = E.b ∨ x = E.r → False := fun x hx he => by
     rcases List.mem_append.1 hx with hx | hx
     · rcases he with rfl | rfl
       · exact hsep.t.1 hx
       · exact hsep.t.2.1 hx
     · have hxm : x ∈ txMut E.t f dm Sf (.slice A ch.length c) (.slice none 0 0) := by
         rcases List.mem_append.1 hx with hx | hx
         · simp [txMut, hx]
         · simp only [txMut, List.mem_cons, List.mem_append]
           exact .inr (.inr (.inl hx))
       exact hl.apart x hxm (by rcases he with rfl | rfl <;> simp [Kv.still, Kv.dev])
   refine ⟨⟨hbk, hl.pg.off hob hTb, hob.bk hl.rd hrb, (hl.free.off hob (fun b hb => hno b (by simp [txMut, hb]))).fl, hob.own hl.loose (fun b hb => hno b (by simp only [txMut, List.mem_cons, List.mem_append, Option.mem_toList]; exact .inr (.inr (.inl hb)))), fun hm => hin _ hm (.inl rfl), fun hm => hin _ hm (.inr rfl)⟩, hl.dev.off hob hSb, hl.row.off hob hcb, ⟨_, hob.bk hl.cells (hno _ (by simp [txMut, Kv.dev])), rfl⟩, hsep, hof.then hob (fun b hb => by rw [List.mem_singleton] at hb; subst hb; exact .inl hbS), hft, hfd⟩)
 clear hl hsep hof hfr hd' hp' hap' ho' hfd hft hob
 have HDB := Lib.hid hdb
 clear hdb
 go_wp2_with fail
 go_region
 all_goals
   go_wp2_with fail
   go_region
   all_goals
     go_wp2_with fail
     go_ret
     exact ⟨rfl, T', Sd', HEND.out _ HDB.out (((Off.refl [E.b] w2).setCell (p := ⟨E.b, 2, none⟩) (.inl (by simp)) _).setCell (p := ⟨E.b, 3, none⟩) (.inl (by simp)) _).drew.drew⟩
set_option maxHeartbeats 16000000 in
theorem tstep4 {E : Kv} {w : World} {S : List Nat} {pages : Nat} {l : List (Nat × Nat)} {d : Book} {ch : List Nat} {f dm nn : Nat} {Sf : List Nat} {lv : Value} (h : LdMem E w S pages l d ch f dm nn Sf lv) (hs : E.Sep) (hov : E.over = false) (hsg : E.stage = 4) (hst : E.D.steps ≤ 1000000000) {m : MetaV} (hsd : E.P.sealed = some m) {D' : DevS} (hw : E.D.sync = (D', 0)) :
   Calls Tryz.prog 13 #[.pointer (some ⟨E.t, 0, none⟩)] w (fun e w' => e = .returned (.tuple #[.bool true, .int .i64 0]) ∧ ∃ T' Sd', DoneAt E S l ch f Sf lv ⟨m, E.P.m, true, none, E.P.log⟩ D' w w' T' Sd' true) := by
 have HM := Lib.hid (tmay_ok h.cells (by rw [show (txCells E ⟨pages, l, d, ch, []⟩ f dm lv (.slice none 0 0))[13]? = some (.bool E.over) from rfl, hov]))
 have HW := Lib.hid (tdone_any h hs hst hsd hw)
 have c12 : w.cell? ⟨E.t, 12, none⟩ = some (.int .i64 4) := by
   have h1 := h.cells.cell 12
   rw [show (txCells E ⟨pages, l, d, ch, []⟩ f dm lv (.slice none 0 0))[12]? = some (.int .i64 E.stage) from rfl, hsg] at h1
   exact h1
 have lt := h.cells.lt
 have htS := h.inS
 have hmut : ∀ b, b ∈ E.b :: E.r :: 0 :: (E.T ++ E.Sd) → b ≠ E.t := fun b hb e => by
   subst e
   refine h.apart E.t (by simp [txMut]) ?_
   simp only [List.mem_cons, List.mem_append] at hb
   simp only [Kv.still, List.mem_cons, List.mem_append]
   rcases hb with hb | hb | hb | hb | hb
   · exact .inl hb
   · exact .inr (.inr (.inl hb))
   · exact .inr (.inr (.inr (.inl hb)))
   · exact .inr (.inr (.inr (.inr (.inl hb))))
   · exact .inr (.inr (.inr (.inr (.inr hb))))
 have hsf : ∀ b, b ∈ Sf ++ lv.ownBlock.toList → b ≠ E.t := fun b hb e => by
   subst e
   have hn := h.nodup
   unfold txMut at hn
   refine (List.nodup_cons.1 hn).1 ?_
   rcases List.mem_append.1 hb with hb | hb
   · simp [hb]
   · simp only [List.mem_cons, List.mem_append]
     exact .inr (.inl hb)
 have HMU := Lib.hid hmut
 have HSF := Lib.hid hsf
 have HTS := Lib.hid htS
 clear h hs hov hsg hst hsd hw hmut hsf htS
 go_enter Tryz.func13, Tryz.ntmps13
 go_wp2_with fail
 refine HM.out.mono ?_
 rintro e w1 ⟨rfl, rfl⟩
 go_wp2_with fail
 refine HW.out.mono ?_
 rintro e w2 ⟨rfl, T', Sd', hd⟩
 obtain ⟨cs, k1, k2⟩ := hd.txn
 have q13 := (k1.cell 13).trans k2
 have f13 := k1.frozen 13
 have lt2 := k1.lt
 have hof : Off [E.t] w2 (w2.setCell ⟨E.t, 13, none⟩ (.bool true)) := (Off.refl [E.t] w2).setCell (p := ⟨E.t, 13, none⟩) (.inl (by simp)) _
 have hTt : ∀ b ∈ T', b ∉ [E.t] := fun b hb hm => by
   rw [List.mem_singleton] at hm
   rcases hd.fT b hb with h9 | h9
   · exact HMU.out b (by simp [h9]) hm
   · omega
 have hSt : ∀ b ∈ Sd', b ∉ [E.t] := fun b hb hm => by
   rw [List.mem_singleton] at hm
   rcases hd.fS b hb with h9 | h9
   · exact HMU.out b (by simp [h9]) hm
   · omega
 have HE := Lib.hid (show DoneAt E S l ch f Sf lv ⟨m, E.P.m, true, none, E.P.log⟩ D' w (w2.setCell ⟨E.t, 13, none⟩ (.bool true)) T' Sd' true from
   ⟨hd.db.off hof (fun b hb => by
     simp only [Di.blocks, List.mem_cons, List.mem_append] at hb
     rcases hb with rfl | rfl | hb | hb | hb
     · intro hm; rw [List.mem_singleton] at hm; exact HMU.out E.b (by simp) hm
     · intro hm; rw [List.mem_singleton] at hm; exact HMU.out E.r (by simp) hm
     · exact hTt b hb
     · intro hm; rw [List.mem_singleton] at hm; exact HSF.out b (by simp [hb]) hm
     · intro hm; rw [List.mem_singleton] at hm; exact HSF.out b (List.mem_append.2 (.inr hb)) hm), hd.dev.off hof hSt, hd.row.off hof (fun hm => by rw [List.mem_singleton] at hm; exact HMU.out _ (by simp) hm), ⟨_, k1.put 13 (.bool true), by
     rw [Array.getElem?_setIfInBounds_self]
     have : 13 < cs.size := by
       by_cases hc : 13 < cs.size
       · exact hc
       · rw [Array.getElem?_eq_none (Nat.le_of_not_lt hc)] at k2; cases k2
     simp [this]⟩, hd.sep, hd.off.then hof (fun b hb => by rw [List.mem_singleton] at hb; subst hb; exact .inl HTS.out), hd.fT, hd.fS⟩)
 clear hd hof hTt hSt k1 k2
 go_wp2_with fail
 go_ret2
 exact ⟨rfl, T', Sd', HE.out⟩
end Go.Proofs.YtjbcbnemdhbhbaaGreatDoor

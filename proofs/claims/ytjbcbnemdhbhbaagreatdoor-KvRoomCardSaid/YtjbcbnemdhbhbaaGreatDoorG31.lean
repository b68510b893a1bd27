import Derived.Test.YtjbcbnemdhbhbaaGreatDoorG30
import Derived.Test.YtjbcbnemdhbhbaaGreatDoorG6
import Derived.Test.YtjbcbnemdhbhbaaGreatDoorG0
import Derived.Shelf.SlIterI.Nil
import Derived.Shelf.SortM.Plain
import Derived.Shelf.SortM.SortNone
import Derived.Test.YtjbcbnemdhbhbaaGreatDoorG5
import Derived.Shelf.SlIter.Nil
namespace Go.Proofs.YtjbcbnemdhbhbaaGreatDoor
open Go.RowKit
set_option maxRecDepth 100000
set_option linter.unusedVariables false
set_option linter.unusedSimpArgs false
theorem own_init {w : World} {base : Nat} {e : TypeId} {g c : Nat} {l : List Nat} {n : Nat} (h : w.ownsRow base e 1 (.slice (some ⟨g, 0, none⟩) (l.length + 1) c) (l.length + 1) (ints (l ++ [n]))) : w.ownsRow base e 1 (.slice (some ⟨g, 0, none⟩) l.length c) l.length (ints l) := by
 rcases h.2 with ⟨h1, h2⟩ | ⟨g', cap, cur, h1, hb, hh, hc, hm, hs, ht⟩
 · cases h1
 · injection h1 with e1 e2 e3
   injection e1 with e1
   injection e1 with e1 _
   subst e1 e3
   refine ⟨by simp [ints], .inr ⟨g, c, cur, rfl, hb, hh, by omega, hm, hs, ?_⟩⟩
   have h3 := congrArg (List.take (l.length * 1)) ht
   rw [List.take_take, show min (l.length * 1) ((l.length + 1) * 1) = l.length * 1 by omega] at h3
   rw [h3, ints_app, Nat.mul_one]
   exact List.take_left' (ints_len l)
theorem KvMem.turn {E : Kv} {w w' : World} {S hd hd' : List Nat} {x x' : Tx} {f dm nn : Nat} {Sf : List Nat} {lv fv lv' fv' : Value} (h : KvMem E w S hd x f dm nn Sf lv fv) (hc : Bk w' E.t 103 (txCells E x' f dm lv' fv')) (ho : Off [E.t] w w') (hfr : x'.fr = x.fr) (hdy : x'.dirty = x.dirty)
   (hl : w'.ownsRow 0 3 1 lv' x'.loose.length (ints x'.loose)) (hf : w'.ownsRow 0 3 1 fv' x'.freed.length (ints x'.freed)) (e1 : lv'.ownBlock = lv.ownBlock) (e2 : fv'.ownBlock = fv.ownBlock) (hok : x'.Ok E.limit E.disk E.U E.pc hd') : KvMem E w' S hd' x' f dm nn Sf lv' fv' := by
 have hm : txMut E.t f dm Sf lv' fv' = txMut E.t f dm Sf lv fv := by unfold txMut; rw [e1, e2]
 have hnd := h.nodup
 have hst : ∀ b ∈ E.still, b ∉ [E.t] := fun b hb hs => by
   rw [List.mem_singleton] at hs
   subst hs
   exact h.apart _ (by simp [txMut]) hb
 have hmu : ∀ b ∈ dm :: (lv.ownBlock.toList ++ (fv.ownBlock.toList ++ Sf)), b ∉ [E.t] := fun b hb hs => by
   rw [List.mem_singleton] at hs
   subst hs
   exact (List.nodup_cons.1 hnd).1 hb
 have hdb := h.db
 exact ⟨hc, by rw [hfr]; exact h.free.off ho (fun b hb => hmu b (by simp [hb])), by rw [hdy]; exact h.map.off ho (hmu _ (by simp)), h.nn, hl, hf, ho.bk hdb (hst _ (by simp [Kv.still])), ho.bk h.rd (hst _ (by simp [Kv.still])),
   h.pg.off ho (fun b hb => hst b (by simp [Kv.still, hb])), h.dev.off ho (fun b hb => hst b (by simp [Kv.still, hb])), h.row.off ho (hst _ (by simp [Kv.still])), hok, by rw [hm]; exact h.blocks, by rw [hm]; exact hnd, by rw [hm]; exact h.apart⟩
def KvStep (E : Kv) (S : List Nat) (hd : List Nat) (x' : Tx) (w w' : World) : Prop := ∃ (S' : List Nat) (f dm nn : Nat) (Sf : List Nat) (lv fv : Value), KvMem E w' S' hd x' f dm nn Sf lv fv ∧ Off S w w' ∧ Fresh w S S'
def PagePost2 (E : Kv) (S : List Nat) (hd : List Nat) (x : Tx) (w : World) (e : Ending) (w' : World) : Prop :=
 (∃ (n : Nat) (x' : Tx), e = .returned (.tuple #[.int .i64 n, .int .i64 0]) ∧ Tx.Takes E.limit E.upto.toNat x n x' ∧ KvStep E S (n :: hd) x' w w') ∨
 (e = .returned (.tuple #[.int .i64 0, .int .i64 9]) ∧ x.sure E.limit E.upto.toNat = 0 ∧ KvStep E S hd x w w')
set_option maxHeartbeats 8000000 in
theorem page_loose {E : Kv} {w : World} {S hd : List Nat} {x : Tx} {f dm nn : Nat} {Sf : List Nat} {lv fv : Value} (h : KvMem E w S hd x f dm nn Sf lv fv) (l : List Nat) (n : Nat) (hl : x.loose = l ++ [n]) :
   Calls Tryz.prog 113 #[.pointer (some ⟨E.t, 0, none⟩)] w (PagePost2 E S hd x w) := by
 have H := Lib.hid h
 have hrow := h.loose
 rw [hl] at hrow
 obtain ⟨A, c, hv, hA, hcm⟩ := own_formK hrow
 obtain ⟨g, rfl⟩ := hA (by simp)
 have hlen : (l ++ [n]).length = l.length + 1 := by simp
 rw [hlen] at hv hrow
 rw [hv] at hrow
 obtain ⟨lg, lt'⟩ := World.ownsRow.lt hrow g rfl
 have hel : w.cell? ⟨g, l.length, none⟩ = some (.int .i64 n) := by
   have := World.ownsRow.cells hrow (g := g) rfl l.length (.int .i64 n) (by simp [ints])
   rw [addr_add, Nat.zero_add] at this
   exact this
 have hcl : l.length + 1 ≤ c := by
   rcases hrow.2 with ⟨h1, h2⟩ | ⟨g', cap, cur, h1, hb, hh, hc, hm, hs, ht⟩
   · cases h1
   · injection h1 with e1 e2 e3; omega
 have c9 : w.cell? ⟨E.t, 9, none⟩ = some (.slice (some ⟨g, 0, none⟩) (l.length + 1) c) := by rw [← hv]; exact h.cells.cell 9
 have f9 := h.cells.frozen 9
 have lt := h.cells.lt
 have HL := Lib.hid hl
 have HV := Lib.hid hv
 have HROW := Lib.hid (own_init hrow)
 obtain ⟨m, hm⟩ : ∃ m, m = l.length := ⟨_, rfl⟩
 have HM := Lib.hid hm
 rw [← hm] at hel c9 hcl
 have hmb : m ≤ 9223372036854775806 := by unfold maxLen at hcm; omega
 have hcb : c ≤ 9223372036854775807 := by unfold maxLen at hcm; omega
 have z1 : decide ((0 : Int) < (m : Int) + 1) = true := decide_eq_true (by omega)
 have z2 : decide (0 < m + 1) = true := decide_eq_true (by omega)
 have e1 : IntKind.i64.wrap ((m : Int) + 1 - 1) = (m : Int) := by rw [IntKind.wrap_i64]; omega
 clear h hl hv hrow hlen hcm hm lg
 go_enter Tryz.func113, Tryz.ntmps113
 go_wp2_with fail
 go_ret2
 have ho : Off [E.t] w (w.setCell ⟨E.t, 9, none⟩ (.slice (some ⟨g, 0, none⟩) m c)) := (Off.refl [E.t] w).setCell (.inl (by simp)) _
 have htk : Tx.Takes E.limit E.upto.toNat x n { x with loose := l } := Tx.Takes.loose x l n HL.out
 have hnd := H.out.nodup
 have hgm : g ≠ E.t := fun e => by
   have h1 := (List.nodup_cons.1 hnd).1
   rw [HV.out] at h1
   exact h1 (by simp [Value.ownBlock, e])
 have hfm : ∀ b, fv.ownBlock = some b → b ∉ [E.t] := fun b hb hs => by
   rw [List.mem_singleton] at hs
   subst hs
   exact (List.nodup_cons.1 hnd).1 (by simp [hb])
 refine .inl ⟨n, _, rfl, htk, S, f, dm, nn, Sf, .slice (some ⟨g, 0, none⟩) m c, fv, H.out.turn (x' := { x with loose := l }) ?_ ho rfl rfl ?_ (ho.own H.out.freed hfm) (by rw [HV.out]; rfl) rfl (htk.ok H.out.ok), ho.mono (fun b hb => .inl ?_), Fresh.refl _ _⟩
 · have := H.out.cells.put 9 (.slice (some ⟨g, 0, none⟩) m c)
   exact this
 · have h9 := ho.own HROW.out (fun b hb hs => by
     have e : g = b := by simpa [Value.ownBlock] using hb
     rw [List.mem_singleton] at hs
     exact hgm (e.trans hs))
   rw [← HM.out] at h9
   show World.ownsRow _ 0 _ 1 _ l.length (ints l)
   rw [← HM.out]
   exact h9
 · rw [List.mem_singleton] at hb
   subst hb
   rw [H.out.blocks]
   simp [txMut]
theorem KvMem.take {E : Kv} {w w' : World} {S hd : List Nat} {x : Tx} {f dm nn : Nat} {Sf : List Nat} {lv fv : Value} (h : KvMem E w S hd x f dm nn Sf lv fv) {y : Nat × Nat} {r : List (Nat × Nat)} (hfr : x.fr = y :: r) (hf : FL w' f Sf r) (ho : Off Sf w w') (hl : x.loose = []) (hu : (y.1 : Int) ≤ E.upto) (hE : E.Ok) :
   Tx.Takes E.limit E.upto.toNat x y.2 { x with fr := r } ∧ KvStep E S (y.2 :: hd) { x with fr := r } w w' := by
 have htk : Tx.Takes E.limit E.upto.toNat x y.2 { x with fr := r } := Tx.Takes.free x y.1 y.2 r hl hfr (by have := hE.upto; omega)
 have hm : ∀ b ∈ E.t :: dm :: (lv.ownBlock.toList ++ fv.ownBlock.toList), b ∉ Sf := fun b hb hs => by
   have hn := h.nodup
   have e : txMut E.t f dm Sf lv fv = (E.t :: dm :: (lv.ownBlock.toList ++ fv.ownBlock.toList)) ++ Sf := by simp [txMut]
   rw [e] at hn
   exact (List.nodup_append.1 hn).2.2 b hb b hs rfl
 have hst : ∀ b ∈ E.still, b ∉ Sf := fun b hb hs => h.apart b (by simp [txMut, hs]) hb
 have hdb := h.db
 refine ⟨htk, S, f, dm, nn, Sf, lv, fv, ⟨ho.bk h.cells (hm _ (by simp)), hf, h.map.off ho (hm _ (by simp)), h.nn, ho.own h.loose (fun b hb => hm b (by simp [hb])), ho.own h.freed (fun b hb => hm b (by simp [hb])), ho.bk hdb (hst _ (by simp [Kv.still])), ho.bk h.rd (hst _ (by simp [Kv.still])),
   h.pg.off ho (fun b hb => hst b (by simp [Kv.still, hb])), h.dev.off ho (fun b hb => hst b (by simp [Kv.still, hb])), h.row.off ho (hst _ (by simp [Kv.still])), htk.ok h.ok, h.blocks, h.nodup, h.apart⟩, ho.mono (fun b hb => .inl (by rw [h.blocks]; simp [txMut, hb])), Fresh.refl _ _⟩
set_option maxHeartbeats 16000000 in
theorem page_rest {E : Kv} (hE : E.Ok) {w : World} {S hd : List Nat} {x : Tx} {f dm nn : Nat} {Sf : List Nat} {lv fv : Value} (h : KvMem E w S hd x f dm nn Sf lv fv) (hl : x.loose = []) :
   Calls Tryz.prog 113 #[.pointer (some ⟨E.t, 0, none⟩)] w (PagePost2 E S hd x w) := by
 have H := Lib.hid h
 have HL := Lib.hid hl
 have hrow := h.loose
 rw [hl] at hrow
 obtain ⟨A, c, hv, hA, hcm⟩ := own_formK hrow
 have c9 : w.cell? ⟨E.t, 9, none⟩ = some (.slice A 0 c) := by have := h.cells.cell 9; rw [hv] at this; exact this
 have c1 : w.cell? ⟨E.t, 1, none⟩ = some (.int .i64 E.txn) := h.cells.cell 1
 have lt := h.cells.lt
 have hdb := h.db
 have HK := Lib.hid fun (W : World) (ho : Off Sf w W) => (show W.cell? ⟨E.t, 7, none⟩ = some (.pointer (some ⟨f, 0, none⟩)) ∧ W.cell? ⟨E.t, 0, none⟩ = some (.pointer (some ⟨E.b, 0, none⟩)) ∧ W.cell? ⟨E.b, 1, none⟩ = some (.pointer (some ⟨E.r, 0, none⟩)) from by
   have ht : E.t ∉ Sf := fun hs => (List.nodup_cons.1 h.nodup).1 (by simp [hs])
   have hb : E.b ∉ Sf := fun hs => h.apart E.b (by simp [txMut, hs]) (by simp [Kv.still])
   exact ⟨(ho.bk h.cells ht).cell 7, (ho.bk h.cells ht).cell 0, (ho.bk hdb hb).cell 1⟩)
 have HO := Lib.hid fun (W : World) (hb : Below w.heap.size w W) => oldest_any E.r ((E.txn : Int) - 1) E.s W (bk_below h.rd hb)
 have hu : E.upto = min ((E.txn : Int) - 2) (E.s.oldest ((E.txn : Int) - 1)) := rfl
 obtain ⟨o, ho9⟩ : ∃ o, o = E.s.oldest ((E.txn : Int) - 1) := ⟨_, rfl⟩
 rw [← ho9] at HO hu
 have t2 := hE.txn
 have t3 := hE.txn2
 have hu0 := hE.upto
 have hmin : min (IntKind.i64.wrap ((E.txn : Int) - 1 - 1)) o = E.upto := by rw [hu, IntWalk.i64_in _ (by omega)]; omega
 obtain ⟨u, hu9⟩ : ∃ u, u = E.upto := ⟨_, rfl⟩
 have HU := Lib.hid hu9
 rw [← hu9] at hmin hu0
 clear hl hrow hv hA hcm hdb hu ho9 hu9
 have HFS := Lib.hid (show f ∈ Sf from h.free.inS)
 by_cases hy : ∃ y r, x.fr = y :: r ∧ (y.1 : Int) ≤ u
 · obtain ⟨y, r, hfr, hyu⟩ := hy
   have hp : y.2 < 512 := by have := (h.ok.range.1 y.2 (by rw [hfr]; simp [Fr.pg])).2; have := h.ok.le; have := h.ok.lim; omega
   have hnd : (Fr.pg (y :: r)).Nodup := by
     obtain ⟨dk, k1, k2⟩ := h.ok.perm
     have := (List.nodup_append.1 (h.ok.nodup k2)).1
     rw [hfr] at this
     exact this
   have HT := Lib.hid fun (W : World) (hb : Below w.heap.size w W) => ftake_yes (S := Sf) (by have := h.free.below hb; rw [hfr] at this; exact this) u hyu hp hnd
   have HFR := Lib.hid hfr
   have HYU := Lib.hid hyu
   obtain ⟨n, hn⟩ : ∃ n, n = y.2 := ⟨_, rfl⟩
   have HN := Lib.hid hn
   rw [← hn] at HT
   clear h hfr hyu hp hnd hn
   go_enter Tryz.func113, Tryz.ntmps113
   go_wp2_with fail
   go_region_held3 (fun W => W.cell? ⟨E.t, 7, none⟩ = some (.pointer (some ⟨f, 0, none⟩)) ∧ W.cell? ⟨E.t, 0, none⟩ = some (.pointer (some ⟨E.b, 0, none⟩)) ∧ W.cell? ⟨E.b, 1, none⟩ = some (.pointer (some ⟨E.r, 0, none⟩))) (first | (refine HK.out _ ?_; with_reducible (first | exact (Off.refl _ _).drew | exact HO1.out | exact HO2.out)) | fail) (first
     | (go_at_call 170; (with_reducible refine (HO.out _ (Below.refl _ _).drew).mono ?_); rintro e w1 ⟨rfl, hb1⟩; have HB1 := Lib.hid (show Below w.heap.size w w1 from (Below.refl _ _).drew.trans hb1); have HO1 := Lib.hid (Off.of_below HB1.out Sf); clear hb1)
     | (go_at_call 169; (with_reducible refine (HT.out _ HB1.out).mono ?_); rintro e w2 ⟨rfl, hfl2, ho2⟩; have HF2 := Lib.hid hfl2; have HO2 := Lib.hid (HO1.out.then ho2 (fun b hb => by rw [List.mem_singleton] at hb; subst hb; exact .inl HFS.out)); clear hfl2 ho2))
   all_goals
     have hsz := HO2.out.size
     have HST := Lib.hid (KvMem.take H.out HFR.out HF2.out HO2.out HL.out (by rw [← HU.out]; exact HYU.out) hE)
     go_wp2_with fail
     go_ret2
     exact .inl ⟨n, _, rfl, by rw [HN.out]; exact HST.out.1, by rw [HN.out]; exact HST.out.2⟩
 · have hno : ∀ y r, x.fr = y :: r → u < y.1 := fun y r hh => by
     by_cases hc : (y.1 : Int) ≤ u
     · exact absurd ⟨y, r, hh, hc⟩ hy
     · omega
   have HT := Lib.hid fun (W : World) (hb : Below w.heap.size w W) => ftake_no (S := Sf) (h.free.below hb) u hno
   have HNO := Lib.hid hno
   have hle := h.ok.le
   have hlim := h.ok.lim
   obtain ⟨pn, hpn⟩ : ∃ pn, pn = x.pages := ⟨_, rfl⟩
   obtain ⟨lm, hlm⟩ : ∃ lm, lm = E.limit := ⟨_, rfl⟩
   have HPN := Lib.hid hpn
   have HLM := Lib.hid hlm
   have HC := Lib.hid fun (W : World) (hb : Below w.heap.size w W) => (show W.cell? ⟨E.t, 5, none⟩ = some (.int .i64 pn) ∧ W.cell? ⟨E.t, 6, none⟩ = some (.int .i64 lm) ∧ E.t < W.heap.size ∧ W.frozen? ⟨E.t, 5, none⟩ = false from by
     have := bk_below h.cells hb
     rw [hpn, hlm]
     exact ⟨this.cell 5, this.cell 6, this.lt, this.frozen 5⟩)
   rw [← hpn, ← hlm] at hle
   rw [← hlm] at hlim
   have HL2 := Lib.hid HL.out
   clear h hno hy hpn hlm
   by_cases hmore : pn < lm
   · have z1 : decide ((lm : Int) ≤ (pn : Int)) = false := decide_eq_false (by omega)
     have z2 : decide (lm ≤ pn) = false := decide_eq_false (by omega)
     go_enter Tryz.func113, Tryz.ntmps113
     go_wp2_with fail
     go_region_held3 (fun W => W.cell? ⟨E.t, 7, none⟩ = some (.pointer (some ⟨f, 0, none⟩)) ∧ W.cell? ⟨E.t, 0, none⟩ = some (.pointer (some ⟨E.b, 0, none⟩)) ∧ W.cell? ⟨E.b, 1, none⟩ = some (.pointer (some ⟨E.r, 0, none⟩))) (first | (refine HK.out _ ?_; with_reducible (first | exact (Off.refl _ _).drew | exact HO1.out)) | fail) (first
       | (go_at_call 170; (with_reducible refine (HO.out _ (Below.refl _ _).drew).mono ?_); rintro e w1 ⟨rfl, hb1⟩; have HB1 := Lib.hid (show Below w.heap.size w w1 from (Below.refl _ _).drew.trans hb1); have HO1 := Lib.hid (Off.of_below HB1.out Sf); clear hb1)
       | (go_at_call 169; (with_reducible refine (HT.out _ HB1.out).mono ?_); rintro e w2 ⟨rfl, rfl⟩))
     all_goals
       obtain ⟨q5, q6, q7, q8⟩ := HC.out _ HB1.out
       go_wp2_with fail
       go_quiet (fail)
       go_wp2_with fail
       go_ret2
       have h1 := H.out.off ((Off.of_below HB1.out []).drewN nq) (by simp)
       have htk : Tx.Takes E.limit E.upto.toNat x x.pages { x with pages := x.pages + 1 } := Tx.Takes.more x HL2.out (fun y r hh => by have := HNO.out y r hh; have := HU.out; omega) (by rw [← HPN.out, ← HLM.out]; exact hmore)
       have ho : Off [E.t] (w1.drewN nq) ((w1.drewN nq).setCell ⟨E.t, 5, none⟩ (.int .i64 (pn + 1))) := (Off.refl [E.t] _).setCell (.inl (by simp)) _
       have hnt : E.t ∉ (lv.ownBlock.toList ++ fv.ownBlock.toList) := fun hs => (List.nodup_cons.1 H.out.nodup).1 (by
         rcases List.mem_append.1 hs with hs | hs <;> simp only [List.mem_cons, List.mem_append, hs, true_or, or_true])
       refine .inl ⟨x.pages, _, congrArg (fun z : Nat => Ending.returned (.tuple #[.int .i64 (z : Int), .int .i64 0])) HPN.out, htk, S, f, dm, nn, Sf, lv, fv, h1.turn (x' := { x with pages := x.pages + 1 }) ?_ ho rfl rfl (ho.own h1.loose (fun b hb hs => ?_)) (ho.own h1.freed (fun b hb hs => ?_)) rfl rfl (htk.ok H.out.ok), ?_, Fresh.refl _ _⟩
       · have := h1.cells.put 5 (.int .i64 (pn + 1))
         rw [HPN.out] at this ⊢
         exact this
       · rw [List.mem_singleton] at hs; subst hs; exact hnt (by simp [hb])
       · rw [List.mem_singleton] at hs; subst hs; exact hnt (by simp [hb])
       · exact ((Off.of_below HB1.out S).drewN nq).then ho (fun b hb => .inl (by rw [List.mem_singleton] at hb; subst hb; rw [H.out.blocks]; simp [txMut]))
   · have z1 : decide ((lm : Int) ≤ (pn : Int)) = true := decide_eq_true (by omega)
     have z2 : decide (lm ≤ pn) = true := decide_eq_true (by omega)
     go_enter Tryz.func113, Tryz.ntmps113
     go_wp2_with fail
     go_region_held3 (fun W => W.cell? ⟨E.t, 7, none⟩ = some (.pointer (some ⟨f, 0, none⟩)) ∧ W.cell? ⟨E.t, 0, none⟩ = some (.pointer (some ⟨E.b, 0, none⟩)) ∧ W.cell? ⟨E.b, 1, none⟩ = some (.pointer (some ⟨E.r, 0, none⟩))) (first | (refine HK.out _ ?_; with_reducible (first | exact (Off.refl _ _).drew | exact HO1.out)) | fail) (first
       | (go_at_call 170; (with_reducible refine (HO.out _ (Below.refl _ _).drew).mono ?_); rintro e w1 ⟨rfl, hb1⟩; have HB1 := Lib.hid (show Below w.heap.size w w1 from (Below.refl _ _).drew.trans hb1); have HO1 := Lib.hid (Off.of_below HB1.out Sf); clear hb1)
       | (go_at_call 169; (with_reducible refine (HT.out _ HB1.out).mono ?_); rintro e w2 ⟨rfl, rfl⟩))
     all_goals
       obtain ⟨q5, q6, q7, q8⟩ := HC.out _ HB1.out
       go_wp2_with fail
       go_quiet (fail)
       go_wp2_with fail
       go_ret2
       exact .inr ⟨rfl, Tx.takes_none HL2.out (fun y r hh => by have := HNO.out y r hh; have := HU.out; omega) (by rw [← HPN.out, ← HLM.out]; omega), S, f, dm, nn, Sf, lv, fv, H.out.off ((Off.of_below HB1.out []).drewN nq) (by simp), (Off.of_below HB1.out S).drewN nq, Fresh.refl _ _⟩
theorem page_any {E : Kv} (hE : E.Ok) {w : World} {S hd : List Nat} {x : Tx} {f dm nn : Nat} {Sf : List Nat} {lv fv : Value} (h : KvMem E w S hd x f dm nn Sf lv fv) :
   Calls Tryz.prog 113 #[.pointer (some ⟨E.t, 0, none⟩)] w (PagePost2 E S hd x w) := by
 rcases List.eq_nil_or_concat x.loose with hl | ⟨l, n, hl⟩
 · exact page_rest hE h hl
 · exact page_loose h l n (by rw [hl, List.concat_eq_append])
end Go.Proofs.YtjbcbnemdhbhbaaGreatDoor
namespace Go.Proofs.YtjbcbnemdhbhbaaGreatDoor
open Go.RowKit Go.Maps Go.Sort Go.Shelf
set_option maxRecDepth 100000
set_option linter.unusedVariables false
set_option linter.unusedSimpArgs false
theorem sortsA (m : Nat) : AnyZI.SortsIn Tryz.prog Tryz.sortedA_ren Fence.wide m :=
 ⟨fun blk off cap ss W hH hblk hsz => callsIn_wide.2 (AnyM.slices_Sort_int Tryz.sortA blk off cap ss W hH hblk hsz),
  fun p cap W => callsIn_wide.2 (AnyM.slices_Sort_int_none Tryz.sortA p cap W)⟩
theorem leI_eq {l l' : List Int} (h : l.Perm l') (hs : l'.Pairwise (· < ·)) : l.mergeSort (fun x y => decide (x ≤ y)) = l' := by
 have h1 : (l.mergeSort (fun x y => decide (x ≤ y))).Perm l' := (List.mergeSort_perm _ _).trans h
 have h2 : (l.mergeSort (fun x y => decide (x ≤ y))).Pairwise (fun x y => x ≤ y) := by
   have := List.pairwise_mergeSort (le := fun (x y : Int) => decide (x ≤ y)) (by intro a b c; simp; omega) (by intro a b; simp; omega) l
   exact this.imp (by intro a b; simp)
 exact h1.eq_of_pairwise (by intro a b _ _ h3 h4; omega) h2 (hs.imp (by intro a b h; omega))
def SortedPost (keys : List Int) (B : Nat) (w : World) (e : Ending) (w' : World) : Prop :=
 ∃ v, e = .returned v ∧ w'.ownsRow B 3 1 v keys.length (keys.map (Value.int .i64)) ∧ Below B w w'
theorem IMap.tight {P : Program} {k : TypeId} {w : World} {m nn : Nat} {V : Int → Option Value} (h : IMap P k w m nn V) (hk : P.underlying k = some (.int .i64)) (keys : List Int) (hs : keys.Pairwise (· < ·)) (hm : ∀ x, x ∈ keys ↔ (V x).isSome = true) : IMap P k w m keys.length V := by
 obtain ⟨D, hown, ha⟩ := h
 obtain ⟨es0, hD0, hp, hkl⟩ := hown.entries (int_keyed hk)
 obtain ⟨es, clock, hb, F, hsz, hD⟩ := id hown
 have hperm : keys.Perm (intKeys (.map es0)) := by
   refine perm_intKeys hp ?_ (hs.imp (by intro a b h; omega)) (fun x => ?_)
   · intro p hp'
     have h1 : Maps.has (.map es0) p.1 = true := List.any_eq_true.2 ⟨p, hp', WideAt.sameKey_self (hkl p hp')⟩
     rw [← hD0] at h1
     obtain ⟨i, v, _, he⟩ := ha.2 _ h1
     exact ⟨i, he⟩
   · rw [hm x, ← has_of_agrees ha, hD0]
 have h1 := hperm.length_eq
 have h2 : (intKeys (.map es0)).length = es0.length := by simp [intKeys]
 have h3 : es0.length = es.size := by
   have h4 := hD0.symm.trans hD
   injection h4 with h4
   rw [h4, length_sorted, List.length_map, Array.length_toList]
 exact ⟨D, ⟨es, clock, hb, F, by omega, hD⟩, ha⟩
theorem KvMem.mapped {E : Kv} {w w' : World} {S hd hd' : List Nat} {x : Tx} {f dm nn nn' : Nat} {Sf : List Nat} {lv fv : Value} {d : Book} (h : KvMem E w S hd x f dm nn Sf lv fv) (hm : IMap Tryz.prog 3 w' dm nn' (dirtyV E.txn d)) (hn : nn' ≤ 600) (ho : Off [dm] w w') (hok : ({ x with dirty := d } : Tx).Ok E.limit E.disk E.U E.pc hd') : KvMem E w' S hd' { x with dirty := d } f dm nn' Sf lv fv := by
 have hnd := h.nodup
 unfold txMut at hnd
 have hst : ∀ b ∈ E.still, b ∉ [dm] := fun b hb hs => by
   rw [List.mem_singleton] at hs
   subst hs
   exact h.apart _ (by simp [txMut]) hb
 have h1 := List.nodup_cons.1 hnd
 have h2 := List.nodup_cons.1 h1.2
 have hmu : ∀ b ∈ E.t :: (lv.ownBlock.toList ++ (fv.ownBlock.toList ++ Sf)), b ∉ [dm] := fun b hb hs => by
   rw [List.mem_singleton] at hs
   subst hs
   rcases List.mem_cons.1 hb with rfl | hb
   · exact h1.1 (by simp)
   · exact h2.1 hb
 have hdb := h.db
 exact ⟨ho.bk h.cells (hmu _ (by simp)), h.free.off ho (fun b hb => hmu b (by simp [hb])), hm, hn, ho.own h.loose (fun b hb => hmu b (by simp [hb])), ho.own h.freed (fun b hb => hmu b (by simp [hb])), ho.bk hdb (hst _ (by simp [Kv.still])), ho.bk h.rd (hst _ (by simp [Kv.still])),
   h.pg.off ho (fun b hb => hst b (by simp [Kv.still, hb])), h.dev.off ho (fun b hb => hst b (by simp [Kv.still, hb])), h.row.off ho (hst _ (by simp [Kv.still])), hok, h.blocks, h.nodup, h.apart⟩
theorem IMap.few {w : World} {m nn txn : Nat} {d : Book} (h : IMap Tryz.prog 3 w m nn (dirtyV txn d)) (hd : ∀ n, d n ≠ none → n < 512) : ∃ nn', nn' ≤ 600 ∧ IMap Tryz.prog 3 w m nn' (dirtyV txn d) := by
 refine ⟨_, ?_, h.tight Tryz.underlying3 (((List.range 512).filter fun i => (d i).isSome).map fun i : Nat => (i : Int)) ?_ fun x => ?_⟩
 · rw [List.length_map]
   have := List.length_filter_le (fun i => (d i).isSome) (List.range 512)
   rw [List.length_range] at this
   omega
 · rw [List.pairwise_map]
   exact (List.pairwise_lt_range.filter _).imp (by intro a b h; omega)
 · rw [List.mem_map]
   constructor
   · rintro ⟨i, hi, rfl⟩
     rw [dirtyV_at]
     have := (List.mem_filter.1 hi).2
     cases hdi : d i with
     | none => rw [hdi] at this; cases this
     | some p => rfl
   · intro hx
     unfold dirtyV at hx
     by_cases h0 : 0 ≤ x
     · rw [if_pos h0] at hx
       cases hdi : d x.toNat with
       | none => rw [hdi] at hx; cases hx
       | some p => exact ⟨x.toNat, List.mem_filter.2 ⟨List.mem_range.2 (hd _ (by rw [hdi]; simp)), by rw [hdi]; rfl⟩, by omega⟩
     · rw [if_neg h0] at hx; cases hx
set_option maxHeartbeats 16000000 in
theorem wmake_any {E : Kv} (hE : E.Ok) {w : World} {S : List Nat} {x : Tx} {f dm nn : Nat} {Sf : List Nat} {lv fv : Value} (h : KvMem E w S [] x f dm nn Sf lv fv) (p : Pgg) (hk : p.kind ≤ 4) :
   Calls Tryz.prog 319 #[.agg #[.pointer (some ⟨E.t, 0, none⟩)], .int .i64 p.kind, .string p.body] w (fun e w' =>
     (∃ (n : Nat) (x' : Tx), e = .returned (.tuple #[.int .i64 n, .int .i64 0]) ∧ Tx.Takes E.limit E.upto.toNat x n x' ∧ x'.Ok E.limit E.disk E.U E.pc [n] ∧ KvStep E S [] { x' with dirty := Tr.upd x'.dirty n (some p) } w w') ∨
     (e = .returned (.tuple #[.int .i64 0, .int .i64 9]) ∧ x.sure E.limit E.upto.toNat = 0 ∧ KvStep E S [] x w w')) := by
 have HP := Lib.hid (page_any hE (h.off ((Off.refl [] w).alloc (.cells #[.pointer (some ⟨E.t, 0, none⟩)] 111)) (by simp)))
 have HOLD := Lib.hid h.old
 have lt := h.cells.lt
 have HE := Lib.hid hE
 clear h hE
 go_enter Tryz.func319, Tryz.ntmps319
 go_wp2_with fail
 (with_reducible refine HP.out.mono ?_)
 rintro e w1 (⟨n, x', rfl, htk, S1, f1, dm1, nn1, Sf1, lv1, fv1, hm1, ho1, hf1⟩ | ⟨rfl, hs0, S1, f1, dm1, nn1, Sf1, lv1, fv1, hm1, ho1, hf1⟩)
 · have hr := hm1.ok.range.2.2.2.2.2 n (by simp)
   have hle := hm1.ok.le
   have hlim := hm1.ok.lim
   obtain ⟨w2, hrun, him2, hg2⟩ := (hm1.map.off ((Off.refl [] w1).drew) (by simp)).update Tryz.underlying3 Tryz.underlying100 (by have := hm1.nn; unfold maxLen; omega) (i := (n : Int)) (wf64 (by omega) (by omega)) (.agg #[.int .i64 p.kind, .int .i64 n, .int .i64 E.txn, .string p.body])
   have q1 : w1.cell? ⟨E.t, 1, none⟩ = some (.int .i64 E.txn) := hm1.cells.cell 1
   have q8 : w1.cell? ⟨E.t, 8, none⟩ = some (.map (some dm1)) := hm1.cells.cell 8
   have lt1 := hm1.cells.lt
   have HM := Lib.hid hm1
   have HX := Lib.hid (show Tx.Takes E.limit E.upto.toNat x n x' ∧ Off S (w.alloc (.cells #[.pointer (some ⟨E.t, 0, none⟩)] 111)) w1 ∧ Fresh (w.alloc (.cells #[.pointer (some ⟨E.t, 0, none⟩)] 111)) S S1 from ⟨htk, ho1, hf1⟩)
   have ho2 : Off [dm1] w1 w2 := (Off.refl [dm1] w1).drew.grown hg2 (fun g hg => .inl (by simp at hg; simp [hg]))
   have him : IMap Tryz.prog 3 w2 dm1 (nn1 + 1) (dirtyV E.txn (Tr.upd x'.dirty n (some p))) := by
     rw [← dirtyV_upd]
     exact him2
   have hok := hm1.ok.lay p
   obtain ⟨nn2, hn2, him3⟩ := him.few (fun m hm => by have := hok.range.2.1 m hm; have := hok.le; have := hok.lim; omega)
   have HST := Lib.hid (show KvStep E S [] { x' with dirty := Tr.upd x'.dirty n (some p) } w w2 from ⟨S1, f1, dm1, nn2, Sf1, lv1, fv1, hm1.mapped him3 hn2 ho2 hok, (((Off.refl S w).alloc _).trans ho1).then ho2 (fun b hb => by
         rw [List.mem_singleton] at hb
         subst hb
         have h9 : b ∈ S1 := by rw [hm1.blocks]; simp [txMut]
         rcases hf1 b h9 with h8 | h8
         · exact .inl h8
         · exact .inr (by simp at h8; omega)), hf1.mono (by simp)⟩)
   clear hm1 htk ho1 hf1 him2 hg2 ho2 him hok him3
   go_wp2_with fail
   go_region_with (fail)
   all_goals
     go_wp2_with fail
     go_ret2
     exact .inl ⟨n, x', rfl, HX.out.1, HM.out.ok, HST.out⟩
 · have HX := Lib.hid (show KvStep E S [] x w w1 from ⟨S1, f1, dm1, nn1, Sf1, lv1, fv1, hm1, ((Off.refl S w).alloc _).trans ho1, hf1.mono (by simp)⟩)
   have HS := Lib.hid hs0
   clear hm1 ho1 hf1 hs0
   go_wp2_with fail
   go_ret2
   exact .inr ⟨rfl, HS.out, HX.out⟩
theorem dkeysB (m : Nat) (W : World) : Calls Tryz.prog 64 #[.map (some m)] W fun e w' => e = .returned (.func (.func 124) #[] #[.pointer (some ⟨W.heap.size, 0, none⟩)]) ∧ w' = W.alloc (.cells #[.map (some m)] 100) :=
 (callsIn_wide (n := 6)).1 (AnyZI.keys_in Tryz.keysB Fence.wide 6 trivial rfl (some m) W)
set_option maxHeartbeats 1000000 in
theorem dsortedB {w : World} {m nn : Nat} {V : Int → Option Value} (h : IMap Tryz.prog 3 w m nn V) (hn : nn ≤ 1000000000) (keys : List Int) (hk : keys.Pairwise (· < ·)) (hm : ∀ x, x ∈ keys ↔ (V x).isSome = true) :
   Calls Tryz.prog 63 #[.func (.func 124) #[] #[.pointer (some ⟨w.heap.size, 0, none⟩)]] (w.alloc (.cells #[.map (some m)] 100))
     (SortedPost keys (w.heap.size + 1) (w.alloc (.cells #[.map (some m)] 100))) := by
 obtain ⟨D, hown, ha⟩ := h
 have hbl := hown.lt
 have hsz := hown.size_le
 have hseq : SeqGives Fence.wide 2 Tryz.prog 124 #[.pointer (some ⟨w.heap.size, 0, none⟩)] encZ (fun ss => ss.Perm (intKeys D)) (Maps.size D) (w.alloc (.cells #[.map (some m)] 100)) :=
   AnyZI.keys_gives (ρ := Tryz.keysB_ren) { Tryz.keysB with } Fence.wide _ trivial rfl (by omega) w.heap.size m nn D _ (by simp) (by simp) (by
     obtain ⟨es, clock, hb, Ft, hs, hD⟩ := hown
     exact ⟨es, clock, (Below.heap_alloc _ _ m hbl).trans hb, Ft, hs, hD⟩)
 have cS := AnyZI.sorted_in Tryz.sortedA Fence.wide 5 trivial trivial trivial trivial rfl (by omega) (sortsA _) (enters_of Tryz.func79 (by kernel_rfl) rfl) 124 #[.pointer (some ⟨w.heap.size, 0, none⟩)] trivial (enters_of Tryz.func124 (by kernel_rfl) rfl) _ _ (by unfold maxLen; omega) (by omega) _ hseq
 change CallsIn _ _ Tryz.prog 63 _ _ _ at cS
 have c2 := callsIn_wide.1 cS
 refine c2.mono ?_
 rintro e w' ⟨v, ss, rfl, hS, hrow, hnil, hb⟩
 have e1 : (w.alloc (.cells #[.map (some m)] 100)).heap.size = w.heap.size + 1 := by simp
 rw [e1] at hrow hb
 obtain ⟨es, rfl, hp, hkl⟩ := hown.entries (int_keyed Tryz.underlying3)
 have hperm : keys.Perm (intKeys (.map es)) := by
   refine perm_intKeys hp ?_ (hk.imp (by intro a b h; omega)) (fun x => ?_)
   · intro p hp'
     have h1 : Maps.has (.map es) p.1 = true := List.any_eq_true.2 ⟨p, hp', WideAt.sameKey_self (hkl p hp')⟩
     obtain ⟨i, v, _, he⟩ := ha.2 _ h1
     exact ⟨i, he⟩
   · rw [hm x, has_of_agrees ha]
 have hs : ss.mergeSort (fun x y => decide (x ≤ y)) = keys := leI_eq (hS.trans hperm.symm) hk
 rw [hs] at hrow
 have hlen : ss.length = keys.length := by rw [(hS.trans hperm.symm).length_eq]
 rw [hlen] at hrow
 exact ⟨v, rfl, hrow, hb⟩
theorem sortsS (m : Nat) : AnyZ.SortsIn Tryz.prog Tryz.sortedS_ren Fence.wide m :=
 ⟨fun blk off cap ss W hH hblk hsz => callsIn_wide.2 (AnyM.slices_Sort_string Tryz.sortS blk off cap ss W hH hblk hsz),
  fun p cap W => callsIn_wide.2 (AnyM.slices_Sort_string_none Tryz.sortS p cap W)⟩
theorem nkeys (m : Nat) (W : World) : Calls Tryz.prog 168 #[.map (some m)] W fun e w' => e = .returned (.func (.func 228) #[] #[.pointer (some ⟨W.heap.size, 0, none⟩)]) ∧ w' = W.alloc (.cells #[.map (some m)] 101) :=
 (callsIn_wide (n := 6)).1 (AnyZ.keys_in Tryz.keysS Fence.wide 6 trivial rfl (some m) W)
theorem mem_strKeys {H : Type} {es : List (Lit × DataW H)} (hk : ∀ p ∈ es, ∃ x, p.1 = .string x) (x : List UInt8) : x ∈ strKeys (.map es) ↔ Maps.has (.map es) (.string x) = true := by
 rw [has_eq, List.any_eq_true]
 show x ∈ es.map (fun p => strOf p.1) ↔ _
 rw [List.mem_map]
 constructor
 · rintro ⟨p, hp', rfl⟩
   obtain ⟨a, ha⟩ := hk p hp'
   exact ⟨p, hp', by rw [ha]; simp [Lit.sameKey, strOf]⟩
 · rintro ⟨p, hp', hs⟩
   obtain ⟨a, ha⟩ := hk p hp'
   rw [ha] at hs
   exact ⟨p, hp', by rw [ha]; simpa [Lit.sameKey, strOf] using hs⟩
def SortedNPost (V : ByteArray → Option Value) (nn : Nat) (B : Nat) (w : World) (e : Ending) (w' : World) : Prop :=
 ∃ (v : Value) (names : List ByteArray), e = .returned v ∧ names.Nodup ∧ (∀ n, n ∈ names ↔ (V n).isSome = true) ∧ names.length ≤ nn ∧ w'.ownsRow B 9 1 v names.length (names.map Value.string) ∧ Below B w w'
set_option maxHeartbeats 1000000 in
theorem nsorted {w : World} {m nn : Nat} {V : ByteArray → Option Value} (h : SMap Tryz.prog 9 w m nn V) (hn : nn ≤ 1000000000) :
   Calls Tryz.prog 167 #[.func (.func 228) #[] #[.pointer (some ⟨w.heap.size, 0, none⟩)]] (w.alloc (.cells #[.map (some m)] 101))
     (SortedNPost V nn (w.heap.size + 1) (w.alloc (.cells #[.map (some m)] 101))) := by
 obtain ⟨D, hown, ha⟩ := h
 have hbl := hown.lt
 have hsz := hown.size_le
 have hseq : SeqGives Fence.wide 2 Tryz.prog 228 #[.pointer (some ⟨w.heap.size, 0, none⟩)] encStr (fun ss => ss.Perm (strKeys D)) (Maps.size D) (w.alloc (.cells #[.map (some m)] 101)) :=
   AnyZ.keys_gives (ρ := Tryz.keysS_ren) { Tryz.keysS with } Fence.wide _ trivial rfl (by omega) w.heap.size m nn D _ (by simp) (by simp) (by
     obtain ⟨es, clock, hb, Ft, hs, hD⟩ := hown
     exact ⟨es, clock, (Below.heap_alloc _ _ m hbl).trans hb, Ft, hs, hD⟩)
 have cS := AnyZ.sorted_in Tryz.sortedS Fence.wide 5 trivial trivial trivial trivial rfl (by omega) (sortsS _) (enters_of Tryz.func227 (by kernel_rfl) rfl) 228 #[.pointer (some ⟨w.heap.size, 0, none⟩)] trivial (enters_of Tryz.func228 (by kernel_rfl) rfl) _ _ (by unfold maxLen; omega) (by omega) _ hseq
 change CallsIn _ _ Tryz.prog 167 _ _ _ at cS
 have c2 := callsIn_wide.1 cS
 refine c2.mono ?_
 rintro e w' ⟨v, ss, rfl, hS, hrow, hnil, hb⟩
 have e1 : (w.alloc (.cells #[.map (some m)] 101)).heap.size = w.heap.size + 1 := by simp
 rw [e1] at hrow hb
 obtain ⟨es, rfl, hp, hkl⟩ := hown.entries (string_keyed Tryz.underlying9)
 obtain ⟨es', hD', hko⟩ := hown.keysOf
 obtain rfl : es = es' := by simpa using hD'
 have hks : ∀ p ∈ es, ∃ x, p.1 = .string x := fun p hp => by
   obtain ⟨v, hv⟩ := hko p hp
   obtain ⟨x, _, hx, _⟩ := Maps.keyOf_str Tryz.underlying9 hv
   exact ⟨x, hx⟩
 have hperm : (ss.mergeSort (fun x y => decide (x ≤ y))).Perm (strKeys (.map es)) := (List.mergeSort_perm _ _).trans hS
 have hlen : (strKeys (.map es)).length = Maps.size (.map es) := by
   show (es.map _).length = _
   rw [List.length_map]
   rfl
 refine ⟨v, (ss.mergeSort (fun x y => decide (x ≤ y))).map (fun l => ⟨l.toArray⟩), rfl, ?_, fun n => ?_, ?_, ?_, hb⟩
 · unfold List.Nodup
   rw [List.pairwise_map]
   have hnd : (strKeys (.map es)).Nodup := by
     show (es.map fun p => strOf p.1).Nodup
     refine List.pairwise_map.2 (hp.imp_of_mem fun {p q} hp' hq' hne e => hne ?_)
     obtain ⟨a, ha⟩ := hks p hp'
     obtain ⟨b, hb⟩ := hks q hq'
     rw [ha, hb] at e ⊢
     exact congrArg _ e
   refine (hperm.nodup_iff.2 hnd).imp fun {a b} hab he => hab ?_
   injection he with he
   have := congrArg Array.toList he
   simpa using this
 · rw [List.mem_map, ← has_of_agreesS ha]
   constructor
   · rintro ⟨l, hl, rfl⟩
     have := (mem_strKeys hks l).1 (hperm.mem_iff.1 hl)
     simpa using this
   · intro hh
     refine ⟨n.data.toList, hperm.mem_iff.2 ((mem_strKeys hks _).2 hh), ?_⟩
     obtain ⟨⟨l⟩⟩ := n
     rfl
 · rw [List.length_map, hperm.length_eq, hlen]; exact hsz
 · rw [List.length_map, List.map_map]
   have h2 : ss.length = (ss.mergeSort (fun x y => decide (x ≤ y))).length := by rw [hperm.length_eq, hS.length_eq]
   rw [h2] at hrow
   exact hrow
end Go.Proofs.YtjbcbnemdhbhbaaGreatDoor

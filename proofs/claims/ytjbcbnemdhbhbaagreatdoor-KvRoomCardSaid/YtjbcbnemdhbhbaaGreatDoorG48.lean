import Derived.Test.YtjbcbnemdhbhbaaGreatDoorG45
namespace Go.Proofs.YtjbcbnemdhbhbaaGreatDoor
open Go.RowKit
set_option maxRecDepth 100000
set_option linter.unusedVariables false
set_option linter.unusedSimpArgs false
theorem St0.off {E : Kv} {F : Prop} {w w' : World} {S U : List Nat} {σ : Book} {k nr : Nat} {Fo : Forest} (h : St0 E F w S σ k Fo nr) (ho : Off U w w') (hU : ∀ b ∈ E.rm :: S, b ∉ U) (hc : ∀ g, E.c3.ownBlock = some g → g ∉ U) : St0 E F w' S σ k Fo nr := by
 obtain ⟨x, f, dm, nn, Sf, lv, fv, hm, h1, h2⟩ := h.wr.at_
 obtain ⟨n0, h3, h4⟩ := h.wr.roots
 exact ⟨⟨⟨x, f, dm, nn, Sf, lv, fv, hm.off ho (fun b hb => hU b (List.mem_cons_of_mem _ hb)), h1, h2⟩, ⟨n0, h3, h4.off ho (hU _ (by simp))⟩, h.wr.rm, h.wr.ok, h.wr.root, h.wr.open_, h.wr.first⟩, h.ok, h.sep, h.fine, h.on, ho.own h.pv hc, h.pvS, h.c4⟩
theorem FileAt.off {w w' : World} {d : Di} {Sd U : List Nat} {D : DevS} {σ : Book} {Fo : Forest} {txn pages limit : Nat} (h : FileAt w d Sd D σ Fo txn pages limit) (ho : Off U w w') (hU : ∀ x ∈ 0 :: (d.blocks ++ Sd), x ∉ U) (ht : ∀ t, d.wv = .pointer (some ⟨t, 0, none⟩) → t ∉ U) : FileAt w' d Sd D σ Fo txn pages limit := by
 refine ⟨h.db.off ho (fun x hx => hU x (by simp [hx])), h.dev.off ho (fun x hx => hU x (by simp [hx])), h.row.off ho (hU _ (by simp)), h.plain, h.ap, h.pv, ?_⟩
 rcases h.wv with h1 | ⟨t, cs, h1, h2, h3⟩
 · exact .inl h1
 · exact .inr ⟨t, cs, h1, ho.bk h2 (ht t h1), h3⟩
theorem FileAt.below {w w' : World} {d : Di} {Sd : List Nat} {D : DevS} {σ : Book} {Fo : Forest} {txn pages limit : Nat} (h : FileAt w d Sd D σ Fo txn pages limit) (hb : Below w.heap.size w w') : FileAt w' d Sd D σ Fo txn pages limit := h.off (Off.of_below hb []) (by simp) (by simp)
def Does1 (u : Nat) (d : Di) (Sd : List Nat) (D : DevS) (σ : Book) (Fo : Forest) (txn pages limit : Nat) (rd : Value) (w : World) (e : Ending) (w' : World) : Prop :=
 e = .returned (.bool true) ∧ ∃ t rm S, St0 (d.kv t rm Sd D σ Fo txn limit w.heap[0]? 0 []) False w' S σ (firstSure d.fr limit pages (min ((txn : Int) - 1) (d.s.oldest (txn : Int)))) Fo 0 ∧
   Bk w' u 33 (lwCells d.g d.b (.pointer (some ⟨t, 0, none⟩)) rd (.slice none 0 0) (.slice none 0 0) false) ∧ Off [u, d.b] w w' ∧ (∀ x ∈ S, x ∈ 0 :: (d.blocks ++ Sd) ∨ w.heap.size ≤ x) ∧ w.heap.size ≤ rm
set_option maxHeartbeats 16000000 in
theorem does1 {w : World} {u : Nat} {d : Di} {Sd : List Nat} {D : DevS} {σ : Book} {Fo : Forest} {txn pages limit : Nat} {rd next : Value} {mb : Bool} (hu : Bk w u 33 (lwCells d.g d.b (.pointer none) rd (.slice none 0 0) next mb)) (h : FileAt w d Sd D σ Fo txn pages limit) (ht : txn ≤ 1000) (hu0 : 0 ≤ min ((txn : Int) - 1) (d.s.oldest (txn : Int))) (hub : u ∉ 0 :: (d.blocks ++ Sd)) (n : Int) (key val : ByteArray) :
   Calls Tryz.prog 26 #[.pointer (some ⟨u, 0, none⟩), .agg #[.int .i64 1, .int .i64 n, .string key, .string val, .int .i64 0, .slice none 0 0]] w (Does1 u d Sd D σ Fo txn pages limit rd w) := by
 have HB := Lib.hid fun (W : World) (hb : Below w.heap.size w W) => (hb.block _ h.row.lt) ▸ file_begin (F := False) (base := 0) (keep := []) (h.below hb) ht hu0 (Nat.le_refl _) (.inr (by unfold firstSure; have := List.Sublist.length_le (List.takeWhile_sublist (l := d.fr) fun y => decide (y.1 ≤ (min ((txn : Int) - 1) (d.s.oldest (txn : Int))).toNat)); omega)) (fun y hy h9 => by simp) (fun n hn => by cases hn)
 have HU := Lib.hid hu
 have lu := hu.lt
 have u1 := hu.cell 1
 have hne : u ≠ d.b := fun e => hub (by simp [Di.blocks, e])
 have HNE := Lib.hid hne
 have HUB := Lib.hid hub
 have HPV := Lib.hid h.db.pcs
 have HBO := Lib.hid h.db.bo
 have HOLD := Lib.hid (show ∀ x ∈ 0 :: (d.blocks ++ Sd), x < w.heap.size from fun x hx => by
   rcases List.mem_cons.1 hx with rfl | hx
   · exact h.row.lt
   · rcases List.mem_append.1 hx with hx | hx
     · exact h.db.old x hx
     · exact h.dev.old x hx)
 clear hu h hu0 hub hne
 go_enter Tryz.func26, Tryz.ntmps26
 go_wp2_with fail
 (go_at_call 11)
 refine (HB.out _ ((Below.refl _ w).alloc (Nat.le_refl _) _)).mono ?_
 rintro e w1 ⟨t, rm, S, rfl, hs, ho1, hS, hrm⟩
 have hsz1 : (w.alloc (.cells #[.int .i64 1, .int .i64 n, .string key, .string val, .int .i64 0, .slice none 0 0] 58)).heap.size = w.heap.size + 1 := by simp
 rw [hsz1] at hS hrm
 have HS := Lib.hid hs
 have HO1 := Lib.hid (show Off [d.b] w w1 from ((Off.refl [d.b] w).alloc _).trans ho1)
 have HSS := Lib.hid hS
 have HRM := Lib.hid hrm
 have hU1 := HO1.out.bk HU.out (by simpa using HNE.out)
 have HU1 := Lib.hid hU1
 have v2 := hU1.cell 2
 have v4 := hU1.cell 4
 have v5 := hU1.cell 5
 have v6 := hU1.cell 6
 have lu1 := hU1.lt
 have f2 := hU1.frozen 2
 have f5 := hU1.frozen 5
 have f6 := hU1.frozen 6
 clear hs ho1 hS hrm hsz1 hU1
 go_wp2_with fail
 go_ret
 have o2 : Off [u] w1 (((w1.setCell ⟨u, 2, none⟩ (.pointer (some ⟨t, 0, none⟩))).setCell ⟨u, 5, none⟩ (.slice none 0 0)).setCell ⟨u, 6, none⟩ (.bool false)) := (((Off.refl [u] w1).setCell (p := ⟨u, 2, none⟩) (.inl (by simp)) _).setCell (p := ⟨u, 5, none⟩) (.inl (by simp)) _).setCell (p := ⟨u, 6, none⟩) (.inl (by simp)) _
 have hnot : ∀ b ∈ rm :: S, b ∉ [u] := fun b hb hm => by
   rw [List.mem_singleton] at hm
   subst hm
   have hlb := HU.out.lt
   rcases List.mem_cons.1 hb with hb | hb
   · have := HRM.out; omega
   · rcases HSS.out _ hb with h1 | h1
     · exact HUB.out h1
     · omega
 refine ⟨rfl, t, rm, S, HS.out.off o2 hnot (fun g hg hm => ?_), (((HU1.out.put 2 _).put 5 _).put 6 _), (HO1.out.mono (fun g hg => .inl (by simp at hg ⊢; exact .inr hg))).trans (o2.mono (fun g hg => .inl (by simp at hg ⊢; exact .inl hg))), fun x hx => (HSS.out x hx).imp id (fun h1 => by omega), by have := HRM.out; omega⟩
 · rw [List.mem_singleton] at hm
   subst hm
   have hg' : d.pv.ownBlock = some g := hg
   exact HUB.out (by simp [Di.blocks, hg'])
theorem St0.below {E : Kv} {w w' : World} {S : List Nat} {σ : Book} {k nr : Nat} {Fo : Forest} (h : St0 E False w S σ k Fo nr) (hb : Below w.heap.size w w') : St0 E False w' S σ k Fo nr := h.off (Off.of_below hb []) (by simp) (by simp)
theorem St0.over {E : Kv} {w : World} {S : List Nat} {σ : Book} {k nr : Nat} {Fo : Forest} (h : St0 E False w S σ k Fo nr) : Calls Tryz.prog 20 #[.pointer (some ⟨E.t, 0, none⟩)] w (fun e w' => e = .returned (.bool false) ∧ w = w') := by
 obtain ⟨x, f, dm, lv, fv, hc⟩ := h.wr.cells
 exact over_any hc (by rw [show (txCells E x f dm lv fv)[13]? = some (.bool E.over) from rfl, h.wr.open_])
structure PutSt (E : Kv) (S : List Nat) (k c : Nat) (Fo : Forest) (nr : Nat) (name key val : ByteArray) (w w' : World) (y : En) (t : Tn) (σ' : Book) (S' : List Nat) (k' : Nat) : Prop where
 kk : y.cell.key = key
 vv : y.val = val.data.toList
 pp : y.pages.length = Tr.pieces val.size
 L : t.L = Tr.putE key y (Fo.tr name).L
 st : St0 E False w' S' σ' k' (Fo.put name t) (nr + 1)
 sure : k ≤ k' + (c + Tr.pieces val.size)
 off : Off (E.rm :: S) w w'
 fresh : Fresh w S S'
theorem st0_put {E : Kv} {w : World} {S : List Nat} {σ : Book} {k nr : Nat} {Fo : Forest} (h : St0 E False w S σ k Fo nr) (hnr : nr ≤ 100000) (name key val : ByteArray) (hn : IsName name) (hk1 : 1 ≤ key.size) (hk2 : key.size ≤ 120) (hv : val.size ≤ 4000)
   {c : Nat} (hrc : Tr.RootC σ c (Fo.tr name).root (Fo.tr name).P (Fo.tr name).L) (hk : c + Tr.pieces val.size ≤ k) :
   Calls Tryz.prog 12 #[.pointer (some ⟨E.t, 0, none⟩), .string name, .string key, .string val] w (fun e w' => e = .returned (.int .i64 0) ∧ ∃ y t σ' S' k', PutSt E S k c Fo nr name key val w w' y t σ' S' k') := by
 refine (tput_any h.ok h.wr hnr name key val hn hk1 hk2 hv hrc (.inr hk)).mono ?_
 rintro e w' (⟨rfl, y, t, σ', S', k', h1, h2, hpp, h3, h4, h5, h6, h7⟩ | ⟨hF, -⟩)
 · have hclt : ∀ g, E.c3.ownBlock = some g → g < w.heap.size := fun g hg => (World.ownsRow.lt h.pv g hg).2
   refine ⟨rfl, y, t, σ', S', k', h1, h2, hpp, h3, ⟨h4, h.ok, h.sep, h.fine, h.on, h6.own h.pv (fun g hg hm => ?_), fun g hg => ⟨fun hm => ?_, (h.pvS g hg).2⟩, h.c4⟩, h5, h6, h7⟩
   · rcases List.mem_cons.1 hm with hm | hm
     · exact (h.pvS g hg).2 hm
     · exact (h.pvS g hg).1 hm
   · rcases h7 g hm with hm | hm
     · exact (h.pvS g hg).1 hm
     · have := hclt g hg; omega
 · exact hF.elim
theorem gets_put {L : List En} {key val : ByteArray} {y : En} {v : Value} (hr : Tr.Rising L) (hk : y.cell.key = key) (hv : y.val = val.data.toList) (h : GetsV (Tr.putE key y L) key v) : v = .tuple #[.string val, .bool true, .int .i64 0] := by
 rcases h with ⟨e, he, hek, rfl⟩ | ⟨hno, -⟩
 · rcases (Tr.putE_in hr hk e).1 he with rfl | ⟨-, hne⟩
   · rw [hv]
   · exact absurd hek hne
 · exact absurd hk (hno y ((Tr.putE_in hr hk y).2 (.inl rfl)))
theorem PutSt.get {E : Kv} {S : List Nat} {k c : Nat} {Fo : Forest} {nr : Nat} {name key val : ByteArray} {w w' : World} {y : En} {t : Tn} {σ' : Book} {S' : List Nat} {k' : Nat} (h : PutSt E S k c Fo nr name key val w w' y t σ' S' k') (hn : IsName name) (hr : Tr.Rising (Fo.tr name).L) {W : World} (hs : St0 E False W S' σ' k' (Fo.put name t) (nr + 1)) :
   Calls Tryz.prog 17 #[.pointer (some ⟨E.t, 0, none⟩), .string name, .string key] W (fun e w' => e = .returned (.tuple #[.string val, .bool true, .int .i64 0]) ∧ Below W.heap.size W w') := by
 refine (tget_any hs.ok hs.wr name key hn).mono ?_
 rintro e w2 ⟨hb, v, rfl, hg⟩
 have e1 : ((Fo.put name t).tr name).L = Tr.putE key y (Fo.tr name).L := by
   rw [← h.L]
   show (if name = name then t else Fo.tr name).L = t.L
   rw [if_pos rfl]
 rw [e1] at hg
 rw [gets_put hr h.kk h.vv hg]
 exact ⟨rfl, hb⟩
def LPut (u : Nat) (E : Kv) (b : Nat) (rd : Value) (S : List Nat) (k c : Nat) (Fo : Forest) (nr : Nat) (key val : ByteArray) (w : World) (e : Ending) (w' : World) : Prop :=
 e = .returned (.bool true) ∧ ∃ y t σ' S' k' next', y.cell.key = key ∧ y.val = val.data.toList ∧ t.L = Tr.putE key y (Fo.tr ⟨#[97]⟩).L ∧ St0 E False w' S' σ' k' (Fo.put ⟨#[97]⟩ t) (nr + 1) ∧ k ≤ k' + (c + Tr.pieces val.size) ∧ Off (u :: E.rm :: S) w w' ∧ Fresh w S S' ∧
   Bk w' u 33 (lwCells E.g b (.pointer (some ⟨E.t, 0, none⟩)) rd (.slice none 0 0) next' false)
set_option maxHeartbeats 16000000 in
theorem lput_any {w : World} {u : Nat} {E : Kv} {b : Nat} {rd : Value} {S : List Nat} {σ : Book} {k nr : Nat} {Fo : Forest} (hu : Bk w u 33 (lwCells E.g b (.pointer (some ⟨E.t, 0, none⟩)) rd (.slice none 0 0) (.slice none 0 0) false)) (h : St0 E False w S σ k Fo nr) (hnr : nr ≤ 100000) (hus : u ∉ E.rm :: S) (huc : ∀ g, E.c3.ownBlock = some g → g ≠ u)
   (key val : ByteArray) (hk1 : 1 ≤ key.size) (hk2 : key.size ≤ 120) (hv : val.size ≤ 4000) {c : Nat} (hrc : Tr.RootC σ c (Fo.tr ⟨#[97]⟩).root (Fo.tr ⟨#[97]⟩).P (Fo.tr ⟨#[97]⟩).L) (hk : c + Tr.pieces val.size ≤ k) :
   Calls Tryz.prog 65 #[.pointer (some ⟨u, 0, none⟩), .agg #[.int .i64 2, .int .i64 0, .string key, .string val, .int .i64 0, .slice none 0 0]] w (LPut u E b rd S k c Fo nr key val w) := by
 have HRI := Lib.hid (hrc.root.rising)
 have HOV := Lib.hid fun (W : World) (hb : Below w.heap.size w W) => (h.below hb).over
 have HP := Lib.hid fun (W : World) (hb : Below w.heap.size w W) => st0_put (h.below hb) hnr ⟨#[97]⟩ key val ⟨show 1 ≤ 1 by omega, show 1 ≤ 32 by omega⟩ hk1 hk2 hv hrc hk
 have HNM := Lib.hid fun (W : World) => name_zero W
 have HVL := Lib.hid fun (W : World) => value_short 2 0 key val (.slice none 0 0) W
 have HU := Lib.hid hu
 have lu := hu.lt
 have u2 := hu.cell 2
 have HUS := Lib.hid hus
 have HUC := Lib.hid huc
 have HV := Lib.hid hv
 have HK := Lib.hid (show 1 ≤ key.size ∧ key.size ≤ 120 from ⟨hk1, hk2⟩)
 have HLT := Lib.hid (show ∀ b ∈ E.rm :: S, b < w.heap.size from fun b hb => by
   rcases List.mem_cons.1 hb with rfl | hb
   · obtain ⟨n0, -, h4⟩ := h.wr.roots
     exact h4.lt
   · exact (kv_serves h.ok False).old h.wr.at_ b hb)
 have HRP := Lib.hid fun (W : World) => rput_none ⟨#[97]⟩ key val W
 clear hu h hus huc hv hk1 hk2 hrc hk hnr
 go_enter Tryz.func65, Tryz.ntmps65
 go_wp2_with fail
 refine (HOV.out _ ((Below.refl _ w).alloc (Nat.le_refl _) _)).mono ?_
 rintro e w1 ⟨rfl, rfl⟩
 go_wp2_with fail
 refine (HVL.out _).mono ?_
 rintro e w2 ⟨rfl, hb2⟩
 have hX := Bk.new w 58 #[.int .i64 2, .int .i64 0, .string key, .string val, .int .i64 0, .slice none 0 0]
 have hb02 : Below w.heap.size w w2 := ((Below.refl _ w).alloc (Nat.le_refl _) (.cells #[.int .i64 2, .int .i64 0, .string key, .string val, .int .i64 0, .slice none 0 0] 58)).trans (hb2.mono (by simp))
 have hX2 := bk_below hX hb2
 have HB2 := Lib.hid hb02
 have HX2 := Lib.hid hX2
 have hU2 := bk_below HU.out hb02
 have HU2 := Lib.hid hU2
 have p2 := hU2.cell 2
 have lu2 := hU2.lt
 have x1 := hX2.cell 1
 have x2 := hX2.cell 2
 have lx2 := hX2.lt
 clear hb2 hX hb02 hX2 hU2
 go_wp2_with fail
 have HKS := Lib.hid (show ∀ W, Off (E.rm :: S) w2 W → W.cell? ⟨u, 2, none⟩ = some (.pointer (some ⟨E.t, 0, none⟩)) ∧ W.cell? ⟨w.heap.size, 1, none⟩ = some (.int .i64 0) ∧ W.cell? ⟨w.heap.size, 2, none⟩ = some (.string key) from fun W hW => by
   have k1 := hW.bk HU2.out HUS.out
   have k2 := hW.bk HX2.out (fun hm => by have := HLT.out _ hm; omega)
   exact ⟨k1.cell 2, k2.cell 1, k2.cell 2⟩)
 go_region_held3 (fun W => W.cell? ⟨u, 2, none⟩ = some (.pointer (some ⟨E.t, 0, none⟩)) ∧ W.cell? ⟨w.heap.size, 1, none⟩ = some (.int .i64 0) ∧ W.cell? ⟨w.heap.size, 2, none⟩ = some (.string key)) (first | exact HKS.out _ (Off.refl _ _).drew | exact HKS.out _ hk3.out) (first
   | (go_at_call 126; refine (HNM.out _).mono ?_; rintro e wN ⟨rfl, rfl⟩)
   | (go_at_call 12; refine (HP.out _ HB2.out.drew).mono ?_; rintro e w3 ⟨rfl, y, t, σ', S', k', hpa⟩; have HPA := Lib.hid hpa; have hk3 := Lib.hid (show Off (E.rm :: S) w2 w3 from (Off.refl _ w2).drew.trans hpa.off); clear hpa)
   | fail)
 all_goals
   have hU3 := hk3.out.bk HU2.out HUS.out
   have hX3 := hk3.out.bk HX2.out (fun hm => by have := HLT.out _ hm; omega)
   have HU3 := Lib.hid hU3
   have HX3 := Lib.hid hX3
   have p2 := hU3.cell 2
   have p5 := hU3.cell 5
   have lu3 := hU3.lt
   have x1 := hX3.cell 1
   have x2 := hX3.cell 2
   have lx3 := hX3.lt
   clear hU3 hX3
   have z1 : decide ((key.size : Int) < 1) = false := decide_eq_false (by have := HK.out; omega)
   have z2 : decide ((120 : Int) < key.size) = false := decide_eq_false (by have := HK.out; omega)
   have z3 : decide ((4000 : Int) < val.size) = false := decide_eq_false (by have := HV.out; omega)
   go_wp2_with (first
     | (go_at_call 126; refine (HNM.out _).mono ?_; rintro e wN ⟨rfl, rfl⟩)
     | fail)
   have hkw := bk_below HU3.out (Below.refl w3.heap.size w3).drew
   go_region_law (first
     | (go_simp; go_at_call 126; refine (HNM.out _).mono ?_; rintro e wN ⟨rfl, rfl⟩)
     | (go_simp; go_at_call 84; refine (HRP.out _).mono ?_; rintro e w4 ⟨⟨A, m, cap, rfl⟩, hb4⟩; have hk4 := Lib.hid (show Below w3.heap.size w3 w4 from (Below.refl _ w3).drew.trans hb4); have hU4 := (bk_below HU3.out hk4.out); have y5 := hU4.cell 5; have yf := hU4.frozen 5; have yl := hU4.lt; clear hU4 hb4)
     | fail)
   all_goals
     have hU4 := (bk_below HU3.out hk4.out).put 5 (.slice A m cap)
     have hX4 := (bk_below HX3.out hk4.out).far (p := ⟨u, 5, none⟩) (show w.heap.size ≠ u by have := HU.out.lt; omega) (.slice A m cap)
     have ho4 : Off [u] w3 (w4.setCell ⟨u, 5, none⟩ (.slice A m cap)) := (Off.of_below hk4.out [u]).setCell (p := ⟨u, 5, none⟩) (.inl (by simp)) _
     have hS4 : St0 E False (w4.setCell ⟨u, 5, none⟩ (.slice A m cap)) S' σ' k' (Fo.put ⟨#[97]⟩ t) (nr + 1) := by
       have hpa := HPA.out
       refine hpa.st.off ho4 (fun x hx hm => ?_) (fun g hg hm => ?_)
       · rw [List.mem_singleton] at hm
         subst hm
         have hlu := HU.out.lt
         rcases List.mem_cons.1 hx with hx | hx
         · exact HUS.out (by simp [hx])
         · rcases hpa.fresh _ hx with hx | hx
           · exact HUS.out (by simp [hx])
           · have := HB2.out.size
             simp at hx
             omega
       · rw [List.mem_singleton] at hm
         exact HUC.out g hg hm
     have HO4 := Lib.hid ho4
     have HU4 := Lib.hid hU4
     have HX4 := Lib.hid hX4
     have HS4 := Lib.hid hS4
     have p2 := hU4.cell 2
     have lu4 := hU4.lt
     have x1 := hX4.cell 1
     have x2 := hX4.cell 2
     clear ho4 hU4 hX4 hS4
     generalize w4.setCell ⟨u, 5, none⟩ (.slice A m cap) = w5 at HO4 HU4 HX4 HS4 p2 lu4 x1 x2 ⊢
     have HG := Lib.hid fun (W : World) (hW : Below w5.heap.size w5 W) => HPA.out.get ⟨show 1 ≤ 1 by omega, show 1 ≤ 32 by omega⟩ HRI.out (HS4.out.below hW)
     have HKZ := Lib.hid (show ∀ W, Below w5.heap.size w5 W → W.cell? ⟨u, 2, none⟩ = some (.pointer (some ⟨E.t, 0, none⟩)) ∧ W.cell? ⟨w.heap.size, 1, none⟩ = some (.int .i64 0) ∧ W.cell? ⟨w.heap.size, 2, none⟩ = some (.string key) from fun W hW => by
       have k1 := bk_below HU4.out hW
       have k2 := bk_below HX4.out hW
       exact ⟨k1.cell 2, k2.cell 1, k2.cell 2⟩)
     go_wp2_with fail
     go_region_held3 (fun W => W.cell? ⟨u, 2, none⟩ = some (.pointer (some ⟨E.t, 0, none⟩)) ∧ W.cell? ⟨w.heap.size, 1, none⟩ = some (.int .i64 0) ∧ W.cell? ⟨w.heap.size, 2, none⟩ = some (.string key)) (first | exact HKZ.out _ (Below.refl _ _).drew | exact HKZ.out _ hk6.out) (first
       | (go_at_call 126; refine (HNM.out _).mono ?_; rintro e wN ⟨rfl, rfl⟩)
       | (go_at_call 17; refine (HG.out _ (Below.refl _ _).drew).mono ?_; rintro e w6 ⟨rfl, hb6⟩; have hk6 := Lib.hid (show Below w5.heap.size w5 w6 from (Below.refl _ w5).drew.trans hb6); clear hb6)
       | fail)
     all_goals
       have hfin : LPut u E b rd S k c Fo nr key val w (.returned (.bool true)) w6 := by
         have hpa := HPA.out
         have hb2 := HB2.out
         have o1 : Off (u :: E.rm :: S) w w2 := Off.of_below hb2 _
         have o2 : Off (u :: E.rm :: S) w2 w3 := hk3.out.mono (fun g hg => .inl (List.mem_cons_of_mem _ hg))
         have o3 : Off (u :: E.rm :: S) w3 w5 := HO4.out.mono (fun g hg => .inl (by rw [List.mem_singleton] at hg; subst hg; simp))
         have o4 : Off (u :: E.rm :: S) w5 w6 := Off.of_below hk6.out _
         exact ⟨rfl, y, t, σ', S', k', _, hpa.kk, hpa.vv, hpa.L, HS4.out.below hk6.out, hpa.sure, ((o1.trans o2).trans o3).trans o4, hpa.fresh.mono (Nat.le_trans hb2.size (by simp)), bk_below HU4.out hk6.out⟩
       have HFIN := Lib.hid hfin
       clear hfin
       go_wp2_with fail
       go_ret
       exact HFIN.out
end Go.Proofs.YtjbcbnemdhbhbaaGreatDoor

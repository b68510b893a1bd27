import Derived.Test.YtjbcbnemdhbhbaaGreatDoorG48
import Derived.Test.YtjbcbnemdhbhbaaGreatDoorG46
namespace Go.Proofs.YtjbcbnemdhbhbaaGreatDoor
open Go.RowKit
set_option maxRecDepth 100000
set_option linter.unusedVariables false
set_option linter.unusedSimpArgs false
set_option maxHeartbeats 8000000 in
theorem does2 {w : World} {u : Nat} {E : Kv} {b : Nat} {rd : Value} {S : List Nat} {σ : Book} {k nr : Nat} {Fo : Forest} (hu : Bk w u 33 (lwCells E.g b (.pointer (some ⟨E.t, 0, none⟩)) rd (.slice none 0 0) (.slice none 0 0) false)) (h : St0 E False w S σ k Fo nr) (hnr : nr ≤ 100000) (hus : u ∉ E.rm :: S) (huc : ∀ g, E.c3.ownBlock = some g → g ≠ u)
   (key val : ByteArray) (hk1 : 1 ≤ key.size) (hk2 : key.size ≤ 120) (hv : val.size ≤ 4000) {c : Nat} (hrc : Tr.RootC σ c (Fo.tr ⟨#[97]⟩).root (Fo.tr ⟨#[97]⟩).P (Fo.tr ⟨#[97]⟩).L) (hk : c + Tr.pieces val.size ≤ k) :
   Calls Tryz.prog 26 #[.pointer (some ⟨u, 0, none⟩), .agg #[.int .i64 2, .int .i64 0, .string key, .string val, .int .i64 0, .slice none 0 0]] w (LPut u E b rd S k c Fo nr key val w) := by
 have HP := Lib.hid fun (W : World) (hb : Below w.heap.size w W) => lput_any (bk_below hu hb) (h.below hb) hnr hus huc key val hk1 hk2 hv hrc hk
 have lu := hu.lt
 have u1 := hu.cell 1
 have HU := Lib.hid hu
 clear hu h hus huc hv hk1 hk2 hrc hk hnr
 go_enter Tryz.func26, Tryz.ntmps26
 go_wp2_with fail
 refine (HP.out _ ((Below.refl _ w).alloc (Nat.le_refl _) _)).mono ?_
 rintro e w1 ⟨rfl, y, t, σ', S', k', next', h1, h2, h3, h4, h5, h6, h7, h8⟩
 have HFIN : Hid (LPut u E b rd S k c Fo nr key val w (.returned (.bool true)) w1) := Lib.hid ⟨rfl, y, t, σ', S', k', next', h1, h2, h3, h4, h5, ((Off.refl _ w).alloc _).trans h6, h7.mono (by simp), h8⟩
 clear h1 h2 h3 h4 h5 h6 h7 h8
 go_wp2_with fail
 go_ret
 exact HFIN.out
structure KeptW (w0 w : World) (u b sp gg cap : Nat) (m : MetaV) (S : List Nat) : Prop where
 snap : SnapG w sp b 0 m (.slice none 0 0) false
 row : w.ownsRow 0 89 2 (.slice (some ⟨gg, 0, none⟩) 1 cap) 1 [.pointer (some ⟨sp, 0, none⟩), .slice none 0 0]
 off : Off [0] w0 w
 new : ∀ x ∈ S, x = 0 ∨ w0.heap.size ≤ x
 lt : u < w.heap.size
 old : w0.heap.size ≤ u ∧ w0.heap.size ≤ sp ∧ w0.heap.size ≤ gg
 ap : u ∉ S ∧ sp ∉ S ∧ gg ∉ S
 ne : u ≠ sp ∧ u ≠ gg ∧ sp ≠ gg
theorem KeptW.glt {w0 w : World} {u b sp gg cap : Nat} {m : MetaV} {S : List Nat} (h : KeptW w0 w u b sp gg cap m S) : gg < w.heap.size := (World.ownsRow.lt h.row gg rfl).2
theorem KeptW.slt {w0 w : World} {u b sp gg cap : Nat} {m : MetaV} {S : List Nat} (h : KeptW w0 w u b sp gg cap m S) : sp < w.heap.size := Bk.lt h.snap
theorem KeptW.go {w0 w w' : World} {u b sp gg cap : Nat} {m : MetaV} {S U S' : List Nat} (h : KeptW w0 w u b sp gg cap m S) (ho : Off U w w') (hU : ∀ x ∈ U, x = u ∨ x ∈ S ∨ (w0.heap.size ≤ x ∧ x ≠ sp ∧ x ≠ gg)) (hf : ∀ x ∈ S', x ∈ S ∨ w.heap.size ≤ x) : KeptW w0 w' u b sp gg cap m S' := by
 have hg := h.glt
 have hs := h.slt
 have hl := h.lt
 obtain ⟨o1, o2, o3⟩ := h.old
 obtain ⟨a1, a2, a3⟩ := h.ap
 obtain ⟨n1, n2, n3⟩ := h.ne
 have hsU : sp ∉ U := fun hm => by
   rcases hU _ hm with h1 | h1 | h1
   · exact n1 h1.symm
   · exact a2 h1
   · exact h1.2.1 rfl
 have hgU : gg ∉ U := fun hm => by
   rcases hU _ hm with h1 | h1 | h1
   · exact n2 h1.symm
   · exact a3 h1
   · exact h1.2.2 rfl
 refine ⟨ho.bk h.snap hsU, ho.own h.row (fun x hx => ?_), h.off.then ho (fun x hx => ?_), fun x hx => ?_, Nat.lt_of_lt_of_le hl ho.size, h.old, ⟨fun hm => ?_, fun hm => ?_, fun hm => ?_⟩, h.ne⟩
 · have e : gg = x := by injection hx
   subst e
   exact hgU
 · rcases hU _ hx with h1 | h1 | h1
   · subst h1; exact .inr o1
   · exact (h.new x h1).imp (fun e => by simp [e]) id
   · exact .inr h1.1
 · rcases hf x hx with h1 | h1
   · exact h.new x h1
   · exact .inr (Nat.le_trans h.off.size h1)
 · rcases hf _ hm with h1 | h1
   · exact a1 h1
   · omega
 · rcases hf _ hm with h1 | h1
   · exact a2 h1
   · omega
 · rcases hf _ hm with h1 | h1
   · exact a3 h1
   · omega
theorem KeptW.step {w0 w w' : World} {u b sp gg cap : Nat} {m : MetaV} {S S' : List Nat} (h : KeptW w0 w u b sp gg cap m S) (ho : Off S w w') (hf : ∀ x ∈ S', x ∈ S ∨ w.heap.size ≤ x) : KeptW w0 w' u b sp gg cap m S' := h.go ho (fun x hx => .inr (.inl hx)) hf
theorem KeptW.below {w0 w w' : World} {u b sp gg cap : Nat} {m : MetaV} {S : List Nat} (h : KeptW w0 w u b sp gg cap m S) (hb : Below w.heap.size w w') : KeptW w0 w' u b sp gg cap m S := h.go (Off.of_below hb []) (by simp) (fun x hx => .inl hx)
theorem KeptW.all {w0 w : World} {u b sp gg cap : Nat} {m : MetaV} {S : List Nat} (h : KeptW w0 w u b sp gg cap m S) (hr : w.heap[0]? = w0.heap[0]?) : Below w0.heap.size w0 w :=
 ⟨h.off.os, h.off.tape, h.off.output, h.off.size, fun i hi => by
   by_cases e : i = 0
   · subst e; exact hr
   · exact h.off.block i hi (by simpa using e)⟩
theorem KeptW.reader {w0 w : World} {u b sp gg cap : Nat} {m : MetaV} {S : List Nat} (h : KeptW w0 w u b sp gg cap m S) : w.cell? ⟨gg, 0, none⟩ = some (.pointer (some ⟨sp, 0, none⟩)) ∧ w.cell? ⟨gg, 1, none⟩ = some (.slice none 0 0) := by
 have h0 := h.row.cells (g := gg) rfl 0 (.pointer (some ⟨sp, 0, none⟩)) rfl
 have h1 := h.row.cells (g := gg) rfl 1 (.slice none 0 0) rfl
 rw [add_zero_addr] at h0 h1
 exact ⟨h0, h1⟩
def exName : ByteArray := ⟨#[97]⟩
theorem ex_put (t : Tn) : (Forest.zero.put exName t).NS = [exName] ∧ (Forest.zero.put exName t).main = Tn.zero ∧ (∀ n r, (Forest.zero.put exName t).R n = some r → r = t.root) ∧ (Forest.zero.put exName t).tr exName = t := by
 refine ⟨rfl, rfl, fun n r h => ?_, (show (if exName = exName then t else Forest.zero.tr exName) = t from if_pos rfl)⟩
 have h : (if n = exName then some t.root else none) = some r := h
 split at h
 · exact (Option.some.inj h).symm
 · cases h
theorem ex_nz {t : Tn} {σ : Book} {key : ByteArray} {y : En} (ht : t.Is σ) (hL : t.L = Tr.putE key y []) : t.root ≠ 0 := fun h0 => by
 have := (Tr.Root.zero ht).1 h0
 rw [this] at hL
 cases hL
def exKey : ByteArray := ⟨#[107]⟩
def exVal : ByteArray := ⟨#[49]⟩
def exSt : St := ⟨some 1, none, none, none⟩
abbrev exDi (b q r f g : Nat) (Sf : List Nat) : Di := { newDi b q r f g Sf 20 with s := exSt }
def A1 (w0 : World) (u : Nat) (W : World) : Prop := ∃ b q r f g Sf Sd sp gg cap, Bk W u 33 (lwCells g b (.pointer none) (.slice (some ⟨gg, 0, none⟩) 1 cap) (.slice none 0 0) (.slice none 0 0) false) ∧
 FileAt W (exDi b q r f g Sf) Sd (fmtDev (4 * 20) 20) (fun _ => none) Forest.zero 1 1 20 ∧ KeptW w0 W u b sp gg cap (fmtPg 20).m (0 :: ((exDi b q r f g Sf).blocks ++ Sd)) ∧ W.heap[0]? = w0.heap[0]?
theorem A1.below {w0 : World} {u : Nat} {W W' : World} (h : A1 w0 u W) (hb : Below W.heap.size W W') : A1 w0 u W' := by
 obtain ⟨b, q, r, f, g, Sf, Sd, sp, gg, cap, h1, h2, h3, h4⟩ := h
 exact ⟨b, q, r, f, g, Sf, Sd, sp, gg, cap, bk_below h1 hb, h2.below hb, h3.below hb, (hb.block _ h2.row.lt).trans h4⟩
def A0 (w0 : World) (u : Nat) (W : World) : Prop := ∃ b q r f g Sf Sd,
 Bk W u 33 (lwCells g b (.pointer none) (.slice none 0 0) (.slice none 0 0) (.slice none 0 0) false) ∧
 FileAt W (newDi b q r f g Sf 20) Sd (fmtDev (4 * 20) 20) (fun _ => none) Forest.zero 1 1 20 ∧ Below w0.heap.size w0 W ∧ (∀ x ∈ u :: ((newDi b q r f g Sf 20).blocks ++ Sd), w0.heap.size ≤ x) ∧ u ∉ (newDi b q r f g Sf 20).blocks ++ Sd
theorem A0.below {w0 : World} {u : Nat} {W W' : World} (h : A0 w0 u W) (hb : Below W.heap.size W W') : A0 w0 u W' := by
 obtain ⟨b, q, r, f, g, Sf, Sd, h1, h2, h3, h4, h5⟩ := h
 exact ⟨b, q, r, f, g, Sf, Sd, bk_below h1 hb, h2.below hb, h3.trans (hb.mono h3.size), h4, h5⟩
theorem a0_begin (w : World) (hr : RowAt w) : Calls Tryz.prog 10 #[.int .i64 20] w (fun e w' => ∃ u, e = .returned (.pointer (some ⟨u, 0, none⟩)) ∧ A0 w u w') := by
 refine (lbegin_any 20 ⟨by omega, by omega⟩ w hr).mono ?_
 rintro e w' ⟨u, b, q, r, f, g, Sf, Sd, rfl, h1, h2, h3, h4, h5⟩
 exact ⟨u, rfl, b, q, r, f, g, Sf, Sd, h1, h2, h3, h4, h5⟩
theorem a0_does {w0 : World} {u : Nat} {W : World} (h : A0 w0 u W) (hr : RowAt w0) : Calls Tryz.prog 26 #[.pointer (some ⟨u, 0, none⟩), .agg #[.int .i64 7, .int .i64 0, .string ⟨#[]⟩, .string ⟨#[]⟩, .int .i64 0, .slice none 0 0]] W (fun e w' => e = .returned (.bool true) ∧ A1 w0 u w') := by
 obtain ⟨b, q, r, f, g, Sf, Sd, h1, h2, h3, h4, h5⟩ := h
 have hub : u ∉ (newDi b q r f g Sf 20).blocks := fun hm => h5 (List.mem_append.2 (.inl hm))
 refine (does7 (d := newDi b q r f g Sf 20) (s' := exSt) (i := 0) h1 h2.db rfl hub 0 ⟨#[]⟩ ⟨#[]⟩).mono ?_
 rintro e w' ⟨rfl, sp, gg, cap, k1, k2, k3, k4, k5, k6, k7, k8, k9⟩
 have hrl := hr.lt
 have hul := h1.lt
 have hu0 := h4 u (by simp)
 have hbl : ∀ x ∈ (newDi b q r f g Sf 20).blocks ++ Sd, x < W.heap.size := fun x hx => by
   rcases List.mem_append.1 hx with hx | hx
   · exact h2.db.old x hx
   · exact h2.dev.old x hx
 have hr0 : ∀ x ∈ [u, (newDi b q r f g Sf 20).r], w0.heap.size ≤ x := fun x hx => by
   rcases List.mem_cons.1 hx with rfl | hx
   · exact hu0
   · rw [List.mem_singleton] at hx
     rw [hx]
     exact h4 _ (by simp [Di.blocks])
 have hSd : ∀ x ∈ Sd, x ∉ [u, (newDi b q r f g Sf 20).r] := fun x hx hm => by
   rcases List.mem_cons.1 hm with rfl | hm
   · exact h5 (List.mem_append.2 (.inr hx))
   · rw [List.mem_singleton] at hm
     subst hm
     exact h2.ap.2.1 hx
 have hsz := h3.size
 refine ⟨rfl, b, q, r, f, g, Sf, Sd, sp, gg, cap, k3, ⟨k1, h2.dev.off k5 hSd, h2.row.off k5 (fun hm => ?_), h2.plain, h2.ap, h2.pv, .inl rfl⟩, ⟨k2, k4, ((Off.of_below h3 []).then k5 (fun x hx => .inr (hr0 x hx))).mono (by simp), fun x hx => ?_, Nat.lt_of_lt_of_le hul k5.size, ⟨hu0, by omega, by omega⟩, ⟨fun hm => ?_, fun hm => ?_, fun hm => ?_⟩, ⟨by omega, k8, k9⟩⟩, (k5.block _ h2.row.lt (fun hm => ?_)).trans (h3.block _ hrl)⟩
 · have := hr0 _ hm; omega
 · rcases List.mem_cons.1 hx with rfl | hx
   · exact .inl rfl
   · exact .inr (h4 x (by simp only [List.mem_cons]; exact .inr hx))
 · rcases List.mem_cons.1 hm with hm | hm
   · omega
   · exact h5 hm
 · rcases List.mem_cons.1 hm with hm | hm
   · omega
   · have := hbl _ hm; omega
 · rcases List.mem_cons.1 hm with hm | hm
   · omega
   · have := hbl _ hm; omega
 · have := hr0 _ hm; omega
structure WrOk (w0 : World) (u : Nat) (E : Kv) (sp gg : Nat) : Prop where
 txn : E.txn = 2
 limit : E.limit = 20
 ro : E.ro = w0.heap[0]?
 s : E.s = exSt
 c3 : E.c3 = .slice none 0 0
 rm : w0.heap.size ≤ E.rm ∧ E.rm ≠ sp ∧ E.rm ≠ gg ∧ u ≠ E.rm
def A2 (w0 : World) (u t b sp gg cap : Nat) (W : World) : Prop := ∃ E S σ k, E.t = t ∧ E.b = b ∧ WrOk w0 u E sp gg ∧ St0 E False W S σ k Forest.zero 0 ∧ 19 ≤ k ∧
 Bk W u 33 (lwCells E.g E.b (.pointer (some ⟨E.t, 0, none⟩)) (.slice (some ⟨gg, 0, none⟩) 1 cap) (.slice none 0 0) (.slice none 0 0) false) ∧ KeptW w0 W u E.b sp gg cap (fmtPg 20).m S
theorem KeptW.ldd {w0 W W' : World} {u b sp gg cap : Nat} {m : MetaV} {S : List Nat} (h : KeptW w0 W u b sp gg cap m S) (ho : Off S W W') : ∀ {cs : Array Value}, Bk W u 33 cs → Bk W' u 33 cs := fun hb => ho.bk hb h.ap.1
theorem A2.below {w0 : World} {u t b sp gg cap : Nat} {W W' : World} (h : A2 w0 u t b sp gg cap W) (hb : Below W.heap.size W W') : A2 w0 u t b sp gg cap W' := by
 obtain ⟨E, S, σ, k, e1, e2, h1, h2, h3, h4, h5⟩ := h
 exact ⟨E, S, σ, k, e1, e2, h1, h2.below hb, h3, bk_below h4 hb, h5.below hb⟩
theorem a1_does {w0 : World} {u : Nat} {W : World} (h : A1 w0 u W) (hr : RowAt w0) : Calls Tryz.prog 26 #[.pointer (some ⟨u, 0, none⟩), .agg #[.int .i64 1, .int .i64 0, .string ⟨#[]⟩, .string ⟨#[]⟩, .int .i64 0, .slice none 0 0]] W (fun e w' => e = .returned (.bool true) ∧ ∃ t b sp gg cap, A2 w0 u t b sp gg cap w') := by
 obtain ⟨b, q, r, f, g, Sf, Sd, sp, gg, cap, h1, h2, h3, hro⟩ := h
 have hub := h3.ap.1
 refine (does1 h1 h2 (by omega) (show (0 : Int) ≤ min (1 - 1) (exSt.oldest 1) by rw [show exSt.oldest 1 = 1 by simp [St.oldest, St.liveK, St.live, exSt, srt, oldestOf]]; decide) hub 0 ⟨#[]⟩ ⟨#[]⟩).mono ?_
 rintro e w' ⟨rfl, t, rm, S, k1, k2, k3, k4, k5⟩
 have hgl := h3.glt
 have hsl := h3.slt
 have hul := h3.lt
 refine ⟨rfl, t, b, sp, gg, cap, _, S, _, _, rfl, rfl, ⟨rfl, rfl, hro, rfl, rfl, ⟨Nat.le_trans h3.off.size k5, by show rm ≠ sp; omega, by show rm ≠ gg; omega, by show u ≠ rm; omega⟩⟩, k1, ?_, k2, h3.go k3 (fun x hx => ?_) k4⟩
 · show 19 ≤ ([] : List (Nat × Nat)).length + (20 - 1)
   decide
 · rcases List.mem_cons.1 hx with rfl | hx
   · exact .inl rfl
   · rw [List.mem_singleton] at hx
     rw [hx]
     exact .inr (.inl (by simp [Di.blocks]))
def A3 (w0 : World) (u t b sp gg cap : Nat) (W : World) : Prop := ∃ E S σ k y tr next', E.t = t ∧ E.b = b ∧ WrOk w0 u E sp gg ∧ St0 E False W S σ k (Forest.zero.put exName tr) 1 ∧ 14 ≤ k ∧ y.cell.key = exKey ∧ y.val = exVal.data.toList ∧ tr.L = Tr.putE exKey y [] ∧
 Bk W u 33 (lwCells E.g E.b (.pointer (some ⟨E.t, 0, none⟩)) (.slice (some ⟨gg, 0, none⟩) 1 cap) (.slice none 0 0) next' false) ∧ KeptW w0 W u E.b sp gg cap (fmtPg 20).m S
theorem A3.below {w0 : World} {u t b sp gg cap : Nat} {W W' : World} (h : A3 w0 u t b sp gg cap W) (hb : Below W.heap.size W W') : A3 w0 u t b sp gg cap W' := by
 obtain ⟨E, S, σ, k, y, tr, next', e1, e2, h1, h2, h3, h4, h5, h6, h7, h8⟩ := h
 exact ⟨E, S, σ, k, y, tr, next', e1, e2, h1, h2.below hb, h3, h4, h5, h6, bk_below h7 hb, h8.below hb⟩
theorem a2_does {w0 : World} {u t b sp gg cap : Nat} {W : World} (h : A2 w0 u t b sp gg cap W) : Calls Tryz.prog 26 #[.pointer (some ⟨u, 0, none⟩), .agg #[.int .i64 2, .int .i64 0, .string exKey, .string exVal, .int .i64 0, .slice none 0 0]] W (fun e w' => e = .returned (.bool true) ∧ A3 w0 u t b sp gg cap w') := by
 obtain ⟨E, S, σ, k, e1, e2, h1, h2, h3, h4, h5⟩ := h
 have hus : u ∉ E.rm :: S := fun hm => by
   rcases List.mem_cons.1 hm with hm | hm
   · exact h1.rm.2.2.2 hm
   · exact h5.ap.1 hm
 refine (does2 (c := 4) h4 h2 (by omega) hus (fun g hg => by rw [h1.c3] at hg; cases hg) exKey exVal (by decide) (by decide) (by decide) (.inl ⟨rfl, rfl, rfl, by omega⟩) (by rw [show Tr.pieces exVal.size = 0 from rfl]; omega)).mono ?_
 rintro e w' ⟨rfl, y, tr, σ', S', k', next', k1, k2, k3, k4, k5, k6, k7, k8⟩
 rw [show Tr.pieces exVal.size = 0 from rfl] at k5
 refine ⟨rfl, E, S', σ', k', y, tr, next', e1, e2, h1, k4, by omega, k1, k2, k3, k8, h5.go k6 (fun x hx => ?_) k7⟩
 rcases List.mem_cons.1 hx with rfl | hx
 · exact .inl rfl
 · rcases List.mem_cons.1 hx with rfl | hx
   · exact .inr (.inr ⟨h1.rm.1, h1.rm.2.1, h1.rm.2.2.1⟩)
   · exact .inr (.inl hx)
def AQ (w0 : World) (u t b sp gg cap i : Nat) (W : World) : Prop := ∃ (K : Kn) (S : List Nat) (G : Forest) (σ : Book) (pages : Nat) (l : List (Nat × Nat)) (ch : List Nat) (y : En) (next' : Value), K.t = t ∧ K.b = b ∧ K.txn = 2 ∧ K.limit = 20 ∧ K.ro = w0.heap[0]? ∧ K.s = exSt ∧ Ldd K i W S G σ pages l ch ∧
 y.cell.key = exKey ∧ y.val = exVal.data.toList ∧ (G.tr exName).L = Tr.putE exKey y [] ∧
 Bk W u 33 (lwCells K.g K.b (.pointer (some ⟨K.t, 0, none⟩)) (.slice (some ⟨gg, 0, none⟩) 1 cap) (.slice none 0 0) next' false) ∧ KeptW w0 W u K.b sp gg cap (fmtPg 20).m S
theorem a3_step {w0 : World} {u t b sp gg cap : Nat} {W : World} (h : A3 w0 u t b sp gg cap W) : Calls Tryz.prog 13 #[.pointer (some ⟨t, 0, none⟩)] W (fun e w' => e = .returned (.tuple #[.bool false, .int .i64 0]) ∧ AQ w0 u t b sp gg cap 1 w') := by
 obtain ⟨E, S, σ, k, y, tr, next', rfl, rfl, h1, h2, h3, h4, h5, h6, h7, h8⟩ := h
 obtain ⟨x1, x2, x3, x4⟩ := ex_put tr
 have htr : tr.Is σ := by
   have := h2.wr.ok.each exName
   rw [x4] at this
   exact this
 have hnz := ex_nz htr h6
 refine (st0_step h2 (by omega) (fun n r hr => by rw [x3 n r hr]; exact hnz) (by rw [x1, x2, h1.limit]; exact Nat.le_trans (by decide) h3)).mono ?_
 rintro e w' ⟨rfl, G, σ', pages, l, ch, S', k1, k2, k3, k4, k5⟩
 exact ⟨rfl, E.kn, S', G, σ', pages, l, ch, y, next', rfl, rfl, h1.txn, h1.limit, h1.ro, h1.s, k1, h4, h5, by rw [k2, x4]; exact h6, h8.ldd k4 h7, h8.step k4 k5⟩
theorem aq1_step {w0 : World} {u t b sp gg cap : Nat} {W : World} (h : AQ w0 u t b sp gg cap 1 W) : Calls Tryz.prog 13 #[.pointer (some ⟨t, 0, none⟩)] W (fun e w' => e = .returned (.tuple #[.bool false, .int .i64 0]) ∧ AQ w0 u t b sp gg cap 2 w') := by
 obtain ⟨K, S, G, σ, pages, l, ch, y, next', rfl, rfl, h1, h2, h3, h4, h5, h6, h7, h8, h9, h10⟩ := h
 refine (ldd_step1 h5).mono ?_
 rintro e w' ⟨rfl, S', k1, k2, k3⟩
 exact ⟨rfl, K, S', G, σ, pages, l, ch, y, next', rfl, rfl, h1, h2, h3, h4, k1, h6, h7, h8, h10.ldd k2 h9, h10.step k2 k3⟩
theorem aq2_step {w0 : World} {u t b sp gg cap : Nat} {W : World} (h : AQ w0 u t b sp gg cap 2 W) : Calls Tryz.prog 13 #[.pointer (some ⟨t, 0, none⟩)] W (fun e w' => e = .returned (.tuple #[.bool false, .int .i64 0]) ∧ AQ w0 u t b sp gg cap 3 w') := by
 obtain ⟨K, S, G, σ, pages, l, ch, y, next', rfl, rfl, h1, h2, h3, h4, h5, h6, h7, h8, h9, h10⟩ := h
 refine (ldd_step2 h5).mono ?_
 rintro e w' ⟨rfl, S', k1, k2, k3⟩
 exact ⟨rfl, K, S', G, σ, pages, l, ch, y, next', rfl, rfl, h1, h2, h3, h4, k1, h6, h7, h8, h10.ldd k2 h9, h10.step k2 k3⟩
theorem aq3_step {w0 : World} {u t b sp gg cap : Nat} {W : World} (h : AQ w0 u t b sp gg cap 3 W) : Calls Tryz.prog 13 #[.pointer (some ⟨t, 0, none⟩)] W (fun e w' => e = .returned (.tuple #[.bool false, .int .i64 0]) ∧ AQ w0 u t b sp gg cap 4 w') := by
 obtain ⟨K, S, G, σ, pages, l, ch, y, next', rfl, rfl, h1, h2, h3, h4, h5, h6, h7, h8, h9, h10⟩ := h
 refine (ldd_step3 h5).mono ?_
 rintro e w' ⟨rfl, S', k1, k2, k3⟩
 exact ⟨rfl, K, S', G, σ, pages, l, ch, y, next', rfl, rfl, h1, h2, h3, h4, k1, h6, h7, h8, h10.ldd k2 h9, h10.step k2 k3⟩
def A5 (w0 : World) (u t b sp gg cap : Nat) (W : World) : Prop := ∃ d Sd D σ G pages y next', d.b = b ∧ d.s = exSt ∧ FileAt W d Sd D σ G 2 pages 20 ∧ W.heap[0]? = w0.heap[0]? ∧
 y.cell.key = exKey ∧ y.val = exVal.data.toList ∧ (G.tr exName).L = Tr.putE exKey y [] ∧
 Bk W u 33 (lwCells d.g b (.pointer (some ⟨t, 0, none⟩)) (.slice (some ⟨gg, 0, none⟩) 1 cap) (.slice none 0 0) next' false) ∧ KeptW w0 W u b sp gg cap (fmtPg 20).m (d.blocks ++ Sd)
theorem aq4_step {w0 : World} {u t b sp gg cap : Nat} {W : World} (h : AQ w0 u t b sp gg cap 4 W) : Calls Tryz.prog 13 #[.pointer (some ⟨t, 0, none⟩)] W (fun e w' => e = .returned (.tuple #[.bool true, .int .i64 0]) ∧ A5 w0 u t b sp gg cap w') := by
 obtain ⟨K, S, G, σ, pages, l, ch, y, next', rfl, rfl, h1, h2, h3, h4, h5, h6, h7, h8, h9, h10⟩ := h
 refine (ldd_done h5).mono ?_
 rintro e w' ⟨rfl, d', Sd', D', k1, k2, k3, k4, k5, k6, k7, k8, k9, -, k10, k11⟩
 rw [h1, h2] at k1
 exact ⟨rfl, d', Sd', D', σ, G, pages, y, next', k2, k6.trans h4, k1, k9.trans h3, h6, h7, h8, by rw [k5]; exact h10.ldd k10 h9, h10.step k10 k11⟩
def A6 (w0 : World) (u t b sp gg cap sp2 : Nat) (W : World) : Prop := ∃ d Sd D σ G pages y next', d.b = b ∧ FileAt W d Sd D σ G 2 pages 20 ∧ W.heap[0]? = w0.heap[0]? ∧
 y.cell.key = exKey ∧ y.val = exVal.data.toList ∧ (G.tr exName).L = Tr.putE exKey y [] ∧ SnapG W sp2 b 1 d.P.m d.pv false ∧
 Bk W u 33 (lwCells d.g b (.pointer (some ⟨t, 0, none⟩)) (.slice (some ⟨gg, 0, none⟩) 1 cap) (.slice none 0 0) next' false) ∧ KeptW w0 W u b sp gg cap (fmtPg 20).m (d.blocks ++ Sd)
theorem A6.below {w0 : World} {u t b sp gg cap sp2 : Nat} {W W' : World} (h : A6 w0 u t b sp gg cap sp2 W) (hb : Below W.heap.size W W') : A6 w0 u t b sp gg cap sp2 W' := by
 obtain ⟨d, Sd, D, σ, G, pages, y, next', h1, h2, h3, h4, h5, h6, h7, h8, h9⟩ := h
 exact ⟨d, Sd, D, σ, G, pages, y, next', h1, h2.below hb, (hb.block _ h2.row.lt).trans h3, h4, h5, h6, bk_below h7 hb, bk_below h8 hb, h9.below hb⟩
theorem A6.all {w0 : World} {u t b sp gg cap sp2 : Nat} {W : World} (h : A6 w0 u t b sp gg cap sp2 W) : Below w0.heap.size w0 W := by
 obtain ⟨d, Sd, D, σ, G, pages, y, next', h1, h2, h3, h4, h5, h6, h7, h8, h9⟩ := h
 exact h9.all h3
theorem A5.below {w0 : World} {u t b sp gg cap : Nat} {W W' : World} (h : A5 w0 u t b sp gg cap W) (hb : Below W.heap.size W W') : A5 w0 u t b sp gg cap W' := by
 obtain ⟨d, Sd, D, σ, G, pages, y, next', h1, h2, h3, h4, h5, h6, h7, h8, h9⟩ := h
 exact ⟨d, Sd, D, σ, G, pages, y, next', h1, h2, h3.below hb, (hb.block _ h3.row.lt).trans h4, h5, h6, h7, bk_below h8 hb, h9.below hb⟩
theorem a5_snap {w0 : World} {u t b sp gg cap : Nat} {W : World} (h : A5 w0 u t b sp gg cap W) : Calls Tryz.prog 15 #[.pointer (some ⟨b, 0, none⟩)] W (fun e w' => ∃ sp2, e = .returned (.tuple #[.pointer (some ⟨sp2, 0, none⟩), .int .i64 0]) ∧ A6 w0 u t b sp gg cap sp2 w') := by
 obtain ⟨d, Sd, D, σ, G, pages, y, next', rfl, h2, h3, h4, h5, h6, h7, h8, h9⟩ := h
 have hE : d.s.enter d.P.m.t = (⟨some 1, some 2, none, none⟩, 1, 0) := by
   rw [h2, h3.plain.m]
   rfl
 refine (snap_g h3.db hE).mono ?_
 rintro e w' ⟨sp2, rfl, k1, k2, k3, k4⟩
 have hrS : d.r ∈ d.blocks ++ Sd := by simp [Di.blocks]
 have hcr : 0 ≠ d.r := fun e => by
   have h0 := h3.row 0 (by omega)
   have h1 := h3.db.rd.cell 0
   rw [← e] at h1
   exact absurd (h0.symm.trans h1) (by simp [St.cells, slotCells])
 refine ⟨sp2, rfl, { d with s := ⟨some 1, some 2, none, none⟩ }, Sd, D, σ, G, pages, y, next', rfl, ⟨k2, h3.dev.off k1 (fun x hx hm => ?_), h3.row.off k1 (by simpa using hcr), h3.plain, h3.ap, h3.pv, ?_⟩, (k1.block _ h3.row.lt (by simpa using hcr)).trans h4, h5, h6, h7, k3, k1.bk h8 (fun hm => ?_), h9.go k1 (fun x hx => ?_) (fun x hx => .inl hx)⟩
 · rw [List.mem_singleton] at hm
   subst hm
   exact h3.ap.2.1 hx
 · rcases h3.wv with h1 | ⟨t0, cs, g1, g2, g3⟩
   · exact .inl h1
   · exact .inr ⟨t0, cs, g1, k1.bk g2 (by simpa using Bk.ne g2 h3.db.rd (by decide)), g3⟩
 · rw [List.mem_singleton] at hm
   exact h9.ap.1 (by rw [hm]; exact hrS)
 · rw [List.mem_singleton] at hx
   subst hx
   exact .inr (.inl hrS)
theorem a6_old {w0 : World} {u t b sp gg cap sp2 : Nat} {W : World} (h : A6 w0 u t b sp gg cap sp2 W) : Calls Tryz.prog 16 #[.pointer (some ⟨sp, 0, none⟩), .string exName, .string exKey] W (fun e w' => e = .returned (.tuple #[.string ⟨#[]⟩, .bool false, .int .i64 0]) ∧ A6 w0 u t b sp gg cap sp2 w') := by
 have h' := h
 obtain ⟨d, Sd, D, σ, G, pages, y, next', rfl, h2, h3, h4, h5, h6, h7, h8, h9⟩ := h
 have hp := h2.plain
 have hst := hp.steps
 refine (sget_any (K := ⟨d.q, d.g, d.T, Sd, d.P, D, fun _ => none⟩) h9.snap h2.db.top rfl ⟨hp.calm.on, by show D.steps ≤ _; omega, fun n p hn => by cases hn⟩ rfl h2.db.pg h2.dev h2.row Forest.zero_ok (fun n => rfl) rfl exName exKey ⟨by decide, by decide⟩).mono ?_
 rintro e w' ⟨hb, v, rfl, hg⟩
 rcases hg with ⟨e, he, -⟩ | ⟨-, rfl⟩
 · cases he
 · exact ⟨rfl, h'.below hb⟩
theorem a6_new {w0 : World} {u t b sp gg cap sp2 : Nat} {W : World} (h : A6 w0 u t b sp gg cap sp2 W) : Calls Tryz.prog 16 #[.pointer (some ⟨sp2, 0, none⟩), .string exName, .string exKey] W (fun e w' => e = .returned (.tuple #[.string exVal, .bool true, .int .i64 0]) ∧ A6 w0 u t b sp gg cap sp2 w') := by
 have h' := h
 obtain ⟨d, Sd, D, σ, G, pages, y, next', rfl, h2, h3, h4, h5, h6, h7, h8, h9⟩ := h
 have hp := h2.plain
 have hst := hp.steps
 have hml : d.P.m.l = 20 := by rw [hp.m]; rfl
 have hmr : d.P.m.r = G.main.root := by rw [hp.m]
 refine (sget_any (K := ⟨d.q, d.g, d.T, Sd, d.P, D, σ⟩) h7 h2.db.top rfl ⟨hp.calm.on, by show D.steps ≤ _; omega, fun n p hn => ?_⟩ rfl h2.db.pg h2.dev h2.row hp.ok hp.R hmr exName exKey ⟨by decide, by decide⟩).mono ?_
 · obtain ⟨k1, k2⟩ := hp.on n p hn
   have hm : n ∈ G.pages := hp.ok.full n (by rw [show σ n = some p from hn]; simp)
   have hr := (nums_mem.1 (hp.perm.mem_iff.1 (show n ∈ Fr.pg d.fr ++ (G.pages ++ d.pcs) by simp [hm]))).2
   have := hp.one.2
   exact ⟨k1, by show (n : Int) < d.P.m.l; rw [hml]; omega, k2⟩
 · rintro e w' ⟨hb, v, rfl, hg⟩
   rw [h6] at hg
   rw [gets_put List.Pairwise.nil h4 h5 hg]
   exact ⟨rfl, h'.below hb⟩
def AC (u t b gg cap : Nat) (W : World) : Prop := W.cell? ⟨u, 1, none⟩ = some (.pointer (some ⟨b, 0, none⟩)) ∧ W.cell? ⟨u, 2, none⟩ = some (.pointer (some ⟨t, 0, none⟩)) ∧ W.cell? ⟨u, 3, none⟩ = some (.slice (some ⟨gg, 0, none⟩) 1 cap) ∧ u < W.heap.size
theorem AC.of {g t b gg cap u : Nat} {next : Value} {W : World} (h : Bk W u 33 (lwCells g b (.pointer (some ⟨t, 0, none⟩)) (.slice (some ⟨gg, 0, none⟩) 1 cap) (.slice none 0 0) next false)) : AC u t b gg cap W := ⟨h.cell 1, h.cell 2, h.cell 3, h.lt⟩
theorem A3.ac {w0 : World} {u t b sp gg cap : Nat} {W : World} (h : A3 w0 u t b sp gg cap W) : AC u t b gg cap W := by
 obtain ⟨E, S, σ, k, y, tr, next', rfl, rfl, h1, h2, h3, h4, h5, h6, h7, h8⟩ := h
 exact AC.of h7
theorem AQ.ac {w0 : World} {u t b sp gg cap i : Nat} {W : World} (h : AQ w0 u t b sp gg cap i W) : AC u t b gg cap W := by
 obtain ⟨K, S, G, σ, pages, l, ch, y, next', rfl, rfl, h1, h2, h3, h4, h5, h6, h7, h8, h9, h10⟩ := h
 exact AC.of h9
theorem A5.ac {w0 : World} {u t b sp gg cap : Nat} {W : World} (h : A5 w0 u t b sp gg cap W) : AC u t b gg cap W := by
 obtain ⟨d, Sd, D, σ, G, pages, y, next', rfl, h2, h3, h4, h5, h6, h7, h8, h9⟩ := h
 exact AC.of h8
theorem A6.ac {w0 : World} {u t b sp gg cap sp2 : Nat} {W : World} (h : A6 w0 u t b sp gg cap sp2 W) : AC u t b gg cap W ∧ W.cell? ⟨gg, 0, none⟩ = some (.pointer (some ⟨sp, 0, none⟩)) ∧ gg < W.heap.size ∧ W.cell? ⟨gg, 1, none⟩ = some (.slice none 0 0) := by
 obtain ⟨d, Sd, D, σ, G, pages, y, next', rfl, h2, h3, h4, h5, h6, h7, h8, h9⟩ := h
 exact ⟨AC.of h8, h9.reader.1, h9.glt, h9.reader.2⟩
end Go.Proofs.YtjbcbnemdhbhbaaGreatDoor

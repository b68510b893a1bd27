import Derived.Test.YtjbcbnemdhbhbaaGreatDoorG38
import Derived.Test.YtjbcbnemdhbhbaaGreatDoorG35
import Derived.Test.YtjbcbnemdhbhbaaGreatDoorG39
namespace Go.Proofs.YtjbcbnemdhbhbaaGreatDoor
open Go.RowKit
set_option maxRecDepth 100000
set_option linter.unusedVariables false
set_option linter.unusedSimpArgs false
theorem KvMem.rehand {E : Kv} {w : World} {S hd hd' : List Nat} {x : Tx} {f dm nn : Nat} {Sf : List Nat} {lv fv : Value} (h : KvMem E w S hd x f dm nn Sf lv fv) (hp : hd.Perm hd') : KvMem E w S hd' x f dm nn Sf lv fv :=
 ⟨h.cells, h.free, h.map, h.nn, h.loose, h.freed, h.db, h.rd, h.pg, h.dev, h.row, h.ok.rehand hp, h.blocks, h.nodup, h.apart⟩
theorem FLO.tight {w : World} {f : Nat} {S : List Nat} {l : List (Nat × Nat)} (h : FLO w f S l) : ∃ S0, S0.Nodup ∧ (∀ b ∈ S0, b ∈ S) ∧ FLO w f S0 l := by
 obtain ⟨⟨A, c, h1, h2, h3⟩, h4, h5⟩ := h
 have hne := own_ne h2 h1 (by decide)
 cases A with
 | none => exact ⟨[f], by simp, fun b hb => by rw [List.mem_singleton] at hb; subst hb; exact h4, ⟨none, c, h1, h2, fun a ha => by cases ha⟩, by simp, fun b hb => by rw [List.mem_singleton] at hb; subst hb; exact h5 _ h4⟩
 | some a =>
   have h9 := (h2.row).2.2.2.2.1 a rfl
   have hab : a.block ≠ f := fun e => by
     rw [h9.1, e] at hne
     exact hne rfl
   refine ⟨[f, a.block], by simp [Ne.symm hab], fun b hb => ?_, ⟨some a, c, h1, h2, fun a' ha => by cases ha; simp⟩, by simp, fun b hb => ?_⟩
   all_goals
     simp only [List.mem_cons, List.not_mem_nil, or_false] at hb
     rcases hb with rfl | rfl
     · first | exact h4 | exact h5 _ h4
     · first | exact h3 a rfl | exact h5 _ (h3 a rfl)
theorem Forest.Ok.there {F : Forest} {σ : Book} (h : F.Ok σ) {n : Nat} (hn : n ∈ F.pages) : σ n ≠ none := by
 unfold Forest.pages at hn
 rcases List.mem_append.1 hn with hn | hn
 · exact (h.main.mem n hn).2.2
 · obtain ⟨x, -, hn⟩ := List.mem_flatMap.1 hn
   exact ((h.each x).mem n hn).2.2
theorem laid_plain {x : Tx} {limit : Nat} {D : Book} {U pc ch : List Nat} (k : x.Ok limit D U pc ch) {t : Nat} (ht : t ≤ 1099511627776) {G : Forest} {σ : Book} (hG : G.Ok σ) (hb : x.book D U = σ) {L : List (Nat × Nat)} (hL : L = Fr.addAll t x.fr (x.more pc)) (hpi : Fr.pieces L.length ≤ ch.length) :
   (Fr.pg L ++ (G.pages ++ ch)).Perm (nums x.pages) ∧ Fr.Sorted L ∧ (∀ y ∈ L, y.1 ≤ 1099511627776) ∧
   (∀ n ∈ G.pages, (layD x.dirty ch L ch.length n ≠ none ∧ σ n = layD x.dirty ch L ch.length n) ∨ (layD x.dirty ch L ch.length n = none ∧ n ∈ U ∧ σ n = D n)) ∧
   (∀ n, layD x.dirty ch L ch.length n ≠ none → n ∈ G.pages ∨ n ∈ ch) ∧
   (∀ i (hi : i < ch.length), layD x.dirty ch L ch.length ch[i] = some (layPage ch L i) ∧ (layPart L ch.length i).length ≤ 40) ∧
   (∀ n, layD x.dirty ch L ch.length n ≠ none → 1 ≤ n ∧ n < x.pages) := by
 obtain ⟨P', h1, h2, h3, h4⟩ := k.laid t ht
 rw [← hL] at h2 h3 h4
 have hnd := h2.nodup_iff.2 (nums_nodup _)
 have hP : P'.Nodup := (List.nodup_append.1 (List.nodup_append.1 hnd).2.1).1
 have hPG : P'.Perm G.pages := (List.perm_ext_iff_of_nodup hP hG.nodup).2 fun n => by
   rw [h1, hb]
   exact ⟨hG.full n, fun h => hG.there h⟩
 have hp2 : (Fr.pg L ++ (G.pages ++ ch)).Perm (nums x.pages) := (List.Perm.append_left _ (List.Perm.append_right _ hPG.symm)).trans h2
 have hnd2 := hp2.nodup_iff.2 (nums_nodup _)
 obtain ⟨-, n2, -⟩ := List.nodup_append.1 hnd2
 obtain ⟨-, n3, n4⟩ := List.nodup_append.1 n2
 have hoth : ∀ n, n ∉ ch → layD x.dirty ch L ch.length n = x.dirty n := fun n hn => layD_other _ _ _ _ _ (by rw [List.take_length]; exact hn) (Nat.le_refl _)
 refine ⟨hp2, h3, h4, fun n hn => ?_, fun n hn => ?_, fun i hi => ⟨layD_at _ _ _ n3 _ i hi (Nat.le_refl _), ?_⟩, fun n hn => ?_⟩
 · have hnc : n ∉ ch := fun hc => n4 n hn n hc rfl
   rw [hoth n hnc, ← hb]
   unfold Tx.book
   cases hd : x.dirty n with
   | some p => exact .inl (by simp)
   | none =>
     have h9 := hG.there hn
     rw [← hb] at h9
     unfold Tx.book at h9
     rw [hd] at h9
     simp only at h9 ⊢
     by_cases hc : n ∈ U ∧ n ∉ x.freed
     · rw [if_pos hc]; exact .inr ⟨trivial, hc.1, rfl⟩
     · rw [if_neg hc] at h9; exact absurd rfl h9
 · by_cases hc : n ∈ ch
   · exact .inr hc
   · rw [hoth n hc] at hn
     refine .inl (hG.full n ?_)
     rw [← hb]
     unfold Tx.book
     cases hd : x.dirty n with
     | some p => simp
     | none => exact absurd hd hn
 · have hm0 : 0 < ch.length := by omega
   rw [layPart_len L ch.length i hm0 hi]
   have := cut_few L.length i ch.length hm0 (pieces_enough hpi)
   omega
 · by_cases hc : n ∈ ch
   · exact k.range.2.2.2.2.2 n hc
   · rw [hoth n hc] at hn
     exact k.range.2.1 n hn
theorem FRow.part {w : World} {b o : Nat} {l : List (Nat × Nat)} (h : FRow w (some ⟨b, o, none⟩) l) (i n : Nat) : FRow w (some ⟨b, o + i * 2, none⟩) ((l.drop i).take n) := by
 intro j u hu
 have hl : (flatF ((l.drop i).take n)).length = ((l.drop i).take n).length * 2 := flatF_len _
 have hj : j < ((l.drop i).take n).length * 2 := by
   rw [← hl]
   by_cases hc : j < (flatF ((l.drop i).take n)).length
   · exact hc
   · rw [List.getElem?_eq_none (Nat.le_of_not_lt hc)] at hu; cases hu
 have e0 : l = l.take i ++ l.drop i := (List.take_append_drop i l).symm
 have hil : i ≤ l.length := by
   rw [List.length_take, List.length_drop] at hj
   omega
 have e1 : l.drop i = (l.drop i).take n ++ (l.drop i).drop n := (List.take_append_drop n _).symm
 have e2 : (flatF l)[i * 2 + j]? = some u := by
   rw [e0, e1, flatF_app, flatF_app]
   have h1 : (flatF (l.take i)).length = i * 2 := by rw [flatF_len, List.length_take]; omega
   rw [List.getElem?_append_right (by rw [h1]; omega), h1, show i * 2 + j - i * 2 = j by omega, List.getElem?_append_left (by rw [hl]; exact hj)]
   exact hu
 obtain ⟨b', o', hA, hb, hc⟩ := h (i * 2 + j) u e2
 injection hA with hA
 injection hA with a1 a2
 subst a1 a2
 exact ⟨b, o + i * 2, rfl, hb, by rw [Nat.add_assoc]; exact hc⟩
structure LdMem (E : Kv) (w : World) (S : List Nat) (pages : Nat) (l : List (Nat × Nat)) (d : Book) (ch : List Nat) (f dm nn : Nat) (Sf : List Nat) (lv : Value) : Prop where
 cells : Bk w E.t 103 (txCells E ⟨pages, l, d, ch, []⟩ f dm lv (.slice none 0 0))
 free : FLO w f Sf l
 map : IMap Tryz.prog 3 w dm nn (dirtyV E.txn d)
 nn : nn ≤ 600
 loose : w.ownsRow 0 3 1 lv ch.length (ints ch)
 db : Bk w E.b 99 #[.pointer (some ⟨E.q, 0, none⟩), .pointer (some ⟨E.r, 0, none⟩), E.c2, E.c3, E.c4]
 rd : Bk w E.r 195 E.s.cells
 pg : Pg w E.q E.T E.g E.P
 dev : Dev w E.g E.Sd E.D
 row : RowIs E.ro w
 blocks : S = txMut E.t f dm Sf lv (.slice none 0 0) ++ E.still
 nodup : (txMut E.t f dm Sf lv (.slice none 0 0)).Nodup
 apart : ∀ b ∈ txMut E.t f dm Sf lv (.slice none 0 0), b ∉ E.still
def lenOf : Value → Nat
 | .slice _ n _ => n
 | _ => 0
structure Chained (E : Kv) (F : Prop) (σ : Book) (w1 : World) (S1 : List Nat) (k1 : Nat) (wr : World) (ch : List Nat) (A : Option Addr) (c f2 : Nat) (x : Tx) (f dm nn : Nat) (Sf : List Nat) (lv fv : Value) (S' S2 : List Nat) : Prop where
 mem : KvMem E wr S' ch x f dm nn Sf lv fv
 book : x.book E.disk E.U = σ
 room : Room E F (k1 - ch.length) x
 keep : ∀ n ∈ ch, n ∉ E.keep
 off : Off S1 w1 wr
 fresh : Fresh w1 S1 S'
 row : wr.ownsRow w1.heap.size 3 1 (.slice A ch.length c) ch.length (ints ch)
 rowS : ∀ g, Value.ownBlock (.slice A ch.length c) = some g → g ∉ S' ∧ g ∉ S2
 list : FLO wr f2 S2 (Fr.addAll E.txn x.fr (x.more E.pc))
 new : ∀ b ∈ S2, w1.heap.size ≤ b ∧ b ∉ S'
structure Laid (E : Kv) (F : Prop) (S : List Nat) (Fo : Forest) (w w' : World) (G : Forest) (σ' : Book) (pages : Nat) (l : List (Nat × Nat)) (d : Book) (ch : List Nat) (f dm nn : Nat) (Sf : List Nat) (lv : Value) (S' : List Nat) : Prop where
 tr : G.tr = Fo.tr
 NS : G.NS = Fo.NS
 R : ∀ n, G.R n = none
 ok : G.Ok σ'
 mem : LdMem { E with root := G.main.root, fre := (ch.headD 0 : Nat) } w' S' pages l d ch f dm nn Sf lv
 off : Off S w w'
 fresh : Fresh w S S'
 le : 1 ≤ pages ∧ pages ≤ E.limit
 perm : (Fr.pg l ++ (G.pages ++ ch)).Perm (nums pages)
 sorted : Fr.Sorted l
 txns : ∀ y ∈ l, y.1 ≤ 1099511627776
 tree : ∀ n ∈ G.pages, (d n ≠ none ∧ σ' n = d n) ∨ (d n = none ∧ n ∈ E.U ∧ σ' n = E.disk n)
 dirty : ∀ n, d n ≠ none → n ∈ G.pages ∨ n ∈ ch
 chain : ∀ i (hi : i < ch.length), d ch[i] = some (layPage ch l i) ∧ (layPart l ch.length i).length ≤ 40
 range : ∀ n, d n ≠ none → 1 ≤ n ∧ n < pages
 stamps : ∀ y ∈ l, y.1 ≤ E.txn
 keepd : ∀ n, d n ≠ none → n ∉ E.keep
 room : F ∨ E.base ≤ (l.filter fun y => decide (y.1 < E.txn)).length + (E.limit - pages)
 few : ch.length ≤ Fr.pieces E.limit
def LayWay (E : Kv) (F : Prop) (S : List Nat) (Fo : Forest) (w : World) (e : Ending) (w' : World) : Prop :=
 (e = .returned (.int .i64 0) ∧ ∃ G σ' pages l d ch f dm nn Sf lv S', Laid E F S Fo w w' G σ' pages l d ch f dm nn Sf lv S')
 ∨ (F ∧ e = .returned (.int .i64 9) ∧ ∃ (r : Int) (hd S' : List Nat) (x : Tx) (f dm nn : Nat) (Sf : List Nat) (lv fv : Value), KvMem { E with root := r } w' S' hd x f dm nn Sf lv fv ∧ Off S w w' ∧ Fresh w S S')
set_option maxHeartbeats 32000000 in
theorem tlay_any {E : Kv} (hE : E.Ok) {F : Prop} {w : World} {S : List Nat} {σ : Book} {k nr : Nat} {Fo : Forest} (h : Wr E F w S σ k Fo nr) (hnr : nr ≤ 1000000) (hnz : ∀ n r, Fo.R n = some r → r ≠ 0) (hpv : w.ownsRow 0 3 1 E.c3 E.pc.length (ints E.pc)) (hpS : ∀ g, E.c3.ownBlock = some g → g ∉ S)
   (hk : F ∨ Fo.NS.length * Tr.need (Fo.main.L.length + Fo.NS.length) + Fr.pieces E.limit ≤ k) :
   Calls Tryz.prog 50 #[.pointer (some ⟨E.t, 0, none⟩)] w (LayWay E F S Fo w) := by
 have HN := Lib.hid (names_any hE h hnr hnz (hk.imp id (fun _ => by omega)))
 have HE := Lib.hid hE
 have HPV := Lib.hid hpv
 have HPS := Lib.hid hpS
 have HKK := Lib.hid hk
 have HS := Lib.hid ((kv_serves hE F).old h.at_)
 obtain ⟨i0, hi, iz0, iz1, iz2⟩ := info_parts info_int
 clear h hnz hpv hpS hk hE
 go_enter Tryz.func50, Tryz.ntmps50
 go_wp2_with fail
 refine HN.out.mono ?_
 rintro e w1 (⟨rfl, G, σ1, S1, k1, g1, g2, g3, g4, hat, hk1, hof1, hfr1⟩ | ⟨hF, rfl, r, σ1, S1, hat, hof1, hfr1⟩)
 · obtain ⟨x, f, dm, nn, Sf, lv, fv, hm, hσ, hkx⟩ := hat
   obtain ⟨E1, hE1e⟩ : ∃ E1 : Kv, E1 = { E with root := (G.main.root : Nat) } := ⟨_, rfl⟩
   have hE1 : E1.Ok := by rw [hE1e]; exact HE.out.rooted _
   have hEt : E1.t = E.t := by rw [hE1e]
   have hEpc : E1.pc = E.pc := by rw [hE1e]
   have hEl : E1.limit = E.limit := by rw [hE1e]
   have hc3 : E1.c3 = E.c3 := by rw [hE1e]
   have hσ' : x.book E1.disk E1.U = σ1 := by rw [hE1e]; exact hσ.symm
   have hkx' : Room E1 F k1 x := by rw [hE1e]; exact hkx.other ⟨rfl, rfl, rfl, rfl, rfl⟩
   have hm' : KvMem E1 w1 S1 [] x f dm nn Sf lv fv := by rw [hE1e]; exact hm
   have hpv1 : ∀ W, Off S w W → W.ownsRow 0 3 1 E1.c3 E1.pc.length (ints E1.pc) := fun W hW => by
     rw [hc3, hEpc]
     exact hW.own HPV.out (fun g hg => HPS.out g hg)
   have HPV1 := Lib.hid hpv1
   have HE1 := Lib.hid hE1
   have hkp : F ∨ Fr.pieces E1.limit ≤ k1 := HKK.out.imp id (fun h9 => by rw [hEl]; omega)
   have HKP := Lib.hid hkp
   have HSP := Lib.hid (show Calls Tryz.prog 110 #[.pointer (some ⟨E.t, 0, none⟩), .slice none 0 0] w1 (SparePost (Fr.addAll E1.txn x.fr (x.more E1.pc)) w1) from by
     have := spare_any (A := none) (c := 0) hE1 hm' (hpv1 w1 hof1) (Sl.nil _ none)
     rw [hEt] at this
     exact this)
   have HG := Lib.hid (show G.tr = Fo.tr ∧ G.NS = Fo.NS ∧ (∀ n, G.R n = none) ∧ G.Ok σ1 from ⟨g1, g2, g3, g4⟩)
   have HM := Lib.hid (show KvMem E1 w1 S1 [] x f dm nn Sf lv fv ∧ x.book E1.disk E1.U = σ1 ∧ Room E1 F k1 x from ⟨hm', hσ', hkx'⟩)
   have HO1 := Lib.hid (show Off S w w1 ∧ Fresh w S S1 from ⟨hof1, hfr1⟩)
   have HE1E := Lib.hid (show E1 = { E with root := (G.main.root : Nat) } ∧ E1.t = E.t from ⟨hE1e, hEt⟩)
   clear hm hσ hkx hE1e hE1 hEt hEpc hEl hc3 hσ' hkx' hm' hpv1 hkp g1 g2 g3 g4 hk1 hof1 hfr1
   go_wp2_with fail
   refine HSP.out.mono ?_
   rintro e w2 ⟨f2, S2, rfl, hfl2, hb2, hnew2⟩
   have h0 : Hid (∃ x f dm nn Sf lv fv S' S2, Chained E1 F σ1 w1 S1 k1 w2 [] none 0 f2 x f dm nn Sf lv fv S' S2) := by
     obtain ⟨m1, m2, m3⟩ := HM.out
     exact ⟨x, f, dm, nn, Sf, lv, fv, S1, S2, m1.off (Off.of_below hb2 []) (by simp), m2, by simpa using m3, (fun n hn => by cases hn), Off.of_below hb2 S1, Fresh.refl _ _, World.ownsRow_nil _ _ _ _, (fun g hg => by cases hg), hfl2, fun b hb => ⟨hnew2 b hb, fun hs => by have := hnew2 b hb; have := m1.old b hs; omega⟩⟩
   clear hfl2 hb2 hnew2
   go_wp2_with fail
   go_loopw [4, 5, 6] (fun cv l5 ev wr => ∃ (ch : List Nat) (A : Option Addr) (c f2 : Nat), cv = .slice A ch.length c ∧ l5 = .pointer (some ⟨f2, 0, none⟩) ∧ ev = .int .i64 0 ∧ ch.length ≤ 13 ∧ Hid (ch.length ≤ Fr.pieces E1.limit) ∧ Hid (∃ x f dm nn Sf lv fv S' S2, Chained E1 F σ1 w1 S1 k1 wr ch A c f2 x f dm nn Sf lv fv S' S2)) (fun cv _ _ _ => 14 - lenOf cv)
   case atStart => exact ⟨[], none, 0, f2, rfl, rfl, rfl, by simp, Lib.hid (Nat.zero_le _), h0⟩
   case round =>
     obtain ⟨ch, A, c, f3, rfl, rfl, rfl, hch, hFW, hI⟩ := hrel
     obtain ⟨x, f, dm, nn, Sf, lv, fv, S', S3, hC⟩ := hI.out
     obtain ⟨-, -, hlen⟩ := hC.mem.ok.spare
     have hLl : (Fr.addAll E1.txn x.fr (x.more E1.pc)).length = x.fr.length + (x.more E1.pc).length := (Fr.addAll_ok hC.mem.ok.sorted hC.mem.ok.spare.1).2.2
     have hle := hC.mem.ok.le
     have hlim := hC.mem.ok.lim
     have HCT := Lib.hid (fcount_any hC.list.fl)
     have HPI := Lib.hid (fpieces_any (Fr.addAll E1.txn x.fr (x.more E1.pc)).length wr (by omega))
     obtain ⟨p, hp⟩ : ∃ p, p = Fr.pieces (Fr.addAll E1.txn x.fr (x.more E1.pc)).length := ⟨_, rfl⟩
     have hp13 : p ≤ 13 := by rw [hp]; exact pieces_13 (by omega)
     have hplim : p ≤ Fr.pieces E1.limit := by rw [hp]; exact pieces_mono (by omega)
     rw [← hp] at HPI
     obtain ⟨m, hm9⟩ : ∃ m, m = ch.length := ⟨_, rfl⟩
     have HC := Lib.hid hC
     have HP := Lib.hid hp
     have HM9 := Lib.hid hm9
     rw [← hm9] at hch ⊢
     obtain ⟨ln, hln⟩ : ∃ ln, ln = (Fr.addAll E1.txn x.fr (x.more E1.pc)).length := ⟨_, rfl⟩
     have HLN := Lib.hid hln
     rw [← hln] at HCT HPI
     by_cases hlt : m < p
     · have z1 : decide ((m : Int) < (p : Int)) = true := decide_eq_true (by omega)
       have HPG := Lib.hid (show Calls Tryz.prog 113 #[.pointer (some ⟨E.t, 0, none⟩)] wr (PagePost2 E1 S' ch x wr) from by rw [← HE1E.out.2]; exact page_any HE1.out hC.mem)
       clear hC hI hlen hLl hle hlim hp hm9 hln h0
       go_wp2_with fail
       refine HCT.out.mono ?_
       rintro e w9 ⟨rfl, rfl⟩
       go_wp2_with fail
       refine HPI.out.mono ?_
       rintro e w9 ⟨rfl, rfl⟩
       go_wp2_with fail
       refine HPG.out.mono ?_
       rintro e w3 (⟨n, x', rfl, htk, S4, f4, dm4, nn4, Sf4, lv4, fv4, hm4, ho4, hf4⟩ | ⟨rfl, hs0, S4, f4, dm4, nn4, Sf4, lv4, fv4, hm4, ho4, hf4⟩)
       · have hb4 : ∀ g, Value.ownBlock (.slice A m c) = some g → g ∉ S4 ∧ g < w3.heap.size ∧ w1.heap.size ≤ g := fun g hg => by
           rw [HM9.out] at hg
           obtain ⟨r1, r2⟩ := HC.out.rowS g hg
           obtain ⟨r3, r4⟩ := World.ownsRow.lt HC.out.row g hg
           refine ⟨fun hs => ?_, Nat.lt_of_lt_of_le r4 ho4.size, r3⟩
           rcases hf4 g hs with h9 | h9
           · exact r1 h9
           · omega
         have hrow4 : w3.ownsRow w1.heap.size 3 1 (.slice A m c) m (ints ch) := by
           rw [HM9.out]
           exact ho4.own HC.out.row (fun g hg => (HC.out.rowS g hg).1)
         have HB4 := Lib.hid hb4
         have HROW := Lib.hid hrow4
         have HM4 := Lib.hid hm4
         have HX := Lib.hid (show Tx.Takes E1.limit E1.upto.toNat x n x' ∧ Off S' wr w3 ∧ Fresh wr S' S4 from ⟨htk, ho4, hf4⟩)
         have HTK := Lib.hid (HC.out.room.take htk (HKP.out.imp id (fun h9 => by have := HM9.out; omega)))
         have hsz3 : w1.heap.size ≤ w3.heap.size := Nat.le_trans HC.out.off.size ho4.size
         have HSL1 := Lib.hid (show Sl (w3.alloc (.cells #[.int .i64 n] 3)) (some ⟨w3.heap.size, 0, none⟩) (ints [n]) from fun j u hu => by
           cases j with
           | zero =>
             simp [ints] at hu
             subst hu
             exact ⟨w3.heap.size, 0, rfl, by simp, (Bk.new w3 3 #[.int .i64 n]).cell 0⟩
           | succ j => simp [ints] at hu)
         clear hb4 hrow4 hm4 htk ho4 hf4
         go_wp2_with (first
           | (at_builtin; refine wpList_append_sl _ rfl (.tmp 46) (.tmp 48) 51 rfl w1.heap.size 3 i0 (.int .i64 0) 8 Tryz.underlying51 hi iz0 iz1 iz2 rfl (.slice A m c) m (ints ch) rfl (World.ownsRow.alloc HROW.out _) (some ⟨w3.heap.size, 0, none⟩) 1 1 (ints [n]) rfl rfl HSL1.out (ints_one [n]) (by unfold maxLen; omega) (by omega) (by simp; omega) ?_; intro v4 w4 hown4 hgrow4 hiff4)
           | fail)
         have hwo : Off ((Value.ownBlock (.slice A m c)).toList) w3 w4 := ((Off.refl _ w3).alloc _).grown hgrow4 (fun g hg => .inl (by rw [hg]; simp))
         have hm5 : KvMem E1 w4 S4 (n :: ch) x' f4 dm4 nn4 Sf4 lv4 fv4 := HM4.out.off hwo (fun b hb hs => by
           rw [Option.mem_toList] at hs
           exact (HB4.out b hs).1 hb)
         have hof5 : Off S1 w1 w4 := (HC.out.off.then HX.out.2.1 HC.out.fresh).then hwo (fun g hg => by
           rw [Option.mem_toList] at hg
           exact .inr (HB4.out g hg).2.2)
         have hfr5 : Fresh w1 S1 S4 := HC.out.fresh.trans HX.out.2.2 HC.out.off.size
         obtain ⟨A5, c5, rfl, -, -⟩ := own_formK hown4
         have hrow5 : w4.ownsRow w1.heap.size 3 1 (.slice A5 (ch ++ [n]).length c5) (ch ++ [n]).length (ints (ch ++ [n])) := by
           rw [List.length_append, ints_app, ← HM9.out]
           exact hown4
         have hrS5 : ∀ g, Value.ownBlock (.slice A5 (ch ++ [n]).length c5) = some g → g ∉ S4 ∧ g < w4.heap.size := fun g hg => by
           refine ⟨fun hs => ?_, (World.ownsRow.lt hrow5 g hg).2⟩
           have hg' : Value.ownBlock (.slice A5 (m + 1) c5) = some g := by
             rw [List.length_append, ← HM9.out] at hg
             exact hg
           rcases hiff4 with h9 | h9
           · rw [h9] at hg'
             exact (HB4.out g hg').1 hs
           · rw [h9] at hg'
             injection hg' with hg'
             have h8 := HM4.out.old g hs
             simp at hg'
             omega
         have HSP5 := Lib.hid (show Calls Tryz.prog 110 #[.pointer (some ⟨E.t, 0, none⟩), .slice A5 (m + 1) c5] w4 (SparePost (Fr.addAll E1.txn x'.fr (x'.more E1.pc)) w4) from by
           have h9 := spare_any (A := A5) (c := c5) HE1.out (hm5.rehand (List.perm_append_singleton n ch).symm) (HPV1.out w4 (HO1.out.1.then hof5 HO1.out.2)) (Sl.of_own hrow5)
           rw [HE1E.out.2, List.length_append, ← HM9.out] at h9
           exact h9)
         have HI5 := Lib.hid (show ∀ (f5 : Nat) (S5 : List Nat) (w5 : World), FLO w5 f5 S5 (Fr.addAll E1.txn x'.fr (x'.more E1.pc)) → Below w4.heap.size w4 w5 → (∀ b ∈ S5, w4.heap.size ≤ b) → Chained E1 F σ1 w1 S1 k1 w5 (ch ++ [n]) A5 c5 f5 x' f4 dm4 nn4 Sf4 lv4 fv4 S4 S5 from fun f5 S5 w5 hl5 hb5 hn5 =>
           ⟨(hm5.rehand (List.perm_append_singleton n ch).symm).off (Off.of_below hb5 []) (by simp), by rw [HX.out.1.book]; exact HC.out.book, by
             rw [List.length_append, List.length_singleton, Nat.sub_add_eq]
             exact HTK.out.1, (fun b hb => by
             rcases List.mem_append.1 hb with hb | hb
             · exact HC.out.keep b hb
             · rw [List.mem_singleton] at hb
               subst hb
               exact HTK.out.2), hof5.trans (Off.of_below hb5 S1), hfr5, (Off.of_below hb5 []).own hrow5 (by simp), fun g hg => ⟨(hrS5 g hg).1, fun hs => by have := hn5 g hs; have := (hrS5 g hg).2; omega⟩, hl5, fun b hb => ⟨by have := hn5 b hb; have := hof5.size; omega, fun hs => by have := hn5 b hb; have := hm5.old b hs; omega⟩⟩)
         clear hwo hm5 hof5 hfr5 hrow5 hrS5 hown4 hgrow4 hiff4
         go_wp2_with fail
         refine HSP5.out.mono ?_
         rintro e w5 ⟨f5, S5, rfl, hl5, hb5, hn5⟩
         have HI6 := Lib.hid (show ∃ x f dm nn Sf lv fv S' S2, Chained E1 F σ1 w1 S1 k1 w5 (ch ++ [n]) A5 c5 f5 x f dm nn Sf lv fv S' S2 from ⟨_, _, _, _, _, _, _, _, _, HI5.out f5 S5 w5 hl5 hb5 hn5⟩)
         have hlm : (ch ++ [n]).length = m + 1 := by rw [List.length_append, ← HM9.out]; rfl
         clear hl5 hb5 hn5
         go_wp2_with fail
         go_roundw
         case rel => first | exact ⟨ch ++ [n], A5, c5, f5, by rw [hlm], rfl, rfl, by omega, Lib.hid (by rw [hlm]; omega), HI6⟩ | ((repeat apply Exists.intro); exact ⟨⟨ch ++ [n], A5, c5, f5, by rw [hlm], rfl, rfl, by omega, Lib.hid (by rw [hlm]; omega), HI6⟩, rfl⟩)
         case measure => simp [lenOf]; omega
       · have hF : F := by
           rcases HKP.out with h9 | h9
           · exact h9
           · have h1 := HC.out.room.sure
             have h2 := HM9.out
             omega
         have HE9 := Lib.hid (show LayWay E F S Fo w (.returned (.int .i64 9)) w3 from .inr ⟨hF, rfl, (G.main.root : Nat), ch, S4, x, f4, dm4, nn4, Sf4, lv4, fv4, by rw [← HE1E.out.1]; exact hm4, HO1.out.1.then (HC.out.off.then ho4 HC.out.fresh) HO1.out.2, (HO1.out.2.trans HC.out.fresh HO1.out.1.size).trans hf4 (Nat.le_trans HO1.out.1.size HC.out.off.size)⟩)
         clear hm4 ho4 hf4
         go_wp2_with fail
         go_ret
         exact HE9.out
     · have z1 : decide ((m : Int) < (p : Int)) = false := decide_eq_false (by omega)
       have HALL := Lib.hid (fall_any hC.list.fl (by omega))
       have HPM := Lib.hid (show Fr.pieces (Fr.addAll E1.txn x.fr (x.more E1.pc)).length ≤ ch.length from by rw [← HP.out, ← HM9.out]; omega)
       have hlnb : ln ≤ 512 := by rw [HLN.out]; omega
       obtain ⟨L, hLe⟩ : ∃ L, L = Fr.addAll E1.txn x.fr (x.more E1.pc) := ⟨_, rfl⟩
       have HLE := Lib.hid hLe
       rw [← hLe] at HPM HLN HALL
       have hsl : Sl wr A (ints ch) := Sl.of_own hC.row
       have hAS : ∀ a, A = some a → a.block ∉ S' := fun a ha => by
         obtain ⟨A', c', hv, -, -, -, -, hbl⟩ := own_slice hC.row
         injection hv with hv1 hv2 hv3
         subst hv1 hv3
         exact (hC.rowS _ (hbl a ha).2).1
       have hcm9 : c ≤ 9223372036854775807 := by
         obtain ⟨A', c', hv, -, hcm, -⟩ := own_slice hC.row
         injection hv with hv1 hv2 hv3
         subst hv3
         unfold maxLen at hcm
         omega
       have HSL := Lib.hid hsl
       have HAS := Lib.hid hAS
       clear hC hI hlen hLl hle hlim hp hm9 hln h0 hLe hsl hAS HPI
       have HPI2 := Lib.hid (show ∀ W : World, Calls Tryz.prog 111 #[.int .i64 ln] W (fun e w' => e = .returned (.int .i64 p) ∧ W = w') from fun W => by rw [HP.out]; have := fpieces_any ln W (by omega); rw [HLN.out] at this ⊢; rw [← HLE.out]; exact this)
       go_wp2_with fail
       refine HCT.out.mono ?_
       rintro e w9 ⟨rfl, rfl⟩
       go_wp2_with fail
       refine (HPI2.out _).mono ?_
       rintro e w9 ⟨rfl, rfl⟩
       go_wp2_with fail
       refine HALL.out.mono ?_
       rintro e w5 ⟨hb5, Aa, ca, rfl, hown5⟩
       obtain ⟨r1, r2, r3, r4, r5, r6⟩ := hown5.row
       have HB5 := Lib.hid hb5
       have HRA := Lib.hid r1
       have hca : ca ≤ 9223372036854775807 := by unfold maxLen at r4; omega
       rw [← HLN.out] at r3 ⊢
       have HAA := Lib.hid (show ∀ a, Aa = some a → a = ⟨a.block, 0, none⟩ ∧ wr.heap.size ≤ a.block from fun a ha => ⟨(r5 a ha).1, (r5 a ha).2.1⟩)
       have HAN := Lib.hid r6
       have h50 : Hid (∃ nn', nn' ≤ 600 ∧ KvMem E1 w5 S' (ch.drop 0) { x with dirty := layD x.dirty ch L 0 } f dm nn' Sf lv fv ∧ Off [dm] w5 w5) := ⟨nn, HC.out.mem.nn, HC.out.mem.off (Off.of_below hb5 []) (by simp), Off.refl _ _⟩
       clear hb5 hown5 r1 r2 r4 r5 r6
       go_wp2_with fail
       go_loopw [63] (fun i wr => ∃ j : Nat, i = .int .i64 j ∧ j ≤ m ∧ Hid (∃ nn', nn' ≤ 600 ∧ KvMem E1 wr S' (ch.drop j) { x with dirty := layD x.dirty ch L j } f dm nn' Sf lv fv ∧ Off [dm] w5 wr)) (fun i _ => m - (intOf i).toNat)
       case atStart => exact ⟨0, rfl, Nat.zero_le _, h50⟩
       case round =>
         obtain ⟨j, rfl, hj, hI⟩ := hrel
         obtain ⟨n9, hn9, hq, hoq⟩ := hI.out
         by_cases hjm : j < m
         · have z2 : decide ((j : Int) < (m : Int)) = true := decide_eq_true (by omega)
           have hdmS : dm ∈ S' := by rw [HC.out.mem.blocks]; simp [txMut]
           have hslq : Sl wr A (ints ch) := (HSL.out.below HB5.out).off hoq (fun a ha hs => by
             rw [List.mem_singleton] at hs
             exact HAS.out a ha (by rw [hs]; exact hdmS))
           have hjc : j < ch.length := by rw [← HM9.out]; exact hjm
           obtain ⟨cb, co, rfl, hcb, hcell⟩ := ints_at hslq j hjc
           obtain ⟨n, hn⟩ : ∃ n, n = ch[j] := ⟨_, rfl⟩
           rw [← hn] at hcell
           obtain ⟨nx, hnx⟩ : ∃ nx, nx = ch.getD (j + 1) 0 := ⟨_, rfl⟩
           have hnx512 : nx < 512 := by
             rw [hnx]
             by_cases h9 : j + 1 < ch.length
             · rw [List.getD_eq_getElem?_getD, List.getElem?_eq_getElem h9]
               have h8 := HC.out.mem.ok.range.2.2.2.2.2 ch[j + 1] (List.getElem_mem h9)
               have h7 := HC.out.mem.ok.le
               have h6 := HC.out.mem.ok.lim
               show ch[j + 1] < 512
               omega
             · rw [List.getD_eq_getElem?_getD, List.getElem?_eq_none (by omega)]
               show 0 < 512
               omega
           have hnext : (decide ((j : Int) + 1 < (m : Int)) = true ∧ j + 1 < m ∧ wr.cell? ⟨cb, co + (j + 1), none⟩ = some (.int .i64 nx)) ∨ (decide ((j : Int) + 1 < (m : Int)) = false ∧ (nx : Int) = 0) := by
             by_cases h9 : j + 1 < ch.length
             · obtain ⟨cb', co', hA', -, hcell'⟩ := ints_at hslq (j + 1) h9
               injection hA' with hA'
               injection hA' with e1 e2
               subst e1 e2
               refine .inl ⟨decide_eq_true (by have := HM9.out; omega), by have := HM9.out; omega, ?_⟩
               rw [hcell', hnx, List.getD_eq_getElem?_getD, List.getElem?_eq_getElem h9]
               rfl
             · refine .inr ⟨decide_eq_false (by have := HM9.out; omega), ?_⟩
               rw [hnx, List.getD_eq_getElem?_getD, List.getElem?_eq_none (by omega)]
               rfl
           have hm0 : 0 < m := by omega
           obtain ⟨a, ha⟩ : ∃ a, a = ln * j := ⟨_, rfl⟩
           obtain ⟨b, hb⟩ : ∃ b, b = ln * (j + 1) := ⟨_, rfl⟩
           have hab : a ≤ 10000 := by
             rw [ha]
             have := Nat.mul_le_mul hlnb (show j ≤ 13 by omega)
             omega
           have hbb : b ≤ 10000 := by
             rw [hb]
             have := Nat.mul_le_mul hlnb (show j + 1 ≤ 13 by omega)
             omega
           have p1 : (ln : Int) * (j : Int) = (a : Int) := by rw [ha]; push_cast; rfl
           have p2 : (ln : Int) * ((j : Int) + 1) = (b : Int) := by rw [hb]; push_cast; rfl
           obtain ⟨fm, hfm⟩ : ∃ fm, fm = a / m := ⟨_, rfl⟩
           obtain ⟨tt, htt⟩ : ∃ tt, tt = b / m := ⟨_, rfl⟩
           have d1 : (a : Int).tdiv (m : Int) = (fm : Int) := by rw [hfm]; exact (Int.ofNat_tdiv a m).symm
           have d2 : (b : Int).tdiv (m : Int) = (tt : Int) := by rw [htt]; exact (Int.ofNat_tdiv b m).symm
           have hft : fm ≤ tt := by rw [hfm, htt, ha, hb]; exact cut_le ln j m hm0
           have htl : tt ≤ ln := by rw [htt, hb]; exact cut_end ln j m hm0 hjm
           have w1' : IntKind.i64.wrap (a : Int) = a := by rw [IntKind.wrap_i64]; omega
           have w2' : IntKind.i64.wrap (b : Int) = b := by rw [IntKind.wrap_i64]; omega
           have w3' : IntKind.i64.wrap (fm : Int) = fm := by rw [IntKind.wrap_i64]; omega
           have w4' : IntKind.i64.wrap (tt : Int) = tt := by rw [IntKind.wrap_i64]; omega
           have hm9 : ¬ (m : Int) = 0 := by omega
           have z3 : ((m : Int) == 0) = false := by rw [beq_eq_false_iff_ne]; exact hm9
           have z4 : (m == 0) = false := by rw [beq_eq_false_iff_ne]; omega
           have htc : tt ≤ ca := by omega
           have b1 : (0 : Int) ≤ (fm : Int) := by omega
           have b2 : (fm : Int) ≤ (tt : Int) := by omega
           have b3 : (tt : Int) ≤ (ca : Int) := by omega
           have hmc : m = ch.length := HM9.out
           obtain ⟨pt, hpt⟩ : ∃ pt, pt = layPart L m j := ⟨_, rfl⟩
           have hptl : pt.length = tt - fm := by
             rw [hpt, layPart_len L m j hm0 hjm, ← HLN.out, ← ha, ← hb, ← hfm, ← htt]
           have hptd : pt = (L.drop fm).take (tt - fm) := by
             rw [hpt]
             unfold layPart
             rw [← HLN.out, ← ha, ← hb, ← hfm, ← htt]
           have hpt40 : pt.length ≤ 40 := by
             rw [hptl, hfm, htt, ha, hb]
             have := cut_few ln j m hm0 (by
               have := pieces_enough HPM.out
               rw [← HLN.out, ← hmc] at this
               exact this)
             omega
           have hsub : pt.Sublist L := by rw [hpt]; exact layPart_sub L m j
           obtain ⟨k1', k2', k3', -⟩ := (show Fr.Sorted L ∧ (Fr.pg L).Nodup ∧ (∀ y ∈ L, Fr.ok y = true) ∧ True from by
             obtain ⟨P', h1, h2, h3, h4⟩ := HC.out.mem.ok.laid E1.txn HE1.out.txn2
             rw [← HLE.out] at h2 h3 h4
             have hnd := (List.nodup_append.1 (h2.nodup_iff.2 (nums_nodup _))).1
             refine ⟨h3, hnd, fun y hy => ?_, trivial⟩
             have h5 := nums_mem.1 (h2.mem_iff.1 (List.mem_append.2 (.inl (List.mem_map.2 ⟨y, hy, rfl⟩))))
             have h6 := h4 y hy
             have h7 := HC.out.mem.ok.le
             have h8 := HC.out.mem.ok.lim
             unfold Fr.ok
             simp
             omega)
           have hfr0 : ∀ W : World, tt = fm → FRow W Aa pt := fun W he jj u hu => by
             have : pt = [] := List.eq_nil_of_length_eq_zero (by rw [hptl]; omega)
             rw [this] at hu
             simp [flatF] at hu
           have hraq : FRow wr Aa L := HRA.out.off hoq (fun a' ha' hs => by
             rw [List.mem_singleton] at hs
             have h1 := (HAA.out a' ha').2
             have h2 := HC.out.mem.old dm hdmS
             omega)
           have hfr1 : ∀ W : World, Below wr.heap.size wr W → FRow W (Option.map (fun x => x.add (fm * 2)) Aa) pt := fun W hW => by
             cases hAa : Aa with
             | none =>
               have h1 := HAN.out hAa
               have h2 := hfr0 W (by omega)
               rw [hAa] at h2
               exact h2
             | some a' =>
               obtain ⟨h1, -⟩ := HAA.out a' hAa
               rw [hAa, h1] at hraq
               have h2 := (hraq.below hW).part fm (tt - fm)
               rw [← hptd] at h2
               rw [h1]
               show FRow W (some ((⟨a'.block, 0, none⟩ : Addr).add (fm * 2))) pt
               rw [addr_add]
               exact h2
           obtain ⟨sp, hsp⟩ : ∃ sp : ByteArray, sp = ⟨(Fr.bytes nx pt).toArray⟩ := ⟨_, rfl⟩
           have henc : ∀ (W : World) (A' : Option Addr) (c' : Nat), FRow W A' pt → Calls Tryz.prog 114 #[.int .i64 (nx : Int), .slice A' (tt - fm) c'] W (fun e w' => e = .returned (.tuple #[.string sp, .int .i64 0]) ∧ Below W.heap.size W w') := fun W A' c' hA' => by
             rw [← hptl]
             refine (fencode_any (c := c') nx hA' (List.Pairwise.sublist hsub k1') (fun y hy => k3' y (hsub.subset hy)) (List.Nodup.sublist (hsub.map _) k2') hpt40 hnx512).mono ?_
             rintro e w' ⟨⟨s9, rfl, hs9⟩, hb9⟩
             have : s9 = sp := by
               rw [hsp, ← hs9]
             rw [this]
             exact ⟨rfl, hb9⟩
           have hlay : layPage ch L j = ⟨4, sp⟩ := by
             unfold layPage
             rw [hsp, ← hnx, ← hmc, ← hpt]
           have hnj : ch.getD j 0 = n := by rw [List.getD_eq_getElem?_getD, List.getElem?_eq_getElem hjc, hn]; rfl
           have hdrop : ch.drop j = n :: ch.drop (j + 1) := by rw [hn]; exact List.drop_eq_getElem_cons hjc
           have hlD : layD x.dirty ch L (j + 1) = Tr.upd (layD x.dirty ch L j) n (some ⟨4, sp⟩) := by
             show Tr.upd (layD x.dirty ch L j) (ch.getD j 0) (some (layPage ch L j)) = _
             rw [hnj, hlay]
           have hq0 := hq.ok
           rw [hdrop] at hq0
           have hqok := hq0.lay (⟨4, sp⟩ : Pgg)
           have hnr := hq0.range.2.2.2.2.2 n (by simp)
           have hnle := hq0.le
           have hnlim := hq0.lim
           have hn512 : n < 512 := by
             have h1 : n < x.pages := hnr.2
             have h2 : x.pages ≤ E1.limit := hnle
             omega
           have HQ := Lib.hid hq
           have HOQ := Lib.hid hoq
           have HQOK := Lib.hid hqok
           have HLD := Lib.hid hlD
           have HENC := Lib.hid henc
           have HF0 := Lib.hid hfr0
           have HF1 := Lib.hid hfr1
           have HDM := Lib.hid hdmS
           have hEt := HE1E.out.2
           have HN512 := Lib.hid hn512
           clear hq hoq hI h50 hslq ha hb hfm htt hn hnx hpt hptl hptd hpt40 hsub k1' k2' k3' hfr0 hraq hfr1 hsp henc hlay hnj hdrop hlD hq0 hqok hnr hnle hnlim hdmS hEt hmc hn512
           obtain ⟨nz, hnz⟩ : ∃ nz : Int, nz = (nx : Int) := ⟨_, rfl⟩
           rw [← hnz] at hnext HENC
           rcases hnext with ⟨z5, z6, z7⟩ | ⟨z5, rfl⟩
           all_goals
             clear hnz
             rcases Classical.em (ca = fm) with hcf0 | hcf0
           all_goals
             have HCF := Lib.hid hcf0
           all_goals
             first
               | (have hcf : (ca = fm) = True := eq_true hcf0)
               | (have hcf : (ca = fm) = False := eq_false hcf0)
           all_goals
             clear hcf0
           all_goals
             go_wp2_with fail
             go_quiet (fail)
             go_wp2_with fail
           all_goals
             refine (HENC.out _ _ _ (by first | exact HF1.out _ (below_drewN (Below.refl _ wr) _) | exact HF0.out _ (by have := HCF.out; omega))).mono ?_
             rintro e w8 ⟨rfl, hb8⟩
             have hb8' : Below wr.heap.size wr w8 := (below_drewN (Below.refl _ wr) _).trans (hb8.mono (by simp))
             have hm8 := HQ.out.off (Off.of_below hb8' []) (by simp)
             obtain ⟨w9, hrun9, him9, hg9⟩ := (hm8.map.off ((Off.refl [] w8).drew) (by simp)).update Tryz.underlying3 Tryz.underlying100 (by have := hm8.nn; unfold maxLen; omega) (i := (n : Int)) (wf64 (by omega) (by have := HN512.out; omega)) (.agg #[.int .i64 4, .int .i64 n, .int .i64 E1.txn, .string sp])
             have q81 : w8.cell? ⟨E.t, 1, none⟩ = some (.int .i64 E1.txn) := by rw [← HE1E.out.2]; exact hm8.cells.cell 1
             have q88 : w8.cell? ⟨E.t, 8, none⟩ = some (.map (some dm)) := by rw [← HE1E.out.2]; exact hm8.cells.cell 8
             have lt8 : E.t < w8.heap.size := by rw [← HE1E.out.2]; exact hm8.cells.lt
             have ho9 : Off [dm] w8 w9 := (Off.refl [dm] w8).drew.grown hg9 (fun g hg => .inl (by simp at hg; simp [hg]))
             have him10 : IMap Tryz.prog 3 w9 dm (n9 + 1) (dirtyV E1.txn (Tr.upd (layD x.dirty ch L j) n (some ⟨4, sp⟩))) := by
               rw [← dirtyV_upd]
               exact him9
             obtain ⟨nn2, hn2, him11⟩ := him10.few (fun m hm => by have := HQOK.out.range.2.1 m hm; have := HQOK.out.le; have := HQOK.out.lim; omega)
             have hm9 := hm8.mapped him11 hn2 ho9 HQOK.out
             have HI9 := Lib.hid (show ∃ nn', nn' ≤ 600 ∧ KvMem E1 w9 S' (ch.drop (j + 1)) { x with dirty := layD x.dirty ch L (j + 1) } f dm nn' Sf lv fv ∧ Off [dm] _ w9 from ⟨nn2, hn2, by rw [HLD.out]; exact hm9, (HOQ.out.trans (Off.of_below hb8' [dm])).trans ho9⟩)
             clear hb8 hb8' hm8 him9 hg9 ho9 him10 him11 hm9
             go_wp2_with fail
             go_region_with (fail)
             all_goals
               go_wp2_with fail
               go_roundw
               case rel => first | exact ⟨j + 1, by go_num, by omega, HI9⟩ | ((repeat apply Exists.intro); exact ⟨⟨j + 1, by go_num, by omega, HI9⟩, rfl⟩)
               case measure => simp [intOf]; omega
         · have z2 : decide ((j : Int) < (m : Int)) = false := decide_eq_false (by omega)
           have hjm' : j = ch.length := by rw [← HM9.out]; omega
           have hmc : m = ch.length := HM9.out
           have hEt := HE1E.out.2
           have hqc : Bk wr E.t 103 (txCells E1 { x with dirty := layD x.dirty ch L j } f dm lv fv) := by rw [← hEt]; exact hq.cells
           have HEND := Lib.hid (show ∀ W', Bk W' E.t 103 (txCells { E1 with fre := (ch.headD 0 : Nat) } ⟨x.pages, L, layD x.dirty ch L j, ch, []⟩ f3 dm (.slice A m c) (.slice none 0 0)) → Off [E.t] wr W' → LayWay E F S Fo w (.returned (.int .i64 0)) W' from fun W' hbk ho => by
             subst hjm'
             obtain ⟨Sf3, t1, t2, t3⟩ := HC.out.list.tight
             rw [← HLE.out] at t3
             have htS : E.t ∈ S' := by rw [← hEt, HC.out.mem.blocks]; simp [txMut]
             have hdS : dm ∈ S' := by rw [HC.out.mem.blocks]; simp [txMut]
             have hnS : ∀ b ∈ Sf3, b ∉ S' := fun b hb => (HC.out.new b (t2 b hb)).2
             have hgS : ∀ g, Value.ownBlock (.slice A m c) = some g → g ∉ S' ∧ g ∉ Sf3 ∧ w1.heap.size ≤ g := fun g hg => by
               rw [hmc] at hg
               exact ⟨(HC.out.rowS g hg).1, fun hs => (HC.out.rowS g hg).2 (t2 g hs), (World.ownsRow.lt HC.out.row g hg).1⟩
             have hfl : FLO W' f3 Sf3 L := ((t3.below HB5.out).off hoq (fun b hb hs => by rw [List.mem_singleton] at hs; subst hs; exact hnS _ hb hdS)).off ho (fun b hb hs => by rw [List.mem_singleton] at hs; subst hs; exact hnS _ hb htS)
             have hrow : W'.ownsRow 0 3 1 (.slice A m c) ch.length (ints ch) := by
               have h1 := HC.out.row
               rw [← hmc] at h1 ⊢
               have h2 := (Off.of_below HB5.out []).own h1 (by simp)
               have h3 := hoq.own h2 (fun g hg hs => by rw [List.mem_singleton] at hs; subst hs; exact (hgS _ hg).1 hdS)
               have h4 := ho.own h3 (fun g hg hs => by rw [List.mem_singleton] at hs; subst hs; exact (hgS _ hg).1 htS)
               exact own_mono h4 (Nat.zero_le _)
             have hnd := hq.nodup
             unfold txMut at hnd
             obtain ⟨n1, n2⟩ := List.nodup_cons.1 hnd
             obtain ⟨n3, -⟩ := List.nodup_cons.1 n2
             have htd : E1.t ≠ dm := fun e => n1 (by rw [e]; simp)
             have hst : ∀ b ∈ E1.still, b ∉ [E.t] := fun b hb hs => by
               rw [List.mem_singleton] at hs
               subst hs
               exact hq.apart E.t (by rw [← hEt]; simp [txMut]) hb
             have hstS : ∀ b ∈ E1.still, b ∈ S' := fun b hb => by rw [HC.out.mem.blocks]; exact List.mem_append.2 (.inr hb)
             have hmut : ∀ b, b ∈ txMut E.t f3 dm Sf3 (.slice A m c) (.slice none 0 0) ↔ b = E.t ∨ b = dm ∨ Value.ownBlock (.slice A m c) = some b ∨ b ∈ Sf3 := fun b => by
               unfold txMut
               simp only [List.mem_cons, List.mem_append, Option.mem_toList]
               have : (Value.slice none 0 0).ownBlock = none := rfl
               rw [this]
               simp
             obtain ⟨p1, p2, p3, p4, p5, p6, p7⟩ := laid_plain HC.out.mem.ok HE1.out.txn2 HG.out.2.2.2 HC.out.book HLE.out HPM.out
             have hle := HC.out.mem.ok.le
             have hone := HC.out.mem.ok.one
             have hofA : Off S1 w1 W' := ((HC.out.off.trans (Off.of_below HB5.out S1)).then hoq (fun b hb => by
               rw [List.mem_singleton] at hb
               subst hb
               exact HC.out.fresh b hdS)).then ho (fun b hb => by
               rw [List.mem_singleton] at hb
               subst hb
               exact HC.out.fresh _ htS)
             have hfrA : Fresh w S S' := HO1.out.2.trans HC.out.fresh HO1.out.1.size
             refine .inl ⟨rfl, G, σ1, x.pages, L, layD x.dirty ch L ch.length, ch, f3, dm, n9, Sf3, .slice A m c, txMut E.t f3 dm Sf3 (.slice A m c) (.slice none 0 0) ++ E1.still, ?_⟩
             obtain ⟨hE1e, -⟩ := HE1E.out
             subst hE1e
             refine ⟨HG.out.1, HG.out.2.1, HG.out.2.2.1, HG.out.2.2.2, ⟨hbk, hfl, hq.map.off ho (by simp [Ne.symm htd]), hn9, hrow, ho.bk hq.db (hst _ (by simp [Kv.still])), ho.bk hq.rd (hst _ (by simp [Kv.still])), hq.pg.off ho (fun b hb => hst b (by simp [Kv.still, hb])), hq.dev.off ho (fun b hb => hst b (by simp [Kv.still, hb])), hq.row.off ho (hst _ (by simp [Kv.still])), rfl, ?_, fun b hb hs => ?_⟩,
               HO1.out.1.then hofA HO1.out.2, fun b hb => ?_, ⟨hone, hle⟩, p1, p2, p3, fun n hn => p4 n hn, p5, p6, p7, ?_, ?_, ?_, hFW.out⟩
             · unfold txMut
               refine List.nodup_cons.2 ⟨fun hm => ?_, List.nodup_cons.2 ⟨fun hm => ?_, ?_⟩⟩
               · rcases List.mem_cons.1 hm with hm | hm
                 · exact htd hm
                 · have := (hmut E.t).1 (List.mem_cons_of_mem _ (List.mem_cons_of_mem _ hm))
                   rcases List.mem_append.1 hm with hm | hm
                   · rw [Option.mem_toList] at hm; exact (hgS _ hm).1 htS
                   · rcases List.mem_append.1 hm with hm | hm
                     · rw [show (Value.slice none 0 0).ownBlock = none from rfl] at hm; cases hm
                     · exact hnS _ hm htS
               · rcases List.mem_append.1 hm with hm | hm
                 · rw [Option.mem_toList] at hm; exact (hgS _ hm).1 hdS
                 · rcases List.mem_append.1 hm with hm | hm
                   · rw [show (Value.slice none 0 0).ownBlock = none from rfl] at hm; cases hm
                   · exact hnS _ hm hdS
               · rw [show (Value.slice none 0 0).ownBlock = none from rfl]
                 refine List.nodup_append.2 ⟨?_, t1, fun a ha b hb e => ?_⟩
                 · cases Value.ownBlock (.slice A m c) <;> simp
                 · rw [Option.mem_toList] at ha
                   subst e
                   exact (hgS _ ha).2.1 hb
             · rcases (hmut b).1 hb with rfl | rfl | hb | hb
               · exact hst _ hs (by simp)
               · exact hq.apart b (by simp [txMut]) hs
               · exact (hgS b hb).1 (hstS b hs)
               · exact hnS b hb (hstS b hs)
             · rcases List.mem_append.1 hb with hb | hb
               · rcases (hmut b).1 hb with rfl | rfl | hb | hb
                 · exact hfrA _ htS
                 · exact hfrA _ hdS
                 · exact .inr (Nat.le_trans HO1.out.1.size (hgS b hb).2.2)
                 · exact .inr (Nat.le_trans HO1.out.1.size (HC.out.new b (t2 b hb)).1)
               · exact hfrA b (hstS b hb)
             · intro y hy
               rw [HLE.out] at hy
               exact Fr.addAll_all (Q := fun y => y.1 ≤ E.txn) (fun n => Nat.le_refl _) _ _ (fun y hy => Nat.le_of_lt (HC.out.room.txns y hy)) y hy
             · intro b hb hk
               by_cases hc : b ∈ ch
               · exact HC.out.keep b hc hk
               · rw [layD_other _ _ _ _ _ (by rw [List.take_length]; exact hc) (Nat.le_refl _)] at hb
                 exact HC.out.room.keep2 b (.inr hb) hk
             · rcases HC.out.room.base with hb | ⟨hb, -⟩
               · exact .inl hb
               · refine .inr (Nat.le_trans hb ?_)
                 rw [HLE.out, show ((Fr.addAll E.txn x.fr (x.more E.pc)).filter fun y => decide (y.1 < E.txn)).length = (x.fr.filter fun y => decide (y.1 < E.txn)).length from Fr.addAll_old _ _, List.filter_eq_self.2 (fun y hy => by simpa using HC.out.room.txns y hy)]
                 exact Nat.le_refl _)
           have y4 := hqc.cell 4
           have f4 := hqc.frozen 4
           have y7 := hqc.cell 7
           have f7 := hqc.frozen 7
           have y9 := hqc.cell 9
           have f9 := hqc.frozen 9
           have y10 := hqc.cell 10
           have f10 := hqc.frozen 10
           have ltw := hqc.lt
           have HQC := Lib.hid hqc
           have hhd : ∀ (l : List Nat) (h : 0 < l.length), l.headD 0 = l[0] := fun l h => by
             cases l with
             | nil => simp at h
             | cons a t => rfl
           have hcase : (decide ((0 : Int) < (m : Int)) = false ∧ decide (0 < m) = false ∧ Hid (ch.headD 0 = 0)) ∨ (decide ((0 : Int) < (m : Int)) = true ∧ 0 < m ∧ ∃ cb co, A = some ⟨cb, co, none⟩ ∧ cb < wr.heap.size ∧ cb ≠ E.t ∧ wr.cell? ⟨cb, co, none⟩ = some (.int .i64 (ch.headD 0 : Nat))) := by
             by_cases hm0 : 0 < m
             · have hslq : Sl wr A (ints ch) := (HSL.out.below HB5.out).off hoq (fun a ha hs => by
                 rw [List.mem_singleton] at hs
                 exact HAS.out a ha (by rw [hs, HC.out.mem.blocks]; simp [txMut]))
               obtain ⟨cb, co, hA, hcb, hcell⟩ := ints_at hslq 0 (by omega)
               refine .inr ⟨decide_eq_true (by omega), hm0, cb, co, hA, hcb, fun e => ?_, ?_⟩
               · have := HAS.out _ hA
                 exact this (by rw [HC.out.mem.blocks, show (⟨cb, co, none⟩ : Addr).block = cb from rfl, e, ← hEt]; simp [txMut])
               · rw [Nat.add_zero] at hcell
                 rw [hcell, hhd ch (by omega)]
             · refine .inl ⟨decide_eq_false (by omega), decide_eq_false (by omega), Lib.hid ?_⟩
               have : ch = [] := List.eq_nil_of_length_eq_zero (by omega)
               rw [this]
               rfl
           obtain ⟨hz, hhz⟩ : ∃ hz : Int, hz = (ch.headD 0 : Nat) := ⟨_, rfl⟩
           rw [← hhz] at hcase HEND
           have HHZ := Lib.hid hhz
           clear hq hoq hI h50 hqc hmc hjm' hEt hhz hhd
           rcases hcase with ⟨z5, z5', z6⟩ | ⟨z5, z6, cb, co, rfl, z7, z8, z9⟩
           · have hz0 : hz = 0 := by rw [HHZ.out, z6.out]; rfl
             subst hz0
             clear z6
             go_wp2_with fail
             go_ret
             refine HEND.out _ ?_ ?_
             · exact ((((HQC.out.put 4 (.int .i64 0)).put 7 (.pointer (some ⟨f3, 0, none⟩))).put 10 (.slice none 0 0)).put 9 (.slice A m c))
             · exact ((((Off.refl [E.t] wr).setCell (.inl (by simp)) _).setCell (.inl (by simp)) _).setCell (.inl (by simp)) _).setCell (.inl (by simp)) _
           · go_wp2_with fail
             go_ret
             refine HEND.out _ ?_ ?_
             · first
                 | exact (((((HQC.out.put 4 (.int .i64 0)).put 4 (.int .i64 hz)).put 7 (.pointer (some ⟨f3, 0, none⟩))).put 10 (.slice none 0 0)).put 9 (.slice (some ⟨cb, co, none⟩) m c))
                 | exact ((((HQC.out.put 4 (.int .i64 hz)).put 7 (.pointer (some ⟨f3, 0, none⟩))).put 10 (.slice none 0 0)).put 9 (.slice (some ⟨cb, co, none⟩) m c))
             · first
                 | exact (((((Off.refl [E.t] wr).setCell (.inl (by simp)) _).setCell (.inl (by simp)) _).setCell (.inl (by simp)) _).setCell (.inl (by simp)) _).setCell (.inl (by simp)) _
                 | exact ((((Off.refl [E.t] wr).setCell (.inl (by simp)) _).setCell (.inl (by simp)) _).setCell (.inl (by simp)) _).setCell (.inl (by simp)) _
 · have HE9 := Lib.hid (show LayWay E F S Fo w (.returned (.int .i64 9)) w1 from by
     obtain ⟨x, f, dm, nn, Sf, lv, fv, hm, -, -⟩ := hat
     exact .inr ⟨hF, rfl, r, [], S1, x, f, dm, nn, Sf, lv, fv, hm, hof1, hfr1⟩)
   clear hat hof1 hfr1
   go_wp2_with fail
   go_ret
   exact HE9.out
end Go.Proofs.YtjbcbnemdhbhbaaGreatDoor

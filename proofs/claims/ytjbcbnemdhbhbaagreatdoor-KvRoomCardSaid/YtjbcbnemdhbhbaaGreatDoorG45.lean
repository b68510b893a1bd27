import Derived.Test.YtjbcbnemdhbhbaaGreatDoorG42
import Derived.Test.YtjbcbnemdhbhbaaGreatDoorG44
import Derived.Test.YtjbcbnemdhbhbaaGreatDoorG25
namespace Go.Proofs.YtjbcbnemdhbhbaaGreatDoor
set_option linter.unusedVariables false
set_option linter.unusedSimpArgs false
namespace DevS
structure Calm (D : DevS) : Prop where
 on : D.off = false
 fuse : D.fuse = 0
theorem Calm.stepOk {D : DevS} (h : D.Calm) : D.stepOk = true := by
 unfold DevS.stepOk
 rw [h.on, h.fuse]
 rfl
theorem Calm.stepped {D : DevS} (h : D.Calm) : D.stepped.Calm := by
 unfold DevS.stepped
 rw [h.on, h.fuse]
 exact ⟨rfl, rfl⟩
theorem Calm.write {D : DevS} (h : D.Calm) {i : Nat} {s : ByteArray} (hi : i < D.sec.length) (hs : s.size = 128) : (D.write (i : Int) s).2 = 0 ∧ (D.write (i : Int) s).1.Calm := by
 rw [write_ok hi hs, if_pos h.stepOk]
 exact ⟨rfl, h.stepped.on, h.stepped.fuse⟩
theorem Calm.writeL : ∀ (l : List ByteArray) {D : DevS} (h : D.Calm) {i : Nat} (hi : i + l.length ≤ D.sec.length) (hs : ∀ s ∈ l, s.size = 128), (D.writeL i l).2 = 0 ∧ (D.writeL i l).1.Calm
 | [], D, h, i, hi, hs => ⟨rfl, h⟩
 | s :: l, D, h, i, hi, hs => by
   rw [List.length_cons] at hi
   obtain ⟨h1, h2⟩ := h.write (i := i) (s := s) (by omega) (hs s (by simp))
   obtain ⟨k1, -, -⟩ := write_wrote (D := D) (i := i) (s := s) (by omega) (hs s (by simp))
   have he : D.writeL i (s :: l) = DevS.writeL (D.write (i : Int) s).1 (i + 1) l := by
     show (if (D.write (i : Int) s).2 = 0 then _ else _) = _
     rw [if_pos h1]
   rw [he]
   exact Calm.writeL l h2 (by rw [k1.sec]; omega) (fun x hx => hs x (by simp [hx]))
theorem Calm.sync {D : DevS} (h : D.Calm) : D.sync = (D.stepped.synced, 0) := by
 unfold DevS.sync
 rw [if_pos h.stepOk]
end DevS
theorem quarters_join (s : ByteArray) (hs : s.size = 512) : (⟨((s.extract 0 128).data.toList ++ (s.extract 128 256).data.toList ++ (s.extract 256 384).data.toList ++ (s.extract 384 512).data.toList).toArray⟩ : ByteArray) = s := by
 have hl : s.data.toList.length = 512 := by rw [Array.length_toList]; exact hs
 have he : ∀ a b : Nat, (s.extract a b).data.toList = (s.data.toList.drop a).take (b - a) := fun a b => by
   simp [ByteArray.data_extract, Array.toList_extract]
 rw [he, he, he, he]
 have e1 : (s.data.toList.drop 0).take 128 ++ (s.data.toList.drop 128).take 128 ++ (s.data.toList.drop 256).take 128 ++ (s.data.toList.drop 384).take 128 = s.data.toList := by
   have k : ∀ (l : List UInt8) (a b : Nat), (l.drop a).take b ++ l.drop (a + b) = l.drop a := fun l a b => by rw [← List.drop_drop, List.take_append_drop]
   have h4 : (s.data.toList.drop 384).take 128 = s.data.toList.drop 384 := List.take_of_length_le (by rw [List.length_drop, hl]; omega)
   rw [h4, List.append_assoc, k _ 256 128, List.append_assoc, k _ 128 128, k _ 0 128]
   rfl
 show (⟨((s.data.toList.drop 0).take 128 ++ (s.data.toList.drop 128).take 128 ++ (s.data.toList.drop 256).take 128 ++ (s.data.toList.drop 384).take 128).toArray⟩ : ByteArray) = s
 rw [e1]
theorem packS_size {k n t : Int} {b : ByteArray} (h : rightB k n t b = true) : (packS k n t b).size = 512 := by
 rw [packS_right h]
 show (pageS _ _ _ _).toArray.size = 512
 rw [List.size_toArray]
 refine pageS_len _ _ _ _ ?_
 have := (rightB_yes h).2.2.2.2.2.2
 show b.data.toList.length ≤ 488
 rw [Array.length_toList]
 exact this
theorem page_put {D : DevS} (h : D.Calm) {n : Nat} {k t : Int} {b : ByteArray} (hr : rightB k n t b = true) (hf : 4 * n + 4 ≤ D.sec.length) :
   (D.writeL (4 * n) (quarters (packS k n t b))).2 = 0 ∧ (D.writeL (4 * n) (quarters (packS k n t b))).1.Calm ∧ (D.writeL (4 * n) (quarters (packS k n t b))).1.Page n k t b ∧ DevS.Wrote D (D.writeL (4 * n) (quarters (packS k n t b))).1 (fun j => 4 * n ≤ j ∧ j < 4 * n + 4) := by
 have hs := packS_size hr
 have hq : ∀ x ∈ quarters (packS k n t b), x.size = 128 := fun x hx => by
   obtain ⟨i9, h9, rfl⟩ := List.mem_iff_getElem.1 hx
   exact quarters_size hs (List.getElem?_eq_getElem h9)
 obtain ⟨h1, h2⟩ := DevS.Calm.writeL (quarters (packS k n t b)) h (i := 4 * n) (by show 4 * n + 4 ≤ _; exact hf) hq
 obtain ⟨v1, v2, v3⟩ := DevS.writeL_wrote (quarters (packS k n t b)) D (4 * n) (by show 4 * n + 4 ≤ _; exact hf) hq
 rcases v3 with ⟨-, v4, -⟩ | ⟨v3, -⟩
 · refine ⟨h1, h2, ⟨by rw [v1.sec]; exact hf, hr, ?_⟩, v1⟩
   unfold DevS.four
   have e0 := v4 0 ((packS k n t b).extract 0 128) rfl
   have e1 := v4 1 ((packS k n t b).extract 128 256) rfl
   have e2 := v4 2 ((packS k n t b).extract 256 384) rfl
   have e3 := v4 3 ((packS k n t b).extract 384 512) rfl
   rw [Nat.add_zero] at e0
   rw [e0, e1, e2, e3]
   exact (quarters_join _ hs).symm
 · rw [h1] at v3; cases v3
theorem putAll_calm (t : Nat) (d : Book) : ∀ (ks : List Nat) {D : DevS} (h : D.Calm) (hn : ks.Nodup) (hd : ∀ n ∈ ks, ∃ p, d n = some p ∧ rightB p.kind n t p.body = true ∧ 4 * n + 4 ≤ D.sec.length),
   ∃ D', putAll t d ks D = (D', 0) ∧ D'.Calm ∧ (∀ n ∈ ks, ∀ p, d n = some p → D'.Page n p.kind t p.body) ∧ DevS.Wrote D D' (fun j => ∃ n ∈ ks, 4 * n ≤ j ∧ j < 4 * n + 4)
 | [], D, h, hn, hd => ⟨D, rfl, h, by simp, DevS.Wrote.refl _ _⟩
 | n :: ks, D, h, hn, hd => by
   obtain ⟨hn1, hn2⟩ := List.nodup_cons.1 hn
   obtain ⟨p, hp, hr, hf⟩ := hd n (by simp)
   obtain ⟨k1, k2, k3, k4⟩ := page_put h hr hf
   obtain ⟨D', m1, m2, m3, m4⟩ := putAll_calm t d ks k2 hn2 (fun x hx => by
     obtain ⟨q, q1, q2, q3⟩ := hd x (by simp [hx])
     exact ⟨q, q1, q2, by rw [k4.sec]; exact q3⟩)
   refine ⟨D', ?_, m2, fun x hx q hq => ?_, (k4.mono (fun j hj => ⟨n, by simp, hj⟩)).trans (m4.mono (fun j ⟨x, hx, hj⟩ => ⟨x, by simp [hx], hj⟩))⟩
   · show (match d n with | none => _ | some p => _) = _
     rw [hp]
     simp only
     rw [if_pos k1]
     exact m1
   · rcases List.mem_cons.1 hx with rfl | hx
     · rw [hp] at hq
       injection hq with hq
       subst hq
       refine k3.congr (by rw [m4.sec]) fun i h1 h2 => m4.latest ?_
       rintro ⟨y, hy, h3, h4⟩
       have : y = x := by omega
       subst this
       exact hn1 hy
     · exact m3 x hx q hq
def Pgg.Fits (p : Pgg) : Prop := 1 ≤ p.kind ∧ p.kind ≤ 3 ∧ p.body.size ≤ 488
namespace Tr
theorem Chain.fit {σ : Book} : ∀ {ns : List Nat} {no : Nat} {v : List UInt8}, Chain σ no ns v → ∀ n ∈ ns, ∀ p, σ n = Option.some p → p.Fits
 | [], _, _, _ => by simp
 | n :: ns, no, v, ⟨h1, h2, h3, next, piece, rest, h4, h5, h6, h7, h8, h9, h10⟩ => by
   intro m hm p hp
   rcases List.mem_cons.1 hm with rfl | hm
   · rw [h4] at hp
     injection hp with hp
     subst hp
     refine ⟨by show 1 ≤ 3; omega, by show 3 ≤ 3; omega, ?_⟩
     show (Be.low next 4 ++ piece).toArray.size ≤ 488
     rw [List.size_toArray, List.length_append, Be.low_len]
     omega
   · exact Chain.fit h10 m hm p hp
theorem EnOk.fit {σ : Book} {e : En} (h : EnOk σ e) : ∀ n ∈ e.pages, ∀ p, σ n = some p → p.Fits := by
 rcases h.2 with ⟨-, h, -⟩ | ⟨-, h, -⟩
 · rw [h]; simp
 · exact h.fit
theorem Part.fit {σ : Book} : ∀ {d : Nat} {cs : List Ce} {P : List Nat} {L : List En}, Part σ d cs P L → ∀ n ∈ P, ∀ p, σ n = some p → p.Fits
 | 0, cs, P, L, h => by
   obtain ⟨h1, h2, h3, h4⟩ := h
   subst h2
   intro n hn p hp
   obtain ⟨e, he, hn⟩ := List.mem_flatMap.1 hn
   exact (h4 e he).fit n hn p hp
 | d + 1, cs, P, L, ⟨ks, h1, h2, h3, h4, h5, h6⟩ => by
   subst h2
   intro n hn p hp
   obtain ⟨k, hk, hn⟩ := List.mem_flatMap.1 hn
   obtain ⟨cs', P', hP, a1, a2, a3, a4, a5, -⟩ := (h6 k hk).2
   rw [hP] at hn
   rcases List.mem_cons.1 hn with rfl | hn
   · rw [a3] at hp
     injection hp with hp
     subst hp
     refine ⟨?_, ?_, ?_⟩
     · show 1 ≤ (if (d == 0) then 1 else 2); split <;> omega
     · show (if (d == 0) then 1 else 2) ≤ 3; split <;> omega
     · show (Nd.str (d == 0) cs').size ≤ 488
       rw [Nd.str_size]
       exact a5
   · exact Part.fit a4 n hn p hp
theorem Root.fit {σ : Book} {root : Nat} {P : List Nat} {L : List En} (h : Root σ root P L) : ∀ n ∈ P, ∀ p, σ n = some p → p.Fits := by
 rcases h with ⟨-, rfl, -⟩ | ⟨d, h⟩
 · simp
 · obtain ⟨cs', P', hP, a1, a2, a3, a4, a5, -⟩ := h
   subst hP
   intro n hn p hp
   rcases List.mem_cons.1 hn with rfl | hn
   · rw [a3] at hp
     injection hp with hp
     subst hp
     refine ⟨?_, ?_, ?_⟩
     · show 1 ≤ (if (d == 0) then 1 else 2); split <;> omega
     · show (if (d == 0) then 1 else 2) ≤ 3; split <;> omega
     · show (Nd.str (d == 0) cs').size ≤ 488
       rw [Nd.str_size]
       exact a5
   · exact Part.fit a4 n hn p hp
end Tr
theorem Forest.Ok.fit {F : Forest} {σ : Book} (h : F.Ok σ) : ∀ n p, σ n = some p → p.Fits := by
 intro n p hp
 have hn := h.full n (by rw [hp]; simp)
 unfold Forest.pages at hn
 rcases List.mem_append.1 hn with hn | hn
 · exact Tr.Root.fit h.main n hn p hp
 · obtain ⟨x, -, hn⟩ := List.mem_flatMap.1 hn
   exact Tr.Root.fit (h.each x) n hn p hp
def PagesOn (D : DevS) (σ : Book) : Prop := ∀ n p, σ n = some p → 1 ≤ n ∧ ∃ t : Int, D.Page n p.kind t p.body
theorem PagesOn.keep {D D' : DevS} {σ : Book} (h : PagesOn D σ) (hl : D'.sec.length = D.sec.length) (hk : ∀ i, 4 ≤ i → i < D.sec.length → D'.latest i = D.latest i) : PagesOn D' σ := fun n p hp => by
 obtain ⟨h1, t, h2⟩ := h n p hp
 exact ⟨h1, t, h2.congr hl fun i h3 h4 => hk i (by omega) (by have := h2.fits; omega)⟩
theorem PagesOn.sync {D : DevS} {σ : Book} (h : PagesOn D σ) : PagesOn D.stepped.synced σ :=
 h.keep (by rw [DevS.synced_len, DevS.stepped_len]) fun i h1 h2 => by rw [DevS.synced_latest (by rw [DevS.stepped_len]; exact h2), DevS.stepped_latest]
theorem PagesOn.twoMetas {D : DevS} {σ : Book} (h : PagesOn D σ) {i : Nat} (hi : i < 2) (hin : i < D.sec.length) {s : ByteArray} (hs : s.size = 128) : PagesOn (D.write (i : Int) s).1 σ := by
 obtain ⟨k1, -, -⟩ := DevS.write_wrote hin hs
 exact h.keep (by rw [k1.sec]) fun j h1 h2 => k1.latest (by omega)
theorem PagesOn.next {D D' : DevS} {σ0 σ : Book} {txn : Nat} {d : Book} {U ks : List Nat} (h : PagesOn D σ0) (hk : ∀ n, n ∈ ks ↔ d n ≠ none) (hd : ∀ n p, d n = some p → 1 ≤ n)
   (hw : DevS.Wrote D D' (fun j => ∃ n ∈ ks, 4 * n ≤ j ∧ j < 4 * n + 4)) (hp : ∀ n ∈ ks, ∀ p, d n = some p → D'.Page n p.kind txn p.body) (hσ : ∀ n, σ n ≠ none → (d n ≠ none ∧ σ n = d n) ∨ (d n = none ∧ n ∈ U ∧ σ n = σ0 n)) : PagesOn D' σ := fun n p hnp => by
 rcases hσ n (by rw [hnp]; simp) with ⟨h1, h2⟩ | ⟨h1, -, h2⟩
 · rw [h2] at hnp
   exact ⟨hd n p hnp, _, hp n ((hk n).2 h1) p hnp⟩
 · rw [h2] at hnp
   obtain ⟨k1, t, k2⟩ := h n p hnp
   refine ⟨k1, t, k2.congr (by rw [hw.sec]) fun i h3 h4 => hw.latest ?_⟩
   rintro ⟨m, hm, h5, h6⟩
   have : m = n := by omega
   subst this
   exact (hk m).1 hm h1
end Go.Proofs.YtjbcbnemdhbhbaaGreatDoor
namespace Go.Proofs.YtjbcbnemdhbhbaaGreatDoor
open Go.RowKit
set_option maxRecDepth 100000
set_option linter.unusedVariables false
set_option linter.unusedSimpArgs false
set_option maxHeartbeats 4000000 in
theorem pieces_none (q : Nat) (w : World) : Calls Tryz.prog 100 #[.pointer (some ⟨q, 0, none⟩), .int .i64 0] w (fun e w' => ∃ f Sf, e = .returned (.tuple #[.pointer (some ⟨f, 0, none⟩), .slice none 0 0, .int .i64 0]) ∧ FLO w' f Sf [] ∧ (∀ x ∈ Sf, w.heap.size ≤ x) ∧ Below w.heap.size w w') := by
 have HF := Lib.hid fun (W : World) => fnew_any W
 go_enter Tryz.func100, Tryz.ntmps100
 go_wp2_with fail
 refine (HF.out _).mono ?_
 rintro e w1 ⟨rfl, hf, hb⟩
 have HE := Lib.hid hf
 have HB := Lib.hid hb
 clear hf hb
 go_wp2_with fail
 refine wp_loop_rounds 2 ?_
 rw [rounds_succ]
 go_wp2_with fail
 refine bodyPost_ret (v := .tuple #[.pointer (some ⟨w.heap.size, 0, none⟩), .slice none 0 0, .int .i64 0]) (by simp [results, Tryz.results100, go_sem]) rfl ?_
 exact ⟨_, _, rfl, HE.out, fun x hx => by rw [List.mem_singleton] at hx; omega, HB.out⟩
def KOpenG (g : Nat) (P : PgS) (w : World) (e : Ending) (w' : World) : Prop := ∃ b q r f Sf, e = .returned (.tuple #[.pointer (some ⟨b, 0, none⟩), .int .i64 0]) ∧ DbAt w' ⟨b, q, r, f, g, [q], Sf, P, St.empty, [], .slice none 0 0, [], .pointer none⟩ ∧ w.heap.size ≤ b ∧ w.heap.size ≤ q ∧ w.heap.size ≤ r ∧ (∀ x ∈ Sf, w.heap.size ≤ x) ∧ Below w.heap.size w w'
set_option maxHeartbeats 16000000 in
theorem kvopen_g {g : Nat} {S : List Nat} {D : DevS} {P : PgS} {w : World} (hd : Dev w g S D) (hr : RowAt w) (hb : D.steps ≤ 1000000000) (h0 : openR D = 0) (hP : openP D = P) (hf : P.m.f = 0) :
   Calls Tryz.prog 43 #[ptr g] w (KOpenG g P w) := by
 have HO := Lib.hid (open_to hd hr hb h0 hP)
 have hf2 : ∀ W : World, Sem.run Tryz.prog (Instr.field 40 (.agg #[.int .i64 P.m.t, .int .i64 P.m.r, .int .i64 P.m.f, .int .i64 P.m.p, .int .i64 P.m.l]) 2) W = .ok (.int .i64 0) W := fun W => by rw [mfld2, hf]
 have HPI := Lib.hid fun (q : Nat) (W : World) => pieces_none q W
 have HRN := Lib.hid fun (W : World) => rdnew_any W
 clear hd hr hb h0 hP hf
 go_enter Tryz.func43, Tryz.ntmps43
 go_wp2_with fail
 refine HO.out.mono ?_
 rintro e w1 ⟨q, hq, rfl, hpg, hb1⟩
 have HP := Lib.hid hpg
 have HB1 := Lib.hid hb1
 have HM := Lib.hid (pmeta_any hpg)
 have hq1 := hpg.old q (by simp)
 clear hpg hb1
 go_wp2_with fail
 refine HM.out.mono ?_
 rintro e w2 ⟨rfl, hb2⟩
 have HB2 := Lib.hid (HB1.out.trans (hb2.mono HB1.out.size))
 have HP2 := Lib.hid (HP.out.below hb2)
 have hq2 := Nat.lt_of_lt_of_le hq1 hb2.size
 clear hb2
 go_wp2_with fail
 refine (HPI.out _ _).mono ?_
 rintro e w3 ⟨f, Sf, rfl, hfl, hfn, hb3⟩
 have HB3 := Lib.hid (HB2.out.trans (hb3.mono HB2.out.size))
 have HP3 := Lib.hid (HP2.out.below hb3)
 have HFL := Lib.hid hfl
 have HFN := Lib.hid (show ∀ x ∈ Sf, w.heap.size ≤ x from fun x hx => Nat.le_trans HB2.out.size (hfn x hx))
 have hq3 := Nat.lt_of_lt_of_le hq2 hb3.size
 clear hb3 hfl hfn
 go_wp2_with fail
 refine (HRN.out _).mono ?_
 rintro e w4 ⟨rfl, hr4, hb4⟩
 have HB4 := Lib.hid (HB3.out.trans (hb4.mono HB3.out.size))
 have HP4 := Lib.hid (HP3.out.below hb4)
 have HR4 := Lib.hid hr4
 have HFL4 := Lib.hid (HFL.out.below hb4)
 have HOL := Lib.hid HFL.out.old
 have hz4 := hb4.size
 have hr4l := hr4.lt
 clear hb4 hr4
 go_wp2_with fail
 go_ret2
 refine ⟨w4.heap.size, q, w3.heap.size, f, Sf, rfl, ⟨Bk.new w4 _ _, HP4.out.below ((Below.refl _ _).alloc (Nat.le_refl _) _), HR4.out.alloc _, (HFL4.out.below ((Below.refl _ _).alloc (Nat.le_refl _) _)).fl, World.ownsRow_nil _ _ _ _, ?_, ?_⟩, HB4.out.size, hq, HB3.out.size, HFN.out, HB4.out.alloc HB4.out.size _⟩
 · intro hm
   simp only [List.mem_append, List.mem_singleton] at hm
   rcases hm with hm | hm | hm
   · have : w4.heap.size = q := hm
     omega
   · have := HFL4.out.old _ hm; omega
   · cases hm
 · intro hm
   simp only [List.mem_append, List.mem_singleton] at hm
   rcases hm with hm | hm | hm
   · have : w3.heap.size = q := hm
     omega
   · have := HOL.out _ hm; omega
   · cases hm
structure FileP (D : DevS) (P : PgS) (fr : List (Nat × Nat)) (pcs : List Nat) (σ : Book) (Fo : Forest) (txn pages limit : Nat) : Prop where
 calm : D.Calm
 m : P.m = ⟨txn, Fo.main.root, (pcs.headD 0 : Nat), pages, limit⟩
 sealed : P.sealed = none
 sec : D.sec.length = 4 * limit
 lim : 4 ≤ limit ∧ limit ≤ 512
 t1 : 1 ≤ txn
 steps : D.steps ≤ 3000 * (txn : Int)
 log : P.log.length ≤ 600 * txn
 ok : Fo.Ok σ
 R : ∀ n, Fo.R n = none
 on : PagesOn D σ
 one : 1 ≤ pages ∧ pages ≤ limit
 perm : (Fr.pg fr ++ (Fo.pages ++ pcs)).Perm (nums pages)
 sorted : Fr.Sorted fr
 txns : ∀ y ∈ fr, y.1 ≤ txn
 few : pcs.length ≤ Fr.pieces limit
structure FileAt (w : World) (d : Di) (Sd : List Nat) (D : DevS) (σ : Book) (Fo : Forest) (txn pages limit : Nat) : Prop where
 db : DbAt w d
 dev : Dev w d.g Sd D
 row : RowAt w
 plain : FileP D d.P d.fr d.pcs σ Fo txn pages limit
 ap : d.b ∉ Sd ∧ d.r ∉ Sd ∧ (∀ x ∈ d.T, x ∉ Sd) ∧ 0 ∉ Sd ∧ 0 ∉ d.T
 pv : ∀ g, d.pv.ownBlock = some g → g ∉ d.T ∧ g ∉ Sd ∧ g ≠ 0
 wv : d.wv = .pointer none ∨ ∃ t cs, d.wv = .pointer (some ⟨t, 0, none⟩) ∧ Bk w t 103 cs ∧ cs[13]? = some (.bool true)
structure Kv.Fine (E : Kv) : Prop where
 calm : E.D.Calm
 sealed : E.P.sealed = none
 sec : E.D.sec.length = 4 * E.limit
 lim : 4 ≤ E.limit ∧ E.limit ≤ 512
 t : (E.txn : Int) = E.P.m.t + 1
 txn : 2 ≤ E.txn ∧ E.txn ≤ 1001
 steps : E.D.steps ≤ 3000 * ((E.txn : Int) - 1)
 log : E.P.log.length ≤ 600 * (E.txn - 1)
 l : (E.limit : Int) = E.P.m.l
structure St0 (E : Kv) (F : Prop) (w : World) (S : List Nat) (σ : Book) (k : Nat) (Fo : Forest) (nr : Nat) : Prop where
 wr : Wr E F w S σ k Fo nr
 ok : E.Ok
 sep : E.Sep
 fine : E.Fine
 on : PagesOn E.D E.disk
 pv : w.ownsRow 0 3 1 E.c3 E.pc.length (ints E.pc)
 pvS : ∀ g, E.c3.ownBlock = some g → g ∉ S ∧ g ≠ E.rm
 c4 : E.c4 = .pointer (some ⟨E.t, 0, none⟩)
def Di.kv (d : Di) (t rm : Nat) (Sd : List Nat) (D : DevS) (σ : Book) (Fo : Forest) (txn limit : Nat) (ro : Option Obj) (base : Nat) (keep : List Nat) : Kv :=
 ⟨t, d.b, d.q, d.r, d.g, d.T, Sd, d.P, D, d.s, txn + 1, Fo.main.root, (d.pcs.headD 0 : Nat), limit, Fo.pages, d.pcs, σ, rm, 0, false, .pointer (some ⟨d.f, 0, none⟩), d.pv, .pointer (some ⟨t, 0, none⟩), ro, base, keep⟩
def firstSure (fr : List (Nat × Nat)) (limit pages : Nat) (u : Int) : Nat := (fr.takeWhile fun y => decide (y.1 ≤ u.toNat)).length + (limit - pages)
theorem begun_st0 {w w' : World} {d : Di} {Sd : List Nat} {D : DevS} {σ : Book} {Fo : Forest} {txn pages limit : Nat} (h : FileAt w d Sd D σ Fo txn pages limit) (ht : txn ≤ 1000) (hu : 0 ≤ min ((txn : Int) - 1) (d.s.oldest (txn : Int))) {F : Prop} {base k : Nat} {keep : List Nat} (hks : k ≤ firstSure d.fr limit pages (min ((txn : Int) - 1) (d.s.oldest (txn : Int)))) (hkb : F ∨ base + k ≤ d.fr.length + (limit - pages)) (hkk : ∀ y ∈ d.fr, y.1 ≤ (min ((txn : Int) - 1) (d.s.oldest (txn : Int))).toNat → y.2 ∉ keep) (hkp : ∀ n ∈ keep, n < pages)
   {t f dm rm : Nat} {Sf : List Nat} (hb : Begun d w w' t f dm rm Sf) :
   ∃ S, St0 (d.kv t rm Sd D σ Fo txn limit w.heap[0]? base keep) F w' S σ k Fo 0 ∧ Off [d.b] w w' ∧ (∀ x ∈ S, x ∈ 0 :: (d.blocks ++ Sd) ∨ w.heap.size ≤ x) ∧ w.heap.size ≤ rm := by
 have hp := h.plain
 have hm := hp.m
 have hnb : ∀ x ∈ Sd, x ∉ [d.b] := fun x hx hs => by rw [List.mem_singleton] at hs; subst hs; exact h.ap.1 hx
 have hdv : Dev w' d.g Sd D := h.dev.off hb.off hnb
 have hold := h.db.old
 have hd : ∀ n, σ n ≠ none → n ∈ Fo.pages := hp.ok.full
 have hin : ∀ n ∈ Fo.pages, 1 ≤ n ∧ n < pages := fun n hn => nums_mem.1 (hp.perm.mem_iff.1 (by simp [hn]))
 obtain ⟨sl, lg, hpg⟩ := h.db.pg
 have hq : d.q ∈ d.T := hpg.inT.1
 have hstill : ∀ x ∈ (d.kv t rm Sd D σ Fo txn limit w.heap[0]? base keep).still, x < w.heap.size := by
   intro x hx
   simp only [Kv.still, Di.kv, List.mem_cons, List.mem_append] at hx
   rcases hx with rfl | rfl | rfl | rfl | hx | hx
   · exact h.db.top.lt
   · exact hold _ (by simp [Di.blocks, hq])
   · exact h.db.rd.lt
   · exact h.row.lt
   · exact hold _ (by simp [Di.blocks, hx])
   · exact h.dev.old _ hx
 have hmut : ∀ x ∈ txMut t f dm Sf (.slice none 0 0) (.slice none 0 0), w.heap.size ≤ x := by
   intro x hx
   simp only [txMut, Value.ownBlock, List.mem_cons, List.mem_append, Option.mem_toList] at hx
   rcases hx with rfl | rfl | hx | hx | hx
   · exact hb.new.1
   · exact hb.new.2.1
   · cases hx
   · cases hx
   · exact hb.new.2.2.2 _ hx
 have htn : (txn : Int) = d.P.m.t := by rw [hm]
 have hlm : (limit : Int) = d.P.m.l := by rw [hm]
 have hE : (d.kv t rm Sd D σ Fo txn limit w.heap[0]? base keep).Ok := by
   refine ⟨?_, ?_, hp.calm.on, ?_, hlm, ?_, ?_⟩
   · show 2 ≤ txn + 1
     have := hp.t1; omega
   · show txn + 1 ≤ 1099511627776
     omega
   · show D.steps ≤ 1000000000
     have := hp.steps; omega
   · intro n p hn
     obtain ⟨h1, t', h2⟩ := hp.on n p hn
     have := (hin n (hd n (by rw [show (σ n) = some p from hn]; simp))).2
     have := hp.one.2
     exact ⟨show n < limit by omega, t', h2⟩
   · show 0 ≤ min (((txn + 1 : Nat) : Int) - 2) (d.s.oldest (((txn + 1 : Nat) : Int) - 1))
     have e1 : (((txn + 1 : Nat) : Int) - 2) = (txn : Int) - 1 := by omega
     have e2 : (((txn + 1 : Nat) : Int) - 1) = (txn : Int) := by omega
     rw [e1, e2]
     exact hu
 have hcells : Bk w' t 103 (txCells (d.kv t rm Sd D σ Fo txn limit w.heap[0]? base keep) ⟨pages, d.fr, fun _ => none, [], []⟩ f dm (.slice none 0 0) (.slice none 0 0)) := by
   have := hb.cells
   rw [hm] at this
   exact this
 have hown0 : w'.ownsRow 0 3 1 (.slice none 0 0) ([] : List Nat).length (ints []) := World.ownsRow_nil _ _ _ _
 refine ⟨txMut t f dm Sf (.slice none 0 0) (.slice none 0 0) ++ (d.kv t rm Sd D σ Fo txn limit w.heap[0]? base keep).still, ⟨⟨⟨⟨pages, d.fr, fun _ => none, [], []⟩, f, dm, 0, Sf, .slice none 0 0, .slice none 0 0, ⟨hcells, hb.free.fl, ?_, by omega, hown0, hown0, hb.db.top, hb.db.rd, hb.db.pg, hdv, (show RowIs w.heap[0]? w from ⟨h.row, rfl⟩).off hb.off ?_, ?_, rfl, ?_, ?_⟩, ?_, ?_⟩, ⟨0, Nat.le_refl _, ?_⟩, ?_, hp.ok, rfl, rfl, rfl⟩, hE, ⟨?_, h.ap.2.1 |> fun _ => ?_, h.ap.2.2.1⟩, ?_, hp.on, ?_, ?_, rfl⟩, hb.off, ?_, hb.new.2.2.1⟩
 · have e : dirtyV (d.kv t rm Sd D σ Fo txn limit w.heap[0]? base keep).txn (fun _ => none) = fun _ => none := by funext i; unfold dirtyV; split <;> rfl
   rw [show (⟨pages, d.fr, fun _ => none, [], []⟩ : Tx).dirty = fun _ => none from rfl, e]
   exact hb.map
 · intro hs
   rw [List.mem_singleton] at hs
   have h1 := h.row 0 (by omega)
   have h2 := h.db.top.cell 0
   rw [← hs] at h2
   exact absurd (h1.symm.trans h2) (by simp)
 · refine ⟨⟨[], by simp, ?_⟩, hp.one.1, hp.one.2, hp.lim.2, hp.sorted, List.nodup_nil, by simp, fun n hn => hp.ok.there hn, fun y hy => by have := hp.txns y hy; omega⟩
   show (Fr.pg d.fr ++ ([] ++ ([] ++ (Fo.pages ++ (d.pcs ++ []))))).Perm (nums pages)
   simpa using hp.perm
 · have := hb.nodup
   show (t :: dm :: ([] ++ ([] ++ Sf))).Nodup
   simpa using this
 · intro x hx hs
   have h1 := hmut x hx
   have h2 := hstill x hs
   omega
 · funext n
   show σ n = (if n ∈ Fo.pages ∧ n ∉ ([] : List Nat) then σ n else none)
   by_cases hn : σ n = none
   · rw [hn]; simp
   · rw [if_pos ⟨hd n hn, by simp⟩]
 · have e1 : (d.kv t rm Sd D σ Fo txn limit w.heap[0]? base keep).upto = min ((txn : Int) - 1) (d.s.oldest (txn : Int)) := by
     show min (((txn + 1 : Nat) : Int) - 2) (d.s.oldest (((txn + 1 : Nat) : Int) - 1)) = _
     rw [show (((txn + 1 : Nat) : Int) - 2) = (txn : Int) - 1 by omega, show (((txn + 1 : Nat) : Int) - 1) = (txn : Int) by omega]
   have hkb' : F ∨ (base ≤ d.fr.length + (limit - pages) ∧ base + k ≤ d.fr.length + (limit - pages)) := hkb.imp id (fun h9 => ⟨by omega, h9⟩)
   refine ⟨?_, fun y hy => Nat.lt_succ_of_le (hp.txns y hy), hkb', fun y hy h9 => hkk y hy (by rw [e1] at h9; exact h9), fun n hn => ?_, hkp⟩
   · refine Nat.le_trans hks ?_
     unfold Tx.sure firstSure
     rw [e1]
     show _ ≤ 0 + (List.takeWhile _ d.fr).length + (limit - pages)
     omega
   · rcases hn with hn | hn
     · cases hn
     · exact absurd rfl hn
 · have e : rootsV Fo.R = fun _ => none := by funext n; unfold rootsV; rw [hp.R n]; rfl
   rw [e]
   exact hb.roots
 · intro hs
   rcases List.mem_append.1 hs with hs | hs
   · have := hb.rm
     simp only [txMut, Value.ownBlock, List.mem_cons, List.mem_append, Option.mem_toList] at hs
     simp only [List.mem_cons, not_or] at this
     rcases hs with hs | hs | hs | hs | hs
     · exact this.1 hs
     · exact this.2.1 hs
     · cases hs
     · cases hs
     · exact this.2.2 hs
   · have h1 := hstill _ hs
     have := hb.new.2.2.1
     show False
     have : rm < w.heap.size := h1
     omega
 · exact ⟨fun hs => h.db.bo (by simp [show d.b ∈ d.T from hs]), fun hs => h.db.ro (by simp [show d.r ∈ d.T from hs]), h.ap.2.2.2.2⟩
 · exact ⟨h.ap.1, h.ap.2.1, h.ap.2.2.2.1⟩
 · refine ⟨hp.calm, hp.sealed, hp.sec, hp.lim, ?_, ⟨?_, ?_⟩, ?_, ?_, hlm⟩
   · show ((txn + 1 : Nat) : Int) = d.P.m.t + 1
     omega
   · show 2 ≤ txn + 1
     have := hp.t1; omega
   · show txn + 1 ≤ 1001
     omega
   · show D.steps ≤ 3000 * (((txn + 1 : Nat) : Int) - 1)
     have := hp.steps; omega
   · show d.P.log.length ≤ 600 * (txn + 1 - 1)
     have := hp.log; omega
 · exact hb.db.pcs
 · intro g hg
   have hgw := (World.ownsRow.lt h.db.pcs g hg).2
   refine ⟨fun hs => ?_, fun e => ?_⟩
   · rcases List.mem_append.1 hs with hs | hs
     · have := hmut g hs; omega
     · simp only [Kv.still, Di.kv, List.mem_cons, List.mem_append] at hs
       have hpvg := h.pv g hg
       rcases hs with rfl | rfl | rfl | rfl | hs | hs
       · exact h.db.bo (by simp [show d.pv.ownBlock = some d.b from hg])
       · exact hpvg.1 hq
       · exact h.db.ro (by simp [show d.pv.ownBlock = some d.r from hg])
       · exact hpvg.2.2 rfl
       · exact hpvg.1 hs
       · exact hpvg.2.1 hs
   · have : g = rm := e
     have := hb.new.2.2.1
     omega
 · intro x hx
   rcases List.mem_append.1 hx with hx | hx
   · exact .inr (hmut x hx)
   · simp only [Kv.still, Di.kv, List.mem_cons, List.mem_append] at hx
     rcases hx with rfl | rfl | rfl | rfl | hx | hx
     · exact .inl (by simp [Di.blocks])
     · exact .inl (by simp [Di.blocks, hq])
     · exact .inl (by simp [Di.blocks])
     · exact .inl (by simp)
     · exact .inl (by simp [Di.blocks, hx])
     · exact .inl (by simp [hx])
theorem file_begin {w : World} {d : Di} {Sd : List Nat} {D : DevS} {σ : Book} {Fo : Forest} {txn pages limit : Nat} (h : FileAt w d Sd D σ Fo txn pages limit) (ht : txn ≤ 1000) (hu : 0 ≤ min ((txn : Int) - 1) (d.s.oldest (txn : Int))) {F : Prop} {base k : Nat} {keep : List Nat} (hks : k ≤ firstSure d.fr limit pages (min ((txn : Int) - 1) (d.s.oldest (txn : Int)))) (hkb : F ∨ base + k ≤ d.fr.length + (limit - pages)) (hkk : ∀ y ∈ d.fr, y.1 ≤ (min ((txn : Int) - 1) (d.s.oldest (txn : Int))).toNat → y.2 ∉ keep) (hkp : ∀ n ∈ keep, n < pages) :
   Calls Tryz.prog 11 #[.pointer (some ⟨d.b, 0, none⟩)] w (fun e w' => ∃ t rm S, e = .returned (.tuple #[.pointer (some ⟨t, 0, none⟩), .int .i64 0]) ∧
     St0 (d.kv t rm Sd D σ Fo txn limit w.heap[0]? base keep) F w' S σ k Fo 0 ∧ Off [d.b] w w' ∧ (∀ x ∈ S, x ∈ 0 :: (d.blocks ++ Sd) ∨ w.heap.size ≤ x) ∧ w.heap.size ≤ rm) := by
 have hp := h.plain
 have hlen : d.fr.length ≤ 1000 := by
   have h1 := hp.perm.length_eq
   have h2 := hp.one.2
   have h3 := hp.lim.2
   rw [List.length_append] at h1
   unfold nums Fr.pg at h1
   rw [List.length_map, List.length_map, List.length_range] at h1
   omega
 refine (begin_any h.db h.wv (by rw [hp.m]; show (txn : Int) < _; omega) (by rw [hp.m]; show 0 ≤ (txn : Int); omega) hlen).mono ?_
 rintro e w' ⟨t, f, dm, rm, Sf, rfl, hb⟩
 obtain ⟨S, h1, h2, h3, h4⟩ := begun_st0 h ht hu hks hkb hkk hkp hb
 exact ⟨t, rm, S, rfl, h1, h2, h3, h4⟩
structure Kn where
 t : Nat
 b : Nat
 q : Nat
 r : Nat
 g : Nat
 s : St
 txn : Nat
 limit : Nat
 ro : Option Obj
 base : Nat
def Kv.kn (E : Kv) : Kn := ⟨E.t, E.b, E.q, E.r, E.g, E.s, E.txn, E.limit, E.ro, E.base⟩
structure LdPl (E : Kv) (i : Nat) (G : Forest) (σ' : Book) (pages : Nat) (l : List (Nat × Nat)) (ch : List Nat) (d : Book) : Prop where
 R : ∀ n, G.R n = none
 ok : G.Ok σ'
 le : 1 ≤ pages ∧ pages ≤ E.limit
 perm : (Fr.pg l ++ (G.pages ++ ch)).Perm (nums pages)
 sorted : Fr.Sorted l
 txns : ∀ y ∈ l, y.1 ≤ E.txn
 keepd : ∀ n, d n ≠ none → n ∉ E.keep
 room : False ∨ E.base ≤ (l.filter fun y => decide (y.1 < E.txn)).length + (E.limit - pages)
 few : ch.length ≤ Fr.pieces E.limit
 tree : ∀ n ∈ G.pages, (d n ≠ none ∧ σ' n = d n) ∨ (d n = none ∧ n ∈ E.U ∧ σ' n = E.disk n)
 dirty : ∀ n, d n ≠ none → n ∈ G.pages ∨ n ∈ ch
 chain : ∀ i (hi : i < ch.length), d ch[i] = some (layPage ch l i) ∧ (layPart l ch.length i).length ≤ 40
 range : ∀ n, d n ≠ none → 1 ≤ n ∧ n < pages
 root : E.root = G.main.root
 fre : E.fre = (ch.headD 0 : Nat)
 open_ : E.over = false
 stage : E.stage = i
 calm : E.D.Calm
 sealed : E.P.sealed = if i = 4 then some (E.meta_ pages) else none
 sec : E.D.sec.length = 4 * E.limit
 lim : 4 ≤ E.limit ∧ E.limit ≤ 512
 t : (E.txn : Int) = E.P.m.t + 1
 txn : 2 ≤ E.txn ∧ E.txn ≤ 1001
 steps : E.D.steps ≤ 3000 * ((E.txn : Int) - 1) + (if i = 1 then 0 else 2048 + (i : Int))
 log : E.P.log.length ≤ 600 * (E.txn - 1) + (if i = 1 then 0 else 512)
 l : (E.limit : Int) = E.P.m.l
 on : if i = 1 then PagesOn E.D E.disk else PagesOn E.D σ'
 c4 : E.c4 = .pointer (some ⟨E.t, 0, none⟩)
def Ldd (K : Kn) (i : Nat) (w : World) (S : List Nat) (G : Forest) (σ' : Book) (pages : Nat) (l : List (Nat × Nat)) (ch : List Nat) : Prop :=
 ∃ E d f dm nn Sf lv, E.kn = K ∧ LdMem E w S pages l d ch f dm nn Sf lv ∧ E.Sep ∧ LdPl E i G σ' pages l ch d
theorem LdPl.metaOk {E : Kv} {i : Nat} {G : Forest} {σ' : Book} {pages : Nat} {l : List (Nat × Nat)} {ch : List Nat} {d : Book} (h : LdPl E i G σ' pages l ch d) : (E.meta_ pages).ok = true := by
 have hin : ∀ n, n ∈ G.pages ∨ n ∈ ch → n < pages := fun n hn => (nums_mem.1 (h.perm.mem_iff.1 (by rcases hn with hn | hn <;> simp [hn]))).2
 have hr : G.main.root < pages := by
   have hm := h.ok.main
   unfold Tn.Is at hm
   rcases hm with ⟨h1, -, -⟩ | ⟨dd, cs', P', hP, -⟩
   · have := h.le; omega
   · exact hin _ (.inl (by unfold Forest.pages; rw [hP]; simp))
 have hf : ch.headD 0 < pages := by
   cases hc : ch with
   | nil => have := h.le; show 0 < pages; omega
   | cons a t => exact hin a (.inr (by rw [hc]; simp))
 refine rightM_of ?_
 have h1 := h.le
 have h2 := h.lim
 have h3 := h.txn
 show 0 ≤ (E.txn : Int) ∧ (E.txn : Int) ≤ 1099511627776 ∧ 2 ≤ (E.limit : Int) ∧ (E.limit : Int) ≤ 512 ∧ 1 ≤ (pages : Int) ∧ (pages : Int) ≤ E.limit ∧ 0 ≤ E.root ∧ E.root < pages ∧ 0 ≤ E.fre ∧ E.fre < pages
 rw [h.root, h.fre]
 omega
theorem LdPl.fits {E : Kv} {i : Nat} {G : Forest} {σ' : Book} {pages : Nat} {l : List (Nat × Nat)} {ch : List Nat} {d : Book} (h : LdPl E i G σ' pages l ch d) : ∀ n p, d n = some p → rightB p.kind n E.txn p.body = true ∧ (n : Int) < E.P.m.l ∧ 4 * n + 4 ≤ E.D.sec.length := by
 intro n p hp
 have hn := h.range n (by rw [hp]; simp)
 have h1 := h.le
 have h2 := h.lim
 have h3 := h.txn
 have hk : 1 ≤ p.kind ∧ p.kind ≤ 4 ∧ p.body.size ≤ 488 := by
   rcases h.dirty n (by rw [hp]; simp) with hg | hg
   · rcases h.tree n hg with ⟨-, hs⟩ | ⟨hno, -⟩
     · obtain ⟨k1, k2, k3⟩ := h.ok.fit n p (by rw [hs]; exact hp)
       exact ⟨k1, by omega, k3⟩
     · rw [hno] at hp; cases hp
   · obtain ⟨j, hj, rfl⟩ := List.getElem_of_mem hg
     obtain ⟨c1, c2⟩ := h.chain j hj
     rw [hp] at c1
     injection c1 with c1
     subst c1
     refine ⟨show (1 : Nat) ≤ 4 by decide, show (4 : Nat) ≤ 4 by decide, ?_⟩
     show (ByteArray.mk (Fr.bytes (ch.getD (j + 1) 0) (layPart l ch.length j)).toArray).size ≤ 488
     have : (ByteArray.mk (Fr.bytes (ch.getD (j + 1) 0) (layPart l ch.length j)).toArray).size = (Fr.bytes (ch.getD (j + 1) 0) (layPart l ch.length j)).length := rfl
     rw [this, Fr.bytes_len]
     omega
 refine ⟨?_, ?_, ?_⟩
 · unfold rightB
   simp only [Bool.and_eq_true, decide_eq_true_eq]
   omega
 · rw [← h.l]; omega
 · rw [h.sec]; omega
theorem st0_step {E : Kv} {w : World} {S : List Nat} {σ : Book} {k nr : Nat} {Fo : Forest} (h : St0 E False w S σ k Fo nr) (hnr : nr ≤ 1000000) (hnz : ∀ n r, Fo.R n = some r → r ≠ 0)
   (hk : Fo.NS.length * Tr.need (Fo.main.L.length + Fo.NS.length) + Fr.pieces E.limit ≤ k) :
   Calls Tryz.prog 13 #[.pointer (some ⟨E.t, 0, none⟩)] w (fun e w' => e = .returned (.tuple #[.bool false, .int .i64 0]) ∧ ∃ G σ' pages l ch S', Ldd E.kn 1 w' S' G σ' pages l ch ∧ G.tr = Fo.tr ∧ G.NS = Fo.NS ∧ Off S w w' ∧ Fresh w S S') := by
 refine (tstep0 h.ok h.wr hnr hnz h.pv (fun g hg => (h.pvS g hg).1) hk).mono ?_
 rintro e w' ⟨rfl, G, σ', pages, l, d, ch, f, dm, nn, Sf, lv, S', hl⟩
 have hf := h.fine
 refine ⟨rfl, G, σ', pages, l, ch, S', ⟨_, d, f, dm, nn, Sf, lv, ?_, hl.mem, ⟨h.sep.t, h.sep.s, h.sep.ap⟩, ?_⟩, hl.tr, hl.NS, hl.off, hl.fresh⟩
 · rfl
 · exact ⟨hl.R, hl.ok, hl.le, hl.perm, hl.sorted, hl.stamps, hl.keepd, hl.room, hl.few, hl.tree, hl.dirty, hl.chain, hl.range, rfl, rfl, h.wr.open_, rfl, hf.calm, hf.sealed, hf.sec, hf.lim, hf.t, hf.txn, by rw [if_pos rfl]; have := hf.steps; show E.D.steps ≤ 3000 * ((E.txn : Int) - 1) + 0; omega, by rw [if_pos rfl]; exact hf.log, hf.l, by rw [if_pos rfl]; exact h.on, h.c4⟩
theorem ldd_step1 {K : Kn} {w : World} {S : List Nat} {G : Forest} {σ' : Book} {pages : Nat} {l : List (Nat × Nat)} {ch : List Nat} (h : Ldd K 1 w S G σ' pages l ch) :
   Calls Tryz.prog 13 #[.pointer (some ⟨K.t, 0, none⟩)] w (fun e w' => e = .returned (.tuple #[.bool false, .int .i64 0]) ∧ ∃ S', Ldd K 2 w' S' G σ' pages l ch ∧ Off S w w' ∧ Fresh w S S') := by
 obtain ⟨E, d, f, dm, nn, Sf, lv, rfl, hm, hs, hp⟩ := h
 have hfit := hp.fits
 have hst := hp.steps
 have hlg := hp.log
 have htx := hp.txn
 rw [if_pos rfl] at hst hlg
 have hd512 : ∀ n, d n ≠ none → n < 512 := fun n hn => by
   have h1 := hp.range n hn
   have h2 := hp.le
   have h3 := hp.lim
   omega
 obtain ⟨D', k1, k2, k3, k4⟩ := putAll_calm E.txn d (keysOf d) hp.calm ((keysOf_rise d).imp (fun h => by omega)) (fun n hn => by
   have h1 := (keysOf_mem hd512 n).1 hn
   cases hdn : d n with
   | none => exact absurd hdn h1
   | some p => exact ⟨p, rfl, (hfit n p hdn).1, (hfit n p hdn).2.2⟩)
 refine (tstep1 hm hs hp.open_ hp.stage hfit (by omega) (by omega) k1).mono ?_
 rintro e w' ⟨rfl, T', Sd', P', S', m, q1, q2, q3, q4, q5, q6, q7⟩
 subst q5
 refine ⟨rfl, S', ⟨_, d, f, dm, nn, Sf, lv, ?_, q1, ⟨q2.t, q2.s, q2.ap⟩, ?_⟩, q3, q4⟩
 · rfl
 · have hlen := keysOf_len d
   refine ⟨hp.R, hp.ok, hp.le, hp.perm, hp.sorted, hp.txns, hp.keepd, hp.room, hp.few, hp.tree, hp.dirty, hp.chain, hp.range, hp.root, hp.fre, hp.open_, rfl, k2, hp.sealed, q7.trans hp.sec, hp.lim, hp.t, hp.txn, ?_, ?_, hp.l, ?_, hp.c4⟩
   · rw [if_neg (by decide)]
     show D'.steps ≤ 3000 * ((E.txn : Int) - 1) + (2048 + 2)
     omega
   · rw [if_neg (by decide)]
     show (E.P.log ++ ((keysOf d).take m).map (fun (n : Nat) => (n : Int))).length ≤ 600 * (E.txn - 1) + 512
     rw [List.length_append, List.length_map, List.length_take]
     omega
   · rw [if_neg (by decide)]
     have hon := hp.on
     rw [if_pos rfl] at hon
     refine hon.next (keysOf_mem hd512) (fun n p hn => (hp.range n (by rw [hn]; simp)).1) k4 k3 (U := E.U) (fun n hn => ?_)
     exact hp.tree n (hp.ok.full n hn)
theorem ldd_step2 {K : Kn} {w : World} {S : List Nat} {G : Forest} {σ' : Book} {pages : Nat} {l : List (Nat × Nat)} {ch : List Nat} (h : Ldd K 2 w S G σ' pages l ch) :
   Calls Tryz.prog 13 #[.pointer (some ⟨K.t, 0, none⟩)] w (fun e w' => e = .returned (.tuple #[.bool false, .int .i64 0]) ∧ ∃ S', Ldd K 3 w' S' G σ' pages l ch ∧ Off S w w' ∧ Fresh w S S') := by
 obtain ⟨E, d, f, dm, nn, Sf, lv, rfl, hm, hs, hp⟩ := h
 have hst := hp.steps
 have hlg := hp.log
 have htx := hp.txn
 have hon := hp.on
 rw [if_neg (by decide)] at hst hlg hon
 have hsl := DevS.stepped_le E.D
 refine (tstep2 hm hs hp.open_ hp.stage (by omega) hp.calm.sync).mono ?_
 rintro e w' ⟨rfl, Sd', S', q1, q2, q3, q4⟩
 refine ⟨rfl, S', ⟨_, d, f, dm, nn, Sf, lv, ?_, q1, ⟨q2.t, q2.s, q2.ap⟩, ?_⟩, q3, q4⟩
 · rfl
 · refine ⟨hp.R, hp.ok, hp.le, hp.perm, hp.sorted, hp.txns, hp.keepd, hp.room, hp.few, hp.tree, hp.dirty, hp.chain, hp.range, hp.root, hp.fre, hp.open_, rfl, ⟨hp.calm.stepped.on, hp.calm.stepped.fuse⟩, hp.sealed, ?_, hp.lim, hp.t, hp.txn, ?_, ?_, hp.l, ?_, hp.c4⟩
   · show (E.D.stepped.synced).sec.length = 4 * E.limit
     rw [DevS.synced_len, DevS.stepped_len]
     exact hp.sec
   · rw [if_neg (by decide)]
     show E.D.stepped.steps ≤ 3000 * ((E.txn : Int) - 1) + (2048 + 3)
     omega
   · rw [if_neg (by decide)]
     exact hlg
   · rw [if_neg (by decide)]
     exact hon.sync
theorem ldd_step3 {K : Kn} {w : World} {S : List Nat} {G : Forest} {σ' : Book} {pages : Nat} {l : List (Nat × Nat)} {ch : List Nat} (h : Ldd K 3 w S G σ' pages l ch) :
   Calls Tryz.prog 13 #[.pointer (some ⟨K.t, 0, none⟩)] w (fun e w' => e = .returned (.tuple #[.bool false, .int .i64 0]) ∧ ∃ S', Ldd K 4 w' S' G σ' pages l ch ∧ Off S w w' ∧ Fresh w S S') := by
 obtain ⟨E, d, f, dm, nn, Sf, lv, rfl, hm, hs, hp⟩ := h
 have hst := hp.steps
 have hlg := hp.log
 have htx := hp.txn
 have hon := hp.on
 have hsd := hp.sealed
 rw [if_neg (by decide)] at hst hlg hon hsd
 have hok := hp.metaOk
 have hsz := MetaV.size hok
 have hlim := hp.lim
 have hsec := hp.sec
 have ht := hp.t
 obtain ⟨i, hi⟩ : ∃ i : Nat, i = E.txn % 2 := ⟨_, rfl⟩
 have hii : (E.txn : Int) % 2 = (i : Int) := by rw [hi]; omega
 have hi2 : i < 2 := by omega
 have hil : i < E.D.sec.length := by omega
 obtain ⟨c1, c2⟩ := hp.calm.write hil hsz
 obtain ⟨k1, k2, -⟩ := DevS.write_wrote hil hsz
 refine (tstep3 (D' := (E.D.write (i : Int) (E.meta_ pages).bytes).1) hm hs hp.open_ hp.stage (by omega) hsd hok hp.l ht (by omega) (by rw [hii]; exact Prod.ext rfl c1)).mono ?_
 rintro e w' ⟨rfl, T', Sd', S', q1, q2, q3, q4⟩
 refine ⟨rfl, S', ⟨_, d, f, dm, nn, Sf, lv, ?_, q1, ⟨q2.t, q2.s, q2.ap⟩, ?_⟩, q3, q4⟩
 · rfl
 · refine ⟨hp.R, hp.ok, hp.le, hp.perm, hp.sorted, hp.txns, hp.keepd, hp.room, hp.few, hp.tree, hp.dirty, hp.chain, hp.range, hp.root, hp.fre, hp.open_, rfl, c2, ?_, ?_, hp.lim, hp.t, hp.txn, ?_, ?_, hp.l, ?_, hp.c4⟩
   · rw [if_pos rfl]
     rfl
   · show ((E.D.write (i : Int) (E.meta_ pages).bytes).1).sec.length = 4 * E.limit
     rw [k1.sec]
     exact hp.sec
   · rw [if_neg (by decide)]
     show ((E.D.write (i : Int) (E.meta_ pages).bytes).1).steps ≤ 3000 * ((E.txn : Int) - 1) + (2048 + 4)
     omega
   · rw [if_neg (by decide)]
     exact hlg
   · rw [if_neg (by decide)]
     exact hon.twoMetas hi2 hil hsz
theorem ldd_done {K : Kn} {w : World} {S : List Nat} {G : Forest} {σ' : Book} {pages : Nat} {l : List (Nat × Nat)} {ch : List Nat} (h : Ldd K 4 w S G σ' pages l ch) :
   Calls Tryz.prog 13 #[.pointer (some ⟨K.t, 0, none⟩)] w (fun e w' => e = .returned (.tuple #[.bool true, .int .i64 0]) ∧ ∃ d' Sd' D', FileAt w' d' Sd' D' σ' G K.txn pages K.limit ∧ d'.b = K.b ∧ d'.q = K.q ∧ d'.r = K.r ∧ d'.g = K.g ∧ d'.s = K.s ∧ d'.fr = l ∧ d'.pcs = ch ∧ w'.heap[0]? = K.ro ∧ K.base ≤ (l.filter fun y => decide (y.1 < K.txn)).length + (K.limit - pages) ∧ Off S w w' ∧ (∀ x ∈ d'.blocks ++ Sd', x ∈ S ∨ w.heap.size ≤ x)) := by
 obtain ⟨E, d, f, dm, nn, Sf, lv, rfl, hm, hs, hp⟩ := h
 have hst := hp.steps
 have hlg := hp.log
 have htx := hp.txn
 have hon := hp.on
 have hsd := hp.sealed
 rw [if_neg (by decide)] at hst hlg hon
 rw [if_pos rfl] at hsd
 have hsl := DevS.stepped_le E.D
 refine (tstep4 hm hs hp.open_ hp.stage (by omega) hsd hp.calm.sync).mono ?_
 rintro e w' ⟨rfl, T', Sd', hd⟩
 have hmutlt : ∀ x ∈ txMut E.t f dm Sf lv (.slice none 0 0), x < w.heap.size := by
   intro x hx
   simp only [txMut, Value.ownBlock, List.mem_cons, List.mem_append, Option.mem_toList] at hx
   rcases hx with rfl | rfl | hx | hx | hx
   · exact hm.cells.lt
   · exact hm.map.lt
   · exact (World.ownsRow.lt hm.loose x hx).2
   · cases hx
   · exact hm.free.old _ hx
 have hstl : ∀ x, x ∈ E.still → x ∈ S := fun x hx => by rw [hm.blocks]; exact List.mem_append.2 (.inr hx)
 have hmtl : ∀ x, x ∈ txMut E.t f dm Sf lv (.slice none 0 0) → x ∈ S := fun x hx => by rw [hm.blocks]; exact List.mem_append.2 (.inl hx)
 have hnT : ∀ x ∈ txMut E.t f dm Sf lv (.slice none 0 0), x ∉ T' ∧ x ∉ Sd' := fun x hx => by
   have h1 := hmutlt x hx
   have h2 := hm.apart x hx
   refine ⟨fun hs' => ?_, fun hs' => ?_⟩
   · rcases hd.fT x hs' with h3 | h3
     · exact h2 (by simp [Kv.still, h3])
     · omega
   · rcases hd.fS x hs' with h3 | h3
     · exact h2 (by simp [Kv.still, h3])
     · omega
 obtain ⟨cs, ht1, ht2⟩ := hd.txn
 refine ⟨rfl, ⟨E.b, E.q, E.r, f, E.g, T', Sf, ⟨E.meta_ pages, E.P.m, true, none, E.P.log⟩, E.s, l, lv, ch, E.c4⟩, Sd', E.D.stepped.synced, ⟨hd.db, hd.dev, hd.row.1, ?_, ?_, ?_, .inr ⟨E.t, cs, hp.c4, ht1, ht2⟩⟩, rfl, rfl, rfl, rfl, rfl, rfl, rfl, hd.row.2, hp.room.resolve_left id, hd.off, ?_⟩
 · refine ⟨⟨hp.calm.stepped.on, hp.calm.stepped.fuse⟩, ?_, rfl, ?_, hp.lim, by show 1 ≤ E.txn; omega, ?_, ?_, hp.ok, hp.R, hon.sync, hp.le, hp.perm, hp.sorted, hp.txns, hp.few⟩
   · show E.meta_ pages = ⟨E.txn, G.main.root, (ch.headD 0 : Nat), pages, E.limit⟩
     unfold Kv.meta_
     rw [hp.root, hp.fre]
   · show (E.D.stepped.synced).sec.length = 4 * E.limit
     rw [DevS.synced_len, DevS.stepped_len]
     exact hp.sec
   · show E.D.stepped.steps ≤ 3000 * (E.txn : Int)
     omega
   · show E.P.log.length ≤ 600 * E.txn
     omega
 · exact ⟨hd.sep.s.1, hd.sep.s.2.1, hd.sep.ap, hd.sep.s.2.2, hd.sep.t.2.2⟩
 · intro g hg
   have hg' : g ∈ txMut E.t f dm Sf lv (.slice none 0 0) := by
     have : lv.ownBlock = some g := hg
     simp [txMut, this]
   refine ⟨(hnT g hg').1, (hnT g hg').2, fun e => hm.apart g hg' ?_⟩
   rw [e]
   simp [Kv.still]
 · intro x hx
   simp only [Di.blocks, List.mem_cons, List.mem_append, Option.mem_toList] at hx
   rcases hx with (rfl | rfl | hx | hx | hx) | hx
   · exact .inl (hstl _ (by simp [Kv.still]))
   · exact .inl (hstl _ (by simp [Kv.still]))
   · exact (hd.fT x hx).imp (fun h1 => hstl _ (by simp [Kv.still, h1])) id
   · exact .inl (hmtl _ (by simp [txMut, hx]))
   · exact .inl (hmtl _ (by simp [txMut, hx]))
   · exact (hd.fS x hx).imp (fun h1 => hstl _ (by simp [Kv.still, h1])) id
def Forest.zero : Forest := ⟨Tn.zero, fun _ => none, fun _ => Tn.zero, []⟩
theorem Forest.zero_ok : Forest.zero.Ok (fun _ => none) where
 main := .inl ⟨rfl, rfl, rfl⟩
 each := fun n => .inl ⟨rfl, rfl, rfl⟩
 out := fun n _ => rfl
 nodup := List.nodup_nil
 full := fun n h => absurd rfl h
 names := fun e he => (by cases he)
 law := fun n r h => (by cases h)
 law0 := fun n _ => .inr ⟨fun e he => (by cases he), rfl⟩
 nd := List.nodup_nil
 valid := fun n h => (by cases h)
def newDi (b q r f g : Nat) (Sf : List Nat) (limit : Nat) : Di := ⟨b, q, r, f, g, [q], Sf, fmtPg limit, St.empty, [], .slice none 0 0, [], .pointer none⟩
theorem fmt_plain {limit : Nat} (h : 4 ≤ limit ∧ limit ≤ 512) : FileP (fmtDev (4 * limit) limit) (fmtPg limit) [] [] (fun _ => none) Forest.zero 1 1 limit :=
 ⟨⟨rfl, rfl⟩, rfl, rfl, (by simp [fmtDev]), h, Nat.le_refl _, (by show (3 : Int) ≤ 3000 * ((1 : Nat) : Int); omega), (by show ([] : List Int).length ≤ _; simp), Forest.zero_ok, fun _ => rfl, fun n p h => (by cases h), ⟨Nat.le_refl _, (by omega)⟩, (by decide), List.Pairwise.nil, fun y hy => (by cases hy), Nat.zero_le _⟩
abbrev lwCells (g b : Nat) (t rd rows next : Value) (mb : Bool) : Array Value := #[ptr g, .pointer (some ⟨b, 0, none⟩), t, rd, rows, next, .bool mb]
def LBeginPost (limit : Nat) (w : World) (e : Ending) (w' : World) : Prop := ∃ u b q r f g Sf Sd, e = .returned (.pointer (some ⟨u, 0, none⟩)) ∧
 Bk w' u 33 (lwCells g b (.pointer none) (.slice none 0 0) (.slice none 0 0) (.slice none 0 0) false) ∧
 FileAt w' (newDi b q r f g Sf limit) Sd (fmtDev (4 * limit) limit) (fun _ => none) Forest.zero 1 1 limit ∧ Below w.heap.size w w' ∧ (∀ x ∈ u :: ((newDi b q r f g Sf limit).blocks ++ Sd), w.heap.size ≤ x) ∧ u ∉ (newDi b q r f g Sf limit).blocks ++ Sd
set_option maxHeartbeats 16000000 in
theorem lbegin_any (limit : Nat) (hl : 4 ≤ limit ∧ limit ≤ 512) (w : World) (hr : RowAt w) : Calls Tryz.prog 10 #[.int .i64 limit] w (LBeginPost limit w) := by
 have HR := Lib.hid hr
 have y4 : IntKind.i64.wrap (4 * (limit : Int)) = ((4 * limit : Nat) : Int) := by rw [IntKind.wrap_i64]; omega
 have HN : Hid (∀ W, Calls Tryz.prog 41 #[.int .i64 ((4 * limit : Nat) : Int)] W (NewPost (4 * limit) W)) := fun W => dnew_any (4 * limit) W (by omega) (by omega)
 have HF : Hid (formatD (DevS.new (4 * limit)) limit = (fmtDev (4 * limit) limit, 0)) := format_new (by omega) (by omega)
 have HO : Hid (openR (fmtDev (4 * limit) limit) = 0 ∧ openP (fmtDev (4 * limit) limit) = fmtPg limit) := fmt_open (by omega) (by omega)
 have HL := Lib.hid hl
 obtain ⟨n4, hn4⟩ : ∃ n4, n4 = 4 * limit := ⟨_, rfl⟩
 rw [← hn4] at HN HF HO y4
 have HN4 := Lib.hid hn4
 clear hr hl hn4
 go_enter Tryz.func10, Tryz.ntmps10
 go_wp2_with fail
 (go_at_call 41)
 refine (HN.out _).mono ?_
 rintro e w1 ⟨g, S1, rfl, hd1, hbel1, hS1⟩
 have HD1 := Lib.hid hd1
 have H1 : Hid (Below w.heap.size w w1 ∧ ∀ b ∈ S1, w.heap.size ≤ b) := ⟨hbel1, hS1⟩
 clear hd1 hbel1 hS1
 go_wp2_with fail
 (go_at_call 42)
 have hlens : (DevS.new n4).sec.length = n4 := by simp [DevS.new]
 have hlim : 4 ≤ (limit : Int) ∧ (limit : Int) ≤ 512 ∧ 4 * (limit : Int) ≤ ((DevS.new n4).sec.length : Int) := by
   have h1 := HL.out
   have h2 := HN4.out
   rw [hlens]
   omega
 have HLIM := Lib.hid hlim
 clear hlens hlim
 refine (kvformat_any ((format_to HD1.out limit (HR.out.below H1.out.1) (row_not HR.out H1.out.2) (by show (0 : Int) ≤ _; omega) HLIM.out 0 HF.out).mono (fun e w' h => ⟨⟨_, h.1⟩, h⟩))).mono ?_
 rintro e w2 ⟨rfl, hp2⟩
 obtain ⟨S2, hd2, hbel2, hS2⟩ := post_new H1.out.1 H1.out.2 hp2
 have HD2 := Lib.hid hd2
 have H2 : Hid (Below w.heap.size w w2 ∧ ∀ b ∈ S2, w.heap.size ≤ b) := ⟨hbel2, hS2⟩
 clear hd2 hbel2 hS2 hp2
 go_wp2_with fail
 (go_at_call 43)
 refine (kvopen_g HD2.out (HR.out.below H2.out.1) (by show (3 : Int) ≤ _; omega) HO.out.1 HO.out.2 rfl).mono ?_
 rintro e w3 ⟨b, q, r, f, Sf, rfl, hdb, hb1, hq1, hr1, hsf1, hbel3⟩
 have HDB := Lib.hid hdb
 have HB3 := Lib.hid hbel3
 have HNW := Lib.hid (show w2.heap.size ≤ b ∧ w2.heap.size ≤ q ∧ w2.heap.size ≤ r ∧ ∀ x ∈ Sf, w2.heap.size ≤ x from ⟨hb1, hq1, hr1, hsf1⟩)
 clear hdb hb1 hq1 hr1 hsf1 hbel3
 go_wp2_with fail
 go_ret
 have hd3 := HDB.out
 have hs3 := HB3.out.size
 have hs2 := H2.out.1.size
 have hn4 := HN4.out
 obtain ⟨nb, nq, nr, nf⟩ := HNW.out
 have hdv := HD2.out.below HB3.out
 have hblk : ∀ x ∈ (newDi b q r f g Sf limit).blocks, w2.heap.size ≤ x ∧ x < w3.heap.size := fun x hx => by
   refine ⟨?_, hd3.old x hx⟩
   simp only [Di.blocks, newDi, Value.ownBlock, List.mem_cons, List.mem_append, Option.mem_toList, List.not_mem_nil, or_false] at hx
   rcases hx with rfl | rfl | rfl | hx | hx
   · exact nb
   · exact nr
   · exact nq
   · exact nf _ hx
   · cases hx
 have hSd : ∀ x ∈ S2, w.heap.size ≤ x ∧ x < w2.heap.size := fun x hx => ⟨H2.out.2 x hx, HD2.out.old x hx⟩
 have hrow := HR.out.lt
 subst hn4
 refine ⟨w3.heap.size, b, q, r, f, g, Sf, S2, rfl, Bk.new w3 _ _, ⟨hd3.below ((Below.refl _ _).alloc (Nat.le_refl _) _), hdv.below ((Below.refl _ _).alloc (Nat.le_refl _) _), HR.out.below (H2.out.1.trans ((HB3.out.alloc hs3 _).mono hs2)), fmt_plain HL.out, ⟨fun hs => ?_, fun hs => ?_, fun x hx hs => ?_, fun hs => ?_, fun hs => ?_⟩, fun g hg => (by cases hg), .inl rfl⟩, H2.out.1.trans ((HB3.out.alloc hs3 _).mono hs2), ?_, ?_⟩
 · have h1 := hSd _ hs; have h2 := hblk b (by simp [Di.blocks, newDi]); exact absurd h1.2 (by show ¬ b < _; omega)
 · have h1 := hSd _ hs; have h2 := hblk r (by simp [Di.blocks, newDi]); exact absurd h1.2 (by show ¬ r < _; omega)
 · have h1 := hSd _ hs; have h2 := hblk x (by simp [Di.blocks, hx]); omega
 · have h1 := hSd _ hs; omega
 · have h2 := hblk _ (by simp only [Di.blocks, List.mem_cons, List.mem_append]; exact .inr (.inr (.inl hs))); omega
 · intro x hx
   rcases List.mem_cons.1 hx with rfl | hx
   · omega
   · rcases List.mem_append.1 hx with hx | hx
     · have := hblk x hx; omega
     · exact (hSd x hx).1
 · intro hx
   rcases List.mem_append.1 hx with hx | hx
   · have := hblk _ hx; omega
   · have := hSd _ hx; omega
theorem name_zero (w : World) : Calls Tryz.prog 126 #[.int .i64 0] w (fun e w' => e = .returned (.string ⟨#[97]⟩) ∧ w = w') := by
 have hb : bits .and .i64 (0 : Int) 3 = 0 := by decide
 go_enter Tryz.func126, Tryz.ntmps126
 go_wp2_with fail
 go_ret
 exact ⟨rfl, rfl⟩
theorem value_short (k n : Int) (key val : ByteArray) (pk : Value) (w : World) : Calls Tryz.prog 125 #[.agg #[.int .i64 k, .int .i64 n, .string key, .string val, .int .i64 0, pk]] w (fun e w' => e = .returned (.string val) ∧ Below w.heap.size w w') := by
 go_enter Tryz.func125, Tryz.ntmps125
 go_wp2_with fail
 go_ret
 exact ⟨rfl, (Below.refl _ _).alloc (Nat.le_refl _) _⟩
theorem over_any {w : World} {t : Nat} {cs : Array Value} {v : Bool} (h : Bk w t 103 cs) (h13 : cs[13]? = some (.bool v)) : Calls Tryz.prog 20 #[.pointer (some ⟨t, 0, none⟩)] w (fun e w' => e = .returned (.bool v) ∧ w = w') := by
 have c13 := (h.cell 13).trans h13
 have lt := h.lt
 clear h
 go_enter Tryz.func20, Tryz.ntmps20
 go_wp2_with fail
 go_ret
 exact ⟨rfl, rfl⟩
theorem rdel_none (a b : Value) (w : World) : Calls Tryz.prog 83 #[.slice none 0 0, a, b] w (fun e w' => e = .returned (.slice (some ⟨w.heap.size, 0, none⟩) 0 0) ∧ w' = w.alloc (.cells #[] 143)) := by
 go_enter Tryz.func83, Tryz.ntmps83
 go_wp2_with fail
 refine wp_loop_rounds 2 ?_
 rw [rounds_succ]
 go_wp2_with fail
 go_ret
 exact ⟨rfl, rfl⟩
theorem info_rrow : (Tryz.prog.info? 143).map (fun i => (i.zero, i.size, i.bytes)) = some (some (.agg #[.string ⟨#[]⟩, .string ⟨#[]⟩, .string ⟨#[]⟩]), 3, 48) := by kernel_rfl
set_option maxHeartbeats 8000000 in
theorem rput_none (a b c : ByteArray) (w : World) : Calls Tryz.prog 84 #[.slice none 0 0, .agg #[.string a, .string b, .string c]] w (fun e w' => (∃ A m cap, e = .returned (.slice A m cap)) ∧ Below w.heap.size w w') := by
 have HD := Lib.hid fun (W : World) => rdel_none (.string a) (.string b) W
 obtain ⟨i0, hi, iz0, iz1, iz2⟩ := info_parts info_rrow
 go_enter Tryz.func84, Tryz.ntmps84
 go_wp2_with fail
 refine (HD.out _).mono ?_
 rintro e w1 ⟨rfl, rfl⟩
 go_wp2_with fail
 refine wp_loop_rounds 2 ?_
 rw [rounds_succ]
 go_wp2_with fail
 go_quiet (fail)
 have HNIL := Lib.hid (show ∀ n : Nat, (((((w.alloc (.cells #[.string a, .string b, .string c] 143)).alloc (.cells #[] 143)).alloc (.cells #[] 143)).drewN n).alloc (.cells #[.string a, .string b, .string c] 143)).ownsRow w.heap.size 143 3 (.slice (some ⟨w.heap.size + 1 + 1, 0, none⟩) 0 0) 0 [] from fun n => by
   have h0 := ((Off.refl [] (((w.alloc (.cells #[.string a, .string b, .string c] 143)).alloc (.cells #[] 143)).alloc (.cells #[] 143))).drewN n |>.alloc (.cells #[.string a, .string b, .string c] 143)).own (World.ownsRow_lit (size := 3) (e := 143) ((w.alloc (.cells #[.string a, .string b, .string c] 143)).alloc (.cells #[] 143)) (base := w.heap.size) #[] 0 (by simp; omega) (by unfold maxLen; omega) rfl) (by simp)
   simpa using h0)
 have HNEW := Lib.hid (show ∀ n : Nat, (((((w.alloc (.cells #[.string a, .string b, .string c] 143)).alloc (.cells #[] 143)).alloc (.cells #[] 143)).drewN n).alloc (.cells #[.string a, .string b, .string c] 143)).heap[w.heap.size + 1 + 1 + 1]? = some (.cells #[.string a, .string b, .string c] 143) from fun n => by
   have h0 := heap_alloc_new ((((w.alloc (.cells #[.string a, .string b, .string c] 143)).alloc (.cells #[] 143)).alloc (.cells #[] 143)).drewN n) (.cells #[.string a, .string b, .string c] 143)
   simpa using h0)
 have HBN := Lib.hid (show ∀ n : Nat, Off [] w (((((w.alloc (.cells #[.string a, .string b, .string c] 143)).alloc (.cells #[] 143)).alloc (.cells #[] 143)).drewN n).alloc (.cells #[.string a, .string b, .string c] 143)) from fun n => ((((Off.refl [] w).alloc _).alloc _).alloc _).drewN n |>.alloc _)
 have HSZ := Lib.hid (show ∀ n : Nat, (((((w.alloc (.cells #[.string a, .string b, .string c] 143)).alloc (.cells #[] 143)).alloc (.cells #[] 143)).drewN n).alloc (.cells #[.string a, .string b, .string c] 143)).heap.size = w.heap.size + 4 from fun n => by simp)
 go_wp2_with (first
   | (at_builtin; refine wpList_append_k _ rfl (.tmp 35) (.tmp 37) 31 rfl w.heap.size 143 i0 _ 3 48 Tryz.underlying31 hi iz0 iz1 iz2 rfl (by omega) (.slice (some ⟨w.heap.size + 1 + 1, 0, none⟩) 0 0) 0 [] rfl (HNIL.out _) (some ⟨w.heap.size + 1 + 1 + 1, 0, none⟩) 1 1 [.string a, .string b, .string c] rfl rfl (fun hh => by cases hh) (fun ad had => by injection had with had; subst had; exact World.news_of_block (HNEW.out _)) (by simp [Value.oneCell']) (by unfold maxLen; omega) (by omega) (by rw [HSZ.out]; omega) ?_;
      intro A1 c1 w2 hown2 hgrow2;
      have HO2 := Lib.hid hown2;
      have HN2 := Lib.hid (((HBN.out _).grown hgrow2 (fun g hg => .inr (World.ownsRow.lt (HNIL.out 0) g hg).1)).below (Nat.le_refl _) (by simp));
      clear hown2 hgrow2)
   | (at_builtin; refine wpList_append_k _ rfl (.tmp 39) (.tmp 42) 31 rfl w.heap.size 143 i0 _ 3 48 Tryz.underlying31 hi iz0 iz1 iz2 rfl (by omega) (.slice A1 (0 + 1) c1) (0 + 1) ([] ++ [.string a, .string b, .string c]) rfl HO2.out (some ⟨w.heap.size + 1, 0, none⟩) 0 0 [] rfl rfl (fun hh => by cases hh) (fun ad had j u hu => by simp at hu) (by simp) (by unfold maxLen; omega) (by omega) HN2.out.size ?_;
      intro A3 c3 w3 hown3 hgrow3;
      have HN3 := Lib.hid (((Off.of_below HN2.out []).grown hgrow3 (fun g hg => .inr (World.ownsRow.lt HO2.out g hg).1)).below (Nat.le_refl _) (by simp));
      clear hown3 hgrow3)
   | fail)
 go_ret
 exact ⟨⟨_, _, _, rfl⟩, HN3.out⟩
end Go.Proofs.YtjbcbnemdhbhbaaGreatDoor

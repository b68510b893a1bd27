import Derived.Test.YtjbcbnemdhbhbaaGreatDoorG19
import Derived.Test.YtjbcbnemdhbhbaaGreatDoorG20
namespace Go.Proofs.YtjbcbnemdhbhbaaGreatDoor
open Go.RowKit
set_option maxRecDepth 100000
set_option linter.unusedVariables false
set_option linter.unusedSimpArgs false
def EditWay (p : Store) (S : List Nat) (σ : Book) (k d : Nat) (key : ByteArray) (Q : List Nat) (L : List En) (w w' : World) (r : Rw) (b : Int) : Prop :=
 (b = 0 ∧ ∃ (ps : List Pt) (xs : List Tr.Pd) (P' : List Nat) (σ' : Book) (S' : List Nat) (k' : Nat), PRow w' (Cl 0 S') r ps ∧ Tr.Parts σ' d key ps P' L xs ∧ Tr.Moved σ Q σ' P' ∧ p.At w' S' σ' k' ∧ k ≤ k' + 2 * d ∧ Off S w w' ∧ Fresh w S S') ∨
 (p.F ∧ b = 9 ∧ r.A = none ∧ r.n = 0 ∧ r.c = 0 ∧ ∃ σ', Step p S w w' σ' 0)
def EditTells (p : Store) (S : List Nat) (σ : Book) (k d : Nat) (key : ByteArray) (Q : List Nat) (L : List En) (w : World) (e : Ending) (w' : World) : Prop :=
 ∃ (r : Rw) (b : Int), e = .returned (.tuple #[.slice r.A r.n r.c, .int .i64 b]) ∧ Hid (EditWay p S σ k d key Q L w w' r b)
theorem EditWay.off {p : Store} {S : List Nat} {σ : Book} {k d : Nat} {key : ByteArray} {Q : List Nat} {L : List En} {w w' : World} {r : Rw} {b : Int} (h : EditWay p S σ k d key Q L w w' r b) : Off S w w' := by
 rcases h with ⟨-, _, _, _, _, _, _, -, -, -, -, -, h, -⟩ | ⟨-, -, -, -, -, _, _, -, h, -⟩
 · exact h
 · exact h
def EditAt (p : Store) (fc : Nat) (caps : Array Value) (w0 : World) (S0 : List Nat) (σ0 : Book) (X : List Nat) (f : List En → List En) (key : ByteArray) (d : Nat) : Prop :=
 ∀ (w : World) (S : List Nat) (σ : Book) (k no : Nat) (frm : ByteArray) (depth : Nat) (P : List Nat) (L : List En), p.At w S σ k → Off S0 w0 w → Fresh w0 S0 S → Tr.Stored σ d no P L → (P ++ X).Nodup → (∀ n ∈ X, σ n = σ0 n ∧ σ n ≠ none) → (∀ e ∈ L, Nd.lt e.cell.key frm = false) → Nd.lt key frm = false →
   frm.size ≤ 120 → depth + d ≤ 10 → (p.F ∨ 2 * d ≤ k) →
   Calls Tryz.prog 163 #[.iface p.T p.v, .int .i64 no, .string frm, .string key, .func (.func fc) #[] caps, .int .i64 depth] w (EditTells p S σ k d frm (P ++ X) (f L) w)
theorem editAt_leaf {p : Store} (hp : Serves p) {fc : Nat} {caps : Array Value} {w0 : World} {S0 : List Nat} {σ0 : Book} {X : List Nat} {f : List En → List En} (key : ByteArray) (hf : Tr.IsChange key f) (hdo : DoSpec p fc caps w0 S0 σ0 X f) : EditAt p fc caps w0 S0 σ0 X f key 0 := by
 intro w S σ k no frm depth P L h h0 h1 hst hnd hX hlow hkey hfs hdep hk
 refine (edit_leaf hp key hf hdo h h0 h1 no frm depth hst hnd hX hlow hkey hfs (by omega)).mono ?_
 rintro e w' ⟨r, ps, xs, P', σ', S', k', rfl, h2⟩
 exact ⟨r, 0, rfl, Lib.hid (.inl ⟨rfl, ps, xs, P', σ', S', k', h2⟩)⟩
theorem kid_cell {w : World} {S : Nat → Prop} {b o n c : Nat} {ks : List Kd} (h : CRow w S ⟨some ⟨b, o, none⟩, n, c⟩ (ks.map Kd.cell)) (i : Nat) (hi : i < ks.length) : w.cell? ⟨b, o + i * 5, none⟩ = some (.string ks[i].key) ∧ w.cell? ⟨b, o + i * 5 + 4, none⟩ = some (.int .i64 ks[i].no) := by
 obtain ⟨b', o', hA, -, q0, -, -, -, q4⟩ := h.at i (by rw [List.length_map]; exact hi)
 simp only [Option.some.injEq, Addr.mk.injEq, and_true] at hA
 obtain ⟨rfl, rfl⟩ := hA
 rw [List.getElem_map] at q0 q4
 exact ⟨q0, q4⟩
def MidWay (p : Store) (S : List Nat) (σ : Book) (k d : Nat) (X : List Nat) (F : List En) (ks : List Kd) (w : World) (v19 v20 v21 v16 : Value) (wx : World) : Prop :=
 ∃ (a b : Nat) (r : Rw) (ps : List Pt) (xs : List Tr.Pd) (L2 : List En) (A M C : List Kd) (key : ByteArray) (σ4 : Book) (S4 : List Nat) (k4 : Nat), v19 = .slice r.A r.n r.c ∧ v20 = .int .i64 a ∧ v21 = .int .i64 b ∧ v16 = .int .i64 0 ∧ ks = A ++ M ++ C ∧ A.length = a ∧ a + M.length = b ∧
   PRow wx (Cl 0 S4) r ps ∧ Tr.Mid σ d A M C X F key σ4 ps xs L2 ∧ p.At wx S4 σ4 k4 ∧ k ≤ k4 + 2 * d ∧ Off S w wx ∧ Fresh w S S4
def Joined (p : Store) (S : List Nat) (σ' : Book) (k : Nat) (ps : List Pt) (w w' : World) (r : Rw) : Prop := ∃ S' : List Nat, PRow w' (Cl 0 S') r ps ∧ p.At w' S' σ' k ∧ Off S w w' ∧ Fresh w S S'
theorem Joined.off {p : Store} {S : List Nat} {σ' : Book} {k : Nat} {ps : List Pt} {w w' : World} {r : Rw} (h : Joined p S σ' k ps w w' r) : Off S w w' := by obtain ⟨_, _, _, h, -⟩ := h; exact h
theorem joined_letters {p : Store} {S : List Nat} {σ' : Book} {k : Nat} {ps : List Pt} {w w' : World} {e : Ending} (h : TellsPE p S σ' k ps w e w') : ∃ r : Rw, e = .returned (.tuple #[.slice r.A r.n r.c, .int .i64 0]) ∧ Hid (Joined p S σ' k ps w w' r) := by
 obtain ⟨S', r, rfl, h⟩ := h
 exact ⟨r, rfl, Lib.hid ⟨S', h⟩⟩
theorem COwn.here {w : World} {B g n c : Nat} {S : List Nat} {l : List Ce} (h : COwn w B (.slice (some ⟨g, 0, none⟩) n c) l) (hg : g ∉ S) : CRow w (Cl 0 S) ⟨some ⟨g, 0, none⟩, n, c⟩ l := by
 obtain ⟨h1, h2, h3, h4⟩ := h.as
 refine ⟨h1, h2, h3, fun i d hd => ?_⟩
 obtain ⟨b, o, x, q1, q2, q3⟩ := h4 i d hd
 refine ⟨b, o, x, q1, ⟨⟨Nat.zero_le _, ?_⟩, q2.2⟩, q3⟩
 simp only [Option.some.injEq, Addr.mk.injEq, and_true] at q1
 rw [← q1.1]
 exact hg
theorem rowC_three {w : World} {S : Nat → Prop} {blk b1 o1 n1 c1 b2 o2 n2 c2 b3 o3 n3 c3 : Nat} {x y z : List Ce} (h : Bk w blk 174 #[.slice (some ⟨b1, o1, none⟩) n1 c1, .slice (some ⟨b2, o2, none⟩) n2 c2, .slice (some ⟨b3, o3, none⟩) n3 c3]) (hS : S blk)
   (h1 : CRow w S ⟨some ⟨b1, o1, none⟩, n1, c1⟩ x) (h2 : CRow w S ⟨some ⟨b2, o2, none⟩, n2, c2⟩ y) (h3 : CRow w S ⟨some ⟨b3, o3, none⟩, n3, c3⟩ z) (l1 : b1 < w.heap.size) (l2 : b2 < w.heap.size) (l3 : b3 < w.heap.size) : RowOf 1 RowC w S ⟨some ⟨blk, 0, none⟩, 3, 3⟩ [x, y, z] := by
 refine ⟨rfl, Nat.le_refl _, by unfold maxLen; show 3 ≤ _; omega, fun i d hd => ?_⟩
 have hone : ∀ {j : Nat} {u v : Value}, [v][j]? = some u → j = 0 ∧ v = u := fun {j u v} hu => by
   have hj : j = 0 := by have := (List.getElem?_eq_some_iff.1 hu).1; simp at this; omega
   subst hj
   exact ⟨rfl, by simpa using hu⟩
 match i with
 | 0 =>
   obtain rfl : x = d := by simpa using hd
   refine ⟨blk, 0, [.slice (some ⟨b1, o1, none⟩) n1 c1], rfl, ⟨hS, h.lt⟩, rfl, fun j u hu => ?_, b1, o1, n1, c1, rfl, h1, l1⟩
   obtain ⟨rfl, rfl⟩ := hone hu
   exact h.cell 0
 | 1 =>
   obtain rfl : y = d := by simpa using hd
   refine ⟨blk, 0, [.slice (some ⟨b2, o2, none⟩) n2 c2], rfl, ⟨hS, h.lt⟩, rfl, fun j u hu => ?_, b2, o2, n2, c2, rfl, h2, l2⟩
   obtain ⟨rfl, rfl⟩ := hone hu
   exact h.cell 1
 | 2 =>
   obtain rfl : z = d := by simpa using hd
   refine ⟨blk, 0, [.slice (some ⟨b3, o3, none⟩) n3 c3], rfl, ⟨hS, h.lt⟩, rfl, fun j u hu => ?_, b3, o3, n3, c3, rfl, h3, l3⟩
   obtain ⟨rfl, rfl⟩ := hone hu
   exact h.cell 2
 | i + 3 => simp at hd
theorem CRow.empty {w : World} {S : Nat → Prop} (b o c : Nat) (hc : c ≤ maxLen) : CRow w S ⟨Option.some ⟨b, o, none⟩, 0, c⟩ [] := ⟨rfl, Nat.zero_le _, hc, fun i d hd => by simp at hd⟩
def SmallWay (n : Nat) (sm : Bool) (w3 : World) (v : Value) (w : World) : Prop := ∃ b : Bool, v = .bool b ∧ (b = true → n = 1 ∧ sm = true) ∧ (b = false → n = 2 ∨ sm = false) ∧ Below w3.heap.size w3 w
set_option maxHeartbeats 64000000 in
theorem editAt_branch {p : Store} (hp : Serves p) {fc : Nat} {caps : Array Value} {w0 : World} {S0 : List Nat} {σ0 : Book} {X : List Nat} {f : List En → List En} (key : ByteArray) (hf : Tr.IsChange key f) (hfn : ∀ l, f l ≠ []) (d : Nat) (ih : EditAt p fc caps w0 S0 σ0 X f key d) : EditAt p fc caps w0 S0 σ0 X f key (d + 1) := by
 intro w S σ k no frm depth P L h h0 h1 hst hnd hX hlow hkey hfs hdep hk
 obtain ⟨cs, P', rfl, g1, g2, g3, g4, g5, g6, g7⟩ := hst
 have hpr := g4.right
 have hsz := Nd.sum_ge false cs
 have g7 := g7 rfl
 obtain ⟨ks, hB, rfl, rfl, rfl⟩ := Tr.Kids.of_part g4
 rw [List.length_map] at hsz g7
 have hll : ks.length ≤ 100 := by have : Nd.sum false (ks.map Kd.cell) ≤ 488 := g5; omega
 have HLD := Lib.hid (load_ok hp h no false _ hpr.1 g5 g3)
 have hnn : σ no ≠ none := by rw [g3]; simp
 obtain ⟨fd, rv, -, hm, hen, hd⟩ := hp.drop
 have hnno : no ∉ ks.flatMap (·.P) ++ X := (List.nodup_cons.1 (by simpa using hnd)).1
 have hndr : (ks.flatMap (·.P) ++ X).Nodup := (List.nodup_cons.1 (by simpa using hnd)).2
 have hmem : ∀ m ∈ ks.flatMap (·.P) ++ X, σ m ≠ none := fun m hm => by
   rcases List.mem_append.1 hm with hm | hm
   · exact (g4.mem m hm).2.2
   · exact (hX m hm).2
 have hup : ∀ m ∈ ks.flatMap (·.P) ++ X, Tr.upd σ no none m = σ m := fun m hm => Tr.upd_ne _ _ (fun e => hnno (by rw [← e]; exact hm))
 have HA := Lib.hid h
 have HOLD := Lib.hid (hp.old h)
 have z0 : decide ((10 : Int) < (depth : Int)) = false := decide_eq_false (by omega)
 have HD := Lib.hid hd
 have HB := Lib.hid (hB.congr (σ' := Tr.upd σ no none) fun m hm => hup m (List.mem_append.2 (.inl hm)))
 have HND := Lib.hid hndr
 have HXS := Lib.hid (show ∀ n ∈ X, Tr.upd σ no none n = σ0 n ∧ Tr.upd σ no none n ≠ none from fun n hn => by
   rw [hup n (List.mem_append.2 (.inr hn))]
   exact hX n hn)
 have HMV := Lib.hid (show ∀ σ' P2, Tr.Moved (Tr.upd σ no none) (ks.flatMap (·.P) ++ X) σ' P2 → Tr.Moved σ (no :: ks.flatMap (·.P) ++ X) σ' P2 from fun σ' P2 hm => Tr.Moved.nil_left hm hmem hnn hndr hnno)
 have HLW := Lib.hid (show ∀ e ∈ f (ks.flatMap (·.L)), Nd.lt e.cell.key frm = false from fun e he => by
   rcases hf.mem _ e he with h9 | h9
   · exact hlow e h9
   · rw [h9]; exact hkey)
 have HNN := Lib.hid hnn
 have H0 := Lib.hid h0
 have H1 := Lib.hid h1
 have HK := Lib.hid hk
 have HSU := Lib.hid (show Nd.sum false (ks.map Kd.cell) ≤ 488 from g5)
 clear h hd hsz hnd hpr g3 g4 g5 g6 hup hmem hnn hX hlow h0 h1 hndr hnno hB hk
 go_enter Tryz.func163, Tryz.ntmps163
 go_wp2_with fail
 refine HLD.out.mono ?_
 rintro e w1 ⟨hb1, A, c, rfl, hown⟩
 obtain ⟨g, rfl, hg1, hg2, -, hg3, hg4⟩ := hown.full (by rw [List.length_map]; omega)
 rw [List.length_map] at hg3 hown
 have hcm : c ≤ 9223372036854775807 := by unfold maxLen at hg4; omega
 have HN1 := Lib.hid hb1
 have HOW := Lib.hid hown
 have HDJ := Lib.hid (HD.out w1 S σ k no (hp.below HA.out hb1) HNN.out)
 clear hb1 hown hg4
 go_wp2_with fail
 refine HDJ.out.mono ?_
 rintro e w2 ⟨rfl, S2, hat2, hof2, hfr2⟩
 have HOF2 := Lib.hid ((Off.of_below HN1.out S).trans hof2)
 have HFR2 := Lib.hid (hfr2.mono HN1.out.size)
 have HRW := Lib.hid (((HOW.out.apart (S := S) HOLD.out).sub (T := Cl 0 S) (fun b h _ => ⟨Nat.zero_le _, h.2⟩)).carry hof2 hfr2)
 have hgS : g ∉ S2 := fun hs => by
   rcases hfr2 g hs with h8 | h8
   · have := HOLD.out g h8; omega
   · omega
 have hg22 : g < w2.heap.size := Nat.lt_of_lt_of_le hg2 hof2.size
 have HAT2 := Lib.hid hat2
 clear hat2 hof2 hfr2
 have hlm : IntKind.i64.wrap ((ks.length : Int) - 1) = ((ks.length - 1 : Nat) : Int) := by rw [show (ks.length : Int) - 1 = ((ks.length - 1 : Nat) : Int) by omega]; exact wrap_i64 _ (by omega)
 go_upto_block 1 with fail
 go_cut [18] from 57 to 69 (fun v wx => ∃ j : Nat, v = .int .i64 j ∧ j < ks.length ∧ Hid ((∀ m (h : m < ks.length), j < m → Nd.lt key ks[m].key = true) ∧ Nd.lt key (ks.getD j ⟨⟨#[]⟩, 0, [], []⟩).key = false) ∧ wx = w2)
 case first =>
   go_wp2_with fail
   go_loop [18] (fun i => ∃ j : Nat, i = .int .i64 j ∧ j < ks.length ∧ Hid (∀ m (h : m < ks.length), j < m → Nd.lt key ks[m].key = true)) (fun i => (intOf i).toNat)
   case atStart => exact ⟨ks.length - 1, rfl, by omega, Lib.hid (fun m h hm => by omega)⟩
   case round =>
     obtain ⟨j, rfl, hj, HJ⟩ := hrel
     obtain ⟨c0, c4⟩ := kid_cell HRW.out j hj
     rw [Nat.zero_add] at c0 c4
     obtain ⟨kj, hkj⟩ : ∃ x, x = ks[j] := ⟨_, rfl⟩
     rw [← hkj] at c0 c4
     have HKJ := Lib.hid hkj
     have hway : (0 < j ∧ decide ((0 : Int) < (j : Int)) = true ∧ Nd.lt key kj.key = true) ∨ (0 < j ∧ decide ((0 : Int) < (j : Int)) = true ∧ Nd.lt key kj.key = false) ∨ j = 0 := by
       by_cases e : j = 0
       · exact .inr (.inr e)
       · cases hl : Nd.lt key kj.key
         · exact .inr (.inl ⟨by omega, decide_eq_true (by omega), rfl⟩)
         · exact .inl ⟨by omega, decide_eq_true (by omega), rfl⟩
     rcases hway with ⟨w1', w2', w3'⟩ | hway
     · have y1 : Op.bytesLess kj.key.toList key.toList = false := Nd.lt_asymm w3'
       have y2 : (kj.key.toList == key.toList) = false := (Nd.lt_ne w3').2
       have hwj : IntKind.i64.wrap ((j : Int) - 1) = ((j - 1 : Nat) : Int) := by rw [show (j : Int) - 1 = ((j - 1 : Nat) : Int) by omega]; exact wrap_i64 _ (by omega)
       have HJ2 := Lib.hid (show ∀ m (h : m < ks.length), j - 1 < m → Nd.lt key ks[m].key = true from fun m h hm => by
         by_cases e : m = j
         · subst e; rw [← HKJ.out]; exact w3'
         · exact HJ.out m h (by omega))
       clear w3' hkj
       go_wp2_with fail
       go_round
       case rel => exact ⟨j - 1, by go_num, by omega, HJ2⟩
       case measure => simp [intOf]; omega
     · have HLE := Lib.hid (show Nd.lt key kj.key = false from by
         rcases hway with ⟨-, -, h9⟩ | h9
         · exact h9
         · subst h9
           obtain ⟨k0, t0, e0, e1⟩ := HB.out.first
           have : kj = k0 := by rw [HKJ.out]; simp [e0]
           rw [this, e1]
           exact Tr.le_nil key)
       have hway2 : (0 < j ∧ decide ((0 : Int) < (j : Int)) = true ∧ Op.bytesLess kj.key.toList key.toList = true) ∨ (0 < j ∧ decide ((0 : Int) < (j : Int)) = true ∧ Op.bytesLess kj.key.toList key.toList = false ∧ (kj.key.toList == key.toList) = true) ∨ j = 0 := by
         rcases hway with ⟨h7, h8, h9⟩ | h9
         · rcases Nd.lt_total kj.key key with h | h | h
           · exact .inl ⟨h7, h8, h⟩
           · exact .inr (.inl ⟨h7, h8, by rw [h]; exact Nd.less_irrefl _, by rw [h]; simp⟩)
           · rw [h9] at h; cases h
         · exact .inr (.inr h9)
       have HMJ := Lib.hid hkj
       clear hway hkj
       have HFIN := Lib.hid (show (∀ m (h : m < ks.length), j < m → Nd.lt key ks[m].key = true) ∧ Nd.lt key (ks.getD j ⟨⟨#[]⟩, 0, [], []⟩).key = false from ⟨HJ.out, by
         rw [show ks.getD j ⟨⟨#[]⟩, 0, [], []⟩ = kj by rw [HKJ.out]; simp [List.getD, List.getElem?_eq_getElem hj]]
         exact HLE.out⟩)
       rcases hway2 with ⟨q1, q2, q3⟩ | ⟨q1, q2, q3, q4⟩ | rfl
       all_goals
         go_wp2_with fail
         go_meet
         exact ⟨_, rfl, hj, HFIN, rfl⟩
 case rest =>
   obtain ⟨j, rfl, hj, HJ, hwc⟩ := hcut
   obtain rfl : w2 = wc := hwc.symm
   obtain ⟨c0, c4⟩ := kid_cell HRW.out j hj
   rw [Nat.zero_add] at c0 c4
   have hspl : ks = ks.take j ++ [ks[j]] ++ ks.drop (j + 1) := by
     rw [List.append_assoc, List.singleton_append, ← List.drop_eq_getElem_cons hj, List.take_append_drop]
   have hgd : ks.getD j ⟨⟨#[]⟩, 0, [], []⟩ = ks[j] := by simp [List.getD, List.getElem?_eq_getElem hj]
   rw [hgd] at HJ
   have HC := Lib.hid (show ∀ c ∈ ks.drop (j + 1), Nd.lt key c.key = true from fun c hc => by
     obtain ⟨m, hm, rfl⟩ := List.getElem_of_mem hc
     rw [List.length_drop] at hm
     rw [List.getElem_drop]
     exact HJ.out.1 _ (by omega) (by omega))
   have hle := HJ.out.2
   obtain ⟨kj, hkj⟩ : ∃ x, x = ks[j] := ⟨_, rfl⟩
   rw [← hkj] at c0 c4 hspl hle
   have hB := HB.out
   have hkm : kj ∈ ks := by rw [hkj]; exact List.getElem_mem hj
   obtain ⟨⟨hk120, -⟩, hstk⟩ := hB.each kj hkm
   have hsubP : ∀ n ∈ kj.P, n ∈ ks.flatMap (·.P) := fun n hn => List.mem_flatMap.2 ⟨kj, hkm, hn⟩
   have hndk : (kj.P ++ X).Nodup := by
     have h9 := HND.out
     rw [hspl] at h9
     simp only [List.flatMap_append, List.flatMap_cons, List.flatMap_nil, List.append_nil, List.append_assoc] at h9
     have n1 := (List.nodup_append.1 h9).2.1
     obtain ⟨a1, a2, a3⟩ := List.nodup_append.1 n1
     obtain ⟨b1, b2, b3⟩ := List.nodup_append.1 a2
     exact List.nodup_append.2 ⟨a1, b2, fun a ha b hb => a3 a ha b (by simp [hb])⟩
   have hlowk : ∀ e ∈ kj.L, Nd.lt e.cell.key kj.key = false := hB.sep.2 kj.rg (List.mem_map_of_mem hkm)
   have hih := (ih w2.drew S2 (Tr.upd σ no none) k kj.no kj.key (depth + 1) kj.P kj.L (hp.below HAT2.out (Below.refl _ w2).drew) ((H0.out.then HOF2.out H1.out).drew) (H1.out.trans HFR2.out H0.out.size) hstk hndk HXS.out hlowk hle hk120 (by omega) (HK.out.imp id (fun _ => by omega)))
   rw [show ((depth + 1 : Nat) : Int) = (depth : Int) + 1 by omega] at hih
   have HIH := Lib.hid hih
   clear hih
   have HKJ := Lib.hid hkj
   have HSP := Lib.hid hspl
   have HLE := Lib.hid hle
   have hkb : kj.no < 512 := by obtain ⟨_, _, _, _, g, -⟩ := hstk; exact g
   clear hspl hgd hle hB hkm hk120 hstk hsubP hndk hlowk hkj
   have HKS := Lib.hid (show ∀ W : World, Off S2 w2 W → W.cell? ⟨g, j * 5, none⟩ = some (.string kj.key) ∧ W.cell? ⟨g, j * 5 + 4, none⟩ = some (.int .i64 kj.no) from fun W hb => ⟨(hb.cell (p := ⟨g, j * 5, none⟩) hg22 hgS).trans c0, (hb.cell (p := ⟨g, j * 5 + 4, none⟩) hg22 hgS).trans c4⟩)
   have HO0 := Lib.hid ((Off.refl S2 w2).drew)
   have hwd : IntKind.i64.wrap ((depth : Int) + 1) = (depth : Int) + 1 := IntWalk.i64_in _ (by omega)
   go_wp2_with fail
   go_region_held3 (fun W => W.cell? ⟨g, j * 5, none⟩ = some (.string kj.key) ∧ W.cell? ⟨g, j * 5 + 4, none⟩ = some (.int .i64 kj.no)) (first | (with_reducible exact HKS.out _ HO0.out) | (with_reducible exact HKS.out _ (HO0.out.trans (EditWay.off hw3.out)))) (first
     | (go_at_call 163; (with_reducible refine HIH.out.mono ?_); rintro e w3 ⟨r3, re, rfl, hw3⟩))
   obtain ⟨rA, rn, rc⟩ := r3
   rcases hw3.out with ⟨rfl, ps, xs, P1, σ1, S3, k3, hpr3, hps3, hmv3, hat3, hk3, hof3, hfr3⟩ | ⟨hF, rfl, rfl, rfl, rfl, σ3, hst3⟩
   · have HPR3 := Lib.hid hpr3
     have HPS3 := Lib.hid hps3
     have HMV3 := Lib.hid hmv3
     have HAT3 := Lib.hid hat3
     have HOF3 := Lib.hid (HO0.out.trans hof3)
     have HFR3 := Lib.hid (hfr3.mono (w := w2) (Nat.le_refl _))
     have hps3' := hps3
     clear hpr3 hps3 hmv3 hat3 hof3 hfr3 hw3
     obtain ⟨x0, t0, hx0, hxk⟩ := hps3'.head
     have hpsl : ps.length = xs.length := by rw [hps3'.pts, List.length_map]
     obtain ⟨bp, op, hAp, hSp, qp, p0, p1, p2, hpc⟩ := HPR3.out.at 0 (by rw [hpsl, hx0]; simp)
     simp only at hAp
     subst hAp
     have hp0 : ps[0]'(by rw [hpsl, hx0]; simp) = ⟨kj.key, d == 0, x0.cs⟩ := by
       have e : ps = xs.map (Tr.Pd.pt (d == 0)) := hps3'.pts
       simp only [e, hx0, List.map_cons, List.getElem_cons_zero, Tr.Pd.pt, hxk]
     rw [hp0] at p0 p1 hpc
     simp only [Nat.zero_mul, Nat.add_zero] at p0 p1 p2 hpc
     have hrn : rn = xs.length := by have := HPR3.out.1; simp only at this; rw [this, hpsl]
     have hrc := HPR3.out.2.1
     have hrm := HPR3.out.2.2.1
     simp only at hrc hrm
     have hrcm : rc ≤ 9223372036854775807 := by unfold maxLen at hrm; omega
     have hx0e := hps3'.each x0 (by rw [hx0]; simp)
     obtain ⟨leaf, hleaf⟩ : ∃ leaf, leaf = (d == 0) := ⟨_, rfl⟩
     have HSM := Lib.hid fun (W : World) (hb : Below w3.heap.size w3 W) => small_any ⟨kj.key, d == 0, x0.cs⟩ qp (Cl 0 S3) W (hpc.below hb) (by have := Nd.sum_ge (d == 0) x0.cs; have := hx0e.2.1; show x0.cs.length ≤ 10000; omega) hx0e.2.2.right.2
     simp only at HSM
     rw [← hleaf] at p1 HSM
     obtain ⟨qA, qn, qc⟩ := qp
     simp only at p2 HSM
     have hbp := hSp.2
     have HQP := Lib.hid hpc
     have HX0 := Lib.hid hx0
     have HXK := Lib.hid hxk
     have HLF := Lib.hid hleaf
     have HX0E := Lib.hid hx0e
     have HSP0 := Lib.hid hSp
     have hkl : decide ((1 : Int) < (ks.length : Int)) = true := decide_eq_true (by omega)
     have hcnt : (xs.length = 1 ∧ ((xs.length : Int) == 1) = true) ∨ (xs.length = 2 ∧ ((xs.length : Int) == 1) = false) := by
       rcases hps3'.count with h9 | ⟨h9, -⟩
       · exact .inl ⟨h9, by rw [h9]; rfl⟩
       · exact .inr ⟨h9, by rw [h9]; rfl⟩
     subst hrn
     obtain ⟨sm, hsm⟩ : ∃ sm, sm = decide (Nd.sum (d == 0) x0.cs < 122) := ⟨_, rfl⟩
     have HSME := Lib.hid hsm
     rw [← hleaf] at hsm
     rw [← hsm] at HSM
     clear hpsl hp0 hrm hx0e hSp hpc hx0 hxk hleaf hps3' hsm
     go_upto_region 19 with fail
     go_cut [108] (fun v wx => SmallWay xs.length sm w3 v wx)
     case first =>
       rcases hcnt with ⟨h8, h9⟩ | ⟨h8, h9⟩
       · have H8 := Lib.hid h8
         have h80 : 0 < xs.length := by omega
         clear h8
         cases sm
         all_goals
           go_wp2_with (first
             | (go_at_call 222; (with_reducible refine (HSM.out _ (Below.refl _ _)).mono ?_); rintro e w4 ⟨rfl, hb4⟩; have HB4 := Lib.hid hb4; clear hb4)
             | fail)
           go_meet
           first | exact ⟨true, rfl, fun _ => ⟨H8.out, rfl⟩, fun h => (Bool.noConfusion h), HB4.out⟩ | exact ⟨false, rfl, fun h => (Bool.noConfusion h), fun _ => .inr rfl, HB4.out⟩
       · have H8 := Lib.hid h8
         clear h8
         go_wp2_with fail
         go_meet
         exact ⟨false, rfl, fun h => (Bool.noConfusion h), fun _ => .inl H8.out, Below.refl _ _⟩
     case rest =>
       obtain ⟨b, rfl, hb1, hb2, hb4⟩ := hcut
       have HB4 := Lib.hid hb4
       have HB1 := Lib.hid hb1
       have HB2 := Lib.hid hb2
       clear hb1 hb2 hb4
       go_upto_if 108 with fail
       go_cut [19, 20, 21, 16] (fun v19 v20 v21 v16 wx => MidWay p S2 (Tr.upd σ no none) k d X (f (ks.flatMap (·.L))) ks w2 v19 v20 v21 v16 wx)
       case first =>
         cases b with
         | false =>
           have hg : ∀ x ∈ xs, Tr.Good (d == 0) x.cs x.L ∧ Tr.Fat d x.L := by
             rcases HB2.out rfl with h9 | h9
             · rcases HPS3.out.count with h8 | ⟨-, h8⟩
               · omega
               · exact h8
             · rcases HPS3.out.count with h8 | ⟨-, h8⟩
               · obtain ⟨x, e, -, -, -, -, -, hpx⟩ := HPS3.out.one h8
                 have e2 : x0 = x := by have := HX0.out; rw [e] at this; simp at this; exact this.1.symm
                 subst e2
                 have hs9 : ¬ Nd.sum (d == 0) x0.cs < 122 := of_decide_eq_false (HSME.out.symm.trans h9)
                 rw [e]
                 intro y hy
                 obtain rfl := List.mem_singleton.1 hy
                 exact ⟨hpx.good (by omega), hpx.fat (by omega)⟩
               · exact h8
           have hB9 := HB.out
           rw [HSP.out] at hB9
           have HMID := Lib.hid (Tr.mid_one hf hB9 HC.out HLE.out HPS3.out HMV3.out hg)
           rw [← HSP.out] at HMID
           have HWAY := Lib.hid (show MidWay p S2 (Tr.upd σ no none) k d X (f (ks.flatMap (·.L))) ks w2 (.slice (some ⟨bp, op, none⟩) xs.length rc) (.int .i64 j) (.int .i64 ((j : Int) + 1)) (.int .i64 0) wc from
             ⟨j, j + 1, ⟨some ⟨bp, op, none⟩, xs.length, rc⟩, ps, xs, _, _, _, _, _, σ1, S3, k3, rfl, rfl, by go_num, rfl, HSP.out, by rw [List.length_take]; omega, rfl, HPR3.out.below HB4.out, HMID.out, hp.below HAT3.out HB4.out, hk3, HOF3.out.trans (Off.of_below HB4.out S2), HFR3.out⟩)
           clear hg hB9
           go_wp2_with fail
           go_meet
           exact HWAY.out
         | true =>
           obtain ⟨hone, hsm⟩ := HB1.out rfl
           obtain ⟨x, e, -, hP1, hL1, -, -, hpx⟩ := HPS3.out.one hone
           have e2 : x0 = x := by have := HX0.out; rw [e] at this; simp at this; exact this.1.symm
           subst e2
           have hs9 : Nd.sum (d == 0) x0.cs < 122 := of_decide_eq_true (HSME.out.symm.trans hsm)
           have hxc : 0 < x0.cs.length := by
             cases d with
             | zero =>
               obtain ⟨h1, -⟩ := hpx
               cases hx9 : x0.L with
               | nil => exact absurd (hL1.trans hx9) (hfn _)
               | cons a t => rw [h1, hx9]; simp
             | succ d =>
               obtain ⟨ks9, hk9, h1, -⟩ := Tr.Kids.of_part hpx
               obtain ⟨a, t, h2, -⟩ := hk9.first
               rw [h1, h2]; simp
           have hxl : x0.cs.length ≤ 1000 := by have := Nd.sum_ge (d == 0) x0.cs; omega
           have hmv9 := HMV3.out
           rw [hP1] at hmv9
           rw [← hL1] at hpx
           have HPX := Lib.hid hpx
           have HMV9 := Lib.hid hmv9
           have HAT4 := Lib.hid (hp.below HAT3.out HB4.out)
           have HRW4 := Lib.hid ((HRW.out.carry HOF3.out HFR3.out).below HB4.out)
           have HQ4 := Lib.hid (HQP.out.below HB4.out)
           have u0 := (HB4.out.cell (p := ⟨bp, op, none⟩) hbp).trans p0
           have u1 := (HB4.out.cell (p := ⟨bp, op + 1, none⟩) hbp).trans p1
           have u2 := (HB4.out.cell (p := ⟨bp, op + 2, none⟩) hbp).trans p2
           have hbp4 : bp < wc.heap.size := Nat.lt_of_lt_of_le hbp HB4.out.size
           have hbpS : bp ∉ S3 := HSP0.out.1.2
           have HKS4 := Lib.hid (show ∀ W : World, Off S3 wc W → W.cell? ⟨bp, op, none⟩ = some (.string kj.key) ∧ W.cell? ⟨bp, op + 1, none⟩ = some (.bool leaf) ∧ W.cell? ⟨bp, op + 2, none⟩ = some (.slice qA qn qc) from fun W hb => ⟨(hb.cell (p := ⟨bp, op, none⟩) hbp4 hbpS).trans u0, (hb.cell (p := ⟨bp, op + 1, none⟩) hbp4 hbpS).trans u1, (hb.cell (p := ⟨bp, op + 2, none⟩) hbp4 hbpS).trans u2⟩)
           have HO4 := Lib.hid ((Off.refl S3 wc).drew)
           have h0xs : 0 < xs.length := by omega
           clear hone hsm e hP1 hL1 hpx hmv9 p0 p1 p2
           have hjj : j = 0 ∨ ∃ m, j = m + 1 := by
             cases j with
             | zero => exact .inl rfl
             | succ m => exact .inr ⟨m, rfl⟩
           rcases hjj with rfl | ⟨m, rfl⟩
           · obtain ⟨k1, hk1⟩ : ∃ y, y = ks[1] := ⟨_, rfl⟩
             have hsp0 : ks = [] ++ [kj, k1] ++ ks.drop 2 := by
               have h1 := HSP.out
               rw [List.take_zero, List.nil_append, List.drop_eq_getElem_cons (show 0 + 1 < ks.length by omega)] at h1
               rw [List.nil_append, hk1]
               exact h1
             have hB9 := HB.out
             have hN9 := HND.out
             rw [hsp0] at hB9 hN9
             obtain ⟨ocs, g1, g8, g3, g9, ⟨xs2, hmid⟩, hsum, hall⟩ := Tr.mid_join0 hf hB9 hN9 (fun c hc => HC.out c (by
               rw [List.drop_eq_getElem_cons (show 0 + 1 < ks.length by omega)]
               rcases List.mem_cons.1 hc with rfl | hc
               · exact List.mem_cons.2 (.inl hk1)
               · exact List.mem_cons.2 (.inr hc))) HLE.out HMV9.out HPX.out hs9 (fun _ => hxc)
             rw [← hsp0] at hmid
             have hrow2 : CRow wc (Cl 0 S3) ⟨some ⟨g, 0, none⟩, 2, c⟩ [kj.cell, k1.cell] := by
               have h9 := HRW4.out.take 2 (by rw [List.length_map]; omega)
               have e9 : (ks.map Kd.cell).take 2 = [kj.cell, k1.cell] := by
                 rw [hsp0]; rfl
               rw [e9] at h9
               exact h9
             have hcc : Calls Tryz.prog 223 #[.iface p.T p.v, .slice (some ⟨g, 0, none⟩) 2 c, .int .i64 0, .agg #[.string kj.key, .bool leaf, .slice qA qn qc]] wc.drew (TellsPE p S3 (Tr.upd σ1 k1.no none) k3 (Tr.partsL kj.key leaf (x0.cs ++ Nd.first leaf k1.key ocs)) wc.drew) := by
               rw [← HLF.out] at g1 g8 g3 hsum hall
               exact join_walk0 hp (w := wc.drew) (hp.below HAT4.out (Below.refl _ wc).drew) leaf kj.cell k1.cell _ c (hrow2.below (Below.refl _ wc).drew) kj.key ⟨qA, qn, qc⟩ x0.cs ocs (HQ4.out.below (Below.refl _ wc).drew) g1 g8 g3 hxc g9 hxl hall hsum
             have HCC := Lib.hid (hcc.mono fun e w' h => joined_letters h)
             have HMID := Lib.hid hmid
             have HSP1 := Lib.hid hsp0
             clear hcc hmid hsp0 hB9 hN9 g1 g8 g3 g9 hsum hall hrow2 hk1
             have hw0 : IntKind.i64.wrap 0 = 0 := IntWalk.i64_in _ (by omega)
             have hb1 : (2 : Int) ≤ (c : Int) := by omega
             have hb2 : 2 ≤ c := by omega
             have hmn : (if (ks.length : Int) < 2 then (ks.length : Int) else 2) = 2 := by rw [if_neg (by omega)]
             go_wp2_with fail
             go_region_held3 (fun W => W.cell? ⟨bp, op, none⟩ = some (.string kj.key) ∧ W.cell? ⟨bp, op + 1, none⟩ = some (.bool leaf) ∧ W.cell? ⟨bp, op + 2, none⟩ = some (.slice qA qn qc)) (first | (with_reducible exact HKS4.out _ HO4.out) | (with_reducible exact HKS4.out _ (HO4.out.trans (Joined.off hj5.out)))) (first
               | (go_at_call 223; (with_reducible refine HCC.out.mono ?_); rintro e w5 ⟨r5, rfl, hj5⟩))
             all_goals
               have hj6 := hj5.out
               rw [HLF.out] at hj6
               obtain ⟨S5, hpr5, hat5, hof5, hfr5⟩ := hj6
               have hoffA : Off S2 w2 w5 := (HOF3.out.trans (Off.of_below HB4.out S2)).then ((Off.of_below (Below.refl _ wc).drew S3).trans hof5) HFR3.out
               have hfrA : Fresh w2 S2 S5 := HFR3.out.trans (hfr5.mono (w := w3) HB4.out.size) HOF3.out.size
               have HWAY := Lib.hid (show MidWay p S2 (Tr.upd σ no none) k d X (f (ks.flatMap (·.L))) ks w2 (.slice r5.A r5.n r5.c) (.int .i64 0) (.int .i64 2) (.int .i64 0) w5 from
                 ⟨0, 2, r5, _, xs2, _, [], [kj, k1], ks.drop 2, kj.key, _, S5, k3, rfl, rfl, rfl, rfl, HSP1.out, rfl, rfl, hpr5, HMID.out, hat5, hk3, hoffA, hfrA⟩)
               clear hj5 hpr5 hat5 hof5 hfr5 hoffA hfrA
               go_wp2_with fail
               go_meet
               exact HWAY.out
           · obtain ⟨k0, hk0⟩ : ∃ y, y = ks[m] := ⟨_, rfl⟩
             have hsp0 : ks = ks.take m ++ [k0, kj] ++ ks.drop (m + 2) := by
               have h1 := HSP.out
               rw [List.take_succ_eq_append_getElem (show m < ks.length by omega), ← hk0] at h1
               simpa using h1
             have hB9 := HB.out
             have hN9 := HND.out
             rw [hsp0] at hB9 hN9
             obtain ⟨ocs, g1, g8, g3, g9, ⟨xs2, hmid⟩, hsum, hall⟩ := Tr.mid_join1 hf hB9 hN9 HC.out HLE.out HMV9.out HPX.out hs9 (fun _ => hxc)
             rw [← hsp0] at hmid
             have hrow2 : CRow wc (Cl 0 S3) ⟨some ⟨g, m * 5, none⟩, 2, c - m⟩ [k0.cell, kj.cell] := by
               have h9 := (HRW4.out.drop m (by rw [List.length_map]; omega)).take 2 (by rw [List.length_drop, List.length_map]; omega)
               have e9 : ((ks.map Kd.cell).drop m).take 2 = [k0.cell, kj.cell] := by
                 rw [hsp0, List.append_assoc, List.map_append, List.drop_left' (by rw [List.length_map, List.length_take]; omega)]
                 rfl
               rw [e9, Nat.zero_add] at h9
               exact h9
             have hcc : Calls Tryz.prog 223 #[.iface p.T p.v, .slice (some ⟨g, m * 5, none⟩) 2 (c - m), .int .i64 1, .agg #[.string kj.key, .bool leaf, .slice qA qn qc]] wc.drew (TellsPE p S3 (Tr.upd σ1 k0.no none) k3 (Tr.partsL k0.key leaf (ocs ++ Nd.first leaf kj.key x0.cs)) wc.drew) := by
               rw [← HLF.out] at g1 g8 g3 hsum hall
               exact join_walk1 hp (w := wc.drew) (hp.below HAT4.out (Below.refl _ wc).drew) leaf k0.cell kj.cell _ (c - m) (hrow2.below (Below.refl _ wc).drew) kj.key ⟨qA, qn, qc⟩ ocs x0.cs (HQ4.out.below (Below.refl _ wc).drew) g1 g8 g3 hxc g9 hxl hall hsum
             have HCC := Lib.hid (hcc.mono fun e w' h => joined_letters h)
             have HMID := Lib.hid hmid
             have HSP1 := Lib.hid hsp0
             clear hcc hmid hsp0 hB9 hN9 g1 g8 g3 g9 hsum hall hrow2 hk0
             have ha1 : ((m + 1 : Nat) : Int) - 1 = (m : Int) := by omega
             have ha2 : (m : Int) + 1 - 1 = (m : Int) := by omega
             have hb0 : (if (0 : Int) < (m : Int) then (m : Int) else 0) = (m : Int) := by split <;> omega
             have hmn : (if (ks.length : Int) < 2 then (ks.length : Int) else 2) = 2 := by rw [if_neg (by omega)]
             have hb0' : (if 0 < m then (m : Int) else 0) = (m : Int) := by split <;> omega
             have hmx : (if (m : Int) + 1 + 1 < 2 then 2 else (m : Int) + 1 + 1) = (m : Int) + 1 + 1 := by split <;> omega
             have hbb1 : (m : Int) + 1 + 1 ≤ (c : Int) := by omega
             have hbb2 : m + 1 + 1 ≤ c := by omega
             have hbb3 : (m : Int) ≤ (m : Int) + 1 + 1 := by omega
             have hbb4 : (0 : Int) ≤ (m : Int) + 1 + 1 := by omega
             have hmm : m ≤ m + 1 + 1 := by omega
             have hmc : ¬ (c = m) := by omega
             have htn : ((m : Int) + 1 + 1).toNat = m + 1 + 1 := by omega
             have hd1 : (m : Int) + 1 - (m : Int) = 1 := by omega
             have hw1 : IntKind.i64.wrap 1 = 1 := IntWalk.i64_in _ (by omega)
             have hd2 : m + 1 + 1 - m = 2 := by omega
             go_wp2_with fail
             go_region_held3 (fun W => W.cell? ⟨bp, op, none⟩ = some (.string kj.key) ∧ W.cell? ⟨bp, op + 1, none⟩ = some (.bool leaf) ∧ W.cell? ⟨bp, op + 2, none⟩ = some (.slice qA qn qc)) (first | (with_reducible exact HKS4.out _ HO4.out) | (with_reducible exact HKS4.out _ (HO4.out.trans (Joined.off hj5.out)))) (first
               | (go_at_call 223; (with_reducible refine HCC.out.mono ?_); rintro e w5 ⟨r5, rfl, hj5⟩))
             all_goals
               have hj6 := hj5.out
               rw [HLF.out] at hj6
               obtain ⟨S5, hpr5, hat5, hof5, hfr5⟩ := hj6
               have hoffA : Off S2 w2 w5 := (HOF3.out.trans (Off.of_below HB4.out S2)).then ((Off.of_below (Below.refl _ wc).drew S3).trans hof5) HFR3.out
               have hfrA : Fresh w2 S2 S5 := HFR3.out.trans (hfr5.mono (w := w3) HB4.out.size) HOF3.out.size
               have HWAY := Lib.hid (show MidWay p S2 (Tr.upd σ no none) k d X (f (ks.flatMap (·.L))) ks w2 (.slice r5.A r5.n r5.c) (.int .i64 m) (.int .i64 ((m : Int) + 1 + 1)) (.int .i64 0) w5 from
                 ⟨m, m + 2, r5, _, xs2, _, ks.take m, [k0, kj], ks.drop (m + 2), k0.key, _, S5, k3, rfl, rfl, by go_num, rfl, HSP1.out, by rw [List.length_take]; omega, rfl, hpr5, HMID.out, hat5, hk3, hoffA, hfrA⟩)
               clear hj5 hpr5 hat5 hof5 hfr5 hoffA hfrA
               go_wp2_with fail
               go_meet
               exact HWAY.out
       case rest =>
         obtain ⟨a, b9, r, ps9, xs9, L2, AA, MM, CC, mkey, σ4, S4, k4, rfl, rfl, rfl, rfl, hks, hA, hM, hpr, hmid, hat, hk4, hof, hfr⟩ := hcut
         obtain ⟨P2, hpp, hmm⟩ := hmid.parts
         have hN9 := hmm.nodup
         rw [hpp.pages] at hN9
         have hall : ∀ x ∈ xs9, Tr.Part σ4 d x.cs x.P x.L ∧ Nd.sum (d == 0) x.cs ≤ 488 ∧ Tr.Good (d == 0) x.cs x.L := fun x hx => ⟨(hpp.each x hx).2.2, (hpp.each x hx).2.1, (hmid.good x hx).1⟩
         have hxl : xs9.length ≤ 2 := by rcases hpp.count with h | h <;> omega
         have hxl0 : 0 < xs9.length := by rcases hpp.count with h | h <;> omega
         have hpr' := hpr
         rw [hpp.pts] at hpr'
         have HMD := Lib.hid (made_any hp hat hN9 hall hpr' (Nat.zero_le _) (HK.out.imp id (fun _ => by omega)) (by omega))
         have HMID := Lib.hid hmid
         have HKSS := Lib.hid hks
         have hAl : a ≤ ks.length := by rw [hks, List.length_append, List.length_append]; omega
         have hbl : b9 ≤ ks.length := by rw [hks, List.length_append, List.length_append]; omega
         have HAL := Lib.hid hA
         have HML := Lib.hid hM
         have HOFW := Lib.hid hof
         have HFRW := Lib.hid hfr
         have HRWW := Lib.hid (HRW.out.carry hof hfr)
         have hgW : g < wc.heap.size := Nat.lt_of_lt_of_le hg22 hof.size
         have hoS4 := Lib.hid (hp.old hat)
         have HAT9 := Lib.hid hat
         have HK4 := Lib.hid (show k ≤ (k4 - xs9.length) + 2 * (d + 1) by omega)
         clear hmid hks hA hM hof hfr hat hk4 hpr hpr' hall hN9 hmm hpp
         go_wp2_with fail
         refine HMD.out.mono ?_
         rintro e w6 (⟨A', c', ks', σ', rfl, hown6, hrg, hst6, hmv6, S6, hat6, hof6, hfr6, hns6⟩ | ⟨hF, rfl, σ', S6, hat6, hof6, hfr6⟩)
         · have hksl : 0 < ks'.length ∧ ks'.length ≤ 2 := by
             have := congrArg List.length hrg
             rw [List.length_map, List.length_map] at this
             omega
           obtain ⟨hksl, hksl2⟩ := hksl
           obtain ⟨g6, rfl, hg6a, hg6b, -, hg6c, hg6d⟩ := hown6.full (by rw [List.length_map]; omega)
           obtain ⟨hpart, hmvF, hsumF⟩ := HMID.out.made (by rw [← HKSS.out]; exact HB.out) (by rw [← HKSS.out]; exact HND.out) hrg hst6 hmv6
           rw [← HKSS.out] at hmvF hsumF
           have hsum750 : Nd.sum false ((AA ++ ks' ++ CC).map Kd.cell) ≤ 750 := by have := HSU.out; omega
           have hright := hpart.right.2
           obtain ⟨xsF, hparts⟩ := hpart.parts frm HLW.out hfs hsum750
           have hcat : (ks.map Kd.cell).take a ++ (ks'.map Kd.cell ++ (ks.map Kd.cell).drop b9) = (AA ++ ks' ++ CC).map Kd.cell := by
             rw [HKSS.out, ← HAL.out]
             simp only [List.map_append, List.append_assoc]
             rw [List.take_left' (by simp), List.drop_append, List.drop_of_length_le (by simp; have := HML.out; have := HAL.out; omega), List.drop_append, List.drop_of_length_le (by simp; have := HML.out; have := HAL.out; omega), List.nil_append, List.nil_append, show b9 - (AA.map Kd.cell).length - (MM.map Kd.cell).length = 0 by simp; have := HML.out; have := HAL.out; omega, List.drop_zero]
           have hrw6 := HRWW.out.carry hof6 hfr6
           have hsp6 : ∃ o3, (if c = b9 then (some ⟨g, 0, none⟩ : Option Addr) else some ⟨g, b9 * 5, none⟩) = some ⟨g, o3, none⟩ ∧ CRow w6 (Cl 0 S6) ⟨some ⟨g, o3, none⟩, ks.length - b9, c - b9⟩ ((ks.map Kd.cell).drop b9) := by
             by_cases hcb : c = b9
             · refine ⟨0, by rw [if_pos hcb], ?_⟩
               have e1 : (ks.map Kd.cell).drop b9 = [] := List.drop_of_length_le (by rw [List.length_map]; omega)
               have e2 : ks.length - b9 = 0 := by omega
               rw [e1, e2]
               exact CRow.empty _ _ _ (by unfold maxLen; omega)
             · refine ⟨b9 * 5, by rw [if_neg hcb], ?_⟩
               have h9 := hrw6.drop b9 (by rw [List.length_map]; omega)
               rwa [Nat.zero_add] at h9
           obtain ⟨o3, ho3, hrowC⟩ := hsp6
           have hrowA := hrw6.take a (by rw [List.length_map]; omega)
           have hrowM := hown6.here (hns6 g6 rfl)
           obtain ⟨fl, hfl⟩ : ∃ fl, fl = (AA ++ ks' ++ CC).map Kd.cell := ⟨_, rfl⟩
           rw [← hfl] at hcat hright hsum750 hparts
           have hg6l : g < w6.heap.size := Nat.lt_of_lt_of_le hgW hof6.size
           have hol6 := hp.old hat6
           have hfl0 : 0 < fl.length := by rw [hfl]; simp; omega
           have hflm : fl.length ≤ 200 := by have := Nd.sum_ge false fl; omega
           have hba := Lib.hid (show Below w6.heap.size w6 (w6.alloc (.cells #[.slice (some ⟨g, 0, none⟩) a c, .slice (some ⟨g6, 0, none⟩) ks'.length c', .slice (some ⟨g, o3, none⟩) (ks.length - b9) (c - b9)] 174)).drew from ((Below.refl _ _).alloc (Nat.le_refl _) _).drew)
           have hcc : Calls Tryz.prog 224 #[.slice (some ⟨w6.heap.size, 0, none⟩) 3 3] (w6.alloc (.cells #[.slice (some ⟨g, 0, none⟩) a c, .slice (some ⟨g6, 0, none⟩) ks'.length c', .slice (some ⟨g, o3, none⟩) (ks.length - b9) (c - b9)] 174)).drew (TellsR fl (w6.alloc (.cells #[.slice (some ⟨g, 0, none⟩) a c, .slice (some ⟨g6, 0, none⟩) ks'.length c', .slice (some ⟨g, o3, none⟩) (ks.length - b9) (c - b9)] 174)).drew) := by
             have hk := (Bk.new w6 174 #[.slice (some ⟨g, 0, none⟩) a c, .slice (some ⟨g6, 0, none⟩) ks'.length c', .slice (some ⟨g, o3, none⟩) (ks.length - b9) (c - b9)]).drew
             have hz := concat_any ⟨some ⟨w6.heap.size, 0, none⟩, 3, 3⟩ [(ks.map Kd.cell).take a, ks'.map Kd.cell, (ks.map Kd.cell).drop b9] (Cl 0 S6) _ (rowC_three hk ⟨Nat.zero_le _, fun hh => by have := hol6 _ hh; omega⟩ (hrowA.below hba.out) (hrowM.below hba.out) (hrowC.below hba.out) (by simp; omega) (by simp; omega) (by simp; omega))
             have e9 : [(ks.map Kd.cell).take a, ks'.map Kd.cell, (ks.map Kd.cell).drop b9].flatten = fl := by rw [← hcat]; simp
             rw [e9] at hz
             exact hz hfl0 (by omega) (by simp)
           have HCC := Lib.hid hcc
           have HB0 := Lib.hid (show Below w6.heap.size w6 w6.drew from (Below.refl _ _).drew)
           have HPP := Lib.hid fun (W : World) (A : Option Addr) (c : Nat) (B : Nat) (hown : COwn W B (.slice A fl.length c) fl) (hB : w6.heap.size ≤ B) (hb : Below w6.heap.size w6 W) => (show Calls Tryz.prog 162 #[.string frm, .bool false, .slice A fl.length c] W (TellsPs 0 S6 (Tr.partsL frm false fl) W) from
             parts_any frm false ⟨A, fl.length, c⟩ fl 0 S6 W (hown.as.sub (fun b h1 _ => ⟨Nat.zero_le _, fun hh => by have := hol6 b hh; omega⟩)) (fun b hh => Nat.lt_of_lt_of_le (hol6 b hh) hb.size) (Nat.zero_le _) hright hsum750)
           have HEND := Lib.hid (show ∀ (r : Rw) (w8 : World), Below w6.heap.size w6 w8 → PRow w8 (Cl 0 S6) r (Tr.partsL frm false fl) → EditWay p S σ k (d + 1) frm (no :: ks.flatMap (·.P) ++ X) (f (ks.flatMap (·.L))) w w8 r 0 from fun r w8 hb8 hpr8 =>
             .inl ⟨rfl, _, xsF, _, σ', S6, _, hpr8, hparts, HMV.out σ' _ hmvF, hp.below hat6 hb8, HK4.out, HOF2.out.then ((HOFW.out.then hof6 HFRW.out).trans (Off.of_below hb8 S2)) HFR2.out, HFR2.out.trans (HFRW.out.trans hfr6 HOFW.out.size) HOF2.out.size⟩)
           have hbi1 : (b9 : Int) ≤ (ks.length : Int) := by omega
           have hbi2 : (a : Int) ≤ (c : Int) := by omega
           have hbi3 : a ≤ c := by omega
           have hcm6 : c' ≤ 9223372036854775807 := by unfold maxLen at hg6d; omega
           clear hcc hrw6 hrowA hrowM hrowC hown6 hns6 hat6 hof6 hfr6 hparts hpart hmvF hsumF hsum750 hright hcat hfl hol6 hrg hst6 hmv6 hg6d
           go_wp2_with fail
           go_region_held3 (fun W => Below w6.heap.size w6 W) (first | (with_reducible exact HB0.out) | (with_reducible exact hba.out) | (with_reducible exact hb8w) | (with_reducible exact hb7w)) (first
             | (go_at_call 224; (with_reducible refine HCC.out.mono ?_); rintro e w7 ⟨hb7, A7, c7, rfl, hown7⟩; have hb7w := hba.out.trans (hb7.mono hba.out.size))
             | (go_at_call 162; (with_reducible refine (HPP.out _ _ _ _ hown7 hba.out.size hb7w).mono ?_); rintro e w8 ⟨hb8, r8, rfl, hpr8⟩; have hb8w := hb7w.trans (hb8.mono hb7w.size)))
           all_goals
             have HE := Lib.hid (HEND.out r8 w8 hb8w hpr8)
             clear hb7 hown7 hb7w hb8 hpr8 hb8w
             go_wp2_with fail
             go_ret2
             exact ⟨r8, 0, rfl, HE⟩
         · have HEND := Lib.hid (show EditWay p S σ k (d + 1) frm (no :: ks.flatMap (·.P) ++ X) (f (ks.flatMap (·.L))) w w6 ⟨none, 0, 0⟩ 9 from
             .inr ⟨hF, rfl, rfl, rfl, rfl, σ', S6, hat6, HOF2.out.then (HOFW.out.then hof6 HFRW.out) HFR2.out, HFR2.out.trans (HFRW.out.trans hfr6 HOFW.out.size) HOF2.out.size⟩)
           clear hat6 hof6 hfr6
           go_wp2_with fail
           go_ret2
           exact ⟨⟨none, 0, 0⟩, 9, rfl, HEND⟩
   · have HEND := Lib.hid (show EditWay p S σ k (d + 1) frm (no :: ks.flatMap (·.P) ++ X) (f (ks.flatMap (·.L))) w w3 ⟨none, 0, 0⟩ 9 from
       .inr ⟨hF, rfl, rfl, rfl, rfl, σ3, by
         obtain ⟨S3, h1, h2, h3⟩ := hst3
         exact ⟨S3, h1, HOF2.out.then (HO0.out.trans h2) HFR2.out, HFR2.out.trans (h3.mono (w := w2) (Nat.le_refl _)) HOF2.out.size⟩⟩)
     clear hst3 hw3
     go_wp2_with fail
     go_ret2
     exact ⟨⟨none, 0, 0⟩, 9, rfl, HEND⟩
end Go.Proofs.YtjbcbnemdhbhbaaGreatDoor

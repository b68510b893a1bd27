import Derived.Test.YtjbcbnemdhbhbaaGreatDoorG18
import Derived.Test.YtjbcbnemdhbhbaaGreatDoorG12
import Derived.Deep.RegionHeld3
namespace Go.Proofs.YtjbcbnemdhbhbaaGreatDoor
open Go.RowKit
set_option maxRecDepth 100000
set_option linter.unusedVariables false
set_option linter.unusedSimpArgs false
def TellsPE (p : Store) (S : List Nat) (σ' : Book) (k : Nat) (ps : List Pt) (w : World) (e : Ending) (w' : World) : Prop :=
 ∃ (S' : List Nat) (r : Rw), e = .returned (.tuple #[.slice r.A r.n r.c, .int .i64 0]) ∧ PRow w' (Cl 0 S') r ps ∧ p.At w' S' σ' k ∧ Off S w w' ∧ Fresh w S S'
theorem rowC_two {w : World} {S : Nat → Prop} {blk b1 o1 n1 c1 b2 o2 n2 c2 : Nat} {a b : List Ce} (h : Bk w blk 174 #[.slice (some ⟨b1, o1, none⟩) n1 c1, .slice (some ⟨b2, o2, none⟩) n2 c2]) (hS : S blk)
   (h1 : CRow w S ⟨some ⟨b1, o1, none⟩, n1, c1⟩ a) (h2 : CRow w S ⟨some ⟨b2, o2, none⟩, n2, c2⟩ b) (l1 : b1 < w.heap.size) (l2 : b2 < w.heap.size) : RowOf 1 RowC w S ⟨some ⟨blk, 0, none⟩, 2, 2⟩ [a, b] := by
 refine ⟨rfl, Nat.le_refl _, by unfold maxLen; show 2 ≤ _; omega, fun i d hd => ?_⟩
 match i with
 | 0 =>
   obtain rfl : a = d := by simpa using hd
   refine ⟨blk, 0, [.slice (some ⟨b1, o1, none⟩) n1 c1], rfl, ⟨hS, h.lt⟩, rfl, fun j u hu => ?_, b1, o1, n1, c1, rfl, h1, l1⟩
   have hj : j = 0 := by have := (List.getElem?_eq_some_iff.1 hu).1; simp at this; omega
   subst hj
   rw [h.cell]
   simpa using hu
 | 1 =>
   obtain rfl : b = d := by simpa using hd
   refine ⟨blk, 0, [.slice (some ⟨b2, o2, none⟩) n2 c2], rfl, ⟨hS, h.lt⟩, rfl, fun j u hu => ?_, b2, o2, n2, c2, rfl, h2, l2⟩
   have hj : j = 0 := by have := (List.getElem?_eq_some_iff.1 hu).1; simp at this; omega
   subst hj
   rw [h.cell]
   simpa using hu
 | i + 2 => simp at hd
theorem CRow.some {w : World} {S : Nat → Prop} {r : Rw} {l : List Ce} (h : CRow w S r l) (h0 : 0 < l.length) : ∃ b o c, r = ⟨Option.some ⟨b, o, none⟩, l.length, c⟩ ∧ b < w.heap.size ∧ l.length ≤ c ∧ c ≤ maxLen := by
 obtain ⟨A, n, c⟩ := r
 obtain ⟨b, o, hA, hS, -⟩ := h.at 0 h0
 simp only at hA
 subst hA
 obtain ⟨h1, h2, h3, -⟩ := h
 simp only at h1 h2 h3
 subst h1
 exact ⟨b, o, c, rfl, hS.2, h2, h3⟩
theorem pair_after {w w2 : World} {t1 t2 : TypeId} {cs1 cs2 : Array Value} (hb : Below ((w.alloc (.cells cs1 t1)).alloc (.cells cs2 t2)).heap.size ((w.alloc (.cells cs1 t1)).alloc (.cells cs2 t2)) w2) :
   Bk w2 w.heap.size t1 cs1 ∧ Bk w2 (w.heap.size + 1) t2 cs2 ∧ Below w.heap.size w w2 ∧ w.heap.size + 2 ≤ w2.heap.size := by
 have h := Bk.new (w.alloc (.cells cs1 t1)) t2 cs2
 rw [show (w.alloc (.cells cs1 t1)).heap.size = w.heap.size + 1 by simp] at h
 have hs := hb.size
 simp at hs
 exact ⟨bk_below ((Bk.new w t1 cs1).alloc _) hb, bk_below h hb, (((Below.refl _ w).alloc (Nat.le_refl _) _).alloc (by simp) _).trans (hb.mono (by simp; omega)), by omega⟩
set_option maxHeartbeats 16000000 in
theorem join_walk0 {p : Store} (hp : Serves p) {w : World} {S : List Nat} {σ : Book} {k : Nat} (h : p.At w S σ k) (leaf : Bool) (k0 k1 : Ce) (A2 : Option Addr) (cap2 : Nat) (h2 : CRow w (Cl 0 S) ⟨A2, 2, cap2⟩ [k0, k1]) (xkey : ByteArray) (xr : Rw) (L R : List Ce) (hx : CRow w (Cl 0 S) xr L)
   (hσ : σ k1.child = some ⟨if leaf then 1 else 2, Nd.str leaf R⟩) (hr : Nd.right leaf R = true) (hs : Nd.sum leaf R ≤ 488)
   (hx0 : 0 < L.length) (ho0 : 0 < R.length) (hxl : L.length ≤ 1000) (hall : ∀ c ∈ L ++ Nd.first leaf k1.key R, Nd.rightOne leaf c = true) (hsum : Nd.sum leaf (L ++ Nd.first leaf k1.key R) ≤ 750) :
   Calls Tryz.prog 223 #[.iface p.T p.v, .slice A2 2 cap2, .int .i64 0, .agg #[.string xkey, .bool leaf, .slice xr.A xr.n xr.c]] w
     (TellsPE p S (Tr.upd σ k1.child none) k (Tr.partsL k0.key leaf (L ++ Nd.first leaf k1.key R)) w) := by
 obtain ⟨b2, o2, c2, hA2, hb2, -, hc2⟩ := h2.some (by simp)
 injection hA2 with e1 e2 e3
 subst e1 e3
 obtain ⟨b', o', hA', -, p0, p1, p2, p3, p4⟩ := h2.at 0 (by simp)
 obtain ⟨b'', o'', hA'', -, r0, r1, r2, r3, r4⟩ := h2.at 1 (by simp)
 simp only [Option.some.injEq, Addr.mk.injEq, and_true] at hA' hA''
 obtain ⟨rfl, rfl⟩ := hA'
 obtain ⟨rfl, rfl⟩ := hA''
 simp only [List.getElem_cons_zero, List.getElem_cons_succ, Nat.zero_mul, Nat.one_mul, Nat.add_zero] at p0 p1 p2 p3 p4 r0 r1 r2 r3 r4
 obtain ⟨bx, ox, cx, rfl, hbx, hcx, hcx2⟩ := hx.some hx0
 have hcm2 : cap2 ≤ 9223372036854775807 := by unfold maxLen at hc2; omega
 have hcmx : cx ≤ 9223372036854775807 := by unfold maxLen at hcx2; omega
 have HX := Lib.hid hx
 have HA := Lib.hid h
 have HOLD := Lib.hid (hp.old h)
 have HS2 := Lib.hid (show b2 ∉ S from by
   obtain ⟨b9, o9, hA9, hS9, -⟩ := h2.at 0 (by simp)
   simp only [Option.some.injEq, Addr.mk.injEq, and_true] at hA9
   rw [hA9.1]; exact hS9.1.2)
 obtain ⟨fd, rv, -, hm, hen, hd⟩ := hp.drop
 have HD := Lib.hid hd
 have HALL := Lib.hid hall
 have HSUM := Lib.hid hsum
 have hol : R.length ≤ 1000 := by have := Nd.sum_ge leaf R; omega
 have P0 := Lib.hid p0
 have R0 := Lib.hid r0
 have HLD := Lib.hid fun (W : World) (hb : Below w.heap.size w W) => load_ok hp (hp.below HA.out hb) _ leaf _ hr hs hσ
 have HDN := Lib.hid (show σ k1.child ≠ none by rw [hσ]; simp)
 clear h2 hx h hd hall hsum hcx2 hc2 hr hs hσ
 go_enter Tryz.func223, Tryz.ntmps223
 go_wp2_with fail
 refine (HLD.out _ (((Below.refl _ w).alloc (Nat.le_refl _) _).alloc (by simp) _)).mono ?_
 rintro e w1 ⟨hb1, A, c, rfl, hown⟩
 obtain ⟨hk0, hk1, hn1, hs1⟩ := pair_after hb1
 obtain ⟨g, rfl, hg1, hg2, -, hg3, hg4⟩ := hown.full ho0
 simp at hg1
 have hcmg : c ≤ 9223372036854775807 := by unfold maxLen at hg4; omega
 have v1 : w1.cell? ⟨w.heap.size, 1, none⟩ = some (.bool leaf) := hk0.cell 1
 have v4 : w1.cell? ⟨w.heap.size + 1, 4, none⟩ = some (.int .i64 k1.child) := hk1.cell 4
 have l0 := hk0.lt
 have l1 := hk1.lt
 have HK0 := Lib.hid hk0
 have HN1 := Lib.hid hn1
 have HOW := Lib.hid hown
 have HDJ := Lib.hid (HD.out w1 S σ k _ (hp.below HA.out hn1) HDN.out)
 clear hb1 hn1 hk0 hk1 hown p0 p1 p2 p3 p4 r0 r1 r2 r3 r4 hg4
 go_wp2_with fail
 refine HDJ.out.mono ?_
 rintro e w2 ⟨rfl, S2, hat2, hof2, hfr2⟩
 have HOFA := Lib.hid ((Off.of_below HN1.out S).trans hof2)
 have HFRA := Lib.hid (hfr2.mono HN1.out.size)
 have HXC := Lib.hid (HX.out.carry HOFA.out HFRA.out)
 have HOC := Lib.hid (((HOW.out.apart (S := S) (fun b hb => by have := HOLD.out b hb; simp; omega)).sub (T := Cl 0 S) (fun b h _ => ⟨Nat.zero_le _, h.2⟩)).carry hof2 hfr2)
 have hk2 := hof2.bk HK0.out (fun hh => by have := HOLD.out _ hh; omega)
 have u1 : w2.cell? ⟨w.heap.size, 1, none⟩ = some (.bool leaf) := hk2.cell 1
 have u2 : w2.cell? ⟨w.heap.size, 2, none⟩ = some (.slice (some ⟨bx, ox, none⟩) L.length cx) := hk2.cell 2
 have l2 := hk2.lt
 have hP0 := (HOFA.out.cell (p := ⟨b2, o2, none⟩) hb2 HS2.out).trans P0.out
 have hR0 := (HOFA.out.cell (p := ⟨b2, o2 + 5, none⟩) hb2 HS2.out).trans R0.out
 have hs2 : w.heap.size ≤ w2.heap.size := HOFA.out.size
 have HP2 := Lib.hid hP0
 have HR2 := Lib.hid hR0
 have HAT2 := Lib.hid hat2
 have hold2 := hp.old hat2
 have HO2 := Lib.hid hold2
 have HCL := Lib.hid fun (W : World) (hb : Below w2.heap.size w2 W) => (show Calls Tryz.prog 221 #[.slice (some ⟨g, 0, none⟩) R.length c] W (TellsR R W) from
   clone_any ⟨some ⟨g, 0, none⟩, R.length, c⟩ R (Cl 0 S2) W (HOC.out.below hb) (by omega) (by omega))
 have hbl2 : bx < w2.heap.size := by have := hof2.size; omega
 have hLl : 0 < L.length := by omega
 have hRl : 0 < R.length := by omega
 have hLm : L.length ≤ 1000 := by omega
 have hRm : R.length ≤ 1000 := by omega
 clear hat2 hof2 hfr2 hk2 hP0 hR0 hold2 v1 v4 l0 l1
 go_wp2_with fail
 refine (HCL.out _ (Below.refl _ _)).mono ?_
 rintro e w3 ⟨hb3, A3, c3, rfl, hown3⟩
 obtain ⟨g3, rfl, hg3a, hg3b, -, hg3c, hg3d⟩ := hown3.full hRl
 obtain ⟨hq3, hf3⟩ := hown3.key0 hRl
 obtain ⟨ky3, hky3⟩ : ∃ x, x = (R[0]'hRl).key := ⟨_, rfl⟩
 rw [← hky3] at hq3
 have hb23 : Below w2.heap.size w2 w3 := hb3
 have hg3a : w2.heap.size ≤ g3 := hg3a
 have q5 := (hb23.cell (p := ⟨b2, o2 + 5, none⟩) (by show b2 < _; omega)).trans HR2.out
 have hcm3 : c3 ≤ 9223372036854775807 := by unfold maxLen at hg3d; omega
 have hways : ∃ wx, Below w2.heap.size w2 wx ∧ COwn wx w2.heap.size (.slice (some ⟨g3, 0, none⟩) R.length c3) (Nd.first leaf k1.key R) ∧ wx = (if leaf then w3 else w3.setCell ⟨g3, 0, none⟩ (.string k1.key)) := by
   cases leaf
   · exact ⟨_, hb23.setCell (p := ⟨g3, 0, none⟩) hg3a _, hown3.rekey hRl _, rfl⟩
   · exact ⟨_, hb23, hown3, rfl⟩
 obtain ⟨wx, hbx2, hox, hwx⟩ := hways
 obtain ⟨R2, hR2⟩ : ∃ R2, R2 = Nd.first leaf k1.key R := ⟨_, rfl⟩
 have hRl2 : R2.length = R.length := by rw [hR2, Nd.first_len]
 rw [← hR2] at HALL HSUM hox ⊢
 rw [← hRl2] at hox
 have HBX := Lib.hid hbx2
 have HOX := Lib.hid hox
 have HWX := Lib.hid hwx
 have HRL2 := Lib.hid hRl2
 have HR2E := Lib.hid hR2
 have hR20 : 0 < R2.length := by omega
 have hR2m : R2.length ≤ 1000 := by omega
 clear hb3 hown3 hb23 hbx2 hox hwx hR2 hRl2 hg3d hky3
 cases leaf
 all_goals
   go_wp2_with fail
   have hww := HWX.out
   simp only [Bool.false_eq_true, if_false, if_true] at hww
   rw [← hww]
   clear hww q5 hq3 hf3
   have q0 : wx.cell? ⟨b2, o2, none⟩ = some (.string k0.key) := (HBX.out.cell (p := ⟨b2, o2, none⟩) (by show b2 < _; omega)).trans HP2.out
   have hbx9 : b2 < wx.heap.size := by have := HBX.out.size; omega
   have HLX := Lib.hid (HXC.out.below HBX.out)
   have HRX := Lib.hid (HOX.out.apart (S := S2) HO2.out)
   have hgx : g3 < wx.heap.size := (HOX.out.full hR20).elim fun _ h => by have := h.2.2.1; have e := h.1; simp at e; omega
   have hlx : bx < wx.heap.size := by have := HBX.out.size; omega
   rw [HRL2.out] at HRX
   have HBX2 := Lib.hid (show ∀ b ∈ S2, b < wx.heap.size from fun b hb => Nat.lt_of_lt_of_le (HO2.out b hb) HBX.out.size)
   have HCC := Lib.hid (show Calls Tryz.prog 224 #[.slice (some ⟨wx.heap.size, 0, none⟩) 2 2] (wx.alloc (.cells #[.slice (some ⟨bx, ox, none⟩) L.length cx, .slice (some ⟨g3, 0, none⟩) R.length c3] 174)).drew (TellsR (L ++ R2) (wx.alloc (.cells #[.slice (some ⟨bx, ox, none⟩) L.length cx, .slice (some ⟨g3, 0, none⟩) R.length c3] 174)).drew) from by
     have hk := (Bk.new wx 174 #[.slice (some ⟨bx, ox, none⟩) L.length cx, .slice (some ⟨g3, 0, none⟩) R.length c3]).drew
     have hba : Below wx.heap.size wx (wx.alloc (.cells #[.slice (some ⟨bx, ox, none⟩) L.length cx, .slice (some ⟨g3, 0, none⟩) R.length c3] 174)).drew := ((Below.refl _ _).alloc (Nat.le_refl _) _).drew
     have hz := concat_any ⟨some ⟨wx.heap.size, 0, none⟩, 2, 2⟩ [L, R2] (Cl 0 S2) _ (rowC_two hk ⟨Nat.zero_le _, fun hh => by have := HBX2.out _ hh; omega⟩ (HLX.out.below hba) ((HRX.out.sub (T := Cl 0 S2) (fun b h _ => ⟨Nat.zero_le _, h.2⟩)).below hba) (by simp; omega) (by simp; omega)) (by simp; omega) (by simp; omega) (by simp)
     simpa using hz)
   have HKS := Lib.hid (show ∀ W : World, Below wx.heap.size wx W → W.cell? ⟨b2, o2, none⟩ = some (.string k0.key) ∧ Below wx.heap.size wx W from fun W hb => ⟨(hb.cell (p := ⟨b2, o2, none⟩) hbx9).trans q0, hb⟩)
   have HB0 := Lib.hid (show Below wx.heap.size wx wx.drew from (Below.refl _ _).drew)
   have hba := Lib.hid (show Below wx.heap.size wx (wx.alloc (.cells #[.slice (some ⟨bx, ox, none⟩) L.length cx, .slice (some ⟨g3, 0, none⟩) R.length c3] 174)).drew from ((Below.refl _ _).alloc (Nat.le_refl _) _).drew)
   have HPP := Lib.hid fun (W : World) (A : Option Addr) (c : Nat) (B : Nat) (hown : COwn W B (.slice A (L ++ R2).length c) (L ++ R2)) (hB : wx.heap.size ≤ B) (hb : Below wx.heap.size wx W) => (show Calls Tryz.prog 162 #[.string k0.key, .bool _, .slice A (L.length + R2.length) c] W (TellsPs 0 S2 (Tr.partsL k0.key _ (L ++ R2)) W) from by
     rw [← List.length_append]
     exact parts_any k0.key _ ⟨A, (L ++ R2).length, c⟩ (L ++ R2) 0 S2 W (hown.as.sub (fun b h1 _ => ⟨Nat.zero_le _, fun hh => by have := HBX2.out b hh; omega⟩)) (fun b hh => Nat.lt_of_lt_of_le (HBX2.out b hh) hb.size) (Nat.zero_le _) HALL.out HSUM.out)
   go_region_held3 (fun W => W.cell? ⟨b2, o2, none⟩ = some (.string k0.key) ∧ Below wx.heap.size wx W) (first | (with_reducible exact HKS.out _ HB0.out) | (with_reducible exact HKS.out _ hba.out) | (with_reducible exact HKS.out _ hb7w) | (with_reducible exact HKS.out _ hb6w)) (first
     | (go_at_call 224; (with_reducible refine HCC.out.mono ?_); rintro e w6 ⟨hb6, A6, c6, rfl, hown6⟩; have hb6w := hba.out.trans (hb6.mono hba.out.size))
     | (go_at_call 162; (with_reducible refine (HPP.out _ _ _ _ hown6 hba.out.size hb6w).mono ?_); rintro e w7 ⟨hb7, r7, rfl, hpr7⟩; have hb7w := hb6w.trans (hb7.mono hb6w.size)))
   all_goals
     have hoff : Off S w w7 := HOFA.out.then ((Off.of_below HBX.out S2).trans (Off.of_below hb7w S2)) HFRA.out
     have HEND := Lib.hid (show TellsPE p S (Tr.upd σ k1.child none) k (Tr.partsL k0.key _ (L ++ Nd.first _ k1.key R)) w (.returned (.tuple #[.slice r7.A r7.n r7.c, .int .i64 0])) w7 from by
       rw [← HR2E.out]
       exact ⟨S2, r7, rfl, hpr7, hp.below HAT2.out (HBX.out.trans (hb7w.mono HBX.out.size)), hoff, HFRA.out⟩)
     clear hb6 hown6 hb6w hb7 hpr7 hb7w hoff
     go_wp2_with fail
     go_ret2
     exact HEND.out
set_option maxHeartbeats 16000000 in
theorem join_walk1 {p : Store} (hp : Serves p) {w : World} {S : List Nat} {σ : Book} {k : Nat} (h : p.At w S σ k) (leaf : Bool) (k0 k1 : Ce) (A2 : Option Addr) (cap2 : Nat) (h2 : CRow w (Cl 0 S) ⟨A2, 2, cap2⟩ [k0, k1]) (xkey : ByteArray) (xr : Rw) (L R : List Ce) (hx : CRow w (Cl 0 S) xr R)
   (hσ : σ k0.child = some ⟨if leaf then 1 else 2, Nd.str leaf L⟩) (hr : Nd.right leaf L = true) (hs : Nd.sum leaf L ≤ 488)
   (hx0 : 0 < R.length) (ho0 : 0 < L.length) (hxl : R.length ≤ 1000) (hall : ∀ c ∈ L ++ Nd.first leaf k1.key R, Nd.rightOne leaf c = true) (hsum : Nd.sum leaf (L ++ Nd.first leaf k1.key R) ≤ 750) :
   Calls Tryz.prog 223 #[.iface p.T p.v, .slice A2 2 cap2, .int .i64 1, .agg #[.string xkey, .bool leaf, .slice xr.A xr.n xr.c]] w
     (TellsPE p S (Tr.upd σ k0.child none) k (Tr.partsL k0.key leaf (L ++ Nd.first leaf k1.key R)) w) := by
 obtain ⟨b2, o2, c2, hA2, hb2, -, hc2⟩ := h2.some (by simp)
 injection hA2 with e1 e2 e3
 subst e1 e3
 obtain ⟨b', o', hA', -, p0, p1, p2, p3, p4⟩ := h2.at 0 (by simp)
 obtain ⟨b'', o'', hA'', -, r0, r1, r2, r3, r4⟩ := h2.at 1 (by simp)
 simp only [Option.some.injEq, Addr.mk.injEq, and_true] at hA' hA''
 obtain ⟨rfl, rfl⟩ := hA'
 obtain ⟨rfl, rfl⟩ := hA''
 simp only [List.getElem_cons_zero, List.getElem_cons_succ, Nat.zero_mul, Nat.one_mul, Nat.add_zero] at p0 p1 p2 p3 p4 r0 r1 r2 r3 r4
 obtain ⟨bx, ox, cx, rfl, hbx, hcx, hcx2⟩ := hx.some hx0
 have hcm2 : cap2 ≤ 9223372036854775807 := by unfold maxLen at hc2; omega
 have hcmx : cx ≤ 9223372036854775807 := by unfold maxLen at hcx2; omega
 have HX := Lib.hid hx
 have HA := Lib.hid h
 have HOLD := Lib.hid (hp.old h)
 have HS2 := Lib.hid (show b2 ∉ S from by
   obtain ⟨b9, o9, hA9, hS9, -⟩ := h2.at 0 (by simp)
   simp only [Option.some.injEq, Addr.mk.injEq, and_true] at hA9
   rw [hA9.1]; exact hS9.1.2)
 obtain ⟨fd, rv, -, hm, hen, hd⟩ := hp.drop
 have HD := Lib.hid hd
 have HALL := Lib.hid hall
 have HSUM := Lib.hid hsum
 have hol : L.length ≤ 1000 := by have := Nd.sum_ge leaf L; omega
 have P0 := Lib.hid p0
 have R0 := Lib.hid r0
 have HLD := Lib.hid fun (W : World) (hb : Below w.heap.size w W) => load_ok hp (hp.below HA.out hb) _ leaf _ hr hs hσ
 have HDN := Lib.hid (show σ k0.child ≠ none by rw [hσ]; simp)
 clear h2 hx h hd hall hsum hcx2 hc2 hr hs hσ
 go_enter Tryz.func223, Tryz.ntmps223
 go_wp2_with fail
 refine (HLD.out _ (((Below.refl _ w).alloc (Nat.le_refl _) _).alloc (by simp) _)).mono ?_
 rintro e w1 ⟨hb1, A, c, rfl, hown⟩
 obtain ⟨hk0, hk1, hn1, hs1⟩ := pair_after hb1
 obtain ⟨g, rfl, hg1, hg2, -, hg3, hg4⟩ := hown.full ho0
 simp at hg1
 have hcmg : c ≤ 9223372036854775807 := by unfold maxLen at hg4; omega
 have v1 : w1.cell? ⟨w.heap.size, 1, none⟩ = some (.bool leaf) := hk0.cell 1
 have v4 : w1.cell? ⟨w.heap.size + 1, 4, none⟩ = some (.int .i64 k0.child) := hk1.cell 4
 have l0 := hk0.lt
 have l1 := hk1.lt
 have HK0 := Lib.hid hk0
 have HN1 := Lib.hid hn1
 have HOW := Lib.hid hown
 have HDJ := Lib.hid (HD.out w1 S σ k _ (hp.below HA.out hn1) HDN.out)
 clear hb1 hn1 hk0 hk1 hown p0 p1 p2 p3 p4 r0 r1 r2 r3 r4 hg4
 go_wp2_with fail
 refine HDJ.out.mono ?_
 rintro e w2 ⟨rfl, S2, hat2, hof2, hfr2⟩
 have HOFA := Lib.hid ((Off.of_below HN1.out S).trans hof2)
 have HFRA := Lib.hid (hfr2.mono HN1.out.size)
 have HXC := Lib.hid (HX.out.carry HOFA.out HFRA.out)
 have HOC := Lib.hid (((HOW.out.apart (S := S) (fun b hb => by have := HOLD.out b hb; simp; omega)).sub (T := Cl 0 S) (fun b h _ => ⟨Nat.zero_le _, h.2⟩)).carry hof2 hfr2)
 have hk2 := hof2.bk HK0.out (fun hh => by have := HOLD.out _ hh; omega)
 have u1 : w2.cell? ⟨w.heap.size, 1, none⟩ = some (.bool leaf) := hk2.cell 1
 have u2 : w2.cell? ⟨w.heap.size, 2, none⟩ = some (.slice (some ⟨bx, ox, none⟩) R.length cx) := hk2.cell 2
 have l2 := hk2.lt
 have hP0 := (HOFA.out.cell (p := ⟨b2, o2, none⟩) hb2 HS2.out).trans P0.out
 have hR0 := (HOFA.out.cell (p := ⟨b2, o2 + 5, none⟩) hb2 HS2.out).trans R0.out
 have hs2 : w.heap.size ≤ w2.heap.size := HOFA.out.size
 have HP2 := Lib.hid hP0
 have HR2 := Lib.hid hR0
 have HAT2 := Lib.hid hat2
 have hold2 := hp.old hat2
 have HO2 := Lib.hid hold2
 have HCL := Lib.hid fun (W : World) (hb : Below w2.heap.size w2 W) => (show Calls Tryz.prog 221 #[.slice (some ⟨bx, ox, none⟩) R.length cx] W (TellsR R W) from
   clone_any ⟨some ⟨bx, ox, none⟩, R.length, cx⟩ R (Cl 0 S2) W (HXC.out.below hb) (by omega) (by omega))
 have hbl2 : g < w2.heap.size := by have := hof2.size; omega
 have hLl : 0 < L.length := by omega
 have hRl : 0 < R.length := by omega
 have hLm : L.length ≤ 1000 := by omega
 have hRm : R.length ≤ 1000 := by omega
 clear hat2 hof2 hfr2 hk2 hP0 hR0 hold2 v1 v4 l0 l1
 go_wp2_with fail
 go_quiet (fail)
 go_wp2_with fail
 refine (HCL.out _ (below_drewN (Below.refl _ _) _)).mono ?_
 rintro e w3 ⟨hb3, A3, c3, rfl, hown3⟩
 obtain ⟨g3, rfl, hg3a, hg3b, -, hg3c, hg3d⟩ := hown3.full hRl
 obtain ⟨hq3, hf3⟩ := hown3.key0 hRl
 obtain ⟨ky3, hky3⟩ : ∃ x, x = (R[0]'hRl).key := ⟨_, rfl⟩
 rw [← hky3] at hq3
 have hb23 : Below w2.heap.size w2 w3 := (below_drewN (Below.refl _ w2) _).trans hb3
 have hg3a : w2.heap.size ≤ g3 := hg3a
 have q5 := (hb23.cell (p := ⟨b2, o2 + 5, none⟩) (by show b2 < _; omega)).trans HR2.out
 have hcm3 : c3 ≤ 9223372036854775807 := by unfold maxLen at hg3d; omega
 have hways : ∃ wx, Below w2.heap.size w2 wx ∧ COwn wx w2.heap.size (.slice (some ⟨g3, 0, none⟩) R.length c3) (Nd.first leaf k1.key R) ∧ wx = (if leaf then w3 else w3.setCell ⟨g3, 0, none⟩ (.string k1.key)) := by
   cases leaf
   · exact ⟨_, hb23.setCell (p := ⟨g3, 0, none⟩) hg3a _, hown3.rekey hRl _, rfl⟩
   · exact ⟨_, hb23, hown3, rfl⟩
 obtain ⟨wx, hbx2, hox, hwx⟩ := hways
 obtain ⟨R2, hR2⟩ : ∃ R2, R2 = Nd.first leaf k1.key R := ⟨_, rfl⟩
 have hRl2 : R2.length = R.length := by rw [hR2, Nd.first_len]
 rw [← hR2] at HALL HSUM hox ⊢
 rw [← hRl2] at hox
 have HBX := Lib.hid hbx2
 have HOX := Lib.hid hox
 have HWX := Lib.hid hwx
 have HRL2 := Lib.hid hRl2
 have HR2E := Lib.hid hR2
 have hR20 : 0 < R2.length := by omega
 have hR2m : R2.length ≤ 1000 := by omega
 clear hb3 hown3 hb23 hbx2 hox hwx hR2 hRl2 hg3d hky3
 cases leaf
 all_goals
   go_wp2_with fail
   have hww := HWX.out
   simp only [Bool.false_eq_true, if_false, if_true] at hww
   rw [← hww]
   clear hww q5 hq3 hf3
   have q0 : wx.cell? ⟨b2, o2, none⟩ = some (.string k0.key) := (HBX.out.cell (p := ⟨b2, o2, none⟩) (by show b2 < _; omega)).trans HP2.out
   have hbx9 : b2 < wx.heap.size := by have := HBX.out.size; omega
   have HLX := Lib.hid (HOC.out.below HBX.out)
   have HRX := Lib.hid (HOX.out.apart (S := S2) HO2.out)
   have hgx : g3 < wx.heap.size := (HOX.out.full hR20).elim fun _ h => by have := h.2.2.1; have e := h.1; simp at e; omega
   have hlx : g < wx.heap.size := by have := HBX.out.size; omega
   rw [HRL2.out] at HRX
   have HBX2 := Lib.hid (show ∀ b ∈ S2, b < wx.heap.size from fun b hb => Nat.lt_of_lt_of_le (HO2.out b hb) HBX.out.size)
   have HCC := Lib.hid (show Calls Tryz.prog 224 #[.slice (some ⟨wx.heap.size, 0, none⟩) 2 2] (wx.alloc (.cells #[.slice (some ⟨g, 0, none⟩) L.length c, .slice (some ⟨g3, 0, none⟩) R.length c3] 174)).drew (TellsR (L ++ R2) (wx.alloc (.cells #[.slice (some ⟨g, 0, none⟩) L.length c, .slice (some ⟨g3, 0, none⟩) R.length c3] 174)).drew) from by
     have hk := (Bk.new wx 174 #[.slice (some ⟨g, 0, none⟩) L.length c, .slice (some ⟨g3, 0, none⟩) R.length c3]).drew
     have hba : Below wx.heap.size wx (wx.alloc (.cells #[.slice (some ⟨g, 0, none⟩) L.length c, .slice (some ⟨g3, 0, none⟩) R.length c3] 174)).drew := ((Below.refl _ _).alloc (Nat.le_refl _) _).drew
     have hz := concat_any ⟨some ⟨wx.heap.size, 0, none⟩, 2, 2⟩ [L, R2] (Cl 0 S2) _ (rowC_two hk ⟨Nat.zero_le _, fun hh => by have := HBX2.out _ hh; omega⟩ (HLX.out.below hba) ((HRX.out.sub (T := Cl 0 S2) (fun b h _ => ⟨Nat.zero_le _, h.2⟩)).below hba) (by simp; omega) (by simp; omega)) (by simp; omega) (by simp; omega) (by simp)
     simpa using hz)
   have HKS := Lib.hid (show ∀ W : World, Below wx.heap.size wx W → W.cell? ⟨b2, o2, none⟩ = some (.string k0.key) ∧ Below wx.heap.size wx W from fun W hb => ⟨(hb.cell (p := ⟨b2, o2, none⟩) hbx9).trans q0, hb⟩)
   have HB0 := Lib.hid (show Below wx.heap.size wx wx.drew from (Below.refl _ _).drew)
   have hba := Lib.hid (show Below wx.heap.size wx (wx.alloc (.cells #[.slice (some ⟨g, 0, none⟩) L.length c, .slice (some ⟨g3, 0, none⟩) R.length c3] 174)).drew from ((Below.refl _ _).alloc (Nat.le_refl _) _).drew)
   have HPP := Lib.hid fun (W : World) (A : Option Addr) (c : Nat) (B : Nat) (hown : COwn W B (.slice A (L ++ R2).length c) (L ++ R2)) (hB : wx.heap.size ≤ B) (hb : Below wx.heap.size wx W) => (show Calls Tryz.prog 162 #[.string k0.key, .bool _, .slice A (L.length + R2.length) c] W (TellsPs 0 S2 (Tr.partsL k0.key _ (L ++ R2)) W) from by
     rw [← List.length_append]
     exact parts_any k0.key _ ⟨A, (L ++ R2).length, c⟩ (L ++ R2) 0 S2 W (hown.as.sub (fun b h1 _ => ⟨Nat.zero_le _, fun hh => by have := HBX2.out b hh; omega⟩)) (fun b hh => Nat.lt_of_lt_of_le (HBX2.out b hh) hb.size) (Nat.zero_le _) HALL.out HSUM.out)
   go_region_held3 (fun W => W.cell? ⟨b2, o2, none⟩ = some (.string k0.key) ∧ Below wx.heap.size wx W) (first | (with_reducible exact HKS.out _ HB0.out) | (with_reducible exact HKS.out _ hba.out) | (with_reducible exact HKS.out _ hb7w) | (with_reducible exact HKS.out _ hb6w)) (first
     | (go_at_call 224; (with_reducible refine HCC.out.mono ?_); rintro e w6 ⟨hb6, A6, c6, rfl, hown6⟩; have hb6w := hba.out.trans (hb6.mono hba.out.size))
     | (go_at_call 162; (with_reducible refine (HPP.out _ _ _ _ hown6 hba.out.size hb6w).mono ?_); rintro e w7 ⟨hb7, r7, rfl, hpr7⟩; have hb7w := hb6w.trans (hb7.mono hb6w.size)))
   all_goals
     have hoff : Off S w w7 := HOFA.out.then ((Off.of_below HBX.out S2).trans (Off.of_below hb7w S2)) HFRA.out
     have HEND := Lib.hid (show TellsPE p S (Tr.upd σ k0.child none) k (Tr.partsL k0.key _ (L ++ Nd.first _ k1.key R)) w (.returned (.tuple #[.slice r7.A r7.n r7.c, .int .i64 0])) w7 from by
       rw [← HR2E.out]
       exact ⟨S2, r7, rfl, hpr7, hp.below HAT2.out (HBX.out.trans (hb7w.mono HBX.out.size)), hoff, HFRA.out⟩)
     clear hb6 hown6 hb6w hb7 hpr7 hb7w hoff
     go_wp2_with fail
     go_ret2
     exact HEND.out
def DoPost (p : Store) (S : List Nat) (σ : Book) (k B : Nat) (X : List Nat) (l fl : List En) (w : World) (e : Ending) (w' : World) : Prop :=
 ∃ (A' : Option Addr) (c' : Nat) (σ' : Book) (S' U : List Nat), e = .returned (.tuple #[.slice A' fl.length c', .int .i64 0]) ∧ CRow w' (Cl 0 S') ⟨A', fl.length, c'⟩ (fl.map (·.cell)) ∧
     Tr.Moved σ (l.flatMap (·.pages) ++ X) σ' (fl.flatMap (·.pages)) ∧ (∀ e ∈ fl, Tr.EnOk σ' e) ∧ p.At w' S' σ' k ∧ Off U w w' ∧ (∀ g ∈ U, g ∈ S ∨ B ≤ g) ∧ Fresh w S S'
structure DoSpec (p : Store) (fc : Nat) (caps : Array Value) (w0 : World) (S0 : List Nat) (σ0 : Book) (X : List Nat) (f : List En → List En) : Prop where
 enter : ∀ args W, Sem.run Tryz.prog (callFunc fc args) W = .ok (.enter fc args) W
 does : ∀ (w : World) (S : List Nat) (σ : Book) (k : Nat) (l : List En) (A : Option Addr) (c : Nat) (B : Nat), Off S0 w0 w → Fresh w0 S0 S → p.At w S σ k → Tr.Rising l → (∀ e ∈ l, Tr.EnOk σ e) → (l.flatMap (·.pages) ++ X).Nodup → (∀ n ∈ X, σ n = σ0 n) →
   COwn w B (.slice A l.length c) (l.map (·.cell)) → w0.heap.size ≤ B → (∀ g, Value.ownBlock (.slice A l.length c) = some g → g ∉ S) → B ≤ w.heap.size → l.length ≤ 500 →
   Calls Tryz.prog fc (#[.slice A l.length c] ++ caps) w (DoPost p S σ k B X l (f l) w)
def EditOk (p : Store) (S : List Nat) (σ : Book) (k d : Nat) (key : ByteArray) (Q : List Nat) (L : List En) (w : World) (e : Ending) (w' : World) : Prop :=
 ∃ (r : Rw) (ps : List Pt) (xs : List Tr.Pd) (P' : List Nat) (σ' : Book) (S' : List Nat) (k' : Nat), e = .returned (.tuple #[.slice r.A r.n r.c, .int .i64 0]) ∧ PRow w' (Cl 0 S') r ps ∧ Tr.Parts σ' d key ps P' L xs ∧ Tr.Moved σ Q σ' P' ∧ p.At w' S' σ' k' ∧ k ≤ k' + 2 * d ∧ Off S w w' ∧ Fresh w S S'
theorem Tr.Moved.nil_left {σ σ' : Book} {n : Nat} {Q P' : List Nat} (h : Tr.Moved (Tr.upd σ n none) Q σ' P') (hQ : ∀ m ∈ Q, σ m ≠ none) (hn : σ n ≠ none) (hnd : Q.Nodup) (hnq : n ∉ Q) : Tr.Moved σ (n :: Q) σ' P' := by
 have f1 := (Tr.Moved.drop σ n).frame hQ hnd (fun m hm => by simp; rintro rfl; exact hnq hm)
 exact f1.trans h
set_option maxHeartbeats 16000000 in
theorem edit_leaf {p : Store} (hp : Serves p) {fc : Nat} {caps : Array Value} {w0 : World} {S0 : List Nat} {σ0 : Book} {X : List Nat} {f : List En → List En} (key : ByteArray) (hf : Tr.IsChange key f) (hdo : DoSpec p fc caps w0 S0 σ0 X f)
   {w : World} {S : List Nat} {σ : Book} {k : Nat} (h : p.At w S σ k) (h0 : Off S0 w0 w) (h1 : Fresh w0 S0 S) (no : Nat) (frm : ByteArray) (depth : Nat) {P : List Nat} {L : List En} (hst : Tr.Stored σ 0 no P L) (hnd : (P ++ X).Nodup) (hX : ∀ n ∈ X, σ n = σ0 n ∧ σ n ≠ none)
   (hlow : ∀ e ∈ L, Nd.lt e.cell.key frm = false) (hkey : Nd.lt key frm = false) (hfs : frm.size ≤ 120) (hdep : depth ≤ 10) :
   Calls Tryz.prog 163 #[.iface p.T p.v, .int .i64 no, .string frm, .string key, .func (.func fc) #[] caps, .int .i64 depth] w (EditOk p S σ k 0 frm (P ++ X) (f L) w) := by
 obtain ⟨cs, P', rfl, g1, g2, g3, g4, g5, g6, -⟩ := hst
 have hpr := g4.right
 have hsz := Nd.sum_ge true cs
 obtain ⟨q1, q2, q3, q4⟩ := id g4
 subst q1
 rw [List.length_map] at hsz
 have hLl : L.length ≤ 500 := by have : Nd.sum true (L.map (·.cell)) ≤ 488 := g5; omega
 have HLD := Lib.hid (load_ok hp h no true _ hpr.1 g5 g3)
 have hnn : σ no ≠ none := by rw [g3]; simp
 obtain ⟨fd, rv, -, hm, hen, hd⟩ := hp.drop
 have hnno : no ∉ P' ++ X := (List.nodup_cons.1 (by simpa using hnd)).1
 have hndr : (P' ++ X).Nodup := (List.nodup_cons.1 (by simpa using hnd)).2
 have hmem : ∀ m ∈ P' ++ X, σ m ≠ none := fun m hm => by
   rcases List.mem_append.1 hm with hm | hm
   · exact (g4.mem m hm).2.2
   · exact (hX m hm).2
 have HA := Lib.hid h
 have HOLD := Lib.hid (hp.old h)
 have z0 : decide ((10 : Int) < (depth : Int)) = false := decide_eq_false (by omega)
 have he := hdo.enter
 have HD := Lib.hid hd
 have hup : ∀ m ∈ P' ++ X, Tr.upd σ no none m = σ m := fun m hm => Tr.upd_ne _ _ (fun e => hnno (by rw [← e]; exact hm))
 have hpw : ∀ e ∈ L, ∀ m ∈ e.pages, m ∈ P' ++ X := fun e he m hm => List.mem_append.2 (.inl (by rw [q2]; exact List.mem_flatMap.2 ⟨e, he, hm⟩))
 have HQ3 := Lib.hid q3
 have HEO := Lib.hid (show ∀ e ∈ L, Tr.EnOk (Tr.upd σ no none) e from fun e he => (q4 e he).congr fun m hm => hup m (hpw e he m hm))
 have HND := Lib.hid (show (L.flatMap (·.pages) ++ X).Nodup by rw [← q2]; exact hndr)
 have HXS := Lib.hid (show ∀ n ∈ X, Tr.upd σ no none n = σ0 n from fun n hn => (hup n (List.mem_append.2 (.inr hn))).trans (hX n hn).1)
 have HMV := Lib.hid (show ∀ σ' P2, Tr.Moved (Tr.upd σ no none) (L.flatMap (·.pages) ++ X) σ' P2 → Tr.Moved σ (no :: P' ++ X) σ' P2 from fun σ' P2 hm => by
   rw [← q2] at hm
   exact Tr.Moved.nil_left hm hmem hnn hndr hnno)
 have HSUM := Lib.hid (show Nd.sum true ((f L).map (·.cell)) ≤ 750 by have := hf.grow L; have : Nd.sum true (L.map (·.cell)) ≤ 488 := g5; omega)
 have HRI := Lib.hid (hf.rise L q3)
 have HLW := Lib.hid (show ∀ e ∈ f L, Nd.lt e.cell.key frm = false from fun e he => by
   rcases hf.mem L e he with h9 | h9
   · exact hlow e h9
   · rw [h9]; exact hkey)
 have HNN := Lib.hid hnn
 have H0 := Lib.hid h0
 have H1 := Lib.hid h1
 clear h hd hsz hnd hpr g3 g4 g5 g6 q2 q3 q4 hup hpw hmem hnn hX hlow h0 h1 hndr hnno
 go_enter Tryz.func163, Tryz.ntmps163
 go_wp2_with fail
 refine HLD.out.mono ?_
 rintro e w1 ⟨hb1, A, c, rfl, hown⟩
 have HN1 := Lib.hid hb1
 have HOW := Lib.hid hown
 have HDJ := Lib.hid (HD.out w1 S σ k no (hp.below HA.out hb1) HNN.out)
 clear hb1 hown
 go_wp2_with fail
 refine HDJ.out.mono ?_
 rintro e w2 ⟨rfl, S2, hat2, hof2, hfr2⟩
 have HOF2 := Lib.hid ((Off.of_below HN1.out S).trans hof2)
 have HFR2 := Lib.hid (hfr2.mono HN1.out.size)
 have hlt := HOW.out
 have hown2 : COwn w2 w.heap.size (.slice A (L.map (·.cell)).length c) (L.map (·.cell)) := hlt.off hof2 HOLD.out
 have hns2 : ∀ g, Value.ownBlock (.slice A (L.map (·.cell)).length c) = some g → g ∉ S2 := fun g hg hs => by
   have h9 := World.ownsRow.lt hlt g hg
   rcases hfr2 g hs with h8 | h8
   · have := HOLD.out g h8; omega
   · omega
 rw [List.length_map] at hown2 hns2
 have HDO := Lib.hid (hdo.does w2 S2 _ k L A c w.heap.size (H0.out.then HOF2.out H1.out) (H1.out.trans HFR2.out H0.out.size) hat2 HQ3.out HEO.out HND.out HXS.out hown2 H0.out.size hns2 HOF2.out.size hLl)
 clear hat2 hof2 hfr2 hown2 hns2 hlt
 go_wp2_with fail
 refine HDO.out.mono ?_
 rintro e w3 ⟨A', c', σ', S', U, rfl, hrow3, hmv3, heo3, hat3, hof3, hU3, hfr3⟩
 have hof : Off S w w3 := HOF2.out.then hof3 (fun g hg => by
   rcases hU3 g hg with h9 | h9
   · exact HFR2.out g h9
   · exact .inr h9)
 have HOF3 := Lib.hid hof
 have HFR3 := Lib.hid (HFR2.out.trans hfr3 HOF2.out.size)
 have HAT3 := Lib.hid hat3
 have HMV3 := Lib.hid (HMV.out σ' _ hmv3)
 have hpart : Tr.Part σ' 0 ((f L).map (·.cell)) ((f L).flatMap (·.pages)) (f L) := ⟨rfl, rfl, HRI.out, heo3⟩
 have HPP := Lib.hid (parts_any frm true ⟨A', (f L).length, c'⟩ ((f L).map (·.cell)) 0 S' w3 hrow3 (hp.old hat3) (Nat.zero_le _) hpart.right.2 HSUM.out)
 have HXS3 := Lib.hid (hpart.parts frm HLW.out hfs HSUM.out)
 clear hof3 hfr3 hat3 hmv3 heo3 hpart hrow3 hU3 hof
 go_wp2_with fail
 refine HPP.out.mono ?_
 rintro e w4 ⟨hb4, r, rfl, hpr4⟩
 obtain ⟨xs, hxs⟩ := HXS3.out
 have HEND := Lib.hid (show EditOk p S σ k 0 frm (no :: P' ++ X) (f L) w (.returned (.tuple #[.slice r.A r.n r.c, .int .i64 0])) w4 from
   ⟨r, _, xs, _, σ', S', k, rfl, hpr4, hxs, HMV3.out, hp.below HAT3.out hb4, by omega, HOF3.out.trans (Off.of_below hb4 S), HFR3.out⟩)
 clear hb4 hpr4 hxs
 go_wp2_with fail
 go_ret2
 exact HEND.out
end Go.Proofs.YtjbcbnemdhbhbaaGreatDoor

import Derived.Test.YtjbcbnemdhbhbaaGreatDoorG21
import Derived.LoopN
import Derived.Test.YtjbcbnemdhbhbaaGreatDoorG17
import Derived.Test.YtjbcbnemdhbhbaaGreatDoorG20
import Derived.Test.YtjbcbnemdhbhbaaGreatDoorG18
namespace Go.Proofs.YtjbcbnemdhbhbaaGreatDoor
open Go.RowKit
set_option maxRecDepth 100000
set_option linter.unusedVariables false
set_option linter.unusedSimpArgs false
theorem editAt_any {p : Store} (hp : Serves p) {fc : Nat} {caps : Array Value} {w0 : World} {S0 : List Nat} {σ0 : Book} {X : List Nat} {f : List En → List En} (key : ByteArray) (hf : Tr.IsChange key f) (hfn : ∀ l, f l ≠ []) (hdo : DoSpec p fc caps w0 S0 σ0 X f) : ∀ d, EditAt p fc caps w0 S0 σ0 X f key d
 | 0 => editAt_leaf hp key hf hdo
 | d + 1 => editAt_branch hp key hf hfn d (editAt_any hp key hf hfn hdo d)
def TopWay (p : Store) (S : List Nat) (σ : Book) (k : Nat) (P : List Nat) (L : List En) (w : World) (v : Value) (w' : World) : Prop :=
 ∃ (r : Rw) (d : Nat) (cs : List Ce) (P' : List Nat) (σ' : Book) (S' : List Nat) (k' : Nat), v = .slice r.A r.n r.c ∧ PRow w' (Cl 0 S') r [⟨⟨#[]⟩, d == 0, cs⟩] ∧ Tr.Part σ' d cs P' L ∧ Nd.sum (d == 0) cs ≤ 488 ∧ Tr.Moved σ P σ' P' ∧ p.At w' S' σ' k' ∧ k ≤ k' + 2 ∧ Off S w w' ∧ Fresh w S S'
def RootWay (p : Store) (S : List Nat) (σ : Book) (k c : Nat) (Q : List Nat) (L : List En) (w : World) (e : Ending) (w' : World) : Prop :=
 (∃ (root : Nat) (P' : List Nat) (σ' : Book) (S' : List Nat) (k' : Nat), e = .returned (.tuple #[.int .i64 root, .int .i64 0]) ∧ Tr.Root σ' root P' L ∧ Tr.Moved σ Q σ' P' ∧ p.At w' S' σ' k' ∧ k ≤ k' + c ∧ Off S w w' ∧ Fresh w S S') ∨ Full p S w w' e (.returned (.tuple #[.int .i64 0, .int .i64 9]))
set_option maxHeartbeats 16000000 in
theorem top_any {p : Store} (hp : Serves p) {w : World} {S : List Nat} {σ : Book} {k : Nat} (h : p.At w S σ k) {d : Nat} {ps : List Pt} {P : List Nat} {L : List En} {xs : List Tr.Pd} {r : Rw} (hps : Tr.Parts σ d ⟨#[]⟩ ps P L xs) (hP : P.Nodup) (hr : PRow w (Cl 0 S) r ps) (hk : p.F ∨ 4 ≤ k) :
   Calls Tryz.prog 161 #[.iface p.T p.v, .slice r.A r.n r.c] w (RootWay p S σ k 4 P L w) := by
 obtain ⟨A, n, cap⟩ := r
 have hr0 := hr
 obtain ⟨h1, h2, h3, -⟩ := hr0
 simp only at h1 h2 h3 ⊢
 have hpl : ps.length = xs.length := by rw [hps.pts, List.length_map]
 rw [hpl] at h1
 subst h1
 have hcm : cap ≤ 9223372036854775807 := by unfold maxLen at h3; omega
 have HPS := Lib.hid hps
 have HR := Lib.hid hr
 have HA := Lib.hid h
 have HK := Lib.hid hk
 have HP := Lib.hid hP
 have HPL := Lib.hid hpl
 clear hps hr h hk h3 hP hpl
 go_enter Tryz.func161, Tryz.ntmps161
 go_upto_block 0 with fail
 go_cut [1] (fun v wx => TopWay p S σ k P L w v wx)
 case first =>
   have hcnt : (xs.length = 1 ∧ decide ((1 : Int) < (xs.length : Int)) = false) ∨ (xs.length = 2 ∧ decide ((1 : Int) < (xs.length : Int)) = true) := by
     rcases HPS.out.count with h | h
     · exact .inl ⟨h, decide_eq_false (by omega)⟩
     · exact .inr ⟨h.1, decide_eq_true (by omega)⟩
   rcases hcnt with ⟨hc, z1⟩ | ⟨hc, z1⟩
   · obtain ⟨x, hx, hxk, hxP, hxL, hxp, hxs, hxpart⟩ := HPS.out.one hc
     have HW := Lib.hid (show TopWay p S σ k P L w (.slice A xs.length cap) w from ⟨⟨A, xs.length, cap⟩, d, x.cs, x.P, σ, S, k, rfl, by rw [← hxp]; exact HR.out, by rw [hxL]; exact hxpart, hxs, by rw [← hxP]; exact Tr.Moved.refl (fun n hn => by rw [hxP] at hn; exact (hxpart.mem n hn).2.2) HP.out, HA.out, by omega, Off.refl _ _, Fresh.refl _ _⟩)
     clear hc hx hxk hxP hxL hxp hxs hxpart
     go_wp2_with fail
     refine wp_loop_rounds 1 ?_
     rw [rounds_succ]
     go_wp2_with fail
     go_meet
     exact HW.out
   · have hg : ∀ x ∈ xs, Tr.Good (d == 0) x.cs x.L ∧ Tr.Fat d x.L := by
       rcases HPS.out.count with h | h
       · omega
       · exact h.2
     have hpr := HR.out
     rw [HPS.out.pts] at hpr
     have hN : (xs.flatMap (·.P)).Nodup := by rw [← HPS.out.pages]; exact HP.out
     have HMD := Lib.hid (made_any hp HA.out hN (fun x hx => ⟨(HPS.out.each x hx).2.2, (HPS.out.each x hx).2.1, (hg x hx).1⟩) hpr (Nat.zero_le _) (HK.out.imp id (fun _ => by omega)) (by omega))
     have HC := Lib.hid hc
     have hxl : 0 < xs.length := by omega
     have HG := Lib.hid hg
     clear hc hg hpr hN
     go_wp2_with fail
     refine wp_loop_rounds 2 ?_
     rw [rounds_succ]
     go_wp2_with fail
     refine HMD.out.mono ?_
     rintro e w6 (⟨A', c', ks', σ', rfl, hown6, hrg, hst6, hmv6, S6, hat6, hof6, hfr6, hns6⟩ | ⟨hF, rfl, σ', S6, hat6, hof6, hfr6⟩)
     · have hksl : ks'.length = 2 := by
         have := congrArg List.length hrg
         rw [List.length_map, List.length_map, HC.out] at this
         exact this
       obtain ⟨g6, rfl, hg6a, hg6b, -, hg6c, hg6d⟩ := hown6.full (by rw [List.length_map]; omega)
       have hrowM := hown6.here (hns6 g6 rfl)
       obtain ⟨x0, t0, hx0, hxk⟩ := HPS.out.head
       have hkids : Tr.Kids σ' d ks' := by
         refine ⟨?_, by rw [hrg]; exact HPS.out.sep, fun k0 hk0 => ⟨⟨?_, ?_⟩, hst6 k0 hk0⟩⟩
         · cases ks' with
           | nil => simp at hksl
           | cons k0 t =>
             refine ⟨k0, t, rfl, ?_⟩
             rw [hx0] at hrg
             simp only [List.map_cons, List.cons.injEq] at hrg
             have := congrArg Prod.fst hrg.1
             simp only [Kd.rg, Tr.Pd.rg] at this
             rw [this, hxk]
         · have : k0.rg ∈ xs.map Tr.Pd.rg := by rw [← hrg]; exact List.mem_map_of_mem hk0
           obtain ⟨y, hy, e⟩ := List.mem_map.1 this
           have e1 := congrArg Prod.fst e
           simp only [Kd.rg, Tr.Pd.rg] at e1
           rw [← e1]
           exact (HPS.out.each y hy).1
         · have : k0.rg ∈ xs.map Tr.Pd.rg := by rw [← hrg]; exact List.mem_map_of_mem hk0
           obtain ⟨y, hy, e⟩ := List.mem_map.1 this
           have e1 := congrArg Prod.snd e
           simp only [Kd.rg, Tr.Pd.rg] at e1
           rw [← e1]
           exact (HG.out y hy).2
       have hLs : ks'.flatMap (·.L) = L := by
         have e1 : ∀ (l : List Kd), l.flatMap (·.L) = (l.map Kd.rg).flatMap (·.2) := fun l => by rw [List.flatMap_map]; rfl
         have e2 : ∀ (l : List Tr.Pd), l.flatMap (·.L) = (l.map Tr.Pd.rg).flatMap (·.2) := fun l => by rw [List.flatMap_map]; rfl
         rw [HPS.out.ents, e1, e2, hrg]
       have hpart : Tr.Part σ' (d + 1) (ks'.map Kd.cell) (ks'.flatMap (·.P)) L := by have := hkids.part; rwa [hLs] at this
       have hsum : Nd.sum false (ks'.map Kd.cell) ≤ 488 := by
         obtain ⟨a, b, e⟩ : ∃ a b, ks' = [a, b] := by
           match ks', hksl with
           | [a, b], _ => exact ⟨a, b, rfl⟩
         have h1 := (hkids.each a (by rw [e]; simp)).1.1
         have h2 := (hkids.each b (by rw [e]; simp)).1.1
         rw [e]
         simp [Nd.sum, Tr.size_kid]
         omega
       have HPO := Lib.hid (parts_one ⟨#[]⟩ false ⟨some ⟨g6, 0, none⟩, ks'.length, c'⟩ (ks'.map Kd.cell) (Cl 0 S6) w6 hrowM hpart.right.2 hsum)
       have HROW := Lib.hid hrowM
       have HW := Lib.hid (show ∀ (g : Nat) (w8 : World), Below w6.heap.size w6 w8 → w6.heap.size ≤ g → Bk w8 g 319 #[.string ⟨#[]⟩, .bool false, .slice (some ⟨g6, 0, none⟩) ks'.length c'] → TopWay p S σ k P L w (.slice (some ⟨g, 0, none⟩) 1 1) w8 from fun g w8 hb8 hg8 hk8 =>
         ⟨⟨some ⟨g, 0, none⟩, 1, 1⟩, d + 1, ks'.map Kd.cell, _, σ', S6, _, rfl, PRow.lit (x := ⟨⟨#[]⟩, d + 1 == 0, ks'.map Kd.cell⟩) (q := ⟨some ⟨g6, 0, none⟩, ks'.length, c'⟩) hk8 ⟨Nat.zero_le _, fun hh => by have := hp.old hat6 g hh; omega⟩ (hrowM.below hb8), hpart, hsum, by rw [HPS.out.pages]; exact hmv6, hp.below hat6 hb8, by rw [HC.out]; omega, hof6.trans (Off.of_below hb8 S), hfr6⟩)
       have HKL := Lib.hid hksl
       clear hrowM hpart hsum hLs hkids hx0 hxk hown6 hrg hst6 hmv6 hat6 hof6 hfr6 hns6 hksl hg6d
       go_wp2_with fail
       refine HPO.out.mono ?_
       rintro e w8 ⟨hb8, g8, hg8, rfl, hk8⟩
       have HW8 := Lib.hid (HW.out g8 w8 hb8 hg8 hk8)
       clear hb8 hg8 hk8
       go_wp2_with fail
       rw [rounds_succ]
       go_wp2_with fail
       go_meet
       exact HW8.out
     · have HEND := Lib.hid (show RootWay p S σ k 4 P L w (.returned (.tuple #[.int .i64 0, .int .i64 9])) w6 from .inr ⟨hF, rfl, σ', S6, hat6, hof6, hfr6⟩)
       clear hat6 hof6 hfr6
       go_wp2_with fail
       go_ret2
       exact HEND.out
 case rest =>
   obtain ⟨r1, d1, cs, P1, σ1, S1, k1, rfl, hpr, hpart, hsum, hmv, hat, hk1, hof, hfr⟩ := hcut
   obtain ⟨rA, rn, rc⟩ := r1
   obtain ⟨bp, op, hAp, hSp, qp, p0, p1, p2, hpc⟩ := hpr.at 0 (by simp)
   simp only at hAp
   subst hAp
   simp only [List.getElem_cons_zero, Nat.zero_mul, Nat.add_zero] at p0 p1 p2 hpc
   have hrn : rn = 1 := hpr.1
   subst hrn
   have hrcm : rc ≤ 9223372036854775807 := by have h := hpr.2.2.1; simp only at h; unfold maxLen at h; omega
   have hrc1 : 1 ≤ rc := hpr.2.1
   have hbp := hSp.2
   have hqn : qp.n = cs.length := hpc.1
   have hqm : qp.c ≤ 9223372036854775807 := by have h := hpc.2.2.1; unfold maxLen at h; omega
   have hqc := hpc.2.1
   have hcl : cs.length ≤ 1000 := by have := Nd.sum_ge (d1 == 0) cs; omega
   have hways : (cs = [] ∧ d1 = 0) ∨ (∃ d2, d1 = d2 + 1 ∧ cs.length = 1) ∨ Tr.Good (d1 == 0) cs L := by
     cases d1 with
     | zero =>
       obtain ⟨e1, -⟩ := hpart
       cases L with
       | nil => exact .inl ⟨e1, rfl⟩
       | cons a t => exact .inr (.inr ⟨List.cons_ne_nil _ _, fun h => by cases h⟩)
     | succ d2 =>
       obtain ⟨ks, hB, e1, e2, e3⟩ := Tr.Kids.of_part hpart
       obtain ⟨k0, t, e4, -⟩ := hB.first
       subst e4
       cases t with
       | nil => exact .inr (.inl ⟨d2, rfl, by rw [e1]; rfl⟩)
       | cons a t =>
         refine .inr (.inr ⟨?_, fun _ => by rw [e1]; simp⟩)
         rw [e3, List.flatMap_cons]
         have := (hB.each k0 (by simp)).2.ne
         simp [this]
   obtain ⟨qA, qn, qc⟩ := qp
   simp only at hqn hqm hqc p2
   subst hqn
   rcases hways with ⟨rfl, rfl⟩ | ⟨d2, rfl, hc1⟩ | hg
   · obtain ⟨e1, e2, -⟩ := hpart
     have hL : L = [] := by simpa using e1.symm
     subst hL
     have hP1 : P1 = [] := by simpa using e2
     subst hP1
     have HE := Lib.hid (show RootWay p S σ k 4 P [] w (.returned (.tuple #[.int .i64 0, .int .i64 0])) (wc.alloc (.cells #[.string ⟨#[]⟩, .bool true, .slice qA 0 qc] 319)) from
       .inl ⟨0, [], σ1, S1, k1, rfl, .inl ⟨rfl, rfl, rfl⟩, hmv, hp.below hat ((Below.refl _ _).alloc (Nat.le_refl _) _), by omega, hof.alloc _, hfr⟩)
     clear hpr hpc e1 e2 hmv hat hof hfr
     go_wp2_with fail
     go_ret2
     exact HE.out
   · obtain ⟨ks, hB, e1, e2, e3⟩ := Tr.Kids.of_part hpart
     obtain ⟨k0, t, e4, -⟩ := hB.first
     subst e4
     have ht : t = [] := by
       rw [e1] at hc1
       cases t with
       | nil => rfl
       | cons a t => simp at hc1
     subst ht
     have hst := (hB.each k0 (by simp)).2
     obtain ⟨b3, o3, c3, hq3, hb3, -, -⟩ := hpc.some (by omega)
     injection hq3 with hq3 hq4 hq5
     subst hq3 hq5
     have hkc := kid_cell (ks := [k0]) (by rw [← e1]; exact hpc) 0 (by simp)
     simp only [Nat.zero_mul, Nat.add_zero, List.getElem_cons_zero] at hkc
     have u4 := hkc.2
     have e2' : P1 = k0.P := by rw [e2]; simp
     have e3' : L = k0.L := by rw [e3]; simp
     have HE := Lib.hid (show RootWay p S σ k 4 P L w (.returned (.tuple #[.int .i64 k0.no, .int .i64 0])) (wc.alloc (.cells #[.string ⟨#[]⟩, .bool false, .slice (some ⟨b3, o3, none⟩) cs.length qc] 319)) from
       .inl ⟨k0.no, k0.P, σ1, S1, k1, rfl, .inr ⟨d2, by rw [e3']; exact hst⟩, by rw [← e2']; exact hmv, hp.below hat ((Below.refl _ _).alloc (Nat.le_refl _) _), by omega, hof.alloc _, hfr⟩)
     have z1 : ((cs.length : Int) == 0) = false := by rw [hc1]; rfl
     have z2 : ((cs.length : Int) == 1) = true := by rw [hc1]; rfl
     have z3 : (cs.length == 0) = false := by rw [hc1]; rfl
     have z4 : (cs.length == 1) = true := by rw [hc1]; rfl
     have hcl0 : 0 < cs.length := by omega
     clear hpr hpc hmv hat hof hfr hB hst hkc hc1 hpart e1 e2 e3 e2' e3'
     go_wp2_with fail
     go_ret2
     exact HE.out
   · have hN : ([(⟨⟨#[]⟩, cs, P1, L⟩ : Tr.Pd)].flatMap (·.P)).Nodup := by simpa using hmv.nodup
     have hba : Below wc.heap.size wc (wc.alloc (.cells #[.string ⟨#[]⟩, .bool (d1 == 0), .slice qA cs.length qc] 319)) := (Below.refl _ _).alloc (Nat.le_refl _) _
     have HMD := Lib.hid (made_any hp (hp.below hat hba) (d := d1) (xs := [⟨⟨#[]⟩, cs, P1, L⟩]) (r := ⟨some ⟨bp, op, none⟩, 1, rc⟩) hN (fun x hx => by
       obtain rfl := List.mem_singleton.1 hx
       exact ⟨hpart, hsum, hg⟩) (hpr.below hba) (Nat.zero_le _) (HK.out.imp id (fun _ => by show 1 ≤ k1; omega)) (by simp))
     have hc0 : 0 < cs.length := by
       cases d1 with
       | zero =>
         obtain ⟨e1, -⟩ := hpart
         cases hL : L with
         | nil => exact absurd hL hg.1
         | cons a t => rw [e1, hL]; simp
       | succ d => have := hg.2 rfl; omega
     have z1 : ((cs.length : Int) == 0) = false := by rw [beq_eq_false_iff_ne]; omega
     have z3 : (cs.length == 0) = false := by rw [beq_eq_false_iff_ne]; omega
     obtain ⟨leaf, hleaf⟩ : ∃ leaf, leaf = (d1 == 0) := ⟨_, rfl⟩
     have hway : leaf = true ∨ (leaf = false ∧ ((cs.length : Int) == 1) = false ∧ (cs.length == 1) = false) := by
       cases hl : leaf with
       | true => exact .inl rfl
       | false =>
         have := hg.2 (by rw [← hleaf, hl])
         exact .inr ⟨rfl, by rw [beq_eq_false_iff_ne]; omega, by rw [beq_eq_false_iff_ne]; omega⟩
     rw [← hleaf] at p1 HMD
     have HST := Lib.hid (show Tr.Moved σ P σ1 P1 ∧ k ≤ k1 + 2 ∧ Off S w wc ∧ Fresh w S S1 from ⟨hmv, hk1, hof, hfr⟩)
     have HOB := Lib.hid (show ∀ b, Off S w (wc.alloc (.cells #[.string ⟨#[]⟩, .bool b, .slice qA cs.length qc] 319)) from fun b => hof.alloc _)
     clear hpr hpc hmv hat hof hfr hpart hsum hg hN hba hleaf
     rcases hway with rfl | ⟨rfl, z5, z6⟩
     all_goals
       go_wp2_with fail
       refine HMD.out.mono ?_
       rintro e w6 (⟨A', c', ks', σ', rfl, hown6, hrg, hst6, hmv6, S6, hat6, hof6, hfr6, hns6⟩ | ⟨hF, rfl, σ', S6, hat6, hof6, hfr6⟩)
       · obtain ⟨k0, rfl⟩ : ∃ k0, ks' = [k0] := by
           have := congrArg List.length hrg
           simp at this
           match ks', this with
           | [a], _ => exact ⟨a, rfl⟩
         obtain ⟨g6, rfl, hg6a, hg6b, -, hg6c, hg6d⟩ := hown6.full (by simp)
         have hkc := kid_cell (ks := [k0]) hown6.as 0 (by simp)
         simp only [Nat.zero_mul, Nat.add_zero, Nat.zero_add, List.getElem_cons_zero] at hkc
         have u4 := hkc.2
         have hL0 : k0.L = L := by
           simp only [List.map_cons, List.map_nil, List.cons.injEq, and_true] at hrg
           have := congrArg Prod.snd hrg
           exact this
         have hst0 := hst6 k0 (by simp)
         rw [hL0] at hst0
         have hmv0 : Tr.Moved σ P σ' k0.P := HST.out.1.trans (by simpa using hmv6)
         have hcm6 : c' ≤ 9223372036854775807 := by unfold maxLen at hg6d; omega
         have hcc6 : 1 ≤ c' := hg6c
         have HE := Lib.hid (show RootWay p S σ k 4 P L w (.returned (.tuple #[.int .i64 k0.no, .int .i64 0])) w6 from
           .inl ⟨k0.no, k0.P, σ', S6, _, rfl, .inr ⟨d1, hst0⟩, hmv0, hat6, by have := HST.out.2.1; simp; omega, (HOB.out _).then hof6 HST.out.2.2.2, HST.out.2.2.2.trans hfr6 (HOB.out _).size⟩)
         clear hown6 hrg hst6 hmv6 hat6 hof6 hfr6 hns6 hkc hst0 hmv0 hL0 hg6d
         go_wp2_with fail
         go_ret2
         exact HE.out
       · have HE := Lib.hid (show RootWay p S σ k 4 P L w (.returned (.tuple #[.int .i64 0, .int .i64 9])) w6 from
           .inr ⟨hF, rfl, σ', S6, hat6, (HOB.out _).then hof6 HST.out.2.2.2, HST.out.2.2.2.trans hfr6 (HOB.out _).size⟩)
         clear hat6 hof6 hfr6
         go_wp2_with fail
         go_ret2
         exact HE.out
theorem RootWay.from {p : Store} {S S1 : List Nat} {σ σ1 : Book} {k k1 c c1 : Nat} {Q P1 : List Nat} {L : List En} {w w1 : World} {e : Ending} {w' : World} (hm : Tr.Moved σ Q σ1 P1) (hk : k ≤ k1 + c1) (ho : Off S w w1) (hf : Fresh w S S1) (h : RootWay p S1 σ1 k1 c P1 L w1 e w') : RootWay p S σ k (c1 + c) Q L w e w' := by
 rcases h with ⟨root, P', σ', S', k', rfl, h1, h2, h3, h4, h5, h6⟩ | ⟨hF, rfl, σ', S', h1, h2, h3⟩
 · exact .inl ⟨root, P', σ', S', k', rfl, h1, hm.trans h2, h3, by omega, ho.then h5 hf, hf.trans h6 ho.size⟩
 · exact .inr ⟨hF, rfl, σ', S', h1, ho.then h2 hf, hf.trans h3 ho.size⟩
theorem RootWay.letters {p : Store} {S : List Nat} {σ : Book} {k c : Nat} {Q : List Nat} {L : List En} {w : World} {e : Ending} {w' : World} (h : RootWay p S σ k c Q L w e w') : ∃ a b : Int, e = .returned (.tuple #[.int .i64 a, .int .i64 b]) ∧ Hid (RootWay p S σ k c Q L w (.returned (.tuple #[.int .i64 a, .int .i64 b])) w') := by
 rcases h with ⟨root, P', σ', S', k', rfl, h1⟩ | ⟨hF, rfl, h1⟩
 · exact ⟨root, 0, rfl, Lib.hid (.inl ⟨root, P', σ', S', k', rfl, h1⟩)⟩
 · exact ⟨0, 9, rfl, Lib.hid (.inr ⟨hF, rfl, h1⟩)⟩
theorem RootWay.more {p : Store} {S : List Nat} {σ : Book} {k c c' : Nat} {Q : List Nat} {L : List En} {w : World} {e : Ending} {w' : World} (h : RootWay p S σ k c Q L w e w') (hc : c ≤ c') : RootWay p S σ k c' Q L w e w' := by
 rcases h with ⟨root, P', σ', S', k', h0, h1, h2, h3, h4, h5⟩ | h
 · exact .inl ⟨root, P', σ', S', k', h0, h1, h2, h3, by omega, h5⟩
 · exact .inr h
def Tr.RootC (σ : Book) (c : Nat) (root : Nat) (P : List Nat) (L : List En) : Prop := (root = 0 ∧ P = [] ∧ L = [] ∧ 4 ≤ c) ∨ ∃ d, Tr.Stored σ d root P L ∧ 2 * d + 4 ≤ c
theorem Tr.RootC.root {σ : Book} {c root : Nat} {P : List Nat} {L : List En} (h : Tr.RootC σ c root P L) : Tr.Root σ root P L := by
 rcases h with ⟨h1, h2, h3, -⟩ | ⟨d, h, -⟩
 · exact .inl ⟨h1, h2, h3⟩
 · exact .inr ⟨d, h⟩
theorem Tr.RootC.congr {σ σ' : Book} {c root : Nat} {P : List Nat} {L : List En} (h : Tr.RootC σ c root P L) (hk : ∀ n ∈ P, σ' n = σ n) : Tr.RootC σ' c root P L := by
 rcases h with h | ⟨d, h, h2⟩
 · exact .inl h
 · exact .inr ⟨d, h.congr hk, h2⟩
set_option maxHeartbeats 16000000 in
theorem alter_any {p : Store} (hp : Serves p) {fc : Nat} {caps : Array Value} {w0 : World} {S0 : List Nat} {σ0 : Book} {X : List Nat} {f : List En → List En} (key : ByteArray) (hf : Tr.IsChange key f) (hfn : ∀ l, f l ≠ []) (hdo : DoSpec p fc caps w0 S0 σ0 X f)
   {w : World} {S : List Nat} {σ : Book} {k : Nat} (h : p.At w S σ k) (h0 : Off S0 w0 w) (h1 : Fresh w0 S0 S) (root : Nat) {P : List Nat} {L : List En} {c : Nat} (hrt : Tr.RootC σ c root P L) (hnd : (P ++ X).Nodup) (hX : ∀ n ∈ X, σ n = σ0 n ∧ σ n ≠ none) (hk : p.F ∨ c ≤ k) :
   Calls Tryz.prog 104 #[.iface p.T p.v, .int .i64 root, .string key, .func (.func fc) #[] caps] w (RootWay p S σ k c (P ++ X) (f L) w) := by
 have he := hdo.enter
 rcases hrt with ⟨rfl, rfl, rfl, hc4⟩ | ⟨d, hst, hcd⟩
 · have hDO := hdo.does w S σ k [] none 0 w.heap.size h0 h1 h List.Pairwise.nil (by simp) (by simpa using hnd) (fun n hn => (hX n hn).1) (World.ownsRow_nil _ _ _ _) h0.size (by intro g hg; cases hg) (Nat.le_refl _) (by simp)
   simp only [List.length_nil] at hDO
   have HDO := Lib.hid hDO
   have hri := hf.rise [] List.Pairwise.nil
   have hgr := hf.grow []
   have HRI := Lib.hid hri
   have hsum : Nd.sum true ((f []).map (·.cell)) ≤ 488 := by simp [Nd.sum] at hgr ⊢; omega
   have HSUM := Lib.hid hsum
   have HK := Lib.hid hk
   have HOLD := Lib.hid (hp.old h)
   clear hDO hri hgr hsum h h0 h1 hnd hX hk hdo
   go_enter Tryz.func104, Tryz.ntmps104
   go_wp2_with fail
   refine HDO.out.mono ?_
   rintro e w3 ⟨A', c', σ', S', U, rfl, hrow3, hmv3, heo3, hat3, hof3, hU3, hfr3⟩
   have hof : Off S w w3 := hof3.mono hU3
   have hpart : Tr.Part σ' 0 ((f []).map (·.cell)) ((f []).flatMap (·.pages)) (f []) := ⟨rfl, rfl, HRI.out, heo3⟩
   obtain ⟨xs, hxs⟩ := hpart.parts ⟨#[]⟩ (fun e _ => Tr.le_nil _) (by show (0 : Nat) ≤ 120; omega) (Nat.le_trans HSUM.out (by omega))
   have HPP := Lib.hid (parts_any ⟨#[]⟩ true ⟨A', (f []).length, c'⟩ ((f []).map (·.cell)) 0 S' w3 hrow3 (hp.old hat3) (Nat.zero_le _) hpart.right.2 (Nat.le_trans HSUM.out (by omega)))
   have hP := hmv3.nodup
   have HXS := Lib.hid hxs
   have HP := Lib.hid hP
   have HAT3 := Lib.hid hat3
   have HMV := Lib.hid (show Tr.Moved σ ([] ++ X) σ' ((f []).flatMap (·.pages)) ∧ Off S w w3 ∧ Fresh w S S' from ⟨by simpa using hmv3, hof, hfr3⟩)
   clear hrow3 hmv3 heo3 hat3 hof3 hU3 hfr3 hof hpart hxs hP
   go_wp2_with fail
   refine HPP.out.mono ?_
   rintro e w4 ⟨hb4, r, rfl, hpr4⟩
   have HTOP := Lib.hid ((top_any hp (hp.below HAT3.out hb4) HXS.out HP.out hpr4 (HK.out.imp id (fun _ => by omega))).mono fun e w' h => RootWay.letters h)
   have HB4 := Lib.hid hb4
   clear hb4 hpr4
   go_wp2_with fail
   refine HTOP.out.mono ?_
   rintro e w5 ⟨a, b, rfl, hw5⟩
   have HE := Lib.hid ((RootWay.from HMV.out.1 (Nat.le_add_right k 0) (HMV.out.2.1.trans (Off.of_below HB4.out S)) HMV.out.2.2 hw5.out).more (c' := c) (by omega))
   clear hw5
   go_wp2_with fail
   go_ret2
   exact HE.out
 · have hd : d ≤ 8 := hst.low (List.nodup_append.1 hnd).1
   have hno := hst
   obtain ⟨cs, P', rfl, g1, g2, -⟩ := hno
   have hED := editAt_any hp key hf hfn hdo d w S σ k root ⟨#[]⟩ 1 _ L h h0 h1 hst hnd hX (fun e _ => Tr.le_nil _) (Tr.le_nil _) (by show (0 : Nat) ≤ 120; omega) (by omega) (hk.imp id (fun _ => by omega))
   have HED := Lib.hid (show Calls Tryz.prog 163 #[.iface p.T p.v, .int .i64 root, .string ⟨#[]⟩, .string key, .func (.func fc) #[] caps, .int .i64 1] w (EditTells p S σ k d ⟨#[]⟩ (root :: P' ++ X) (f L) w) from hED)
   have z1 : ((root : Int) == 0) = false := by rw [beq_eq_false_iff_ne]; omega
   have z2 : (root == 0) = false := by rw [beq_eq_false_iff_ne]; omega
   have HK := Lib.hid hk
   clear hED h h0 h1 hst hnd hX hk hdo
   go_enter Tryz.func104, Tryz.ntmps104
   go_wp2_with fail
   refine HED.out.mono ?_
   rintro e w3 ⟨⟨rA, rn, rc⟩, b, rfl, hw3⟩
   rcases hw3.out with ⟨rfl, ps, xs, P1, σ1, S3, k3, hpr3, hps3, hmv3, hat3, hk3, hof3, hfr3⟩ | ⟨hF, rfl, rfl, rfl, rfl, σ3, hst3⟩
   · have HTOP := Lib.hid ((top_any hp hat3 hps3 hmv3.nodup hpr3 (HK.out.imp id (fun _ => by omega))).mono fun e w' h => RootWay.letters h)
     have HM := Lib.hid (show Tr.Moved σ (root :: P' ++ X) σ1 P1 ∧ k ≤ k3 + 2 * d ∧ Off S w w3 ∧ Fresh w S S3 from ⟨hmv3, hk3, hof3, hfr3⟩)
     clear hw3 hpr3 hps3 hmv3 hat3 hk3 hof3 hfr3
     go_wp2_with fail
     refine HTOP.out.mono ?_
     rintro e w5 ⟨a, b, rfl, hw5⟩
     have HE := Lib.hid ((RootWay.from HM.out.1 HM.out.2.1 HM.out.2.2.1 HM.out.2.2.2 hw5.out).more (c' := c) (by omega))
     clear hw5
     go_wp2_with fail
     go_ret2
     exact HE.out
   · have HE := Lib.hid (show RootWay p S σ k c (root :: P' ++ X) (f L) w (.returned (.tuple #[.int .i64 0, .int .i64 9])) w3 from .inr ⟨hF, rfl, σ3, hst3⟩)
     clear hst3 hw3
     go_wp2_with fail
     go_ret2
     exact HE.out
namespace Tr
theorem put_new {l : List En} {key : ByteArray} (e : En) (h : hasE l key = false) : (putE key e l).map (·.cell) = insC (l.map (·.cell)) (spotE l key) e.cell ∧ ((l.flatMap (·.pages)) ++ e.pages).Perm ((putE key e l).flatMap (·.pages)) := by
 unfold putE insC
 rw [h]
 refine ⟨by simp, ?_⟩
 have e1 : l.flatMap (·.pages) = (l.take (spotE l key)).flatMap (·.pages) ++ (l.drop (spotE l key)).flatMap (·.pages) := by rw [← flatMap_app, List.take_append_drop]
 rw [e1, flatMap_app, flatMap_app]
 simp only [List.flatMap_cons, List.flatMap_nil, List.append_nil, Bool.false_eq_true, if_false, List.append_assoc]
 exact List.Perm.append_left _ List.perm_append_comm
theorem put_old {l : List En} {key : ByteArray} (e : En) (h : hasE l key = true) : ∃ hi : spotE l key < l.length, putE key e l = l.set (spotE l key) e := by
 have hi : spotE l key < l.length := by
   by_cases hl : spotE l key < l.length
   · exact hl
   · unfold hasE Nd.has at h
     rw [List.getElem?_eq_none (by rw [List.length_map]; exact Nat.le_of_not_lt hl)] at h
     cases h
 refine ⟨hi, ?_⟩
 unfold putE
 rw [h, List.set_eq_take_append_cons_drop, if_pos hi]
 rfl
end Tr
def Rel (p : Store) (S : List Nat) (σ : Book) (k : Nat) (P : List Nat) (w w' : World) : Prop := ∃ σ', Step p S w w' σ' k ∧ Tr.Moved σ P σ' []
theorem Rel.off {p : Store} {S : List Nat} {σ : Book} {k : Nat} {P : List Nat} {w w' : World} (h : Rel p S σ k P w w') : Off S w w' := by obtain ⟨_, ⟨_, _, h, _⟩, _⟩ := h; exact h
theorem COwn.set {w : World} {B g n c : Nat} {l : List Ce} (h : COwn w B (.slice (Option.some ⟨g, 0, none⟩) n c) l) (hn : n = l.length) (i : Nat) (hi : i < l.length) (x : Ce) :
   COwn (((((w.setCell ⟨g, i * 5, none⟩ (.string x.key)).setCell ⟨g, i * 5 + 1, none⟩ (.string x.val)).setCell ⟨g, i * 5 + 2, none⟩ (.int .i64 x.over)).setCell ⟨g, i * 5 + 3, none⟩ (.int .i64 x.size)).setCell ⟨g, i * 5 + 4, none⟩ (.int .i64 x.child)) B (.slice (Option.some ⟨g, 0, none⟩) n c) (l.set i x) := by
 subst hn
 have h1 := (World.ownsRow.stored h (i * 5) (.string x.key)).1
 have h2 := (World.ownsRow.stored h1 (i * 5 + 1) (.string x.val)).1
 have h3 := (World.ownsRow.stored h2 (i * 5 + 2) (.int .i64 x.over)).1
 have h4 := (World.ownsRow.stored h3 (i * 5 + 3) (.int .i64 x.size)).1
 have h5 := (World.ownsRow.stored h4 (i * 5 + 4) (.int .i64 x.child)).1
 unfold COwn
 rw [List.length_set]
 have e : (((((flatC l).set (i * 5) (.string x.key)).set (i * 5 + 1) (.string x.val)).set (i * 5 + 2) (.int .i64 x.over)).set (i * 5 + 3) (.int .i64 x.size)).set (i * 5 + 4) (.int .i64 x.child) = flatC (l.set i x) := by
   have e1 : l = l.take i ++ ([l[i]] ++ l.drop (i + 1)) := by rw [List.singleton_append, ← List.drop_eq_getElem_cons hi, List.take_append_drop]
   have e2 : l.set i x = l.take i ++ ([x] ++ l.drop (i + 1)) := by rw [List.set_eq_take_append_cons_drop, if_pos hi]; rfl
   have hl : (flatC (l.take i)).length = i * 5 := by rw [flatC_len, List.length_take]; omega
   rw [e2]
   conv => lhs; rw [e1]
   simp only [flatC_app, flatC_one]
   have hs : ∀ (a b : List Value) (j : Nat) (v : Value), a.length = i * 5 → (a ++ b).set (i * 5 + j) v = a ++ b.set j v := fun a b j v ha => by
     rw [List.set_append_right _ _ (by omega), show i * 5 + j - a.length = j by omega]
   have h0 : (flatC (l.take i) ++ (([.string l[i].key, .string l[i].val, .int .i64 l[i].over, .int .i64 l[i].size, .int .i64 l[i].child] : List Value) ++ flatC (l.drop (i + 1)))).set (i * 5) (.string x.key) = flatC (l.take i) ++ (([.string l[i].key, .string l[i].val, .int .i64 l[i].over, .int .i64 l[i].size, .int .i64 l[i].child] : List Value) ++ flatC (l.drop (i + 1))).set 0 (.string x.key) := hs _ _ 0 _ hl
   rw [h0, hs _ _ 1 _ hl, hs _ _ 2 _ hl, hs _ _ 3 _ hl, hs _ _ 4 _ hl]
   rfl
 rw [← e]
 exact h5
theorem put_replaced {σ σ' : Book} {l : List En} {i : Nat} {old e : En} (hi : i < l.length) (ho : old = l[i]) (he : Tr.EnOk σ e) (hl : ∀ x ∈ l, Tr.EnOk σ x) (hnd : (l.flatMap (·.pages) ++ e.pages).Nodup) (hm : Tr.Moved σ old.pages σ' []) :
   Tr.Moved σ (l.flatMap (·.pages) ++ e.pages) σ' ((l.set i e).flatMap (·.pages)) ∧ ∀ x ∈ l.set i e, Tr.EnOk σ' x := by
 obtain ⟨a, b, rfl, ha⟩ : ∃ a b, l = a ++ (old :: b) ∧ a.length = i := ⟨l.take i, l.drop (i + 1), by rw [ho, ← List.drop_eq_getElem_cons hi, List.take_append_drop], by rw [List.length_take]; omega⟩
 have hset : (a ++ old :: b).set i e = a ++ e :: b := by
   rw [← ha, List.set_append_right _ _ (Nat.le_refl _), Nat.sub_self]
   rfl
 rw [hset]
 have hp1 : ((a ++ old :: b).flatMap (·.pages) ++ e.pages).Perm (old.pages ++ (a.flatMap (·.pages) ++ b.flatMap (·.pages) ++ e.pages)) := by
   rw [Tr.flatMap_app, List.flatMap_cons]
   have : (a.flatMap (·.pages) ++ (old.pages ++ b.flatMap (·.pages)) ++ e.pages).Perm ((old.pages ++ (a.flatMap (·.pages) ++ b.flatMap (·.pages))) ++ e.pages) := by
     refine List.Perm.append_right _ ?_
     rw [← List.append_assoc, ← List.append_assoc]
     exact List.perm_append_comm.append_right _
   rw [List.append_assoc old.pages] at this
   exact this
 have hn2 := hp1.nodup_iff.1 hnd
 obtain ⟨n1, n2, n3⟩ := List.nodup_append.1 hn2
 have hR : ∀ n ∈ a.flatMap (·.pages) ++ b.flatMap (·.pages) ++ e.pages, σ n ≠ none := fun n hn => by
   rcases List.mem_append.1 hn with hn | hn
   · rcases List.mem_append.1 hn with hn | hn
     · obtain ⟨x, hx, hn⟩ := List.mem_flatMap.1 hn
       exact ((hl x (by simp [hx])).mem n hn).2.2
     · obtain ⟨x, hx, hn⟩ := List.mem_flatMap.1 hn
       exact ((hl x (by simp [hx])).mem n hn).2.2
   · exact (he.mem n hn).2.2
 have hd : ∀ n ∈ a.flatMap (·.pages) ++ b.flatMap (·.pages) ++ e.pages, n ∉ old.pages := fun n hn ho => n3 n ho n hn rfl
 have hfr := hm.frame hR n2 hd
 have hsame := hm.same hR hd
 refine ⟨hfr.perm hp1.symm ?_, fun x hx => ?_⟩
 · rw [List.nil_append, Tr.flatMap_app, List.flatMap_cons, List.append_assoc]
   exact List.Perm.append_left _ List.perm_append_comm
 · rcases List.mem_append.1 hx with hx | hx
   · exact (hl x (by simp [hx])).congr fun n hn => hsame n (by simp only [List.mem_append]; exact .inl (.inl (List.mem_flatMap.2 ⟨x, hx, hn⟩)))
   · rcases List.mem_cons.1 hx with rfl | hx
     · exact he.congr fun n hn => hsame n (by simp only [List.mem_append]; exact .inr hn)
     · exact (hl x (by simp [hx])).congr fun n hn => hsame n (by simp only [List.mem_append]; exact .inl (.inr (List.mem_flatMap.2 ⟨x, hx, hn⟩)))
set_option maxHeartbeats 16000000 in
theorem put1_spec {p : Store} (hp : Serves p) {w0 : World} {S0 : List Nat} {σ0 : Book} {kb cb pb : Nat} (key : ByteArray) (e : En) (hk : Bk w0 kb 9 #[.string key]) (hc : Bk w0 cb 170 #[.string e.cell.key, .string e.cell.val, .int .i64 e.cell.over, .int .i64 e.cell.size, .int .i64 e.cell.child]) (hpb : Bk w0 pb 168 #[.iface p.T p.v])
   (hkS : kb ∉ S0) (hcS : cb ∉ S0) (hpS : pb ∉ S0) (he : Tr.EnOk σ0 e) : DoSpec p 105 #[.pointer (some ⟨kb, 0, none⟩), .pointer (some ⟨cb, 0, none⟩), .pointer (some ⟨pb, 0, none⟩)] w0 S0 σ0 e.pages (Tr.putE key e) := by
 refine ⟨fun args W => Tryz.call105 args W, ?_⟩
 intro w S σ k l A c B h0 h1 hat hri hok hnd hX hown hB0 hns hB hll
 have hk' := h0.bk hk hkS
 have hc' := h0.bk hc hcS
 have hp' := h0.bk hpb hpS
 have hkl := hk'.cell 0
 have hkb : w.cell? ⟨kb, 0, none⟩ = some (.string key) := hk'.cell 0
 have hrow := hown.as
 have HPL := Lib.hid (show Calls Tryz.prog 106 #[.slice A l.length c, .string key] w (fun e w' => e = .returned (.tuple #[.int .i64 (Tr.spotE l key : Nat), .bool (Tr.hasE l key)]) ∧ Below w.heap.size w w') from place_any ⟨A, l.length, c⟩ (l.map (fun x : En => x.cell)) key _ w hrow (by rw [List.length_map]; omega))
 have hsp := Tr.spotE_le l key
 have hcm : c ≤ 9223372036854775807 := by have := hrow.2.2.1; simp only at this; unfold maxLen at this; omega
 have heX : Tr.EnOk σ e := he.congr hX
 have HEX := Lib.hid heX
 have HAT := Lib.hid hat
 have HOWN := Lib.hid hown
 have HOK := Lib.hid hok
 have HND := Lib.hid hnd
 have HNS := Lib.hid hns
 have HK := Lib.hid hk'
 have HC := Lib.hid hc'
 have HP := Lib.hid hp'
 have lk := hk'.lt
 cases hh : Tr.hasE l key with
 | false =>
   obtain ⟨hm1, hm2⟩ := Tr.put_new e hh
   rw [hh] at HPL
   have HM1 := Lib.hid hm1
   have HM2 := Lib.hid hm2
   obtain ⟨i, hi⟩ : ∃ i, i = Tr.spotE l key := ⟨_, rfl⟩
   rw [← hi] at HPL HM1 hsp
   clear hk' hc' hp' hkl hrow heX hat hown hok hnd hns hh hm1 hm2 hi hX he hk hc hpb
   go_enter Tryz.func105, Tryz.ntmps105
   go_wp2_with fail
   refine HPL.out.mono ?_
   rintro x w1 ⟨rfl, hb1⟩
   have hcb := bk_below HC.out hb1
   obtain ⟨u0, u1, u2, u3, u4, -, -, -, -, -, ul⟩ := hcb.all5
   have hba : Below w.heap.size w (w1.alloc (.cells #[.string e.cell.key, .string e.cell.val, .int .i64 e.cell.over, .int .i64 e.cell.size, .int .i64 e.cell.child] 170)) := hb1.alloc hb1.size _
   have hown1 : COwn (w1.alloc (.cells #[.string e.cell.key, .string e.cell.val, .int .i64 e.cell.over, .int .i64 e.cell.size, .int .i64 e.cell.child] 170)) B (.slice A (l.map (·.cell)).length c) (l.map (·.cell)) := by
     rw [List.length_map]
     exact HOWN.out.below hba
   have hown1' := hown1
   have hin := insert_any A B w1.heap.size i c (l.map (·.cell)) e.cell _ hown1 (by have := hba.size; omega) (by rw [List.length_map]; omega) (by rw [List.length_map]; omega) (Bk.new w1 _ _) (fun hb => by
     rw [List.length_map] at hb
     have := (World.ownsRow.lt HOWN.out _ hb).2
     have := hb1.size
     omega)
   rw [List.length_map] at hin
   have HIN := Lib.hid hin
   have HBA := Lib.hid hba
   clear hin hown1 hown1' hba hcb hb1
   go_wp2_with fail
   refine HIN.out.mono ?_
   rintro x w2 ⟨U, A2, c2, hU, hof2, rfl, hown2, hnw2⟩
   have hoff : Off U w w2 := ((Off.of_below HBA.out U).trans hof2)
   have hrow2 : ∀ S', (∀ b ∈ S', b ∈ S) → CRow w2 (Cl 0 S') ⟨A2, (Tr.putE key e l).length, c2⟩ ((Tr.putE key e l).map (·.cell)) := fun S' hS' => by
     rw [HM1.out, show (Tr.putE key e l).length = (insC (l.map (·.cell)) i e.cell).length by rw [← HM1.out, List.length_map]]
     have hlen0 : 0 < (insC (l.map (·.cell)) i e.cell).length := by rw [insC_len _ _ _ (by rw [List.length_map]; omega)]; omega
     obtain ⟨g2, rfl, -⟩ := hown2.full hlen0
     refine hown2.here (fun hg => ?_)
     rcases hnw2 g2 rfl with h9 | h9
     · exact HNS.out g2 h9 (hS' g2 hg)
     · have h8 := hp.old HAT.out g2 (hS' g2 hg)
       have h7 := HBA.out.size
       omega
   have hlen : (insC (l.map (·.cell)) i e.cell).length = (Tr.putE key e l).length := by rw [← HM1.out, List.length_map]
   have HEND := Lib.hid (show DoPost p S σ k B e.pages l (Tr.putE key e l) w (.returned (.tuple #[.slice A2 (insC (l.map (·.cell)) i e.cell).length c2, .int .i64 0])) w2 from
     ⟨A2, c2, σ, S, U, by rw [hlen], hrow2 S (fun _ h => h), (Tr.Moved.refl (fun n hn => by
       rcases List.mem_append.1 hn with hn | hn
       · obtain ⟨x, hx, hn⟩ := List.mem_flatMap.1 hn
         exact ((HOK.out x hx).mem n hn).2.2
       · exact (HEX.out.mem n hn).2.2) HND.out).perm (List.Perm.refl _) HM2.out, (fun x hx => by
       unfold Tr.putE at hx
       rcases List.mem_append.1 hx with hx | hx
       · exact HOK.out x (List.mem_of_mem_take hx)
       · rcases List.mem_append.1 hx with hx | hx
         · rw [List.mem_singleton.1 hx]; exact HEX.out
         · exact HOK.out x (List.mem_of_mem_drop hx)), hp.off HAT.out hoff (fun b hb hu => HNS.out b (hU b hu) hb), hoff, fun g hg => .inr (World.ownsRow.lt HOWN.out g (hU g hg)).1, Fresh.refl _ _⟩)
   clear hoff hrow2 hlen hU hof2 hown2 hnw2
   go_wp2_with fail
   go_ret2
   exact HEND.out
 | true =>
   obtain ⟨hi, hset⟩ := Tr.put_old e hh
   rw [hh] at HPL
   obtain ⟨i, hie⟩ : ∃ i, i = Tr.spotE l key := ⟨_, rfl⟩
   rw [← hie] at HPL hset hsp
   have hil : i < l.length := by rw [hie]; exact hi
   obtain ⟨g, rfl, -⟩ := hown.full (by rw [List.length_map]; omega)
   have hgS : g ∉ S := hns g rfl
   have hgl : g < w.heap.size := (World.ownsRow.lt hown g rfl).2
   obtain ⟨b9, o9, hA9, -, q0, q1, q2, q3, q4⟩ := hrow.at i (by rw [List.length_map]; exact hil)
   simp only [Option.some.injEq, Addr.mk.injEq, and_true] at hA9
   obtain ⟨rfl, rfl⟩ := hA9
   obtain ⟨old, hold⟩ : ∃ x, x = l[i] := ⟨_, rfl⟩
   simp only [List.getElem_map, Nat.zero_add] at q0 q1 q2 q3 q4
   rw [← hold] at q0 q1 q2 q3 q4
   have hpS1 : pb ∉ S := fun hs => by
     rcases h1 pb hs with h9 | h9
     · exact hpS h9
     · have := hpb.lt; omega
   have hcS1 : cb ∉ S := fun hs => by
     rcases h1 cb hs with h9 | h9
     · exact hcS h9
     · have := hc.lt; omega
   have hndo : old.pages.Nodup := by
     have h9 := (List.nodup_append.1 hnd).1
     have e9 : l = l.take i ++ (old :: l.drop (i + 1)) := by rw [hold, ← List.drop_eq_getElem_cons hil, List.take_append_drop]
     rw [e9, Tr.flatMap_app, List.flatMap_cons] at h9
     exact (List.nodup_append.1 (List.nodup_append.1 h9).2.1).1
   have HRL := Lib.hid fun (W : World) (hb : Below w.heap.size w W) => (show Calls Tryz.prog 108 #[.iface p.T p.v, .agg #[.string old.cell.key, .string old.cell.val, .int .i64 old.cell.over, .int .i64 old.cell.size, .int .i64 old.cell.child]] W (fun x w' => x = .returned (.int .i64 0) ∧ Hid (Rel p S σ k old.pages W w')) from (release_ok hp (hp.below hat hb) old (hok old (by rw [hold]; exact List.getElem_mem hil)) hndo).mono fun x w' h => ⟨h.1, Lib.hid h.2⟩)
   have HSET := Lib.hid hset
   have HOLD := Lib.hid hold
   have HKS := Lib.hid (show ∀ W : World, Off S w W → W.cell? ⟨pb, 0, none⟩ = some (.iface p.T p.v) ∧ W.cell? ⟨g, i * 5, none⟩ = some (.string old.cell.key) ∧ W.cell? ⟨g, i * 5 + 1, none⟩ = some (.string old.cell.val) ∧ W.cell? ⟨g, i * 5 + 2, none⟩ = some (.int .i64 old.cell.over) ∧ W.cell? ⟨g, i * 5 + 3, none⟩ = some (.int .i64 old.cell.size) ∧ W.cell? ⟨g, i * 5 + 4, none⟩ = some (.int .i64 old.cell.child) from fun W hb =>
     ⟨(hb.cell (p := ⟨pb, 0, none⟩) hp'.lt hpS1).trans (hp'.cell 0), (hb.cell (p := ⟨g, _, none⟩) hgl hgS).trans q0, (hb.cell (p := ⟨g, _, none⟩) hgl hgS).trans q1, (hb.cell (p := ⟨g, _, none⟩) hgl hgS).trans q2, (hb.cell (p := ⟨g, _, none⟩) hgl hgS).trans q3, (hb.cell (p := ⟨g, _, none⟩) hgl hgS).trans q4⟩)
   have lp := hp'.lt
   clear hk' hc' hp' hkl hrow heX hat hown hok hnd hns hh hie hX he hk hc hpb hi hset q0 q1 q2 q3 q4 hndo hold
   go_enter Tryz.func105, Tryz.ntmps105
   go_wp2_with fail
   refine HPL.out.mono ?_
   rintro x w1 ⟨rfl, hb1⟩
   have HB1 := Lib.hid hb1
   have HO1 := Lib.hid ((Off.of_below hb1 S).drew)
   have HR1 := Lib.hid (HRL.out w1.drew hb1.drew)
   have hg1 : g < w1.heap.size := Nat.lt_of_lt_of_le hgl hb1.size
   have hp1 : pb < w1.heap.size := Nat.lt_of_lt_of_le lp hb1.size
   clear hb1
   go_wp2_with fail
   go_region_held3 (fun W => W.cell? ⟨pb, 0, none⟩ = some (.iface p.T p.v) ∧ W.cell? ⟨g, i * 5, none⟩ = some (.string old.cell.key) ∧ W.cell? ⟨g, i * 5 + 1, none⟩ = some (.string old.cell.val) ∧ W.cell? ⟨g, i * 5 + 2, none⟩ = some (.int .i64 old.cell.over) ∧ W.cell? ⟨g, i * 5 + 3, none⟩ = some (.int .i64 old.cell.size) ∧ W.cell? ⟨g, i * 5 + 4, none⟩ = some (.int .i64 old.cell.child)) (first | (with_reducible exact HKS.out _ HO1.out) | (with_reducible exact HKS.out _ (HO1.out.trans (Rel.off hr2.out)))) (first
     | (go_at_call 108; (with_reducible refine HR1.out.mono ?_); rintro x w2 ⟨rfl, hr2⟩))
   all_goals
     obtain ⟨σ', ⟨S2, hat2, hof2, hfr2⟩, hmv2⟩ := hr2.out
     have hoff : Off S w w2 := HO1.out.trans hof2
     have hown2 : COwn w2 B (.slice (some ⟨g, 0, none⟩) l.length c) (l.map (·.cell)) := Off.own hoff HOWN.out HNS.out
     have hcb2 := hoff.bk HC.out hcS1
     obtain ⟨u0, u1, u2, u3, u4, -, -, -, -, -, ul⟩ := hcb2.all5
     obtain ⟨-, v0, v1, v2, v3, v4⟩ := HKS.out w2 hoff
     have hown3 : w2.ownsRow B 170 5 (.slice (some ⟨g, 0, none⟩) l.length c) l.length (flatC (l.map (·.cell))) := by
       have h9 := hown2
       unfold COwn at h9
       rwa [List.length_map] at h9
     have f0 := World.ownsRow.frozenAt hown3 (i * 5)
     have f1 := World.ownsRow.frozenAt hown3 (i * 5 + 1)
     have f2 := World.ownsRow.frozenAt hown3 (i * 5 + 2)
     have f3 := World.ownsRow.frozenAt hown3 (i * 5 + 3)
     have f4 := World.ownsRow.frozenAt hown3 (i * 5 + 4)
     have hg2 : g < w2.heap.size := Nat.lt_of_lt_of_le hgl hoff.size
     have HW2 := Lib.hid hown2
     have HAT2 := Lib.hid hat2
     have HOF2 := Lib.hid hoff
     have HFR2 := Lib.hid (show Fresh w S S2 from hfr2.mono HB1.out.size)
     have HMV2 := Lib.hid hmv2
     clear hat2 hof2 hfr2 hmv2 hoff hown2 hown3 hcb2 hr2
     have hgS2 : g ∉ S2 := fun hs => by
       rcases HFR2.out g hs with h9 | h9
       · exact hgS h9
       · omega
     have HROW := Lib.hid ((COwn.set HW2.out (by rw [List.length_map]) i (by rw [List.length_map]; exact hil) e.cell).here hgS2)
     have hoffg : Off [g] w2 (((((w2.setCell ⟨g, i * 5, none⟩ (.string e.cell.key)).setCell ⟨g, i * 5 + 1, none⟩ (.string e.cell.val)).setCell ⟨g, i * 5 + 2, none⟩ (.int .i64 e.cell.over)).setCell ⟨g, i * 5 + 3, none⟩ (.int .i64 e.cell.size)).setCell ⟨g, i * 5 + 4, none⟩ (.int .i64 e.cell.child)) :=
       (((((Off.refl [g] w2).setCell (p := ⟨g, i * 5, none⟩) (.inl (by simp)) _).setCell (p := ⟨g, i * 5 + 1, none⟩) (.inl (by simp)) _).setCell (p := ⟨g, i * 5 + 2, none⟩) (.inl (by simp)) _).setCell (p := ⟨g, i * 5 + 3, none⟩) (.inl (by simp)) _).setCell (p := ⟨g, i * 5 + 4, none⟩) (.inl (by simp)) _
     have HOG := Lib.hid hoffg
     have hgB : B ≤ g := (World.ownsRow.lt HOWN.out g rfl).1
     have hres := put_replaced hil HOLD.out HEX.out HOK.out HND.out HMV2.out
     rw [← HSET.out] at hres
     have hlenp : (Tr.putE key e l).length = l.length := by rw [HSET.out, List.length_set]
     have hmapp : (Tr.putE key e l).map (·.cell) = (l.map (·.cell)).set i e.cell := by rw [HSET.out, List.map_set]
     have HRES := Lib.hid hres
     have HLP := Lib.hid hlenp
     have HMP := Lib.hid hmapp
     have HEND := Lib.hid (show DoPost p S σ k B e.pages l (Tr.putE key e l) w (.returned (.tuple #[.slice (some ⟨g, 0, none⟩) l.length c, .int .i64 0])) (((((w2.setCell ⟨g, i * 5, none⟩ (.string e.cell.key)).setCell ⟨g, i * 5 + 1, none⟩ (.string e.cell.val)).setCell ⟨g, i * 5 + 2, none⟩ (.int .i64 e.cell.over)).setCell ⟨g, i * 5 + 3, none⟩ (.int .i64 e.cell.size)).setCell ⟨g, i * 5 + 4, none⟩ (.int .i64 e.cell.child)) from by
       refine ⟨some ⟨g, 0, none⟩, c, σ', S2, g :: S, by rw [HLP.out], ?_, HRES.out.1, HRES.out.2, hp.off HAT2.out HOG.out (fun b hb hg => ?_), ?_, fun x hx => ?_, HFR2.out⟩
       · rw [HLP.out, HMP.out]; exact HROW.out
       · rw [List.mem_singleton] at hg
         subst hg
         exact hgS2 hb
       · exact (HOF2.out.mono (fun x hx => .inl (by simp [hx]))).then HOG.out (fun x hx => .inl (by rw [List.mem_singleton] at hx; simp [hx]))
       · rcases List.mem_cons.1 hx with rfl | hx
         · exact .inr hgB
         · exact .inl hx)
     clear hoffg hres hlenp hmapp hgS2
     go_wp2_with fail
     go_ret2
     exact HEND.out
set_option maxHeartbeats 8000000 in
theorem hold_small (p : Store) (key val : ByteArray) (w : World) (hv : val.size ≤ 96) :
   Calls Tryz.prog 103 #[.iface p.T p.v, .string key, .string val] w (fun e w' => e = .returned (.tuple #[.agg #[.string key, .string val, .int .i64 0, .int .i64 0, .int .i64 0], .int .i64 0]) ∧ Below w.heap.size w w') := by
 have z1 : decide ((val.size : Int) ≤ 96) = true := decide_eq_true (by omega)
 have z2 : decide (val.size ≤ 96) = true := decide_eq_true hv
 go_enter Tryz.func103, Tryz.ntmps103
 go_wp2_with fail
 refine bodyPost_ret (v := .tuple #[.agg #[.string key, .string val, .int .i64 0, .int .i64 0, .int .i64 0], .int .i64 0]) (by simp [results, Tryz.results103, go_sem]) rfl ⟨rfl, ?_⟩
 exact (Below.refl _ w).alloc (Nat.le_refl _) _
namespace Tr
theorem Chain.first_lt {σ : Book} {next : Nat} {ns : List Nat} {v : List UInt8} (h : Chain σ next ns v) : next < 512 := by
 cases ns with
 | nil => have := h.1; omega
 | cons n ns => have := h.1; have := h.2.2.1; omega
theorem Chain.push {σ : Book} {n next : Nat} {ns : List Nat} {v piece : List UInt8} (h : Chain σ next ns v) (hn : σ n = none) (h1 : 1 ≤ n) (h2 : n < 512) (hp1 : 0 < piece.length) (hp2 : piece.length ≤ 484) (hp3 : next ≠ 0 → piece.length = 484) :
   Chain (upd σ n (some ⟨3, ⟨(Be.low next 4 ++ piece).toArray⟩⟩)) n (n :: ns) (piece ++ v) :=
 ⟨rfl, h1, h2, next, piece, v, upd_same _ _ _, h.first_lt, rfl, hp1, hp2, hp3, h.congr fun m hm => upd_ne _ _ (by rintro rfl; exact (h.mem m hm).2.2 hn)⟩
theorem Moved.push {σ σj : Book} {ns : List Nat} {n : Nat} (h : Moved σ [] σj ns) (hn : σj n = none) (x : Pgg) : Moved σ [] (upd σj n (some x)) (n :: ns) := by
 have f2 := (Moved.make hn x).frame (R := ns) h.there h.nodup (fun m hm => by simp)
 exact h.trans (f2.perm (by simp) (by simp))
end Tr
def Tr.pieces (n : Nat) : Nat := if n ≤ 96 then 0 else (n - 1) / 484 + 1
def HeldNo (p : Store) (S : List Nat) (w : World) (e : Ending) (w' : World) : Prop := Full p S w w' e (.returned (.tuple #[.agg #[.string ⟨#[]⟩, .string ⟨#[]⟩, .int .i64 0, .int .i64 0, .int .i64 0], .int .i64 9]))
theorem Step.result {p : Store} (hp : Serves p) {w w1 w3 w4 : World} {S : List Nat} {σ : Book} {k : Nat} (hb : Below w.heap.size w w1) (h : Step p S w1 w3 σ k) (ho : Off [w.heap.size] w3 w4) (hS : ∀ b ∈ S, b < w.heap.size) (hlt : w.heap.size < w1.heap.size) : Step p S w w4 σ k := by
 obtain ⟨S', hat, hof, hfr⟩ := h
 have hn : w.heap.size ∉ S' := fun hs => by
   rcases hfr _ hs with h | h
   · have := hS _ h; omega
   · omega
 refine ⟨S', hp.off hat ho (fun b hb hu => by rw [List.mem_singleton] at hu; subst hu; exact hn hb), (((Off.of_below hb S).trans hof).then ho (fun g hg => by rw [List.mem_singleton] at hg; subst hg; exact .inr (Nat.le_refl _))), hfr.mono hb.size⟩
theorem Off.five {w : World} {q : Nat} {a0 a1 a2 a3 a4 : Value} : Off [q] w (((((w.setCell ⟨q, 0, none⟩ a0).setCell ⟨q, 1, none⟩ a1).setCell ⟨q, 2, none⟩ a2).setCell ⟨q, 3, none⟩ a3).setCell ⟨q, 4, none⟩ a4) :=
 (((((Off.refl _ _).setCell (.inl (by simp)) _).setCell (.inl (by simp)) _).setCell (.inl (by simp)) _).setCell (.inl (by simp)) _).setCell (.inl (by simp)) _
theorem Bk.fiveSet {w : World} {q : Nat} {t : TypeId} {v0 v1 v2 v3 v4 : Value} (h : Bk w q t #[v0, v1, v2, v3, v4]) (a0 a1 a2 a3 a4 : Value) :
   (w.setCell ⟨q, 0, none⟩ a0).cell? ⟨q, 0, none⟩ = some a0 ∧ ((w.setCell ⟨q, 0, none⟩ a0).setCell ⟨q, 1, none⟩ a1).cell? ⟨q, 1, none⟩ = some a1 ∧ (((w.setCell ⟨q, 0, none⟩ a0).setCell ⟨q, 1, none⟩ a1).setCell ⟨q, 2, none⟩ a2).cell? ⟨q, 2, none⟩ = some a2 ∧
   ((((w.setCell ⟨q, 0, none⟩ a0).setCell ⟨q, 1, none⟩ a1).setCell ⟨q, 2, none⟩ a2).setCell ⟨q, 3, none⟩ a3).cell? ⟨q, 3, none⟩ = some a3 ∧ (((((w.setCell ⟨q, 0, none⟩ a0).setCell ⟨q, 1, none⟩ a1).setCell ⟨q, 2, none⟩ a2).setCell ⟨q, 3, none⟩ a3).setCell ⟨q, 4, none⟩ a4).cell? ⟨q, 4, none⟩ = some a4 := by
 have h0 := h.put 0 a0
 have h1 := h0.put 1 a1
 have h2 := h1.put 2 a2
 have h3 := h2.put 3 a3
 have h4 := h3.put 4 a4
 exact ⟨h0.cell 0, h1.cell 1, h2.cell 2, h3.cell 3, h4.cell 4⟩
theorem piece_drop (l : List UInt8) (n a hi : Nat) (hn : n = l.length) (ha : a < n) (hh : (a + 484 < n ∧ hi = a + 484) ∨ (n ≤ a + 484 ∧ hi = n)) : (l.drop a).take (hi - a) ++ l.drop (a + 484) = l.drop a := by
 subst hn
 rcases hh with ⟨h1, rfl⟩ | ⟨h1, rfl⟩
 · rw [show a + 484 - a = 484 by omega, ← List.drop_drop, List.take_append_drop]
 · rw [List.take_of_length_le (by rw [List.length_drop]; omega), show l.drop (a + 484) = [] from List.drop_eq_nil_of_le (by omega), List.append_nil]
structure HoldAt (p : Store) (S : List Nat) (σ : Book) (k m : Nat) (v : List UInt8) (w wr : World) (j n : Nat) : Prop where
 le : j ≤ m + 1
 st : ∃ (ns : List Nat) (σj : Book) (Sj : List Nat), ns.length + j = m + 1 ∧ Tr.Chain σj n ns (v.drop (484 * j)) ∧ Tr.Moved σ [] σj ns ∧ p.At wr Sj σj (k - ns.length) ∧ Off S w wr ∧ ∀ b ∈ Sj, b ∈ S ∨ w.heap.size + 1 ≤ b
 cell : Bk wr w.heap.size 170 #[.string ⟨#[]⟩, .string ⟨#[]⟩, .int .i64 0, .int .i64 0, .int .i64 0]
theorem HoldAt.lt {p : Store} {S : List Nat} {σ : Book} {k m : Nat} {v : List UInt8} {w wr : World} {j n : Nat} (h : HoldAt p S σ k m v w wr j n) : n < 512 := by
 obtain ⟨ns, σj, Sj, -, h1, -⟩ := h.st
 exact h1.first_lt
set_option maxHeartbeats 16000000 in
theorem hold_long {p : Store} (hp : Serves p) {w : World} {S : List Nat} {σ : Book} {k : Nat} (h : p.At w S σ k) (key val : ByteArray) (hv : 96 < val.size) (hv2 : val.size ≤ 4000) (hk : p.F ∨ (val.size - 1) / 484 + 1 ≤ k) :
   Calls Tryz.prog 103 #[.iface p.T p.v, .string key, .string val] w (fun e w' => (∃ n : Nat, e = .returned (.tuple #[.agg #[.string key, .string ⟨#[]⟩, .int .i64 n, .int .i64 val.size, .int .i64 0], .int .i64 0]) ∧
     ∃ (ns : List Nat) (σ' : Book), n ≠ 0 ∧ ns.length = (val.size - 1) / 484 + 1 ∧ Tr.Chain σ' n ns val.data.toList ∧ Tr.Moved σ [] σ' ns ∧ Step p S w w' σ' (k - ((val.size - 1) / 484 + 1))) ∨ HeldNo p S w e w') := by
 have z1 : decide ((val.size : Int) ≤ 96) = false := decide_eq_false (by omega)
 have z2 : decide (val.size ≤ 96) = false := decide_eq_false (by omega)
 obtain ⟨f, rv, hn, hm, he, hmk⟩ := hp.make
 have HPUT := Lib.hid fun (n : Nat) (hn : n < 512) (W : World) => (show Calls Tryz.prog 160 #[.string ⟨#[]⟩, .int .u64 n, .int .i64 4] W (TellsSE (⟨(Be.low n 4).toArray⟩) 0 W) from put_ok ⟨#[]⟩ n 4 W (by show 0 ≤ 1000000; omega) (by omega) (by omega) (by omega))
 obtain ⟨m, hmm⟩ : ∃ m, m = (val.size - 1) / 484 := ⟨_, rfl⟩
 rw [← hmm] at hk ⊢
 have q1 : (val.size : Int) - 1 = ((val.size - 1 : Nat) : Int) := by omega
 have q2 : ((val.size - 1 : Nat) : Int) / 484 = (m : Int) := by omega
 have q3 : IntKind.i64.wrap ((m : Int) * 484) = 484 * (((m + 1 : Nat) : Int)) - 484 := by rw [IntKind.wrap_i64]; omega
 have HMM := Lib.hid hmm
 have HV := Lib.hid (show 96 < val.size ∧ val.size ≤ 4000 from ⟨hv, hv2⟩)
 have HMK := Lib.hid hmk
 have HA := Lib.hid h
 have HK := Lib.hid hk
 have HOLD := Lib.hid (hp.old h)
 have HNS := Lib.hid (show w.heap.size ∉ S from fun hs => by have := hp.old h _ hs; omega)
 clear hmk h hk hmm hv hv2
 go_enter Tryz.func103, Tryz.ntmps103
 go_wp2_with fail
 go_loopw [8, 9] (fun nx at_ wr => ∃ (j n : Nat) (a : Int), nx = .int .i64 n ∧ at_ = .int .i64 a ∧ a = 484 * (j : Int) - 484 ∧ Hid (HoldAt p S σ k m val.data.toList w wr j n)) (fun _ a _ => ((intOf a) + 484).toNat)
 case atStart =>
   have hq : wrap64 (wrap64 ((wrap64 ((val.size - 1 : Nat) : Int)).tdiv 484) * 484) = 484 * (((m + 1 : Nat)) : Int) - 484 := by
     have h1 := HMM.out
     have h2 := HV.out
     rw [IntWalk.wrap64_in ((val.size - 1 : Nat) : Int) ⟨by omega, by omega⟩, Int.tdiv_eq_ediv_of_nonneg (by omega), q2, IntWalk.wrap64_in (m : Int) ⟨by omega, by omega⟩] <;> (try rw [IntWalk.wrap64_in ((m : Int) * 484) ⟨by omega, by omega⟩])
     omega
   refine ⟨m + 1, 0, _, rfl, rfl, hq, Lib.hid ⟨Nat.le_refl _, ⟨[], σ, S, by simp, ⟨rfl, ?_⟩, Tr.Moved.refl (by simp) (by simp), ?_, (Off.refl S w).alloc _, fun b hb => .inl hb⟩, Bk.new w _ _⟩⟩
   · refine List.drop_eq_nil_of_le ?_
     have h1 := HMM.out
     have h2 := HV.out
     show val.size ≤ 484 * (m + 1)
     omega
   · exact hp.off (hp.less HA.out (by simp)) ((Off.refl [] w).alloc _) (by simp)
 case round =>
   obtain ⟨j, n, a, rfl, rfl, ha, hI⟩ := hrel
   cases j with
   | zero =>
     obtain rfl : a = -484 := by omega
     clear ha
     have HI := Lib.hid hI.out
     obtain ⟨f0, f1, f2, f3, f4, g0, g1, g2, g3, g4, l3⟩ := hI.out.cell.all5
     go_wp2_with fail
     obtain ⟨s0, s1, s2, s3, s4⟩ := HI.out.cell.fiveSet (.string key) (.string ⟨#[]⟩) (.int .i64 n) (.int .i64 val.size) (.int .i64 0)
     refine bodyPost_ret (v := .tuple #[.agg #[.string key, .string ⟨#[]⟩, .int .i64 n, .int .i64 val.size, .int .i64 0], .int .i64 0]) (by simp [results, Tryz.results103, go_sem, l3, s0, s1, s2, s3, s4]) rfl (.inl ⟨n, rfl, ?_⟩)
     obtain ⟨ns, σj, Sj, e1, e2, e3, e4, e5, e6⟩ := HI.out.st
     have e1 : ns.length = m + 1 := by omega
     rw [Nat.mul_zero, List.drop_zero] at e2
     refine ⟨ns, σj, ?_, e1, e2, e3, ?_⟩
     · cases ns with
       | nil => cases e1
       | cons x t => have h1 := e2.1; have h2 := e2.2.1; omega
     · rw [← e1]
       refine ⟨Sj, hp.off e4 Off.five (fun b hb hu => ?_), e5.then Off.five (fun g hg => ?_), fun b hb => (e6 b hb).imp id (fun h => by omega)⟩
       · rw [List.mem_singleton] at hu
         subst hu
         rcases e6 _ hb with h1 | h1
         · exact HNS.out h1
         · omega
       · rw [List.mem_singleton] at hg
         subst hg
         exact .inr (Nat.le_refl _)
   | succ i =>
     obtain ⟨a', ha'⟩ : ∃ a' : Nat, a' = 484 * i := ⟨_, rfl⟩
     obtain rfl : a = (a' : Int) := by omega
     have hn512 := hI.out.lt
     have hle := hI.out.le
     have hm := HMM.out
     have hv := HV.out
     have halt : a' < val.size := by omega
     have y1 : IntKind.u64.wrap (n : Int) = (n : Int) := by rw [IntKind.wrap_u64]; omega
     obtain ⟨b', hb'⟩ : ∃ b' : Nat, b' = a' + 484 := ⟨_, rfl⟩
     have y2 : IntKind.i64.wrap ((a' : Int) + 484) = (b' : Int) := by rw [IntKind.wrap_i64]; omega
     obtain ⟨hi, hhi⟩ : ∃ hi : Nat, hi = if b' < val.size then b' else val.size := ⟨_, rfl⟩
     have y3 : (if b' < val.size then (b' : Int) else (val.size : Int)) = (hi : Int) := by rw [hhi]; split <;> rfl
     have y4 : (if (b' : Int) < (val.size : Int) then (b' : Int) else (val.size : Int)) = (hi : Int) := by
       rw [← y3]
       by_cases h9 : b' < val.size
       · rw [if_pos h9, if_pos (by omega)]
       · rw [if_neg h9, if_neg (by omega)]
     have hways : (a' + 484 < val.size ∧ hi = a' + 484) ∨ (val.size ≤ a' + 484 ∧ hi = val.size) := by
       rw [hhi, hb']
       by_cases h9 : a' + 484 < val.size
       · rw [if_pos h9]; exact .inl ⟨h9, rfl⟩
       · rw [if_neg h9]; exact .inr ⟨by omega, rfl⟩
     have y5 : a' ≤ hi := by omega
     have y6 : hi ≤ val.size := by omega
     have y7 : (a' : Int) ≤ (hi : Int) := by omega
     have y8 : (hi : Int) ≤ (val.size : Int) := by omega
     have y9 : IntKind.i64.wrap ((a' : Int) - 484) = (a' : Int) - 484 := by rw [IntKind.wrap_i64]; omega
     have HW := Lib.hid (show ((a' + 484 < val.size ∧ hi = a' + 484) ∨ (val.size ≤ a' + 484 ∧ hi = val.size)) ∧ a' = 484 * i ∧ a' < val.size from ⟨hways, ha', halt⟩)
     obtain ⟨b, hb9⟩ : ∃ b : ByteArray, b = ⟨(Be.low n 4).toArray⟩ ++ val.extract a' hi := ⟨_, rfl⟩
     have hbs : b.size ≤ 488 := by rw [hb9, ByteArray.size_append]; show 4 + (val.extract a' hi).size ≤ 488; rw [ByteArray.size_extract]; omega
     have hadd : ∀ W : World, (Op.stringOp .add ⟨(Be.low n 4).toArray⟩ (val.extract a' hi)).run Tryz.prog W = .ok (.string b) W := fun W => by
       rw [hb9]
       exact run_string_add_sum W _ _ (by show 4 + (val.extract a' hi).size ≤ _; rw [ByteArray.size_extract]; omega)
     have HB9 := Lib.hid hb9
     clear ha ha' hle hm hv hb' hhi hways halt hb9
     obtain ⟨ns, σj, Sj, e1, e2, e3, e4, e5, e6⟩ := hI.out.st
     have HAT := Lib.hid e4
     have HCH := Lib.hid e2
     have HMV := Lib.hid e3
     have HLN := Lib.hid e1
     have HOF := Lib.hid (show Off S w wr ∧ (∀ b ∈ Sj, b ∈ S ∨ w.heap.size + 1 ≤ b) ∧ w.heap.size + 1 ≤ wr.heap.size from ⟨e5, e6, hI.out.cell.lt⟩)
     have HCL := Lib.hid hI.out.cell
     have hnsj : w.heap.size ∉ Sj := fun hs => by
       rcases e6 _ hs with h1 | h1
       · exact HNS.out h1
       · omega
     have HNJ := Lib.hid hnsj
     clear e1 e2 e3 e4 e5 e6 hI hnsj
     go_wp2_with (first
       | (go_at_call 160; go_must (refine (HPUT.out n hn512 _).mono ?_); rintro e w1 ⟨rfl, hb1⟩; have HN1 := Lib.hid hb1; have HZ1 := Lib.hid (bk_below HCL.out hb1); clear hb1)
       | fail)
     have l1 := HZ1.out.lt
     have HMJ := Lib.hid (way_letters (HMK.out w1.drew Sj σj (k - ns.length) ⟨3, b⟩ (hp.below HAT.out HN1.out.drew) (HK.out.imp id (fun _ => by have := HLN.out; omega)) (by show 1 ≤ 3; omega) (Nat.le_refl _) hbs))
     go_region_held3 (fun W => Bk W w.heap.size 170 #[.string ⟨#[]⟩, .string ⟨#[]⟩, .int .i64 0, .int .i64 0, .int .i64 0]) (first | exact HZ1.out.drew | exact (MkWay.off hw3.out).bk HZ1.out.drew HNJ.out) (first
       | (refine HMJ.out.mono ?_; rintro e w3 ⟨rn, re, rfl, hw3⟩))
     all_goals
       rcases hw3.out with ⟨n', rfl, rfl, n1, n2, hnn, S3, hat3, hof3, hfr3⟩ | ⟨hF, rfl, rfl, σ3, S3, hat3, hof3, hfr3⟩
       · have hof : Off S w w3 := HOF.out.1.then ((Off.of_below HN1.out.drew Sj).trans hof3) (fun g hg => (HOF.out.2.1 g hg).imp id (fun h => by omega))
         have hfr : ∀ b ∈ S3, b ∈ S ∨ w.heap.size + 1 ≤ b := fun b hb => by
           have h2 := HN1.out.size
           have h3 := HOF.out.2.2
           rcases hfr3 b hb with h1 | h1
           · exact HOF.out.2.1 b h1
           · simp at h1; exact .inr (by omega)
         have hw := HW.out
         have hm1 := HMM.out
         have hv1 := HV.out
         have hpl : (val.extract a' hi).data.toList = (val.data.toList.drop a').take (hi - a') := extract_list val a' hi
         have hvl : val.data.toList.length = val.size := rfl
         have hlen : ((val.data.toList.drop a').take (hi - a')).length = hi - a' := by rw [List.length_take, List.length_drop]; omega
         have hbe : b = ⟨(Be.low n 4 ++ (val.data.toList.drop a').take (hi - a')).toArray⟩ := by
           rw [HB9.out, ← hpl]
           exact Nd.str_ext (by simp [ByteArray.toList_eq])
         have hch : Tr.Chain (Tr.upd σj n' (some ⟨3, b⟩)) n' (n' :: ns) (val.data.toList.drop (484 * i)) := by
           rw [hbe, ← hw.2.1]
           have h9 := Tr.Chain.push (piece := (val.data.toList.drop a').take (hi - a')) HCH.out hnn n1 n2 (by omega) (by omega) (fun hnz => by
             have hl9 := HLN.out
             have hns : ns ≠ [] := fun e => hnz (by have h8 := HCH.out; rw [e] at h8; exact h8.1)
             have : 0 < ns.length := by cases ns with | nil => exact absurd rfl hns | cons x t => simp
             omega)
           rw [show 484 * (i + 1) = a' + 484 by omega, piece_drop _ val.size a' hi hvl.symm hw.2.2 hw.1] at h9
           exact h9
         have hq : HoldAt p S σ k m val.data.toList w w3 i n' := by
           refine ⟨by have := HLN.out; omega, ⟨n' :: ns, _, S3, by rw [List.length_cons]; have := HLN.out; omega, hch, HMV.out.push hnn ⟨3, b⟩, ?_, hof, hfr⟩, (hof3.bk HZ1.out.drew HNJ.out)⟩
           rw [List.length_cons, Nat.sub_add_eq]
           exact hat3
         have HQ := Lib.hid (show ∃ (j' n9 : Nat) (a9 : Int), Value.int .i64 (n' : Int) = .int .i64 n9 ∧ Value.int .i64 ((a' : Int) - 484) = .int .i64 a9 ∧ a9 = 484 * (j' : Int) - 484 ∧ Hid (HoldAt p S σ k m val.data.toList w w3 j' n9) from ⟨i, n', _, rfl, rfl, by rw [HW.out.2.1]; omega, Lib.hid hq⟩)
         clear hw3 hnn hat3 hof3 hfr3 hof hfr hw hm1 hv1 hpl hvl hlen hbe hch hq
         go_wp2_with fail
         go_roundw
         case rel => first | exact HQ.out | ((repeat apply Exists.intro); exact ⟨HQ.out, rfl⟩)
         case measure => simp [intOf]; omega
       · have hz3 := hof3.bk HZ1.out.drew HNJ.out
         have HZ3 := Lib.hid hz3
         have hofa : Off S w w3 := HOF.out.1.then ((Off.of_below HN1.out.drew Sj).trans hof3) (fun g hg => (HOF.out.2.1 g hg).imp id (fun h => by omega))
         have hfra : ∀ b ∈ S3, b ∈ S ∨ w.heap.size + 1 ≤ b := fun b hb => by
           have h2 := HN1.out.size
           have h3 := HOF.out.2.2
           rcases hfr3 b hb with h1 | h1
           · exact HOF.out.2.1 b h1
           · simp at h1; exact .inr (by omega)
         have HST := Lib.hid (show p.F ∧ p.At w3 S3 σ3 0 ∧ Off S w w3 ∧ ∀ b ∈ S3, b ∈ S ∨ w.heap.size + 1 ≤ b from ⟨hF, hat3, hofa, hfra⟩)
         obtain ⟨f0, f1, f2, f3, f4, g0, g1, g2, g3, g4, l3⟩ := hz3.all5
         clear hw3 hat3 hof3 hfr3 hofa hfra hz3
         go_wp2_with fail
         obtain ⟨s0, s1, s2, s3, s4⟩ := HZ3.out.fiveSet (.string ⟨#[]⟩) (.string ⟨#[]⟩) (.int .i64 0) (.int .i64 0) (.int .i64 0)
         refine bodyPost_ret (v := .tuple #[.agg #[.string ⟨#[]⟩, .string ⟨#[]⟩, .int .i64 0, .int .i64 0, .int .i64 0], .int .i64 9]) (by simp [results, Tryz.results103, go_sem, l3, s0, s1, s2, s3, s4]) rfl (.inr ⟨HST.out.1, rfl, σ3, ?_⟩)
         refine ⟨S3, hp.off HST.out.2.1 Off.five (fun b hb hu => ?_), HST.out.2.2.1.then Off.five (fun g hg => ?_), fun b hb => (HST.out.2.2.2 b hb).imp id (fun h => by omega)⟩
         · rw [List.mem_singleton] at hu
           subst hu
           rcases HST.out.2.2.2 _ hb with h1 | h1
           · exact HNS.out h1
           · omega
         · rw [List.mem_singleton] at hg
           subst hg
           exact .inr (Nat.le_refl _)
end Go.Proofs.YtjbcbnemdhbhbaaGreatDoor

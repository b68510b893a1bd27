import Derived.Test.YtjbcbnemdhbhbaaGreatDoorG16
import Derived.Test.YtjbcbnemdhbhbaaGreatDoorG15
import Derived.Deep.RegionWith
import Derived.Deep.RegionHeld3
import Derived.Lib.AppendStr
namespace Go.Proofs.YtjbcbnemdhbhbaaGreatDoor
open Go.RowKit
set_option maxRecDepth 100000
set_option linter.unusedVariables false
set_option linter.unusedSimpArgs false
theorem kind_n (leaf : Bool) (w : World) : Calls Tryz.prog 252 #[.bool leaf] w (fun e w' => e = .returned (.int .i64 ((if leaf then 1 else 2 : Nat) : Int)) ∧ w = w') := by
 refine (kind_any leaf w).mono ?_
 rintro e w' ⟨rfl, rfl⟩
 cases leaf <;> exact ⟨rfl, rfl⟩
theorem three_after {w w2 : World} {t : TypeId} {v0 v1 v2 : Value} (hb : Below (w.alloc (.cells #[v0, v1, v2] t)).heap.size (w.alloc (.cells #[v0, v1, v2] t)) w2) :
   w2.cell? ⟨w.heap.size, 0, none⟩ = some v0 ∧ w2.cell? ⟨w.heap.size, 1, none⟩ = some v1 ∧ w2.cell? ⟨w.heap.size, 2, none⟩ = some v2 ∧ w.heap.size < w2.heap.size ∧ Below w.heap.size w w2 ∧ Bk w2 w.heap.size t #[v0, v1, v2] := by
 have hk := bk_below (Bk.new w t #[v0, v1, v2]) hb
 exact ⟨hk.cell 0, hk.cell 1, hk.cell 2, hk.lt, ((Below.refl _ w).alloc (Nat.le_refl _) _).trans (hb.mono (by simp)), hk⟩
def MadeOk (p : Store) (S : List Nat) (σ : Book) (k d : Nat) (xs : List Tr.Pd) (w : World) (e : Ending) (w' : World) : Prop :=
 ∃ (A : Option Addr) (c : Nat) (ks : List Kd) (σ' : Book), e = .returned (.tuple #[.slice A ks.length c, .int .i64 0]) ∧ COwn w' w.heap.size (.slice A ks.length c) (ks.map Kd.cell) ∧ ks.map Kd.rg = xs.map Tr.Pd.rg ∧ (∀ k ∈ ks, Tr.Stored σ' d k.no k.P k.L) ∧
   Tr.Moved σ (xs.flatMap (·.P)) σ' (ks.flatMap (·.P)) ∧ ∃ S' : List Nat, p.At w' S' σ' (k - xs.length) ∧ Off S w w' ∧ Fresh w S S' ∧ ∀ g, Value.ownBlock (.slice A ks.length c) = some g → g ∉ S'
def MkWay (p : Store) (S : List Nat) (σ : Book) (k : Nat) (x : Pgg) (w w' : World) (a b : Int) : Prop :=
 (∃ n : Nat, a = n ∧ b = 0 ∧ 1 ≤ n ∧ n < 512 ∧ σ n = none ∧ Step p S w w' (Tr.upd σ n (some x)) (k - 1)) ∨ (p.F ∧ a = 0 ∧ b = 9 ∧ ∃ σ', Step p S w w' σ' 0)
theorem MkWay.off {p : Store} {S : List Nat} {σ : Book} {k : Nat} {x : Pgg} {w w' : World} {a b : Int} (h : MkWay p S σ k x w w' a b) : Off S w w' := by
 rcases h with ⟨n, -, -, -, -, -, S', -, h, -⟩ | ⟨-, -, -, σ', S', -, h, -⟩
 · exact h
 · exact h
theorem Step.from {p : Store} (hp : Serves p) {S Sj : List Nat} {w wr w2 w3 : World} {σ : Book} {k : Nat} (h1 : Off S w wr) (f1 : Fresh w S Sj) (hb : Below wr.heap.size wr w2) (h : Step p Sj w2 w3 σ k) : Step p S w w3 σ k := by
 obtain ⟨S', h2, h3, h4⟩ := h
 exact ⟨S', h2, h1.then ((Off.of_below hb Sj).trans h3) f1, f1.trans (h4.mono hb.size) h1.size⟩
theorem way_letters {p : Store} {S : List Nat} {σ : Book} {k : Nat} {x : Pgg} {w : World} {f : Nat} {args : Array Value} (h : Calls Tryz.prog f args w (fun e w' =>
     (∃ n : Nat, e = .returned (.tuple #[.int .i64 n, .int .i64 0]) ∧ 1 ≤ n ∧ n < 512 ∧ σ n = none ∧ Step p S w w' (Tr.upd σ n (some x)) (k - 1)) ∨ Full p S w w' e (.returned (.tuple #[.int .i64 0, .int .i64 9])))) :
   Calls Tryz.prog f args w (fun e w' => ∃ a b : Int, e = .returned (.tuple #[.int .i64 a, .int .i64 b]) ∧ Hid (MkWay p S σ k x w w' a b)) := by
 refine h.mono ?_
 rintro e w' (⟨n, rfl, h1⟩ | ⟨h1, rfl, h2⟩)
 · exact ⟨n, 0, rfl, Lib.hid (.inl ⟨n, rfl, rfl, h1⟩)⟩
 · exact ⟨0, 9, rfl, Lib.hid (.inr ⟨h1, rfl, rfl, h2⟩)⟩
set_option maxHeartbeats 8000000 in
theorem made_any {p : Store} (hp : Serves p) {w : World} {S : List Nat} {σ : Book} {k : Nat} (h : p.At w S σ k) {d B : Nat} {xs : List Tr.Pd} {r : Rw} (hN : (xs.flatMap (·.P)).Nodup) (hx : ∀ x ∈ xs, Tr.Part σ d x.cs x.P x.L ∧ Nd.sum (d == 0) x.cs ≤ 488 ∧ Tr.Good (d == 0) x.cs x.L)
   (hr : PRow w (Cl B S) r (xs.map (Tr.Pd.pt (d == 0)))) (hB : B ≤ w.heap.size) (hk : p.F ∨ xs.length ≤ k) (hl : xs.length ≤ 10) :
   Calls Tryz.prog 218 #[.iface p.T p.v, .slice r.A r.n r.c] w (fun e w' => MadeOk p S σ k d xs w e w' ∨ Full p S w w' e (.returned (.tuple #[.slice none 0 0, .int .i64 9]))) := by
 obtain ⟨i0, hi, iz0, iz1, iz2⟩ := info_parts info_cell
 obtain ⟨f, rv, hn, hm, he, hmk⟩ := hp.make
 obtain ⟨A, n, cap⟩ := r
 have hr0 := hr
 obtain ⟨h1, h2, h3, -⟩ := hr0
 simp only at h1 h2 h3 ⊢
 rw [List.length_map] at h1
 subst h1
 have hcm : cap ≤ 9223372036854775807 := by unfold maxLen at h3; omega
 have HR := Lib.hid hr
 have HX := Lib.hid hx
 have HN := Lib.hid hN
 have HMK := Lib.hid hmk
 have HA := Lib.hid h
 have HF := Lib.hid hk
 have HS := Lib.hid (hp.old h)
 clear hr hx hN hmk h hk h3
 go_enter Tryz.func218, Tryz.ntmps218
 go_wp2_with fail
 go_loopw [6, 14] (fun u i wr => ∃ (j : Nat) (A : Option Addr) (c : Nat) (ks : List Kd) (σj : Book) (Sj : List Nat), i = .int .i64 j ∧ u = .slice A j c ∧ j ≤ xs.length ∧ ks.length = j ∧ COwn wr w.heap.size (.slice A j c) (ks.map Kd.cell) ∧ ks.map Kd.rg = (xs.take j).map Tr.Pd.rg ∧
     (∀ k ∈ ks, Tr.Stored σj d k.no k.P k.L) ∧ Tr.Moved σ ((xs.take j).flatMap (·.P)) σj (ks.flatMap (·.P)) ∧ p.At wr Sj σj (k - j) ∧ Off S w wr ∧ Fresh w S Sj ∧ (∀ g, Value.ownBlock (.slice A j c) = some g → g ∉ Sj)) (fun _ i _ => xs.length - (intOf i).toNat)
 case atStart => exact ⟨0, none, 0, [], σ, S, rfl, rfl, Nat.zero_le _, rfl, World.ownsRow_nil _ _ _ _, rfl, by simp, Tr.Moved.refl (by simp) (by simp), HA.out, Off.refl _ _, Fresh.refl _ _, by intro g hg; cases hg⟩
 case round =>
   obtain ⟨j, A2, c, ks, σj, Sj, rfl, rfl, hj, hkl, how, hkr, hst, hmv, hat, hoff, hfr, hns⟩ := hrel
   have HOW := Lib.hid how
   have HKR := Lib.hid hkr
   have HST := Lib.hid hst
   have HMV := Lib.hid hmv
   have HAT := Lib.hid hat
   have HOF := Lib.hid hoff
   have HFR := Lib.hid hfr
   have HNS := Lib.hid hns
   have HKL := Lib.hid hkl
   by_cases hlt : j < xs.length
   · have z1 : decide ((j : Int) < (xs.length : Int)) = true := decide_eq_true (by omega)
     obtain ⟨b, o, hA, hS, q, q0, q1, q2, hq⟩ := (HR.out.carry hoff hfr).at j (by rw [List.length_map]; exact hlt)
     simp only at hA
     subst hA
     have hbl := hS.2
     obtain ⟨p1, p2, p3⟩ := HX.out _ (List.getElem_mem hlt)
     rw [List.getElem_map] at q0 q1 hq
     simp only [Tr.Pd.pt] at q0 q1 hq
     have HENC := Lib.hid fun (W : World) (hb : Below wr.heap.size wr W) => (show Calls Tryz.prog 251 #[.bool (d == 0), .slice q.A q.n q.c] W (TellsSE (Nd.str (d == 0) xs[j].cs) 0 W) from encode_yes (d == 0) q xs[j].cs _ W (hq.below hb) p1.right.1 p2)
     obtain ⟨leaf, hleaf⟩ : ∃ leaf, leaf = (d == 0) := ⟨_, rfl⟩
     rw [← hleaf] at q1 HENC
     obtain ⟨s, hs9⟩ : ∃ s, s = Nd.str leaf xs[j].cs := ⟨_, rfl⟩
     rw [← hs9] at HENC
     have hss : s.size ≤ 488 := by rw [hs9, Nd.str_size, hleaf]; exact p2
     obtain ⟨ky, hky⟩ : ∃ ky, ky = xs[j].key := ⟨_, rfl⟩
     rw [← hky] at q0
     have HKY := Lib.hid hky
     have HS9 := Lib.hid hs9
     have HLF := Lib.hid hleaf
     have HKD := Lib.hid fun (W : World) => kind_n leaf W
     obtain ⟨kn, hkn⟩ : ∃ kn : Nat, kn = (if leaf then 1 else 2) := ⟨_, rfl⟩
     rw [← hkn] at HKD
     have HKN := Lib.hid hkn
     have hk1 : 1 ≤ kn ∧ kn ≤ 3 := by rw [hkn]; cases leaf <;> simp
     obtain ⟨qA, qn, qc⟩ := q
     simp only at q2 HENC
     clear hS hq p1 p2 p3 how hkr hst hmv hat hoff hfr hns hkl hs9 hleaf hky hkn
     go_wp2_with fail
     refine (HENC.out _ ((Below.refl _ _).alloc (Nat.le_refl _) _)).mono ?_
     rintro e w2 ⟨rfl, hb2⟩
     obtain ⟨r0, r1, r2, l2, hn2, hk2⟩ := three_after hb2
     have HN2 := Lib.hid hn2
     have HK2 := Lib.hid hk2
     clear hb2 hn2 hk2
     go_wp2_with fail
     have HMJ := Lib.hid (way_letters (HMK.out w2.drew Sj σj (k - j) ⟨kn, s⟩ (hp.below HAT.out HN2.out.drew) (HF.out.imp id (fun _ => by omega)) hk1.1 hk1.2 hss))
     clear hk1 hss
     have HKS := Lib.hid (show ∀ W : World, Off Sj w2 W → W.cell? ⟨wr.heap.size, 1, none⟩ = some (.bool leaf) from fun W hb => (hb.cell (p := ⟨wr.heap.size, 1, none⟩) l2 (fun hh => by have := hp.old HAT.out _ hh; simp at this)).trans r1)
     go_region_held3 (fun W => W.cell? ⟨wr.heap.size, 1, none⟩ = some (.bool leaf)) (first | exact HKS.out _ (Off.refl _ _).drew | exact HKS.out _ ((Off.refl Sj w2).drew.trans (MkWay.off hw3.out))) (first
       | (go_at_call 252; refine (HKD.out _).mono ?_; rintro e w3 ⟨rfl, rfl⟩)
       | (refine HMJ.out.mono ?_; rintro e w3 ⟨rn, re, rfl, hw3⟩))
     all_goals
       rcases hw3.out with ⟨n, rfl, rfl, n1, n2, hnn, S3, hat3, hof3, hfr3⟩ | ⟨hF, rfl, rfl, σ3, hst3⟩
       · have hs3 := hof3.size
         have hs2 : w2.heap.size ≤ w3.heap.size := hs3
         have hwl : w.heap.size ≤ wr.heap.size := HOF.out.size
         have hn2s := HN2.out.size
         have hb2 : Below wr.heap.size wr w2.drew := HN2.out.drew
         have HST3 := Lib.hid (Step.from hp HOF.out HFR.out hb2 ⟨S3, hat3, hof3, hfr3⟩)
         have hof := HOF.out.then ((Off.of_below hb2 Sj).trans hof3) HFR.out
         have hfr := HFR.out.trans (hfr3.mono hb2.size) hwl
         have HOFN := Lib.hid hof
         have HFRN := Lib.hid hfr
         have hown3 : COwn w3 w.heap.size (.slice A2 j c) (ks.map Kd.cell) := Off.own hof3 (HOW.out.below hb2) HNS.out
         have hns3 : ∀ g, Value.ownBlock (.slice A2 j c) = some g → g ∉ S3 := fun g hg hs => by
           have hlt := (World.ownsRow.lt HOW.out g hg).2
           rcases hfr3 g hs with h1 | h1
           · exact HNS.out g hg h1
           · have : w2.heap.size ≤ g := h1
             omega
         have hnew3 := hp.old hat3
         have HNS3 := Lib.hid hns3
         have HNEW3 := Lib.hid hnew3
         have HAT3 := Lib.hid hat3
         have HSTEP := Lib.hid (Tr.made_step HN.out HX.out hlt HKR.out HST.out HMV.out n1 n2 hnn)
         unfold COwn at hown3
         rw [List.length_map, HKL.out] at hown3
         have HO3 := Lib.hid hown3
         have l3 : w3.cell? ⟨wr.heap.size, 0, none⟩ = some (.string ky) := (hof3.cell (p := ⟨wr.heap.size, 0, none⟩) l2 (fun hh => by have := hp.old HAT.out _ hh; simp at this)).trans r0
         have l4 : wr.heap.size < w3.heap.size := by omega
         clear hof hfr hof3 hfr3 hat3 hown3 hns3 hnew3 hw3 hs3 hb2 hnn r0 r1 r2
         go_wp2_with (at_builtin; refine wpList_append_lies _ rfl (.tmp 44) (.tmp 49) 174 rfl w.heap.size 170 i0 _ 5 56 Tryz.underlying174 hi iz0 iz1 iz2 rfl (by omega) (.slice A2 j c) j (flatC (ks.map Kd.cell)) rfl (HO3.out.alloc _) ⟨w3.heap.size, 0, none⟩ 1 1 [.string ky, .string ⟨#[]⟩, .int .i64 0, .int .i64 0, .int .i64 n] rfl rfl (World.news_of_block (cs := #[.string ky, .string ⟨#[]⟩, .int .i64 0, .int .i64 0, .int .i64 n]) (heap_alloc_new w3 _)) (by simp [Value.oneCell']) (by omega) (by unfold maxLen; omega) (by omega) (by simp; omega) (w3.heap.size + 1) (by simp) ?_; intro gg cap3 w4 hown4 hgrow4 hat4 hlt4)
         have hUl : ∀ g, Value.ownBlock (.slice A2 j c) = some g → w.heap.size ≤ g := fun g hg => (World.ownsRow.lt HO3.out g hg).1
         have hAT4 : p.At w4 S3 (Tr.upd σj n (some ⟨if (d == 0) then 1 else 2, Nd.str (d == 0) xs[j].cs⟩)) (k - (j + 1)) := by
           rw [← HLF.out, ← HS9.out, ← HKN.out]
           refine hp.off (U := (Value.slice A2 j c).ownBlock.toList) (hp.less HAT3.out (by omega)) (((Off.refl _ w3).alloc _).grown hgrow4 (fun g hg => .inl (by rw [Option.mem_toList]; exact hg))) (fun b hb hu => ?_)
           rw [Option.mem_toList] at hu
           exact HNS3.out b hu hb
         have hOF4 : Off S w w4 := (HOFN.out.alloc _).grown hgrow4 (fun g hg => .inr (hUl g hg))
         have hNS4 : ∀ g, Value.ownBlock (.slice (some ⟨gg, 0, none⟩) (j + 1) cap3) = some g → g ∉ S3 := fun g hg hs => by
           have e : gg = g := by simpa [Value.ownBlock] using hg
           subst e
           rcases hat4 with h1 | h1
           · exact HNS3.out gg h1 hs
           · have := HNEW3.out gg hs; omega
         have hOW4 : COwn w4 w.heap.size (.slice (some ⟨gg, 0, none⟩) (j + 1) cap3) ((ks ++ [xs[j].kid n]).map Kd.cell) := by
           unfold COwn
           rw [List.map_append, List.length_append, List.length_map, HKL.out, flatC_app]
           show World.ownsRow _ _ _ _ _ _ (_ ++ flatC [(xs[j].kid n).cell])
           rw [flatC_one]
           show World.ownsRow _ _ _ _ _ _ (_ ++ [.string xs[j].key, _, _, _, _])
           rw [← HKY.out]
           exact hown4
         have hKL4 : (ks ++ [xs[j].kid n]).length = j + 1 := by rw [List.length_append, HKL.out]; rfl
         have HALL := Lib.hid (show ∃ (j' : Nat) (A' : Option Addr) (c' : Nat) (ks' : List Kd) (σ' : Book) (S' : List Nat), Value.int .i64 ((j : Int) + 1) = .int .i64 j' ∧ Value.slice (some ⟨gg, 0, none⟩) (j + 1) cap3 = .slice A' j' c' ∧ j' ≤ xs.length ∧ ks'.length = j' ∧ COwn w4 w.heap.size (.slice A' j' c') (ks'.map Kd.cell) ∧ ks'.map Kd.rg = (xs.take j').map Tr.Pd.rg ∧
             (∀ k ∈ ks', Tr.Stored σ' d k.no k.P k.L) ∧ Tr.Moved σ ((xs.take j').flatMap (·.P)) σ' (ks'.flatMap (·.P)) ∧ p.At w4 S' σ' (k - j') ∧ Off S w w4 ∧ Fresh w S S' ∧ (∀ g, Value.ownBlock (.slice A' j' c') = some g → g ∉ S') from
           ⟨j + 1, _, _, _, _, S3, by go_num, rfl, by omega, hKL4, hOW4, HSTEP.out.1, HSTEP.out.2.1, HSTEP.out.2.2, hAT4, hOF4, HFRN.out, hNS4⟩)
         clear hown4 hgrow4 hat4 hAT4 hOF4 hNS4 hOW4 hUl hKL4
         go_roundw
         case rel => exact HALL.out
         case measure => simp [intOf]; omega
       · have hwl : w.heap.size ≤ wr.heap.size := HOF.out.size
         have hb2 : Below wr.heap.size wr w2.drew := HN2.out.drew
         have HST3 := Lib.hid (Step.from hp HOF.out HFR.out hb2 hst3)
         clear hst3 hw3 hb2
         go_wp2_with fail
         go_ret2
         exact .inr ⟨hF, rfl, σ3, HST3.out⟩
   · have z1 : decide ((j : Int) < (xs.length : Int)) = false := decide_eq_false (by omega)
     obtain rfl : j = xs.length := by omega
     have HFIN := Lib.hid (show MadeOk p S σ k d xs w (.returned (.tuple #[.slice A2 xs.length c, .int .i64 0])) wr from
       ⟨A2, c, ks, σj, by rw [HKL.out], by rw [HKL.out]; exact how, by rw [HKR.out, List.take_length], hst, by rw [List.take_length] at hmv; exact hmv, Sj, hat, hoff, hfr, by rw [HKL.out]; exact hns⟩)
     clear how hkr hst hmv hat hoff hfr hns hkl
     go_wp2_with fail
     go_ret2
     exact .inl HFIN.out
def ints (l : List Nat) : List Value := l.map fun (n : Nat) => Value.int .i64 (n : Int)
theorem ints_len (l : List Nat) : (ints l).length = l.length := by simp [ints]
theorem ints_app (a b : List Nat) : ints (a ++ b) = ints a ++ ints b := by simp [ints]
theorem info_int : (Tryz.prog.info? 3).map (fun i => (i.zero, i.size, i.bytes)) = some (some (.int .i64 0), 1, 8) := by kernel_rfl
theorem ints_one (l : List Nat) : ∀ u ∈ ints l, u.oneCell' = true := by
 intro u hu
 obtain ⟨x, _, rfl⟩ := List.mem_map.1 hu
 rfl
theorem Tr.Chain.len {σ : Book} : ∀ {ns : List Nat} {no : Nat} {v : List UInt8}, Tr.Chain σ no ns v → ns.length ≤ v.length
 | [], _, _, _ => by simp
 | n :: ns, _, _, ⟨_, _, _, next, piece, rest, _, _, h6, h7, _, _, h10⟩ => by
   have := h10.len
   rw [h6, List.length_append, List.length_cons]
   omega
theorem own_apart2 {w : World} {b1 b2 e1 e2 s1 s2 n1 n2 : Nat} {v1 v2 : Value} {x1 x2 : List Value} (h1 : w.ownsRow b1 e1 s1 v1 n1 x1) (h2 : w.ownsRow b2 e2 s2 v2 n2 x2) (hne : e1 ≠ e2) : v1.ownBlock = none ∨ v1.ownBlock ≠ v2.ownBlock := by
 rcases h1.2 with ⟨rfl, -⟩ | ⟨g, cap, cur, rfl, -, hg, -⟩
 · exact .inl rfl
 · rcases h2.2 with ⟨rfl, -⟩ | ⟨g2, cap2, cur2, rfl, -, hg2, -⟩
   · exact .inr (by simp [Value.ownBlock])
   · refine .inr fun h => ?_
     simp only [Value.ownBlock, Option.some.injEq] at h
     subst h
     rw [hg] at hg2
     injection hg2 with hg2
     injection hg2 with _ q
     exact hne q
theorem mid_own {w w2 w3 : World} {o : Obj} {B e1 e2 s1 s2 n1 n2 g g' t t' : Nat} {v1 v2 : Value} {x1 x2 : List Value} {cs cs' : Array Value} (hgrow : (w2.alloc o).grownBy w3 v1.ownBlock) (h1 : w2.ownsRow B e1 s1 v1 n1 x1) (h2 : w2.ownsRow B e2 s2 v2 n2 x2) (hne : e2 ≠ e1)
   (hk : Bk w2 g t cs) (ht : e1 ≠ t) (hk' : Bk w2 g' t' cs') (ht' : e1 ≠ t') (hb : Below B w w2) (hB : B ≤ w.heap.size) (hB2 : B ≤ w2.heap.size) : w3.ownsRow B e2 s2 v2 n2 x2 ∧ Bk w3 g t cs ∧ Bk w3 g' t' cs' ∧ Below B w w3 ∧ w2.heap.size < w3.heap.size := by
 have hs := hgrow.size
 simp at hs
 refine ⟨(h2.alloc o).kept hgrow (own_apart2 h2 h1 hne), (hgrow.block _ (by have := hk.lt; simp; omega) (fun e => own_ne h1 hk ht e.symm)).trans (hk.alloc _), (hgrow.block _ (by have := hk'.lt; simp; omega) (fun e => own_ne h1 hk' ht' e.symm)).trans (hk'.alloc _), ?_, by omega⟩
 have h3 := hb.alloc (o := o) hB2
 exact ⟨hgrow.os.trans h3.os, hgrow.tape.trans h3.tape, hgrow.output.trans h3.output, Nat.le_trans h3.size hgrow.size, fun i hi => (hgrow.block i (by have := hb.size; simp; omega) (fun e => by have := (h1.lt i e.symm).1; omega)).trans (h3.block i hi)⟩
theorem end_own {w w2 w3 : World} {B e1 e2 s1 s2 n1 n2 g g' t t' : Nat} {v1 v2 : Value} {x1 x2 : List Value} {cs cs' : Array Value} (hgrow : w2.grownBy w3 v1.ownBlock) (h1 : w2.ownsRow B e1 s1 v1 n1 x1) (h2 : w2.ownsRow B e2 s2 v2 n2 x2) (hne : e2 ≠ e1)
   (hk : Bk w2 g t cs) (ht : e1 ≠ t) (hk' : Bk w2 g' t' cs') (ht' : e1 ≠ t') (h3 : Below B w w2) : w3.ownsRow B e2 s2 v2 n2 x2 ∧ Bk w3 g t cs ∧ Bk w3 g' t' cs' ∧ (B ≤ w.heap.size → Below B w w3) := by
 refine ⟨h2.kept hgrow (own_apart2 h2 h1 hne), (hgrow.block _ hk.lt (fun e => own_ne h1 hk ht e.symm)).trans hk, (hgrow.block _ hk'.lt (fun e => own_ne h1 hk' ht' e.symm)).trans hk', fun hB => ?_⟩
 exact ⟨hgrow.os.trans h3.os, hgrow.tape.trans h3.tape, hgrow.output.trans h3.output, Nat.le_trans h3.size hgrow.size, fun i hi => (hgrow.block i (by have := h3.size; omega) (fun e => by have := (h1.lt i e.symm).1; omega)).trans (h3.block i hi)⟩
theorem bytes_grown {w : World} {B : Nat} {v : Value} {a b : List UInt8} {t : ByteArray} (h : w.ownsRow B 5 1 v (a.length + t.size) (u8s a ++ Lib.strCells t)) (he : t.data.toList = b) :
   ∃ (A : Option Addr) (c : Nat), v = .slice A (a ++ b).length c ∧ w.ownsRow B 5 1 (.slice A (a ++ b).length c) (a ++ b).length (u8s (a ++ b)) := by
 have hl : a.length + t.size = (a ++ b).length := by rw [List.length_append, ← he]; rfl
 have hx : u8s a ++ Lib.strCells t = u8s (a ++ b) := by rw [u8s_app, ← he]; rfl
 rw [hl, hx] at h
 obtain ⟨A, c, rfl, -⟩ := own_slice h
 exact ⟨A, c, rfl, h⟩
theorem ints_grown {w : World} {B g c n : Nat} {l : List Nat} (h : w.ownsRow B 3 1 (.slice (some ⟨g, 0, none⟩) (l.length + 1) c) (l.length + 1) (ints l ++ [.int .i64 n])) :
   w.ownsRow B 3 1 (.slice (some ⟨g, 0, none⟩) (l ++ [n]).length c) (l ++ [n]).length (ints (l ++ [n])) := by
 rw [List.length_append, ints_app]
 exact h
def TellsCh (ps : List Nat) (v : List UInt8) (w : World) (e : Ending) (w' : World) : Prop :=
 Below w.heap.size w w' ∧ ∃ (A : Option Addr) (c : Nat), e = .returned (.tuple #[.slice A ps.length c, .string ⟨v.toArray⟩, .int .i64 0]) ∧ w'.ownsRow w.heap.size 3 1 (.slice A ps.length c) ps.length (ints ps)
theorem body_facts (next : Nat) (piece : List UInt8) (hn : next < 512) : (⟨(Be.low next 4 ++ piece).toArray⟩ : ByteArray).size = 4 + piece.length ∧ numAt ⟨(Be.low next 4 ++ piece).toArray⟩ 0 4 = next ∧ ((⟨(Be.low next 4 ++ piece).toArray⟩ : ByteArray).extract 4 (4 + piece.length)).data.toList = piece := by
 have hl : (⟨(Be.low next 4 ++ piece).toArray⟩ : ByteArray).size = 4 + piece.length := by
   show (Be.low next 4 ++ piece).toArray.size = _
   rw [List.size_toArray, List.length_append, Be.low_len]
 refine ⟨hl, ?_, ?_⟩
 · exact (StAt.of_pre (s := ⟨(Be.low next 4 ++ piece).toArray⟩) (a := []) (b := Be.low next 4) (c := piece) (by simp)).num (by omega)
 · rw [extract_list]
   show ((Be.low next 4 ++ piece).drop 4).take _ = _
   rw [List.drop_left' (Be.low_len _ _), List.take_of_length_le (by omega)]
set_option maxHeartbeats 8000000 in
theorem chain_ok {p : Store} (hp : Reads p) {w : World} {S : List Nat} {σ : Book} {k : Nat} (h : p.At w S σ k) (c : Ce) (ps : List Nat) (v : List UInt8) (hc : Tr.Chain σ c.over ps v) (hv : v.length = c.size) (hs : c.size ≤ 4000) (h0 : c.over ≠ 0) :
   Calls Tryz.prog 166 #[.iface p.T p.v, .agg #[.string c.key, .string c.val, .int .i64 c.over, .int .i64 c.size, .int .i64 c.child]] w (TellsCh ps v w) := by
 obtain ⟨i0, hi, iz0, iz1, iz2⟩ := info_parts info_int
 obtain ⟨i1, hi1, jz0, jz1, jz2⟩ := info_parts info_u8
 obtain ⟨f, rv, -, hm, he, hl⟩ := hp.load
 obtain ⟨key, val, over, size, child⟩ := c
 simp only at hc hv hs h0
 have HL := Lib.hid hl
 have HA := Lib.hid h
 have HC := Lib.hid hc
 have HV := Lib.hid hv
 have hvs : v.length ≤ 4000 := by omega
 have hps : ps.length ≤ 4000 := by have := HC.out.len; omega
 clear hl h hc hv
 go_enter Tryz.func166, Tryz.ntmps166
 go_wp2_with fail
 go_loopw [7, 8, 9] (fun u a i wr => ∃ (dn rest : List Nat) (vd vr : List UInt8) (no : Nat) (A1 : Option Addr) (c1 : Nat) (A2 : Option Addr) (c2 : Nat), i = .int .i64 no ∧ u = .slice A1 dn.length c1 ∧ a = .slice A2 vd.length c2 ∧ Hid (ps = dn ++ rest) ∧ Hid (v = vd ++ vr) ∧ Hid (Tr.Chain σ no rest vr) ∧
     wr.ownsRow w.heap.size 3 1 (.slice A1 dn.length c1) dn.length (ints dn) ∧ wr.ownsRow w.heap.size 5 1 (.slice A2 vd.length c2) vd.length (u8s vd) ∧ Bk wr w.heap.size 170 #[.string key, .string val, .int .i64 over, .int .i64 size, .int .i64 child] ∧ Below w.heap.size w wr) (fun u _ _ _ => ps.length - (match u with | .slice _ n _ => n | _ => 0))
 case atStart => exact ⟨[], ps, [], v, over, none, 0, none, 0, rfl, rfl, rfl, Lib.hid rfl, Lib.hid rfl, Lib.hid HC.out, World.ownsRow_nil _ _ _ _, World.ownsRow_nil _ _ _ _, Bk.new w _ _, (Below.refl _ w).alloc (Nat.le_refl _) _⟩
 case round =>
   obtain ⟨dn, rest, vd, vr, no, A1, c1, A2, c2, rfl, rfl, rfl, HPS, HVS, HCH, how1, how2, hbk, hbw⟩ := hrel
   have HO1 := Lib.hid how1
   have HO2 := Lib.hid how2
   have HBK := Lib.hid hbk
   have HBW := Lib.hid hbw
   clear how1 how2 hbk hbw
   cases rest with
   | nil =>
     obtain ⟨rfl, rfl⟩ := HCH.out
     have e1 : dn = ps := by rw [HPS.out, List.append_nil]
     have e2 : vd = v := by rw [HVS.out, List.append_nil]
     subst e1 e2
     have z2 : ((vd.length : Int) != (size : Int)) = false := by rw [HV.out]; simp
     have z2' : (vd.length != size) = false := by rw [HV.out]; simp
     have q3 : wr.cell? ⟨w.heap.size, 3, none⟩ = some (.int .i64 size) := HBK.out.cell 3
     have lk := HBK.out.lt
     have hsz0 : vd.length = size := HV.out
     have hvp : 0 < vd.length := by
       have hh := HC.out
       cases dn with
       | nil => exact absurd hh.1 h0
       | cons n ns =>
         obtain ⟨-, -, -, next, piece, rest, -, -, h6, h7, -⟩ := hh
         rw [h6, List.length_append]
         omega
     have HCV := Lib.hid fun (n : Nat) => conv_row (wr.drewN n) w.heap.size A2 c2 vd HO2.out hvp
     have hcv : (convert 36 9 (.slice A2 vd.length c2)).run Tryz.prog wr.drew = .ok (.string ⟨vd.toArray⟩) wr.drew := HCV.out 1
     clear hsz0 hvp hps hvs
     go_wp2_with fail
     go_region_with (fail)
     all_goals
       go_wp2_with fail
       go_ret3
       exact ⟨HBW.out.drew, A1, c1, rfl, HO1.out⟩
   | cons n ns =>
     obtain ⟨rfl, n1, n2, next, piece, rest', hσ, hnx, rfl, hp1, hp2, hp3, hch⟩ := HCH.out
     obtain ⟨b1, b2, b3⟩ := body_facts next piece hnx
     obtain ⟨s, hs9⟩ : ∃ s : ByteArray, s = ⟨(Be.low next 4 ++ piece).toArray⟩ := ⟨_, rfl⟩
     rw [← hs9] at b1 b2 b3 hσ
     have HLD := Lib.hid (HL.out wr S σ k no ⟨3, s⟩ (hp.below HA.out HBW.out) hσ)
     have hvl : vd.length + (piece.length + rest'.length) = v.length := by rw [HVS.out]; simp
     have hpl : dn.length + (ns.length + 1) = ps.length := by rw [HPS.out]; simp
     have hsv : v.length = size := HV.out
     have z0 : (((no : Nat) : Int) != 0) = true := by rw [bne_iff_ne]; omega
     have z0' : (no != 0) = true := by rw [bne_iff_ne]; omega
     have z1 : decide ((s.size : Int) < 4) = false := decide_eq_false (by omega)
     have z1' : decide (s.size < 4) = false := decide_eq_false (by omega)
     have z2 : decide ((size : Int) ≤ (vd.length : Int)) = false := decide_eq_false (by omega)
     have z2' : decide (size ≤ vd.length) = false := decide_eq_false (by omega)
     have z3 : decide ((512 : Int) ≤ (next : Int)) = false := decide_eq_false (by omega)
     have hw := wrap_i64 next (by omega)
     have HTK := Lib.hid fun (W : World) => (show Calls Tryz.prog 120 #[.string s, .int .i64 0, .int .i64 4] W (TellsUE next W) by
       have := take_ok s 0 4 W (by omega) (by omega) (by omega) (by omega)
       rw [b2] at this
       exact this)
     have hk2 : (0 < next ∧ decide ((0 : Int) < (next : Int)) = true ∧ ((s.size : Int) != 488) = false ∧ (s.size != 488) = false) ∨ next = 0 := by
       by_cases e : next = 0
       · exact .inr e
       · have h9 : s.size = 488 := by rw [b1, hp3 e]
         exact .inl ⟨by omega, decide_eq_true (by omega), by rw [h9]; rfl, by rw [h9]; rfl⟩
     have HV2 := Lib.hid (show vd ++ (piece ++ rest') = (vd ++ piece) ++ rest' by simp)
     have HB1 := Lib.hid b1
     have HB3 := Lib.hid b3
     have HCH2 := Lib.hid hch
     have hss : s.size ≤ 488 := by omega
     have hs4 : 4 < s.size := by omega
     have hps2 : dn.length < 4000 := by omega
     have hvd : vd.length + s.size ≤ 5000 := by omega
     clear b1 b2 b3 hσ hs9 hp1 hp2 hp3 hch hvl hpl hsv HCH hvs hps
     go_wp2_with fail
     refine HLD.out.mono ?_
     rintro e w1 ⟨hb1, pa, pb, rfl⟩
     have hbk1 := bk_below HBK.out hb1
     have q3 : w1.cell? ⟨w.heap.size, 3, none⟩ = some (.int .i64 size) := hbk1.cell 3
     have lk := hbk1.lt
     have HBK1 := Lib.hid hbk1
     have HN1 := Lib.hid (HBW.out.trans (hb1.mono HBW.out.size))
     have HP1 := Lib.hid ((Off.of_below hb1 []).own HO1.out (by simp))
     have HP2 := Lib.hid ((Off.of_below hb1 []).own HO2.out (by simp))
     clear hb1 hbk1
     go_wp2_with fail
     refine (HTK.out _).mono ?_
     rintro e w2 ⟨rfl, hb2⟩
     have hbk2 := bk_below (HBK1.out.alloc (.cells #[.int .i64 3, .int .i64 pa, .int .i64 pb, .string s] 126)) hb2
     have hpg2 := bk_below (Bk.new w1 126 #[.int .i64 3, .int .i64 pa, .int .i64 pb, .string s]) hb2
     have hn2 : Below w.heap.size w w2 := (HN1.out.alloc HN1.out.size _).trans (hb2.mono (by have := HN1.out.size; simp; omega))
     have hsz2 := hn2.size
     have HBK2 := Lib.hid hbk2
     have HPG2 := Lib.hid hpg2
     have HN2 := Lib.hid hn2
     have HP1b := Lib.hid ((Off.of_below hb2 []).own (HP1.out.alloc _) (by simp))
     have HP2b := Lib.hid ((Off.of_below hb2 []).own (HP2.out.alloc _) (by simp))
     clear q3 lk hb2 hbk2 hpg2 hn2
     have hes : (s.extract 4 s.size).size = s.size - 4 := by
       show (s.extract 4 s.size).data.toList.length = _
       rw [show s.size = 4 + piece.length from HB1.out, HB3.out]; omega
     have HES := Lib.hid hes
     have hsl : vd.length + (s.extract 4 s.size).size ≤ 5000 := by omega
     obtain ⟨t, ht⟩ : ∃ t, t = s.extract 4 s.size := ⟨_, rfl⟩
     have HT := Lib.hid ht
     have hsl2 : vd.length + t.size ≤ 5000 := by rw [ht]; exact hsl
     clear hes hsl ht
     rcases hk2 with ⟨k1, k2, k3, k4⟩ | rfl
     all_goals
       go_wp2_with (first
         | (at_builtin; refine wpList_append_lies _ rfl (.tmp 51) (.tmp 53) 51 rfl w.heap.size 3 i0 (.int .i64 0) 1 8 Tryz.underlying51 hi iz0 iz1 iz2 rfl (by omega) (.slice A1 dn.length c1) dn.length (ints dn) rfl (HP1b.out.alloc _) ⟨w2.heap.size, 0, none⟩ 1 1 [.int .i64 no] rfl rfl (World.news_of_block (cs := #[.int .i64 no]) (heap_alloc_new w2 _)) (ints_one [no]) (by omega) (by unfold maxLen; omega) (by omega) (by simp; omega) (w2.heap.size + 1) (by simp) ?_; intro gg cap3 w3 hown3 hgrow3 hat3 hlt3; obtain ⟨hp23, hbk3, hpg3, hn3, hsz3⟩ := mid_own hgrow3 HP1b.out HP2b.out (by decide) HBK2.out (by decide) HPG2.out (by decide) HN2.out (Nat.le_refl _) hsz2; have q5 : w3.cell? ⟨w1.heap.size, 3, none⟩ = some (.string s) := hpg3.cell 3; have lk3 := hpg3.lt; have HBK3 := Lib.hid hbk3; have HPG3 := Lib.hid hpg3; have HI3 := Lib.hid hown3; have HP23 := Lib.hid hp23; have HN3 := Lib.hid hn3; clear hbk3 hpg3 hown3 hp23 hgrow3 hat3 hlt3 hn3; have hws : w.heap.size ≤ w3.heap.size := by omega)
         | (at_builtin; go_must (refine Lib.wpList_append_own_string _ rfl (.tmp 55) (.tmp 58) 36 9 rfl w.heap.size 5 i1 Tryz.underlying36 Tryz.underlying9 hi1 jz0 jz1 jz2 (.slice A2 vd.length c2) vd.length (u8s vd) rfl HP23.out (s.extract 4 s.size) rfl (by rw [← HT.out]; unfold maxLen; omega) (by rw [← HT.out]; omega) hws ?_); intro v' w4 hown4 hgrow4 hiff4; obtain ⟨hi4, hbk4, hpg4, hn4⟩ := end_own hgrow4 HP23.out HI3.out (by decide) HBK3.out (by decide) HPG3.out (by decide) HN3.out; have q6 : w4.cell? ⟨w1.heap.size, 3, none⟩ = some (.string s) := hpg4.cell 3; have lk4 := hpg4.lt; have HBK4 := Lib.hid hbk4; have HI4 := Lib.hid hi4; have HN4 := Lib.hid hn4; have HO4 := Lib.hid hown4; clear hi4 hbk4 hpg4 hn4 hown4 hgrow4 hiff4 q5 lk3)
         | fail)
       obtain ⟨A4, c4, hv4, hob⟩ := bytes_grown HO4.out (show (s.extract 4 s.size).data.toList = piece by rw [show s.size = 4 + piece.length from HB1.out]; exact HB3.out)
       have HALL := Lib.hid (show _ ∧ _ from ⟨ints_grown HI4.out, hob⟩)
       have HB4 := Lib.hid (HN4.out (Nat.le_refl _))
       have HPE := Lib.hid (show ps = (dn ++ [no]) ++ ns by rw [HPS.out]; simp)
       have HVE := Lib.hid (show v = (vd ++ piece) ++ rest' by rw [HVS.out, HV2.out])
       have HPL := Lib.hid (show dn.length + (ns.length + 1) = ps.length by rw [HPS.out]; simp)
       subst hv4
       clear hob
       go_roundw
       case rel => exact ⟨dn ++ [no], ns, vd ++ piece, rest', _, _, _, A4, c4, rfl, by rw [List.length_append]; rfl, rfl, HPE, HVE, HCH2, HALL.out.1, HALL.out.2, HBK4.out, HB4.out⟩
       case measure => have := HPL.out; show ps.length - (dn.length + 1) < ps.length - dn.length; omega
set_option maxHeartbeats 4000000 in
theorem value_ok {p : Store} (hp : Reads p) {w : World} {S : List Nat} {σ : Book} {k : Nat} (h : p.At w S σ k) (e : En) (he : Tr.EnOk σ e) :
   Calls Tryz.prog 122 #[.iface p.T p.v, .agg #[.string e.cell.key, .string e.cell.val, .int .i64 e.cell.over, .int .i64 e.cell.size, .int .i64 e.cell.child]] w (fun x w' => x = .returned (.tuple #[.string ⟨e.val.toArray⟩, .int .i64 0]) ∧ Below w.heap.size w w') := by
 obtain ⟨hr, hc⟩ := he
 have hsm := Nd.one_small (leaf := true) hr
 obtain ⟨⟨key, val, over, size, child⟩, ps, v⟩ := e
 simp only at hc hsm ⊢
 rcases hc with ⟨rfl, -, rfl⟩ | ⟨h0, hch, hv⟩
 · have ev : (⟨val.data.toList.toArray⟩ : ByteArray) = val := rfl
   rw [ev]
   clear hr hsm ev
   go_enter Tryz.func122, Tryz.ntmps122
   go_wp2_with fail
   go_ret2
   exact ⟨rfl, (Below.refl _ w).alloc (Nat.le_refl _) _⟩
 · have z0 : ((over : Int) == 0) = false := by rw [beq_eq_false_iff_ne]; omega
   have z0' : (over == 0) = false := by rw [beq_eq_false_iff_ne]; omega
   have HC := Lib.hid fun (W : World) (hb : Below w.heap.size w W) => chain_ok hp (hp.below h hb) ⟨key, val, over, size, child⟩ ps v hch hv (by simp only; omega) h0
   clear hr hsm hch hv h0 h
   go_enter Tryz.func122, Tryz.ntmps122
   go_wp2_with fail
   refine (HC.out _ ((Below.refl _ w).alloc (Nat.le_refl _) _)).mono ?_
   rintro x w1 ⟨hb1, A, c, rfl, -⟩
   have HN1 := Lib.hid (((Below.refl _ w).alloc (Nat.le_refl _) _).trans (hb1.mono (by simp)))
   clear hb1
   go_wp2_with fail
   go_ret2
   exact ⟨rfl, HN1.out⟩
theorem ints_cell {w : World} {B n c : Nat} {A : Option Addr} {l : List Nat} (h : w.ownsRow B 3 1 (.slice A n c) l.length (ints l)) (j : Nat) (hj : j < l.length) : ∃ g, A = some ⟨g, 0, none⟩ ∧ B ≤ g ∧ g < w.heap.size ∧ w.cell? ⟨g, j, none⟩ = some (.int .i64 (l[j] : Nat)) := by
 rcases h.2 with ⟨-, h2⟩ | ⟨g, cap, cur, h1, h2, h3, -⟩
 · omega
 · injection h1 with e1 e2 e3
   subst e1 e2 e3
   refine ⟨g, rfl, h2, lt_of_block h3, ?_⟩
   have := h.cells (g := g) rfl j (.int .i64 (l[j] : Nat)) (by unfold ints; rw [List.getElem?_map, List.getElem?_eq_getElem hj]; rfl)
   rwa [add_zero_addr] at this
theorem Tr.Moved.more {σ σj : Book} {ps : List Nat} {j : Nat} (h : Tr.Moved σ (ps.take j) σj []) (hj : j < ps.length) (hn : ps.Nodup) (hs : ∀ n ∈ ps, σ n ≠ none) : σj ps[j] ≠ none ∧ Tr.Moved σ (ps.take (j + 1)) (Tr.upd σj ps[j] none) [] := by
 have e : ps = ps.take (j + 1) ++ ps.drop (j + 1) := (List.take_append_drop (j + 1) ps).symm
 have e2 : ps.take (j + 1) = ps.take j ++ [ps[j]] := List.take_succ_eq_append_getElem hj
 have h1 : (ps.take j ++ [ps[j]]).Nodup := by
   rw [e] at hn
   have := (List.nodup_append.1 hn).1
   rwa [e2] at this
 have h2 : ps[j] ∉ ps.take j := fun hm => (List.nodup_append.1 h1).2.2 _ hm _ (by simp) rfl
 have h3 := hs _ (List.getElem_mem hj)
 refine ⟨by rw [h.keep _ h2 h3]; exact h3, ?_⟩
 rw [e2]
 have f1 := h.frame (R := [ps[j]]) (fun n hn => by rw [List.mem_singleton] at hn; subst hn; exact h3) (by simp) (fun n hn => by rw [List.mem_singleton] at hn; subst hn; exact h2)
 exact f1.trans (Tr.Moved.drop σj ps[j])
set_option maxHeartbeats 8000000 in
theorem release_ok {p : Store} (hp : Serves p) {w : World} {S : List Nat} {σ : Book} {k : Nat} (h : p.At w S σ k) (e : En) (he : Tr.EnOk σ e) (hnd : e.pages.Nodup) :
   Calls Tryz.prog 108 #[.iface p.T p.v, .agg #[.string e.cell.key, .string e.cell.val, .int .i64 e.cell.over, .int .i64 e.cell.size, .int .i64 e.cell.child]] w (fun x w' => x = .returned (.int .i64 0) ∧ ∃ σ', Step p S w w' σ' k ∧ Tr.Moved σ e.pages σ' []) := by
 obtain ⟨hr, hc⟩ := id he
 have hsm := Nd.one_small (leaf := true) hr
 have hmem := fun n hn => (he.mem n hn).2.2
 obtain ⟨⟨key, val, over, size, child⟩, ps, v⟩ := e
 simp only at hc hsm hnd hmem ⊢
 rcases hc with ⟨rfl, rfl, rfl⟩ | ⟨h0, hch, hv⟩
 · have HA := Lib.hid h
   clear hr hsm h he
   go_enter Tryz.func108, Tryz.ntmps108
   go_wp2_with fail
   go_ret
   have hb : Below w.heap.size w (w.alloc (.cells #[.string key, .string val, .int .i64 0, .int .i64 size, .int .i64 child] 170)) := (Below.refl _ w).alloc (Nat.le_refl _) _
   exact ⟨rfl, σ, ⟨S, hp.below HA.out hb, Off.of_below hb S, Fresh.refl _ _⟩, Tr.Moved.refl (by simp) (by simp)⟩
 · have z0 : ((over : Int) == 0) = false := by rw [beq_eq_false_iff_ne]; omega
   have z0' : (over == 0) = false := by rw [beq_eq_false_iff_ne]; omega
   have HC := Lib.hid fun (W : World) (hb : Below w.heap.size w W) => chain_ok hp (hp.below h hb) ⟨key, val, over, size, child⟩ ps v hch hv (by simp only; omega) h0
   have hps : ps.length ≤ 4000 := by have := hch.len; omega
   obtain ⟨f, rv, -, hm, hen, hd⟩ := hp.drop
   have HD := Lib.hid hd
   have HA := Lib.hid h
   have HND := Lib.hid hnd
   have HMEM := Lib.hid hmem
   clear hr hsm hch hv h0 h hd he hnd hmem
   go_enter Tryz.func108, Tryz.ntmps108
   go_wp2_with fail
   refine (HC.out _ ((Below.refl _ w).alloc (Nat.le_refl _) _)).mono ?_
   rintro x w1 ⟨hb1, A, c, rfl, hown⟩
   have hn1 := ((Below.refl _ w).alloc (Nat.le_refl _) (.cells #[.string key, .string val, .int .i64 over, .int .i64 size, .int .i64 child] 170)).trans (hb1.mono (by simp))
   have HN1 := Lib.hid hn1
   have HOWN := Lib.hid (show w1.ownsRow w.heap.size 3 1 (.slice A ps.length c) ps.length (ints ps) from own_mono hown (by simp))
   have hcm : c ≤ 9223372036854775807 := by
     obtain ⟨A', c', hv', -, hm', -⟩ := own_slice hown
     injection hv' with _ _ e3
     unfold maxLen at hm'
     omega
   clear hb1 hn1 hown
   go_wp2_with fail
   go_loopw [26] (fun i wr => ∃ (j : Nat) (σj : Book) (Sj : List Nat), i = .int .i64 j ∧ j ≤ ps.length ∧ Tr.Moved σ (ps.take j) σj [] ∧ p.At wr Sj σj k ∧ Off S w1 wr ∧ Fresh w1 S Sj) (fun i _ => ps.length - (intOf i).toNat)
   case atStart => exact ⟨0, σ, S, rfl, Nat.zero_le _, Tr.Moved.refl (by simp) (by simp), hp.below HA.out HN1.out, Off.refl _ _, Fresh.refl _ _⟩
   case round =>
     obtain ⟨j, σj, Sj, rfl, hj, hmv, hat, hoff, hfr⟩ := hrel
     have HMV := Lib.hid hmv
     have HAT := Lib.hid hat
     have HOF := Lib.hid hoff
     have HFR := Lib.hid hfr
     by_cases hlt : j < ps.length
     · have z1 : decide ((j : Int) < (ps.length : Int)) = true := decide_eq_true (by omega)
       have hown : wr.ownsRow w.heap.size 3 1 (.slice A ps.length c) ps.length (ints ps) := Off.own hoff HOWN.out (fun g hg hs => by
         have h1 := (HOWN.out.lt g hg).1
         have h2 := hp.old HA.out g hs
         omega)
       obtain ⟨g, rfl, hg1, hg2, hq⟩ := ints_cell hown j hlt
       obtain ⟨hne, hmv2⟩ := hmv.more hlt HND.out HMEM.out
       have HDJ := Lib.hid (HD.out wr Sj σj k ps[j] hat hne)
       have HMV2 := Lib.hid hmv2
       obtain ⟨n, hn⟩ : ∃ n, n = ps[j] := ⟨_, rfl⟩
       rw [← hn] at HDJ HMV2 hq
       clear hmv hat hoff hfr hne hmv2 hown hn
       go_wp2_with fail
       refine HDJ.out.mono ?_
       rintro x w2 ⟨rfl, S2, hat2, hof2, hfr2⟩
       have HREL := Lib.hid (show Tr.Moved σ (ps.take (j + 1)) (Tr.upd σj n none) [] ∧ p.At w2 S2 (Tr.upd σj n none) k ∧ Off S w1 w2 ∧ Fresh w1 S S2 from ⟨HMV2.out, hat2, HOF.out.then hof2 HFR.out, HFR.out.trans hfr2 HOF.out.size⟩)
       clear hat2 hof2 hfr2
       go_wp2_with fail
       go_roundw
       case rel => first | exact ⟨j + 1, _, S2, by go_num, by omega, HREL.out⟩ | ((repeat apply Exists.intro); exact ⟨⟨j + 1, _, S2, by go_num, by omega, HREL.out⟩, rfl⟩)
       case measure => simp [intOf]; omega
     · have z1 : decide ((j : Int) < (ps.length : Int)) = false := decide_eq_false (by omega)
       obtain rfl : j = ps.length := by omega
       rw [List.take_length] at HMV
       have HEND := Lib.hid (show Step p S w wr σj k from ⟨Sj, hat, (Off.of_below HN1.out S).trans hoff, hfr.mono HN1.out.size⟩)
       clear hmv hat hoff hfr
       go_wp2_with fail
       go_ret
       exact ⟨rfl, σj, HEND.out, HMV.out⟩
end Go.Proofs.YtjbcbnemdhbhbaaGreatDoor

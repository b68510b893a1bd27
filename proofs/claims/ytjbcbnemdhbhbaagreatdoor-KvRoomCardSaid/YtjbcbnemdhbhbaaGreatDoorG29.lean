import Derived.Test.YtjbcbnemdhbhbaaGreatDoorG28
import Derived.Test.YtjbcbnemdhbhbaaGreatDoorG17
import Derived.Test.YtjbcbnemdhbhbaaGreatDoorG12
namespace Go.Proofs.YtjbcbnemdhbhbaaGreatDoor
open Go.RowKit
set_option maxRecDepth 100000
set_option linter.unusedVariables false
set_option linter.unusedSimpArgs false
theorem flatF_sing (c : Nat × Nat) : flatF [c] = frV c := by simp [flatF]
def TellsFO (B : Nat) (v : Value) (l : List (Nat × Nat)) (w : World) (e : Ending) (w' : World) : Prop :=
 ∃ (S : List Nat) (A : Option Addr) (c : Nat), (∀ g ∈ S, v.ownBlock = some g) ∧ Off S w w' ∧ e = .returned (.slice A l.length c) ∧ FOwn w' B (.slice A l.length c) l ∧ ∀ g, Value.ownBlock (.slice A l.length c) = some g → v.ownBlock = some g ∨ w.heap.size ≤ g
def insF (l : List (Nat × Nat)) (i : Nat) (c : Nat × Nat) : List (Nat × Nat) := l.take i ++ ([c] ++ l.drop i)
theorem insF_len (l : List (Nat × Nat)) (i : Nat) (c : Nat × Nat) (h : i ≤ l.length) : (insF l i c).length = l.length + 1 := by
 unfold insF; rw [List.length_append, List.length_append, List.length_take, List.length_drop]; simp; omega
set_option maxHeartbeats 4000000 in
theorem finsert_end (A : Option Addr) (cap B b : Nat) (l : List (Nat × Nat)) (c : Nat × Nat) (w : World) (h : FOwn w B (.slice A l.length cap) l) (hB : B ≤ w.heap.size) (hl : l.length ≤ 10000) (hc : Bk w b 62 #[.int .i64 c.1, .int .i64 c.2]) :
   Calls Tryz.prog 217 #[.slice A l.length cap, .int .i64 l.length, .slice (some ⟨b, 0, none⟩) 1 1] w (TellsFO B (.slice A l.length cap) (l ++ [c]) w) := by
 obtain ⟨i0, hi, iz0, iz1, iz2⟩ := info_parts info_free
 obtain ⟨hcr, -, hcap, hcm, -⟩ := FOwn.row h
 have hcm2 : cap ≤ 9223372036854775807 := by unfold maxLen at hcm; omega
 have HO := Lib.hid h
 have HNW := Lib.hid (show ∀ (j : Nat) (u : Value), (flatF [c])[j]? = some u → w.cell? ((⟨b, 0, none⟩ : Addr).add j) = some u from fun j u hu => by
   rw [addr_add, Nat.zero_add, hc.cell j, ← Array.getElem?_toList]
   rw [flatF_sing] at hu
   exact hu)
 have hbl := hc.lt
 clear h hcr hcm hc
 go_enter Tryz.func217, Tryz.ntmps217
 go_wp2_with (at_builtin; refine wpList_append_lies _ rfl (.tmp 23) (.tmp 24) 49 rfl B 62 i0 _ 2 16 Tryz.underlying49 hi iz0 iz1 iz2 rfl (by omega) (.slice A l.length cap) l.length (flatF l) rfl HO.out ⟨b, 0, none⟩ 1 1 (flatF [c]) rfl (flatF_len [c]) HNW.out (flatF_one [c]) (by omega) (by unfold maxLen; omega) (by omega) hB w.heap.size rfl ?_; intro gg cap3 w3 hown3 hgrow3 hat3 hlt3)
 all_goals
   have HO3 : FOwn w3 B (.slice (some ⟨gg, 0, none⟩) (l ++ [c]).length cap3) (l ++ [c]) := by
     unfold FOwn
     rw [flatF_app, List.length_append]
     exact hown3
   have hob : ∀ n m, (Value.slice A n m).ownBlock = (Value.slice A 0 0).ownBlock := fun n m => by cases A <;> rfl
   rw [hob] at hgrow3 hat3
   have hoff := (Off.refl (Value.slice A 0 0).ownBlock.toList w).grown hgrow3 (fun g hg => .inl (by rw [Option.mem_toList]; exact hg))
   go_ret
   exact ⟨_, _, cap3, fun g hg => by rw [Option.mem_toList] at hg; rw [hob]; exact hg, hoff, by rw [List.length_append]; rfl, HO3, fun g hg => by
     have e : gg = g := by simpa [Value.ownBlock] using hg
     subst e
     rw [hob]
     rcases hat3 with h9 | h9
     · exact .inl h9
     · exact .inr (by omega)⟩
theorem fzeros_run (g i n : Nat) (L : List Value) (hL : L.length = i * 2) (hin : i ≤ n) (hn : n ≤ 10000) (W : World) (hW : ∀ j u, L[j]? = some u → W.cell? ⟨g, j, none⟩ = some u) :
   ∃ (c : Nat) (cur : Array Value) (W1 : World), n + 1 ≤ c ∧ c ≤ maxLen ∧ cur.size = c * 2 ∧ cur.toList.take (i * 2) = L ∧ Bk W1 W.heap.size 62 cur ∧ Below W.heap.size W W1 ∧ W1.heap.size = W.heap.size + 1 ∧
     (Builtin.append_ #[49, 3] 49 #[.slice (some ⟨g, 0, none⟩) i n, .int .i64 ((n : Int) + 1 - (i : Int))]).run Tryz.prog W = .ok (.slice (some ⟨W.heap.size, 0, none⟩) (n + 1) c) W1 := by
 obtain ⟨i0, hi, iz0, iz1, iz2⟩ := info_parts info_free
 have he : i + (n + 1 - i) = n + 1 := by omega
 have hbd := nextslicecap_le_wide (need := i + (n + 1 - i)) (old := n) (by omega)
 have hf := run_firstCells_some (P := Tryz.prog) W.drew 2 i ⟨g, 0, none⟩ i n L hL (fun j u hu => by rw [addr_add, Nat.zero_add]; exact hW j u hu)
 have h := Lib.run_append_grow_zeros (P := Tryz.prog) W 49 3 49 62 i0 _ .i64 .i64 Tryz.underlying49 Tryz.underlying3 hi iz0 (some ⟨g, 0, none⟩) i n L (by rw [iz1]; exact hf) (n + 1 - i) (by omega) (by rw [iz1]; omega) (by omega) (by omega) (by rw [iz2]; omega) (by rw [iz2]; have := Nat.mul_le_mul_right 16 hbd; omega)
 rw [he, show ((n + 1 - i : Nat) : Int) = (n : Int) + 1 - (i : Int) by omega] at h
 have hge := grownCap_ge W (n + 1) n 62
 refine ⟨_, _, _, hge, grownCap_le_maxLen W (n + 1) n _ (by unfold maxLen; omega), ?_, ?_, heap_alloc_new W.drew _, (Below.refl _ W).drew.alloc (Nat.le_refl _) _, by simp, h⟩
 · have e5 : (Value.agg #[.int .i64 0, .int .i64 0]).cells.size = 2 := rfl
   simp only [Array.size_append, size_zeroCells, e5, List.size_toArray, hL]
   omega
 · rw [Array.toList_append, Array.toList_append, List.append_assoc, List.take_append_of_le_length (by simp [hL]), List.take_of_length_le (by simp [hL])]
theorem fcopy_cells (g o dLen dCap : Nat) (a : Addr) (sLen sCap : Nat) (cur : Array Value) (cs : List Value) (W : World) (hg : Bk W g 62 cur) (hn : cs.length = Nat.min sLen dLen * 2) (hsrc : ∀ j v, cs[j]? = some v → W.cell? (a.add j) = some v) (hfit : o + cs.length ≤ cur.size) (h1 : ∀ v ∈ cs, v.oneCell' = true) :
   ∃ (v : Value) (W1 : World), Bk W1 g 62 (cur.toList.take o ++ cs ++ cur.toList.drop (o + cs.length)).toArray ∧ Off [g] W W1 ∧ W1.heap.size = W.heap.size ∧
     (Builtin.copy_ #[49, 49] 3 #[.slice (some ⟨g, o, none⟩) dLen dCap, .slice (some a) sLen sCap]).run Tryz.prog W = .ok v W1 := by
 have hs : (Tryz.prog.info? 62).map (·.size) = some 2 := by
   obtain ⟨i0, hi, iz0, iz1, iz2⟩ := info_parts info_free
   rw [hi]; simp [iz1]
 have h := run_copy_wide (P := Tryz.prog) W 49 49 3 62 2 g o dLen dCap a sLen sCap cur 62 cs Tryz.underlying49 hs hg hn hsrc hfit h1
 refine ⟨_, _, setRow_heap W g cur _ _ _ hg, ⟨rfl, rfl, rfl, by simp, fun k _ hk => setRow_other W g k _ (fun e => hk (by simp [e]))⟩, by simp, h⟩
theorem fbk_cells {W : World} {b : Nat} {c : Nat × Nat} (hc : Bk W b 62 #[.int .i64 c.1, .int .i64 c.2]) : ∀ j v, (frV c)[j]? = some v → W.cell? ((⟨b, 0, none⟩ : Addr).add j) = some v := fun j v hv => by
 rw [addr_add, Nat.zero_add, hc.cell j, ← Array.getElem?_toList]
 exact hv
theorem frv_one (c : Nat × Nat) : ∀ v ∈ (frV c), v.oneCell' = true := by
 intro v hv
 simp [frV] at hv
 rcases hv with rfl | rfl <;> rfl
theorem insF_flat (l : List (Nat × Nat)) (i : Nat) (c : Nat × Nat) : flatF (insF l i c) = flatF (l.take i) ++ ((frV c) ++ flatF (l.drop i)) := by
 unfold insF
 rw [flatF_app, flatF_app, flatF_sing]
theorem fdrop_cells {W : World} {g i n : Nat} {l : List (Nat × Nat)} (hF : ∀ (j : Nat) (u : Value), (flatF l)[j]? = some u → W.cell? ⟨g, j, none⟩ = some u) (hi : i ≤ l.length) : ∀ j v, (flatF (l.drop i))[j]? = some v → W.cell? ((⟨g, i * 2, none⟩ : Addr).add j) = some v := fun j v hv => by
 rw [addr_add]
 have e : flatF l = flatF (l.take i) ++ flatF (l.drop i) := by rw [← flatF_app, List.take_append_drop]
 have hl : (flatF (l.take i)).length = i * 2 := by rw [flatF_len, List.length_take]; omega
 refine hF _ _ ?_
 rw [e, List.getElem?_append_right (by omega), hl]
 rwa [show i * 2 + j - i * 2 = j by omega]
set_option maxHeartbeats 8000000 in
theorem finsert_grow (g B b i : Nat) (l : List (Nat × Nat)) (c : Nat × Nat) (w : World) (h : FOwn w B (.slice (some ⟨g, 0, none⟩) l.length l.length) l) (hB : B ≤ w.heap.size) (hi : i < l.length) (hl : l.length ≤ 10000) (hc : Bk w b 62 #[.int .i64 c.1, .int .i64 c.2]) :
   Calls Tryz.prog 217 #[.slice (some ⟨g, 0, none⟩) l.length l.length, .int .i64 i, .slice (some ⟨b, 0, none⟩) 1 1] w (TellsFO B (.slice (some ⟨g, 0, none⟩) l.length l.length) (insF l i c) w) := by
 obtain ⟨hcr, -, -, -, hA9, -⟩ := FOwn.row h
 have hF : ∀ (j : Nat) (u : Value), (flatF l)[j]? = some u → w.cell? ⟨g, j, none⟩ = some u := fun j u hu => by
   obtain ⟨b', o', hA, hb, hc9⟩ := hcr j u hu
   injection hA with hA
   injection hA with e1 e2
   subst e1 e2
   rwa [Nat.zero_add] at hc9
 have hgl : g < w.heap.size := (hA9 _ rfl).2.2
 have hS9 := trivial
 have htk : (flatF (l.take i)).length = i * 2 := by rw [flatF_len, List.length_take]; omega
 have hdk : (flatF (l.drop i)).length = (l.length - i) * 2 := by rw [flatF_len, List.length_drop]
 obtain ⟨k, cur, W1, hk1, hk2, hk3, hk4, hb1, hB1, hs1, hrun⟩ := fzeros_run g i l.length (flatF (l.take i)) htk (by omega) hl w (fun j u hu => by
   have hlt : j < (flatF (l.take i)).length := (List.getElem?_eq_some_iff.1 hu).1
   have : (flatF l)[j]? = some u := by
     rw [← List.take_append_drop i l, flatF_app, List.getElem?_append_left hlt]; exact hu
   exact hF j u this)
 obtain ⟨v2, W2, hb2, hO2, hs2, hrun2⟩ := fcopy_cells w.heap.size (i * 2) (l.length + 1 - i) (k - i) ⟨b, 0, none⟩ 1 1 cur (frV c) W1 hb1 (by rw [show Nat.min 1 (l.length + 1 - i) = 1 by show min 1 _ = 1; omega]; rfl) (fbk_cells (bk_below hc hB1)) (by rw [hk3]; show i * 2 + 2 ≤ _; omega) (frv_one c)
 have hF2 : ∀ (j : Nat) (u : Value), (flatF l)[j]? = some u → W2.drew.cell? ⟨g, j, none⟩ = some u := fun j u hu => (hO2.cell (p := ⟨g, j, none⟩) (by show g < _; omega) (by simp; omega)).trans ((hB1.cell (p := ⟨g, j, none⟩) hgl).trans (hF j u hu))
 obtain ⟨v3, W3, hb3, hO3, hs3, hrun3⟩ := fcopy_cells w.heap.size ((i + 1) * 2) (l.length - i) (k - (i + 1)) ⟨g, i * 2, none⟩ (l.length - i) (l.length - i) _ (flatF (l.drop i)) W2.drew hb2.drew (by rw [hdk, show Nat.min (l.length - i) (l.length - i) = l.length - i by show min _ _ = _; omega]) (fdrop_cells (n := l.length) hF2 (by omega)) (by simp; rw [hdk, hk3]; show _ ≤ _; have : (frV c).length = 2 := rfl; omega) (flatF_one _)
 have HRUN := Lib.hid hrun
 have HRUN2 := Lib.hid hrun2
 have HRUN3 := Lib.hid hrun3
 have hkb : k ≤ 9223372036854775807 := by unfold maxLen at hk2; omega
 have hw1 : IntKind.i64.wrap ((l.length : Int) + 1 - (i : Int)) = (l.length : Int) + 1 - (i : Int) := IntWalk.i64_in _ (by omega)
 have z1 : ((i : Int) == (l.length : Int)) = false := by rw [beq_eq_false_iff_ne]; omega
 have z2 : (i == l.length) = false := by rw [beq_eq_false_iff_ne]; omega
 have z3 : ¬ (k = i) := by omega
 have z4 : ¬ (l.length = i) := by omega
 have z5 : (i : Int) ≤ (l.length : Int) + 1 := by omega
 have z6 : i ≤ l.length + 1 := by omega
 have z7 : ¬ (k = i + 1) := by omega
 have hw2 : IntKind.i64.wrap ((i : Int) + 1) = (i : Int) + 1 := IntWalk.i64_in _ (by omega)
 have z8 : (i : Int) + 1 ≤ (l.length : Int) + 1 := by omega
 have z9 : (0 : Int) ≤ (i : Int) + 1 := by omega
 have z10 : ((i : Int) + 1).toNat = i + 1 := by omega
 have z11 : i + 1 ≤ l.length + 1 := by omega
 have z12 : (i : Int) ≤ (l.length : Int) := by omega
 have HEND := Lib.hid (show FOwn W3 B (.slice (some ⟨w.heap.size, 0, none⟩) (insF l i c).length k) (insF l i c) by
   refine ⟨by rw [flatF_len], .inr ⟨w.heap.size, k, _, rfl, hB, hb3, by rw [insF_len _ _ _ (by omega)]; omega, hk2, ?_, ?_⟩⟩
   · simp; rw [hdk, hk3]; have : (frV c).length = 2 := rfl; omega
   · rw [insF_flat, insF_len _ _ _ (by omega)]
     have h5 : (frV c).length = 2 := rfl
     have ht2 : (cur.toList.take (i * 2) ++ (frV c)).length = (i + 1) * 2 := by rw [List.length_append, hk4, htk, h5]; omega
     have e1 : (cur.toList.take (i * 2) ++ (frV c) ++ cur.toList.drop (i * 2 + (frV c).length)).toArray.toList.take ((i + 1) * 2) = cur.toList.take (i * 2) ++ (frV c) := by
       show List.take _ (_ ++ _ ++ _) = _
       rw [← ht2]
       exact List.take_left
     rw [e1, hk4]
     show List.take _ ((flatF (l.take i) ++ (frV c) ++ flatF (l.drop i) ++ _)) = _
     rw [show flatF (l.take i) ++ ((frV c) ++ flatF (l.drop i)) = flatF (l.take i) ++ (frV c) ++ flatF (l.drop i) by rw [List.append_assoc]]
     rw [show (l.length + 1) * 2 = (flatF (l.take i) ++ (frV c) ++ flatF (l.drop i)).length by rw [List.length_append, List.length_append, htk, h5, hdk]; omega]
     exact List.take_left)
 have HOF := Lib.hid (show Off [] w W3 from (((Off.of_below hB1 []).then hO2 (fun x hx => .inr (by simp at hx; omega))).drew).then hO3 (fun x hx => .inr (by simp at hx; omega)))
 clear h hcr hF hS9 hrun hrun2 hrun3 hk2 hk3 hk4 hc hb1 hb2 hb3 hO2 hO3 hF2 htk hdk hB1 hs1 hs2 hs3
 go_enter Tryz.func217, Tryz.ntmps217
 go_upto_region 10 with (at_builtin; refine wpList_append_run rfl (.tmp 34) (.tmp 39) 49 3 rfl _ _ _ _ rfl rfl HRUN.out ?_)
 go_upto_region 11 with (refine wpList_copy_run (o := ⟨some 45, _, _, _, _, _⟩) rfl (.tmp 43) (.tmp 44) 49 49 rfl _ _ _ _ rfl rfl HRUN2.out ?_)
 go_still_tail 8, (by kernel_rfl)
 change wpList _ _ _ _ _ W2.drew
 refine wpList_copy_run rfl (.tmp 50) (.tmp 53) 49 49 rfl _ _ _ _ rfl rfl HRUN3.out ?_
 go_wp2_with fail
 go_ret
 exact ⟨[], _, k, by simp, HOF.out, by rw [insF_len _ _ _ (by omega)]; rfl, HEND.out, fun x hx => .inr (Nat.le_of_eq (by simpa [Value.ownBlock] using hx))⟩
set_option maxHeartbeats 8000000 in
theorem finsert_place (g B b i cap : Nat) (l : List (Nat × Nat)) (c : Nat × Nat) (w : World) (h : FOwn w B (.slice (some ⟨g, 0, none⟩) l.length cap) l) (hB : B ≤ w.heap.size) (hi : i < l.length) (hc1 : l.length < cap) (hl : l.length ≤ 10000) (hc : Bk w b 62 #[.int .i64 c.1, .int .i64 c.2]) (hgb : g ≠ b) :
   Calls Tryz.prog 217 #[.slice (some ⟨g, 0, none⟩) l.length cap, .int .i64 i, .slice (some ⟨b, 0, none⟩) 1 1] w (TellsFO B (.slice (some ⟨g, 0, none⟩) l.length cap) (insF l i c) w) := by
 have hF : ∀ (j : Nat) (u : Value), (flatF l)[j]? = some u → w.cell? ⟨g, j, none⟩ = some u := fun j u hu => by
   obtain ⟨b', o', hA, hb, hc9⟩ := (FOwn.row h).1 j u hu
   injection hA with hA
   injection hA with e1 e2
   subst e1 e2
   rwa [Nat.zero_add] at hc9
 have htk : (flatF (l.take i)).length = i * 2 := by rw [flatF_len, List.length_take]; omega
 have hdk : (flatF (l.drop i)).length = (l.length - i) * 2 := by rw [flatF_len, List.length_drop]
 obtain ⟨-, hcase⟩ := id h
 rcases hcase with ⟨h0, -⟩ | ⟨g', cap', cur, h0, hBg, hbk, hn9, hcm, hcs, htake⟩
 · cases h0
 injection h0 with e1 e2 e3
 injection e1 with e1
 injection e1 with e1 _
 subst e1 e3
 clear e2
 have hgl := lt_of_block hbk
 have h5 : (frV c).length = 2 := rfl
 have hkl : (flatF l).length = l.length * 2 := flatF_len l
 obtain ⟨v1, W1, hb1, hO1, hs1, hrun1⟩ := fcopy_cells g ((i + 1) * 2) (l.length - i) (cap - (i + 1)) ⟨g, i * 2, none⟩ (l.length + 1 - i) (cap - i) cur (flatF (l.drop i)) w.drew (Bk.drew hbk) (by rw [hdk, show Nat.min (l.length + 1 - i) (l.length - i) = l.length - i by show min _ _ = _; omega]) (fdrop_cells (n := l.length) (W := w.drew) hF (by omega)) (by rw [hdk, hcs]; omega) (flatF_one _)
 obtain ⟨v2, W2, hb2, hO2, hs2, hrun2⟩ := fcopy_cells g (i * 2) (l.length + 1 - i) (cap - i) ⟨b, 0, none⟩ 1 1 _ (frV c) W1 hb1 (by rw [show Nat.min 1 (l.length + 1 - i) = 1 by show min 1 _ = 1; omega]; rfl) (fbk_cells (hO1.bk hc.drew (by simp; exact fun e => hgb e.symm))) (by simp; rw [hdk, hcs, h5]; omega) (frv_one c)
 have HEND := Lib.hid (show FOwn W2 B (.slice (some ⟨g, 0, none⟩) (insF l i c).length cap) (insF l i c) by
   refine ⟨by rw [flatF_len], .inr ⟨g, cap, _, rfl, hBg, hb2, by rw [insF_len _ _ _ (by omega)]; omega, hcm, ?_, ?_⟩⟩
   · simp; rw [hdk, hcs, h5]; omega
   · rw [insF_flat, insF_len _ _ _ (by omega)]
     have e0 : cur.toList.length = cap * 2 := by simp [hcs]
     have e1 : (cur.toList.take ((i + 1) * 2) ++ flatF (l.drop i) ++ cur.toList.drop ((i + 1) * 2 + (flatF (l.drop i)).length)).toArray.toList = cur.toList.take ((i + 1) * 2) ++ (flatF (l.drop i) ++ cur.toList.drop ((i + 1) * 2 + (flatF (l.drop i)).length)) := by simp
     have e2 : (cur.toList.take ((i + 1) * 2)).length = (i + 1) * 2 := by rw [List.length_take, e0]; omega
     have e3 : (cur.toList.take ((i + 1) * 2)).take (i * 2) = flatF (l.take i) := by
       rw [List.take_take, show min (i * 2) ((i + 1) * 2) = i * 2 by omega]
       have e4 : cur.toList.take (i * 2) = (cur.toList.take (l.length * 2)).take (i * 2) := by rw [List.take_take, show min (i * 2) (l.length * 2) = i * 2 by omega]
       rw [e4, htake]
       have e5 : flatF l = flatF (l.take i) ++ flatF (l.drop i) := by rw [← flatF_app, List.take_append_drop]
       rw [e5]
       exact List.take_left' htk
     rw [e1]
     obtain ⟨Z, hZ⟩ : ∃ Z, Z = cur.toList.take ((i + 1) * 2) := ⟨_, rfl⟩
     obtain ⟨Y, hY⟩ : ∃ Y, Y = flatF (l.drop i) ++ cur.toList.drop ((i + 1) * 2 + (flatF (l.drop i)).length) := ⟨_, rfl⟩
     rw [← hZ] at e2 e3 ⊢
     rw [← hY]
     have e6 : (Z ++ Y).take (i * 2) = flatF (l.take i) := by rw [List.take_append_of_le_length (by rw [e2]; omega), e3]
     have e7 : (Z ++ Y).drop (i * 2 + (frV c).length) = Y := by rw [h5, show i * 2 + 2 = (i + 1) * 2 by omega, List.drop_left' e2]
     rw [e6, e7, hY]
     show List.take _ (flatF (l.take i) ++ (frV c) ++ (flatF (l.drop i) ++ _)) = _
     rw [← List.append_assoc (flatF (l.take i)), ← List.append_assoc (flatF (l.take i) ++ (frV c))]
     rw [show (l.length + 1) * 2 = (flatF (l.take i) ++ (frV c) ++ flatF (l.drop i)).length by rw [List.length_append, List.length_append, htk, h5, hdk]; omega]
     exact List.take_left)
 have HOF := Lib.hid (show Off [g] w W2 from ((Off.refl [g] w).drew.trans hO1).trans hO2)
 have HR1 := Lib.hid hrun1
 have HR2 := Lib.hid hrun2
 have hov : ∀ lb cb, (callFunc 249 #[.slice (some ⟨b, 0, none⟩) 1 1, .slice (some ⟨g, (i + 1) * 2, none⟩) lb cb]).run Tryz.prog w = .ok (.value (.bool false)) w := fun lb cb => by
   rw [run_callFunc_extern Tryz.func249 (by kernel_rfl) (by kernel_rfl) (by kernel_rfl) (e := Extern.SlicesOverlaps.overlaps #[49, 49] #[4]) (by kernel_rfl),
     Lib.run_overlaps_apart w 49 4 62 Tryz.underlying49 2 (fun _ => by kernel_rfl) ⟨b, 0, none⟩ ⟨g, (i + 1) * 2, none⟩ 1 1 lb cb (fun e => hgb e.symm) 62 62 2 cur.size (by unfold World.shape?; rw [show w.heap[b]? = _ from hc]; rfl) (by unfold World.shape?; rw [hbk]) (by rw [hcs]; omega) (hc.frozen 0) (hc.frozen 2)]
   rfl
 have hcb : cap ≤ 9223372036854775807 := by unfold maxLen at hcm; omega
 have z1 : ((i : Int) == (l.length : Int)) = false := by rw [beq_eq_false_iff_ne]; omega
 have z2 : (i == l.length) = false := by rw [beq_eq_false_iff_ne]; omega
 have z3 : ¬ (cap = i) := by omega
 have z4 : decide ((cap : Int) < (l.length : Int) + 1) = false := decide_eq_false (by omega)
 have hw2 : IntKind.i64.wrap ((i : Int) + 1) = (i : Int) + 1 := IntWalk.i64_in _ (by omega)
 have z5 : (l.length : Int) + 1 ≤ (cap : Int) := by omega
 have z6 : l.length + 1 ≤ cap := by omega
 have z7 : ¬ (cap = i + 1) := by omega
 have z8 : (i : Int) + 1 ≤ (l.length : Int) + 1 := by omega
 have z9 : (0 : Int) ≤ (i : Int) + 1 := by omega
 have z10 : ((i : Int) + 1).toNat = i + 1 := by omega
 have z11 : i + 1 ≤ l.length + 1 := by omega
 have z12 : (i : Int) ≤ (l.length : Int) + 1 := by omega
 have z13 : (l.length : Int) ≤ (cap : Int) := by omega
 have HOV := Lib.hid hov
 have hovv := hov (l.length - i) (cap - (i + 1))
 clear h hF hbk hcs htake hcm hc htk hdk hkl h5 hb1 hO1 hs1 hrun1 hb2 hO2 hs2 hrun2 hov
 go_enter Tryz.func217, Tryz.ntmps217
 go_upto_region 15 with fail
 go_still_tail 8, (by kernel_rfl)
 change wpList _ _ _ _ _ w.drew
 refine wpList_copy_run rfl (.tmp 73) (.tmp 76) 49 49 rfl _ _ _ _ rfl rfl HR1.out ?_
 go_upto_region 17 with (refine wpList_copy_run (o := ⟨some 82, _, _, _, _, _⟩) rfl (.tmp 80) (.tmp 81) 49 49 rfl _ _ _ _ rfl rfl HR2.out ?_)
 go_wp2_with fail
 go_ret
 exact ⟨[g], _, cap, by simp [Value.ownBlock], HOF.out, by rw [insF_len _ _ _ (by omega)]; rfl, HEND.out, fun x hx => .inl hx⟩
theorem finsert_any (A : Option Addr) (B b i cap : Nat) (l : List (Nat × Nat)) (c : Nat × Nat) (w : World) (h : FOwn w B (.slice A l.length cap) l) (hB : B ≤ w.heap.size) (hi : i ≤ l.length) (hl : l.length ≤ 10000) (hc : Bk w b 62 #[.int .i64 c.1, .int .i64 c.2]) (hgb : Value.ownBlock (.slice A l.length cap) ≠ some b) :
   Calls Tryz.prog 217 #[.slice A l.length cap, .int .i64 i, .slice (some ⟨b, 0, none⟩) 1 1] w (TellsFO B (.slice A l.length cap) (insF l i c) w) := by
 by_cases he : i = l.length
 · subst he
   have e : insF l l.length c = l ++ [c] := by unfold insF; simp
   rw [e]
   exact finsert_end A cap B b l c w h hB hl hc
 · obtain ⟨hcr, -, h1, -, hA9, -⟩ := FOwn.row h
   obtain ⟨g, o9, rfl, -, -⟩ := hcr.at 0 (by omega)
   have h8 := (hA9 _ rfl).1
   injection h8 with _ h8
   subst h8
   have hne : g ≠ b := fun e => hgb (by rw [e]; rfl)
   by_cases hcap : cap = l.length
   · subst hcap
     exact finsert_grow g B b i l c w h hB (by omega) hl hc
   · exact finsert_place g B b i cap l c w h hB (by omega) (by omega) hl hc hne
def CloneF (l : List (Nat × Nat)) (w : World) (e : Ending) (w' : World) : Prop := Below w.heap.size w w' ∧ ∃ (A : Option Addr) (c : Nat), e = .returned (.slice A l.length c) ∧ FOwn w' w.heap.size (.slice A l.length c) l
theorem feql_none (W : World) : (binOp .eql 49 (.slice none 0 0) (.slice none 0 0)).run Tryz.prog W = .ok (.bool true) W := run_eql_nil_slice W 49 62 none 0 0 0 0 Tryz.underlying49
theorem FOwn.nil (w : World) (B : Nat) : FOwn w B (.slice none 0 0) [] := World.ownsRow_nil _ _ _ _
set_option maxHeartbeats 4000000 in
theorem fclone_any {w : World} {A : Option Addr} {c : Nat} {l : List (Nat × Nat)} (h : FRow w A l) (h1 : l.length ≤ c) (h2 : c ≤ maxLen) (hl : l.length ≤ 10000) (hc0 : A = none → c = 0) : Calls Tryz.prog 102 #[.slice A l.length c] w (CloneF l w) := by
 obtain ⟨i0, hi, iz0, iz1, iz2⟩ := info_parts info_free
 have hcm : c ≤ 9223372036854775807 := by unfold maxLen at h2; omega
 cases A with
 | none =>
   have hl0 : l = [] := by
     cases l with
     | nil => rfl
     | cons x t => obtain ⟨b, o, hA, -⟩ := h.at 0 (by simp); cases hA
   subst hl0
   obtain rfl := hc0 rfl
   have heq : ∀ W : World, (binOp .eql 49 (.slice none 0 0) (.slice none 0 0)).run Tryz.prog W = .ok (.bool true) W := fun W => feql_none W
   go_enter Tryz.func102, Tryz.ntmps102
   go_wp2_with fail
   go_ret
   exact ⟨Below.refl _ _, none, 0, rfl, FOwn.nil _ _⟩
 | some ad =>
   have hnil : ∀ W, Sem.run Tryz.prog (binOp BinOp.eql 49 (.slice (some ad) l.length c) (.slice none 0 0)) W = .ok (.bool false) W := fun W => by kernel_rfl
   have HLIT := Lib.hid (show (w.alloc (.cells #[] 62)).ownsRow w.heap.size 62 2 (.slice (some ⟨w.heap.size, 0, none⟩) 0 0) 0 [] from World.ownsRow_lit w #[] 0 (Nat.le_refl _) (Nat.zero_le _) rfl)
   have HNEW := Lib.hid (show ∀ a, some ad = some a → ∀ (j : Nat) (u : Value), (flatF l)[j]? = some u → (w.alloc (.cells #[] 62)).cell? (a.add j) = some u from fun a ha j u hu => by
     obtain ⟨b, o, hA, hb, hc⟩ := h j u hu
     rw [ha] at hA
     injection hA with hA
     subst hA
     rw [addr_add]
     exact (((Below.refl w.heap.size w).alloc (Nat.le_refl _) _).cell (p := ⟨b, o + j, none⟩) hb).trans hc)
   obtain ⟨n, hn⟩ : ∃ n, n = l.length := ⟨_, rfl⟩
   have HN := Lib.hid hn
   rw [← hn] at h1 hl hnil ⊢
   clear h hn
   go_enter Tryz.func102, Tryz.ntmps102
   go_wp2_with (at_builtin; refine wpList_append_k _ rfl (.tmp 5) (.tmp 6) 49 rfl w.heap.size 62 i0 _ 2 16 Tryz.underlying49 hi iz0 iz1 iz2 rfl (by omega) (.slice (some ⟨w.heap.size, 0, none⟩) 0 0) 0 [] rfl HLIT.out (some ad) n c (flatF l) rfl (by rw [HN.out]; exact flatF_len l) (fun hh => by cases hh) HNEW.out (flatF_one l) (by unfold maxLen; omega) (by omega) (by simp) ?_; intro A3 c3 w3 hown3 hgrow3)
   have HO3 := Lib.hid (show FOwn w3 w.heap.size (.slice A3 n c3) l by
     unfold FOwn
     rw [Nat.zero_add, List.nil_append] at hown3
     rw [← HN.out]
     exact hown3)
   have HN3 := Lib.hid (((Off.of_below ((Below.refl _ w).alloc (Nat.le_refl _) (.cells #[] 62)) []).grown hgrow3 (fun g hg => .inr (HLIT.out.lt g hg).1)).below (Nat.le_refl _) (by simp))
   clear hown3 hgrow3
   have hz : (0 : Nat) + n = n := Nat.zero_add n
   go_wp2_with fail
   go_ret
   exact ⟨HN3.out, A3, c3, by rw [← HN.out]; exact congrArg (fun k => Ending.returned (.slice A3 k c3)) (by omega), by rw [← HN.out]; exact HO3.out⟩
set_option maxHeartbeats 4000000 in
theorem fall_any {w : World} {f : Nat} {S : List Nat} {l : List (Nat × Nat)} (h : FL w f S l) (hl : l.length ≤ 10000) : Calls Tryz.prog 61 #[.pointer (some ⟨f, 0, none⟩)] w (CloneF l w) := by
 obtain ⟨⟨A, c, h1, h2, h3, h4, h5, h8⟩, h6, h7⟩ := h
 have c0 := (h1.cell 0).trans (flCells_zero A c l)
 have lf := h1.lt
 have HC := Lib.hid (fclone_any h2 h3 h4 hl h8)
 clear h1 h2 h5 h6 h7 h8 hl h3 h4
 go_enter Tryz.func61, Tryz.ntmps61
 go_wp2_with fail
 refine HC.out.mono ?_
 rintro e w1 ⟨hb, A3, c3, rfl, ho⟩
 have HB := Lib.hid hb
 have HO := Lib.hid ho
 clear hb ho
 go_wp2_with fail
 go_ret
 exact ⟨HB.out, A3, c3, rfl, HO.out⟩
def SearchF (n : Nat) (w : World) (e : Ending) (w' : World) : Prop := ∃ q : Bool, e = .returned (.tuple #[.int .i64 n, .bool q]) ∧ Below w.heap.size w w'
set_option maxHeartbeats 16000000 in
theorem fsearch_any {w : World} {A : Option Addr} {c : Nat} {l : List (Nat × Nat)} (h : FRow w A l) (hs : Fr.Sorted l) (hl : l.length ≤ 1000) (x : Nat × Nat) :
   Calls Tryz.prog 215 #[.slice A l.length c, .agg #[.int .i64 x.1, .int .i64 x.2], .func (.func 216) #[] #[]] w (SearchF (Fr.spot l x) w) := by
 have HO := Lib.hid fun (a b : Nat × Nat) (W : World) => forder_any a b W
 have HP := Lib.hid (Fr.spot_le l x)
 have HP1 := Lib.hid (Fr.spot_below l x)
 have HP2 := Lib.hid (fun i => Fr.spot_above hs x i)
 have HF := Lib.hid h
 have HT : Hid (∀ W, Below (w.heap.size + 1) (w.alloc (.cells #[.int .i64 x.1, .int .i64 x.2] 62)) W → W.cell? ⟨w.heap.size, 0, none⟩ = some (.int .i64 x.1) ∧ W.cell? ⟨w.heap.size, 1, none⟩ = some (.int .i64 x.2) ∧ FRow W A l) := fun W hW => by
   have h1 := bk_below (Bk.new w 62 #[.int .i64 x.1, .int .i64 x.2]) (w' := W) (by simpa using hW)
   exact ⟨h1.cell 0, h1.cell 1, (h.below ((Below.refl _ w).alloc (Nat.le_refl _) _)).below (by simpa using hW)⟩
 obtain ⟨n, hn⟩ : ∃ n, n = l.length := ⟨_, rfl⟩
 obtain ⟨p, hp⟩ : ∃ p, p = Fr.spot l x := ⟨_, rfl⟩
 have HN := Lib.hid hn
 rw [← hn] at hl HP ⊢
 rw [← hp] at HP HP1 HP2 ⊢
 clear h hs hn hp
 go_enter Tryz.func215, Tryz.ntmps215
 go_wp2_with fail
 go_loopw [9, 10] (fun i j wr => ∃ (a b : Nat), i = .int .i64 a ∧ j = .int .i64 b ∧ a ≤ p ∧ p ≤ b ∧ b ≤ n ∧ Hid (Below (w.heap.size + 1) (w.alloc (.cells #[.int .i64 x.1, .int .i64 x.2] 62)) wr)) (fun i j _ => (intOf j).toNat - (intOf i).toNat)
 case atStart => exact ⟨0, n, rfl, rfl, Nat.zero_le _, HP.out, Nat.le_refl _, Lib.hid (Below.refl _ _)⟩
 case round =>
   obtain ⟨a, b, rfl, rfl, ha, hb, hbn, HB⟩ := hrel
   by_cases hlt : a < b
   · have hm1 : a ≤ (a + b) / 2 := by omega
     have hm2 : (a + b) / 2 < b := by omega
     have z1 : decide ((a : Int) < (b : Int)) = true := decide_eq_true (by omega)
     have z2 : decide (a < b) = true := decide_eq_true hlt
     have hmn : (a + b) / 2 < n := by omega
     have hi0 : (0 : Int) ≤ ((a : Int) + (b : Int)) / 2 := by omega
     have hi1 : ((a : Int) + (b : Int)) / 2 < (n : Int) := by omega
     have hi2 : (((a : Int) + (b : Int)) / 2).toNat = (a + b) / 2 := by omega
     obtain ⟨bb, o, hA, lb, q0, q1⟩ := (HT.out wr HB.out).2.2.at ((a + b) / 2) (by rw [← HN.out]; omega)
     obtain ⟨y, hy⟩ : ∃ y, y = l[(a + b) / 2]'(by rw [← HN.out]; omega) := ⟨_, rfl⟩
     have HY := Lib.hid hy
     rw [← hy] at q0 q1
     have HKS := Lib.hid (show ∀ W, Below wr.heap.size wr W → W.cell? ⟨w.heap.size, 0, none⟩ = some (.int .i64 x.1) ∧ W.cell? ⟨w.heap.size, 1, none⟩ = some (.int .i64 x.2) ∧ W.cell? ⟨bb, o + (a + b) / 2 * 2, none⟩ = some (.int .i64 y.1) ∧ W.cell? ⟨bb, o + (a + b) / 2 * 2 + 1, none⟩ = some (.int .i64 y.2) from fun W hW => by
       have h1 := HT.out W (HB.out.trans (hW.mono (by have := HB.out.size; simpa using this)))
       exact ⟨h1.1, h1.2.1, (hW.cell (p := ⟨bb, o + (a + b) / 2 * 2, none⟩) lb).trans q0, (hW.cell (p := ⟨bb, o + (a + b) / 2 * 2 + 1, none⟩) lb).trans q1⟩)
     have hcl := Fr.cmp_lt y x
     have hup : Fr.lt y x = true → (a + b) / 2 < p := fun hq => by
       by_cases hh : (a + b) / 2 < p
       · exact hh
       · have := HP2.out ((a + b) / 2) (by omega) (by rw [← HN.out]; omega)
         rw [← HY.out, hq] at this
         cases this
     have hdn : Fr.lt y x = false → p ≤ (a + b) / 2 := fun hq => by
       by_cases hh : (a + b) / 2 < p
       · have := HP1.out ((a + b) / 2) hh (by rw [← HN.out]; omega)
         rw [← HY.out, hq] at this
         cases this
       · omega
     clear hy q0 q1
     subst hA
     cases hq : Fr.lt y x
     all_goals
      rw [hq] at hcl
      have hcl2 := hcl.symm
      have HU := Lib.hid (show (Fr.lt y x = true → (a + b) / 2 < p) ∧ (Fr.lt y x = false → p ≤ (a + b) / 2) from ⟨hup, hdn⟩)
      have HQ := Lib.hid hq
      clear hcl hup hdn hq
      go_wp2_with fail
      go_region_held3 (fun W => W.cell? ⟨w.heap.size, 0, none⟩ = some (.int .i64 x.1) ∧ W.cell? ⟨w.heap.size, 1, none⟩ = some (.int .i64 x.2) ∧ W.cell? ⟨bb, o + (a + b) / 2 * 2, none⟩ = some (.int .i64 y.1) ∧ W.cell? ⟨bb, o + (a + b) / 2 * 2 + 1, none⟩ = some (.int .i64 y.2)) (first | (refine HKS.out _ ?_; with_reducible (first | exact (Below.refl _ _).drew | exact HBR.out)) | fail) (first
       | (go_at_call 216; (with_reducible refine (HO.out _ _ _).mono ?_); rintro e w1 ⟨rfl, hb1⟩; have HBR := Lib.hid (show Below wr.heap.size wr w1 from (Below.refl _ _).drew.trans hb1); clear hb1))
      all_goals
        go_wp2_with fail
        go_roundw
        case rel => first
          | exact ⟨(a + b) / 2 + 1, b, by go_num, rfl, (by have := HU.out.1 HQ.out; omega), hb, hbn, Lib.hid (HB.out.trans (HBR.out.mono (by have := HB.out.size; simpa using this)))⟩
          | exact ⟨a, (a + b) / 2, rfl, by go_num, ha, (by have := HU.out.2 HQ.out; omega), by omega, Lib.hid (HB.out.trans (HBR.out.mono (by have := HB.out.size; simpa using this)))⟩
        case measure => simp [intOf]; omega
   · obtain rfl : a = p := by omega
     have z1 : decide ((a : Int) < (b : Int)) = false := decide_eq_false (by omega)
     have z2 : decide (a < b) = false := decide_eq_false hlt
     have hbs := HB.out.size
     simp at hbs
     by_cases han : a < n
     · have z3 : decide ((a : Int) < (n : Int)) = true := decide_eq_true (by omega)
       have z4 : decide (a < n) = true := decide_eq_true han
       obtain ⟨bb, o, hA, lb, q0, q1⟩ := (HT.out wr HB.out).2.2.at a (by rw [← HN.out]; exact han)
       obtain ⟨y, hy⟩ : ∃ y, y = l[a]'(by rw [← HN.out]; exact han) := ⟨_, rfl⟩
       rw [← hy] at q0 q1
       have HKS := Lib.hid (show ∀ W, Below wr.heap.size wr W → W.cell? ⟨w.heap.size, 0, none⟩ = some (.int .i64 x.1) ∧ W.cell? ⟨w.heap.size, 1, none⟩ = some (.int .i64 x.2) ∧ W.cell? ⟨bb, o + a * 2, none⟩ = some (.int .i64 y.1) ∧ W.cell? ⟨bb, o + a * 2 + 1, none⟩ = some (.int .i64 y.2) from fun W hW => by
         have h1 := HT.out W (HB.out.trans (hW.mono (by have := HB.out.size; simpa using this)))
         exact ⟨h1.1, h1.2.1, (hW.cell (p := ⟨bb, o + a * 2, none⟩) lb).trans q0, (hW.cell (p := ⟨bb, o + a * 2 + 1, none⟩) lb).trans q1⟩)
       clear hy q0 q1
       subst hA
       go_wp2_with fail
       go_region_held3 (fun W => W.cell? ⟨w.heap.size, 0, none⟩ = some (.int .i64 x.1) ∧ W.cell? ⟨w.heap.size, 1, none⟩ = some (.int .i64 x.2) ∧ W.cell? ⟨bb, o + a * 2, none⟩ = some (.int .i64 y.1) ∧ W.cell? ⟨bb, o + a * 2 + 1, none⟩ = some (.int .i64 y.2)) (first | (refine HKS.out _ ?_; with_reducible (first | exact (Below.refl _ _).drew | exact HBR.out)) | fail) (first
         | (go_at_call 216; (with_reducible refine (HO.out _ _ _).mono ?_); rintro e w1 ⟨rfl, hb1⟩; have HBR := Lib.hid (show Below wr.heap.size wr w1 from (Below.refl _ _).drew.trans hb1); clear hb1))
       all_goals
         go_wp2_with fail
         go_ret2
         exact ⟨_, rfl, ((Below.refl _ w).alloc (Nat.le_refl _) _).trans ((HB.out.mono (by omega)).trans (HBR.out.mono (by omega)))⟩
     · have z3 : decide ((a : Int) < (n : Int)) = false := decide_eq_false (by omega)
       have z4 : decide (a < n) = false := decide_eq_false han
       go_wp2_with fail
       go_quiet (fail)
       go_wp2_with fail
       go_ret2
       exact ⟨_, rfl, below_drewN (((Below.refl _ w).alloc (Nat.le_refl _) _).trans (HB.out.mono (by omega))) _⟩
end Go.Proofs.YtjbcbnemdhbhbaaGreatDoor

import Derived.Test.YtjbcbnemdhbhbaaGreatDoorG12
import Derived.Deep.RegionLaw
import Derived.StillTailTactics
namespace Go.Proofs.YtjbcbnemdhbhbaaGreatDoor
open Go.RowKit
set_option maxRecDepth 100000
set_option linter.unusedVariables false
set_option linter.unusedSimpArgs false
def insC (l : List Ce) (i : Nat) (c : Ce) : List Ce := l.take i ++ ([c] ++ l.drop i)
theorem insC_len (l : List Ce) (i : Nat) (c : Ce) (h : i ≤ l.length) : (insC l i c).length = l.length + 1 := by
 unfold insC; rw [List.length_append, List.length_append, List.length_take, List.length_drop]; simp; omega
set_option maxHeartbeats 4000000 in
theorem insert_end (A : Option Addr) (cap B b : Nat) (l : List Ce) (c : Ce) (w : World) (h : COwn w B (.slice A l.length cap) l) (hB : B ≤ w.heap.size) (hl : l.length ≤ 10000) (hc : Bk w b 170 #[.string c.key, .string c.val, .int .i64 c.over, .int .i64 c.size, .int .i64 c.child]) :
   Calls Tryz.prog 107 #[.slice A l.length cap, .int .i64 l.length, .slice (some ⟨b, 0, none⟩) 1 1] w (TellsO B (.slice A l.length cap) (l ++ [c]) w) := by
 obtain ⟨i0, hi, iz0, iz1, iz2⟩ := info_parts info_cell
 obtain ⟨r, hrv, hcr⟩ := h.row
 obtain ⟨rA, rn, rc⟩ := r
 simp only at hrv
 injection hrv with e1 e2 e3
 subst e1 e2 e3
 have hcap := hcr.2.1
 have hcm := hcr.2.2.1
 simp only at hcap hcm
 have hcm2 : cap ≤ 9223372036854775807 := by unfold maxLen at hcm; omega
 have HO := Lib.hid h
 have HNW := Lib.hid (show ∀ (j : Nat) (u : Value), (flatC [c])[j]? = some u → w.cell? ((⟨b, 0, none⟩ : Addr).add j) = some u from fun j u hu => by
   rw [addr_add, Nat.zero_add, hc.cell j, ← Array.getElem?_toList]
   rw [flatC_one] at hu
   exact hu)
 have hbl := hc.lt
 clear h hcr hcm hc
 go_enter Tryz.func107, Tryz.ntmps107
 go_wp2_with (at_builtin; refine wpList_append_lies _ rfl (.tmp 23) (.tmp 24) 174 rfl B 170 i0 _ 5 56 Tryz.underlying174 hi iz0 iz1 iz2 rfl (by omega) (.slice A l.length cap) l.length (flatC l) rfl HO.out ⟨b, 0, none⟩ 1 1 (flatC [c]) rfl (flatC_len [c]) HNW.out (flatC_oneCell [c]) (by omega) (by unfold maxLen; omega) (by omega) hB w.heap.size rfl ?_; intro gg cap3 w3 hown3 hgrow3 hat3 hlt3)
 all_goals
   have HO3 : COwn w3 B (.slice (some ⟨gg, 0, none⟩) (l ++ [c]).length cap3) (l ++ [c]) := by
     unfold COwn
     rw [flatC_app, List.length_append]
     exact hown3
   have hob : ∀ n m, (Value.slice A n m).ownBlock = (Value.slice A 0 0).ownBlock := fun n m => by cases A <;> rfl
   rw [hob] at hgrow3 hat3
   have hoff := (Off.refl (Value.slice A 0 0).ownBlock.toList w).grown hgrow3 (fun g hg => .inl (by rw [Option.mem_toList]; exact hg))
   go_ret
   exact ⟨_, _, cap3, fun g hg => by rw [Option.mem_toList] at hg; rw [hob]; exact hg, hoff, by rw [List.length_append]; rfl, HO3, fun g hg => by
     have e : gg = g := by simpa [Value.ownBlock] using hg
     subst e
     rw [hob]
     rcases hat3 with h9 | h9
     · exact .inl h9
     · exact .inr (by omega)⟩
theorem zeros_run (g i n : Nat) (L : List Value) (hL : L.length = i * 5) (hin : i ≤ n) (hn : n ≤ 10000) (W : World) (hW : ∀ j u, L[j]? = some u → W.cell? ⟨g, j, none⟩ = some u) :
   ∃ (c : Nat) (cur : Array Value) (W1 : World), n + 1 ≤ c ∧ c ≤ maxLen ∧ cur.size = c * 5 ∧ cur.toList.take (i * 5) = L ∧ Bk W1 W.heap.size 170 cur ∧ Below W.heap.size W W1 ∧ W1.heap.size = W.heap.size + 1 ∧
     (Builtin.append_ #[174, 3] 174 #[.slice (some ⟨g, 0, none⟩) i n, .int .i64 ((n : Int) + 1 - (i : Int))]).run Tryz.prog W = .ok (.slice (some ⟨W.heap.size, 0, none⟩) (n + 1) c) W1 := by
 obtain ⟨i0, hi, iz0, iz1, iz2⟩ := info_parts info_cell
 have he : i + (n + 1 - i) = n + 1 := by omega
 have hbd := nextslicecap_le_wide (need := i + (n + 1 - i)) (old := n) (by omega)
 have hf := run_firstCells_some (P := Tryz.prog) W.drew 5 i ⟨g, 0, none⟩ i n L hL (fun j u hu => by rw [addr_add, Nat.zero_add]; exact hW j u hu)
 have h := Lib.run_append_grow_zeros (P := Tryz.prog) W 174 3 174 170 i0 _ .i64 .i64 Tryz.underlying174 Tryz.underlying3 hi iz0 (some ⟨g, 0, none⟩) i n L (by rw [iz1]; exact hf) (n + 1 - i) (by omega) (by rw [iz1]; omega) (by omega) (by omega) (by rw [iz2]; omega) (by rw [iz2]; have := Nat.mul_le_mul_right 56 hbd; omega)
 rw [he, show ((n + 1 - i : Nat) : Int) = (n : Int) + 1 - (i : Int) by omega] at h
 have hge := grownCap_ge W (n + 1) n 170
 refine ⟨_, _, _, hge, grownCap_le_maxLen W (n + 1) n _ (by unfold maxLen; omega), ?_, ?_, heap_alloc_new W.drew _, (Below.refl _ W).drew.alloc (Nat.le_refl _) _, by simp, h⟩
 · have e5 : (Value.agg #[.string ByteArray.empty, .string ByteArray.empty, .int .i64 0, .int .i64 0, .int .i64 0]).cells.size = 5 := rfl
   simp only [Array.size_append, size_zeroCells, e5, List.size_toArray, hL]
   omega
 · rw [Array.toList_append, Array.toList_append, List.append_assoc, List.take_append_of_le_length (by simp [hL]), List.take_of_length_le (by simp [hL])]
theorem copy_cells (g o dLen dCap : Nat) (a : Addr) (sLen sCap : Nat) (cur : Array Value) (cs : List Value) (W : World) (hg : Bk W g 170 cur) (hn : cs.length = Nat.min sLen dLen * 5) (hsrc : ∀ j v, cs[j]? = some v → W.cell? (a.add j) = some v) (hfit : o + cs.length ≤ cur.size) (h1 : ∀ v ∈ cs, v.oneCell' = true) :
   ∃ (v : Value) (W1 : World), Bk W1 g 170 (cur.toList.take o ++ cs ++ cur.toList.drop (o + cs.length)).toArray ∧ Off [g] W W1 ∧ W1.heap.size = W.heap.size ∧
     (Builtin.copy_ #[174, 174] 3 #[.slice (some ⟨g, o, none⟩) dLen dCap, .slice (some a) sLen sCap]).run Tryz.prog W = .ok v W1 := by
 have hs : (Tryz.prog.info? 170).map (·.size) = some 5 := by
   obtain ⟨i0, hi, iz0, iz1, iz2⟩ := info_parts info_cell
   rw [hi]; simp [iz1]
 have h := run_copy_wide (P := Tryz.prog) W 174 174 3 170 5 g o dLen dCap a sLen sCap cur 170 cs Tryz.underlying174 hs hg hn hsrc hfit h1
 refine ⟨_, _, setRow_heap W g cur _ _ _ hg, ⟨rfl, rfl, rfl, by simp, fun k _ hk => setRow_other W g k _ (fun e => hk (by simp [e]))⟩, by simp, h⟩
theorem bk_cells {W : World} {b : Nat} {c : Ce} (hc : Bk W b 170 #[.string c.key, .string c.val, .int .i64 c.over, .int .i64 c.size, .int .i64 c.child]) : ∀ j v, c.vals[j]? = some v → W.cell? ((⟨b, 0, none⟩ : Addr).add j) = some v := fun j v hv => by
 rw [addr_add, Nat.zero_add, hc.cell j, ← Array.getElem?_toList]
 exact hv
theorem vals_one (c : Ce) : ∀ v ∈ c.vals, v.oneCell' = true := by
 intro v hv
 simp [Ce.vals] at hv
 rcases hv with rfl | rfl | rfl | rfl | rfl <;> rfl
theorem insC_flat (l : List Ce) (i : Nat) (c : Ce) : flatC (insC l i c) = flatC (l.take i) ++ (c.vals ++ flatC (l.drop i)) := by
 unfold insC
 rw [flatC_app, flatC_app, flatC_one]
 rfl
theorem drop_cells {W : World} {g i n : Nat} {l : List Ce} (hF : ∀ (j : Nat) (u : Value), (flatC l)[j]? = some u → W.cell? ⟨g, j, none⟩ = some u) (hi : i ≤ l.length) : ∀ j v, (flatC (l.drop i))[j]? = some v → W.cell? ((⟨g, i * 5, none⟩ : Addr).add j) = some v := fun j v hv => by
 rw [addr_add]
 have e : flatC l = flatC (l.take i) ++ flatC (l.drop i) := by rw [← flatC_app, List.take_append_drop]
 have hl : (flatC (l.take i)).length = i * 5 := by rw [flatC_len, List.length_take]; omega
 refine hF _ _ ?_
 rw [e, List.getElem?_append_right (by omega), hl]
 rwa [show i * 5 + j - i * 5 = j by omega]
set_option maxHeartbeats 8000000 in
theorem insert_grow (g B b i : Nat) (l : List Ce) (c : Ce) (w : World) (h : COwn w B (.slice (some ⟨g, 0, none⟩) l.length l.length) l) (hB : B ≤ w.heap.size) (hi : i < l.length) (hl : l.length ≤ 10000) (hc : Bk w b 170 #[.string c.key, .string c.val, .int .i64 c.over, .int .i64 c.size, .int .i64 c.child]) :
   Calls Tryz.prog 107 #[.slice (some ⟨g, 0, none⟩) l.length l.length, .int .i64 i, .slice (some ⟨b, 0, none⟩) 1 1] w (TellsO B (.slice (some ⟨g, 0, none⟩) l.length l.length) (insC l i c) w) := by
 have hrow : ∃ r : Rw, Value.slice (some ⟨g, 0, none⟩) l.length l.length = .slice r.A r.n r.c ∧ CRow w (fun b => B ≤ b) r l := h.row
 obtain ⟨⟨rA, rn, rc⟩, hrv, hcr⟩ := hrow
 simp only at hrv
 injection hrv with e1 e2 e3
 subst e1 e2 e3
 have hF : ∀ (j : Nat) (u : Value), (flatC l)[j]? = some u → w.cell? ⟨g, j, none⟩ = some u := fun j u hu => by
   have := hcr.flat rfl j u hu
   rwa [Nat.zero_add] at this
 obtain ⟨b9, o9, hA9, hS9, -⟩ := hcr.at 0 (by omega)
 injection hA9 with hA9
 injection hA9 with e1 e2
 subst e1
 clear e2
 have hgl := hS9.2
 have htk : (flatC (l.take i)).length = i * 5 := by rw [flatC_len, List.length_take]; omega
 have hdk : (flatC (l.drop i)).length = (l.length - i) * 5 := by rw [flatC_len, List.length_drop]
 obtain ⟨k, cur, W1, hk1, hk2, hk3, hk4, hb1, hB1, hs1, hrun⟩ := zeros_run g i l.length (flatC (l.take i)) htk (by omega) hl w (fun j u hu => by
   have hlt : j < (flatC (l.take i)).length := (List.getElem?_eq_some_iff.1 hu).1
   have : (flatC l)[j]? = some u := by
     rw [← List.take_append_drop i l, flatC_app, List.getElem?_append_left hlt]; exact hu
   exact hF j u this)
 obtain ⟨v2, W2, hb2, hO2, hs2, hrun2⟩ := copy_cells w.heap.size (i * 5) (l.length + 1 - i) (k - i) ⟨b, 0, none⟩ 1 1 cur c.vals W1 hb1 (by rw [show Nat.min 1 (l.length + 1 - i) = 1 by show min 1 _ = 1; omega]; rfl) (bk_cells (bk_below hc hB1)) (by rw [hk3]; show i * 5 + 5 ≤ _; omega) (vals_one c)
 have hF2 : ∀ (j : Nat) (u : Value), (flatC l)[j]? = some u → W2.drew.cell? ⟨g, j, none⟩ = some u := fun j u hu => (hO2.cell (p := ⟨g, j, none⟩) (by show g < _; omega) (by simp; omega)).trans ((hB1.cell (p := ⟨g, j, none⟩) hgl).trans (hF j u hu))
 obtain ⟨v3, W3, hb3, hO3, hs3, hrun3⟩ := copy_cells w.heap.size ((i + 1) * 5) (l.length - i) (k - (i + 1)) ⟨g, i * 5, none⟩ (l.length - i) (l.length - i) _ (flatC (l.drop i)) W2.drew hb2.drew (by rw [hdk, show Nat.min (l.length - i) (l.length - i) = l.length - i by show min _ _ = _; omega]) (drop_cells (n := l.length) hF2 (by omega)) (by simp; rw [hdk, hk3]; show _ ≤ _; have : c.vals.length = 5 := rfl; omega) (flatC_oneCell _)
 have HRUN := Lib.hid hrun
 have HRUN2 := Lib.hid hrun2
 have HRUN3 := Lib.hid hrun3
 have hkb : k ≤ 9223372036854775807 := by unfold maxLen at hk2; omega
 have hw1 : IntKind.i64.wrap ((l.length : Int) + 1 - (i : Int)) = (l.length : Int) + 1 - (i : Int) := IntWalk.i64_in _ (by omega)
 have z1 : ((i : Int) == (l.length : Int)) = false := by rw [beq_eq_false_iff_ne]; omega
 have z2 : (i == l.length) = false := by rw [beq_eq_false_iff_ne]; omega
 have z3 : ¬ (k = i) := by omega
 have z4 : ¬ (l.length = i) := by omega
 have z5 : (i : Int) ≤ (l.length : Int) + 1 := by omega
 have z6 : i ≤ l.length + 1 := by omega
 have z7 : ¬ (k = i + 1) := by omega
 have hw2 : IntKind.i64.wrap ((i : Int) + 1) = (i : Int) + 1 := IntWalk.i64_in _ (by omega)
 have z8 : (i : Int) + 1 ≤ (l.length : Int) + 1 := by omega
 have z9 : (0 : Int) ≤ (i : Int) + 1 := by omega
 have z10 : ((i : Int) + 1).toNat = i + 1 := by omega
 have z11 : i + 1 ≤ l.length + 1 := by omega
 have z12 : (i : Int) ≤ (l.length : Int) := by omega
 have HEND := Lib.hid (show COwn W3 B (.slice (some ⟨w.heap.size, 0, none⟩) (insC l i c).length k) (insC l i c) by
   refine ⟨by rw [flatC_len], .inr ⟨w.heap.size, k, _, rfl, hB, hb3, by rw [insC_len _ _ _ (by omega)]; omega, hk2, ?_, ?_⟩⟩
   · simp; rw [hdk, hk3]; have : c.vals.length = 5 := rfl; omega
   · rw [insC_flat, insC_len _ _ _ (by omega)]
     have h5 : c.vals.length = 5 := rfl
     have ht5 : (cur.toList.take (i * 5) ++ c.vals).length = (i + 1) * 5 := by rw [List.length_append, hk4, htk, h5]; omega
     have e1 : (cur.toList.take (i * 5) ++ c.vals ++ cur.toList.drop (i * 5 + c.vals.length)).toArray.toList.take ((i + 1) * 5) = cur.toList.take (i * 5) ++ c.vals := by
       show List.take _ (_ ++ _ ++ _) = _
       rw [← ht5]
       exact List.take_left
     rw [e1, hk4]
     show List.take _ ((flatC (l.take i) ++ c.vals ++ flatC (l.drop i) ++ _)) = _
     rw [show flatC (l.take i) ++ (c.vals ++ flatC (l.drop i)) = flatC (l.take i) ++ c.vals ++ flatC (l.drop i) by rw [List.append_assoc]]
     rw [show (l.length + 1) * 5 = (flatC (l.take i) ++ c.vals ++ flatC (l.drop i)).length by rw [List.length_append, List.length_append, htk, h5, hdk]; omega]
     exact List.take_left)
 have HOF := Lib.hid (show Off [] w W3 from (((Off.of_below hB1 []).then hO2 (fun x hx => .inr (by simp at hx; omega))).drew).then hO3 (fun x hx => .inr (by simp at hx; omega)))
 clear h hcr hF hS9 hrun hrun2 hrun3 hk2 hk3 hk4 hc hb1 hb2 hb3 hO2 hO3 hF2 htk hdk hB1 hs1 hs2 hs3
 go_enter Tryz.func107, Tryz.ntmps107
 go_upto_region 10 with (at_builtin; refine wpList_append_run rfl (.tmp 34) (.tmp 39) 174 3 rfl _ _ _ _ rfl rfl HRUN.out ?_)
 go_upto_region 11 with (refine wpList_copy_run (o := ⟨some 45, _, _, _, _, _⟩) rfl (.tmp 43) (.tmp 44) 174 174 rfl _ _ _ _ rfl rfl HRUN2.out ?_)
 go_still_tail 8, (by kernel_rfl)
 change wpList _ _ _ _ _ W2.drew
 refine wpList_copy_run rfl (.tmp 50) (.tmp 53) 174 174 rfl _ _ _ _ rfl rfl HRUN3.out ?_
 go_wp2_with fail
 go_ret
 exact ⟨[], _, k, by simp, HOF.out, by rw [insC_len _ _ _ (by omega)]; rfl, HEND.out, fun x hx => .inr (Nat.le_of_eq (by simpa [Value.ownBlock] using hx))⟩
end Go.Proofs.YtjbcbnemdhbhbaaGreatDoor

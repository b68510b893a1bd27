import Derived.Test.YtjbcbnemdhbhbaaGreatDoorG26
import Derived.Test.YtjbcbnemdhbhbaaGreatDoorG22
import Derived.Test.YtjbcbnemdhbhbaaGreatDoorG16
import Derived.Deep.RegionHeld3
namespace Go.Proofs.YtjbcbnemdhbhbaaGreatDoor
open Go.RowKit
set_option maxRecDepth 100000
set_option linter.unusedVariables false
set_option linter.unusedSimpArgs false
def HoldWay (p : Store) (S : List Nat) (σ : Book) (k : Nat) (key val : ByteArray) (w w' : World) (c : Ce) (x : Int) : Prop :=
 (x = 0 ∧ ∃ (e : En) (σ' : Book), e.cell = c ∧ c.key = key ∧ e.val = val.data.toList ∧ e.pages.length = Tr.pieces val.size ∧ Tr.EnOk σ' e ∧ Tr.Moved σ [] σ' e.pages ∧ Step p S w w' σ' (k - Tr.pieces val.size)) ∨ (x = 9 ∧ p.F ∧ ∃ σ', Step p S w w' σ' 0)
theorem HoldWay.off {p : Store} {S : List Nat} {σ : Book} {k : Nat} {key val : ByteArray} {w w' : World} {c : Ce} {x : Int} (h : HoldWay p S σ k key val w w' c x) : Off S w w' := by
 rcases h with ⟨-, e, σ', -, -, -, -, -, -, S', -, h, -⟩ | ⟨-, -, σ', S', -, h, -⟩
 · exact h
 · exact h
theorem hold_any {p : Store} (hp : Serves p) {w : World} {S : List Nat} {σ : Book} {k : Nat} (h : p.At w S σ k) (key val : ByteArray) (hk1 : 1 ≤ key.size) (hk2 : key.size ≤ 120) (hv : val.size ≤ 4000) (hk : p.F ∨ Tr.pieces val.size ≤ k) :
   Calls Tryz.prog 103 #[.iface p.T p.v, .string key, .string val] w (fun e w' => ∃ (c : Ce) (x : Int), e = .returned (.tuple #[.agg #[.string c.key, .string c.val, .int .i64 c.over, .int .i64 c.size, .int .i64 c.child], .int .i64 x]) ∧ Hid (HoldWay p S σ k key val w w' c x)) := by
 by_cases h96 : val.size ≤ 96
 · have hz : Tr.pieces val.size = 0 := by unfold Tr.pieces; rw [if_pos h96]
   refine (hold_small p key val w h96).mono ?_
   rintro e w' ⟨rfl, hb⟩
   refine ⟨⟨key, val, 0, 0, 0⟩, 0, rfl, Lib.hid (.inl ⟨rfl, ⟨⟨key, val, 0, 0, 0⟩, [], val.data.toList⟩, σ, rfl, rfl, rfl, by rw [hz]; rfl, ⟨?_, .inl ⟨rfl, rfl, rfl⟩⟩, Tr.Moved.refl (by simp) (by simp), S, hp.less (hp.below h hb) (by omega), Off.of_below hb S, Fresh.refl _ _⟩)⟩
   simp [Nd.rightLeaf]
   omega
 · have hz : Tr.pieces val.size = (val.size - 1) / 484 + 1 := by unfold Tr.pieces; rw [if_neg h96]
   refine (hold_long hp h key val (by omega) hv (by rw [← hz]; exact hk)).mono ?_
   rintro e w' (⟨n, rfl, ns, σ', n0, n1, n2, n3, hst⟩ | ⟨hF, rfl, σ', hst⟩)
   · have hn512 := n2.first_lt
     refine ⟨⟨key, ⟨#[]⟩, n, val.size, 0⟩, 0, rfl, Lib.hid (.inl ⟨rfl, ⟨⟨key, ⟨#[]⟩, n, val.size, 0⟩, ns, val.data.toList⟩, σ', rfl, rfl, rfl, by rw [hz]; exact n1, ⟨?_, .inr ⟨n0, n2, rfl⟩⟩, n3, by rw [hz]; exact hst⟩)⟩
     have e1 : (⟨#[]⟩ : ByteArray).size = 0 := rfl
     simp [Nd.rightLeaf, n0, e1]
     omega
   · exact ⟨Ce.zero, 9, rfl, Lib.hid (.inr ⟨rfl, hF, σ', hst⟩)⟩
def PutTells (p : Store) (S : List Nat) (σ : Book) (k c : Nat) (P : List Nat) (L : List En) (key val : ByteArray) (w : World) (e : Ending) (w' : World) : Prop :=
 ∃ x : En, x.cell.key = key ∧ x.val = val.data.toList ∧ x.pages.length = Tr.pieces val.size ∧ RootWay p S σ k (c + Tr.pieces val.size) P (Tr.putE key x L) w e w'
set_option maxHeartbeats 16000000 in
theorem put_any {p : Store} (hp : Serves p) {w : World} {S : List Nat} {σ : Book} {k : Nat} (h : p.At w S σ k) (root : Nat) {P : List Nat} {L : List En} {c0 : Nat} (hrt : Tr.RootC σ c0 root P L) (hnd : P.Nodup) (key val : ByteArray) (hk1 : 1 ≤ key.size) (hk2 : key.size ≤ 120) (hv : val.size ≤ 4000) (hk : p.F ∨ c0 + Tr.pieces val.size ≤ k) :
   Calls Tryz.prog 48 #[.iface p.T p.v, .int .i64 root, .string key, .string val] w (PutTells p S σ k c0 P L key val w) := by
 have hne : (key.toList == []) = false := by
   have : key.toList.length = key.size := by rw [ByteArray.toList_eq]; rfl
   cases hl : key.toList with
   | nil => rw [hl] at this; simp at this; omega
   | cons a t => rfl
 have hne2 : (key.toList == (⟨#[]⟩ : ByteArray).toList) = false := by
   have : (⟨#[]⟩ : ByteArray).toList = [] := by rw [ByteArray.toList_eq]
   rw [this]; exact hne
 have z1 : decide ((120 : Int) < (key.size : Int)) = false := decide_eq_false (by omega)
 have z2 : decide (120 < key.size) = false := decide_eq_false (by omega)
 have z3 : decide ((4000 : Int) < (val.size : Int)) = false := decide_eq_false (by omega)
 have z4 : decide (4000 < val.size) = false := decide_eq_false (by omega)
 have HH := Lib.hid (hold_any hp (w := (w.alloc (.cells #[.iface p.T p.v] 168)).alloc (.cells #[.string key] 9)) (hp.off h (((Off.refl [] w).alloc _).alloc _) (by simp)) key val hk1 hk2 hv (hk.imp id (fun _ => by omega)))
 have HA := Lib.hid h
 have HRT := Lib.hid hrt
 have HOLD := Lib.hid (hp.old h)
 have HND := Lib.hid hnd
 have HK := Lib.hid hk
 clear h hrt hnd hk
 go_enter Tryz.func48, Tryz.ntmps48
 go_wp2_with fail
 refine HH.out.mono ?_
 rintro e w1 ⟨c, x, rfl, hw1⟩
 have HOW1 := Lib.hid (show Off S w w1 from (((Off.refl S w).alloc _).alloc _).trans hw1.off)
 have HKB := Lib.hid (show Bk w1 (w.heap.size + 1) 9 #[.string key] from hw1.off.bk (by have h := Bk.new (w.alloc (.cells #[.iface p.T p.v] 168)) 9 #[.string key]; simpa using h) (fun hs => by have := HOLD.out _ hs; omega))
 have HPB := Lib.hid (show Bk w1 w.heap.size 168 #[.iface p.T p.v] from hw1.off.bk ((Bk.new w _ _).alloc _) (fun hs => by have := HOLD.out _ hs; omega))
 have hs1 : w.heap.size + 2 ≤ w1.heap.size := by have := hw1.off.size; simp at this; omega
 have l0 : w.heap.size < w1.heap.size := by omega
 have l1 : w.heap.size + 1 < w1.heap.size := by omega
 have k0 := HKB.out.cell 0
 have p0 := HPB.out.cell 0
 rcases hw1.out with ⟨rfl, y, σ1, rfl, hyk, hyv, hyl, hok, hmv, S1, hat1, hof1, hfr1⟩ | ⟨rfl, hF, σ1, S1, hat1, hof1, hfr1⟩
 · have HB := Lib.hid (hmv.frame (R := P) (fun n hn => by rcases HRT.out with ⟨rfl, rfl, rfl, -⟩ | ⟨d, hst, -⟩; cases hn; exact (hst.mem n hn).2.2) HND.out (by simp))
   have hq : (w1.alloc (.cells #[.string y.cell.key, .string y.cell.val, .int .i64 y.cell.over, .int .i64 y.cell.size, .int .i64 y.cell.child] 170)).heap.size = w1.heap.size + 1 := by simp
   have hfr : Fresh w S S1 := hfr1.mono (by simp; omega)
   have hns : ∀ q, (q = w.heap.size ∨ q = w.heap.size + 1 ∨ q = w1.heap.size) → q ∉ S1 := fun q hq hs => by
     have h2 := hp.old hat1 q hs
     rcases hfr1 q hs with h3 | h3
     · have := HOLD.out q h3; omega
     · simp at h3; omega
   have hroot : Tr.RootC σ1 c0 root P L := by
     rcases HRT.out with ⟨rfl, rfl, rfl, h4⟩ | ⟨d, hst, h4⟩
     · exact .inl ⟨rfl, rfl, rfl, h4⟩
     · exact .inr ⟨d, hst.congr fun n hn => hmv.same (R := P) (fun n hn => (hst.mem n hn).2.2) (by simp) n hn, h4⟩
   have hm2 : Tr.Moved σ P σ1 (P ++ y.pages) := HB.out.perm (List.Perm.refl _) List.perm_append_comm
   have hdo := put1_spec hp (S0 := S1) (σ0 := σ1) key y (HKB.out.alloc (.cells #[.string y.cell.key, .string y.cell.val, .int .i64 y.cell.over, .int .i64 y.cell.size, .int .i64 y.cell.child] 170)) (Bk.new w1 _ _) (HPB.out.alloc _) (hns _ (.inr (.inl rfl))) (hns _ (.inr (.inr rfl))) (hns _ (.inl rfl)) hok
   have hal := alter_any hp key (Tr.put_change key y hyk (Nd.size_le (leaf := true) hok.1).2) (fun l => Tr.put_ne key y l) hdo (hp.off hat1 ((Off.refl [] w1).alloc _) (by simp)) (Off.refl _ _) (Fresh.refl _ _) root hroot hm2.nodup (fun n hn => ⟨rfl, (hok.mem n hn).2.2⟩) (HK.out.imp id (fun _ => by omega))
   have HAL := Lib.hid (hal.mono fun e w' h => RootWay.letters h)
   have HMM := Lib.hid (show Tr.Moved σ P σ1 (P ++ y.pages) ∧ Off S w (w1.alloc (.cells #[.string y.cell.key, .string y.cell.val, .int .i64 y.cell.over, .int .i64 y.cell.size, .int .i64 y.cell.child] 170)) ∧ Fresh w S S1 from ⟨hm2, HOW1.out.alloc _, hfr⟩)
   have HY := Lib.hid (show y.cell.key = key ∧ y.val = val.data.toList ∧ y.pages.length = Tr.pieces val.size from ⟨hyk, hyv, hyl⟩)
   clear hw1 hyk hyv hyl hok hmv hat1 hof1 hfr1 hfr hns hroot hm2 hdo hal hq
   go_wp2_with fail
   refine HAL.out.mono ?_
   rintro e w5 ⟨a, b, rfl, hw5⟩
   have HE := Lib.hid ((RootWay.from (k := k) HMM.out.1 (c1 := Tr.pieces val.size) (by omega) HMM.out.2.1 HMM.out.2.2 hw5.out).more (c' := c0 + Tr.pieces val.size) (by omega))
   clear hw5
   go_wp2_with fail
   go_ret2
   exact ⟨y, HY.out.1, HY.out.2.1, HY.out.2.2, HE.out⟩
 · have HE := Lib.hid (show PutTells p S σ k c0 P L key val w (.returned (.tuple #[.int .i64 0, .int .i64 9])) (w1.alloc (.cells #[.string c.key, .string c.val, .int .i64 c.over, .int .i64 c.size, .int .i64 c.child] 170)) from
     ⟨⟨⟨key, val, 0, 0, 0⟩, List.replicate (Tr.pieces val.size) 0, val.data.toList⟩, rfl, rfl, by simp, .inr ⟨hF, rfl, σ1, S1, hp.off hat1 ((Off.refl [] w1).alloc _) (by simp), HOW1.out.alloc _, hfr1.mono (by simp; omega)⟩⟩)
   clear hw1 hat1 hof1 hfr1
   go_wp2_with fail
   go_ret2
   exact HE.out
namespace Nd
theorem has_spot {l : List Ce} {key : ByteArray} (h : has l key = true) : ∃ c, l[spot l key]? = some c ∧ c.key = key := by
 unfold has at h
 cases hc : l[spot l key]? with
 | none => rw [hc] at h; cases h
 | some c =>
   rw [hc] at h
   simp only [beq_iff_eq] at h
   exact ⟨c, rfl, by rw [ByteArray.toList_eq, ByteArray.toList_eq] at h; exact ByteArray.ext (Array.ext' h)⟩
theorem spot_has {l : List Ce} (hr : rise l = true) {key : ByteArray} {c : Ce} (hc : c ∈ l) (hk : c.key = key) : has l key = true := by
 obtain ⟨i, hi, rfl⟩ := List.mem_iff_getElem.1 hc
 have h1 : spot l key ≤ i := by
   by_cases h : i < spot l key
   · have := spot_below l key i h hi
     rw [hk, lt_irrefl] at this
     cases this
   · omega
 have h2 : spot l key = i := by
   by_cases e : spot l key = i
   · exact e
   · have h3 := rise_lt hr i (spot l key) hi (by omega)
     have h4 := spot_at l key (by omega)
     rw [hk] at h3
     rw [h3] at h4
     cases h4
 unfold has
 rw [h2, List.getElem?_eq_getElem hi]
 simp [hk]
end Nd
namespace Tr
theorem find_leaf {σ : Book} {cs : List Ce} {P : List Nat} {L : List En} (h : Part σ 0 cs P L) (hr : Nd.rise cs = true) (key : ByteArray) :
   (∀ c, Nd.has cs key = true → cs[Nd.spot cs key]? = some c → ∃ e ∈ L, e.cell = c ∧ c.key = key) ∧ (Nd.has cs key = false → ∀ e ∈ L, e.cell.key ≠ key) := by
 obtain ⟨rfl, -, -, -⟩ := h
 refine ⟨fun c h1 h2 => ?_, fun h1 e he hk => ?_⟩
 · obtain ⟨c', h3, h4⟩ := Nd.has_spot h1
   rw [h3] at h2
   injection h2 with h2
   subst h2
   have := List.mem_of_getElem? h3
   obtain ⟨e, he, rfl⟩ := List.mem_map.1 this
   exact ⟨e, he, rfl, h4⟩
 · rw [Nd.spot_has hr (List.mem_map_of_mem he) hk] at h1
   cases h1
theorem find_spot {σ : Book} {d : Nat} {cs : List Ce} {P : List Nat} {L : List En} (h : Part σ (d + 1) cs P L) (hr : Nd.rise cs = true) (key : ByteArray) : Nd.has cs key = true ∨ 0 < Nd.spot cs key := by
 obtain ⟨ks, rfl, -, -, ⟨k, t, rfl, hk⟩, -⟩ := h
 by_cases h0 : 0 < Nd.spot ((k :: t).map Kd.cell) key
 · exact .inr h0
 · refine .inl (Nd.spot_has hr (c := k.cell) (by simp) ?_)
   have h2 : Nd.spot ((k :: t).map Kd.cell) key = 0 := by omega
   have h1 := Nd.spot_at ((k :: t).map Kd.cell) key (by rw [h2]; simp)
   have h1 : Nd.lt k.cell.key key = false := by
     have h9 : ∀ i (hi : i < ((k :: t).map Kd.cell).length), i = 0 → (((k :: t).map Kd.cell)[i]) = k.cell := fun i hi e => by subst e; rfl
     rw [h9 _ _ h2] at h1
     exact h1
   have h3 : k.cell.key = ⟨#[]⟩ := hk
   rcases Nd.lt_total k.cell.key key with h4 | h4 | h4
   · rw [h1] at h4; cases h4
   · exact h4
   · rw [h3, le_nil] at h4; cases h4
theorem find_branch {σ : Book} {d : Nat} {cs : List Ce} {P : List Nat} {L : List En} (h : Part σ (d + 1) cs P L) (hr : Nd.rise cs = true) (key : ByteArray) {c : Ce} (hc : cs[Nd.low cs key]? = some c) :
   ∃ (P' : List Nat) (L' : List En), Stored σ d c.child P' L' ∧ (∀ n ∈ P', n ∈ P) ∧ (∀ e ∈ L', e ∈ L) ∧ ∀ e ∈ L, e.cell.key = key → e ∈ L' := by
 have hs := find_spot h hr key
 obtain ⟨ks, rfl, rfl, rfl, -, hsep, hks⟩ := h
 have hj := List.getElem?_eq_some_iff.1 hc
 obtain ⟨hj, rfl⟩ := hj
 obtain ⟨j, hjd⟩ : ∃ j, j = Nd.low (ks.map Kd.cell) key := ⟨_, rfl⟩
 simp only [← hjd] at hj ⊢
 rw [List.length_map] at hj
 have hkm : ks[j] ∈ ks := List.getElem_mem hj
 refine ⟨ks[j].P, ks[j].L, by rw [List.getElem_map]; exact (hks _ hkm).2, fun n hn => List.mem_flatMap.2 ⟨_, hkm, hn⟩, fun e he => List.mem_flatMap.2 ⟨_, hkm, he⟩, fun e he hk => ?_⟩
 obtain ⟨k, hkm2, he⟩ := List.mem_flatMap.1 he
 obtain ⟨i, hi, rfl⟩ := List.mem_iff_getElem.1 hkm2
 by_cases e0 : i = j
 · subst e0; exact he
 exfalso
 have hjl : (ks.map Kd.cell)[j]? = some (ks[j].cell) := by rw [List.getElem?_eq_getElem (by rw [List.length_map]; exact hj), List.getElem_map]
 have hle : Nd.lt key ks[j].key = false ∧ (Nd.lt key ks[j].key = false) := by
   have : Nd.lt key ks[j].key = false := by
     cases hh : Nd.has (ks.map Kd.cell) key with
     | true =>
       have : j = Nd.spot (ks.map Kd.cell) key := by rw [hjd]; unfold Nd.low; rw [hh]; rfl
       obtain ⟨c, h1, h2⟩ := Nd.has_spot hh
       rw [← this, hjl] at h1
       injection h1 with h1
       have h3 : ks[j].key = key := by rw [← h2, ← h1]; rfl
       rw [h3]; exact Nd.lt_irrefl _
     | false =>
       have hp : 0 < Nd.spot (ks.map Kd.cell) key := hs.resolve_left (by rw [hh]; exact Bool.false_ne_true)
       have : j = Nd.spot (ks.map Kd.cell) key - 1 := by rw [hjd]; unfold Nd.low; rw [hh]; rfl
       have h1 := Nd.spot_below (ks.map Kd.cell) key j (by omega) (by rw [List.length_map]; exact hj)
       rw [List.getElem_map] at h1
       exact Nd.lt_asymm h1
   exact ⟨this, this⟩
 obtain ⟨hle, -⟩ := hle
 obtain ⟨s1, s2⟩ := hsep
 rw [List.pairwise_iff_getElem] at s1
 rcases Nat.lt_or_ge i j with hij | hij
 · have h1 := s1 i j (by rw [List.length_map]; exact hi) (by rw [List.length_map]; exact hj) hij e (by rw [List.getElem_map]; exact he)
   rw [List.getElem_map, hk] at h1
   have h2 : Nd.lt key ks[j].key = true := h1
   rw [hle] at h2
   cases h2
 · have h1 : Nd.lt key ks[i].key = false := by
     have := s2 ks[i].rg (List.mem_map_of_mem hkm2) e he
     rw [hk] at this
     exact this
   cases hh : Nd.has (ks.map Kd.cell) key with
   | true =>
     have hjs : j = Nd.spot (ks.map Kd.cell) key := by rw [hjd]; unfold Nd.low; rw [hh]; rfl
     obtain ⟨c, g1, g2⟩ := Nd.has_spot hh
     rw [← hjs, hjl] at g1
     injection g1 with g1
     have g3 : ks[j].key = key := by rw [← g2, ← g1]; rfl
     have g4 := Nd.rise_lt hr i j (by rw [List.length_map]; exact hi) (by omega)
     rw [List.getElem_map, List.getElem_map] at g4
     have g5 : Nd.lt ks[j].key ks[i].key = true := g4
     rw [g3, h1] at g5
     cases g5
   | false =>
     have hp : 0 < Nd.spot (ks.map Kd.cell) key := hs.resolve_left (by rw [hh]; exact Bool.false_ne_true)
     have hjs : j = Nd.spot (ks.map Kd.cell) key - 1 := by rw [hjd]; unfold Nd.low; rw [hh]; rfl
     have g1 := Nd.spot_above hr key i (by omega) (by rw [List.length_map]; exact hi)
     rw [List.getElem_map] at g1
     have g2 : Nd.lt ks[i].key key = false := g1
     have g3 : ks[i].cell.key = key := by
       rcases Nd.lt_total ks[i].key key with h | h | h
       · rw [g2] at h; cases h
       · exact h
       · rw [h1] at h; cases h
     rw [Nd.spot_has hr (List.mem_map_of_mem hkm2) g3] at hh
     cases hh
end Tr
namespace Tr
theorem kids_count : ∀ ks : List Kd, (∀ k ∈ ks, k.P.length + 1 ≤ 2 * k.L.length + (k.L.flatMap (·.pages)).length) → (ks.flatMap (·.P)).length + ks.length ≤ 2 * (ks.flatMap (·.L)).length + ((ks.flatMap (·.L)).flatMap (·.pages)).length
 | [], _ => Nat.le_refl _
 | k :: ks, h => by
   have h1 := h k (by simp)
   have h2 := kids_count ks fun x hx => h x (by simp [hx])
   simp only [List.flatMap_cons, List.flatMap_append, List.length_append, List.length_cons] at h2 ⊢
   omega
theorem Stored.count {σ : Book} : ∀ {d no : Nat} {P : List Nat} {L : List En}, Stored σ d no P L → P.length + 1 ≤ 2 * L.length + (L.flatMap (·.pages)).length
 | 0, no, P, L, h => by
   obtain ⟨cs, P', rfl, g1, g2, g3, ⟨-, rfl, -, -⟩, g5, g6, g7⟩ := h
   have : 0 < L.length := List.length_pos_iff.2 g6
   simp only [List.length_cons]
   omega
 | d + 1, no, P, L, h => by
   obtain ⟨cs, P', rfl, g1, g2, g3, ⟨ks, hcs, rfl, rfl, -, -, hks⟩, g5, g6, g7⟩ := h
   have h2 := g7 rfl
   rw [hcs, List.length_map] at h2
   have h3 := kids_count ks fun k hk => Stored.count (d := d) (hks k hk).2
   simp only [List.length_cons]
   omega
theorem pages_le (L : List En) (h : ∀ e ∈ L, e.pages.length ≤ 1) : (L.flatMap (·.pages)).length ≤ L.length := by
 induction L with
 | nil => exact Nat.le_refl _
 | cons e L ih =>
   have h1 := h e (by simp)
   have h2 := ih fun x hx => h x (by simp [hx])
   simp only [List.flatMap_cons, List.length_append, List.length_cons]
   omega
theorem Root.count {σ : Book} {root : Nat} {P : List Nat} {L : List En} (h : Root σ root P L) (hp : ∀ e ∈ L, e.pages.length ≤ 1) : P.length ≤ 3 * L.length := by
 rcases h with ⟨-, rfl, rfl⟩ | ⟨d, h⟩
 · exact Nat.le_refl _
 · have h1 := h.count
   have h2 := pages_le L hp
   omega
theorem putE_len (key : ByteArray) (e : En) (L : List En) : (putE key e L).length ≤ L.length + 1 := by
 unfold putE
 have := spotE_le L key
 simp only [List.length_append, List.length_take, List.length_drop, List.length_cons, List.length_nil]
 split <;> omega
theorem putE_mem (key : ByteArray) (e : En) (L : List En) : ∀ x ∈ putE key e L, x = e ∨ x ∈ L := by
 intro x hx
 unfold putE at hx
 rcases List.mem_append.1 hx with hx | hx
 · exact .inr (List.mem_of_mem_take hx)
 · rcases List.mem_append.1 hx with hx | hx
   · exact .inl (by simpa using hx)
   · exact .inr (List.mem_of_mem_drop hx)
end Tr
structure Lv where
 leaf : Bool
 cells : List Ce
 idx : Nat
namespace Tr
structure LfOk (σ : Book) (no : Nat) (L : List En) : Prop where
 page : σ no = some ⟨1, Nd.str true (L.map (·.cell))⟩
 right : Nd.right true (L.map (·.cell)) = true
 sum : Nd.sum true (L.map (·.cell)) ≤ 488
 some : L ≠ []
 rise : Rising L
structure BrOk (σ : Book) (d no : Nat) (ks : List Kd) : Prop where
 page : σ no = some ⟨2, Nd.str false (ks.map Kd.cell)⟩
 right : Nd.right false (ks.map Kd.cell) = true
 sum : Nd.sum false (ks.map Kd.cell) ≤ 488
 two : 2 ≤ ks.length
 sep : Sep (ks.map Kd.rg)
 kids : ∀ k ∈ ks, Stored σ d k.no k.P k.L
theorem Stored.lf {σ : Book} {no : Nat} {P : List Nat} {L : List En} (h : Stored σ 0 no P L) : LfOk σ no L := by
 obtain ⟨cs, P', rfl, g1, g2, g3, hp, g5, g6, g7⟩ := h
 have hr := hp.right.1
 obtain ⟨rfl, h2, h3, h4⟩ := hp
 exact ⟨g3, hr, g5, g6, h3⟩
theorem Stored.br {σ : Book} {d no : Nat} {P : List Nat} {L : List En} (h : Stored σ (d + 1) no P L) : ∃ ks, BrOk σ d no ks ∧ L = ks.flatMap (·.L) := by
 obtain ⟨cs, P', rfl, g1, g2, g3, hp, g5, g6, g7⟩ := h
 have hr := hp.right.1
 obtain ⟨ks, rfl, h2, h3, h4, h5, h6⟩ := hp
 exact ⟨ks, ⟨g3, hr, g5, by have := g7 rfl; rwa [List.length_map] at this, h5, fun k hk => (h6 k hk).2⟩, h3⟩
theorem Stored.some {σ : Book} {d no : Nat} {P : List Nat} {L : List En} (h : Stored σ d no P L) : L ≠ [] := by
 obtain ⟨cs, P', rfl, g1, g2, g3, hp, g5, g6, g7⟩ := h
 exact g6
def On (σ : Book) : Nat → Nat → List En → Nat → List Lv → Prop
 | 0, no, L, i, way => LfOk σ no L ∧ i < L.length ∧ way = [⟨true, L.map (·.cell), i⟩]
 | d + 1, no, L, i, way => ∃ (ks : List Kd) (j i' : Nat) (rest : List Lv) (k : Kd), BrOk σ d no ks ∧ L = ks.flatMap (·.L) ∧ ks[j]? = Option.some k ∧ On σ d k.no k.L i' rest ∧ i = ((ks.take j).flatMap (·.L)).length + i' ∧ way = ⟨false, ks.map Kd.cell, j⟩ :: rest
theorem flat_split {ks : List Kd} {j : Nat} {k : Kd} (h : ks[j]? = Option.some k) : ks.flatMap (·.L) = (ks.take j).flatMap (·.L) ++ (k.L ++ (ks.drop (j + 1)).flatMap (·.L)) := by
 obtain ⟨hj, rfl⟩ := List.getElem?_eq_some_iff.1 h
 have e : ks = ks.take j ++ (ks[j] :: ks.drop (j + 1)) := by rw [← List.drop_eq_getElem_cons hj, List.take_append_drop]
 conv => lhs; rw [e]
 rw [flatMap_app, List.flatMap_cons]
theorem On.lt {σ : Book} : ∀ {d no : Nat} {L : List En} {i : Nat} {way : List Lv}, On σ d no L i way → i < L.length
 | 0, no, L, i, way, h => h.2.1
 | d + 1, no, L, i, way, h => by
   obtain ⟨ks, j, i', rest, k, h1, rfl, h3, h4, rfl, rfl⟩ := h
   have := On.lt h4
   rw [flat_split h3]
   simp only [List.length_append]
   omega
theorem On.len {σ : Book} : ∀ {d no : Nat} {L : List En} {i : Nat} {way : List Lv}, On σ d no L i way → way.length = d + 1
 | 0, no, L, i, way, h => by rw [h.2.2]; rfl
 | d + 1, no, L, i, way, h => by
   obtain ⟨ks, j, i', rest, k, h1, rfl, h3, h4, rfl, rfl⟩ := h
   rw [List.length_cons, On.len h4]
theorem On.last {σ : Book} : ∀ {d no : Nat} {L : List En} {i : Nat} {way : List Lv}, On σ d no L i way → ∃ pre cs a, way = pre ++ [⟨true, cs, a⟩] ∧ cs[a]? = (L[i]?).map (·.cell)
 | 0, no, L, i, way, h => ⟨[], _, i, h.2.2, by rw [List.getElem?_map]⟩
 | d + 1, no, L, i, way, h => by
   obtain ⟨ks, j, i', rest, k, h1, rfl, h3, h4, rfl, rfl⟩ := h
   obtain ⟨pre, cs, a, rfl, hc⟩ := On.last h4
   refine ⟨_ :: pre, cs, a, rfl, ?_⟩
   rw [hc, flat_split h3, List.getElem?_append_right (Nat.le_add_right _ _), Nat.add_sub_cancel_left, List.getElem?_append_left (On.lt h4)]
theorem On.idx {σ : Book} : ∀ {d no : Nat} {L : List En} {i : Nat} {way : List Lv}, On σ d no L i way → ∀ x ∈ way, x.idx < x.cells.length
 | 0, no, L, i, way, h, x, hx => by
   rw [h.2.2, List.mem_singleton] at hx
   subst hx
   rw [List.length_map]
   exact h.2.1
 | d + 1, no, L, i, way, h, x, hx => by
   obtain ⟨ks, j, i', rest, k, h1, rfl, h3, h4, rfl, rfl⟩ := h
   rcases List.mem_cons.1 hx with rfl | hx
   · rw [List.length_map]
     exact (List.getElem?_eq_some_iff.1 h3).1
   · exact On.idx h4 x hx
def Dn (σ : Book) (ch : List Ce → Nat) (d no : Nat) (L : List En) (i : Nat) (way : List Lv) : Prop := On σ d no L i way ∧ ∀ x ∈ way, x.idx = ch x.cells
end Tr
def lvV (x : Lv × Rw) : List Value := [.bool x.1.leaf, .slice x.2.A x.2.n x.2.c, .int .i64 x.1.idx]
def flatL (ls : List (Lv × Rw)) : List Value := (ls.map lvV).flatten
theorem flatL_app (a b : List (Lv × Rw)) : flatL (a ++ b) = flatL a ++ flatL b := by simp [flatL]
theorem flatL_one (x : Lv × Rw) : flatL [x] = [.bool x.1.leaf, .slice x.2.A x.2.n x.2.c, .int .i64 x.1.idx] := by simp [flatL, lvV]
theorem flatL_cons (x : Lv × Rw) (l : List (Lv × Rw)) : flatL (x :: l) = lvV x ++ flatL l := by simp [flatL]
theorem flatL_get : ∀ (l : List (Lv × Rw)) (i : Nat) (h : i < l.length) (j : Nat), j < 3 → (flatL l)[i * 3 + j]? = (lvV l[i])[j]?
 | x :: l, 0, h, j, hj => by
   rw [flatL_cons, Nat.zero_mul, Nat.zero_add, List.getElem?_append_left (by show j < 3; exact hj)]
   rfl
 | x :: l, i + 1, h, j, hj => by
   rw [flatL_cons, List.getElem?_append_right (by show 3 ≤ _; omega), show (i + 1) * 3 + j - (lvV x).length = i * 3 + j by show (i + 1) * 3 + j - 3 = _; omega]
   exact flatL_get l i (by simpa using h) j hj
theorem own_form {w : World} {B : Nat} {e : TypeId} {s n : Nat} {v : Value} {xs : List Value} (h : w.ownsRow B e s v n xs) : ∃ A c, v = .slice A n c ∧ (n ≠ 0 → ∃ g, A = some ⟨g, 0, none⟩) ∧ c ≤ maxLen := by
 rcases h.2 with ⟨rfl, rfl⟩ | ⟨g, cap, _, rfl, _, _, _, hc, _⟩
 · exact ⟨none, 0, rfl, fun h => absurd rfl h, Nat.zero_le _⟩
 · exact ⟨_, cap, rfl, fun _ => ⟨g, rfl⟩, hc⟩
structure Cur (p : Store) (S : List Nat) (σ : Book) (c root : Nat) (R : List Nat) (w : World) (U : List Nat) (v : Value) (ls : List (Lv × Rw)) : Prop where
 pages : p.At w S σ 0
 top : Bk w c 215 #[.iface p.T p.v, .int .i64 root, v]
 row : w.ownsRow 0 283 3 v ls.length (flatL ls)
 blk : ∀ g, v.ownBlock = some g → g ∈ U
 mem : c ∈ U
 lt : ∀ b ∈ U, b < w.heap.size
 rlt : ∀ b ∈ R, b < w.heap.size
 sep : ∀ b ∈ S, b ∉ U ∧ b ∉ R
 ror : ∀ b ∈ U, b ∉ R
 cells : ∀ x ∈ ls, CRow w (fun b => b ∉ U ∧ b ∉ R) x.2 x.1.cells
theorem Cur.off {p : Store} (hp : Reads p) {S : List Nat} {σ : Book} {c root : Nat} {R : List Nat} {w w' : World} {U : List Nat} {v : Value} {ls : List (Lv × Rw)} {X : List Nat} (h : Cur p S σ c root R w U v ls) (ho : Off X w w') (hX : ∀ b ∈ X, b ∈ R) : Cur p S σ c root R w' U v ls where
 pages := hp.off h.pages ho fun b hb hx => (h.sep b hb).2 (hX b hx)
 top := ho.bk h.top fun hx => h.ror c h.mem (hX c hx)
 row := ho.own h.row fun g hg hx => h.ror g (h.blk g hg) (hX g hx)
 blk := h.blk
 mem := h.mem
 lt := fun b hb => Nat.lt_of_lt_of_le (h.lt b hb) ho.size
 rlt := fun b hb => Nat.lt_of_lt_of_le (h.rlt b hb) ho.size
 sep := h.sep
 ror := h.ror
 cells := fun x hx => (h.cells x hx).keep ho.size (fun b hb hlt => ho.block b hlt fun hh => hb.2 (hX b hh)) (fun b hb _ => hb)
theorem Cur.below {p : Store} (hp : Reads p) {S : List Nat} {σ : Book} {c root : Nat} {R : List Nat} {w w' : World} {U : List Nat} {v : Value} {ls : List (Lv × Rw)} (h : Cur p S σ c root R w U v ls) (hb : Below w.heap.size w w') : Cur p S σ c root R w' U v ls := h.off hp (Off.of_below hb []) (by simp)
theorem Cur.renew {p : Store} (hp : Reads p) {S : List Nat} {σ : Book} {c root : Nat} {R : List Nat} {w w' : World} {U U' : List Nat} {v v' : Value} {ls ls' : List (Lv × Rw)} (h : Cur p S σ c root R w U v ls) (ho : Off U w w') (hU : ∀ b ∈ U, b ∈ U') (hf : Fresh w U U') (hlt : ∀ b ∈ U', b < w'.heap.size)
   (ht : Bk w' c 215 #[.iface p.T p.v, .int .i64 root, v']) (hr : w'.ownsRow 0 283 3 v' ls'.length (flatL ls')) (hb : ∀ g, v'.ownBlock = some g → g ∈ U')
   (hc : ∀ x ∈ ls', (∃ y ∈ ls, y.2 = x.2 ∧ y.1.cells = x.1.cells) ∨ CRow w' (fun b => b ∉ U' ∧ b ∉ R) x.2 x.1.cells) : Cur p S σ c root R w' U' v' ls' where
 pages := hp.off h.pages ho fun b hb hx => (h.sep b hb).1 hx
 top := ht
 row := hr
 blk := hb
 mem := hU c h.mem
 lt := hlt
 rlt := fun b hb => Nat.lt_of_lt_of_le (h.rlt b hb) ho.size
 sep := fun b hb => ⟨fun hx => by
   rcases hf b hx with h1 | h1
   · exact (h.sep b hb).1 h1
   · have := hp.old h.pages b hb; omega, (h.sep b hb).2⟩
 ror := fun b hb hr => by
   rcases hf b hb with h1 | h1
   · exact h.ror b h1 hr
   · have := h.rlt b hr; omega
 cells := fun x hx => by
   rcases hc x hx with ⟨y, hy, e1, e2⟩ | h1
   · rw [← e1, ← e2]
     exact (h.cells y hy).keep ho.size (fun b hb hlt => ho.block b hlt hb.1) (fun b hb hlt => ⟨fun hx => by
       rcases hf b hx with h1 | h1
       · exact hb.1 h1
       · omega, hb.2⟩)
   · exact h1
theorem Cur.wide {p : Store} {S : List Nat} {σ : Book} {c root : Nat} {R R' : List Nat} {w : World} {U : List Nat} {v : Value} (h : Cur p S σ c root R w U v []) (hr : ∀ b ∈ R', b < w.heap.size ∧ b ∉ S ∧ b ∉ U) : Cur p S σ c root R' w U v [] :=
 ⟨h.pages, h.top, h.row, h.blk, h.mem, h.lt, fun b hb => (hr b hb).1, fun b hb => ⟨(h.sep b hb).1, fun hh => (hr b hh).2.1 hb⟩, fun b hb hh => (hr b hh).2.2 hb, fun x hx => by cases hx⟩
def Kept (X : List Nat) (w0 W : World) : Prop := ∀ b ∈ X, b < W.heap.size ∧ W.heap[b]? = w0.heap[b]?
structure ChOk (fc : Nat) (caps : Array Value) (X : List Nat) (w0 : World) (ch : List Ce → Nat) : Prop where
 enter : ∀ args W, Sem.run Tryz.prog (callFunc fc args) W = .ok (.enter fc args) W
 does : ∀ (W : World), Kept X w0 W → ∀ (leaf : Bool) (q : Rw) (T : Nat → Prop) (cs : List Ce), CRow W T q cs → cs ≠ [] → cs.length ≤ 300 → Calls Tryz.prog fc (#[.agg #[.bool leaf, .slice q.A q.n q.c, .int .i64 0]] ++ caps) W (fun e w' => e = .returned (.int .i64 (ch cs)) ∧ Below W.heap.size W w')
theorem Tr.On.step {σ : Book} {d no : Nat} {L : List En} {i : Nat} {way : List Lv} (h : Tr.On σ d no L i way) : ∃ (x : Lv) (rest : List Lv), way = x :: rest ∧ σ no = some ⟨if x.leaf then 1 else 2, Nd.str x.leaf x.cells⟩ ∧ Nd.right x.leaf x.cells = true ∧ Nd.sum x.leaf x.cells ≤ 488 ∧ x.idx < x.cells.length ∧
   ((x.leaf = true ∧ rest = []) ∨ (x.leaf = false ∧ ∃ (d' : Nat) (c : Ce) (L' : List En) (i' : Nat), x.cells[x.idx]? = some c ∧ Tr.On σ d' c.child L' i' rest)) := by
 cases d with
 | zero =>
   obtain ⟨h1, h2, rfl⟩ := h
   exact ⟨_, _, rfl, h1.page, h1.right, h1.sum, by rw [List.length_map]; exact h2, .inl ⟨rfl, rfl⟩⟩
 | succ d =>
   obtain ⟨ks, j, i', rest, k, h1, rfl, h3, h4, rfl, rfl⟩ := h
   exact ⟨_, _, rfl, h1.page, h1.right, h1.sum, by rw [List.length_map]; exact (List.getElem?_eq_some_iff.1 h3).1, .inr ⟨rfl, d, k.cell, k.L, i', by rw [List.getElem?_map, h3]; rfl, h4⟩⟩
theorem Cur.push {p : Store} (hp : Reads p) {S : List Nat} {σ : Book} {c root : Nat} {R : List Nat} {w wa w3 : World} {U : List Nat} {v : Value} {ls : List (Lv × Rw)} (h : Cur p S σ c root R w U v ls) (x : Lv) (q : Rw) (hr : CRow w (fun b => b ∉ U ∧ b ∉ R) q x.cells) (ha : Off [] w wa) (hg : wa.grownBy w3 v.ownBlock) {b cap H : Nat}
   (ho : w3.ownsRow 0 283 3 (.slice (some ⟨b, 0, none⟩) (ls.length + 1) cap) (ls.length + 1) (flatL ls ++ [.bool x.leaf, .slice q.A q.n q.c, .int .i64 x.idx])) (hat : v.ownBlock = some b ∨ b = H) (hH : w.heap.size ≤ H) (hlt : b < w3.heap.size) :
   Cur p S σ c root R (w3.setCell ⟨c, 2, none⟩ (.slice (some ⟨b, 0, none⟩) (ls.length + 1) cap)) (b :: U) (.slice (some ⟨b, 0, none⟩) (ls.length + 1) cap) (ls ++ [(x, q)]) ∧ Off U w (w3.setCell ⟨c, 2, none⟩ (.slice (some ⟨b, 0, none⟩) (ls.length + 1) cap)) ∧ Fresh w U (b :: U) := by
 have ho3 : Off U w w3 := (ha.mono (by simp)).grown hg (fun g hg => .inl (h.blk g hg))
 have hc3 : Bk w3 c 215 #[.iface p.T p.v, .int .i64 root, v] := by
   have hn : v.ownBlock ≠ some c := own_ne h.row h.top (by decide)
   have ho9 : Off v.ownBlock.toList w w3 := (ha.mono (by simp)).grown hg (fun g hg => .inl (by rw [Option.mem_toList]; exact hg))
   exact ho9.bk h.top (fun hh => hn (Option.mem_toList.1 hh))
 have hbc : b ≠ c := fun e => own_ne ho hc3 (by decide) (by rw [e]; rfl)
 have ho6 : Off U w (w3.setCell ⟨c, 2, none⟩ (.slice (some ⟨b, 0, none⟩) (ls.length + 1) cap)) := ho3.setCell (.inl h.mem) _
 have hf : Fresh w U (b :: U) := fun y hy => by
   rcases List.mem_cons.1 hy with rfl | hy
   · rcases hat with h1 | h1
     · exact .inl (h.blk _ h1)
     · exact .inr (by omega)
   · exact .inl hy
 refine ⟨h.renew hp ho6 (fun y hy => List.mem_cons_of_mem _ hy) hf (fun y hy => ?_) (hc3.put 2 _) ?_ (fun g hg => ?_) (fun y hy => ?_), ho6, hf⟩
 · rcases List.mem_cons.1 hy with rfl | hy
   · simpa using hlt
   · exact Nat.lt_of_lt_of_le (h.lt y hy) ho6.size
 · rw [flatL_app, flatL_one, List.length_append]
   exact ((Off.refl [c] w3).setCell (p := ⟨c, 2, none⟩) (.inl (by simp)) _).own ho (fun g hg hm => by
     have e : b = g := by simpa [Value.ownBlock] using hg
     rw [List.mem_singleton] at hm
     omega)
 · have e : b = g := by simpa [Value.ownBlock] using hg
   simp [e]
 · rcases List.mem_append.1 hy with hy | hy
   · exact .inl ⟨y, hy, rfl, rfl⟩
   · rw [List.mem_singleton] at hy
     subst hy
     refine .inr (hr.keep ho6.size (fun z hz hlt => ho6.block z hlt hz.1) (fun z hz hlt => ⟨fun hm => ?_, hz.2⟩))
     rcases hf z hm with h1 | h1
     · exact hz.1 h1
     · omega
def CurTo (p : Store) (S : List Nat) (σ : Book) (c root : Nat) (R : List Nat) (w : World) (U : List Nat) (way : List Lv) (w' : World) : Prop :=
 ∃ (U' : List Nat) (v : Value) (ls : List (Lv × Rw)), ls.map Prod.fst = way ∧ Cur p S σ c root R w' U' v ls ∧ Off U w w' ∧ Fresh w U U' ∧ ∀ b ∈ U, b ∈ U'
def Place (σ : Book) (root : Nat) (L : List En) : Option Nat → List Lv → Prop
 | none, way => way = []
 | some i, way => ∃ d, d ≤ 8 ∧ Tr.On σ d root L i way
theorem Place.len {σ : Book} {root : Nat} {L : List En} {o : Option Nat} {way : List Lv} (h : Place σ root L o way) : way.length ≤ 9 := by
 cases o with
 | none => rw [show way = [] from h]; simp
 | some i => obtain ⟨d, h1, h2⟩ := h; rw [h2.len]; omega
def CurIs (p : Store) (S : List Nat) (σ : Book) (c root : Nat) (R : List Nat) (L : List En) (w : World) (U : List Nat) (o : Option Nat) : Prop :=
 ∃ (v : Value) (ls : List (Lv × Rw)), Cur p S σ c root R w U v ls ∧ Place σ root L o (ls.map Prod.fst)
def CurPost (p : Store) (S : List Nat) (σ : Book) (c root : Nat) (R : List Nat) (L : List En) (w : World) (U : List Nat) (o : Option Nat) (w' : World) : Prop :=
 ∃ U', CurIs p S σ c root R L w' U' o ∧ Off U w w' ∧ Fresh w U U' ∧ ∀ b ∈ U, b ∈ U'
theorem CurTo.post {p : Store} {S : List Nat} {σ : Book} {c root : Nat} {R : List Nat} {L : List En} {w w' : World} {U : List Nat} {o : Option Nat} {way : List Lv} (h : CurTo p S σ c root R w U way w') (ho : Place σ root L o way) : CurPost p S σ c root R L w U o w' := by
 obtain ⟨U', v, ls, e, h1, h2, h3, h4⟩ := h
 exact ⟨U', ⟨v, ls, h1, by rw [e]; exact ho⟩, h2, h3, h4⟩
theorem CurTo.from {p : Store} {S : List Nat} {σ : Book} {c root : Nat} {R : List Nat} {w w1 w' : World} {U : List Nat} {way : List Lv} (ho : Off U w w1) (h : CurTo p S σ c root R w1 U way w') : CurTo p S σ c root R w U way w' := by
 obtain ⟨U', v, ls, e, h1, h2, h3, h4⟩ := h
 exact ⟨U', v, ls, e, h1, ho.trans h2, fun b hb => (h3 b hb).imp id (fun h => Nat.le_trans ho.size h), h4⟩
def Whole (σ : Book) (root : Nat) (L : List En) : Prop := (root = 0 ∧ L = []) ∨ ∃ d P, d ≤ 8 ∧ Tr.Stored σ d root P L
theorem Tr.Root.whole {σ : Book} {root : Nat} {P : List Nat} {L : List En} (h : Tr.Root σ root P L) (hn : P.Nodup) : Whole σ root L := by
 rcases h with ⟨rfl, rfl, rfl⟩ | ⟨d, h⟩
 · exact .inl ⟨rfl, rfl⟩
 · exact .inr ⟨d, P, h.low hn, h⟩
def Stuck (by' : Int) (x : Lv) : Prop := (x.idx : Int) + by' < 0 ∨ (x.cells.length : Int) ≤ (x.idx : Int) + by'
structure StepLaw (σ : Book) (root : Nat) (L : List En) (by' : Int) (way : List Lv) (o : Option Nat) (ch : List Ce → Nat) : Prop where
 dir : by' = 1 ∨ by' = -1
 none : (∀ x ∈ way, Stuck by' x) → o = none
 some : ∀ pre x post m, way = pre ++ x :: post → (∀ y ∈ post, Stuck by' y) → (x.idx : Int) + by' = ((m : Nat) : Int) → m < x.cells.length →
   (x.leaf = true ∧ post = [] ∧ Place σ root L o (pre ++ [⟨x.leaf, x.cells, m⟩])) ∨ (x.leaf = false ∧ ∃ (d' : Nat) (c : Ce) (L' : List En) (i2 : Nat) (way2 : List Lv), x.cells[m]? = Option.some c ∧ Tr.Dn σ ch d' c.child L' i2 way2 ∧ pre.length + 1 + way2.length ≤ 10 ∧ Place σ root L o (pre ++ ⟨x.leaf, x.cells, m⟩ :: way2))
theorem Cur.level {p : Store} {S : List Nat} {σ : Book} {c root : Nat} {R : List Nat} {w : World} {U : List Nat} {g n cap : Nat} {ls : List (Lv × Rw)} (h : Cur p S σ c root R w U (.slice (some ⟨g, 0, none⟩) n cap) ls) (j : Nat) (hj : j < ls.length) :
   w.cell? ⟨g, j * 3, none⟩ = some (.bool ls[j].1.leaf) ∧ w.cell? ⟨g, j * 3 + 1, none⟩ = some (.slice ls[j].2.A ls[j].2.n ls[j].2.c) ∧ w.cell? ⟨g, j * 3 + 2, none⟩ = some (.int .i64 ls[j].1.idx) ∧ w.frozen? ⟨g, j * 3 + 2, none⟩ = false ∧ n = ls.length ∧ g < w.heap.size ∧ g ≠ c := by
 obtain ⟨_, _, hv, -, -⟩ := own_form h.row
 injection hv with e1 e2 e3
 subst e2
 have hc := World.ownsRow.cells h.row (g := g) rfl
 have ha : ∀ k, ((⟨g, 0, none⟩ : Addr).add k) = ⟨g, k, none⟩ := fun k => by rw [addr_add, Nat.zero_add]
 have hg : ∀ k u, (flatL ls)[k]? = some u → w.cell? ⟨g, k, none⟩ = some u := fun k u hu => by rw [← ha k]; exact hc k u hu
 exact ⟨hg _ _ (flatL_get ls j hj 0 (by omega)), hg _ _ (flatL_get ls j hj 1 (by omega)), hg _ _ (flatL_get ls j hj 2 (by omega)), World.ownsRow.frozenAt h.row _, rfl, h.lt g (h.blk g rfl), fun e => own_ne h.row h.top (by decide) (by rw [e]; rfl)⟩
theorem Place.idx {σ : Book} {root : Nat} {L : List En} {o : Option Nat} {way : List Lv} (h : Place σ root L o way) : ∀ x ∈ way, x.idx < x.cells.length := by
 cases o with
 | none => rw [show way = [] from h]; simp
 | some i => obtain ⟨d, h1, h2⟩ := h; exact h2.idx
theorem Tr.Stored.ents {σ : Book} : ∀ {d no : Nat} {P : List Nat} {L : List En}, Tr.Stored σ d no P L → ∀ e ∈ L, Tr.EnOk σ e
 | 0, no, P, L, h, e, he => by
   obtain ⟨cs, P', rfl, g1, g2, g3, ⟨h1, h2, h3, h4⟩, g5⟩ := h
   exact h4 e he
 | d + 1, no, P, L, h, e, he => by
   obtain ⟨ks, hb, rfl⟩ := h.br
   obtain ⟨k, hk, he⟩ := List.mem_flatMap.1 he
   exact Tr.Stored.ents (hb.kids k hk) e he
namespace Tr
def Deep (σ : Book) (root : Nat) (L : List En) : Prop := (root = 0 ∧ L = []) ∨ ∃ d P, d ≤ 8 ∧ Stored σ d root P L
theorem Root.deep {σ : Book} {root : Nat} {P : List Nat} {L : List En} (h : Root σ root P L) (hn : P.Nodup) : Deep σ root L := by
 rcases h with ⟨h1, h2, h3⟩ | ⟨d, h⟩
 · exact .inl ⟨h1, h3⟩
 · exact .inr ⟨d, P, h.low hn, h⟩
end Tr
def FindsV (L : List En) (key : ByteArray) (v : Value) : Prop :=
 (∃ e ∈ L, e.cell.key = key ∧ v = .tuple #[.agg #[.string e.cell.key, .string e.cell.val, .int .i64 e.cell.over, .int .i64 e.cell.size, .int .i64 e.cell.child], .bool true, .int .i64 0])
 ∨ ((∀ e ∈ L, e.cell.key ≠ key) ∧ v = .tuple #[.agg #[.string ⟨#[]⟩, .string ⟨#[]⟩, .int .i64 0, .int .i64 0, .int .i64 0], .bool false, .int .i64 0])
set_option maxHeartbeats 16000000 in
theorem find_any {p : Store} (hp : Reads p) {w : World} {S : List Nat} {σ : Book} {k : Nat} (h : p.At w S σ k) (root : Nat) {L : List En} (hd : Tr.Deep σ root L) (key : ByteArray) :
   Calls Tryz.prog 121 #[.iface p.T p.v, .int .i64 root, .string key] w (fun e w' => Below w.heap.size w w' ∧ ∃ v, e = .returned v ∧ FindsV L key v) := by
 have HA := Lib.hid fun (W : World) (hb : Below w.heap.size w W) => hp.below h hb
 have HR := Lib.hid fun (W : World) (hb : Below w.heap.size w W) (no : Nat) (leaf : Bool) (s : ByteArray) (hσ : σ no = some ⟨if leaf then 1 else 2, s⟩) => raw_ok hp (hp.below h hb) no leaf s hσ
 have HS := Lib.hid seekn_any
 have HD := Lib.hid hd
 clear hd h hp
 go_enter Tryz.func121, Tryz.ntmps121
 go_wp2_with fail
 go_loopw [1, 15] (fun r i wr => ∃ (j no : Nat), i = .int .i64 j ∧ r = .int .i64 no ∧ j ≤ 9 ∧ Hid (Below (w.alloc (.cells #[.string ⟨#[]⟩, .string ⟨#[]⟩, .int .i64 0, .int .i64 0, .int .i64 0] 170)).heap.size (w.alloc (.cells #[.string ⟨#[]⟩, .string ⟨#[]⟩, .int .i64 0, .int .i64 0, .int .i64 0] 170)) wr)
   ∧ Hid ((no = 0 ∧ L = []) ∨ ∃ d P L', d + j ≤ 8 ∧ Tr.Stored σ d no P L' ∧ (∀ e ∈ L', e ∈ L) ∧ ∀ e ∈ L, e.cell.key = key → e ∈ L')) (fun _ i _ => 10 - (intOf i).toNat)
 case atStart => exact ⟨0, root, rfl, rfl, by omega, Lib.hid (Below.refl _ _), Lib.hid (HD.out.imp id fun ⟨d, P, h1, h2⟩ => ⟨d, P, L, by omega, h2, fun _ h => h, fun _ h _ => h⟩)⟩
 case round =>
   obtain ⟨j, no, rfl, rfl, hj, HB, HI⟩ := hrel
   have z1 : decide ((j : Int) < 10) = true := decide_eq_true (by omega)
   have HBW := Lib.hid (((Below.refl _ w).alloc (Nat.le_refl _) (.cells #[.string ⟨#[]⟩, .string ⟨#[]⟩, .int .i64 0, .int .i64 0, .int .i64 0] 170)).trans (HB.out.mono (by simp)))
   have HC := Lib.hid (bk_below (Bk.new w 170 #[.string ⟨#[]⟩, .string ⟨#[]⟩, .int .i64 0, .int .i64 0, .int .i64 0]) HB.out)
   rcases HI.out with ⟨rfl, hL⟩ | ⟨d, P, L', hdj, hst, hin, hkey⟩
   · obtain ⟨r0, r1, r2, r3, r4, s0, s1, s2, s3, s4, r5⟩ := HC.out.all5
     go_wp2_with fail
     refine bodyPost_ret (v := .tuple #[.agg #[.string ⟨#[]⟩, .string ⟨#[]⟩, .int .i64 0, .int .i64 0, .int .i64 0], .bool false, .int .i64 0]) (by simp [results, Tryz.results121, go_sem, r0, r1, r2, r3, r4, r5]) rfl ⟨?_, _, rfl, .inr ⟨by simp, rfl⟩⟩
     exact ((((HBW.out.setCell (p := ⟨w.heap.size, 0, none⟩) (Nat.le_refl _) _).setCell (p := ⟨w.heap.size, 1, none⟩) (Nat.le_refl _) _).setCell (p := ⟨w.heap.size, 2, none⟩) (Nat.le_refl _) _).setCell (p := ⟨w.heap.size, 3, none⟩) (Nat.le_refl _) _).setCell (p := ⟨w.heap.size, 4, none⟩) (Nat.le_refl _) _
   · obtain ⟨cs, P', hP, hn1, hn2, hσ, hpart, hsum, hne, h2c⟩ := hst
     have z2 : ((no : Int) == 0) = false := by simp; omega
     cases d with
     | zero =>
       have hright : Nd.right true cs = true := hpart.right.1
       have hrise := Nd.right_rise hright
       obtain ⟨hy1, hy2⟩ := Tr.find_leaf hpart hrise key
       have HRW := Lib.hid (HR.out wr HBW.out no true (Nd.str true cs) hσ)
       have HSK := Lib.hid fun (W : World) => seekn_any true cs key W hright hsum (fun h => nomatch h)
       obtain ⟨q, hq⟩ : ∃ q, q = Nd.has cs key := ⟨_, rfl⟩
       have HQ := Lib.hid hq
       go_wp2_with fail
       refine HRW.out.mono ?_
       rintro e w2 ⟨rfl, hb2⟩
       have HB2 := Lib.hid hb2
       clear hb2
       go_wp2_with fail
       refine (HSK.out _).mono ?_
       rintro e w3 ⟨hb3, ix, c, rfl, hway⟩
       rw [← hq]
       have HB3 := Lib.hid (HB2.out.trans (hb3.mono HB2.out.size))
       clear hb3 hq
       have HBW3 := Lib.hid (HBW.out.trans (HB3.out.mono HBW.out.size))
       obtain ⟨r0, r1, r2, r3, r4, s0, s1, s2, s3, s4, r5⟩ := (bk_below HC.out HB3.out).all5
       cases q with
       | true =>
         obtain ⟨e, he, hec, hck⟩ := hy1 c HQ.out.symm (hway.out HQ.out.symm)
         have HV := Lib.hid (show FindsV L key (.tuple #[.agg #[.string c.key, .string c.val, .int .i64 c.over, .int .i64 c.size, .int .i64 c.child], .bool true, .int .i64 0]) from .inl ⟨e, hin e he, by rw [hec]; exact hck, by rw [hec]⟩)
         clear hway hy1 hy2 hec hck
         go_wp2_with fail
         refine bodyPost_ret (v := .tuple #[.agg #[.string c.key, .string c.val, .int .i64 c.over, .int .i64 c.size, .int .i64 c.child], .bool true, .int .i64 0]) (by simp [results, Tryz.results121, go_sem, r0, r1, r2, r3, r4, r5]) rfl ⟨?_, _, rfl, HV.out⟩
         first | exact ((((((HBW3.out.setCell (p := ⟨w.heap.size, 0, none⟩) (Nat.le_refl _) _).setCell (p := ⟨w.heap.size, 1, none⟩) (Nat.le_refl _) _).setCell (p := ⟨w.heap.size, 2, none⟩) (Nat.le_refl _) _).setCell (p := ⟨w.heap.size, 3, none⟩) (Nat.le_refl _) _).setCell (p := ⟨w.heap.size, 4, none⟩) (Nat.le_refl _) _)).alloc (by simpa using HBW3.out.size) _ | exact ((((((HBW3.out.alloc HBW3.out.size _).setCell (p := ⟨w.heap.size, 0, none⟩) (Nat.le_refl _) _).setCell (p := ⟨w.heap.size, 1, none⟩) (Nat.le_refl _) _).setCell (p := ⟨w.heap.size, 2, none⟩) (Nat.le_refl _) _).setCell (p := ⟨w.heap.size, 3, none⟩) (Nat.le_refl _) _).setCell (p := ⟨w.heap.size, 4, none⟩) (Nat.le_refl _) _)
       | false =>
         have HV := Lib.hid (show FindsV L key (.tuple #[.agg #[.string ⟨#[]⟩, .string ⟨#[]⟩, .int .i64 0, .int .i64 0, .int .i64 0], .bool false, .int .i64 0]) from .inr ⟨fun e he hk => hy2 HQ.out.symm e (hkey e he hk) hk, rfl⟩)
         clear hway hy1 hy2
         go_wp2_with fail
         refine bodyPost_ret (v := .tuple #[.agg #[.string ⟨#[]⟩, .string ⟨#[]⟩, .int .i64 0, .int .i64 0, .int .i64 0], .bool false, .int .i64 0]) (by simp [results, Tryz.results121, go_sem, r0, r1, r2, r3, r4, r5]) rfl ⟨?_, _, rfl, HV.out⟩
         first | exact ((((((HBW3.out.setCell (p := ⟨w.heap.size, 0, none⟩) (Nat.le_refl _) _).setCell (p := ⟨w.heap.size, 1, none⟩) (Nat.le_refl _) _).setCell (p := ⟨w.heap.size, 2, none⟩) (Nat.le_refl _) _).setCell (p := ⟨w.heap.size, 3, none⟩) (Nat.le_refl _) _).setCell (p := ⟨w.heap.size, 4, none⟩) (Nat.le_refl _) _)).alloc (by simpa using HBW3.out.size) _ | exact ((((((HBW3.out.alloc HBW3.out.size _).setCell (p := ⟨w.heap.size, 0, none⟩) (Nat.le_refl _) _).setCell (p := ⟨w.heap.size, 1, none⟩) (Nat.le_refl _) _).setCell (p := ⟨w.heap.size, 2, none⟩) (Nat.le_refl _) _).setCell (p := ⟨w.heap.size, 3, none⟩) (Nat.le_refl _) _).setCell (p := ⟨w.heap.size, 4, none⟩) (Nat.le_refl _) _)
     | succ d =>
       have hright : Nd.right false cs = true := hpart.right.1
       have hrise := Nd.right_rise hright
       have hsp := Tr.find_spot hpart hrise key
       have HY := Lib.hid fun (c : Ce) => Tr.find_branch hpart hrise key (c := c)
       have HRW := Lib.hid (HR.out wr HBW.out no false (Nd.str false cs) hσ)
       have HSK := Lib.hid fun (W : World) => seekn_any false cs key W hright hsum (fun _ => hsp)
       clear hsp hpart hright hrise
       go_wp2_with fail
       refine HRW.out.mono ?_
       rintro e w2 ⟨rfl, hb2⟩
       have HB2 := Lib.hid hb2
       clear hb2
       go_wp2_with fail
       refine (HSK.out _).mono ?_
       rintro e w3 ⟨hb3, ix, c, rfl, hway⟩
       obtain ⟨q, hq⟩ : ∃ q, q = Nd.has cs key := ⟨_, rfl⟩
       rw [← hq]
       have HB3 := Lib.hid (HB2.out.trans (hb3.mono HB2.out.size))
       obtain ⟨P2, L2, g1, g2, g3, g4⟩ := HY.out c hway.out
       have hc0 : ((c.child : Int) == 0) = false := by
         obtain ⟨_, _, _, hh, _⟩ := g1
         simp; omega
       have HG := Lib.hid (show ∃ d' P' L', d' + (j + 1) ≤ 8 ∧ Tr.Stored σ d' c.child P' L' ∧ (∀ e ∈ L', e ∈ L) ∧ ∀ e ∈ L, e.cell.key = key → e ∈ L' from ⟨d, P2, L2, by omega, g1, fun e he => hin e (g3 e he), fun e he hk => g4 e (hkey e he hk) hk⟩)
       clear hb3 hq hway g1 g2 g3 g4
       go_wp2_with fail
       go_roundw
       case rel =>
         have h5 := (HB.out.trans (HB3.out.mono HB.out.size))
         exact ⟨j + 1, c.child, by go_num, rfl, by (obtain ⟨d', P', L', h, -⟩ := HG.out; omega), Lib.hid (by first | exact h5.alloc h5.size _ | exact h5), Lib.hid (.inr HG.out)⟩
       case measure => simp [intOf]; omega
end Go.Proofs.YtjbcbnemdhbhbaaGreatDoor

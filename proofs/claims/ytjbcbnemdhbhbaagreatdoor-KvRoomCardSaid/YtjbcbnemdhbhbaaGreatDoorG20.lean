import Derived.Test.YtjbcbnemdhbhbaaGreatDoorG15
import Derived.Test.YtjbcbnemdhbhbaaGreatDoorG13
namespace Go.Proofs.YtjbcbnemdhbhbaaGreatDoor
open Go.RowKit
set_option linter.unusedVariables false
set_option linter.unusedSimpArgs false
namespace Tr
theorem parts_good {σ : Book} {d : Nat} {cs : List Ce} {P : List Nat} {L : List En} (h : Part σ d cs P L) (key : ByteArray) (hk : ∀ e ∈ L, Nd.lt e.cell.key key = false) (hks : key.size ≤ 120) (hs : Nd.sum (d == 0) cs ≤ 750) (hg : Good (d == 0) cs L ∧ Fat d L) :
   ∃ xs, Parts σ d key (partsL key (d == 0) cs) P L xs ∧ ∀ x ∈ xs, Good (d == 0) x.cs x.L ∧ Fat d x.L := by
 obtain ⟨xs, hp⟩ := h.parts key hk hks hs
 refine ⟨xs, hp, ?_⟩
 rcases hp.count with h1 | ⟨-, h1⟩
 · obtain ⟨x, e, -, -, h2, h3, -, -⟩ := hp.one h1
   subst e
   intro y hy
   obtain rfl := List.mem_singleton.1 hy
   have h4 : cs = y.cs := by
     have h5 := hp.pts
     unfold partsL at h5
     split at h5
     · simp [Pd.pt] at h5; exact h5.2
     · simp at h5
   rw [← h4, ← h2]
   exact hg
 · exact h1
theorem mid_core {σ σ2 : Book} {d : Nat} {A C : List Kd} {k0 k1 : Kd} {X : List Nat} {F : List En} {a b : List Ce} {Pa Pb : List Nat} {La Lb : List En} (ha : Part σ2 d a Pa La) (hb : Part σ2 d b Pb Lb) (h1 : ∀ e ∈ La, Nd.lt e.cell.key k1.key = true) (h2 : ∀ e ∈ Lb, Nd.lt e.cell.key k1.key = false)
   (hk0 : k0.key.size ≤ 120) (hk1 : k1.key.size ≤ 120) (hm : Moved σ (k0.P ++ k1.P ++ X) σ2 (Pa ++ Pb)) (hlow : ∀ e ∈ La ++ Lb, Nd.lt e.cell.key k0.key = false) (hup : ∀ e ∈ La ++ Lb, ∀ c ∈ C, Nd.lt e.cell.key c.key = true) (heq : F = A.flatMap (·.L) ++ (La ++ Lb) ++ C.flatMap (·.L))
   (hs : Nd.sum (d == 0) a + Nd.sum (d == 0) b ≤ 612) (hg : La ++ Lb ≠ []) (hg2 : (d == 0) = false → 2 ≤ a.length + b.length) (hg3 : d = 0 → 122 ≤ Nd.sum true a ∨ 122 ≤ Nd.sum true b) :
   (∃ xs, Mid σ d A [k0, k1] C X F k0.key σ2 (partsL k0.key (d == 0) (a ++ Nd.first (d == 0) k1.key b)) xs (La ++ Lb)) ∧ Nd.sum (d == 0) (a ++ Nd.first (d == 0) k1.key b) ≤ 750 ∧ ∀ c ∈ a ++ Nd.first (d == 0) k1.key b, Nd.rightOne (d == 0) c = true := by
 have hj := ha.join hb h1 h2 hk1
 have hsum : Nd.sum (d == 0) (a ++ Nd.first (d == 0) k1.key b) ≤ 750 := by
   have e1 := Nd.sum_app (d == 0) a (Nd.first (d == 0) k1.key b)
   have e2 := Nd.sum_first (d == 0) k1.key b
   omega
 obtain ⟨xs, hx, hgx⟩ := parts_good hj k0.key hlow hk0 hsum ⟨⟨hg, fun hd => by rw [List.length_append, Nd.first_len]; exact hg2 hd⟩, fun hd => by
   subst hd
   have e1 := hj.1
   rw [← e1]
   have e2 := Nd.sum_app true a b
   have e3 := Nd.sum_ge true a
   have e4 := Nd.sum_ge true b
   have e5 := hg3 rfl
   show 122 ≤ Nd.sum true (a ++ b)
   omega⟩
 exact ⟨⟨xs, ⟨k0, [k1], rfl, rfl⟩, ⟨_, hx, by simpa using hm⟩, hup, heq, hgx⟩, hsum, hj.right.2⟩
theorem other_kept {σ σ1 : Book} {d : Nat} {x o : Kd} {X P1 : List Nat} (hm : Moved σ (x.P ++ X) σ1 P1) (hof : Fat d o.L) (ho : Stored σ d o.no o.P o.L) (hN : (x.P ++ X ++ o.P).Nodup) :
   ∃ (ocs : List Ce) (oP : List Nat), o.P = o.no :: oP ∧ σ1 o.no = some ⟨if (d == 0) then 1 else 2, Nd.str (d == 0) ocs⟩ ∧ Part (upd σ1 o.no none) d ocs oP o.L ∧ Nd.sum (d == 0) ocs ≤ 488 ∧ o.L ≠ [] ∧ ((d == 0) = false → 2 ≤ ocs.length) ∧ (∀ n ∈ P1, n ≠ o.no) ∧ Moved σ (x.P ++ X ++ o.P) (upd σ1 o.no none) (P1 ++ oP) ∧ Nd.right (d == 0) ocs = true ∧ 0 < ocs.length ∧ (d = 0 → 122 ≤ Nd.sum true ocs) := by
 obtain ⟨h1, h2, h3⟩ := List.nodup_append.1 hN
 have hmem := fun n hn => (ho.mem n hn).2.2
 have hdis : ∀ n ∈ o.P, n ∉ x.P ++ X := fun n hn hm => h3 n hm n hn rfl
 have hsame := hm.same hmem hdis
 have hfr := hm.frame hmem h2 hdis
 have ho1 := ho.congr hsame
 obtain ⟨ocs, oP, e, g1, g2, g3, g4, g5, g6, g7⟩ := ho1
 have hno : o.no ∉ P1 ++ oP := by
   have hnd := hfr.nodup
   rw [e] at hnd
   obtain ⟨q1, q2, q3⟩ := List.nodup_append.1 hnd
   intro hh
   rcases List.mem_append.1 hh with hh | hh
   · exact q3 _ hh _ (by simp) rfl
   · exact (List.nodup_cons.1 q2).1 hh
 have hkeep : ∀ n ∈ P1 ++ oP, upd σ1 o.no none n = σ1 n := fun n hn => upd_ne _ _ (fun e => hno (by rw [← e]; exact hn))
 refine ⟨ocs, oP, e, g3, g4.congr fun n hn => hkeep n (by simp [hn]), g5, g6, g7, fun n hn e => hno (by rw [← e]; simp [hn]), ?_, g4.right.1, ?_, fun hd => ?_⟩
 · refine hfr.trans ?_
   have f1 := (Moved.drop σ1 o.no).frame (R := P1 ++ oP) (fun n hn => hfr.there n (by rw [e]; rcases List.mem_append.1 hn with hn | hn <;> simp [hn])) (by
     have hnd := hfr.nodup
     rw [e] at hnd
     obtain ⟨q1, q2, q3⟩ := List.nodup_append.1 hnd
     exact List.nodup_append.2 ⟨q1, (List.nodup_cons.1 q2).2, fun a ha b hb => q3 a ha b (by simp [hb])⟩) (fun n hn => by simp; rintro rfl; exact hno hn)
   refine f1.perm ?_ ?_
   · rw [e, List.singleton_append]
     exact List.perm_middle.symm
   · simp
 · cases d with
   | zero =>
     obtain ⟨q1, -⟩ := g4
     cases ocs with
     | nil => cases hL : o.L with
       | nil => exact absurd hL g6
       | cons a t => rw [hL] at q1; simp at q1
     | cons a t => simp
   | succ d => have := g7 rfl; omega
 · subst hd
   rw [g4.1]
   exact hof rfl
theorem kids_two {σ : Book} {d : Nat} {A C : List Kd} {k0 k1 : Kd} {X : List Nat} (hB : Kids σ d (A ++ [k0, k1] ++ C)) (hN : ((A ++ [k0, k1] ++ C).flatMap (·.P) ++ X).Nodup) :
   (k0.P ++ X ++ k1.P).Nodup ∧ (k1.P ++ X ++ k0.P).Nodup ∧ k0.key.size ≤ 120 ∧ k1.key.size ≤ 120 ∧ Stored σ d k0.no k0.P k0.L ∧ Stored σ d k1.no k1.P k1.L ∧ (∀ e ∈ k0.L, Nd.lt e.cell.key k1.key = true) ∧ (∀ e ∈ k1.L, Nd.lt e.cell.key k1.key = false) ∧ (∀ e ∈ k0.L, Nd.lt e.cell.key k0.key = false) ∧
     Nd.lt k0.key k1.key = true ∧ (∀ c ∈ C, ∀ e ∈ k0.L, Nd.lt e.cell.key c.key = true) ∧ (∀ c ∈ C, ∀ e ∈ k1.L, Nd.lt e.cell.key c.key = true) ∧ (∀ a ∈ A, ∀ e ∈ a.L, Nd.lt e.cell.key k0.key = true) ∧ (∀ c ∈ C, ∀ e ∈ c.L, Nd.lt e.cell.key c.key = false) ∧ Fat d k0.L ∧ Fat d k1.L := by
 have h0 := hB.each k0 (by simp)
 have h1 := hB.each k1 (by simp)
 have hs := hB.sep
 rw [List.map_append, List.map_append, sep_app, sep_app] at hs
 obtain ⟨⟨sA, sM, sAM⟩, sC, sMC⟩ := hs
 rw [List.map_cons, sep_cons] at sM
 obtain ⟨⟨m1, m2⟩, m3⟩ := sM
 have q01 := m1 k1.rg (by simp)
 obtain ⟨z, t, hz⟩ := List.exists_cons_of_ne_nil h0.2.ne
 have hz : z ∈ k0.L := by rw [hz]; simp
 have hp : (k0.P ++ X ++ k1.P).Nodup ∧ (k1.P ++ X ++ k0.P).Nodup := by
   have e : ((A ++ [k0, k1] ++ C).flatMap (·.P) ++ X) = A.flatMap (·.P) ++ (k0.P ++ (k1.P ++ (C.flatMap (·.P) ++ X))) := by
     simp
   rw [e] at hN
   have n1 := (List.nodup_append.1 hN).2.1
   obtain ⟨a1, a2, a3⟩ := List.nodup_append.1 n1
   obtain ⟨b1, b2, b3⟩ := List.nodup_append.1 a2
   obtain ⟨c1, c2, c3⟩ := List.nodup_append.1 b2
   constructor
   · refine List.nodup_append.2 ⟨List.nodup_append.2 ⟨a1, c2, fun a ha b hb => a3 a ha b (by simp [hb])⟩, b1, fun a ha b hb => ?_⟩
     rcases List.mem_append.1 ha with ha | ha
     · exact a3 a ha b (by simp [hb])
     · exact fun e => b3 b hb a (by simp [ha]) e.symm
   · refine List.nodup_append.2 ⟨List.nodup_append.2 ⟨b1, c2, fun a ha b hb => b3 a ha b (by simp [hb])⟩, a1, fun a ha b hb => ?_⟩
     rcases List.mem_append.1 ha with ha | ha
     · exact fun e => a3 b hb a (by simp [ha]) e.symm
     · exact fun e => a3 b hb a (by simp [ha]) e.symm
 exact ⟨hp.1, hp.2, h0.1.1, h1.1.1, h0.2, h1.2, q01, m3.2 k1.rg (by simp), m2, le_lt (m2 z hz) (q01 z hz), fun c hc e he => sMC k0.rg (by simp) c.rg (List.mem_map_of_mem hc) e he, fun c hc e he => sMC k1.rg (by simp) c.rg (List.mem_map_of_mem hc) e he,
   fun a ha e he => sAM a.rg (List.mem_map_of_mem ha) k0.rg (by simp) e he, fun c hc e he => sC.2 c.rg (List.mem_map_of_mem hc) e he, h0.1.2, h1.1.2⟩
theorem mid_join0 {σ σ1 : Book} {d : Nat} {C : List Kd} {k0 k1 : Kd} {X : List Nat} {f : List En → List En} {key : ByteArray} {xd : Pd} (hf : IsChange key f) (hB : Kids σ d ([] ++ [k0, k1] ++ C)) (hN : (([] ++ [k0, k1] ++ C : List Kd).flatMap (·.P) ++ X).Nodup)
   (hC : ∀ c ∈ k1 :: C, Nd.lt key c.key = true) (hx : Nd.lt key k0.key = false) (hm : Moved σ (k0.P ++ X) σ1 xd.P) (hp : Part σ1 d xd.cs xd.P (f k0.L)) (hs : Nd.sum (d == 0) xd.cs < 122) (hc : (d == 0) = false → 1 ≤ xd.cs.length) :
   ∃ ocs, σ1 k1.no = some ⟨if (d == 0) then 1 else 2, Nd.str (d == 0) ocs⟩ ∧ Nd.right (d == 0) ocs = true ∧ Nd.sum (d == 0) ocs ≤ 488 ∧ 0 < ocs.length ∧ (∃ xs, Mid σ d [] [k0, k1] C X (f (([] ++ [k0, k1] ++ C : List Kd).flatMap (·.L))) k0.key (upd σ1 k1.no none) (partsL k0.key (d == 0) (xd.cs ++ Nd.first (d == 0) k1.key ocs)) xs (f k0.L ++ k1.L)) ∧
     Nd.sum (d == 0) (xd.cs ++ Nd.first (d == 0) k1.key ocs) ≤ 750 ∧ ∀ c ∈ xd.cs ++ Nd.first (d == 0) k1.key ocs, Nd.rightOne (d == 0) c = true := by
 obtain ⟨n1, n2, s0, s1, t0, t1, q1, q2, q3, q4, q5, q6, q7, q8, f0, f1⟩ := kids_two hB hN
 obtain ⟨ocs, oP, e, g1, g2, g3, g4, g5, g6, g7, g8, g9, g10⟩ := other_kept hm f1 t1 n1
 have hpx : Part (upd σ1 k1.no none) d xd.cs xd.P (f k0.L) := hp.congr fun n hn => upd_ne _ _ (g6 n hn)
 refine ⟨ocs, g1, g8, g3, g9, ?_⟩
 refine mid_core hpx g2 (fun e he => ?_) q2 s0 s1 (g7.perm (by rw [List.append_assoc, List.append_assoc]; exact List.Perm.append_left _ List.perm_append_comm) (List.Perm.refl _)) (fun e he => ?_) (fun e he c hc9 => ?_) ?_ (by omega) (by simp [g4]) (fun hd => by have := g5 hd; omega) (fun hd => .inr (g10 hd))
 · rcases hf.mem _ e he with h | h
   · exact q1 e h
   · rw [h]; exact hC k1 (by simp)
 · rcases List.mem_append.1 he with he | he
   · rcases hf.mem _ e he with h | h
     · exact q3 e h
     · rw [h]; exact hx
   · exact le_of_lt (lt_le q4 (q2 e he))
 · rcases List.mem_append.1 he with he | he
   · rcases hf.mem _ e he with h | h
     · exact q5 c hc9 e h
     · rw [h]; exact hC c (by simp [hc9])
   · exact q6 c hc9 e he
 · have h9 := hf.loc [] k0.L (k1.L ++ C.flatMap (·.L)) (by simp) (fun e he => by
     rcases List.mem_append.1 he with he | he
     · exact lt_le (hC k1 (by simp)) (q2 e he)
     · obtain ⟨c, hc9, he⟩ := List.mem_flatMap.1 he
       exact lt_le (hC c (by simp [hc9])) (q8 c hc9 e he))
   simpa using h9
theorem mid_join1 {σ σ1 : Book} {d : Nat} {A C : List Kd} {k0 k1 : Kd} {X : List Nat} {f : List En → List En} {key : ByteArray} {xd : Pd} (hf : IsChange key f) (hB : Kids σ d (A ++ [k0, k1] ++ C)) (hN : ((A ++ [k0, k1] ++ C).flatMap (·.P) ++ X).Nodup)
   (hC : ∀ c ∈ C, Nd.lt key c.key = true) (hx : Nd.lt key k1.key = false) (hm : Moved σ (k1.P ++ X) σ1 xd.P) (hp : Part σ1 d xd.cs xd.P (f k1.L)) (hs : Nd.sum (d == 0) xd.cs < 122) (hc : (d == 0) = false → 1 ≤ xd.cs.length) :
   ∃ ocs, σ1 k0.no = some ⟨if (d == 0) then 1 else 2, Nd.str (d == 0) ocs⟩ ∧ Nd.right (d == 0) ocs = true ∧ Nd.sum (d == 0) ocs ≤ 488 ∧ 0 < ocs.length ∧ (∃ xs, Mid σ d A [k0, k1] C X (f ((A ++ [k0, k1] ++ C).flatMap (·.L))) k0.key (upd σ1 k0.no none) (partsL k0.key (d == 0) (ocs ++ Nd.first (d == 0) k1.key xd.cs)) xs (k0.L ++ f k1.L)) ∧
     Nd.sum (d == 0) (ocs ++ Nd.first (d == 0) k1.key xd.cs) ≤ 750 ∧ ∀ c ∈ ocs ++ Nd.first (d == 0) k1.key xd.cs, Nd.rightOne (d == 0) c = true := by
 obtain ⟨n1, n2, s0, s1, t0, t1, q1, q2, q3, q4, q5, q6, q7, q8, f0, f1⟩ := kids_two hB hN
 obtain ⟨ocs, oP, e, g1, g2, g3, g4, g5, g6, g7, g8, g9, g10⟩ := other_kept hm f0 t0 n2
 have hpx : Part (upd σ1 k0.no none) d xd.cs xd.P (f k1.L) := hp.congr fun n hn => upd_ne _ _ (g6 n hn)
 refine ⟨ocs, g1, g8, g3, g9, ?_⟩
 refine mid_core g2 hpx q1 (fun e he => ?_) s0 s1 (g7.perm ?_ List.perm_append_comm) (fun e he => ?_) (fun e he c hc9 => ?_) ?_ (by omega) (by simp [g4]) (fun hd => by have := g5 hd; omega) (fun hd => .inl (g10 hd))
 · rcases hf.mem _ e he with h | h
   · exact q2 e h
   · rw [h]; exact hx
 · rw [List.append_assoc k0.P]
   exact List.perm_append_comm
 · rcases List.mem_append.1 he with he | he
   · exact q3 e he
   · rcases hf.mem _ e he with h | h
     · exact le_of_lt (lt_le q4 (q2 e h))
     · rw [h]; exact le_of_lt (lt_le q4 hx)
 · rcases List.mem_append.1 he with he | he
   · exact q5 c hc9 e he
   · rcases hf.mem _ e he with h | h
     · exact q6 c hc9 e h
     · rw [h]; exact hC c hc9
 · have h9 := hf.loc (A.flatMap (·.L) ++ k0.L) k1.L (C.flatMap (·.L)) (fun e he => by
     have h0 : ∀ e : En, Nd.lt e.cell.key k1.key = true → Nd.lt e.cell.key key = true := fun e h => lt_le h hx
     rcases List.mem_append.1 he with he | he
     · obtain ⟨a, ha, he⟩ := List.mem_flatMap.1 he
       exact h0 e (Nd.lt_trans (q7 a ha e he) q4)
     · exact h0 e (q1 e he)) (fun e he => by
     obtain ⟨c, hc9, he⟩ := List.mem_flatMap.1 he
     exact lt_le (hC c hc9) (q8 c hc9 e he))
   simpa using h9
end Tr
namespace Tr
def spotE (l : List En) (key : ByteArray) : Nat := Nd.spot (l.map (·.cell)) key
def hasE (l : List En) (key : ByteArray) : Bool := Nd.has (l.map (·.cell)) key
def putE (key : ByteArray) (e : En) (l : List En) : List En := l.take (spotE l key) ++ ([e] ++ l.drop (if hasE l key then spotE l key + 1 else spotE l key))
theorem spotE_le (l : List En) (key : ByteArray) : spotE l key ≤ l.length := by have := Nd.spot_le (l.map (·.cell)) key; rw [List.length_map] at this; exact this
theorem spot_of_split (a b : List En) (key : ByteArray) (h1 : ∀ x ∈ a, Nd.lt x.cell.key key = true) (h2 : ∀ y t, b = y :: t → Nd.lt y.cell.key key = false) : spotE (a ++ b) key = a.length := by
 refine Nd.spot_of _ key a.length (by simp) (fun i h => ?_) (fun h => ?_)
 · rw [List.getElem_map, List.getElem_append_left h]
   exact h1 _ (List.getElem_mem h)
 · rw [List.getElem_map, List.getElem_append_right (Nat.le_refl _)]
   cases b with
   | nil => simp at h
   | cons y t => simpa using h2 y t rfl
theorem spot_split (key : ByteArray) : ∀ (l : List En), ∃ a b, l = a ++ b ∧ (∀ x ∈ a, Nd.lt x.cell.key key = true) ∧ (∀ y t, b = y :: t → Nd.lt y.cell.key key = false)
 | [] => ⟨[], [], rfl, by simp, by simp⟩
 | x :: l => by
   cases hx : Nd.lt x.cell.key key with
   | true =>
     obtain ⟨a, b, rfl, h1, h2⟩ := spot_split key l
     exact ⟨x :: a, b, rfl, fun y hy => by rcases List.mem_cons.1 hy with rfl | hy; exact hx; exact h1 y hy, h2⟩
   | false => exact ⟨[], x :: l, rfl, by simp, fun y t e => by injection e with e1 e2; rw [← e1]; exact hx⟩
def rest (key : ByteArray) : List En → List En
 | [] => []
 | y :: t => if (y.cell.key.toList == key.toList) = true then t else y :: t
theorem putE_split (a b : List En) (key : ByteArray) (e : En) (h1 : ∀ x ∈ a, Nd.lt x.cell.key key = true) (h2 : ∀ y t, b = y :: t → Nd.lt y.cell.key key = false) : putE key e (a ++ b) = a ++ ([e] ++ rest key b) := by
 have hs := spot_of_split a b key h1 h2
 have hh : hasE (a ++ b) key = (match b with | [] => false | y :: _ => y.cell.key.toList == key.toList) := by
   unfold hasE Nd.has
   rw [show Nd.spot ((a ++ b).map (·.cell)) key = a.length from hs, List.getElem?_map, List.getElem?_append_right (Nat.le_refl _), Nat.sub_self]
   cases b <;> rfl
 unfold putE
 rw [hs, hh, List.take_left]
 cases b with
 | nil => simp [rest]
 | cons y t =>
   simp only [rest]
   split
   · have : (a ++ y :: t).drop (a.length + 1) = t := by rw [← List.drop_drop, List.drop_left]; rfl
     rw [this]
   · rw [List.drop_left]
theorem rest_mem (key : ByteArray) : ∀ (b : List En), ∀ x ∈ rest key b, x ∈ b
 | [], x, h => h
 | y :: t, x, h => by
   simp only [rest] at h
   split at h
   · exact List.mem_cons_of_mem _ h
   · exact h
theorem rest_sub (key : ByteArray) : ∀ (b : List En), (rest key b).Sublist b
 | [] => List.Sublist.refl _
 | y :: t => by
   simp only [rest]
   split
   · exact List.sublist_cons_self _ _
   · exact List.Sublist.refl _
theorem rest_gt {key : ByteArray} {b : List En} (hr : Rising b) (h2 : ∀ y t, b = y :: t → Nd.lt y.cell.key key = false) : ∀ x ∈ rest key b, Nd.lt key x.cell.key = true := by
 cases b with
 | nil => intro x hx; simp [rest] at hx
 | cons y t =>
   have h3 := h2 y t rfl
   have h4 := List.pairwise_cons.1 hr
   intro x hx
   simp only [rest] at hx
   split at hx
   · next he =>
     have he2 : y.cell.key = key := Nd.str_ext (by simpa using he)
     rw [← he2]
     exact h4.1 x hx
   · next he =>
     have hy : Nd.lt key y.cell.key = true := by
       rcases Nd.lt_total y.cell.key key with h | h | h
       · rw [h3] at h; cases h
       · exact absurd (by rw [h]; simp) he
       · exact h
     rcases List.mem_cons.1 hx with rfl | hx
     · exact hy
     · exact Nd.lt_trans hy (h4.1 x hx)
theorem rest_sum (key : ByteArray) : ∀ (b : List En), Nd.sum true ((rest key b).map (·.cell)) ≤ Nd.sum true (b.map (·.cell))
 | [] => Nat.le_refl _
 | y :: t => by
   simp only [rest]
   split
   · rw [List.map_cons, Nd.sum_cons]; omega
   · exact Nat.le_refl _
theorem put_change (key : ByteArray) (e : En) (he : e.cell.key = key) (hs : Nd.size true e.cell ≤ 223) : IsChange key (putE key e) := by
 refine ⟨?_, ?_, ?_, ?_⟩
 · intro A l C hA hC
   obtain ⟨a, b, rfl, h1, h2⟩ := spot_split key l
   rw [putE_split a b key e h1 h2]
   have e0 : A ++ (a ++ b) ++ C = (A ++ a) ++ (b ++ C) := by simp
   rw [e0, putE_split (A ++ a) (b ++ C) key e (fun x hx => by rcases List.mem_append.1 hx with hx | hx; exact hA x hx; exact h1 x hx) (fun y t hy => by
     cases b with
     | nil =>
       rw [List.nil_append] at hy
       exact Nd.lt_asymm (hC y (by rw [hy]; simp))
     | cons y' t' =>
       injection hy with hy1 hy2
       rw [← hy1]
       exact h2 y' t' rfl)]
   have e1 : rest key (b ++ C) = rest key b ++ C := by
     cases b with
     | nil =>
       cases C with
       | nil => rfl
       | cons z u =>
         show rest key (z :: u) = z :: u
         simp only [rest]
         rw [if_neg (by rw [(Nd.lt_ne (hC z (by simp))).2]; simp)]
     | cons y t =>
       show rest key (y :: (t ++ C)) = _
       simp only [rest]
       split <;> simp
   rw [e1]
   simp
 · intro l x hx
   obtain ⟨a, b, rfl, h1, h2⟩ := spot_split key l
   rw [putE_split a b key e h1 h2] at hx
   rcases List.mem_append.1 hx with hx | hx
   · exact .inl (by simp [hx])
   · rcases List.mem_append.1 hx with hx | hx
     · rw [List.mem_singleton.1 hx]; exact .inr he
     · exact .inl (by have := rest_mem key b x hx; simp [this])
 · intro l hr
   obtain ⟨a, b, rfl, h1, h2⟩ := spot_split key l
   rw [putE_split a b key e h1 h2]
   obtain ⟨r1, r2, r3⟩ := rising_app hr
   have hg := rest_gt r2 h2
   refine List.pairwise_append.2 ⟨r1, List.pairwise_cons.2 ⟨fun x hx => by rw [he]; exact hg x hx, List.Pairwise.sublist (rest_sub key b) r2⟩, fun x hx y hy => ?_⟩
   rcases List.mem_cons.1 hy with rfl | hy
   · rw [he]; exact h1 x hx
   · exact Nd.lt_trans (h1 x hx) (hg y hy)
 · intro l
   obtain ⟨a, b, rfl, h1, h2⟩ := spot_split key l
   rw [putE_split a b key e h1 h2]
   have e1 := Nd.sum_app true (a.map (·.cell)) ((e :: rest key b).map (·.cell))
   have e2 := Nd.sum_app true (a.map (·.cell)) (b.map (·.cell))
   have e3 := rest_sum key b
   rw [← List.map_append] at e1 e2
   rw [List.map_cons, Nd.sum_cons] at e1
   show Nd.sum true ((a ++ (e :: rest key b)).map (·.cell)) ≤ _
   omega
theorem put_ne (key : ByteArray) (e : En) (l : List En) : putE key e l ≠ [] := by
 unfold putE
 simp
end Tr
end Go.Proofs.YtjbcbnemdhbhbaaGreatDoor

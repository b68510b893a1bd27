import Derived.Test.YtjbcbnemdhbhbaaGreatDoorG14
namespace Go.Proofs.YtjbcbnemdhbhbaaGreatDoor
open Go.RowKit
set_option linter.unusedVariables false
set_option linter.unusedSimpArgs false
namespace Tr
def upd (σ : Book) (n : Nat) (x : Option Pgg) : Book := fun m => if m = n then x else σ m
theorem upd_same (σ : Book) (n : Nat) (x : Option Pgg) : upd σ n x n = x := by simp [upd]
theorem upd_ne (σ : Book) {n m : Nat} (x : Option Pgg) (h : m ≠ n) : upd σ n x m = σ m := by simp [upd, h]
structure Moved (σ : Book) (Q : List Nat) (σ' : Book) (P' : List Nat) : Prop where
 keep : ∀ n, n ∉ Q → σ n ≠ none → σ' n = σ n
 new : ∀ n ∈ P', n ∈ Q ∨ σ n = none
 dom : ∀ n, σ' n ≠ none → n ∈ P' ∨ (n ∉ Q ∧ σ n ≠ none)
 there : ∀ n ∈ P', σ' n ≠ none
 nodup : P'.Nodup
theorem Moved.refl {σ : Book} {Q : List Nat} (h : ∀ n ∈ Q, σ n ≠ none) (hn : Q.Nodup) : Moved σ Q σ Q :=
 ⟨fun _ _ _ => rfl, fun n h => .inl h, fun n h => by
   by_cases hq : n ∈ Q
   · exact .inl hq
   · exact .inr ⟨hq, h⟩, h, hn⟩
theorem Moved.drop (σ : Book) (n : Nat) : Moved σ [n] (upd σ n none) [] :=
 ⟨fun m hm _ => upd_ne _ _ (by simpa using hm), fun m hm => by simp at hm, fun m hm => by
   by_cases e : m = n
   · subst e; rw [upd_same] at hm; exact absurd rfl hm
   · rw [upd_ne _ _ e] at hm; exact .inr ⟨by simpa using e, hm⟩, fun m hm => by simp at hm, List.nodup_nil⟩
theorem Moved.make {σ : Book} {n : Nat} (h : σ n = none) (x : Pgg) : Moved σ [] (upd σ n (some x)) [n] :=
 ⟨fun m _ hm => upd_ne _ _ (by rintro rfl; exact hm h), fun m hm => by rw [List.mem_singleton] at hm; subst hm; exact .inr h, fun m hm => by
   by_cases e : m = n
   · exact .inl (by simp [e])
   · rw [upd_ne _ _ e] at hm; exact .inr ⟨by simp, hm⟩, fun m hm => by rw [List.mem_singleton] at hm; subst hm; rw [upd_same]; simp, by simp⟩
theorem Moved.trans {σ σ1 σ2 : Book} {Q P1 P2 : List Nat} (h : Moved σ Q σ1 P1) (k : Moved σ1 P1 σ2 P2) : Moved σ Q σ2 P2 := by
 refine ⟨fun n hn hs => ?_, fun n hn => ?_, fun n hn => ?_, k.there, k.nodup⟩
 · have h1 := h.keep n hn hs
   rw [k.keep n (fun hp => (h.new n hp).elim hn hs) (by rw [h1]; exact hs), h1]
 · rcases k.new n hn with h1 | h1
   · exact h.new n h1
   · by_cases hq : n ∈ Q
     · exact .inl hq
     · by_cases hs : σ n = none
       · exact .inr hs
       · exact absurd ((h.keep n hq hs).symm.trans h1) hs
 · rcases k.dom n hn with h1 | ⟨h1, h2⟩
   · exact .inl h1
   · rcases h.dom n h2 with h3 | h3
     · exact absurd h3 h1
     · exact .inr h3
theorem Moved.frame {σ σ' : Book} {Q P' : List Nat} (h : Moved σ Q σ' P') {R : List Nat} (hR : ∀ n ∈ R, σ n ≠ none) (hn : R.Nodup) (hd : ∀ n ∈ R, n ∉ Q) : Moved σ (Q ++ R) σ' (P' ++ R) := by
 refine ⟨fun n hq hs => h.keep n (fun hh => hq (by simp [hh])) hs, fun n hp => ?_, fun n hs => ?_, fun n hp => ?_, ?_⟩
 · rcases List.mem_append.1 hp with hp | hp
   · exact (h.new n hp).imp (fun hh => by simp [hh]) id
   · exact .inl (by simp [hp])
 · rcases h.dom n hs with h1 | ⟨h1, h2⟩
   · exact .inl (by simp [h1])
   · by_cases hr : n ∈ R
     · exact .inl (by simp [hr])
     · exact .inr ⟨by simp [h1, hr], h2⟩
 · rcases List.mem_append.1 hp with hp | hp
   · exact h.there n hp
   · rw [h.keep n (hd n hp) (hR n hp)]; exact hR n hp
 · refine List.nodup_append.2 ⟨h.nodup, hn, fun a ha b hb e => ?_⟩
   subst e
   exact (h.new a ha).elim (hd a hb) (hR a hb)
theorem Moved.perm {σ σ' : Book} {Q Q' P P' : List Nat} (h : Moved σ Q σ' P) (hq : Q.Perm Q') (hp : P.Perm P') : Moved σ Q' σ' P' :=
 ⟨fun n hn hs => h.keep n (fun hh => hn (hq.mem_iff.1 hh)) hs, fun n hn => (h.new n (hp.mem_iff.2 hn)).imp hq.mem_iff.1 id, fun n hn => (h.dom n hn).imp hp.mem_iff.1 (fun ⟨a, b⟩ => ⟨fun hh => a (hq.mem_iff.2 hh), b⟩), fun n hn => h.there n (hp.mem_iff.2 hn), hp.nodup_iff.1 h.nodup⟩
theorem Moved.same {σ σ' : Book} {Q P' R : List Nat} (h : Moved σ Q σ' P') (hR : ∀ n ∈ R, σ n ≠ none) (hd : ∀ n ∈ R, n ∉ Q) : ∀ n ∈ R, σ' n = σ n := fun n hn => h.keep n (hd n hn) (hR n hn)
theorem Part.make {σ : Book} {d n : Nat} {cs : List Ce} {P : List Nat} {L : List En} (h : Part σ d cs P L) (h1 : 1 ≤ n) (h2 : n < 512) (hn : σ n = none) (hs : Nd.sum (d == 0) cs ≤ 488) (hg : Good (d == 0) cs L) :
   Stored (upd σ n (some ⟨if (d == 0) then 1 else 2, Nd.str (d == 0) cs⟩)) d n (n :: P) L :=
 ⟨cs, P, rfl, h1, h2, upd_same _ _ _, h.congr (fun m hm => upd_ne _ _ (by rintro rfl; exact (h.mem m hm).2.2 hn)), hs, hg.1, hg.2⟩
structure IsChange (key : ByteArray) (f : List En → List En) : Prop where
 loc : ∀ A l C, (∀ e ∈ A, Nd.lt e.cell.key key = true) → (∀ e ∈ C, Nd.lt key e.cell.key = true) → f (A ++ l ++ C) = A ++ f l ++ C
 mem : ∀ l, ∀ e ∈ f l, e ∈ l ∨ e.cell.key = key
 rise : ∀ l, Rising l → Rising (f l)
 grow : ∀ l, Nd.sum true ((f l).map (·.cell)) ≤ Nd.sum true (l.map (·.cell)) + 223
theorem kids_replaced {σ σ' : Book} {d : Nat} {A M C mids : List Kd} {m0 : Kd} {t0 : List Kd} (h1 : ∃ k t, A ++ M ++ C = k :: t ∧ k.key = ⟨#[]⟩) (h2 : Sep ((A ++ M ++ C).map Kd.rg)) (h3 : ∀ k ∈ A ++ M ++ C, KeyOk d k ∧ Stored σ d k.no k.P k.L)
   (hM : M = m0 :: t0) {n0 : Kd} {t1 : List Kd} (hm : mids = n0 :: t1) (hk : n0.key = m0.key) (hs : Sep (mids.map Kd.rg)) (hst : ∀ k ∈ mids, KeyOk d k ∧ Stored σ' d k.no k.P k.L) (hkeep : ∀ k ∈ A ++ C, ∀ n ∈ k.P, σ' n = σ n)
   (hup : ∀ x ∈ mids, ∀ e ∈ x.L, ∀ c ∈ C, Nd.lt e.cell.key c.key = true) :
   Part σ' (d + 1) ((A ++ mids ++ C).map Kd.cell) ((A ++ mids ++ C).flatMap (·.P)) ((A ++ mids ++ C).flatMap (·.L)) := by
 subst hM hm
 have hne : ∀ {x : Kd} {τ : Book}, Stored τ d x.no x.P x.L → x.L ≠ [] := fun h => by obtain ⟨_, _, _, _, _, _, _, _, g, -⟩ := h; exact g
 obtain ⟨z, t2, hz⟩ := List.exists_cons_of_ne_nil (hne (hst n0 (by simp)).2)
 have hz : z ∈ n0.L := by rw [hz]; simp
 rw [List.map_append, List.map_append, sep_app, sep_app] at h2
 obtain ⟨⟨sA, sM, sAM⟩, sC, sMC⟩ := h2
 refine ⟨A ++ (n0 :: t1) ++ C, rfl, rfl, rfl, ?_, ?_, ?_⟩
 · obtain ⟨k, t, e1, e2⟩ := h1
   cases A with
   | nil =>
     simp only [List.nil_append, List.cons_append, List.cons.injEq] at e1
     exact ⟨n0, t1 ++ C, by simp, by rw [hk, e1.1, e2]⟩
   | cons a A =>
     simp only [List.cons_append, List.cons.injEq] at e1
     exact ⟨a, A ++ (n0 :: t1) ++ C, by simp, by rw [e1.1, e2]⟩
 · rw [List.map_append, List.map_append, sep_app, sep_app]
   refine ⟨⟨sA, hs, ?_⟩, sC, ?_⟩
   · intro x hx y hy e he
     have q1 := sAM x hx m0.rg (by simp) e he
     have q1 : Nd.lt e.cell.key n0.key = true := by rw [hk]; exact q1
     rw [List.map_cons] at hy hs
     rcases List.mem_cons.1 hy with rfl | hy
     · exact q1
     · rw [sep_cons] at hs
       exact Nd.lt_trans (lt_le q1 (hs.1.2 z hz)) (hs.1.1 y hy z hz)
   · intro x hx y hy e he
     rcases List.mem_append.1 hx with hx | hx
     · exact sMC x (List.mem_append.2 (.inl hx)) y hy e he
     · obtain ⟨x', hx', rfl⟩ := List.mem_map.1 hx
       obtain ⟨y', hy', rfl⟩ := List.mem_map.1 hy
       exact hup x' hx' e he y' hy'
 · intro k hk2
   rcases List.mem_append.1 hk2 with hk2 | hk2
   · rcases List.mem_append.1 hk2 with hk2 | hk2
     · exact ⟨(h3 k (by simp [hk2])).1, (h3 k (by simp [hk2])).2.congr (hkeep k (by simp [hk2]))⟩
     · exact hst k hk2
   · exact ⟨(h3 k (by simp [hk2])).1, (h3 k (by simp [hk2])).2.congr (hkeep k (by simp [hk2]))⟩
theorem size_kid (k : Kd) : Nd.size false k.cell = 8 + k.key.size := by simp [Nd.size, Kd.cell]; omega
theorem kids_sum {A M C mids : List Kd} {m0 : Kd} {t0 : List Kd} (hM : M = m0 :: t0) {n0 : Kd} {t1 : List Kd} (hm : mids = n0 :: t1) (hk : n0.key = m0.key) (hl : t1.length ≤ 1) (hs : ∀ k ∈ mids, k.key.size ≤ 120) :
   Nd.sum false ((A ++ mids ++ C).map Kd.cell) ≤ Nd.sum false ((A ++ M ++ C).map Kd.cell) + 128 := by
 subst hM hm
 simp only [Nd.sum, List.map_append, List.sum_append, List.map_cons, List.sum_cons, size_kid, hk]
 cases t1 with
 | nil => simp; omega
 | cons x t =>
   have : t = [] := by cases t; rfl; simp at hl
   subst this
   have := hs x (by simp)
   simp [size_kid]
   omega
theorem nodup_lt : ∀ (N : Nat) (l : List Nat), l.Nodup → (∀ n ∈ l, n < N) → l.length ≤ N
 | 0, l, _, h => by
   cases l with
   | nil => simp
   | cons a l => have := h a (by simp); omega
 | N + 1, l, hn, h => by
   have h1 := nodup_lt N (l.erase N) (hn.erase N) fun n hm => by
     have h2 := h n (List.mem_of_mem_erase hm)
     have h3 : n ≠ N := by rintro rfl; exact (List.Nodup.not_mem_erase hn) hm
     omega
   have h2 := List.length_erase (a := N) (l := l)
   split at h2 <;> omega
theorem nodup_len {P : List Nat} (hn : P.Nodup) (h : ∀ n ∈ P, 1 ≤ n ∧ n < 512) : P.length ≤ 511 := by
 have h1 := nodup_lt 512 (0 :: P) (List.nodup_cons.2 ⟨fun h0 => by have := h 0 h0; omega, hn⟩) fun n hm => by
   rcases List.mem_cons.1 hm with rfl | hm
   · omega
   · exact (h n hm).2
 rw [List.length_cons] at h1
 omega
theorem flat_len : ∀ (ks : List Kd) (m : Nat), (∀ k ∈ ks, m ≤ k.P.length) → ks.length * m ≤ (ks.flatMap (·.P)).length
 | [], m, _ => by simp
 | k :: ks, m, h => by
   have h1 := h k (by simp)
   have h2 := flat_len ks m fun x hx => h x (by simp [hx])
   rw [List.flatMap_cons, List.length_append, List.length_cons, Nat.succ_mul]
   omega
theorem Stored.deep {σ : Book} : ∀ {d no : Nat} {P : List Nat} {L : List En}, Stored σ d no P L → 2 ^ d ≤ P.length
 | 0, no, P, L, h => by
   obtain ⟨cs, P', rfl, -⟩ := h
   simp
 | d + 1, no, P, L, h => by
   obtain ⟨cs, P', rfl, g1, g2, g3, ⟨ks, a1, a2, a3, a4, a5, a6⟩, g5, g6, g7⟩ := h
   have h1 : ∀ k ∈ ks, 2 ^ d ≤ k.P.length := fun k hk => Stored.deep (a6 k hk).2
   have h2 := flat_len ks (2 ^ d) h1
   have h3 := g7 rfl
   rw [a1, List.length_map] at h3
   rw [List.length_cons, a2]
   have h4 : 2 * 2 ^ d ≤ ks.length * 2 ^ d := Nat.mul_le_mul_right _ h3
   have h5 : 2 ^ (d + 1) = 2 ^ d * 2 := Nat.pow_succ ..
   omega
theorem Stored.low {σ : Book} {d no : Nat} {P : List Nat} {L : List En} (h : Stored σ d no P L) (hn : P.Nodup) : d ≤ 8 := by
 have h1 := h.deep
 have h2 := nodup_len hn fun n hm => ⟨(h.mem n hm).1, (h.mem n hm).2.1⟩
 by_cases hd : d ≤ 8
 · exact hd
 · have : 2 ^ 9 ≤ 2 ^ d := Nat.pow_le_pow_right (by omega) (by omega)
   omega
end Tr
namespace Tr
def Pd.kid (x : Pd) (n : Nat) : Kd := ⟨x.key, n, n :: x.P, x.L⟩
theorem take_flat {α β : Type} (f : α → List β) (l : List α) (j : Nat) (h : j < l.length) : (l.take (j + 1)).flatMap f = (l.take j).flatMap f ++ f l[j] := by
 rw [List.take_succ_eq_append_getElem h, flatMap_app]; simp
theorem flat_nodup_take {α : Type} (f : α → List Nat) (l : List α) (j : Nat) (h : j < l.length) (hn : (l.flatMap f).Nodup) : (f l[j]).Nodup ∧ ∀ n ∈ f l[j], n ∉ (l.take j).flatMap f := by
 have e : l.flatMap f = (l.take (j + 1)).flatMap f ++ (l.drop (j + 1)).flatMap f := by rw [← flatMap_app, List.take_append_drop]
 rw [e, take_flat f l j h] at hn
 have h1 := (List.nodup_append.1 hn).1
 obtain ⟨h2, h3, h4⟩ := List.nodup_append.1 h1
 exact ⟨h3, fun n hx hy => h4 n hy n hx rfl⟩
theorem made_step {σ σj : Book} {d j n : Nat} {xs : List Pd} {ks : List Kd} (hN : (xs.flatMap (·.P)).Nodup) (hall : ∀ x ∈ xs, Part σ d x.cs x.P x.L ∧ Nd.sum (d == 0) x.cs ≤ 488 ∧ Good (d == 0) x.cs x.L) (hj : j < xs.length)
   (hks : ks.map Kd.rg = (xs.take j).map Pd.rg) (hst : ∀ k ∈ ks, Stored σj d k.no k.P k.L) (hmv : Moved σ ((xs.take j).flatMap (·.P)) σj (ks.flatMap (·.P))) (h1 : 1 ≤ n) (h2 : n < 512) (hn : σj n = none) :
   (ks ++ [xs[j].kid n]).map Kd.rg = (xs.take (j + 1)).map Pd.rg ∧ (∀ k ∈ ks ++ [xs[j].kid n], Stored (upd σj n (some ⟨if (d == 0) then 1 else 2, Nd.str (d == 0) xs[j].cs⟩)) d k.no k.P k.L) ∧
     Moved σ ((xs.take (j + 1)).flatMap (·.P)) (upd σj n (some ⟨if (d == 0) then 1 else 2, Nd.str (d == 0) xs[j].cs⟩)) ((ks ++ [xs[j].kid n]).flatMap (·.P)) := by
 obtain ⟨p1, p2, p3⟩ := hall _ (List.getElem_mem hj)
 obtain ⟨q1, q2⟩ := flat_nodup_take (·.P) xs j hj hN
 have hmem := fun m hm => (p1.mem m hm).2.2
 have hkeep := hmv.same hmem q2
 have p1' := p1.congr hkeep
 refine ⟨?_, ?_, ?_⟩
 · rw [List.map_append, hks, List.take_succ_eq_append_getElem hj, List.map_append]
   rfl
 · intro k hk
   rcases List.mem_append.1 hk with hk1 | hk1
   · exact (hst k hk1).congr fun m hm => upd_ne _ _ (fun e => ((hst k hk1).mem m hm).2.2 (by rw [e]; exact hn))
   · obtain rfl := List.mem_singleton.1 hk1
     exact p1'.make h1 h2 hn p2 p3
 · have f1 := hmv.frame hmem q1 q2
   have f2 := (Moved.make hn ⟨if (d == 0) then 1 else 2, Nd.str (d == 0) xs[j].cs⟩).frame (R := ks.flatMap (·.P) ++ xs[j].P) f1.there f1.nodup (fun m hm => by simp)
   rw [take_flat _ _ _ hj]
   refine f1.trans (f2.perm (by simp) ?_)
   rw [flatMap_app]
   simp only [List.flatMap_cons, List.flatMap_nil, List.append_nil, Pd.kid]
   rw [List.singleton_append]
   exact List.perm_middle.symm
end Tr
namespace Tr
structure Kids (σ : Book) (d : Nat) (ks : List Kd) : Prop where
 first : ∃ k t, ks = k :: t ∧ k.key = ⟨#[]⟩
 sep : Sep (ks.map Kd.rg)
 each : ∀ k ∈ ks, KeyOk d k ∧ Stored σ d k.no k.P k.L
theorem Kids.part {σ : Book} {d : Nat} {ks : List Kd} (h : Kids σ d ks) : Part σ (d + 1) (ks.map Kd.cell) (ks.flatMap (·.P)) (ks.flatMap (·.L)) := ⟨ks, rfl, rfl, rfl, h.first, h.sep, h.each⟩
theorem Kids.of_part {σ : Book} {d : Nat} {cs : List Ce} {P : List Nat} {L : List En} (h : Part σ (d + 1) cs P L) : ∃ ks, Kids σ d ks ∧ cs = ks.map Kd.cell ∧ P = ks.flatMap (·.P) ∧ L = ks.flatMap (·.L) := by
 obtain ⟨ks, h1, h2, h3, h4, h5, h6⟩ := h
 exact ⟨ks, ⟨h4, h5, h6⟩, h1, h2, h3⟩
theorem Kids.congr {σ σ' : Book} {d : Nat} {ks : List Kd} (h : Kids σ d ks) (hk : ∀ n ∈ ks.flatMap (·.P), σ' n = σ n) : Kids σ' d ks :=
 ⟨h.first, h.sep, fun k hkm => ⟨(h.each k hkm).1, (h.each k hkm).2.congr fun n hn => hk n (List.mem_flatMap.2 ⟨k, hkm, hn⟩)⟩⟩
theorem Kids.mem {σ : Book} {d : Nat} {ks : List Kd} (h : Kids σ d ks) : ∀ n ∈ ks.flatMap (·.P), 1 ≤ n ∧ n < 512 ∧ σ n ≠ none := h.part.mem
theorem Stored.ne {σ : Book} {d no : Nat} {P : List Nat} {L : List En} (h : Stored σ d no P L) : L ≠ [] := by obtain ⟨_, _, _, _, _, _, _, _, g, -⟩ := h; exact g
structure Mid (σ : Book) (d : Nat) (A M C : List Kd) (X : List Nat) (F : List En) (key : ByteArray) (σ' : Book) (ps : List Pt) (xs : List Pd) (L2 : List En) : Prop where
 head : ∃ m t, M = m :: t ∧ m.key = key
 parts : ∃ P2, Parts σ' d key ps P2 L2 xs ∧ Moved σ (M.flatMap (·.P) ++ X) σ' P2
 up : ∀ e ∈ L2, ∀ c ∈ C, Nd.lt e.cell.key c.key = true
 eq : F = A.flatMap (·.L) ++ L2 ++ C.flatMap (·.L)
 good : ∀ x ∈ xs, Good (d == 0) x.cs x.L ∧ Fat d x.L
theorem Parts.mem {σ : Book} {d : Nat} {key : ByteArray} {ps : List Pt} {P : List Nat} {L : List En} {xs : List Pd} (h : Parts σ d key ps P L xs) : ∀ x ∈ xs, ∀ e ∈ x.L, e ∈ L := fun x hx e he => by rw [h.ents]; exact List.mem_flatMap.2 ⟨x, hx, he⟩
theorem Parts.one {σ : Book} {d : Nat} {key : ByteArray} {ps : List Pt} {P : List Nat} {L : List En} {xs : List Pd} (h : Parts σ d key ps P L xs) (h1 : xs.length = 1) : ∃ x, xs = [x] ∧ x.key = key ∧ P = x.P ∧ L = x.L ∧ ps = [⟨key, d == 0, x.cs⟩] ∧ Nd.sum (d == 0) x.cs ≤ 488 ∧ Part σ d x.cs x.P x.L := by
 obtain ⟨x, t, e, hk⟩ := h.head
 subst e
 obtain rfl : t = [] := by cases t; rfl; simp at h1
 have h2 := h.each x (by simp)
 refine ⟨x, rfl, hk, by rw [h.pages]; simp, by rw [h.ents]; simp, ?_, h2.2.1, h2.2.2⟩
 rw [h.pts, ← hk]
 rfl
theorem Part.fat {σ : Book} {d : Nat} {cs : List Ce} {P : List Nat} {L : List En} (h : Part σ d cs P L) (hs : 122 ≤ Nd.sum (d == 0) cs) : Fat d L := fun hd => by
 subst hd
 rw [← h.1]
 exact hs
theorem Part.good {σ : Book} {d : Nat} {cs : List Ce} {P : List Nat} {L : List En} (h : Part σ d cs P L) (hs : 122 ≤ Nd.sum (d == 0) cs) : Good (d == 0) cs L := by
 cases d with
 | zero =>
   obtain ⟨h1, -⟩ := h
   refine ⟨fun e => ?_, fun h => by cases h⟩
   subst e h1
   simp [Nd.sum] at hs
 | succ d =>
   obtain ⟨ks, hk, e1, e2, e3⟩ := Kids.of_part h
   obtain ⟨k, t, e, hkk⟩ := hk.first
   subst e
   refine ⟨?_, fun _ => ?_⟩
   · rw [e3, List.flatMap_cons]
     have := (hk.each k (by simp)).2.ne
     simp [this]
   · cases t with
     | nil =>
       rw [e1] at hs
       simp [Nd.sum, size_kid, hkk] at hs
       have : (⟨#[]⟩ : ByteArray).size = 0 := rfl
       omega
     | cons a t => rw [e1]; simp
theorem mid_one {σ σ1 : Book} {d : Nat} {A C : List Kd} {x : Kd} {X P1 : List Nat} {f : List En → List En} {key : ByteArray} {ps : List Pt} {xs : List Pd} (hf : IsChange key f) (hB : Kids σ d (A ++ [x] ++ C)) (hC : ∀ c ∈ C, Nd.lt key c.key = true) (hx : Nd.lt key x.key = false)
   (hp : Parts σ1 d x.key ps P1 (f x.L) xs) (hm : Moved σ (x.P ++ X) σ1 P1) (hg : ∀ y ∈ xs, Good (d == 0) y.cs y.L ∧ Fat d y.L) : Mid σ d A [x] C X (f ((A ++ [x] ++ C).flatMap (·.L))) x.key σ1 ps xs (f x.L) := by
 have hs := hB.sep
 rw [List.map_append, List.map_append, sep_app, sep_app] at hs
 obtain ⟨⟨sA, sx, sAx⟩, sC, sxC⟩ := hs
 refine ⟨⟨x, [], rfl, rfl⟩, ⟨P1, hp, by simpa using hm⟩, ?_, ?_, hg⟩
 · intro e he c hc
   rcases hf.mem _ e he with h1 | h1
   · exact sxC x.rg (by simp) c.rg (List.mem_map_of_mem hc) e h1
   · rw [h1]; exact hC c hc
 · rw [flatMap_app, flatMap_app]
   have e1 : [x].flatMap (·.L) = x.L := by simp
   rw [e1]
   refine hf.loc _ _ _ (fun e he => ?_) (fun e he => ?_)
   · obtain ⟨a, ha, he⟩ := List.mem_flatMap.1 he
     exact lt_le (sAx a.rg (List.mem_map_of_mem ha) x.rg (by simp) e he) hx
   · obtain ⟨c, hc, he⟩ := List.mem_flatMap.1 he
     exact lt_le (hC c hc) (sC.2 c.rg (List.mem_map_of_mem hc) e he)
theorem Mid.made {σ σ1 σ2 : Book} {d : Nat} {A M C ks : List Kd} {X : List Nat} {F : List En} {key : ByteArray} {ps : List Pt} {xs : List Pd} {L2 : List En} (h : Mid σ d A M C X F key σ1 ps xs L2) (hB : Kids σ d (A ++ M ++ C)) (hN : ((A ++ M ++ C).flatMap (·.P) ++ X).Nodup)
   (hk : ks.map Kd.rg = xs.map Pd.rg) (hst : ∀ k ∈ ks, Stored σ2 d k.no k.P k.L) (hmv : Moved σ1 (xs.flatMap (·.P)) σ2 (ks.flatMap (·.P))) :
   Part σ2 (d + 1) ((A ++ ks ++ C).map Kd.cell) ((A ++ ks ++ C).flatMap (·.P)) F ∧ Moved σ ((A ++ M ++ C).flatMap (·.P) ++ X) σ2 ((A ++ ks ++ C).flatMap (·.P)) ∧ Nd.sum false ((A ++ ks ++ C).map Kd.cell) ≤ Nd.sum false ((A ++ M ++ C).map Kd.cell) + 128 := by
 obtain ⟨m, tm, hM, hmk⟩ := h.head
 obtain ⟨P2, hp, hmv1⟩ := h.parts
 obtain ⟨x0, tx, hx0, hxk⟩ := hp.head
 have hmv2 : Moved σ (M.flatMap (·.P) ++ X) σ2 (ks.flatMap (·.P)) := hmv1.trans (by rw [hp.pages]; exact hmv)
 have hks0 : ∃ n0 t1, ks = n0 :: t1 ∧ n0.rg = x0.rg ∧ t1.map Kd.rg = tx.map Pd.rg := by
   rw [hx0] at hk
   cases ks with
   | nil => simp at hk
   | cons n0 t1 =>
     simp only [List.map_cons, List.cons.injEq] at hk
     exact ⟨n0, t1, rfl, hk.1, hk.2⟩
 obtain ⟨n0, t1, hks, hrg, hrt⟩ := hks0
 have hnk : n0.key = m.key := by
   have := congrArg Prod.fst hrg
   simp only [Kd.rg, Pd.rg] at this
   rw [this, hxk, hmk]
 have hlen : t1.length ≤ 1 := by
   have h1 : t1.length = tx.length := by have := congrArg List.length hrt; simpa using this
   have h2 : xs.length ≤ 2 := by
     rcases hp.count with h | h
     · omega
     · omega
   rw [hx0, List.length_cons] at h2
   omega
 have hkeys : ∀ k ∈ ks, k.key.size ≤ 120 := fun k hkm => by
   have : k.rg ∈ xs.map Pd.rg := by rw [← hk]; exact List.mem_map_of_mem hkm
   obtain ⟨y, hy, e⟩ := List.mem_map.1 this
   have e1 := congrArg Prod.fst e
   simp only [Kd.rg, Pd.rg] at e1
   rw [← e1]
   exact (hp.each y hy).1
 have hfats : ∀ k ∈ ks, Fat d k.L := fun k hkm => by
   have : k.rg ∈ xs.map Pd.rg := by rw [← hk]; exact List.mem_map_of_mem hkm
   obtain ⟨y, hy, e⟩ := List.mem_map.1 this
   have e1 := congrArg Prod.snd e
   simp only [Kd.rg, Pd.rg] at e1
   rw [← e1]
   exact (h.good y hy).2
 have hLs : ks.flatMap (·.L) = L2 := by
   have e1 : ∀ (l : List Kd), l.flatMap (·.L) = (l.map Kd.rg).flatMap (·.2) := fun l => by rw [List.flatMap_map]; rfl
   have e2 : ∀ (l : List Pd), l.flatMap (·.L) = (l.map Pd.rg).flatMap (·.2) := fun l => by rw [List.flatMap_map]; rfl
   rw [hp.ents, e1, e2, hk]
 have hsub : ∀ k ∈ ks, ∀ e ∈ k.L, e ∈ L2 := fun k hkm e he => by rw [← hLs]; exact List.mem_flatMap.2 ⟨k, hkm, he⟩
 have hmemS : ∀ n ∈ (A ++ M ++ C).flatMap (·.P), σ n ≠ none := fun n hn => (hB.mem n hn).2.2
 have hsplit : ∀ (Z : List Kd), (A ++ Z ++ C).flatMap (·.P) = A.flatMap (·.P) ++ Z.flatMap (·.P) ++ C.flatMap (·.P) := fun Z => by rw [flatMap_app, flatMap_app]
 have hN1 := hN
 rw [hsplit] at hN1 hmemS
 have hperm : (A.flatMap (·.P) ++ M.flatMap (·.P) ++ C.flatMap (·.P) ++ X).Perm ((M.flatMap (·.P) ++ X) ++ (A.flatMap (·.P) ++ C.flatMap (·.P))) := by
   have p1 : (A.flatMap (·.P) ++ M.flatMap (·.P) ++ C.flatMap (·.P) ++ X).Perm (M.flatMap (·.P) ++ A.flatMap (·.P) ++ (C.flatMap (·.P) ++ X)) := by
     rw [List.append_assoc]
     exact List.perm_append_comm.append_right _
   refine p1.trans ?_
   rw [List.append_assoc, List.append_assoc]
   refine List.Perm.append_left _ ?_
   rw [← List.append_assoc]
   exact List.perm_append_comm
 have hN2 := hperm.nodup_iff.1 hN1
 obtain ⟨-, hR, hdis⟩ := List.nodup_append.1 hN2
 have hRm : ∀ n ∈ A.flatMap (·.P) ++ C.flatMap (·.P), σ n ≠ none := fun n hn => by
   rcases List.mem_append.1 hn with hn | hn
   · exact hmemS n (by simp only [List.mem_append]; exact .inl (.inl hn))
   · exact hmemS n (by simp only [List.mem_append]; exact .inr hn)
 have hRd : ∀ n ∈ A.flatMap (·.P) ++ C.flatMap (·.P), n ∉ M.flatMap (·.P) ++ X := fun n hn hm => hdis n hm n hn rfl
 have hfr := hmv2.frame hRm hR hRd
 have hsame := hmv2.same hRm hRd
 refine ⟨?_, ?_, ?_⟩
 · have h9 := kids_replaced (σ' := σ2) (mids := ks) hB.first hB.sep hB.each hM hks hnk (by rw [hk]; exact hp.sep) (fun k hkm => ⟨⟨hkeys k hkm, hfats k hkm⟩, hst k hkm⟩) (fun k hkm n hn => hsame n (by
       rw [← flatMap_app]
       exact List.mem_flatMap.2 ⟨k, hkm, hn⟩)) (fun x hx e he c hc => h.up e (hsub x hx e he) c hc)
   have e9 : (A ++ ks ++ C).flatMap (·.L) = F := by rw [h.eq, flatMap_app, flatMap_app, hLs]
   rw [e9] at h9
   exact h9
 · rw [hsplit, hsplit]
   refine hfr.perm hperm.symm ?_
   rw [← List.append_assoc]
   exact List.perm_append_comm.append_right _
 · exact kids_sum hM hks hnk hlen hkeys
end Tr
end Go.Proofs.YtjbcbnemdhbhbaaGreatDoor

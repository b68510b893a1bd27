import Derived.Test.YtjbcbnemdhbhbaaGreatDoorK1
import Derived.Test.YtjbcbnemdhbhbaaGreatDoorK17
import Derived.Test.YtjbcbnemdhbhbaaGreatDoorK0
import Derived.Test.YtjbcbnemdhbhbaaGreatDoorK20
import Derived.LoopN
import Derived.BigRegion
namespace Go.Proofs.YtjbcbnemdhbhbaaGreatDoor
namespace Fr
def lt (a b : Nat × Nat) : Bool := decide (a.1 < b.1) || (decide (a.1 = b.1) && decide (a.2 < b.2))
theorem lt_iff {a b : Nat × Nat} : lt a b = true ↔ a.1 < b.1 ∨ (a.1 = b.1 ∧ a.2 < b.2) := by simp [lt]
theorem lt_no {a b : Nat × Nat} : lt a b = false ↔ ¬ (a.1 < b.1 ∨ (a.1 = b.1 ∧ a.2 < b.2)) := by rw [← lt_iff]; simp
theorem lt_trans {a b c : Nat × Nat} (h : lt a b = true) (k : lt b c = true) : lt a c = true := by rw [lt_iff] at *; omega
theorem lt_le {a b c : Nat × Nat} (h : lt a b = true) (k : lt c b = false) : lt a c = true := by rw [lt_iff] at *; rw [lt_no] at k; omega
theorem le_lt {a b c : Nat × Nat} (h : lt b a = false) (k : lt b c = true) : lt a c = true := by rw [lt_iff] at *; rw [lt_no] at h; omega
def Sorted (l : List (Nat × Nat)) : Prop := l.Pairwise fun a b => lt a b = true
def spot (l : List (Nat × Nat)) (x : Nat × Nat) : Nat := l.findIdx fun y => !lt y x
def ins (l : List (Nat × Nat)) (x : Nat × Nat) : List (Nat × Nat) := l.take (spot l x) ++ ([x] ++ l.drop (spot l x))
def pg (l : List (Nat × Nat)) : List Nat := l.map (·.2)
theorem spot_le (l : List (Nat × Nat)) (x : Nat × Nat) : spot l x ≤ l.length := List.findIdx_le_length
theorem spot_below (l : List (Nat × Nat)) (x : Nat × Nat) (i : Nat) (h : i < spot l x) (hl : i < l.length) : lt l[i] x = true := by
  have := List.not_of_lt_findIdx (xs := l) (p := fun y => !lt y x) h
  cases hh : lt l[i] x with
  | true => rfl
  | false => simp [hh] at this
theorem spot_at (l : List (Nat × Nat)) (x : Nat × Nat) (hl : spot l x < l.length) : lt l[spot l x] x = false := by
  have := List.findIdx_getElem (w := hl) (p := fun y => !lt y x) (xs := l)
  cases hh : lt l[spot l x] x with
  | false => rfl
  | true =>
    have h2 : lt (l[List.findIdx (fun y => !lt y x) l]'hl) x = true := hh
    simp [h2] at this
theorem sorted_at {l : List (Nat × Nat)} (h : Sorted l) (i j : Nat) (hij : i < j) (hj : j < l.length) : lt (l[i]'(by omega)) l[j] = true := List.pairwise_iff_getElem.1 h i j (by omega) hj hij
theorem spot_above {l : List (Nat × Nat)} (h : Sorted l) (x : Nat × Nat) (i : Nat) (hi : spot l x ≤ i) (hl : i < l.length) : lt l[i] x = false := by
  have h0 := spot_at l x (by omega)
  by_cases e : i = spot l x
  · subst e; exact h0
  · have h1 := sorted_at h (spot l x) i (by omega) hl
    rw [lt_iff] at h1
    rw [lt_no] at h0 ⊢
    omega
theorem ins_len (l : List (Nat × Nat)) (x : Nat × Nat) : (ins l x).length = l.length + 1 := by
  have := spot_le l x
  unfold ins
  simp
  omega
theorem ins_perm (l : List (Nat × Nat)) (x : Nat × Nat) : (ins l x).Perm (x :: l) := by
  have h : (l.take (spot l x) ++ x :: l.drop (spot l x)).Perm (x :: (l.take (spot l x) ++ l.drop (spot l x))) := List.perm_middle
  rw [List.take_append_drop] at h
  exact h
theorem ins_sorted {l : List (Nat × Nat)} (h : Sorted l) (x : Nat × Nat) (hx : x ∉ l) : Sorted (ins l x) := by
  have hap : Sorted (l.take (spot l x) ++ l.drop (spot l x)) := by rw [List.take_append_drop]; exact h
  obtain ⟨h1, h2, h3⟩ := List.pairwise_append.1 hap
  have hb : ∀ y ∈ l.take (spot l x), lt y x = true := fun y hy => by
    obtain ⟨i, hi, rfl⟩ := List.mem_iff_getElem.1 hy
    rw [List.length_take] at hi
    rw [List.getElem_take]
    exact spot_below l x i (by omega) (by omega)
  have ha : ∀ y ∈ l.drop (spot l x), lt x y = true := fun y hy => by
    obtain ⟨i, hi, rfl⟩ := List.mem_iff_getElem.1 hy
    rw [List.length_drop] at hi
    rw [List.getElem_drop]
    have h0 := spot_above h x (spot l x + i) (by omega) (by omega)
    have hm : l[spot l x + i]'(by omega) ∈ l := List.getElem_mem _
    have hne : x ≠ l[spot l x + i]'(by omega) := fun e => hx (by rw [e]; exact hm)
    rw [lt_no] at h0
    rw [lt_iff]
    rcases Nat.lt_trichotomy x.1 (l[spot l x + i]'(by omega)).1 with q | q | q
    · exact .inl q
    · refine .inr ⟨q, ?_⟩
      rcases Nat.lt_trichotomy x.2 (l[spot l x + i]'(by omega)).2 with r | r | r
      · exact r
      · exact absurd (Prod.ext q r) hne
      · omega
    · omega
  refine List.pairwise_append.2 ⟨h1, List.pairwise_cons.2 ⟨ha, h2⟩, fun a hA b hB => ?_⟩
  rcases List.mem_cons.1 hB with rfl | hB
  · exact hb a hA
  · exact h3 a hA b hB
def here (l : List (Nat × Nat)) : List Bool := (List.range 512).map fun i => decide (i ∈ pg l)
theorem here_len (l : List (Nat × Nat)) : (here l).length = 512 := by simp [here]
theorem here_at (l : List (Nat × Nat)) {i : Nat} (h : i < 512) : (here l)[i]? = some (decide (i ∈ pg l)) := by simp [here, h]
theorem here_nil : here [] = List.replicate 512 false := by
  unfold here
  apply List.ext_getElem
  · rw [List.length_map, List.length_range, List.length_replicate]
  · intro i h1 h2
    rw [List.getElem_map, List.getElem_replicate]
    rfl
theorem here_add (l l' : List (Nat × Nat)) {p : Nat} (h : ∀ i, i ∈ pg l' ↔ i ∈ pg l ∨ i = p) : here l' = (here l).set p true := by
  apply List.ext_getElem
  · simp [here]
  · intro i h1 h2
    rw [List.getElem_set]
    simp only [here, List.getElem_map, List.getElem_range]
    by_cases e : p = i
    · subst e; rw [if_pos rfl]; exact decide_eq_true ((h p).2 (.inr rfl))
    · rw [if_neg e]
      have : (i ∈ pg l') ↔ i ∈ pg l := by rw [h i]; constructor; rintro (h | h); exact h; exact absurd h.symm e; exact .inl
      simp only [this]
theorem here_sub (l l' : List (Nat × Nat)) {p : Nat} (h : ∀ i, i ∈ pg l' ↔ i ∈ pg l ∧ i ≠ p) : here l' = (here l).set p false := by
  apply List.ext_getElem
  · simp [here]
  · intro i h1 h2
    rw [List.getElem_set]
    simp only [here, List.getElem_map, List.getElem_range]
    by_cases e : p = i
    · subst e; rw [if_pos rfl]; exact decide_eq_false (fun hh => ((h p).1 hh).2 rfl)
    · rw [if_neg e]
      have : (i ∈ pg l') ↔ i ∈ pg l := by rw [h i]; exact ⟨fun x => x.1, fun x => ⟨x, fun y => e y.symm⟩⟩
      simp only [this]
theorem pg_ins (l : List (Nat × Nat)) (x : Nat × Nat) : ∀ i, i ∈ pg (ins l x) ↔ i ∈ pg l ∨ i = x.2 := fun i => by
  unfold pg
  rw [((ins_perm l x).map _).mem_iff, List.map_cons, List.mem_cons]
  exact Or.comm
theorem here_ins (l : List (Nat × Nat)) (x : Nat × Nat) : here (ins l x) = (here l).set x.2 true := here_add _ _ (pg_ins l x)
theorem here_tail {x : Nat × Nat} {l : List (Nat × Nat)} (h : (pg (x :: l)).Nodup) : here l = (here (x :: l)).set x.2 false := by
  have hn := List.nodup_cons.1 h
  refine here_sub _ _ fun i => ⟨fun hi => ⟨List.mem_cons_of_mem _ hi, fun e => hn.1 (by subst e; exact hi)⟩, fun ⟨hi, hne⟩ => ?_⟩
  rcases List.mem_cons.1 hi with e | hi
  · exact absurd e hne
  · exact hi
def pieces (n : Nat) : Nat := if n < 1 then 0 else (n - 1) / 40 + 1
def ok (x : Nat × Nat) : Bool := decide (x.1 ≤ 1099511627776) && decide (1 ≤ x.2) && decide (x.2 < 512)
end Fr
end Go.Proofs.YtjbcbnemdhbhbaaGreatDoor
namespace Go.Proofs.YtjbcbnemdhbhbaaGreatDoor
set_option linter.unusedVariables false
set_option linter.unusedSimpArgs false
structure Tx where
  pages : Nat
  fr : List (Nat × Nat)
  dirty : Book
  loose : List Nat
  freed : List Nat
def nums (e : Nat) : List Nat := (List.range (e - 1)).map (· + 1)
theorem nums_mem {e n : Nat} : n ∈ nums e ↔ 1 ≤ n ∧ n < e := by
  unfold nums
  rw [List.mem_map]
  constructor
  · rintro ⟨a, ha, rfl⟩
    rw [List.mem_range] at ha
    omega
  · intro h
    exact ⟨n - 1, List.mem_range.2 (by omega), by omega⟩
theorem nums_nodup (e : Nat) : (nums e).Nodup := by
  unfold nums
  unfold List.Nodup
  rw [List.pairwise_map]
  exact (List.nodup_range (n := e - 1)).imp fun h => by omega
theorem nums_succ {e : Nat} (h : 1 ≤ e) : nums (e + 1) = nums e ++ [e] := by
  unfold nums
  rw [show e + 1 - 1 = (e - 1) + 1 by omega, List.range_succ, List.map_append]
  simp
  omega
namespace Tx
def book (x : Tx) (D : Book) (U : List Nat) : Book := fun n => match x.dirty n with
  | some p => some p
  | none => if n ∈ U ∧ n ∉ x.freed then D n else none
structure Ok (x : Tx) (limit : Nat) (D : Book) (U pc h : List Nat) : Prop where
  perm : ∃ dk : List Nat, (∀ n, n ∈ dk ↔ x.dirty n ≠ none) ∧ (Fr.pg x.fr ++ (dk ++ (x.loose ++ (U ++ (pc ++ h))))).Perm (nums x.pages)
  one : 1 ≤ x.pages
  le : x.pages ≤ limit
  lim : limit ≤ 512
  sorted : Fr.Sorted x.fr
  freed : x.freed.Nodup
  sub : ∀ n ∈ x.freed, n ∈ U
  disk : ∀ n ∈ U, D n ≠ none
  txns : ∀ y ∈ x.fr, y.1 ≤ 1099511627776
theorem Ok.nodup {x : Tx} {limit : Nat} {D : Book} {U pc h : List Nat} (k : x.Ok limit D U pc h) {dk : List Nat} (hp : (Fr.pg x.fr ++ (dk ++ (x.loose ++ (U ++ (pc ++ h))))).Perm (nums x.pages)) : (Fr.pg x.fr ++ (dk ++ (x.loose ++ (U ++ (pc ++ h))))).Nodup := hp.nodup_iff.2 (nums_nodup _)
theorem Ok.range {x : Tx} {limit : Nat} {D : Book} {U pc h : List Nat} (k : x.Ok limit D U pc h) : (∀ n ∈ Fr.pg x.fr, 1 ≤ n ∧ n < x.pages) ∧ (∀ n, x.dirty n ≠ none → 1 ≤ n ∧ n < x.pages) ∧ (∀ n ∈ x.loose, 1 ≤ n ∧ n < x.pages) ∧ (∀ n ∈ U, 1 ≤ n ∧ n < x.pages) ∧ (∀ n ∈ pc, 1 ≤ n ∧ n < x.pages) ∧ ∀ n ∈ h, 1 ≤ n ∧ n < x.pages := by
  obtain ⟨dk, h1, h2⟩ := k.perm
  refine ⟨fun n hn => ?_, fun n hn => ?_, fun n hn => ?_, fun n hn => ?_, fun n hn => ?_, fun n hn => ?_⟩
  · exact nums_mem.1 (h2.mem_iff.1 (by simp [hn]))
  · exact nums_mem.1 (h2.mem_iff.1 (by simp [(h1 n).2 hn]))
  · exact nums_mem.1 (h2.mem_iff.1 (by simp [hn]))
  · exact nums_mem.1 (h2.mem_iff.1 (by simp [hn]))
  · exact nums_mem.1 (h2.mem_iff.1 (by simp [hn]))
  · exact nums_mem.1 (h2.mem_iff.1 (by simp [hn]))
theorem Ok.hand {x : Tx} {limit n : Nat} {D : Book} {U pc h : List Nat} (k : x.Ok limit D U pc (n :: h)) : n ∉ Fr.pg x.fr ∧ x.dirty n = none ∧ n ∉ x.loose ∧ n ∉ U ∧ n ∉ pc ∧ n ∉ h := by
  obtain ⟨dk, h1, h2⟩ := k.perm
  have hn := k.nodup h2
  have e : (Fr.pg x.fr ++ (dk ++ (x.loose ++ (U ++ (pc ++ (n :: h)))))).Perm (n :: (Fr.pg x.fr ++ (dk ++ (x.loose ++ (U ++ (pc ++ h)))))) := by
    have := List.perm_middle (a := n) (l₁ := Fr.pg x.fr ++ (dk ++ (x.loose ++ (U ++ pc)))) (l₂ := h)
    simpa [List.append_assoc] using this
  have h3 := (List.nodup_cons.1 (e.nodup_iff.1 hn)).1
  simp only [List.mem_append, not_or] at h3
  refine ⟨h3.1, ?_, h3.2.2.1, h3.2.2.2.1, h3.2.2.2.2.1, h3.2.2.2.2.2⟩
  cases hd : x.dirty n with
  | none => rfl
  | some p => exact absurd ((h1 n).2 (by rw [hd]; simp)) h3.2.1
theorem Ok.apart {x : Tx} {limit n : Nat} {D : Book} {U pc h : List Nat} (k : x.Ok limit D U pc h) (hd : x.dirty n ≠ none) : n ∉ U := by
  obtain ⟨dk, h1, h2⟩ := k.perm
  have hn := k.nodup h2
  have h3 := (List.nodup_append.1 (List.nodup_append.1 hn).2.1).2.2 n ((h1 n).2 hd)
  exact fun hu => h3 n (by simp [hu]) rfl
def sure (x : Tx) (limit upto : Nat) : Nat := x.loose.length + (x.fr.takeWhile fun y => decide (y.1 ≤ upto)).length + (limit - x.pages)
inductive Takes (limit upto : Nat) : Tx → Nat → Tx → Prop
  | loose (x : Tx) (l : List Nat) (n : Nat) (h : x.loose = l ++ [n]) : Takes limit upto x n { x with loose := l }
  | free (x : Tx) (f n : Nat) (r : List (Nat × Nat)) (h : x.loose = []) (hf : x.fr = (f, n) :: r) (hu : f ≤ upto) : Takes limit upto x n { x with fr := r }
  | more (x : Tx) (h : x.loose = []) (hf : ∀ y r, x.fr = y :: r → upto < y.1) (hp : x.pages < limit) : Takes limit upto x x.pages { x with pages := x.pages + 1 }
theorem takes_none {x : Tx} {limit upto : Nat} (h : x.loose = []) (hf : ∀ y r, x.fr = y :: r → upto < y.1) (hp : limit ≤ x.pages) : x.sure limit upto = 0 := by
  unfold sure
  rw [h]
  have : x.fr.takeWhile (fun y => decide (y.1 ≤ upto)) = [] := by
    cases hx : x.fr with
    | nil => rfl
    | cons y r =>
      have := hf y r hx
      rw [List.takeWhile_cons, if_neg (by simp; omega)]
  rw [this]
  simp
  omega
theorem Takes.sure {x x' : Tx} {limit upto n : Nat} (t : Takes limit upto x n x') : x.sure limit upto = x'.sure limit upto + 1 := by
  cases t with
  | loose l n h =>
    unfold Tx.sure
    rw [h]
    simp only [List.length_append, List.length_singleton]
    omega
  | free f n r h hf hu =>
    unfold Tx.sure
    rw [hf]
    rw [List.takeWhile_cons, if_pos (by simpa using hu)]
    simp only [List.length_cons]
    omega
  | more h hf hp =>
    unfold Tx.sure
    simp only
    omega
theorem Takes.dirty {x x' : Tx} {limit upto n : Nat} (t : Takes limit upto x n x') : x'.dirty = x.dirty ∧ x'.freed = x.freed := by cases t <;> exact ⟨rfl, rfl⟩
theorem Takes.ok {x x' : Tx} {limit upto n : Nat} {D : Book} {U pc h : List Nat} (t : Takes limit upto x n x') (k : x.Ok limit D U pc h) : x'.Ok limit D U pc (n :: h) := by
  obtain ⟨dk, h1, h2⟩ := k.perm
  have mid : ∀ (a b c d e f : List Nat), (a ++ (b ++ (c ++ (d ++ (e ++ (n :: f)))))).Perm (n :: (a ++ (b ++ (c ++ (d ++ (e ++ f)))))) := fun a b c d e f => by
    have := List.perm_middle (a := n) (l₁ := a ++ (b ++ (c ++ (d ++ e)))) (l₂ := f)
    simpa [List.append_assoc] using this
  cases t with
  | loose l n hl =>
    refine ⟨⟨dk, h1, ?_⟩, k.one, k.le, k.lim, k.sorted, k.freed, k.sub, k.disk, k.txns⟩
    refine (mid _ _ _ _ _ _).trans (List.Perm.trans ?_ h2)
    rw [hl]
    have := List.perm_middle (a := n) (l₁ := Fr.pg x.fr ++ (dk ++ l)) (l₂ := U ++ (pc ++ h))
    simpa [List.append_assoc] using this.symm
  | free f n r hl hf hu =>
    refine ⟨⟨dk, h1, ?_⟩, k.one, k.le, k.lim, ?_, k.freed, k.sub, k.disk, fun y hy => k.txns y (by rw [hf]; exact List.mem_cons_of_mem _ hy)⟩
    · refine (mid _ _ _ _ _ _).trans (List.Perm.trans ?_ h2)
      rw [hf]
      exact List.Perm.refl _
    · have := k.sorted
      rw [hf] at this
      exact (List.pairwise_cons.1 this).2
  | more hl hf hp =>
    refine ⟨⟨dk, h1, ?_⟩, by have := k.one; show 1 ≤ x.pages + 1; omega, hp, k.lim, k.sorted, k.freed, k.sub, k.disk, k.txns⟩
    refine (mid _ _ _ _ _ _).trans ?_
    rw [nums_succ k.one]
    exact (List.Perm.cons _ h2).trans (List.perm_append_comm (l₁ := [x.pages]) (l₂ := nums x.pages))
theorem book_upd (x : Tx) (D : Book) (U : List Nat) (n : Nat) (p : Pgg) : ({ x with dirty := Tr.upd x.dirty n (some p) } : Tx).book D U = Tr.upd (x.book D U) n (some p) := by
  funext m
  unfold book Tr.upd
  by_cases e : m = n
  · subst e; simp
  · simp [e]
theorem Ok.book_none {x : Tx} {limit n : Nat} {D : Book} {U pc h : List Nat} (k : x.Ok limit D U pc (n :: h)) : x.book D U n = none := by
  obtain ⟨h1, h2, h3, h4, h5, h6⟩ := k.hand
  unfold book
  rw [h2]
  simp [h4]
theorem Ok.lay {x : Tx} {limit n : Nat} {D : Book} {U pc h : List Nat} (k : x.Ok limit D U pc (n :: h)) (p : Pgg) : ({ x with dirty := Tr.upd x.dirty n (some p) } : Tx).Ok limit D U pc h := by
  obtain ⟨dk, h1, h2⟩ := k.perm
  obtain ⟨g1, g2, g3, g4, g5, g6⟩ := k.hand
  refine ⟨⟨n :: dk, fun m => ?_, ?_⟩, k.one, k.le, k.lim, k.sorted, k.freed, k.sub, k.disk, k.txns⟩
  · show m ∈ n :: dk ↔ Tr.upd x.dirty n (some p) m ≠ none
    by_cases e : m = n
    · subst e; simp [Tr.upd]
    · rw [List.mem_cons, Tr.upd_ne _ _ e, h1 m]; simp [e]
  · refine List.Perm.trans ?_ h2
    have a : (Fr.pg x.fr ++ ((n :: dk) ++ (x.loose ++ (U ++ (pc ++ h))))).Perm (n :: (Fr.pg x.fr ++ (dk ++ (x.loose ++ (U ++ (pc ++ h)))))) := List.perm_middle
    have b := List.perm_middle (a := n) (l₁ := Fr.pg x.fr ++ (dk ++ (x.loose ++ (U ++ pc)))) (l₂ := h)
    refine List.Perm.trans a ?_
    simpa [List.append_assoc] using b.symm
theorem Ok.loosen {x : Tx} {limit n : Nat} {D : Book} {U pc h : List Nat} (k : x.Ok limit D U pc h) (hd : x.dirty n ≠ none) : ({ x with dirty := Tr.upd x.dirty n none, loose := x.loose ++ [n] } : Tx).Ok limit D U pc h ∧ ({ x with dirty := Tr.upd x.dirty n none, loose := x.loose ++ [n] } : Tx).book D U = Tr.upd (x.book D U) n none := by
  obtain ⟨dk, h1, h2⟩ := k.perm
  have hU := k.apart hd
  have hm := (h1 n).2 hd
  obtain ⟨a, b, rfl⟩ := List.append_of_mem hm
  have hn := k.nodup h2
  have hab : n ∉ a ++ b := by
    have h3 := (List.nodup_append.1 (List.nodup_append.1 hn).2.1).1
    have := (List.perm_middle (a := n) (l₁ := a) (l₂ := b)).nodup_iff.1 h3
    exact (List.nodup_cons.1 this).1
  refine ⟨⟨⟨a ++ b, fun m => ?_, ?_⟩, k.one, k.le, k.lim, k.sorted, k.freed, k.sub, k.disk, k.txns⟩, ?_⟩
  · show m ∈ a ++ b ↔ Tr.upd x.dirty n none m ≠ none
    by_cases e : m = n
    · subst e; rw [Tr.upd_same]; simp [hab]
    · rw [Tr.upd_ne _ _ e, ← h1 m]; simp [e]
  · refine List.Perm.trans ?_ h2
    have p1 := List.perm_middle (a := n) (l₁ := Fr.pg x.fr ++ ((a ++ b) ++ x.loose)) (l₂ := U ++ (pc ++ h))
    have p2 := List.perm_middle (a := n) (l₁ := Fr.pg x.fr ++ a) (l₂ := b ++ (x.loose ++ (U ++ (pc ++ h))))
    refine List.Perm.trans (by simpa [List.append_assoc] using p1) ?_
    simpa [List.append_assoc] using p2.symm
  · funext m
    unfold book
    by_cases e : m = n
    · subst e
      simp [Tr.upd, hU]
    · simp [Tr.upd, e]
theorem Ok.free {x : Tx} {limit n : Nat} {D : Book} {U pc h : List Nat} (k : x.Ok limit D U pc h) (hd : x.dirty n = none) (hb : x.book D U n ≠ none) : n ∈ U ∧ n ∉ x.freed ∧ ({ x with freed := x.freed ++ [n] } : Tx).Ok limit D U pc h ∧ ({ x with freed := x.freed ++ [n] } : Tx).book D U = Tr.upd (x.book D U) n none := by
  have hu : n ∈ U ∧ n ∉ x.freed := by
    unfold book at hb
    rw [hd] at hb
    simp only at hb
    by_cases hc : n ∈ U ∧ n ∉ x.freed
    · exact hc
    · rw [if_neg hc] at hb; exact absurd rfl hb
  refine ⟨hu.1, hu.2, ⟨k.perm, k.one, k.le, k.lim, k.sorted, List.nodup_append.2 ⟨k.freed, by simp, fun a ha b hb e => ?_⟩, fun m hm => ?_, k.disk, k.txns⟩, ?_⟩
  · rw [List.mem_singleton] at hb
    subst hb e
    exact hu.2 ha
  · rcases List.mem_append.1 hm with hm | hm
    · exact k.sub m hm
    · rw [List.mem_singleton] at hm; subst hm; exact hu.1
  · funext m
    unfold book
    by_cases e : m = n
    · subst e
      simp [Tr.upd, hd]
    · simp [Tr.upd, e]
end Tx
end Go.Proofs.YtjbcbnemdhbhbaaGreatDoor
namespace Go.Proofs.YtjbcbnemdhbhbaaGreatDoor
open Go.RowKit
set_option maxRecDepth 100000
set_option linter.unusedVariables false
set_option linter.unusedSimpArgs false
def frV (x : Nat × Nat) : List Value := [.int .i64 x.1, .int .i64 x.2]
def flatF (l : List (Nat × Nat)) : List Value := (l.map frV).flatten
theorem flatF_app (a b : List (Nat × Nat)) : flatF (a ++ b) = flatF a ++ flatF b := by simp [flatF]
theorem flatF_cons (x : Nat × Nat) (l : List (Nat × Nat)) : flatF (x :: l) = frV x ++ flatF l := by simp [flatF]
theorem flatF_len : ∀ l : List (Nat × Nat), (flatF l).length = l.length * 2
  | [] => rfl
  | x :: l => by rw [flatF_cons, List.length_append, flatF_len l, List.length_cons]; show 2 + _ = _; omega
theorem flatF_get : ∀ (l : List (Nat × Nat)) (i : Nat) (h : i < l.length) (j : Nat), j < 2 → (flatF l)[i * 2 + j]? = (frV l[i])[j]?
  | x :: l, 0, h, j, hj => by
    rw [flatF_cons, Nat.zero_mul, Nat.zero_add, List.getElem?_append_left (by show j < 2; exact hj)]
    rfl
  | x :: l, i + 1, h, j, hj => by
    rw [flatF_cons, List.getElem?_append_right (by show 2 ≤ _; omega), show (i + 1) * 2 + j - (frV x).length = i * 2 + j by show (i + 1) * 2 + j - 2 = _; omega]
    exact flatF_get l i (by simpa using h) j hj
theorem flatF_one (l : List (Nat × Nat)) : ∀ u ∈ flatF l, u.oneCell' = true := by
  intro u hu
  obtain ⟨x, hx, hu⟩ := List.mem_flatten.1 hu
  obtain ⟨e, _, rfl⟩ := List.mem_map.1 hx
  simp only [frV, List.mem_cons, List.not_mem_nil, or_false] at hu
  rcases hu with rfl | rfl <;> rfl
theorem info_free : (Tryz.prog.info? 62).map (fun i => (i.zero, i.size, i.bytes)) = some (some (.agg #[.int .i64 0, .int .i64 0]), 2, 16) := by kernel_rfl
def FRow (w : World) (A : Option Addr) (l : List (Nat × Nat)) : Prop := ∀ (j : Nat) (u : Value), (flatF l)[j]? = some u → ∃ b o, A = some ⟨b, o, none⟩ ∧ b < w.heap.size ∧ w.cell? ⟨b, o + j, none⟩ = some u
theorem FRow.at {w : World} {A : Option Addr} {l : List (Nat × Nat)} (h : FRow w A l) (i : Nat) (hi : i < l.length) : ∃ b o, A = some ⟨b, o, none⟩ ∧ b < w.heap.size ∧ w.cell? ⟨b, o + i * 2, none⟩ = some (.int .i64 l[i].1) ∧ w.cell? ⟨b, o + i * 2 + 1, none⟩ = some (.int .i64 l[i].2) := by
  obtain ⟨b, o, hA, hb, h0⟩ := h (i * 2) (.int .i64 l[i].1) (by have := flatF_get l i hi 0 (by omega); rw [Nat.add_zero] at this; rw [this]; rfl)
  obtain ⟨b', o', hA', hb', h1⟩ := h (i * 2 + 1) (.int .i64 l[i].2) (by rw [flatF_get l i hi 1 (by omega)]; rfl)
  rw [hA] at hA'
  injection hA' with hA'
  injection hA' with e1 e2
  subst e1 e2
  exact ⟨b, o, hA, hb, h0, h1⟩
theorem FRow.off {U : List Nat} {w w' : World} {A : Option Addr} {l : List (Nat × Nat)} (h : FRow w A l) (ho : Off U w w') (hn : ∀ a, A = some a → a.block ∉ U) : FRow w' A l := by
  intro j u hu
  obtain ⟨b, o, rfl, hb, hc⟩ := h j u hu
  exact ⟨b, o, rfl, Nat.lt_of_lt_of_le hb ho.size, (ho.cell (p := ⟨b, o + j, none⟩) hb (hn ⟨b, o, none⟩ rfl)).trans hc⟩
theorem FRow.below {w w' : World} {A : Option Addr} {l : List (Nat × Nat)} (h : FRow w A l) (hb : Below w.heap.size w w') : FRow w' A l := by
  intro j u hu
  obtain ⟨b, o, rfl, hl, hc⟩ := h j u hu
  exact ⟨b, o, rfl, Nat.lt_of_lt_of_le hl hb.size, (hb.cell (p := ⟨b, o + j, none⟩) hl).trans hc⟩
def FOwn (w : World) (B : Nat) (v : Value) (l : List (Nat × Nat)) : Prop := w.ownsRow B 62 2 v l.length (flatF l)
theorem FOwn.row {w : World} {B : Nat} {A : Option Addr} {n c : Nat} {l : List (Nat × Nat)} (h : FOwn w B (.slice A n c) l) : FRow w A l ∧ n = l.length ∧ n ≤ c ∧ c ≤ maxLen ∧ (∀ a, A = some a → a = ⟨a.block, 0, none⟩ ∧ B ≤ a.block ∧ a.block < w.heap.size) ∧ (A = none → c = 0) := by
  rcases h.2 with ⟨h1, h2⟩ | ⟨g, cap, cur, h1, hb, hh, hc, hm, r⟩
  · injection h1 with e1 e2 e3
    subst e1 e2 e3
    exact ⟨fun j u hu => by rw [List.eq_nil_of_length_eq_zero h2] at hu; simp [flatF] at hu, h2.symm, Nat.le_refl _, Nat.zero_le _, (fun a ha => by cases ha), fun _ => rfl⟩
  · injection h1 with e1 e2 e3
    subst e1 e2 e3
    refine ⟨fun j u hu => ⟨g, 0, rfl, lt_of_block hh, ?_⟩, rfl, hc, hm, (fun a ha => by cases ha; exact ⟨rfl, hb, lt_of_block hh⟩), fun hh => by cases hh⟩
    have := World.ownsRow.cells h (g := g) rfl j u hu
    rw [addr_add] at this
    exact this
def hereV (l : List (Nat × Nat)) : List Value := (Fr.here l).map Value.bool
def flCells (A : Option Addr) (c : Nat) (l : List (Nat × Nat)) : Array Value := (Value.slice A l.length c :: hereV l).toArray
theorem flCells_zero (A : Option Addr) (c : Nat) (l : List (Nat × Nat)) : (flCells A c l)[0]? = some (.slice A l.length c) := by simp [flCells]
theorem flCells_at (A : Option Addr) (c : Nat) (l : List (Nat × Nat)) (i : Nat) (h : i < 512) : (flCells A c l)[1 + i]? = some (.bool (decide (i ∈ Fr.pg l))) := by
  rw [Nat.add_comm]
  simp [flCells, hereV, Fr.here_at l h]
structure FL (w : World) (f : Nat) (S : List Nat) (l : List (Nat × Nat)) : Prop where
  ex : ∃ A c, Bk w f 165 (flCells A c l) ∧ FRow w A l ∧ l.length ≤ c ∧ c ≤ maxLen ∧ (∀ a, A = some a → a.block ∈ S ∧ a.block ≠ f) ∧ (A = none → c = 0)
  inS : f ∈ S
  old : ∀ b ∈ S, b < w.heap.size
structure FLO (w : World) (f : Nat) (S : List Nat) (l : List (Nat × Nat)) : Prop where
  ex : ∃ A c, Bk w f 165 (flCells A c l) ∧ FOwn w 0 (.slice A l.length c) l ∧ ∀ a, A = some a → a.block ∈ S
  inS : f ∈ S
  old : ∀ b ∈ S, b < w.heap.size
theorem FLO.fl {w : World} {f : Nat} {S : List Nat} {l : List (Nat × Nat)} (h : FLO w f S l) : FL w f S l := by
  obtain ⟨⟨A, c, h1, h2, h3⟩, h4, h5⟩ := h
  obtain ⟨r1, r2, r3, r4, r5, r6⟩ := h2.row
  refine ⟨⟨A, c, h1, r1, r3, r4, fun a ha => ⟨h3 a ha, fun e => ?_⟩, r6⟩, h4, h5⟩
  have hne := own_ne h2 h1 (by decide)
  rw [ha, (r5 a ha).1, e] at hne
  exact hne rfl
theorem FL.off {w w' : World} {f : Nat} {S U : List Nat} {l : List (Nat × Nat)} (h : FL w f S l) (ho : Off U w w') (hU : ∀ b ∈ S, b ∉ U) : FL w' f S l := by
  obtain ⟨⟨A, c, h1, h2, h3, h4, h5, h8⟩, h6, h7⟩ := h
  exact ⟨⟨A, c, ho.bk h1 (hU f h6), h2.off ho (fun a ha => hU _ (h5 a ha).1), h3, h4, h5, h8⟩, h6, fun b hb => Nat.lt_of_lt_of_le (h7 b hb) ho.size⟩
theorem FLO.off {w w' : World} {f : Nat} {S U : List Nat} {l : List (Nat × Nat)} (h : FLO w f S l) (ho : Off U w w') (hU : ∀ b ∈ S, b ∉ U) : FLO w' f S l := by
  obtain ⟨⟨A, c, h1, h2, h3⟩, h6, h7⟩ := h
  refine ⟨⟨A, c, ho.bk h1 (hU f h6), ho.own h2 (fun g hg => ?_), h3⟩, h6, fun b hb => Nat.lt_of_lt_of_le (h7 b hb) ho.size⟩
  obtain ⟨a, rfl⟩ : ∃ a, A = some a := by
    cases A with
    | none => simp [Value.ownBlock] at hg
    | some a => exact ⟨a, rfl⟩
  have h9 := (h2.row).2.2.2.2.1 a rfl
  have h8 := h3 a rfl
  rw [h9.1] at hg h8
  have e : a.block = g := by simpa [Value.ownBlock] using hg
  rw [← e]
  exact hU _ h8
theorem FL.below {w w' : World} {f : Nat} {S : List Nat} {l : List (Nat × Nat)} (h : FL w f S l) (hb : Below w.heap.size w w') : FL w' f S l := h.off (Off.of_below hb []) (fun _ _ => List.not_mem_nil)
theorem FLO.below {w w' : World} {f : Nat} {S : List Nat} {l : List (Nat × Nat)} (h : FLO w f S l) (hb : Below w.heap.size w w') : FLO w' f S l := h.off (Off.of_below hb []) (fun _ _ => List.not_mem_nil)
set_option maxHeartbeats 16000000 in
theorem fnew_any (w : World) : Calls Tryz.prog 155 #[] w (fun e w' => e = .returned (.pointer (some ⟨w.heap.size, 0, none⟩)) ∧ FLO w' w.heap.size [w.heap.size] [] ∧ Below w.heap.size w w') := by
  go_enter Tryz.func155, Tryz.ntmps155
  go_wp2_with fail
  go_ret
  refine ⟨rfl, ⟨⟨none, 0, ?_, World.ownsRow_nil _ _ _ _, fun a ha => by cases ha⟩, by simp, fun b hb => by rw [List.mem_singleton] at hb; subst hb; simp⟩, (Below.refl _ _).alloc (Nat.le_refl _) _⟩
  have e : flCells none 0 [] = (Value.slice none 0 0 :: List.replicate 512 (Value.bool false)).toArray := by unfold flCells hereV; rw [Fr.here_nil, List.map_replicate]; rfl
  rw [e]
  exact Bk.new w _ _
set_option maxHeartbeats 4000000 in
theorem fcount_any {w : World} {f : Nat} {S : List Nat} {l : List (Nat × Nat)} (h : FL w f S l) : Calls Tryz.prog 112 #[.pointer (some ⟨f, 0, none⟩)] w (fun e w' => e = .returned (.int .i64 l.length) ∧ w = w') := by
  obtain ⟨⟨A, c, h1, h2, h3, h4, h5, -⟩, h6, h7⟩ := h
  have c0 := (h1.cell 0).trans (flCells_zero A c l)
  have lf := h1.lt
  clear h1 h2 h5 h6 h7
  go_enter Tryz.func112, Tryz.ntmps112
  go_wp2_with fail
  go_ret
  exact ⟨rfl, rfl⟩
set_option maxHeartbeats 4000000 in
theorem fpieces_any (n : Nat) (w : World) (h : n ≤ 1000000) : Calls Tryz.prog 111 #[.int .i64 n] w (fun e w' => e = .returned (.int .i64 (Fr.pieces n : Nat)) ∧ w = w') := by
  by_cases h0 : n < 1
  · obtain rfl : n = 0 := by omega
    go_enter Tryz.func111, Tryz.ntmps111
    go_wp2_with fail
    go_ret
    exact ⟨rfl, rfl⟩
  · have z1 : decide ((n : Int) < 1) = false := decide_eq_false (by omega)
    have HP := Lib.hid (show Fr.pieces n = (n - 1) / 40 + 1 by unfold Fr.pieces; rw [if_neg h0])
    have hn : 1 ≤ (n : Int) := by omega
    have hn2 : (n : Int) ≤ 1000000 := by omega
    go_enter Tryz.func111, Tryz.ntmps111
    go_wp2_with fail
    go_ret
    refine ⟨congrArg (fun z : Int => Ending.returned (.int .i64 z)) ?_, rfl⟩
    rw [HP.out]
    omega
set_option maxHeartbeats 4000000 in
theorem ftake_no {w : World} {f : Nat} {S : List Nat} {l : List (Nat × Nat)} (h : FL w f S l) (upto : Int) (hu : ∀ x t, l = x :: t → upto < x.1) : Calls Tryz.prog 169 #[.pointer (some ⟨f, 0, none⟩), .int .i64 upto] w (fun e w' => e = .returned (.tuple #[.int .i64 0, .bool false]) ∧ w = w') := by
  obtain ⟨⟨A, c, h1, h2, h3, h4, h5, -⟩, h6, h7⟩ := h
  have c0 := (h1.cell 0).trans (flCells_zero A c l)
  have lf := h1.lt
  cases l with
  | nil =>
    simp only [List.length_nil] at c0
    clear h1 h2 h5 h6 h7 hu
    go_enter Tryz.func169, Tryz.ntmps169
    go_wp2_with fail
    go_ret2
    exact ⟨rfl, rfl⟩
  | cons x t =>
    have z1 : decide (upto < (x.1 : Int)) = true := decide_eq_true (hu x t rfl)
    obtain ⟨b, o, rfl, lb, q0, q1⟩ := h2.at 0 (by simp)
    simp only [List.getElem_cons_zero, Nat.zero_mul, Nat.add_zero] at q0 q1
    obtain ⟨n, hn⟩ : ∃ n, n = t.length := ⟨_, rfl⟩
    simp only [List.length_cons] at c0 h3
    rw [← hn] at c0 h3
    have z2 : ((n : Int) + 1 == 0) = false := by rw [beq_eq_false_iff_ne]; omega
    have z3 : (n + 1 == 0) = false := by rw [beq_eq_false_iff_ne]; omega
    have z4 : 0 < n + 1 := by omega
    clear h1 h2 h5 h6 h7 hu hn
    go_enter Tryz.func169, Tryz.ntmps169
    go_wp2_with fail
    go_ret2
    exact ⟨rfl, rfl⟩
end Go.Proofs.YtjbcbnemdhbhbaaGreatDoor
namespace Go.Proofs.YtjbcbnemdhbhbaaGreatDoor
open Go.RowKit
set_option maxRecDepth 100000
set_option linter.unusedVariables false
set_option linter.unusedSimpArgs false
theorem fset_here (A A' : Option Addr) (c c' : Nat) (l l' : List (Nat × Nat)) (p : Nat) (b : Bool) (hp : p < 512) (hh : Fr.here l' = (Fr.here l).set p b) : ((flCells A c l).setIfInBounds 0 (.slice A' l'.length c')).setIfInBounds (1 + p) (.bool b) = flCells A' c' l' := by
  apply Array.ext'
  rw [Array.toList_setIfInBounds, Array.toList_setIfInBounds]
  unfold flCells hereV
  rw [hh, List.map_set]
  simp [Nat.add_comm]
theorem FRow.tail {w : World} {b o : Nat} {x : Nat × Nat} {t : List (Nat × Nat)} (h : FRow w (some ⟨b, o, none⟩) (x :: t)) : FRow w (some ⟨b, o + 2, none⟩) t := by
  intro j u hu
  obtain ⟨b', o', hA, hb, hc⟩ := h (j + 2) u (by rw [flatF_cons, List.getElem?_append_right (by show 2 ≤ _; omega)]; exact hu)
  injection hA with hA
  injection hA with e1 e2
  subst e1 e2
  exact ⟨b, o + 2, rfl, hb, by rw [show o + 2 + j = o + (j + 2) by omega]; exact hc⟩
def TakePost (f : Nat) (S : List Nat) (p : Nat) (t : List (Nat × Nat)) (w : World) (e : Ending) (w' : World) : Prop := e = .returned (.tuple #[.int .i64 p, .bool true]) ∧ FL w' f S t ∧ Off [f] w w'
set_option maxHeartbeats 8000000 in
theorem ftake_yes {w : World} {f : Nat} {S : List Nat} {x : Nat × Nat} {t : List (Nat × Nat)} (h : FL w f S (x :: t)) (upto : Int) (hu : (x.1 : Int) ≤ upto) (hp : x.2 < 512) (hnd : (Fr.pg (x :: t)).Nodup) :
    Calls Tryz.prog 169 #[.pointer (some ⟨f, 0, none⟩), .int .i64 upto] w (TakePost f S x.2 t w) := by
  obtain ⟨⟨A, c, h1, h2, h3, h4, h5, -⟩, h6, h7⟩ := h
  have H1 := Lib.hid h1
  have H2 := Lib.hid h2
  have H5 := Lib.hid h5
  have H6 := Lib.hid h6
  have H7 := Lib.hid h7
  have HND := Lib.hid (Fr.here_tail hnd)
  have c0 := (h1.cell 0).trans (flCells_zero A c (x :: t))
  have cp := (h1.cell (1 + x.2)).trans (flCells_at A c (x :: t) x.2 hp)
  have f0 := h1.frozen 0
  have fp := h1.frozen (1 + x.2)
  have lf := h1.lt
  have z1 : decide (upto < (x.1 : Int)) = false := decide_eq_false (by omega)
  obtain ⟨b, o, rfl, lb, q0, q1⟩ := h2.at 0 (by simp)
  simp only [List.getElem_cons_zero, Nat.zero_mul, Nat.add_zero] at q0 q1
  have HBF := Lib.hid (h5 _ rfl)
  obtain ⟨n, hn⟩ : ∃ n, n = t.length := ⟨_, rfl⟩
  have HN := Lib.hid hn
  simp only [List.length_cons] at c0 h3
  rw [← hn] at c0 h3
  have z2 : ((n : Int) + 1 == 0) = false := by rw [beq_eq_false_iff_ne]; omega
  have z3 : (n + 1 == 0) = false := by rw [beq_eq_false_iff_ne]; omega
  have z4 : 0 < n + 1 := by omega
  have z5 : 1 ≤ n + 1 := by omega
  obtain ⟨p, hp9⟩ : ∃ p, p = x.2 := ⟨_, rfl⟩
  have HP := Lib.hid hp9
  rw [← hp9] at q1 cp fp hp
  have z6 : decide ((p : Int) < 512) = true := decide_eq_true (by omega)
  unfold maxLen at h4
  clear h1 h2 h5 h6 h7 hu hn hnd hp9
  have hoff : ∀ (u v : Value), Off [f] w ((w.setCell ⟨f, 0, none⟩ u).setCell ⟨f, 1 + p, none⟩ v) := fun u v => ((Off.refl [f] w).setCell (.inl (by simp)) _).setCell (.inl (by simp)) _
  have HOFF := Lib.hid hoff
  have HSET := Lib.hid fun (A' : Option Addr) (c' : Nat) => fset_here (some ⟨b, o, none⟩) A' c c' (x :: t) t p false hp (by rw [HP.out]; exact HND.out)
  clear hoff
  by_cases hc : c = 1
  · have hn0 : n = 0 := by omega
    have ht : t = [] := List.eq_nil_of_length_eq_zero (by rw [← HN.out]; exact hn0)
    have HT := Lib.hid ht
    clear ht
    subst hc hn0
    go_enter Tryz.func169, Tryz.ntmps169
    go_wp2_with fail
    go_ret2
    have h9 := HSET.out (some ⟨b, o, none⟩) 0
    rw [← HN.out] at h9
    refine ⟨congrArg (fun z : Nat => Ending.returned (.tuple #[.int .i64 (z : Int), .bool true])) HP.out, ⟨⟨some ⟨b, o, none⟩, 0, ?_, ?_, by rw [HT.out]; exact Nat.le_refl _, Nat.zero_le _, fun a ha => ?_, fun hh => by cases hh⟩, H6.out, fun y hy => ?_⟩, HOFF.out _ _⟩
    · rw [← h9]
      exact (H1.out.put 0 _).put (1 + p) _
    · rw [HT.out]
      intro j u hu
      simp [flatF] at hu
    · cases ha; exact HBF.out
    · have := H7.out y hy
      simpa [World.setCell] using this
  · have hc2 : (1 = c) = False := by rw [eq_iff_iff]; exact ⟨fun h => hc h.symm, False.elim⟩
    go_enter Tryz.func169, Tryz.ntmps169
    go_wp2_with fail
    go_ret2
    have h9 := HSET.out (some ⟨b, o + 2, none⟩) (c - 1)
    rw [← HN.out] at h9
    refine ⟨congrArg (fun z : Nat => Ending.returned (.tuple #[.int .i64 (z : Int), .bool true])) HP.out, ⟨⟨some ⟨b, o + 2, none⟩, c - 1, ?_, (FRow.tail H2.out).off (HOFF.out _ _) (fun a ha => ?_), by rw [← HN.out]; omega, by unfold maxLen; omega, fun a ha => ?_, fun hh => by cases hh⟩, H6.out, fun y hy => ?_⟩, HOFF.out _ _⟩
    · rw [← h9]
      exact (H1.out.put 0 _).put (1 + p) _
    · cases ha; simpa using HBF.out.2
    · cases ha; exact HBF.out
    · have := H7.out y hy
      simpa [World.setCell] using this
end Go.Proofs.YtjbcbnemdhbhbaaGreatDoor
namespace Go.Proofs.YtjbcbnemdhbhbaaGreatDoor
open Go.RowKit
set_option maxRecDepth 100000
set_option linter.unusedVariables false
set_option linter.unusedSimpArgs false
theorem retI {a b : Int} (h : a = b) : Ending.returned (.int .i64 a) = Ending.returned (.int .i64 b) := by rw [h]
theorem bk_atN (w : World) (t : TypeId) (cs : Array Value) (k : Nat) (h : w.heap.size = k) : Bk (w.alloc (.cells cs t)) k t cs := by subst h; exact Bk.new w t cs
def cmpI (a b : Int) : Int := if a < b then -1 else if b < a then 1 else 0
theorem nanI (x : Int) (w : World) : Calls Tryz.prog 243 #[.int .i64 x] w (fun e w' => e = .returned (.bool false) ∧ w = w') := by
  go_enter Tryz.func243, Tryz.ntmps243
  go_wp2_with fail
  go_ret
  exact ⟨rfl, rfl⟩
set_option maxHeartbeats 4000000 in
theorem compareI (a b : Int) (w : World) : Calls Tryz.prog 248 #[.int .i64 a, .int .i64 b] w (fun e w' => e = .returned (.int .i64 (cmpI a b)) ∧ w = w') := by
  have HN := Lib.hid fun (x : Int) (W : World) => nanI x W
  by_cases h1 : a < b
  · have HC := Lib.hid (show cmpI a b = -1 by unfold cmpI; rw [if_pos h1])
    have z1 : decide (a < b) = true := decide_eq_true h1
    clear h1
    go_enter Tryz.func248, Tryz.ntmps248
    go_wp2_with (go_at_call 243; refine (HN.out _ _).mono ?_; rintro e w' ⟨rfl, rfl⟩)
    go_ret
    exact ⟨retI HC.out.symm, rfl⟩
  · by_cases h2 : b < a
    · have HC := Lib.hid (show cmpI a b = 1 by unfold cmpI; rw [if_neg h1, if_pos h2])
      have z1 : decide (a < b) = false := decide_eq_false h1
      have z2 : decide (b < a) = true := decide_eq_true h2
      clear h1 h2
      go_enter Tryz.func248, Tryz.ntmps248
      go_wp2_with (go_at_call 243; refine (HN.out _ _).mono ?_; rintro e w' ⟨rfl, rfl⟩)
      go_ret
      exact ⟨retI HC.out.symm, rfl⟩
    · have HC := Lib.hid (show cmpI a b = 0 by unfold cmpI; rw [if_neg h1, if_neg h2])
      have z1 : decide (a < b) = false := decide_eq_false h1
      have z2 : decide (b < a) = false := decide_eq_false h2
      clear h1 h2
      go_enter Tryz.func248, Tryz.ntmps248
      go_wp2_with (go_at_call 243; refine (HN.out _ _).mono ?_; rintro e w' ⟨rfl, rfl⟩)
      go_ret
      exact ⟨retI HC.out.symm, rfl⟩
def orZ (x y : Int) : Int := if x = 0 then y else x
set_option maxHeartbeats 4000000 in
theorem orI (b : Nat) (x y : Int) (w : World) (h : Bk w b 3 #[.int .i64 x, .int .i64 y]) : Calls Tryz.prog 247 #[.slice (some ⟨b, 0, none⟩) 2 2] w (fun e w' => e = .returned (.int .i64 (orZ x y)) ∧ w = w') := by
  have c0 := h.cell 0
  have c1 := h.cell 1
  have lb := h.lt
  clear h
  by_cases hx : x = 0
  · subst hx
    by_cases hy : y = 0
    · subst hy
      have HX := Lib.hid (show orZ 0 0 = 0 from rfl)
      go_enter Tryz.func247, Tryz.ntmps247
      go_wp2_with fail
      refine wp_loop_rounds 3 ?_
      rw [rounds_succ]
      go_wp2_with fail
      rw [rounds_succ]
      go_wp2_with fail
      rw [rounds_succ]
      go_wp2_with fail
      go_ret
      exact ⟨retI HX.out.symm, rfl⟩
    · have z1 : (y != 0) = true := by rw [bne_iff_ne]; exact hy
      have HX := Lib.hid (show orZ 0 y = y from rfl)
      clear hy
      go_enter Tryz.func247, Tryz.ntmps247
      go_wp2_with fail
      refine wp_loop_rounds 3 ?_
      rw [rounds_succ]
      go_wp2_with fail
      rw [rounds_succ]
      go_wp2_with fail
      go_ret
      exact ⟨retI HX.out.symm, rfl⟩
  · have z1 : (x != 0) = true := by rw [bne_iff_ne]; exact hx
    have HX := Lib.hid (show orZ x y = x by unfold orZ; rw [if_neg hx])
    clear hx
    go_enter Tryz.func247, Tryz.ntmps247
    go_wp2_with fail
    refine wp_loop_rounds 3 ?_
    rw [rounds_succ]
    go_wp2_with fail
    go_ret
    exact ⟨retI HX.out.symm, rfl⟩
def Fr.cmp (x y : Nat × Nat) : Int := orZ (cmpI x.1 y.1) (cmpI x.2 y.2)
theorem Fr.cmp_lt (x y : Nat × Nat) : Fr.lt x y = decide (Fr.cmp x y < 0) := by
  rw [Bool.eq_iff_iff, decide_eq_true_eq, Fr.lt_iff]
  unfold Fr.cmp orZ cmpI
  repeat split
  all_goals omega
set_option maxHeartbeats 8000000 in
theorem forder_any (x y : Nat × Nat) (w : World) : Calls Tryz.prog 216 #[.agg #[.int .i64 x.1, .int .i64 x.2], .agg #[.int .i64 y.1, .int .i64 y.2]] w (fun e w' => e = .returned (.int .i64 (Fr.cmp x y)) ∧ Below w.heap.size w w') := by
  have HC := Lib.hid fun (a b : Int) (W : World) => compareI a b W
  have HO := Lib.hid fun (b : Nat) (x y : Int) (W : World) (h : Bk W b 3 #[.int .i64 x, .int .i64 y]) => orI b x y W h
  have HF := Lib.hid (show Fr.cmp x y = orZ (cmpI x.1 y.1) (cmpI x.2 y.2) from rfl)
  go_enter Tryz.func216, Tryz.ntmps216
  go_wp2_with fail
  have HKS := Lib.hid (show ∀ W, Below (w.heap.size + 2) ((w.alloc (.cells #[.int .i64 x.1, .int .i64 x.2] 62)).alloc (.cells #[.int .i64 y.1, .int .i64 y.2] 62)) W → W.cell? ⟨w.heap.size, 0, none⟩ = some (.int .i64 x.1) ∧ W.cell? ⟨w.heap.size, 1, none⟩ = some (.int .i64 x.2) ∧ W.cell? ⟨w.heap.size + 1, 0, none⟩ = some (.int .i64 y.1) ∧ W.cell? ⟨w.heap.size + 1, 1, none⟩ = some (.int .i64 y.2) from fun W hW => by
    have h1 := bk_below ((Bk.new w 62 #[.int .i64 x.1, .int .i64 x.2]).alloc (.cells #[.int .i64 y.1, .int .i64 y.2] 62)) (w' := W) (by simpa using hW)
    have h2 := bk_below (Bk.new (w.alloc (.cells #[.int .i64 x.1, .int .i64 x.2] 62)) 62 #[.int .i64 y.1, .int .i64 y.2]) (w' := W) (by simpa using hW)
    have h3 := h2.cell 0
    have h4 := h2.cell 1
    rw [show (w.alloc (.cells #[.int .i64 x.1, .int .i64 x.2] 62)).heap.size = w.heap.size + 1 by simp] at h3 h4
    exact ⟨h1.cell 0, h1.cell 1, h3, h4⟩)
  go_region_held3 (fun W => W.cell? ⟨w.heap.size, 0, none⟩ = some (.int .i64 x.1) ∧ W.cell? ⟨w.heap.size, 1, none⟩ = some (.int .i64 x.2) ∧ W.cell? ⟨w.heap.size + 1, 0, none⟩ = some (.int .i64 y.1) ∧ W.cell? ⟨w.heap.size + 1, 1, none⟩ = some (.int .i64 y.2)) (first | (refine HKS.out _ ?_; with_reducible (first | exact (Below.refl _ _).drew | exact ((Below.refl _ _).alloc (by simp) _).drew)) | fail) (first
    | (go_at_call 248; (with_reducible refine (HC.out _ _ _).mono ?_); rintro e w' ⟨rfl, rfl⟩)
    | (go_at_call 247; (refine (HO.out (w.heap.size + 1 + 1) (cmpI x.1 y.1) (cmpI x.2 y.2) _ (bk_atN _ _ _ _ (by simp)).drew).mono ?_; rintro e w' ⟨rfl, rfl⟩)))
  all_goals
    go_wp2_with fail
    go_ret
    exact ⟨retI HF.out.symm, ((((Below.refl _ w).alloc (Nat.le_refl _) _).alloc (by simp) _).alloc (by simp; omega) _).drew⟩
set_option maxHeartbeats 4000000 in
theorem fright_ok (x : Nat × Nat) (w : World) (h : Fr.ok x = true) : Calls Tryz.prog 214 #[.agg #[.int .i64 x.1, .int .i64 x.2]] w (fun e w' => e = .returned (.bool true) ∧ Below w.heap.size w w') := by
  unfold Fr.ok at h
  simp only [Bool.and_eq_true, decide_eq_true_eq] at h
  obtain ⟨⟨h1, h2⟩, h3⟩ := h
  obtain ⟨a, b⟩ := x
  simp only at h1 h2 h3 ⊢
  have z0 : decide ((0 : Int) ≤ (a : Int)) = true := decide_eq_true (by omega)
  have z1 : decide ((a : Int) ≤ 1099511627776) = true := decide_eq_true (by omega)
  have z2 : decide ((1 : Int) ≤ (b : Int)) = true := decide_eq_true (by omega)
  have z3 : decide ((b : Int) < 512) = true := decide_eq_true (by omega)
  have z4 : decide (1 ≤ b) = true := decide_eq_true h2
  have z5 : decide (b < 512) = true := decide_eq_true h3
  clear h1 h2 h3
  go_enter Tryz.func214, Tryz.ntmps214
  go_wp2_with fail
  go_ret
  exact ⟨rfl, (Below.refl _ w).alloc (Nat.le_refl _) _⟩
end Go.Proofs.YtjbcbnemdhbhbaaGreatDoor
namespace Go.Proofs.YtjbcbnemdhbhbaaGreatDoor
set_option linter.unusedVariables false
set_option linter.unusedSimpArgs false
namespace Fr
def addAll (t : Nat) (fr : List (Nat × Nat)) (ns : List Nat) : List (Nat × Nat) := ns.foldl (fun l n => ins l (t, n)) fr
theorem addAll_snoc (t : Nat) (fr : List (Nat × Nat)) (ns : List Nat) (n : Nat) : addAll t fr (ns ++ [n]) = ins (addAll t fr ns) (t, n) := by simp [addAll]
theorem pg_perm {a b : List (Nat × Nat)} (h : a.Perm b) : (pg a).Perm (pg b) := h.map _
theorem addAll_ok {t : Nat} : ∀ {ns : List Nat} {fr : List (Nat × Nat)}, Sorted fr → (pg fr ++ ns).Nodup → Sorted (addAll t fr ns) ∧ (pg (addAll t fr ns)).Perm (pg fr ++ ns) ∧ (addAll t fr ns).length = fr.length + ns.length
  | [], fr, hs, hn => ⟨hs, by simp [addAll], rfl⟩
  | n :: ns, fr, hs, hn => by
    have hp : (pg (ins fr (t, n)) ++ ns).Perm (pg fr ++ (n :: ns)) := by
      have h1 := pg_perm (ins_perm fr (t, n))
      refine (h1.append_right ns).trans ?_
      exact (List.perm_middle (a := n) (l₁ := pg fr) (l₂ := ns)).symm
    have hx : n ∉ pg fr := fun h => (List.nodup_append.1 hn).2.2 n h n (by simp) rfl
    have h2 := addAll_ok (t := t) (ns := ns) (fr := ins fr (t, n)) (ins_sorted hs _ (fun h => hx (List.mem_map.2 ⟨_, h, rfl⟩))) (hp.nodup_iff.2 hn)
    refine ⟨h2.1, h2.2.1.trans hp, ?_⟩
    have := h2.2.2
    rw [ins_len] at this
    show (addAll t (ins fr (t, n)) ns).length = fr.length + (ns.length + 1)
    omega
theorem addAll_at {t : Nat} {ms : List Nat} {fr : List (Nat × Nat)} (hs : Sorted fr) (hn : (pg fr ++ ms).Nodup) (j : Nat) (hj : j < ms.length) :
    Sorted (addAll t fr (ms.take j)) ∧ (addAll t fr (ms.take j)).length = fr.length + j ∧ ms[j] ∉ pg (addAll t fr (ms.take j)) ∧ addAll t fr (ms.take (j + 1)) = ins (addAll t fr (ms.take j)) (t, ms[j]) := by
  have e1 : ms.take (j + 1) = ms.take j ++ [ms[j]] := List.take_succ_eq_append_getElem hj
  have hn1 : (pg fr ++ ms.take (j + 1)).Nodup := by
    refine List.Nodup.sublist ?_ hn
    exact List.Sublist.append (List.Sublist.refl _) (List.take_sublist _ _)
  rw [e1, ← List.append_assoc] at hn1
  obtain ⟨h1, -, h2⟩ := List.nodup_append.1 hn1
  obtain ⟨k1, k2, k3⟩ := addAll_ok (t := t) hs h1
  refine ⟨k1, by rw [k3, List.length_take]; omega, fun hm => ?_, by rw [e1, addAll_snoc]⟩
  exact h2 _ (k2.mem_iff.1 hm) _ (by simp) rfl
end Fr
namespace Tx
def more (x : Tx) (pc : List Nat) : List Nat := x.freed ++ (x.loose ++ pc)
theorem Ok.spare {x : Tx} {limit : Nat} {D : Book} {U pc h : List Nat} (k : x.Ok limit D U pc h) : (Fr.pg x.fr ++ x.more pc).Nodup ∧ (∀ n ∈ x.more pc, n ∉ h ∧ 1 ≤ n ∧ n < x.pages) ∧ x.fr.length + (x.more pc).length ≤ x.pages := by
  obtain ⟨dk, h1, h2⟩ := k.perm
  have hn := k.nodup h2
  have r := k.range
  obtain ⟨a1, a2, a3⟩ := List.nodup_append.1 hn
  obtain ⟨b1, b2, b3⟩ := List.nodup_append.1 a2
  obtain ⟨c1, c2, c3⟩ := List.nodup_append.1 b2
  obtain ⟨d1, d2, d3⟩ := List.nodup_append.1 c2
  obtain ⟨e1, e2, e3⟩ := List.nodup_append.1 d2
  have hnd : (Fr.pg x.fr ++ x.more pc).Nodup := by
    unfold more
    refine List.nodup_append.2 ⟨a1, List.nodup_append.2 ⟨k.freed, List.nodup_append.2 ⟨c1, e1, fun a ha b hb => c3 a ha b (by simp [hb])⟩, fun a ha b hb e => ?_⟩, fun a ha b hb e => ?_⟩
    · subst e
      rcases List.mem_append.1 hb with hb | hb
      · exact c3 a hb a (by simp [k.sub a ha]) rfl
      · exact d3 a (k.sub a ha) a (by simp [hb]) rfl
    · subst e
      rcases List.mem_append.1 hb with hb | hb
      · exact a3 a ha a (by simp [k.sub a hb]) rfl
      · rcases List.mem_append.1 hb with hb | hb
        · exact a3 a ha a (by simp [hb]) rfl
        · exact a3 a ha a (by simp [hb]) rfl
  have hr : ∀ n ∈ x.more pc, n ∉ h ∧ 1 ≤ n ∧ n < x.pages := fun n hn => by
    unfold more at hn
    rcases List.mem_append.1 hn with hn | hn
    · exact ⟨fun hh => d3 n (k.sub n hn) n (by simp [hh]) rfl, r.2.2.2.1 n (k.sub n hn)⟩
    · rcases List.mem_append.1 hn with hn | hn
      · exact ⟨fun hh => c3 n hn n (by simp [hh]) rfl, r.2.2.1 n hn⟩
      · exact ⟨fun hh => e3 n hn n hh rfl, r.2.2.2.2.1 n hn⟩
  refine ⟨hnd, hr, ?_⟩
  have hsub := Tr.nodup_lt x.pages _ hnd (fun n hn => by
    rcases List.mem_append.1 hn with hn | hn
    · have := r.1 n hn; omega
    · have := (hr n hn).2; omega)
  rw [List.length_append] at hsub
  have hpg : (Fr.pg x.fr).length = x.fr.length := by simp [Fr.pg]
  omega
theorem Ok.laid {x : Tx} {limit : Nat} {D : Book} {U pc h : List Nat} (k : x.Ok limit D U pc h) (t : Nat) (ht : t ≤ 1099511627776) :
    ∃ P' : List Nat, (∀ n, n ∈ P' ↔ x.book D U n ≠ none) ∧ (Fr.pg (Fr.addAll t x.fr (x.more pc)) ++ (P' ++ h)).Perm (nums x.pages) ∧ Fr.Sorted (Fr.addAll t x.fr (x.more pc)) ∧ (∀ y ∈ Fr.addAll t x.fr (x.more pc), y.1 ≤ 1099511627776) := by
  obtain ⟨dk, h1, h2⟩ := k.perm
  obtain ⟨hnd, hin, -⟩ := k.spare
  obtain ⟨k1, k2, k3⟩ := Fr.addAll_ok (t := t) k.sorted hnd
  have hap : ∀ n, x.dirty n ≠ none → n ∉ U := fun n hn => k.apart hn
  obtain ⟨V, hV1, hV2⟩ : ∃ V, (x.freed ++ V).Perm U ∧ ∀ n, n ∈ V ↔ n ∈ U ∧ n ∉ x.freed := by
    have hU : U.Nodup := by
      have hn := k.nodup h2
      exact (List.nodup_append.1 (List.nodup_append.1 (List.nodup_append.1 (List.nodup_append.1 hn).2.1).2.1).2.1).1
    refine ⟨U.filter (fun n => !x.freed.contains n), ?_, fun n => by simp⟩
    have ha : (U.filter (fun n => x.freed.contains n) ++ U.filter (fun n => !x.freed.contains n)).Perm U := List.filter_append_perm _ _
    refine List.Perm.trans (List.Perm.append_right _ ?_) ha
    refine (List.perm_ext_iff_of_nodup k.freed (List.Nodup.sublist List.filter_sublist hU)).2 fun n => ?_
    rw [List.mem_filter]
    constructor
    · exact fun hn => ⟨k.sub n hn, by simpa using hn⟩
    · exact fun hn => by simpa using hn.2
  refine ⟨dk ++ V, fun n => ?_, ?_, k1, fun y hy => ?_⟩
  · unfold book
    rw [List.mem_append, hV2, h1 n]
    cases hd : x.dirty n with
    | some p => simp
    | none =>
      simp only [ne_eq, not_true_eq_false, false_or]
      constructor
      · intro hc
        rw [if_pos hc]
        exact k.disk n hc.1
      · intro hc
        by_cases hb : n ∈ U ∧ n ∉ x.freed
        · exact hb
        · rw [if_neg hb] at hc; exact absurd rfl hc
  · refine List.Perm.trans (List.Perm.append_right _ k2) (List.Perm.trans ?_ h2)
    unfold more
    simp only [List.append_assoc]
    refine List.Perm.append_left _ ?_
    have e1 : (x.freed ++ (x.loose ++ (pc ++ (dk ++ (V ++ h))))).Perm (dk ++ (x.loose ++ ((x.freed ++ V) ++ (pc ++ h)))) := by
      refine List.perm_iff_count.2 fun a => ?_
      simp only [List.count_append]
      omega
    refine e1.trans ?_
    exact List.Perm.append_left _ (List.Perm.append_left _ (List.Perm.append_right _ hV1))
  · have : ∀ (ns : List Nat) (fr : List (Nat × Nat)), (∀ y ∈ fr, y.1 ≤ 1099511627776) → ∀ y ∈ Fr.addAll t fr ns, y.1 ≤ 1099511627776 := by
      intro ns
      induction ns with
      | nil => exact fun fr h => h
      | cons a ns ih =>
        intro fr h
        refine ih (Fr.ins fr (t, a)) (fun y hy => ?_)
        rcases List.mem_cons.1 ((Fr.ins_perm fr (t, a)).mem_iff.1 hy) with rfl | hy
        · exact ht
        · exact h y hy
    exact this _ _ k.txns y hy
end Tx
end Go.Proofs.YtjbcbnemdhbhbaaGreatDoor

import Derived.Test.YtjbcbnemdhbhbaaGreatDoorG28
import Derived.Test.YtjbcbnemdhbhbaaGreatDoorG15
import Derived.Test.YtjbcbnemdhbhbaaGreatDoorG29
import Derived.Test.YtjbcbnemdhbhbaaGreatDoorG5
import Derived.Test.YtjbcbnemdhbhbaaGreatDoorG23
import Derived.Test.YtjbcbnemdhbhbaaGreatDoorG24
namespace Go.Proofs.YtjbcbnemdhbhbaaGreatDoor
set_option linter.unusedVariables false
set_option linter.unusedSimpArgs false
structure Tx where
 pages : Nat
 fr : List (Nat × Nat)
 dirty : Book
 loose : List Nat
 freed : List Nat
def nums (e : Nat) : List Nat := (List.range (e - 1)).map (· + 1)
theorem nums_mem {e n : Nat} : n ∈ nums e ↔ 1 ≤ n ∧ n < e := by
 unfold nums
 rw [List.mem_map]
 constructor
 · rintro ⟨a, ha, rfl⟩
   rw [List.mem_range] at ha
   omega
 · intro h
   exact ⟨n - 1, List.mem_range.2 (by omega), by omega⟩
theorem nums_nodup (e : Nat) : (nums e).Nodup := by
 unfold nums
 unfold List.Nodup
 rw [List.pairwise_map]
 exact (List.nodup_range (n := e - 1)).imp fun h => by omega
theorem nums_succ {e : Nat} (h : 1 ≤ e) : nums (e + 1) = nums e ++ [e] := by
 unfold nums
 rw [show e + 1 - 1 = (e - 1) + 1 by omega, List.range_succ, List.map_append]
 simp
 omega
namespace Tx
def book (x : Tx) (D : Book) (U : List Nat) : Book := fun n => match x.dirty n with
 | some p => some p
 | none => if n ∈ U ∧ n ∉ x.freed then D n else none
structure Ok (x : Tx) (limit : Nat) (D : Book) (U pc h : List Nat) : Prop where
 perm : ∃ dk : List Nat, (∀ n, n ∈ dk ↔ x.dirty n ≠ none) ∧ (Fr.pg x.fr ++ (dk ++ (x.loose ++ (U ++ (pc ++ h))))).Perm (nums x.pages)
 one : 1 ≤ x.pages
 le : x.pages ≤ limit
 lim : limit ≤ 512
 sorted : Fr.Sorted x.fr
 freed : x.freed.Nodup
 sub : ∀ n ∈ x.freed, n ∈ U
 disk : ∀ n ∈ U, D n ≠ none
 txns : ∀ y ∈ x.fr, y.1 ≤ 1099511627776
theorem Ok.nodup {x : Tx} {limit : Nat} {D : Book} {U pc h : List Nat} (k : x.Ok limit D U pc h) {dk : List Nat} (hp : (Fr.pg x.fr ++ (dk ++ (x.loose ++ (U ++ (pc ++ h))))).Perm (nums x.pages)) : (Fr.pg x.fr ++ (dk ++ (x.loose ++ (U ++ (pc ++ h))))).Nodup := hp.nodup_iff.2 (nums_nodup _)
theorem Ok.range {x : Tx} {limit : Nat} {D : Book} {U pc h : List Nat} (k : x.Ok limit D U pc h) : (∀ n ∈ Fr.pg x.fr, 1 ≤ n ∧ n < x.pages) ∧ (∀ n, x.dirty n ≠ none → 1 ≤ n ∧ n < x.pages) ∧ (∀ n ∈ x.loose, 1 ≤ n ∧ n < x.pages) ∧ (∀ n ∈ U, 1 ≤ n ∧ n < x.pages) ∧ (∀ n ∈ pc, 1 ≤ n ∧ n < x.pages) ∧ ∀ n ∈ h, 1 ≤ n ∧ n < x.pages := by
 obtain ⟨dk, h1, h2⟩ := k.perm
 refine ⟨fun n hn => ?_, fun n hn => ?_, fun n hn => ?_, fun n hn => ?_, fun n hn => ?_, fun n hn => ?_⟩
 · exact nums_mem.1 (h2.mem_iff.1 (by simp [hn]))
 · exact nums_mem.1 (h2.mem_iff.1 (by simp [(h1 n).2 hn]))
 · exact nums_mem.1 (h2.mem_iff.1 (by simp [hn]))
 · exact nums_mem.1 (h2.mem_iff.1 (by simp [hn]))
 · exact nums_mem.1 (h2.mem_iff.1 (by simp [hn]))
 · exact nums_mem.1 (h2.mem_iff.1 (by simp [hn]))
theorem Ok.hand {x : Tx} {limit n : Nat} {D : Book} {U pc h : List Nat} (k : x.Ok limit D U pc (n :: h)) : n ∉ Fr.pg x.fr ∧ x.dirty n = none ∧ n ∉ x.loose ∧ n ∉ U ∧ n ∉ pc ∧ n ∉ h := by
 obtain ⟨dk, h1, h2⟩ := k.perm
 have hn := k.nodup h2
 have e : (Fr.pg x.fr ++ (dk ++ (x.loose ++ (U ++ (pc ++ (n :: h)))))).Perm (n :: (Fr.pg x.fr ++ (dk ++ (x.loose ++ (U ++ (pc ++ h)))))) := by
   have := List.perm_middle (a := n) (l₁ := Fr.pg x.fr ++ (dk ++ (x.loose ++ (U ++ pc)))) (l₂ := h)
   simpa [List.append_assoc] using this
 have h3 := (List.nodup_cons.1 (e.nodup_iff.1 hn)).1
 simp only [List.mem_append, not_or] at h3
 refine ⟨h3.1, ?_, h3.2.2.1, h3.2.2.2.1, h3.2.2.2.2.1, h3.2.2.2.2.2⟩
 cases hd : x.dirty n with
 | none => rfl
 | some p => exact absurd ((h1 n).2 (by rw [hd]; simp)) h3.2.1
theorem Ok.apart {x : Tx} {limit n : Nat} {D : Book} {U pc h : List Nat} (k : x.Ok limit D U pc h) (hd : x.dirty n ≠ none) : n ∉ U := by
 obtain ⟨dk, h1, h2⟩ := k.perm
 have hn := k.nodup h2
 have h3 := (List.nodup_append.1 (List.nodup_append.1 hn).2.1).2.2 n ((h1 n).2 hd)
 exact fun hu => h3 n (by simp [hu]) rfl
def sure (x : Tx) (limit upto : Nat) : Nat := x.loose.length + (x.fr.takeWhile fun y => decide (y.1 ≤ upto)).length + (limit - x.pages)
inductive Takes (limit upto : Nat) : Tx → Nat → Tx → Prop
 | loose (x : Tx) (l : List Nat) (n : Nat) (h : x.loose = l ++ [n]) : Takes limit upto x n { x with loose := l }
 | free (x : Tx) (f n : Nat) (r : List (Nat × Nat)) (h : x.loose = []) (hf : x.fr = (f, n) :: r) (hu : f ≤ upto) : Takes limit upto x n { x with fr := r }
 | more (x : Tx) (h : x.loose = []) (hf : ∀ y r, x.fr = y :: r → upto < y.1) (hp : x.pages < limit) : Takes limit upto x x.pages { x with pages := x.pages + 1 }
theorem takes_none {x : Tx} {limit upto : Nat} (h : x.loose = []) (hf : ∀ y r, x.fr = y :: r → upto < y.1) (hp : limit ≤ x.pages) : x.sure limit upto = 0 := by
 unfold sure
 rw [h]
 have : x.fr.takeWhile (fun y => decide (y.1 ≤ upto)) = [] := by
   cases hx : x.fr with
   | nil => rfl
   | cons y r =>
     have := hf y r hx
     rw [List.takeWhile_cons, if_neg (by simp; omega)]
 rw [this]
 simp
 omega
theorem Takes.sure {x x' : Tx} {limit upto n : Nat} (t : Takes limit upto x n x') : x.sure limit upto = x'.sure limit upto + 1 := by
 cases t with
 | loose l n h =>
   unfold Tx.sure
   rw [h]
   simp only [List.length_append, List.length_singleton]
   omega
 | free f n r h hf hu =>
   unfold Tx.sure
   rw [hf]
   rw [List.takeWhile_cons, if_pos (by simpa using hu)]
   simp only [List.length_cons]
   omega
 | more h hf hp =>
   unfold Tx.sure
   simp only
   omega
theorem Takes.dirty {x x' : Tx} {limit upto n : Nat} (t : Takes limit upto x n x') : x'.dirty = x.dirty ∧ x'.freed = x.freed := by cases t <;> exact ⟨rfl, rfl⟩
theorem Takes.ok {x x' : Tx} {limit upto n : Nat} {D : Book} {U pc h : List Nat} (t : Takes limit upto x n x') (k : x.Ok limit D U pc h) : x'.Ok limit D U pc (n :: h) := by
 obtain ⟨dk, h1, h2⟩ := k.perm
 have mid : ∀ (a b c d e f : List Nat), (a ++ (b ++ (c ++ (d ++ (e ++ (n :: f)))))).Perm (n :: (a ++ (b ++ (c ++ (d ++ (e ++ f)))))) := fun a b c d e f => by
   have := List.perm_middle (a := n) (l₁ := a ++ (b ++ (c ++ (d ++ e)))) (l₂ := f)
   simpa [List.append_assoc] using this
 cases t with
 | loose l n hl =>
   refine ⟨⟨dk, h1, ?_⟩, k.one, k.le, k.lim, k.sorted, k.freed, k.sub, k.disk, k.txns⟩
   refine (mid _ _ _ _ _ _).trans (List.Perm.trans ?_ h2)
   rw [hl]
   have := List.perm_middle (a := n) (l₁ := Fr.pg x.fr ++ (dk ++ l)) (l₂ := U ++ (pc ++ h))
   simpa [List.append_assoc] using this.symm
 | free f n r hl hf hu =>
   refine ⟨⟨dk, h1, ?_⟩, k.one, k.le, k.lim, ?_, k.freed, k.sub, k.disk, fun y hy => k.txns y (by rw [hf]; exact List.mem_cons_of_mem _ hy)⟩
   · refine (mid _ _ _ _ _ _).trans (List.Perm.trans ?_ h2)
     rw [hf]
     exact List.Perm.refl _
   · have := k.sorted
     rw [hf] at this
     exact (List.pairwise_cons.1 this).2
 | more hl hf hp =>
   refine ⟨⟨dk, h1, ?_⟩, by have := k.one; show 1 ≤ x.pages + 1; omega, hp, k.lim, k.sorted, k.freed, k.sub, k.disk, k.txns⟩
   refine (mid _ _ _ _ _ _).trans ?_
   rw [nums_succ k.one]
   exact (List.Perm.cons _ h2).trans (List.perm_append_comm (l₁ := [x.pages]) (l₂ := nums x.pages))
theorem book_upd (x : Tx) (D : Book) (U : List Nat) (n : Nat) (p : Pgg) : ({ x with dirty := Tr.upd x.dirty n (some p) } : Tx).book D U = Tr.upd (x.book D U) n (some p) := by
 funext m
 unfold book Tr.upd
 by_cases e : m = n
 · subst e; simp
 · simp [e]
theorem Ok.book_none {x : Tx} {limit n : Nat} {D : Book} {U pc h : List Nat} (k : x.Ok limit D U pc (n :: h)) : x.book D U n = none := by
 obtain ⟨h1, h2, h3, h4, h5, h6⟩ := k.hand
 unfold book
 rw [h2]
 simp [h4]
theorem Ok.lay {x : Tx} {limit n : Nat} {D : Book} {U pc h : List Nat} (k : x.Ok limit D U pc (n :: h)) (p : Pgg) : ({ x with dirty := Tr.upd x.dirty n (some p) } : Tx).Ok limit D U pc h := by
 obtain ⟨dk, h1, h2⟩ := k.perm
 obtain ⟨g1, g2, g3, g4, g5, g6⟩ := k.hand
 refine ⟨⟨n :: dk, fun m => ?_, ?_⟩, k.one, k.le, k.lim, k.sorted, k.freed, k.sub, k.disk, k.txns⟩
 · show m ∈ n :: dk ↔ Tr.upd x.dirty n (some p) m ≠ none
   by_cases e : m = n
   · subst e; simp [Tr.upd]
   · rw [List.mem_cons, Tr.upd_ne _ _ e, h1 m]; simp [e]
 · refine List.Perm.trans ?_ h2
   have a : (Fr.pg x.fr ++ ((n :: dk) ++ (x.loose ++ (U ++ (pc ++ h))))).Perm (n :: (Fr.pg x.fr ++ (dk ++ (x.loose ++ (U ++ (pc ++ h)))))) := List.perm_middle
   have b := List.perm_middle (a := n) (l₁ := Fr.pg x.fr ++ (dk ++ (x.loose ++ (U ++ pc)))) (l₂ := h)
   refine List.Perm.trans a ?_
   simpa [List.append_assoc] using b.symm
theorem Ok.loosen {x : Tx} {limit n : Nat} {D : Book} {U pc h : List Nat} (k : x.Ok limit D U pc h) (hd : x.dirty n ≠ none) : ({ x with dirty := Tr.upd x.dirty n none, loose := x.loose ++ [n] } : Tx).Ok limit D U pc h ∧ ({ x with dirty := Tr.upd x.dirty n none, loose := x.loose ++ [n] } : Tx).book D U = Tr.upd (x.book D U) n none := by
 obtain ⟨dk, h1, h2⟩ := k.perm
 have hU := k.apart hd
 have hm := (h1 n).2 hd
 obtain ⟨a, b, rfl⟩ := List.append_of_mem hm
 have hn := k.nodup h2
 have hab : n ∉ a ++ b := by
   have h3 := (List.nodup_append.1 (List.nodup_append.1 hn).2.1).1
   have := (List.perm_middle (a := n) (l₁ := a) (l₂ := b)).nodup_iff.1 h3
   exact (List.nodup_cons.1 this).1
 refine ⟨⟨⟨a ++ b, fun m => ?_, ?_⟩, k.one, k.le, k.lim, k.sorted, k.freed, k.sub, k.disk, k.txns⟩, ?_⟩
 · show m ∈ a ++ b ↔ Tr.upd x.dirty n none m ≠ none
   by_cases e : m = n
   · subst e; rw [Tr.upd_same]; simp [hab]
   · rw [Tr.upd_ne _ _ e, ← h1 m]; simp [e]
 · refine List.Perm.trans ?_ h2
   have p1 := List.perm_middle (a := n) (l₁ := Fr.pg x.fr ++ ((a ++ b) ++ x.loose)) (l₂ := U ++ (pc ++ h))
   have p2 := List.perm_middle (a := n) (l₁ := Fr.pg x.fr ++ a) (l₂ := b ++ (x.loose ++ (U ++ (pc ++ h))))
   refine List.Perm.trans (by simpa [List.append_assoc] using p1) ?_
   simpa [List.append_assoc] using p2.symm
 · funext m
   unfold book
   by_cases e : m = n
   · subst e
     simp [Tr.upd, hU]
   · simp [Tr.upd, e]
theorem Ok.free {x : Tx} {limit n : Nat} {D : Book} {U pc h : List Nat} (k : x.Ok limit D U pc h) (hd : x.dirty n = none) (hb : x.book D U n ≠ none) : n ∈ U ∧ n ∉ x.freed ∧ ({ x with freed := x.freed ++ [n] } : Tx).Ok limit D U pc h ∧ ({ x with freed := x.freed ++ [n] } : Tx).book D U = Tr.upd (x.book D U) n none := by
 have hu : n ∈ U ∧ n ∉ x.freed := by
   unfold book at hb
   rw [hd] at hb
   simp only at hb
   by_cases hc : n ∈ U ∧ n ∉ x.freed
   · exact hc
   · rw [if_neg hc] at hb; exact absurd rfl hb
 refine ⟨hu.1, hu.2, ⟨k.perm, k.one, k.le, k.lim, k.sorted, List.nodup_append.2 ⟨k.freed, by simp, fun a ha b hb e => ?_⟩, fun m hm => ?_, k.disk, k.txns⟩, ?_⟩
 · rw [List.mem_singleton] at hb
   subst hb e
   exact hu.2 ha
 · rcases List.mem_append.1 hm with hm | hm
   · exact k.sub m hm
   · rw [List.mem_singleton] at hm; subst hm; exact hu.1
 · funext m
   unfold book
   by_cases e : m = n
   · subst e
     simp [Tr.upd, hd]
   · simp [Tr.upd, e]
end Tx
end Go.Proofs.YtjbcbnemdhbhbaaGreatDoor
namespace Go.Proofs.YtjbcbnemdhbhbaaGreatDoor
open Go.RowKit
set_option maxRecDepth 100000
set_option linter.unusedVariables false
set_option linter.unusedSimpArgs false
structure Kv where
 t : Nat
 b : Nat
 q : Nat
 r : Nat
 g : Nat
 T : List Nat
 Sd : List Nat
 P : PgS
 D : DevS
 s : St
 txn : Nat
 root : Int
 fre : Int
 limit : Nat
 U : List Nat
 pc : List Nat
 disk : Book
 rm : Nat
 stage : Int
 over : Bool
 c2 : Value
 c3 : Value
 c4 : Value
 ro : Option Obj
 base : Nat
 keep : List Nat
def pgV (txn n : Nat) (p : Pgg) : Value := .agg #[.int .i64 p.kind, .int .i64 n, .int .i64 txn, .string p.body]
def dirtyV (txn : Nat) (d : Book) : Int → Option Value := fun i => if 0 ≤ i then (d i.toNat).map (pgV txn i.toNat) else none
theorem dirtyV_at (txn : Nat) (d : Book) (n : Nat) : dirtyV txn d (n : Int) = (d n).map (pgV txn n) := by
 unfold dirtyV
 rw [if_pos (by omega), Int.toNat_natCast]
theorem dirtyV_upd (txn : Nat) (d : Book) (n : Nat) (p : Option Pgg) : (fun j => if j = (n : Int) then p.map (pgV txn n) else dirtyV txn d j) = dirtyV txn (Tr.upd d n p) := by
 funext j
 by_cases e : j = (n : Int)
 · subst e; rw [if_pos rfl, dirtyV_at, Tr.upd_same]
 · rw [if_neg e]
   unfold dirtyV
   by_cases h : 0 ≤ j
   · rw [if_pos h, if_pos h, Tr.upd_ne _ _ (by omega)]
   · rw [if_neg h, if_neg h]
def Kv.upto (E : Kv) : Int := min ((E.txn : Int) - 2) (E.s.oldest ((E.txn : Int) - 1))
abbrev txCells (E : Kv) (x : Tx) (f dm : Nat) (lv fv : Value) : Array Value :=
 #[.pointer (some ⟨E.b, 0, none⟩), .int .i64 E.txn, .int .i64 E.txn, .int .i64 E.root, .int .i64 E.fre, .int .i64 x.pages, .int .i64 E.limit, .pointer (some ⟨f, 0, none⟩), .map (some dm), lv, fv, .map (some E.rm), .int .i64 E.stage, .bool E.over]
structure Kv.Ok (E : Kv) : Prop where
 txn : 2 ≤ E.txn
 txn2 : E.txn ≤ 1099511627776
 on : E.D.off = false
 steps : E.D.steps ≤ 1000000000
 lim : (E.limit : Int) = E.P.m.l
 page : ∀ n p, E.disk n = some p → n < E.limit ∧ ∃ t : Int, E.D.Page n p.kind t p.body
 upto : 0 ≤ E.upto
def txMut (t f dm : Nat) (Sf : List Nat) (lv fv : Value) : List Nat := t :: dm :: (lv.ownBlock.toList ++ (fv.ownBlock.toList ++ Sf))
def Kv.still (E : Kv) : List Nat := E.b :: E.q :: E.r :: 0 :: (E.T ++ E.Sd)
def RowIs (o : Option Obj) (w : World) : Prop := RowAt w ∧ w.heap[0]? = o
theorem RowIs.lt {o : Option Obj} {w : World} (h : RowIs o w) : 0 < w.heap.size := h.1.lt
theorem RowIs.off {o : Option Obj} {S : List Nat} {w w' : World} (h : RowIs o w) (ho : Off S w w') (hS : 0 ∉ S) : RowIs o w' := ⟨h.1.off ho hS, (ho.block _ h.1.lt hS).trans h.2⟩
theorem RowIs.below {o : Option Obj} {w w' : World} (h : RowIs o w) (hb : Below w.heap.size w w') : RowIs o w' := h.off (Off.of_below hb []) (by simp)
structure KvMem (E : Kv) (w : World) (S : List Nat) (hd : List Nat) (x : Tx) (f dm nn : Nat) (Sf : List Nat) (lv fv : Value) : Prop where
 cells : Bk w E.t 103 (txCells E x f dm lv fv)
 free : FL w f Sf x.fr
 map : IMap Tryz.prog 3 w dm nn (dirtyV E.txn x.dirty)
 nn : nn ≤ 600
 loose : w.ownsRow 0 3 1 lv x.loose.length (ints x.loose)
 freed : w.ownsRow 0 3 1 fv x.freed.length (ints x.freed)
 db : Bk w E.b 99 #[.pointer (some ⟨E.q, 0, none⟩), .pointer (some ⟨E.r, 0, none⟩), E.c2, E.c3, E.c4]
 rd : Bk w E.r 195 E.s.cells
 pg : Pg w E.q E.T E.g E.P
 dev : Dev w E.g E.Sd E.D
 row : RowIs E.ro w
 ok : x.Ok E.limit E.disk E.U E.pc hd
 blocks : S = txMut E.t f dm Sf lv fv ++ E.still
 nodup : (txMut E.t f dm Sf lv fv).Nodup
 apart : ∀ b ∈ txMut E.t f dm Sf lv fv, b ∉ E.still
theorem KvMem.off {E : Kv} {w w' : World} {S U hd : List Nat} {x : Tx} {f dm nn : Nat} {Sf : List Nat} {lv fv : Value} (h : KvMem E w S hd x f dm nn Sf lv fv) (ho : Off U w w') (hU : ∀ b ∈ S, b ∉ U) : KvMem E w' S hd x f dm nn Sf lv fv := by
 have hm : ∀ b ∈ txMut E.t f dm Sf lv fv, b ∉ U := fun b hb => hU b (by rw [h.blocks]; exact List.mem_append.2 (.inl hb))
 have hs : ∀ b ∈ E.still, b ∉ U := fun b hb => hU b (by rw [h.blocks]; exact List.mem_append.2 (.inr hb))
 have hdb := h.db
 exact ⟨ho.bk h.cells (hm _ (by simp [txMut])), h.free.off ho (fun b hb => hm b (by simp [txMut, hb])), h.map.off ho (hm _ (by simp [txMut])), h.nn,
   ho.own h.loose (fun b hb => hm b (by simp [txMut, hb])), ho.own h.freed (fun b hb => hm b (by simp [txMut, hb])), ho.bk hdb (hs _ (by simp [Kv.still])), ho.bk h.rd (hs _ (by simp [Kv.still])),
   h.pg.off ho (fun b hb => hs b (by simp [Kv.still, hb])), h.dev.off ho (fun b hb => hs b (by simp [Kv.still, hb])), h.row.off ho (hs _ (by simp [Kv.still])), h.ok, h.blocks, h.nodup, h.apart⟩
theorem KvMem.old {E : Kv} {w : World} {S hd : List Nat} {x : Tx} {f dm nn : Nat} {Sf : List Nat} {lv fv : Value} (h : KvMem E w S hd x f dm nn Sf lv fv) : ∀ b ∈ S, b < w.heap.size := by
 intro b hb
 have hdb := h.db
 rw [h.blocks] at hb
 rcases List.mem_append.1 hb with hb | hb
 · simp only [txMut, List.mem_cons, List.mem_append, Option.mem_toList] at hb
   rcases hb with rfl | rfl | hb | hb | hb
   · exact h.cells.lt
   · exact h.map.lt
   · exact (World.ownsRow.lt h.loose b hb).2
   · exact (World.ownsRow.lt h.freed b hb).2
   · exact h.free.old b hb
 · simp only [Kv.still, List.mem_cons, List.mem_append] at hb
   rcases hb with rfl | rfl | rfl | rfl | hb | hb
   · exact hdb.lt
   · obtain ⟨_, _, hp⟩ := h.pg; exact hp.cells.lt
   · exact h.rd.lt
   · exact h.row.lt
   · exact h.pg.old b hb
   · exact h.dev.old b hb
def Tx.rest (x : Tx) (limit : Nat) : Nat := x.fr.length + (limit - x.pages)
structure Room (E : Kv) (F : Prop) (k : Nat) (x : Tx) : Prop where
 sure : k ≤ x.sure E.limit E.upto.toNat
 txns : ∀ y ∈ x.fr, y.1 < E.txn
 base : F ∨ (E.base ≤ x.rest E.limit ∧ E.base + k ≤ x.rest E.limit + x.loose.length)
 keep1 : ∀ y ∈ x.fr, y.1 ≤ E.upto.toNat → y.2 ∉ E.keep
 keep2 : ∀ n, (n ∈ x.loose ∨ x.dirty n ≠ none) → n ∉ E.keep
 keep3 : ∀ n ∈ E.keep, n < x.pages
theorem Room.less {E : Kv} {F : Prop} {k k' : Nat} {x : Tx} (h : Room E F k x) (hk : k' ≤ k) : Room E F k' x :=
 ⟨Nat.le_trans hk h.sure, h.txns, h.base.imp id (fun ⟨a, b⟩ => ⟨a, by omega⟩), h.keep1, h.keep2, h.keep3⟩
theorem Room.zero {E : Kv} {F : Prop} {k : Nat} {x : Tx} (h : Room E F k x) : Room E F 0 x := h.less (Nat.zero_le _)
theorem Room.other {E E' : Kv} {F : Prop} {k : Nat} {x : Tx} (h : Room E F k x) (he : E'.limit = E.limit ∧ E'.s = E.s ∧ E'.txn = E.txn ∧ E'.base = E.base ∧ E'.keep = E.keep) : Room E' F k x := by
 obtain ⟨e1, e2, e3, e4, e5⟩ := he
 have hu : E'.upto = E.upto := by unfold Kv.upto; rw [e2, e3]
 exact ⟨by rw [e1, hu]; exact h.sure, by rw [e3]; exact h.txns, by rw [e1, e4]; exact h.base, by rw [hu, e5]; exact h.keep1, by rw [e5]; exact h.keep2, by rw [e5]; exact h.keep3⟩
theorem Room.take {E : Kv} {F : Prop} {k n : Nat} {x x' : Tx} (h : Room E F k x) (t : Tx.Takes E.limit E.upto.toNat x n x') (hk : F ∨ 1 ≤ k) : Room E F (k - 1) x' ∧ n ∉ E.keep := by
 have hs := t.sure
 have h1 := h.sure
 cases t with
 | loose l n hl =>
   refine ⟨⟨by omega, h.txns, ?_, h.keep1, fun m hm => h.keep2 m (hm.imp (fun h9 => by rw [hl]; simp [h9]) id), h.keep3⟩, h.keep2 n (.inl (by rw [hl]; simp))⟩
   rcases h.base with hb | ⟨b1, b2⟩
   · exact .inl hb
   · rcases hk with hk | hk
     · exact .inl hk
     · rw [hl, List.length_append, List.length_singleton] at b2
       exact .inr ⟨b1, by show E.base + (k - 1) ≤ x.rest E.limit + l.length; omega⟩
 | free f n r hl hf hu =>
   refine ⟨⟨by omega, fun y hy => h.txns y (by rw [hf]; simp [hy]), ?_, fun y hy => h.keep1 y (by rw [hf]; simp [hy]), h.keep2, h.keep3⟩, h.keep1 (f, n) (by rw [hf]; simp) hu⟩
   rcases h.base with hb | ⟨b1, b2⟩
   · exact .inl hb
   · rcases hk with hk | hk
     · exact .inl hk
     · unfold Tx.rest at b1 b2 ⊢
       rw [hf, List.length_cons] at b1 b2
       rw [hl, List.length_nil] at b2
       exact .inr ⟨by show E.base ≤ r.length + (E.limit - x.pages); omega, by show E.base + (k - 1) ≤ r.length + (E.limit - x.pages) + x.loose.length; omega⟩
 | more hl hf hp =>
   refine ⟨⟨by omega, h.txns, ?_, h.keep1, h.keep2, fun m hm => Nat.lt_succ_of_lt (h.keep3 m hm)⟩, fun hm => Nat.lt_irrefl _ (h.keep3 _ hm)⟩
   rcases h.base with hb | ⟨b1, b2⟩
   · exact .inl hb
   · rcases hk with hk | hk
     · exact .inl hk
     · unfold Tx.rest at b1 b2 ⊢
       rw [hl, List.length_nil] at b2
       exact .inr ⟨by show E.base ≤ x.fr.length + (E.limit - (x.pages + 1)); omega, by show E.base + (k - 1) ≤ x.fr.length + (E.limit - (x.pages + 1)) + x.loose.length; omega⟩
theorem Room.loosen {E : Kv} {F : Prop} {k n : Nat} {x : Tx} (h : Room E F k x) (hd : x.dirty n ≠ Option.none) : Room E F k { x with dirty := Tr.upd x.dirty n Option.none, loose := x.loose ++ [n] } := by
 have hb : F ∨ (E.base ≤ x.rest E.limit ∧ E.base + k ≤ x.rest E.limit + (x.loose ++ [n]).length) := by
   rcases h.base with h1 | ⟨h1, h2⟩
   · exact .inl h1
   · rw [List.length_append, List.length_singleton]
     exact .inr ⟨h1, by omega⟩
 refine ⟨Nat.le_trans h.sure ?_, h.txns, hb, h.keep1, fun m hm => ?_, h.keep3⟩
 · unfold Tx.sure
   simp only [List.length_append, List.length_singleton]
   omega
 · rcases hm with hm | hm
   · rcases List.mem_append.1 hm with hm | hm
     · exact h.keep2 m (.inl hm)
     · rw [List.mem_singleton] at hm
       subst hm
       exact h.keep2 _ (.inr hd)
   · refine h.keep2 m (.inr fun e => hm ?_)
     show Tr.upd x.dirty n Option.none m = Option.none
     unfold Tr.upd
     split
     · rfl
     · exact e
theorem Room.lay {E : Kv} {F : Prop} {k n : Nat} {x : Tx} (h : Room E F k x) (hn : n ∉ E.keep) (p : Pgg) : Room E F k { x with dirty := Tr.upd x.dirty n (some p) } :=
 ⟨h.sure, h.txns, h.base, h.keep1, fun m hm => by
   by_cases e : m = n
   · rw [e]; exact hn
   · refine h.keep2 m (hm.imp id fun h9 => ?_)
     rwa [show ({ x with dirty := Tr.upd x.dirty n (some p) } : Tx).dirty m = x.dirty m from Tr.upd_ne _ _ e] at h9, h.keep3⟩
theorem Room.free {E : Kv} {F : Prop} {k : Nat} {x : Tx} (h : Room E F k x) (l : List Nat) : Room E F k { x with freed := l } := ⟨h.sure, h.txns, h.base, h.keep1, h.keep2, h.keep3⟩
def kvStore (E : Kv) (F : Prop) : Store where
 T := 111
 v := .agg #[.pointer (some ⟨E.t, 0, none⟩)]
 At w S σ k := ∃ (x : Tx) (f dm nn : Nat) (Sf : List Nat) (lv fv : Value), KvMem E w S [] x f dm nn Sf lv fv ∧ σ = x.book E.disk E.U ∧ Room E F k x
 F := F
theorem oneDirty {E : Kv} {w : World} {S hd : List Nat} {x : Tx} {f dm nn : Nat} {Sf : List Nat} {lv fv : Value} (h : KvMem E w S hd x f dm nn Sf lv fv) (n : Nat) (hn : n < 512) (W : World) (ho : Off [] w W) :
   (Instr.lookup 100 (.map (some dm)) (.int .i64 n) true).run Tryz.prog W = .ok (.tuple #[((x.dirty n).map (pgV E.txn n)).getD (.agg #[.int .i64 0, .int .i64 0, .int .i64 0, .string ⟨#[]⟩]), .bool (x.dirty n).isSome]) W := by
 have hm := h.map.off ho (by simp)
 have h1 := hm.look2 Tryz.underlying3 Tryz.underlying100 (z := .agg #[.int .i64 0, .int .i64 0, .int .i64 0, .string ⟨#[]⟩]) (by kernel_rfl) (i := (n : Int)) (wf64 (by omega) (by omega))
 rw [dirtyV_at] at h1
 rw [h1]
 cases x.dirty n <;> rfl
set_option maxHeartbeats 8000000 in
theorem wload_own {E : Kv} {w : World} {S hd : List Nat} {x : Tx} {f dm nn : Nat} {Sf : List Nat} {lv fv : Value} (h : KvMem E w S hd x f dm nn Sf lv fv) (n : Nat) (p : Pgg) (hp : x.dirty n = some p) :
   Calls Tryz.prog 318 #[.agg #[.pointer (some ⟨E.t, 0, none⟩)], .int .i64 n] w (fun e w' => Below w.heap.size w w' ∧ ∃ a b : Int, e = .returned (.tuple #[.agg #[.int .i64 p.kind, .int .i64 a, .int .i64 b, .string p.body], .int .i64 0])) := by
 have hr := h.ok.range.2.1 n (by rw [hp]; simp)
 have hn : n < 512 := by have := h.ok.le; have := h.ok.lim; omega
 have c0 := h.cells.cell 0
 have c8 := h.cells.cell 8
 have lt := h.cells.lt
 have hl : ∀ W, Off [] w W → (Instr.lookup 100 (.map (some dm)) (.int .i64 n) true).run Tryz.prog W = .ok (.tuple #[pgV E.txn n p, .bool true]) W := fun W hW => by
   have := oneDirty h n hn W hW
   rw [hp] at this
   exact this
 have HL := Lib.hid (hl ((w.alloc (.cells #[.pointer (some ⟨E.t, 0, none⟩)] 111)).alloc (.cells #[.int .i64 0, .int .i64 0, .int .i64 0, .string ⟨#[]⟩] 126)) (((Off.refl [] w).alloc _).alloc _))
 unfold pgV at HL
 clear h hp hl
 have hl2 := HL.out
 go_enter Tryz.func318, Tryz.ntmps318
 go_wp2_with fail
 refine bodyPost_ret (v := .tuple #[.agg #[.int .i64 p.kind, .int .i64 n, .int .i64 E.txn, .string p.body], .int .i64 0]) (by simp [results, Tryz.results318, go_sem]) rfl ⟨?_, n, E.txn, rfl⟩
 exact (((Below.refl _ w).alloc (Nat.le_refl _) _).alloc (by simp) _).alloc (by simp; omega) _
set_option maxHeartbeats 8000000 in
theorem wload_disk {E : Kv} (hE : E.Ok) {w : World} {S hd : List Nat} {x : Tx} {f dm nn : Nat} {Sf : List Nat} {lv fv : Value} (h : KvMem E w S hd x f dm nn Sf lv fv) (n : Nat) (p : Pgg) (hdn : x.dirty n = none) (hu : n ∈ E.U) (hp : E.disk n = some p) :
   Calls Tryz.prog 318 #[.agg #[.pointer (some ⟨E.t, 0, none⟩)], .int .i64 n] w (fun e w' => Below w.heap.size w w' ∧ ∃ a b : Int, e = .returned (.tuple #[.agg #[.int .i64 p.kind, .int .i64 a, .int .i64 b, .string p.body], .int .i64 0])) := by
 have hr := h.ok.range.2.2.2.1 n hu
 have hn : n < 512 := by have := h.ok.le; have := h.ok.lim; omega
 have hdb := h.db
 have c0 : w.cell? ⟨E.t, 0, none⟩ = some (.pointer (some ⟨E.b, 0, none⟩)) := h.cells.cell 0
 have c8 : w.cell? ⟨E.t, 8, none⟩ = some (.map (some dm)) := h.cells.cell 8
 have d0 : w.cell? ⟨E.b, 0, none⟩ = some (.pointer (some ⟨E.q, 0, none⟩)) := hdb.cell 0
 have lb := hdb.lt
 have lt := h.cells.lt
 obtain ⟨hlim, tt, hpg⟩ := hE.page n p hp
 have hl : ∀ W, Off [] w W → (Instr.lookup 100 (.map (some dm)) (.int .i64 n) true).run Tryz.prog W = .ok (.tuple #[.agg #[.int .i64 0, .int .i64 0, .int .i64 0, .string ⟨#[]⟩], .bool false]) W := fun W hW => by
   have := oneDirty h n hn W hW
   rw [hdn] at this
   exact this
 have HL := Lib.hid (hl ((w.alloc (.cells #[.pointer (some ⟨E.t, 0, none⟩)] 111)).alloc (.cells #[.int .i64 0, .int .i64 0, .int .i64 0, .string ⟨#[]⟩] 126)) (((Off.refl [] w).alloc _).alloc _))
 have HRD := Lib.hid fun (W : World) (hb : Below w.heap.size w W) => pread_any (h.pg.below hb) (h.dev.below hb) (h.row.below hb).1 hE.steps hE.on n hr.1 (by rw [← hE.lim]; omega) hpg
 clear h hp hl hdn hu hE hpg hdb hlim
 have hl2 := HL.out
 have lt1 : E.t < w.heap.size + 1 := by omega
 have lt2 : E.t < w.heap.size + 1 + 1 := by omega
 have lb1 : E.b < w.heap.size + 1 := by omega
 have lb2 : E.b < w.heap.size + 1 + 1 := by omega
 go_enter Tryz.func318, Tryz.ntmps318
 go_wp2_with fail
 (with_reducible refine (HRD.out _ ?_).mono ?_)
 · exact (((Below.refl _ w).alloc (Nat.le_refl _) _).alloc (by simp) _).alloc (by simp; omega) _
 rintro e w1 ⟨rfl, hb1⟩
 have hz1 : (w.alloc (.cells #[.pointer (some ⟨E.t, 0, none⟩)] 111)).heap.size = w.heap.size + 1 := by simp
 have hbk := bk_below ((Bk.new (w.alloc (.cells #[.pointer (some ⟨E.t, 0, none⟩)] 111)) 126 #[.int .i64 0, .int .i64 0, .int .i64 0, .string ⟨#[]⟩]).alloc (.cells #[.int .i64 0, .int .i64 0, .int .i64 0, .string ⟨#[]⟩] 126)) hb1
 rw [hz1] at hbk
 have HBK := Lib.hid hbk
 have HB := Lib.hid ((((((Below.refl _ w).alloc (Nat.le_refl _) (.cells #[.pointer (some ⟨E.t, 0, none⟩)] 111)).alloc (by simp) (.cells #[.int .i64 0, .int .i64 0, .int .i64 0, .string ⟨#[]⟩] 126)).alloc (by simp; omega) (.cells #[.int .i64 0, .int .i64 0, .int .i64 0, .string ⟨#[]⟩] 126))).trans (hb1.mono (by simp; omega)))
 obtain ⟨x0, x1, x2, x3⟩ := hbk.four
 have f0 := hbk.frozen 0
 have f1 := hbk.frozen 1
 have f2 := hbk.frozen 2
 have f3 := hbk.frozen 3
 have lp := hbk.lt
 clear hb1 hbk hz1
 go_wp2_with fail
 obtain ⟨u0, u1, u2, u3⟩ := HBK.out.setFour (.int .i64 p.kind) (.int .i64 n) (.int .i64 tt) (.string p.body)
 refine bodyPost_ret (v := .tuple #[.agg #[.int .i64 p.kind, .int .i64 n, .int .i64 tt, .string p.body], .int .i64 0]) (by simp [results, Tryz.results318, go_sem, lp, u0, u1, u2, u3]) rfl ⟨?_, n, tt, rfl⟩
 have ho : Off [w.heap.size + 1] w1 ((((w1.setCell ⟨w.heap.size + 1, 0, none⟩ (.int .i64 p.kind)).setCell ⟨w.heap.size + 1, 1, none⟩ (.int .i64 n)).setCell ⟨w.heap.size + 1, 2, none⟩ (.int .i64 tt)).setCell ⟨w.heap.size + 1, 3, none⟩ (.string p.body)) :=
   ((((Off.refl _ _).setCell (.inl (by simp)) _).setCell (.inl (by simp)) _).setCell (.inl (by simp)) _).setCell (.inl (by simp)) _
 exact ((Off.of_below HB.out []).then ho (fun y hy => by rw [List.mem_singleton] at hy; subst hy; exact .inr (by omega))).below (Nat.le_refl _) (by simp)
end Go.Proofs.YtjbcbnemdhbhbaaGreatDoor
namespace Go.Proofs.YtjbcbnemdhbhbaaGreatDoor
set_option linter.unusedVariables false
set_option linter.unusedSimpArgs false
namespace Fr
def addAll (t : Nat) (fr : List (Nat × Nat)) (ns : List Nat) : List (Nat × Nat) := ns.foldl (fun l n => ins l (t, n)) fr
theorem addAll_snoc (t : Nat) (fr : List (Nat × Nat)) (ns : List Nat) (n : Nat) : addAll t fr (ns ++ [n]) = ins (addAll t fr ns) (t, n) := by simp [addAll]
theorem pg_perm {a b : List (Nat × Nat)} (h : a.Perm b) : (pg a).Perm (pg b) := h.map _
theorem addAll_ok {t : Nat} : ∀ {ns : List Nat} {fr : List (Nat × Nat)}, Sorted fr → (pg fr ++ ns).Nodup → Sorted (addAll t fr ns) ∧ (pg (addAll t fr ns)).Perm (pg fr ++ ns) ∧ (addAll t fr ns).length = fr.length + ns.length
 | [], fr, hs, hn => ⟨hs, by simp [addAll], rfl⟩
 | n :: ns, fr, hs, hn => by
   have hp : (pg (ins fr (t, n)) ++ ns).Perm (pg fr ++ (n :: ns)) := by
     have h1 := pg_perm (ins_perm fr (t, n))
     refine (h1.append_right ns).trans ?_
     exact (List.perm_middle (a := n) (l₁ := pg fr) (l₂ := ns)).symm
   have hx : n ∉ pg fr := fun h => (List.nodup_append.1 hn).2.2 n h n (by simp) rfl
   have h2 := addAll_ok (t := t) (ns := ns) (fr := ins fr (t, n)) (ins_sorted hs _ (fun h => hx (List.mem_map.2 ⟨_, h, rfl⟩))) (hp.nodup_iff.2 hn)
   refine ⟨h2.1, h2.2.1.trans hp, ?_⟩
   have := h2.2.2
   rw [ins_len] at this
   show (addAll t (ins fr (t, n)) ns).length = fr.length + (ns.length + 1)
   omega
theorem addAll_at {t : Nat} {ms : List Nat} {fr : List (Nat × Nat)} (hs : Sorted fr) (hn : (pg fr ++ ms).Nodup) (j : Nat) (hj : j < ms.length) :
   Sorted (addAll t fr (ms.take j)) ∧ (addAll t fr (ms.take j)).length = fr.length + j ∧ ms[j] ∉ pg (addAll t fr (ms.take j)) ∧ addAll t fr (ms.take (j + 1)) = ins (addAll t fr (ms.take j)) (t, ms[j]) := by
 have e1 : ms.take (j + 1) = ms.take j ++ [ms[j]] := List.take_succ_eq_append_getElem hj
 have hn1 : (pg fr ++ ms.take (j + 1)).Nodup := by
   refine List.Nodup.sublist ?_ hn
   exact List.Sublist.append (List.Sublist.refl _) (List.take_sublist _ _)
 rw [e1, ← List.append_assoc] at hn1
 obtain ⟨h1, -, h2⟩ := List.nodup_append.1 hn1
 obtain ⟨k1, k2, k3⟩ := addAll_ok (t := t) hs h1
 refine ⟨k1, by rw [k3, List.length_take]; omega, fun hm => ?_, by rw [e1, addAll_snoc]⟩
 exact h2 _ (k2.mem_iff.1 hm) _ (by simp) rfl
theorem addAll_all {t : Nat} {Q : Nat × Nat → Prop} (ht : ∀ n, Q (t, n)) : ∀ (ns : List Nat) (fr : List (Nat × Nat)), (∀ y ∈ fr, Q y) → ∀ y ∈ addAll t fr ns, Q y
 | [], fr, h => h
 | a :: ns, fr, h => addAll_all ht ns (ins fr (t, a)) fun y hy => by
   rcases List.mem_cons.1 ((ins_perm fr (t, a)).mem_iff.1 hy) with rfl | hy
   · exact ht a
   · exact h y hy
theorem addAll_old {t : Nat} : ∀ (ns : List Nat) (fr : List (Nat × Nat)), ((addAll t fr ns).filter fun y => decide (y.1 < t)).length = (fr.filter fun y => decide (y.1 < t)).length
 | [], fr => rfl
 | a :: ns, fr => by
   have h1 := addAll_old (t := t) ns (ins fr (t, a))
   have h2 := ((ins_perm fr (t, a)).filter fun y => decide (y.1 < t)).length_eq
   rw [List.filter_cons_of_neg (by simp)] at h2
   exact h1.trans h2
end Fr
namespace Tx
def more (x : Tx) (pc : List Nat) : List Nat := x.freed ++ (x.loose ++ pc)
theorem Ok.spare {x : Tx} {limit : Nat} {D : Book} {U pc h : List Nat} (k : x.Ok limit D U pc h) : (Fr.pg x.fr ++ x.more pc).Nodup ∧ (∀ n ∈ x.more pc, n ∉ h ∧ 1 ≤ n ∧ n < x.pages) ∧ x.fr.length + (x.more pc).length ≤ x.pages := by
 obtain ⟨dk, h1, h2⟩ := k.perm
 have hn := k.nodup h2
 have r := k.range
 obtain ⟨a1, a2, a3⟩ := List.nodup_append.1 hn
 obtain ⟨b1, b2, b3⟩ := List.nodup_append.1 a2
 obtain ⟨c1, c2, c3⟩ := List.nodup_append.1 b2
 obtain ⟨d1, d2, d3⟩ := List.nodup_append.1 c2
 obtain ⟨e1, e2, e3⟩ := List.nodup_append.1 d2
 have hnd : (Fr.pg x.fr ++ x.more pc).Nodup := by
   unfold more
   refine List.nodup_append.2 ⟨a1, List.nodup_append.2 ⟨k.freed, List.nodup_append.2 ⟨c1, e1, fun a ha b hb => c3 a ha b (by simp [hb])⟩, fun a ha b hb e => ?_⟩, fun a ha b hb e => ?_⟩
   · subst e
     rcases List.mem_append.1 hb with hb | hb
     · exact c3 a hb a (by simp [k.sub a ha]) rfl
     · exact d3 a (k.sub a ha) a (by simp [hb]) rfl
   · subst e
     rcases List.mem_append.1 hb with hb | hb
     · exact a3 a ha a (by simp [k.sub a hb]) rfl
     · rcases List.mem_append.1 hb with hb | hb
       · exact a3 a ha a (by simp [hb]) rfl
       · exact a3 a ha a (by simp [hb]) rfl
 have hr : ∀ n ∈ x.more pc, n ∉ h ∧ 1 ≤ n ∧ n < x.pages := fun n hn => by
   unfold more at hn
   rcases List.mem_append.1 hn with hn | hn
   · exact ⟨fun hh => d3 n (k.sub n hn) n (by simp [hh]) rfl, r.2.2.2.1 n (k.sub n hn)⟩
   · rcases List.mem_append.1 hn with hn | hn
     · exact ⟨fun hh => c3 n hn n (by simp [hh]) rfl, r.2.2.1 n hn⟩
     · exact ⟨fun hh => e3 n hn n hh rfl, r.2.2.2.2.1 n hn⟩
 refine ⟨hnd, hr, ?_⟩
 have hsub := Tr.nodup_lt x.pages _ hnd (fun n hn => by
   rcases List.mem_append.1 hn with hn | hn
   · have := r.1 n hn; omega
   · have := (hr n hn).2; omega)
 rw [List.length_append] at hsub
 have hpg : (Fr.pg x.fr).length = x.fr.length := by simp [Fr.pg]
 omega
theorem Ok.laid {x : Tx} {limit : Nat} {D : Book} {U pc h : List Nat} (k : x.Ok limit D U pc h) (t : Nat) (ht : t ≤ 1099511627776) :
   ∃ P' : List Nat, (∀ n, n ∈ P' ↔ x.book D U n ≠ none) ∧ (Fr.pg (Fr.addAll t x.fr (x.more pc)) ++ (P' ++ h)).Perm (nums x.pages) ∧ Fr.Sorted (Fr.addAll t x.fr (x.more pc)) ∧ (∀ y ∈ Fr.addAll t x.fr (x.more pc), y.1 ≤ 1099511627776) := by
 obtain ⟨dk, h1, h2⟩ := k.perm
 obtain ⟨hnd, hin, -⟩ := k.spare
 obtain ⟨k1, k2, k3⟩ := Fr.addAll_ok (t := t) k.sorted hnd
 have hap : ∀ n, x.dirty n ≠ none → n ∉ U := fun n hn => k.apart hn
 obtain ⟨V, hV1, hV2⟩ : ∃ V, (x.freed ++ V).Perm U ∧ ∀ n, n ∈ V ↔ n ∈ U ∧ n ∉ x.freed := by
   have hU : U.Nodup := by
     have hn := k.nodup h2
     exact (List.nodup_append.1 (List.nodup_append.1 (List.nodup_append.1 (List.nodup_append.1 hn).2.1).2.1).2.1).1
   refine ⟨U.filter (fun n => !x.freed.contains n), ?_, fun n => by simp⟩
   have ha : (U.filter (fun n => x.freed.contains n) ++ U.filter (fun n => !x.freed.contains n)).Perm U := List.filter_append_perm _ _
   refine List.Perm.trans (List.Perm.append_right _ ?_) ha
   refine (List.perm_ext_iff_of_nodup k.freed (List.Nodup.sublist List.filter_sublist hU)).2 fun n => ?_
   rw [List.mem_filter]
   constructor
   · exact fun hn => ⟨k.sub n hn, by simpa using hn⟩
   · exact fun hn => by simpa using hn.2
 refine ⟨dk ++ V, fun n => ?_, ?_, k1, fun y hy => ?_⟩
 · unfold book
   rw [List.mem_append, hV2, h1 n]
   cases hd : x.dirty n with
   | some p => simp
   | none =>
     simp only [ne_eq, not_true_eq_false, false_or]
     constructor
     · intro hc
       rw [if_pos hc]
       exact k.disk n hc.1
     · intro hc
       by_cases hb : n ∈ U ∧ n ∉ x.freed
       · exact hb
       · rw [if_neg hb] at hc; exact absurd rfl hc
 · refine List.Perm.trans (List.Perm.append_right _ k2) (List.Perm.trans ?_ h2)
   unfold more
   simp only [List.append_assoc]
   refine List.Perm.append_left _ ?_
   have e1 : (x.freed ++ (x.loose ++ (pc ++ (dk ++ (V ++ h))))).Perm (dk ++ (x.loose ++ ((x.freed ++ V) ++ (pc ++ h)))) := by
     refine List.perm_iff_count.2 fun a => ?_
     simp only [List.count_append]
     omega
   refine e1.trans ?_
   exact List.Perm.append_left _ (List.Perm.append_left _ (List.Perm.append_right _ hV1))
 · have : ∀ (ns : List Nat) (fr : List (Nat × Nat)), (∀ y ∈ fr, y.1 ≤ 1099511627776) → ∀ y ∈ Fr.addAll t fr ns, y.1 ≤ 1099511627776 := by
     intro ns
     induction ns with
     | nil => exact fun fr h => h
     | cons a ns ih =>
       intro fr h
       refine ih (Fr.ins fr (t, a)) (fun y hy => ?_)
       rcases List.mem_cons.1 ((Fr.ins_perm fr (t, a)).mem_iff.1 hy) with rfl | hy
       · exact ht
       · exact h y hy
   exact this _ _ k.txns y hy
end Tx
end Go.Proofs.YtjbcbnemdhbhbaaGreatDoor

import Derived.WalkKit
import Derived.Deep.Draws
import Derived.Deep.AppendLies
import Derived.OneCell
import Derived.Laws.Rows
import Derived.Maps.AppendAt
import Derived.OwnWalk
import Derived.Lib.FrozenHead
import Derived.Laws.IdiomStrings
import Derived.PlainAid
import Derived.Test.YtjbcbnemdhbhbaaGreatDoorChecked
import Derived.WalkSpells
import Derived.WalkLawsBesides
import Derived.Deep.QuietTactic
import Derived.BigQuiet
import Derived.Lib.Hide
import Derived.Deep.LoopGhost
import Derived.Outline
import Derived.Laws.BytesArg
import Derived.Deep.DeepCutAuto
import Derived.Deep.RegionHeld3
import Derived.StillTailTactics
import Derived.Deep.RegionWith
import Derived.Deep.OwnRows
import Derived.Laws.BitsAllLaws
import Derived.ProofKit
import Derived.OpenShut
import Derived.ShutString
import Derived.ChangeOld
import Derived.SliceStrings
namespace Go.Proofs.YtjbcbnemdhbhbaaGreatDoor
open Go.RowKit
def Bk (w : World) (g : Nat) (t : TypeId) (cs : Array Value) : Prop := w.heap[g]? = some (.cells cs t (0, 0))
theorem Bk.lt {w : World} {g : Nat} {t : TypeId} {cs : Array Value} (h : Bk w g t cs) : g < w.heap.size := lt_of_block h
theorem Bk.cell {w : World} {g : Nat} {t : TypeId} {cs : Array Value} (h : Bk w g t cs) (i : Nat) : w.cell? ⟨g, i, none⟩ = cs[i]? := cell_of_row w g i cs t (0, 0) h
theorem Bk.frozen {w : World} {g : Nat} {t : TypeId} {cs : Array Value} (h : Bk w g t cs) (i : Nat) : w.frozen? ⟨g, i, none⟩ = false := by
 unfold Bk at h
 simp [World.frozen?, h]
theorem Bk.drewN {w : World} {g : Nat} {t : TypeId} {cs : Array Value} (h : Bk w g t cs) (n : Nat) : Bk (w.drewN n) g t cs := h
theorem Bk.drew {w : World} {g : Nat} {t : TypeId} {cs : Array Value} (h : Bk w g t cs) : Bk w.drew g t cs := h
theorem Bk.alloc {w : World} {g : Nat} {t : TypeId} {cs : Array Value} (h : Bk w g t cs) (o : Obj) : Bk (w.alloc o) g t cs := (Below.heap_alloc w o g h.lt).trans h
theorem Bk.new (w : World) (t : TypeId) (cs : Array Value) : Bk (w.alloc (.cells cs t)) w.heap.size t cs := heap_alloc_new w _
theorem Bk.put {w : World} {g : Nat} {t : TypeId} {cs : Array Value} (h : Bk w g t cs) (i : Nat) (u : Value) : Bk (w.setCell ⟨g, i, none⟩ u) g t (cs.setIfInBounds i u) := by
 unfold Bk at h ⊢
 simp [World.setCell, Array.getElem?_modify, h]
theorem Bk.far {w : World} {g : Nat} {t : TypeId} {cs : Array Value} (h : Bk w g t cs) {p : Addr} (hp : g ≠ p.block) (u : Value) : Bk (w.setCell p u) g t cs := (Below.heap_setCell w p u g hp).trans h
theorem Bk.ne {w : World} {g g' : Nat} {t t' : TypeId} {cs cs' : Array Value} (h : Bk w g t cs) (h' : Bk w g' t' cs') (hne : t ≠ t') : g ≠ g' := by
 rintro rfl
 unfold Bk at h h'
 rw [h] at h'
 injection h' with h'
 injection h' with _ ht
 exact hne ht
theorem own_ne {w : World} {g base : Nat} {t e : TypeId} {size n : Nat} {v : Value} {xs : List Value} {cs : Array Value} (h : w.ownsRow base e size v n xs) (hg : Bk w g t cs) (hne : e ≠ t) : v.ownBlock ≠ some g := by
 rcases h.2 with ⟨rfl, _⟩ | ⟨g', cap, cur, rfl, _, hh, _⟩
 · simp [Value.ownBlock]
 · intro he
   obtain rfl : g' = g := by simpa [Value.ownBlock] using he
   exact Bk.ne (t := e) hh hg hne rfl
structure Off (S : List Nat) (w w' : World) : Prop where
 os : w'.os = w.os
 tape : w'.tape = w.tape
 output : w'.output = w.output
 size : w.heap.size ≤ w'.heap.size
 block : ∀ k, k < w.heap.size → k ∉ S → w'.heap[k]? = w.heap[k]?
theorem Off.refl (S : List Nat) (w : World) : Off S w w := ⟨rfl, rfl, rfl, Nat.le_refl _, fun _ _ _ => rfl⟩
theorem Off.trans {S : List Nat} {a b c : World} (h : Off S a b) (k : Off S b c) : Off S a c :=
 ⟨k.os.trans h.os, k.tape.trans h.tape, k.output.trans h.output, Nat.le_trans h.size k.size, fun i hi hn => (k.block i (Nat.lt_of_lt_of_le hi h.size) hn).trans (h.block i hi hn)⟩
theorem Off.then {S T : List Nat} {a b c : World} (h : Off S a b) (k : Off T b c) (hT : ∀ g ∈ T, g ∈ S ∨ a.heap.size ≤ g) : Off S a c :=
 ⟨k.os.trans h.os, k.tape.trans h.tape, k.output.trans h.output, Nat.le_trans h.size k.size, fun i hi hn =>
   (k.block i (Nat.lt_of_lt_of_le hi h.size) (fun ht => (hT i ht).elim hn (fun h1 => absurd hi (by omega)))).trans (h.block i hi hn)⟩
theorem Off.mono {S T : List Nat} {a b : World} (h : Off S a b) (hT : ∀ g ∈ S, g ∈ T ∨ a.heap.size ≤ g) : Off T a b :=
 ⟨h.os, h.tape, h.output, h.size, fun i hi hn => h.block i hi (fun ht => (hT i ht).elim hn (fun h1 => absurd hi (by omega)))⟩
theorem Off.drew {S : List Nat} {a w : World} (h : Off S a w) : Off S a w.drew := ⟨h.os, h.tape, h.output, h.size, h.block⟩
theorem Off.drewN {S : List Nat} {a w : World} (h : Off S a w) (n : Nat) : Off S a (w.drewN n) := ⟨h.os, h.tape, h.output, h.size, h.block⟩
theorem Off.alloc {S : List Nat} {a w : World} (h : Off S a w) (o : Obj) : Off S a (w.alloc o) :=
 ⟨h.os, h.tape, h.output, Nat.le_trans h.size (by simp), fun i hi hn => (Below.heap_alloc w o i (Nat.lt_of_lt_of_le hi h.size)).trans (h.block i hi hn)⟩
theorem Off.setCell {S : List Nat} {a w : World} (h : Off S a w) {p : Addr} (hp : p.block ∈ S ∨ a.heap.size ≤ p.block) (u : Value) : Off S a (w.setCell p u) :=
 ⟨h.os, h.tape, h.output, by simpa [World.setCell] using h.size, fun i hi hn => (Below.heap_setCell w p u i (by
   rintro rfl
   rcases hp with hp | hp
   · exact hn hp
   · omega)).trans (h.block i hi hn)⟩
theorem Off.grown {S : List Nat} {a w w' : World} {row : Option Nat} (h : Off S a w) (hg : w.grownBy w' row) (hr : ∀ g, row = some g → g ∈ S ∨ a.heap.size ≤ g) : Off S a w' :=
 ⟨hg.os.trans h.os, hg.tape.trans h.tape, hg.output.trans h.output, Nat.le_trans h.size hg.size, fun i hi hn =>
   (hg.block i (Nat.lt_of_lt_of_le hi h.size) (fun e => (hr i e.symm).elim hn (fun h1 => absurd hi (by omega)))).trans (h.block i hi hn)⟩
theorem Off.of_below {w w' : World} (h : Below w.heap.size w w') (S : List Nat) : Off S w w' := ⟨h.os, h.tape, h.output, h.size, fun i hi _ => h.block i hi⟩
theorem Off.below {S : List Nat} {w w' : World} (h : Off S w w') {B : Nat} (hB : B ≤ w.heap.size) (hS : ∀ g ∈ S, B ≤ g) : Below B w w' :=
 ⟨h.os, h.tape, h.output, h.size, fun i hi => h.block i (by omega) (fun hs => by have := hS i hs; omega)⟩
theorem Off.bk {S : List Nat} {w w' : World} (h : Off S w w') {g : Nat} {t : TypeId} {cs : Array Value} (hb : Bk w g t cs) (hg : g ∉ S) : Bk w' g t cs := (h.block g hb.lt hg).trans hb
theorem Off.cell {S : List Nat} {w w' : World} (h : Off S w w') {p : Addr} (hp : p.block < w.heap.size) (hn : p.block ∉ S) : w'.cell? p = w.cell? p := World.cell?_of_block (h.block p.block hp hn)
theorem Off.own {S : List Nat} {w w' : World} (h : Off S w w') {base : Nat} {e : TypeId} {size n : Nat} {v : Value} {xs : List Value} (ho : w.ownsRow base e size v n xs) (hn : ∀ g, v.ownBlock = some g → g ∉ S) : w'.ownsRow base e size v n xs := by
 obtain ⟨h1, h2⟩ := ho
 refine ⟨h1, ?_⟩
 rcases h2 with h2 | ⟨g, cap, cur, rfl, hb, hh, r⟩
 · exact Or.inl h2
 · exact Or.inr ⟨g, cap, cur, rfl, hb, (h.block g (lt_of_block hh) (hn g rfl)).trans hh, r⟩
theorem own_mono {w : World} {base base' : Nat} {e : TypeId} {size n : Nat} {v : Value} {xs : List Value} (ho : w.ownsRow base e size v n xs) (h : base' ≤ base) : w.ownsRow base' e size v n xs := by
 obtain ⟨h1, h2⟩ := ho
 refine ⟨h1, ?_⟩
 rcases h2 with h2 | ⟨g, cap, cur, rfl, hb, r⟩
 · exact Or.inl h2
 · exact Or.inr ⟨g, cap, cur, rfl, by omega, r⟩
def Sl (w : World) (A : Option Addr) (xs : List Value) : Prop := ∀ (j : Nat) (u : Value), xs[j]? = some u → ∃ b o, A = some ⟨b, o, none⟩ ∧ b < w.heap.size ∧ w.cell? ⟨b, o + j, none⟩ = some u
theorem Sl.nil (w : World) (A : Option Addr) : Sl w A [] := fun j u h => by simp at h
theorem Sl.off {S : List Nat} {w w' : World} {A : Option Addr} {xs : List Value} (h : Sl w A xs) (ho : Off S w w') (hn : ∀ a, A = some a → a.block ∉ S) : Sl w' A xs := by
 intro j u hu
 obtain ⟨b, o, rfl, hb, hc⟩ := h j u hu
 exact ⟨b, o, rfl, Nat.lt_of_lt_of_le hb ho.size, (ho.cell (p := ⟨b, o + j, none⟩) hb (hn ⟨b, o, none⟩ rfl)).trans hc⟩
theorem Sl.below {w w' : World} {A : Option Addr} {xs : List Value} (h : Sl w A xs) (ho : Below w.heap.size w w') : Sl w' A xs := by
 intro j u hu
 obtain ⟨b, o, rfl, hb, hc⟩ := h j u hu
 exact ⟨b, o, rfl, Nat.lt_of_lt_of_le hb ho.size, (ho.cell (p := ⟨b, o + j, none⟩) hb).trans hc⟩
theorem Sl.drewN {w : World} {A : Option Addr} {xs : List Value} (h : Sl w A xs) (n : Nat) : Sl (w.drewN n) A xs := h
theorem Sl.of_own {w : World} {base : Nat} {e : TypeId} {n n' c : Nat} {A : Option Addr} {xs : List Value} (h : w.ownsRow base e 1 (.slice A n' c) n xs) : Sl w A xs := by
 intro j u hu
 have hj : j < xs.length := (List.getElem?_eq_some_iff.1 hu).1
 have hl := h.1
 obtain ⟨g, cap, hv, _, hlt⟩ := h.form (by omega)
 injection hv with hA
 subst hA
 refine ⟨g, 0, rfl, hlt, ?_⟩
 have h1 := h.cells (g := g) rfl j u hu
 have e : (⟨g, 0, none⟩ : Addr).add j = ⟨g, 0 + j, none⟩ := by
   unfold Addr.add
   by_cases h0 : j = 0 <;> simp [h0]
 rw [e] at h1
 exact h1
theorem own_slice {w : World} {base : Nat} {e : TypeId} {n : Nat} {v : Value} {xs : List Value} (h : w.ownsRow base e 1 v n xs) :
   ∃ (A : Option Addr) (c : Nat), v = .slice A n c ∧ n ≤ c ∧ c ≤ maxLen ∧ n = xs.length ∧ Sl w A xs ∧ ∀ a, A = some a → base ≤ a.block ∧ v.ownBlock = some a.block := by
 have h0 := h
 obtain ⟨h1, h2⟩ := h
 rcases h2 with ⟨rfl, rfl⟩ | ⟨g, cap, cur, rfl, hb, hh, hc, hm, r⟩
 · exact ⟨none, 0, rfl, Nat.le_refl _, Nat.zero_le _, by omega, Sl.of_own h0, fun a ha => by cases ha⟩
 · exact ⟨some ⟨g, 0, none⟩, cap, rfl, hc, hm, by omega, Sl.of_own h0, fun a ha => by cases ha; exact ⟨hb, rfl⟩⟩
section
variable {P : Program} (w : World)
theorem run_append_nil (base : Nat) (t ty e : TypeId) (i : TypeInfo) (size : Nat) (ht : P.underlying t = some (.slice e)) (hi : P.info? e = some i)
   (v : Value) (n : Nat) (xs : List Value) (hown : w.ownsRow base e size v n xs) (c : Nat) : (Builtin.append_ #[t, t] ty #[v, .slice none 0 c]).run P w = .ok v w := by
 rcases hown.2 with ⟨rfl, rfl⟩ | ⟨g, cap, cur, rfl, _, _, hnc, _⟩
 · simp [Builtin.append_, run_underlying ht, sizeOf, typeInfo, hi, Builtin.lenOf, Builtin.firstCells]
 · simp [Builtin.append_, run_underlying ht, sizeOf, typeInfo, hi, Builtin.lenOf, Builtin.firstCells, hnc, storeCells]
theorem run_append_sl (base : Nat) (t ty e : TypeId) (i : TypeInfo) (z : Value) (bytes : Nat) (ht : P.underlying t = some (.slice e)) (hi : P.info? e = some i) (hz : i.zero = some z)
   (hsize : i.size = 1) (hby : i.bytes = bytes) (hzs : z.cells.size = 1)
   (v : Value) (n : Nat) (xs : List Value) (hown : w.ownsRow base e 1 v n xs)
   (A : Option Addr) (m c : Nat) (news : List Value) (hm : news.length = m) (hr : Sl w A news) (h1 : ∀ u ∈ news, u.oneCell' = true)
   (h63 : n + m ≤ maxLen) (hbytes : (n + m) * bytes ≤ 140737488355328) (hbase : base ≤ w.heap.size) :
   ∃ v' w', (Builtin.append_ #[t, t] ty #[v, .slice A m c]).run P w = .ok v' w' ∧ w'.ownsRow base e 1 v' (n + m) (xs ++ news) ∧ w.grownBy w' v.ownBlock ∧
     (v'.ownBlock = v.ownBlock ∨ v'.ownBlock = some w.heap.size) := by
 rcases A with _ | ad
 · have hn : news = [] := by
     cases news with
     | nil => rfl
     | cons u r => obtain ⟨b, o, h, _⟩ := hr 0 u rfl; cases h
   subst hn
   obtain rfl : m = 0 := by simpa using hm.symm
   exact ⟨v, w, run_append_nil w base t ty e i 1 ht hi v n xs hown c, by simpa using hown, World.grownBy.refl w _, .inl rfl⟩
 · have hcells : ∀ j u, news[j]? = some u → w.cell? (ad.add j) = some u := by
     intro j u hu
     obtain ⟨b, o, h, _, hc⟩ := hr j u hu
     injection h with h
     subst h
     have e2 : (⟨b, o, none⟩ : Addr).add j = ⟨b, o + j, none⟩ := by
       unfold Addr.add
       by_cases h0 : j = 0 <;> simp [h0]
     rw [e2]
     exact hc
   obtain ⟨v', w', hrun, h2, h3, _, h5⟩ := run_append_own_at (P := P) w base t ty e i z 1 bytes ht hi hz hsize hby hzs (by decide) v n xs hown ad m c news (by omega) hcells h1 h63 hbytes hbase
   exact ⟨v', w', hrun, h2, h3, h5⟩
theorem wpList_append_sl {ops : Array Oper} {rest : List Oper} {o : Oper} {a : Act} {Q : Exit → Act → World → Prop} (hgd : o.guard = none) (s x : Operand) (t : TypeId)
   (ho : o.op = .call { callee := .builtin .append, args := #[s, x], argTypes := #[t, t] })
   (base : Nat) (e : TypeId) (i : TypeInfo) (z : Value) (bytes : Nat) (ht : P.underlying t = some (.slice e)) (hi : P.info? e = some i) (hz : i.zero = some z)
   (hsize : i.size = 1) (hby : i.bytes = bytes) (hzs : z.cells.size = 1)
   (v : Value) (n : Nat) (xs : List Value) (hs : a.eval s = v) (hown : w.ownsRow base e 1 v n xs)
   (A : Option Addr) (m c : Nat) (news : List Value) (hm : news.length = m) (hx : a.eval x = .slice A m c) (hr : Sl w A news) (h1 : ∀ u ∈ news, u.oneCell' = true)
   (h63 : n + m ≤ maxLen) (hbytes : (n + m) * bytes ≤ 140737488355328) (hbase : base ≤ w.heap.size)
   (h : ∀ v' w', w'.ownsRow base e 1 v' (n + m) (xs ++ news) → w.grownBy w' v.ownBlock → (v'.ownBlock = v.ownBlock ∨ v'.ownBlock = some w.heap.size) → wpList P ops Q rest (a.put o.dst v') w') : wpList P ops Q (o :: rest) a w := by
 refine wpList_plain hgd fun K hK => ?_
 obtain ⟨v', w', hrun, h2, h3, h4⟩ := run_append_sl (P := P) w base t o.type e i z bytes ht hi hz hsize hby hzs v n xs hown A m c news hm hr h1 h63 hbytes hbase
 unfold Oper.wp execOp
 simp only [ho, resolve, invoke, builtin, Sem.run_bind, Sem.run_pure, Result.andThen_ok, List.map_toArray, List.map_cons, List.map_nil, hs, hx, hrun]
 exact hK _ _ (h v' w' h2 h3 h4)
end
def OwnM (w : World) (base : Nat) (e : TypeId) (v : Value) (n : Nat) (xs : List Value) : Prop :=
 xs.length = n ∧ ((v = .slice none 0 0 ∧ n = 0) ∨
  ∃ g cap cur fz, v = .slice (some ⟨g, 0, none⟩) n cap ∧ base ≤ g ∧ w.heap[g]? = some (.cells cur e fz) ∧ (fz.2 = 0 ∨ cur.size ≤ fz.1) ∧ n ≤ cap ∧ cap ≤ maxLen ∧ cur.size = cap ∧ cur.toList.take n = xs)
section
variable {w : World} {base : Nat} {e : TypeId} {v : Value} {n : Nat} {xs : List Value}
theorem OwnM.of_own (h : w.ownsRow base e 1 v n xs) : OwnM w base e v n xs := by
 obtain ⟨h1, h2⟩ := h
 refine ⟨by omega, ?_⟩
 rcases h2 with h2 | ⟨g, cap, cur, hv, hb, hg, hc, hm, hs, ht⟩
 · exact .inl h2
 · exact .inr ⟨g, cap, cur, (0, 0), hv, hb, hg, .inl rfl, hc, hm, by omega, by rw [Nat.mul_one] at ht; exact ht⟩
theorem OwnM.lt (h : OwnM w base e v n xs) : ∀ k, v.ownBlock = some k → base ≤ k ∧ k < w.heap.size := by
 intro k hk
 rcases h.2 with ⟨rfl, _⟩ | ⟨g, cap, cur, fz, rfl, hb, hg, _⟩
 · simp [Value.ownBlock] at hk
 · simp [Value.ownBlock] at hk
   subst hk
   exact ⟨hb, (Array.getElem?_eq_some_iff.1 hg).1⟩
theorem OwnM.keep {w' : World} (h : OwnM w base e v n xs) (hk : ∀ k, v.ownBlock = some k → w'.heap[k]? = w.heap[k]?) : OwnM w' base e v n xs := by
 refine ⟨h.1, ?_⟩
 rcases h.2 with hn | ⟨g, cap, cur, fz, rfl, hb, hgg, rest⟩
 · exact .inl hn
 · exact .inr ⟨g, cap, cur, fz, rfl, hb, (hk g rfl).trans hgg, rest⟩
theorem OwnM.below {w' : World} (h : OwnM w base e v n xs) (hb : Below w.heap.size w w') : OwnM w' base e v n xs :=
 h.keep fun k hk => hb.block k (h.lt k hk).2
theorem OwnM.mono {base' : Nat} (h : OwnM w base e v n xs) (hb : base' ≤ base) : OwnM w base' e v n xs := by
 obtain ⟨h1, h2⟩ := h
 refine ⟨h1, ?_⟩
 rcases h2 with h2 | ⟨g, cap, cur, fz, rfl, hg, r⟩
 · exact .inl h2
 · exact .inr ⟨g, cap, cur, fz, rfl, by omega, r⟩
theorem OwnM.slice (h : OwnM w base e v n xs) : ∃ (A : Option Addr) (c : Nat), v = .slice A n c ∧ n ≤ c ∧ c ≤ maxLen ∧ n = xs.length ∧ Sl w A xs ∧ ∀ a, A = some a → base ≤ a.block ∧ v.ownBlock = some a.block := by
 obtain ⟨h1, h2⟩ := h
 rcases h2 with ⟨rfl, rfl⟩ | ⟨g, cap, cur, fz, rfl, hb, hh, hf, hc, hm, hs, ht⟩
 · obtain rfl : xs = [] := List.eq_nil_of_length_eq_zero h1
   exact ⟨none, 0, rfl, Nat.le_refl _, Nat.zero_le _, rfl, Sl.nil _ _, fun a ha => by cases ha⟩
 · refine ⟨some ⟨g, 0, none⟩, cap, rfl, hc, hm, h1.symm, ?_, fun a ha => by cases ha; exact ⟨hb, rfl⟩⟩
   intro j u hu
   refine ⟨g, 0, rfl, lt_of_block hh, ?_⟩
   rw [Nat.zero_add, cell_of_row w g j cur e fz hh]
   have hj : j < xs.length := (List.getElem?_eq_some_iff.1 hu).1
   rw [← ht, List.getElem?_take_of_lt (by omega)] at hu
   rw [← Array.getElem?_toList]
   exact hu
end
section
variable {P : Program} (w : World)
theorem OwnM.bytes (e : TypeId) (s : ByteArray) (hs : s.size ≤ maxLen) (fz : Nat) (hfz : (bytesRow s (grownCap w s.size 0 e)).size ≤ fz) :
   OwnM (w.drew.alloc (.cells (bytesRow s (grownCap w s.size 0 e)) e (fz, fz + 1))) w.heap.size e (.slice (some ⟨w.heap.size, 0, none⟩) s.size (grownCap w s.size 0 e)) s.size (s.data.toList.map fun c => .int .u8 c.toNat) := by
 have hge := grownCap_ge w s.size 0 e
 have hcm : grownCap w s.size 0 e ≤ maxLen := grownCap_le_maxLen w s.size 0 e hs
 refine ⟨by rw [List.length_map]; rfl, .inr ⟨w.heap.size, _, _, _, rfl, Nat.le_refl _, heap_alloc_new w.drew _, .inr hfz, hge, hcm, ?_, ?_⟩⟩
 · simp [bytesRow]
   have : s.size = s.data.size := rfl
   omega
 · simp [bytesRow]
end
end Go.Proofs.YtjbcbnemdhbhbaaGreatDoor
namespace Go.Proofs.YtjbcbnemdhbhbaaGreatDoor
open Go.RowKit
open Go.PlainAid
theorem nat_or_256 (n c : Nat) (hc : c < 256) : n * 256 ||| c = n * 256 + c := by
 have h := Nat.two_pow_add_eq_or_of_lt (i := 8) (b := c) (by simpa using hc) n
 have e : (2 : Nat) ^ 8 * n = n * 256 := by omega
 rw [e] at h
 exact h.symm
set_option maxRecDepth 100000
def Holds (w : World) (e : Ending) (w' : World) : Prop := e = .returned (.bool true) ∧ Below w.heap.size w w'
def TellsQ (q : Bool) (w : World) (e : Ending) (w' : World) : Prop := e = .returned (.bool q) ∧ Below w.heap.size w w'
def TellsS (s : ByteArray) (w : World) (e : Ending) (w' : World) : Prop := e = .returned (.string s) ∧ Below w.heap.size w w'
theorem tellsQ_of {q q' : Bool} {w w' : World} (h : q = q') (hb : Below w.heap.size w w') : TellsQ q w (.returned (.bool q')) w' := by subst h; exact ⟨rfl, hb⟩
theorem tellsS_of {q q' : ByteArray} {w w' : World} (h : q = q') (hb : Below w.heap.size w w') : TellsS q w (.returned (.string q')) w' := by subst h; exact ⟨rfl, hb⟩
theorem bk_below {w w' : World} {g : Nat} {t : TypeId} {cs : Array Value} (h : Bk w g t cs) (hb : Below w.heap.size w w') : Bk w' g t cs := (hb.block g h.lt).trans h
theorem bcell {W w1 : World} (hb : Below W.heap.size W w1) : (∀ b o, b < W.heap.size → w1.cell? ⟨b, o, none⟩ = W.cell? ⟨b, o, none⟩) ∧ (∀ b o, b < W.heap.size → w1.frozen? ⟨b, o, none⟩ = W.frozen? ⟨b, o, none⟩) :=
 ⟨fun b o h => hb.cell (p := ⟨b, o, none⟩) h, fun b o h => hb.frozen (p := ⟨b, o, none⟩) h⟩
theorem Bk.four {w : World} {g : Nat} {t : TypeId} {c0 c1 c2 c3 : Value} (h : Bk w g t #[c0, c1, c2, c3]) :
   w.cell? ⟨g, 0, none⟩ = some c0 ∧ w.cell? ⟨g, 1, none⟩ = some c1 ∧ w.cell? ⟨g, 2, none⟩ = some c2 ∧ w.cell? ⟨g, 3, none⟩ = some c3 :=
 ⟨by simpa using h.cell 0, by simpa using h.cell 1, by simpa using h.cell 2, by simpa using h.cell 3⟩
theorem Bk.five {w : World} {g : Nat} {t : TypeId} {c0 c1 c2 c3 c4 : Value} (h : Bk w g t #[c0, c1, c2, c3, c4]) :
   w.cell? ⟨g, 0, none⟩ = some c0 ∧ w.cell? ⟨g, 1, none⟩ = some c1 ∧ w.cell? ⟨g, 2, none⟩ = some c2 ∧ w.cell? ⟨g, 3, none⟩ = some c3 ∧ w.cell? ⟨g, 4, none⟩ = some c4 :=
 ⟨by simpa using h.cell 0, by simpa using h.cell 1, by simpa using h.cell 2, by simpa using h.cell 3, by simpa using h.cell 4⟩
theorem str_of_list {r : ByteArray} {l : List UInt8} (h : r.data.toList = l) : r = ⟨l.toArray⟩ := by subst h; rfl
theorem str_eq {a b : ByteArray} (h : a.data.toList = b.data.toList) : a = b := by rw [str_of_list h]
theorem size_list (l : List UInt8) : (⟨l.toArray⟩ : ByteArray).size = l.length := by simp [ByteArray.size]
theorem len_size (s : ByteArray) : s.data.toList.length = s.size := rfl
theorem extract_list (s : ByteArray) (a b : Nat) : (s.extract a b).data.toList = (s.data.toList.drop a).take (b - a) := by
 rw [ByteArray.data_extract, Array.toList_extract, List.extract_eq_take_drop]
theorem append_list (a b : ByteArray) : (a ++ b).data.toList = a.data.toList ++ b.data.toList := by
 rw [ByteArray.data_append, Array.toList_append]
def u8s (l : List UInt8) : List Value := l.map fun c => .int .u8 c.toNat
theorem u8s_app (a b : List UInt8) : u8s (a ++ b) = u8s a ++ u8s b := by simp [u8s]
theorem add_zero_addr (g j : Nat) : (⟨g, 0, none⟩ : Addr).add j = ⟨g, j, none⟩ := by
 unfold Addr.add
 by_cases h0 : j = 0 <;> simp [h0]
theorem info_u8 : (Tryz.prog.info? 5).map (fun i => (i.zero, i.size, i.bytes)) = some (some (.int .u8 0), 1, 1) := by kernel_rfl
theorem conv_cells {W : World} {g o n cap : Nat} {L : List UInt8} (hn : n = L.length) (h : ∀ j (hj : j < L.length), W.cell? ⟨g, o + j, none⟩ = some (.int .u8 (L[j].toNat : Int))) :
   (convert 36 9 (.slice (some ⟨g, o, none⟩) n cap)).run Tryz.prog W = .ok (.string ⟨L.toArray⟩) W := by
 have h1 := run_convert_bytes_arg W 36 5 Tryz.underlying36 Tryz.underlying5 g o n cap (L.map fun c => (c.toNat : Int)) (by simp [hn]) (fun i hi => by
   rw [h i (by omega)]
   rw [List.getD_eq_getElem?_getD, List.getElem?_map, List.getElem?_eq_getElem (by omega)]
   rfl) 9 Tryz.underlying9
 rw [h1]
 have e : strOfNums (L.map fun c => (c.toNat : Int)) = ⟨L.toArray⟩ := by
   apply str_of_list
   rw [strOfNums_data, List.map_map]
   have : (fun n : Int => UInt8.ofNat n.toNat) ∘ (fun c : UInt8 => (c.toNat : Int)) = id := by
     funext c
     simp
   rw [this, List.map_id]
 rw [e]
theorem conv_own {W : World} {B g n cap : Nat} {L : List UInt8} (h : W.ownsRow B 5 1 (.slice (some ⟨g, 0, none⟩) n cap) L.length (u8s L)) :
   (convert 36 9 (.slice (some ⟨g, 0, none⟩) n cap)).run Tryz.prog W = .ok (.string ⟨L.toArray⟩) W := by
 have hn : n = L.length := by
   rcases h.2 with ⟨h0, _⟩ | ⟨g', cap', cur, h0, _⟩
   · cases h0
   · injection h0
 refine conv_cells hn fun j hj => ?_
 have h1 := h.cells (g := g) rfl j (.int .u8 (L[j].toNat : Int)) (by
   unfold u8s
   rw [List.getElem?_map, List.getElem?_eq_getElem hj]
   rfl)
 rw [add_zero_addr] at h1
 rw [Nat.zero_add]
 exact h1
theorem conv_row (W : World) (b0 : Nat) (A : Option Addr) (c : Nat) (l : List UInt8) (h : W.ownsRow b0 5 1 (.slice A l.length c) l.length (u8s l)) (h0 : 0 < l.length) :
   (convert 36 9 (.slice A l.length c)).run Tryz.prog W = .ok (.string ⟨l.toArray⟩) W := by
 obtain ⟨g, cap, hv, _, hlt⟩ := h.form (by simpa [u8s] using h0)
 simp only [Value.slice.injEq] at hv
 obtain ⟨hA, _, hc⟩ := hv
 subst hA
 subst hc
 exact conv_own h
set_option maxRecDepth 100000 in
theorem conv_bytes (b : ByteArray) (hb : b.size ≤ maxLen) (W : World) : ∃ (A : Option Addr) (cap : Nat) (W1 : World), (convert 9 36 (.string b)).run Tryz.prog W = .ok (.slice A b.size cap) W1 ∧ OwnM W1 W.heap.size 5 (.slice A b.size cap) b.size (u8s b.data.toList) ∧ Below W.heap.size W W1 := by
 refine ⟨_, _, _, run_bytes_of_string (P := Tryz.prog) W 9 36 5 b Tryz.underlying9 Tryz.underlying36 Tryz.underlying5, OwnM.bytes W 5 b hb _ (Nat.le_refl _), ?_⟩
 exact ((Below.refl _ _).drew).alloc (Nat.le_refl _) _
end Go.Proofs.YtjbcbnemdhbhbaaGreatDoor
namespace Go.Proofs.YtjbcbnemdhbhbaaGreatDoor
namespace Be
def low (n : Nat) : Nat → List UInt8
 | 0 => []
 | k + 1 => UInt8.ofNat (n / 256 ^ k % 256) :: low n k
def num (l : List UInt8) : Nat := l.foldl (fun n c => n * 256 + c.toNat) 0
theorem low_len (n k : Nat) : (low n k).length = k := by
 induction k with
 | zero => rfl
 | succ k ih => simp [low, ih]
theorem fold_app (l : List UInt8) : ∀ a, l.foldl (fun n c => n * 256 + c.toNat) a = a * 256 ^ l.length + num l := by
 induction l with
 | nil => intro a; simp [num]
 | cons c l ih =>
   intro a
   unfold num
   simp only [List.foldl_cons, List.length_cons]
   rw [ih, ih (0 * 256 + c.toNat), Nat.pow_succ]
   simp [Nat.add_mul, Nat.mul_assoc, Nat.mul_comm 256, Nat.add_assoc]
theorem num_cons (c : UInt8) (l : List UInt8) : num (c :: l) = c.toNat * 256 ^ l.length + num l := by
 have := fold_app l (0 * 256 + c.toNat)
 simpa [num] using this
theorem num_snoc (c : UInt8) (l : List UInt8) : num (l ++ [c]) = num l * 256 + c.toNat := by unfold num; rw [List.foldl_append]; rfl
theorem num_lt (l : List UInt8) : num l < 256 ^ l.length := by
 induction l with
 | nil => simp [num]
 | cons c l ih =>
   rw [num_cons, List.length_cons, Nat.pow_succ]
   have hc := c.toNat_lt
   have : c.toNat * 256 ^ l.length ≤ 255 * 256 ^ l.length := Nat.mul_le_mul_right _ (by omega)
   omega
theorem num_low (n k : Nat) : num (low n k) = n % 256 ^ k := by
 induction k with
 | zero => simp [low, num, Nat.mod_one]
 | succ k ih =>
   unfold low
   rw [num_cons, low_len, ih]
   have e : (UInt8.ofNat (n / 256 ^ k % 256)).toNat = n / 256 ^ k % 256 := by rw [UInt8.toNat_ofNat']; omega
   rw [e, Nat.pow_succ, Nat.mod_mul]
   rw [Nat.mul_comm, Nat.add_comm]
theorem num_low_fit (n k : Nat) (h : n < 256 ^ k) : num (low n k) = n := by rw [num_low, Nat.mod_eq_of_lt h]
theorem div_step (n j : Nat) : n / 256 ^ j / 256 = n / 256 ^ (j + 1) := by rw [Nat.div_div_eq_div_mul, Nat.pow_succ]
end Be
end Go.Proofs.YtjbcbnemdhbhbaaGreatDoor
namespace Go.Proofs.YtjbcbnemdhbhbaaGreatDoor
open Go.RowKit
open Go.PlainAid
set_option maxRecDepth 100000
def TellsSE (s : ByteArray) (n : Int) (w : World) (e : Ending) (w' : World) : Prop := e = .returned (.tuple #[.string s, .int .i64 n]) ∧ Below w.heap.size w w'
theorem tellsSE_of {q q' : ByteArray} {n : Int} {w w' : World} (h : q = q') (hb : Below w.heap.size w w') : TellsSE q n w (.returned (.tuple #[.string q', .int .i64 n])) w' := by subst h; exact ⟨rfl, hb⟩
def putCells (n k i : Nat) : Array Value := (List.replicate i (Value.int .u8 0) ++ u8s (Be.low n (k - i))).toArray
theorem putCells_step (n k m : Nat) (h : m < k) : (putCells n k (m + 1)).setIfInBounds m (.int .u8 ((n / 256 ^ (k - (m + 1)) : Nat) % 256 : Int)) = putCells n k m := by
 unfold putCells
 have e : k - m = (k - (m + 1)) + 1 := by omega
 rw [e]
 show _ = (List.replicate m (Value.int .u8 0) ++ (Value.int .u8 ((UInt8.ofNat (n / 256 ^ (k - (m + 1)) % 256)).toNat) :: u8s (Be.low n (k - (m + 1))))).toArray
 rw [List.replicate_succ', List.append_assoc, List.setIfInBounds_toArray, List.set_append_right _ _ (by simp)]
 simp
theorem pow256 (k : Nat) (h : k ≤ 8) : 256 ^ k ≤ 18446744073709551616 := Nat.le_trans (Nat.pow_le_pow_right (by decide) h) (by decide)
theorem made_u8 (k n : Nat) : madeCells #[Value.int .u8 0] k = putCells n k k := by
 unfold putCells
 rw [Nat.sub_self]
 apply Array.ext
 · simp [madeCells, u8s, Be.low]
 · intro i h1 h2
   simp [madeCells, u8s, Be.low]
   rw [Nat.mod_one]
   rfl
def PutAt (w : World) (n k i : Nat) (wr : World) : Prop := i ≤ k ∧ Bk wr w.heap.size 5 (putCells n k i) ∧ Below w.heap.size w wr
theorem putCells_at (n k m : Nat) : (putCells n k (m + 1))[m]? = some (.int .u8 0) := by
 unfold putCells
 rw [List.getElem?_toArray, List.getElem?_append_left (by simp), List.getElem?_replicate, if_pos (by omega)]
theorem putCells_end (n k : Nat) (w : World) (W : World) (h : Bk W w.heap.size 5 (putCells n k 0)) :
   (convert 36 9 (.slice (some ⟨w.heap.size, 0, none⟩) k k)).run Tryz.prog W = .ok (.string ⟨(Be.low n k).toArray⟩) W := by
 refine conv_cells (by rw [Be.low_len]) fun j hj => ?_
 rw [Nat.zero_add, h.cell j]
 unfold putCells
 rw [List.getElem?_toArray, List.replicate_zero, List.nil_append, Nat.sub_zero]
 unfold u8s
 rw [List.getElem?_map, List.getElem?_eq_getElem hj]
 rfl
set_option maxRecDepth 100000 in
set_option maxHeartbeats 1000000 in
theorem put_ok (s : ByteArray) (n k : Nat) (w : World) (hs : s.size ≤ 1000000) (h1 : 1 ≤ k) (h8 : k ≤ 8) (hn : n < 256 ^ k) :
   Calls Tryz.prog 160 #[.string s, .int .u64 n, .int .i64 k] w (TellsSE (s ++ ⟨(Be.low n k).toArray⟩) 0 w) := by
 have hn64 : n < 18446744073709551616 := Nat.lt_of_lt_of_le hn (pow256 k h8)
 have hmk := run_make_row' (P := Tryz.prog) 36 5 (.int .u8 0) 1 Tryz.underlying36 info_u8 rfl .i64 .i64 k (by omega) (by omega) w
 rw [made_u8 k n] at hmk
 have HS := Lib.hid (show PutAt w n k k (w.alloc (.cells (putCells n k k) 5)) from ⟨Nat.le_refl _, Bk.new _ _ _, (Below.refl _ _).alloc (Nat.le_refl _) _⟩)
 have q1 : decide ((k : Int) < 1) = false := by simp; omega
 have q2 : decide (8 < (k : Int)) = false := by simp; omega
 have hq : (k < 8 ∧ decide ((k : Int) < 8) = true ∧ (n : Int) / 2 ^ (8 * k) = 0) ∨ (¬ k < 8 ∧ decide ((k : Int) < 8) = false) := by
   by_cases hk8 : k < 8
   · refine Or.inl ⟨hk8, by simp; omega, ?_⟩
     have e : (2 : Nat) ^ (8 * k) = 256 ^ k := by rw [Nat.pow_mul]
     have := Nat.div_eq_of_lt (show n < 2 ^ (8 * k) by rw [e]; exact hn)
     exact_mod_cast this
   · exact Or.inr ⟨hk8, by simp; omega⟩
 have HN64 := Lib.hid hn64
 clear hn hn64
 rcases hq with ⟨hk8, q3, e3⟩ | ⟨hk8, q3⟩
 all_goals
   go_enter Tryz.func160, Tryz.ntmps160
   go_wp2_with fail
   go_loopw [1, 9] (fun x i wr => ∃ (j : Nat), i = .int .i64 ((j : Int) - 1) ∧ x = .int .u64 ((n / 256 ^ (k - j) : Nat)) ∧ PutAt w n k j wr) (fun _ i _ => (intOf i + 1).toNat)
   case atStart => exact ⟨k, rfl, by rw [Nat.sub_self]; simp, HS.out⟩
   case round =>
     clear HS hmk
     obtain ⟨j, rfl, rfl, hj, hb, hbl⟩ := hrel
     cases j with
     | zero =>
       have hcv := putCells_end n k w wr hb
       have e : (((0 : Nat) : Int) - 1) = -1 := by omega
       rw [e]
       have hsz : (⟨(Be.low n k).toArray⟩ : ByteArray).size ≤ 8 := by rw [size_list, Be.low_len]; exact h8
       generalize (⟨(Be.low n k).toArray⟩ : ByteArray) = ls at *
       clear e hb
       go_wp2_with fail
       go_ret2
       exact tellsSE_of rfl hbl
     | succ m =>
       have e : (((m + 1 : Nat) : Int) - 1) = m := by omega
       rw [e]
       have hc := hb.cell m
       rw [putCells_at n k m] at hc
       have hf := hb.frozen m
       have HB := Lib.hid (hb.put m (.int .u8 ((n / 256 ^ (k - (m + 1)) : Nat) % 256 : Int)))
       have HST := Lib.hid (putCells_step n k m (by omega))
       have HL := Lib.hid hbl
       have HD := Lib.hid (show n / 256 ^ (k - (m + 1)) / 256 = n / 256 ^ (k - m) by rw [Be.div_step]; congr 2; omega)
       clear e hb hbl
       generalize n / 256 ^ (k - (m + 1)) = x at *
       go_wp2_with fail
       go_roundw
       case rel => exact ⟨m, by go_num, by rw [← HD.out]; go_num, by omega, by rw [← HST.out]; exact HB.out, HL.out.setCell (Nat.le_refl _) _⟩
       case measure => simp [intOf]
def numAt (s : ByteArray) (p k : Nat) : Nat := Be.num ((s.data.toList.drop p).take k)
def TellsUE (n : Nat) (w : World) (e : Ending) (w' : World) : Prop := e = .returned (.tuple #[.int .u64 n, .int .i64 0]) ∧ Below w.heap.size w w'
theorem tellsUE_of {n : Nat} {z : Int} {w w' : World} (h : (n : Int) = z) (hb : Below w.heap.size w w') : TellsUE n w (.returned (.tuple #[.int .u64 z, .int .i64 0])) w' := by subst h; exact ⟨rfl, hb⟩
theorem or_step (n c : Nat) (hn : n < 72057594037927936) (hc : c < 256) : bits .or .u64 ((n : Int) * 256) (c : Int) = ((n * 256 + c : Nat) : Int) := by
 have h := u64_or_nat (n * 256) c (by omega) (by omega)
 rw [nat_or_256 n c hc] at h
 rw [← h]
 congr 1
theorem num_take_lt (l : List UInt8) (j : Nat) (hj : j ≤ 7) : Be.num (l.take j) < 72057594037927936 := by
 have h := Be.num_lt (l.take j)
 have h2 : 256 ^ (l.take j).length ≤ 256 ^ 7 := Nat.pow_le_pow_right (by decide) (by rw [List.length_take]; omega)
 have h3 : 256 ^ 7 = 72057594037927936 := by decide
 omega
theorem num_take_snoc (l : List UInt8) (j : Nat) (h : j < l.length) : Be.num (l.take (j + 1)) = Be.num (l.take j) * 256 + l[j].toNat := by
 rw [List.take_succ_eq_append_getElem h, Be.num_snoc]
set_option maxHeartbeats 1000000 in
theorem take_ok (s : ByteArray) (p k : Nat) (w : World) (hs : s.size ≤ 1000000) (h1 : 1 ≤ k) (h8 : k ≤ 8) (hp : p + k ≤ s.size) :
   Calls Tryz.prog 120 #[.string s, .int .i64 p, .int .i64 k] w (TellsUE (numAt s p k) w) := by
 have q1 : decide ((k : Int) < 1) = false := by simp; omega
 have q2 : decide (8 < (k : Int)) = false := by simp; omega
 have q3 : decide ((p : Int) < 0) = false := by simp
 have q4 : p ≤ s.size := by omega
 have q5 : decide ((s.size : Int) - p < k) = false := by simp; omega
 have q6 : decide (s.size < p) = false := by simp; omega
 have hl : (s.extract p (p + k)).data.toList = (s.data.toList.drop p).take k := by rw [extract_list]; congr 1; omega
 have hsz : (s.extract p (p + k)).size = k := by rw [ByteArray.size_extract]; omega
 have HE := Lib.hid (show numAt s p k = Be.num (s.extract p (p + k)).data.toList by unfold numAt; rw [hl])
 obtain ⟨A, cap, W1, hcv, hown, hb1⟩ := conv_bytes (s.extract p (p + k)) (by rw [hsz]; unfold maxLen; omega) w
 rw [hsz] at hcv hown
 obtain ⟨A2, c2, hA2, -, -, -, hsl, -⟩ := hown.slice
 simp only [Value.slice.injEq, true_and] at hA2
 obtain ⟨rfl, rfl⟩ := hA2
 have hlen : (s.extract p (p + k)).data.toList.length = k := by rw [len_size, hsz]
 have HB := Lib.hid hb1
 have HS := Lib.hid hsl
 have HLEN := Lib.hid hlen
 generalize (s.extract p (p + k)).data.toList = l at *
 clear hl hsz hown hb1 hsl hlen
 go_enter Tryz.func120, Tryz.ntmps120
 go_wp2_with fail
 clear hcv
 go_loop [8, 43] (fun x i => ∃ (j : Nat), i = .int .i64 j ∧ x = .int .u64 (Be.num (l.take j) : Nat) ∧ j ≤ k) (fun _ i => k - (intOf i).toNat)
 case atStart => exact ⟨0, rfl, by simp [Be.num], Nat.zero_le _⟩
 case round =>
   obtain ⟨j, rfl, rfl, hj⟩ := hrel
   by_cases hlt : j < k
   · have hjl : j < l.length := by rw [HLEN.out]; exact hlt
     obtain ⟨b, o, rfl, hbl, hc⟩ := HS.out j (.int .u8 (l[j].toNat : Nat)) (by unfold u8s; rw [List.getElem?_map, List.getElem?_eq_getElem hjl]; rfl)
     have HN := Lib.hid (num_take_snoc l j hjl)
     have hx := num_take_lt l j (by omega)
     have e1 := or_step _ _ hx (show l[j].toNat < 256 by have := l[j].toNat_lt; omega)
     have hcl := l[j].toNat_lt
     generalize Be.num (l.take j) = x at *
     generalize l[j].toNat = c at *
     go_wp2_with fail
     go_round
     case rel => exact ⟨j + 1, by go_num, by rw [HN.out]; go_num, by omega⟩
     case measure => simp [intOf]; omega
   · obtain rfl : j = k := by omega
     have HT := Lib.hid (show l.take j = l from List.take_of_length_le (by rw [HLEN.out]; exact Nat.le_refl _))
     go_wp2_with fail
     go_ret2
     exact tellsUE_of (by rw [HE.out, HT.out]) HB.out
end Go.Proofs.YtjbcbnemdhbhbaaGreatDoor
namespace Go.Proofs.YtjbcbnemdhbhbaaGreatDoor
open Go.ChangeShapes Go.WideShapes Go.ChangeAt Go.RowKit
end Go.Proofs.YtjbcbnemdhbhbaaGreatDoor
